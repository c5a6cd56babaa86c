/- slipwayref01.Book: mark, Owned. -/
import Derived.Test.YtlhfphidanjafaaBookLaw
set_option linter.unusedVariables false
set_option linter.unusedSimpArgs false
namespace Go.Proofs.Ytlhfphidanjafaa
open Go.RowKit

set_option maxHeartbeats 1000000 in
theorem mark_any (i n : Nat) (w : World) (hi : i ≤ 5000000000000) (hn : n ≤ 150000000000000) :
    Calls Try.prog 21 #[.int .i64 (i : Int), .int .i64 (n : Int)] w fun e w' => e = .returned (.int .u8 ((MB i n).toNat : Int)) ∧ w = w' := by
  go_enter Try.func21, Try.ntmps21
  go_wp2
  go_ret
  refine ⟨?_, rfl⟩
  simp [MB]
theorem mark_at (i n : Nat) (y : Int) (w : World) (hy : y = n) (hi : i ≤ 5000000000000) (hn : n ≤ 150000000000000) :
    Calls Try.prog 21 #[.int .i64 (i : Int), .int .i64 y] w fun e w' => e = .returned (.int .u8 ((MB i n).toNat : Int)) ∧ w = w' := by
  subst hy
  exact mark_any i n w hi hn

set_option maxRecDepth 100000 in
set_option maxHeartbeats 4000000 in
theorem Owned_any (base k : Nat) (T : TypeId) (cs : List Value) (o : Nat) (its : List (Value × List UInt8)) (w : World) (hB : BookAt w base k T cs o its) (hP : Pool w base its) (hT : T ≠ 5) (hb : base ≤ w.heap.size)
    (hn : its.length ≤ 5000000000000) (hl : ∀ x ∈ its, x.2.length ≤ 140737488351232) :
    Calls Try.prog 14 #[.pointer (some ⟨k, o, none⟩)] w fun e w' => e = .returned (.bool true) ∧ Fr (Of its) w w' := by
  have HB := Lib.hid hB
  have HP := Lib.hid hP
  have HL := Lib.hid hl
  clear hB hP hl
  go_enter Try.func14, Try.ntmps14
  go_wp2_with fail
  go_loopw [3] (fun i wr => ∃ (j q : Nat), j ≤ its.length ∧ i = .int .i64 (j : Int) ∧ wr = w.drewN q) (fun i _ => (its.length - intOf i).toNat)
  case atStart => exact ⟨0, 0, by omega, rfl, rfl⟩
  case round =>
    obtain ⟨j, q, hj, rfl, rfl⟩ := hrel
    obtain ⟨LA, lc, SA, sc, x1, x2, x3⟩ := HB.out.open_ HP.out.forms
    by_cases hlt : j < its.length
    · obtain ⟨gl, gs, A, c, rfl, rfl, e1, y1, y2, _, _⟩ := x3 j hlt
      have hx := (HP.out.own its[j] (List.getElem_mem hlt)).form
      obtain ⟨A', c', e2, hr, _⟩ := hx
      rw [e1] at e2
      injection e2 with e2 _ e3
      subst e2 e3
      have s1 : ∀ m, (convert 28 9 (.slice A its[j].2.length c)).run Try.prog (w.drewN m) = .ok (.string ⟨its[j].2.toArray⟩) (w.drewN m) := fun m => conv_str _ _ rfl (hr.drewN m)
      clear x3 e1 hr
      have h1 : (j : Int) < its.length := by omega
      go_wp2_with fail
      go_quiet (fail)
      go_wp2
      go_roundw
      case rel => exact ⟨j + 1, _, by omega, by go_num, rfl⟩
      case measure => simp [intOf]; omega
    · have h1 : ¬ (j : Int) < its.length := by omega
      clear x3
      have hW : Fr (Of its) w (w.drewN q) := (Fr.refl _ _).drewN _
      go_wp2_with fail
      clear h1 hlt hj
      go_loopw [4, 5] (fun gv i wr => ∃ (j : Nat) (gs : List Value), j ≤ its.length ∧ i = .int .i64 (j : Int) ∧ gs.length = j ∧ wr.ownsRow w.heap.size 28 1 gv j gs ∧ Fr (Of its) w wr ∧
          DoneTo wr w.heap.size its gs j ∧ LeftFrom wr base its j) (fun _ i _ => (its.length - intOf i).toNat)
      case atStart => exact ⟨0, [], by omega, rfl, rfl, World.ownsRow_nil _ _ _ _, hW, fun i h hi => by omega, fun i h hi => (HP.out.own its[i] (List.getElem_mem h)).drewN _⟩
      case round =>
        obtain ⟨j, gs, hj, rfl, hgl, hrow, hF, hdone, hleft⟩ := hrel
        have HG := Lib.hid hgl
        have HR := Lib.hid hrow
        have HD := Lib.hid hdone
        have HE := Lib.hid hleft
        clear hgl hrow hdone hleft x1 x2
        obtain ⟨LA, lc, SA, sc, x1, x2, x3⟩ := (HB.out.of HP.out hT hF).open_ HP.out.forms
        by_cases hlt : j < its.length
        · obtain ⟨gl, gs', A, c, rfl, rfl, e1, y1, y2, z1, z2⟩ := x3 j hlt
          have hv := HE.out j hlt (Nat.le_refl _)
          rw [e1] at hv
          have HV := Lib.hid hv
          have hlen := HL.out its[j] (List.getElem_mem hlt)
          have hpos : ∀ ad, A = some ad → 0 < its[j].2.length → (∃ g, ad = ⟨g, 0, none⟩) ∧ (Value.slice A its[j].2.length c).ownBlock = some ad.block ∧ ad.block < wr.heap.size := fun ad hA h0 => by
            obtain ⟨g, e, _, h2, _⟩ := Own.head HV.out h0
            rw [hA] at e
            injection e with e
            subst e
            subst hA
            exact ⟨⟨g, rfl⟩, rfl, h2⟩
          have HA := Lib.hid hpos
          have E1 := Lib.hid e1
          have hBw : w.heap.size ≤ wr.heap.size := hF.size
          have hBase : base ≤ wr.heap.size := Nat.le_trans hb hBw
          clear x3 e1 hv hpos
          obtain ⟨n, hNN⟩ : ∃ n, its[j].2.length = n := ⟨_, rfl⟩
          rw [hNN] at E1 HV HA hlen z1 y1
          have HNN := Lib.hid hNN
          clear hNN
          have h1 : (j : Int) < its.length := by omega
          go_wp2_with fail
          obtain ⟨wo, rfl⟩ : ∃ wo : World, wo = wr := ⟨_, rfl⟩
          obtain ⟨l, hl0⟩ : ∃ l, l = its[j].2 := ⟨_, rfl⟩
          rw [← hl0] at HV
          have hnl : l.length = n := (Own.eqn HV.out).symm
          have HN := Lib.hid hnl
          clear hl0 hnl y1 y2 x1 x2
          go_loopw [7] (fun i wi => ∃ q : Nat, q ≤ n ∧ i = .int .i64 (q : Int) ∧ Fr (fun b => (Value.slice A n c).ownBlock = some b) wo wi ∧ Own wi base (.slice A n c) (marks j q ++ l.drop q)) (fun i _ => (n - intOf i).toNat)
          case atStart => exact ⟨0, by omega, rfl, Fr.refl _ _, HV.out⟩
          case round =>
            obtain ⟨q, hq, rfl, hf, ho⟩ := hrel
            by_cases hlq : q < n
            · obtain ⟨⟨g, rfl⟩, hg2, hg3⟩ : (∃ g, A = some ⟨g, 0, none⟩) ∧ True ∧ True := by
                obtain ⟨g, e, _⟩ := Own.head HV.out (by rw [HN.out]; omega)
                exact ⟨⟨g, e⟩, trivial, trivial⟩
              have hsl : q < (marks j q ++ l.drop q).length := by rw [List.length_append, marks_length, List.length_drop, HN.out]; omega
              obtain ⟨k1, k2⟩ := ho.slot q hsl
              have hp := ho.put q (MB j q)
              rw [marks_over j q l (by rw [HN.out]; exact hlq)] at hp
              have HP' := Lib.hid hp
              have HF' := Lib.hid hf
              unfold bv at k1 HP'
              generalize (marks j q ++ l.drop q)[q] = old at k1
              clear hp hf ho hsl hg2 hg3
              have h2 : (q : Int) < n := by omega
              go_wp2_with (go_at_call 21; refine (mark_any j q _ (by omega) (by omega)).mono ?_; rintro e w' ⟨rfl, rfl⟩)
              go_roundw
              case rel => exact ⟨q + 1, by omega, by go_num, HF'.out.set_ (p := ⟨g, q, none⟩) (.inl rfl) _, HP'.out⟩
              case measure => simp [intOf]; omega
            · obtain rfl : q = n := by omega
              have h2 : ¬ (q : Int) < q := by omega
              rw [List.drop_of_length_le (by rw [HN.out]; exact Nat.le_refl _), List.append_nil] at ho
              have HO := Lib.hid ho
              clear ho
              go_wp2_with fail
              obtain ⟨wi, rfl⟩ : ∃ wi : World, wi = wr := ⟨_, rfl⟩
              have HF1 := Lib.hid hf
              clear hf hlq hq h2
              have G0 : Grow wi base wo.heap.size (.slice A q c) A j q 0 (.slice A q c) := ⟨HO.out, HO.out.ra, .inl rfl⟩
              have HG0 := Lib.hid G0
              clear G0
              go_loopw [8, 9, 10] (fun gv i _ wb => ∃ p : Nat, p ≤ 9 ∧ i = .int .i64 (p : Int) ∧ Grow wb base wo.heap.size (.slice A q c) A j q p gv ∧ Fr (fun b => (Value.slice A q c).ownBlock = some b) wo wb) (fun _ i _ _ => (9 - intOf i).toNat)
              case atStart => exact ⟨0, by omega, rfl, HG0.out, HF1.out⟩
              case round =>
                obtain ⟨p, hp, rfl, hg, hf⟩ := hrel
                by_cases hlp : p < 9
                · have h2 : (p : Int) < 9 := by omega
                  have HG1 := Lib.hid hg
                  have HF2 := Lib.hid hf
                  have hbw : base ≤ wr.heap.size := by have := hf.size; have := hBase; omega
                  clear hg hf
                  go_wp2_with (first
                    | (go_at_call 21; refine (mark_at j (q + p) _ _ (by simp) (by omega) (by omega)).mono ?_; rintro e w' ⟨rfl, rfl⟩)
                    | (at_builtin; refine app1x base rfl _ _ rfl u8 (marks j (q + p)) _ (MB j (q + p)) rfl rfl rfl HG1.out.own hbw (by rw [marks_length]; omega) ?_; intro v1 w1 ho1 hc1))
                  have hn1 := HG1.out.next HF2.out (fun b h => h) (Nat.le_refl _) HA.out ho1 hc1 HF2.out.size
                  have HN1 := Lib.hid hn1
                  clear hn1 ho1 hc1
                  go_wp2
                  go_roundw
                  case rel => exact ⟨p + 1, by omega, by go_num, HN1.out.1, HN1.out.2⟩
                  case measure => simp [intOf]; omega
                · obtain rfl : p = 9 := by omega
                  have hdn := hg.done (B0 := w.heap.size) hBw (fun ad hA h0 => (HA.out ad hA h0).2.1)
                  obtain ⟨A8, c8, e8, _⟩ := hg.own.form
                  rw [marks_length] at e8
                  subst e8
                  have hrow' : wr.ownsRow w.heap.size 28 1 u4 j gs := owns_fr HR.out hf fun g hg he => by
                    have h3 := (owns_lt HR.out hg).1
                    have h4 := (HP.out.lt (List.getElem_mem hlt) (g := g) (by rw [E1.out]; exact he)).2
                    omega
                  have HD1 := Lib.hid hdn
                  have HF2 := Lib.hid hf
                  have HR' := Lib.hid hrow'
                  have hsz : w.heap.size ≤ wr.heap.size := Nat.le_trans hBw hf.size
                  clear hdn hg hf hrow'
                  have K1 : Hid (w.heap.size ≤ (wr.alloc (.cells #[.slice A8 (q + 9) c8] 28)).heap.size) := Lib.hid (by simp; omega)
                  have K2 : Hid (j + 1 ≤ 9223372036854775807) := Lib.hid (by omega)
                  have K3 : Hid ((j + 1) * 24 ≤ 140737488355328) := Lib.hid (by omega)
                  go_wp2_with (at_builtin; (refine appE (W := wr.alloc (.cells #[.slice A8 (q + 9) c8] 28)) w.heap.size 34 28 (.slice none 0 0) 24 Try.underlying34 Try.info_bytes rfl rfl _ _ rfl u4 j gs (.slice A8 (q + 9) c8) ⟨wr.heap.size, 0, none⟩ rfl rfl rfl (cell_box _ _ _) (World.ownsRow.alloc HR'.out _) K1.out K2.out K3.out ?_; intro v2 w2 o2 g2 a2; have O2 := Lib.hid o2; have r2 := round2 HP.out hlt E1.out HNN.out hF HD.out HE.out HR.out HG.out HD1.out HF2.out g2; have R2 := Lib.hid r2; clear o2 g2 a2 r2))
                  go_roundw
                  case rel => exact ⟨j + 1, _, by omega, by go_num, R2.out.1, O2.out, R2.out.2.1, R2.out.2.2.1, R2.out.2.2.2⟩
                  case measure => simp [intOf]; omega
        · obtain rfl : j = its.length := by omega
          have h1 : ¬ (its.length : Int) < its.length := by omega
          clear x3
          obtain ⟨GA, gc, rfl, hgc1, hgc2, hgc⟩ := owns_form HR.out
          have HGC := Lib.hid hgc
          clear hgc
          go_wp2_with fail
          clear h1 x1 x2
          obtain ⟨W3, rfl⟩ : ∃ W3 : World, W3 = wr := ⟨_, rfl⟩
          go_loopw [11, 12, 13, 14] (fun i _ _ _ wr => ∃ (j q : Nat), j ≤ its.length ∧ i = .int .i64 (j : Int) ∧ wr = W3.drewN q) (fun i _ _ _ _ => (its.length - intOf i).toNat)
          case atStart => exact ⟨0, 0, by omega, rfl, rfl⟩
          case round =>
            obtain ⟨j, q', hj', rfl, rfl⟩ := hrel
            obtain ⟨LA, lc, SA, sc, x1, x2, x3⟩ := (HB.out.of HP.out hT hF).open_ HP.out.forms
            by_cases hlt : j < its.length
            · obtain ⟨gl, gs', A, c, rfl, rfl, e1, y1, y2, z1, z2⟩ := x3 j hlt
              obtain ⟨gg, rfl, _, y3⟩ := HGC.out j hlt
              obtain ⟨A', c', A8, c8, e2, e3, r1, r2, _, _⟩ := HD.out j hlt hlt
              rw [e1] at e2
              injection e2 with e2 _ e2'
              subst e2 e2'
              have y4 : gs[j]? = some (.slice A8 (its[j].2.length + 9) c8) := by
                rw [← e3, List.getD_eq_getElem?_getD, List.getElem?_eq_getElem (by rw [HG.out]; exact hlt)]
                rfl
              rw [y4] at y3
              have hlen := HL.out its[j] (List.getElem_mem hlt)
              have R1 := Lib.hid r1
              have R2 := Lib.hid r2
              clear x3 e1 e3 r1 r2 y4
              obtain ⟨n, hNN⟩ : ∃ n, its[j].2.length = n := ⟨_, rfl⟩
              rw [hNN] at R1 R2 hlen y1 y3 z1
              clear hNN
              have h1 : (j : Int) < its.length := by omega
              go_wp2_with fail
              go_loopw [13, 14] (fun i _ wr => ∃ (p q : Nat), p ≤ n + 9 ∧ i = .int .i64 (p : Int) ∧ wr = W3.drewN q) (fun i _ _ => (n + 9 - intOf i).toNat)
              case atStart => exact ⟨0, q', by omega, rfl, rfl⟩
              case round =>
                obtain ⟨p, q'', hp', rfl, rfl⟩ := hrel
                by_cases hlp : p < n + 9
                · obtain ⟨ad', rfl, _, y5⟩ := R2.out.at_ (j := p) (by rw [marks_length]; exact hlp)
                  have y6 := y5 p (by rw [marks_length]; exact hlp)
                  rw [marks_get] at y6
                  unfold bv at y6
                  clear y5
                  have h2 : (p : Int) < (n : Int) + 9 := by omega
                  by_cases hln : p < n
                  · obtain ⟨ad, rfl, _, y7⟩ := R1.out.at_ (j := p) (by rw [marks_length]; exact hln)
                    have y8 := y7 p (by rw [marks_length]; exact hln)
                    rw [marks_get] at y8
                    unfold bv at y8
                    clear y7
                    have h3 : (p : Int) < (n : Int) := by omega
                    go_wp2_with (go_at_call 21; refine (mark_any j p _ (by omega) (by omega)).mono ?_; rintro e w' ⟨rfl, rfl⟩)
                    go_roundw
                    case rel => exact ⟨p + 1, _, by omega, by go_num, rfl⟩
                    case measure => simp [intOf]; omega
                  · have h3 : ¬ (p : Int) < (n : Int) := by omega
                    have h4 : decide (p < n) = false := by simp; omega
                    go_wp2_with (go_at_call 21; refine (mark_any j p _ (by omega) (by omega)).mono ?_; rintro e w' ⟨rfl, rfl⟩)
                    go_roundw
                    case rel => exact ⟨p + 1, _, by omega, by go_num, rfl⟩
                    case measure => simp [intOf]; omega
                · have h2 : ¬ (p : Int) < (n : Int) + 9 := by omega
                  go_wp2
                  go_roundw
                  case rel => exact ⟨j + 1, _, by omega, by go_num, rfl⟩
                  case measure => simp [intOf]; omega
            · have h1 : ¬ (j : Int) < its.length := by omega
              clear x3
              go_wp2
              go_ret
              exact ⟨rfl, hF.drewN _⟩
end Go.Proofs.Ytlhfphidanjafaa
