/- card.Card: Rx, Tx, Give, Lay, Rings, Counts. -/
import Derived.Test.YtcdlpmnlblpinaaCard
set_option linter.unusedVariables false
set_option linter.unusedSimpArgs false
namespace Go.Proofs.Ytcdlpmnlblpinaa
open Go.RowKit

set_option maxRecDepth 100000 in
set_option maxHeartbeats 2000000 in
theorem show_no (c o g n : Nat) (i : Int) (w : World) (h : w.cell? ⟨c, o, none⟩ = some (.slice (some ⟨g, 0, none⟩) n n)) (hc : c < w.heap.size) (hn : n ≤ 64) (hi : i < 0 ∨ (n : Int) ≤ i) :
    Calls Try.prog 35 #[.pointer (some ⟨c, o, none⟩), .int .i64 i] w fun e w' => e = .returned (.tuple #[.agg #[.bool false, .slice none 0 0], .int .i64 40]) ∧ Below w.heap.size w w' := by
  have H : Hid ((w.alloc (.cells #[.bool false, .slice none 0 0] 32)).cell? ⟨c, o, none⟩ = some (.slice (some ⟨g, 0, none⟩) n n)) := Lib.hid ((World.cell?_alloc_lt _ _ _ hc).trans h)
  clear h
  go_enter Try.func35, Try.ntmps35
  go_wp2_with (go_at_call 32; refine (at_no c o _ n n i _ H.out (by omega) hi).mono ?_; rintro e w' ⟨rfl, rfl⟩)
  refine bodyPost_ret (v := .tuple #[.agg #[.bool false, .slice none 0 0], .int .i64 40]) (by simp [results, Try.results35, go_sem]) rfl ⟨rfl, ?_⟩
  exact (Below.refl _ w).alloc (Nat.le_refl _) _

set_option maxRecDepth 100000 in
set_option maxHeartbeats 2000000 in
theorem show_yes (c o g i : Nat) (S : List Slot) (n : Nat) (w : World) (h : w.cell? ⟨c, o, none⟩ = some (.slice (some ⟨g, 0, none⟩) n n)) (hc : c < w.heap.size) (hn : n = S.length) (hS : SlotsAt w g S) (hN : n ≤ 64) (hi : i < n) :
    Calls Try.prog 35 #[.pointer (some ⟨c, o, none⟩), .int .i64 (i : Int)] w fun e w' => ∃ v, e = .returned (.tuple #[.agg #[.bool (S.getD i blank).card, v], .int .i64 0]) ∧ Own w' w.heap.size v (S.getD i blank).data ∧ Below w.heap.size w w' := by
  subst hn
  rw [getD_of hi]
  have H : Hid ((w.alloc (.cells #[.bool false, .slice none 0 0] 32)).cell? ⟨c, o, none⟩ = some (.slice (some ⟨g, 0, none⟩) S.length S.length)) := Lib.hid ((World.cell?_alloc_lt _ _ _ hc).trans h)
  have hS1 := hS.below ((Below.refl _ w).alloc (Nat.le_refl _) (.cells #[.bool false, .slice none 0 0] 32))
  have hsc := slot_card hS1 (i := i) hi
  have HB : Blk (w.alloc (.cells #[.bool false, .slice none 0 0] 32)) w.heap.size 32 [.bool false, .slice none 0 0] := Blk.new w _ _
  have HO : Below w.heap.size w (w.alloc (.cells #[.bool false, .slice none 0 0] 32)) := (Below.refl _ w).alloc (Nat.le_refl _) _
  have HS := Lib.hid hS1
  clear h hS hS1
  go_enter Try.func35, Try.ntmps35
  go_wp2_with (go_at_call 32; refine (at_yes c o g S.length S.length i _ H.out (by omega) hi).mono ?_; rintro e w' ⟨rfl, rfl⟩)
  generalize w.alloc (.cells #[.bool false, .slice none 0 0] 32) = W0 at H HS hsc HB HO ⊢
  have hlt := HS.out.lt
  go_region_law (go_simp; go_at_call 36; refine (data_slot g i S _ (by exact HS.out) hi (by omega)).mono ?_; rintro e w2 ⟨v, rfl, ho2, hb2⟩; have hsc2 := slot_card (HS.out.drew.below (w' := w2) hb2) (i := i) hi; obtain ⟨A2, c2, rfl, _, _, _⟩ := ho2.form; have HB2 := HB.drew.beyond (w' := w2) hb2; have x0 := HB2.cell 0; have x1 := HB2.cell 1; have y0 := HB2.frozen 0; have y1 := HB2.frozen 1; simp only [List.getElem?_cons_zero, List.getElem?_cons_succ] at x0 x1)
  all_goals
    go_wp2_with fail
    have HB3 := (HB2.set_ 0 (.bool S[i].card)).set_ 1 (.slice A2 S[i].data.length c2)
    have z0 := HB3.cell 0
    have z1 := HB3.cell 1
    simp only [List.set_cons_zero, List.set_cons_succ, List.getElem?_cons_zero, List.getElem?_cons_succ] at z0 z1
    have hz : w.heap.size ≤ W0.heap.size := HO.size
    have hz1 : w.heap.size < W0.heap.size := HB.lt
    refine bodyPost_ret (v := .tuple #[.agg #[.bool S[i].card, .slice A2 S[i].data.length c2], .int .i64 0]) (by simp [results, Try.results35, go_sem, z0, z1]) rfl ⟨_, rfl, ?_, ?_⟩
    · refine ((ho2.less (base := w.heap.size) hz).fr (S := (· = w.heap.size)) ((((Fr.refl (· = w.heap.size) _).set_ (p := ⟨w.heap.size, 0, none⟩) (.inl rfl) _).set_ (p := ⟨w.heap.size, 1, none⟩) (.inl rfl) _)) fun b hb e => ?_)
      have h5 : W0.heap.size ≤ b := (owns_lt ho2 hb).1
      omega
    · exact ((below_then' (below_drew' HO) hz hb2).setCell (p := ⟨w.heap.size, 0, none⟩) (Nat.le_refl _) _).setCell (p := ⟨w.heap.size, 1, none⟩) (Nat.le_refl _) _

theorem show_any (c o g : Nat) (S : List Slot) (i : Int) (w : World) (h : w.cell? ⟨c, o, none⟩ = some (.slice (some ⟨g, 0, none⟩) S.length S.length)) (hc : c < w.heap.size) (hS : SlotsAt w g S) (hN : S.length ≤ 64) :
    Calls Try.prog 35 #[.pointer (some ⟨c, o, none⟩), .int .i64 i] w fun e w' => ∃ v, e = .returned (.tuple #[.agg #[.bool (shown S i).card, v], .int .i64 (shownE S i)]) ∧ Own w' w.heap.size v (shown S i).data ∧ Below w.heap.size w w' := by
  by_cases hi : inRing S i
  · simp only [shown, shownE, if_pos hi]
    obtain ⟨h0, h1⟩ := hi
    obtain ⟨i, rfl⟩ := Int.eq_ofNat_of_zero_le h0
    exact show_yes c o g i S S.length w h hc rfl hS hN (by omega)
  · simp only [shown, shownE, if_neg hi]
    have hi' : i < 0 ∨ (S.length : Int) ≤ i := by unfold inRing at hi; omega
    refine (show_no c o g S.length i w h hc hN hi').mono ?_
    rintro e w' ⟨rfl, hb⟩
    exact ⟨_, rfl, Own.nil _ _, hb⟩

set_option maxRecDepth 100000 in
set_option maxHeartbeats 2000000 in
theorem Rx_any (c gr gt : Nat) (s : CardSt) (B : Nat) (i : Int) (w : World) (h : CardAt w c gr gt s) (hs : s.ok B) :
    Calls Try.prog 11 #[.pointer (some ⟨c, 0, none⟩), .int .i64 i] w fun e w' => ∃ v, e = .returned (.tuple #[.agg #[.bool (shown s.rs i).card, v], .int .i64 (shownE s.rs i)]) ∧ Own w' w.heap.size v (shown s.rs i).data ∧ Below w.heap.size w w' := by
  have h0 := h.below ((Below.refl _ w).alloc (Nat.le_refl _) (.cells #[.bool false, .slice none 0 0] 32))
  have c0 := h0.blk.cell 0
  simp only [CardSt.cells, List.getElem?_cons_zero] at c0
  have HB : Blk (w.alloc (.cells #[.bool false, .slice none 0 0] 32)) w.heap.size 32 [.bool false, .slice none 0 0] := Blk.new w _ _
  have HO : Below w.heap.size w (w.alloc (.cells #[.bool false, .slice none 0 0] 32)) := (Below.refl _ w).alloc (Nat.le_refl _) _
  have r2 := hs.r2
  have H0 := Lib.hid h0
  have C0 := Lib.hid c0
  clear h h0 c0 hs
  obtain ⟨b, hb0⟩ : ∃ b, (shown s.rs i).card = b := ⟨_, rfl⟩
  obtain ⟨l, hl0⟩ : ∃ l, (shown s.rs i).data = l := ⟨_, rfl⟩
  obtain ⟨q, hq0⟩ : ∃ q, shownE s.rs i = q := ⟨_, rfl⟩
  have K : ∀ W, _ := fun (W : World) (h1 : W.cell? ⟨c, 0, none⟩ = some (.slice (some ⟨gr, 0, none⟩) s.rs.length s.rs.length)) h2 h3 => show_any c 0 gr s.rs i W h1 h2 h3 r2
  rw [hb0, hl0, hq0] at K
  rw [hb0, hl0, hq0]
  have KK := Lib.hid K
  clear K hb0 hl0 hq0
  go_enter Try.func11, Try.ntmps11
  go_wp2_with fail
  generalize w.alloc (.cells #[.bool false, .slice none 0 0] 32) = W0 at H0 C0 HB HO ⊢
  refine (KK.out _ C0.out H0.out.blk.lt H0.out.rx).mono ?_
  rintro e w1 ⟨v, rfl, ho, hb⟩
  have HB1 := HB.beyond hb
  have x0 := HB1.cell 0
  have x1 := HB1.cell 1
  have y0 := HB1.frozen 0
  have y1 := HB1.frozen 1
  simp only [List.getElem?_cons_zero, List.getElem?_cons_succ] at x0 x1
  obtain ⟨A, k, rfl, _, _, _⟩ := ho.form
  go_wp2_with fail
  have HB3 := (HB1.set_ 0 (.bool b)).set_ 1 (.slice A l.length k)
  have z0 := HB3.cell 0
  have z1 := HB3.cell 1
  simp only [List.set_cons_zero, List.set_cons_succ, List.getElem?_cons_zero, List.getElem?_cons_succ] at z0 z1
  have hz : w.heap.size ≤ W0.heap.size := HO.size
  have hz1 : w.heap.size < W0.heap.size := HB.lt
  refine bodyPost_ret (v := .tuple #[.agg #[.bool b, .slice A l.length k], .int .i64 q]) (by simp [results, Try.results11, go_sem, z0, z1]) rfl ⟨_, rfl, ?_, ?_⟩
  · refine ((ho.less (base := w.heap.size) hz).fr (S := (· = w.heap.size)) ((((Fr.refl (· = w.heap.size) _).set_ (p := ⟨w.heap.size, 0, none⟩) (.inl rfl) _).set_ (p := ⟨w.heap.size, 1, none⟩) (.inl rfl) _)) fun b hb e => ?_)
    have h5 : W0.heap.size ≤ b := (owns_lt ho hb).1
    omega
  · exact ((below_then' HO hz hb).setCell (p := ⟨w.heap.size, 0, none⟩) (Nat.le_refl _) _).setCell (p := ⟨w.heap.size, 1, none⟩) (Nat.le_refl _) _
set_option maxRecDepth 100000 in
set_option maxHeartbeats 2000000 in
theorem Tx_any (c gr gt : Nat) (s : CardSt) (B : Nat) (i : Int) (w : World) (h : CardAt w c gr gt s) (hs : s.ok B) :
    Calls Try.prog 44 #[.pointer (some ⟨c, 0, none⟩), .int .i64 i] w fun e w' => ∃ v, e = .returned (.tuple #[.agg #[.bool (shown s.ts i).card, v], .int .i64 (shownE s.ts i)]) ∧ Own w' w.heap.size v (shown s.ts i).data ∧ Below w.heap.size w w' := by
  have h0 := h.below ((Below.refl _ w).alloc (Nat.le_refl _) (.cells #[.bool false, .slice none 0 0] 32))
  have c0 := h0.blk.cell 2
  simp only [CardSt.cells, List.getElem?_cons_zero, List.getElem?_cons_succ] at c0
  have HB : Blk (w.alloc (.cells #[.bool false, .slice none 0 0] 32)) w.heap.size 32 [.bool false, .slice none 0 0] := Blk.new w _ _
  have HO : Below w.heap.size w (w.alloc (.cells #[.bool false, .slice none 0 0] 32)) := (Below.refl _ w).alloc (Nat.le_refl _) _
  have r2 := hs.t2
  have H0 := Lib.hid h0
  have C0 := Lib.hid c0
  clear h h0 c0 hs
  obtain ⟨b, hb0⟩ : ∃ b, (shown s.ts i).card = b := ⟨_, rfl⟩
  obtain ⟨l, hl0⟩ : ∃ l, (shown s.ts i).data = l := ⟨_, rfl⟩
  obtain ⟨q, hq0⟩ : ∃ q, shownE s.ts i = q := ⟨_, rfl⟩
  have K : ∀ W, _ := fun (W : World) (h1 : W.cell? ⟨c, 2, none⟩ = some (.slice (some ⟨gt, 0, none⟩) s.ts.length s.ts.length)) h2 h3 => show_any c 2 gt s.ts i W h1 h2 h3 r2
  rw [hb0, hl0, hq0] at K
  rw [hb0, hl0, hq0]
  have KK := Lib.hid K
  clear K hb0 hl0 hq0
  go_enter Try.func44, Try.ntmps44
  go_wp2_with fail
  generalize w.alloc (.cells #[.bool false, .slice none 0 0] 32) = W0 at H0 C0 HB HO ⊢
  refine (KK.out _ C0.out H0.out.blk.lt H0.out.tx).mono ?_
  rintro e w1 ⟨v, rfl, ho, hb⟩
  have HB1 := HB.beyond hb
  have x0 := HB1.cell 0
  have x1 := HB1.cell 1
  have y0 := HB1.frozen 0
  have y1 := HB1.frozen 1
  simp only [List.getElem?_cons_zero, List.getElem?_cons_succ] at x0 x1
  obtain ⟨A, k, rfl, _, _, _⟩ := ho.form
  go_wp2_with fail
  have HB3 := (HB1.set_ 0 (.bool b)).set_ 1 (.slice A l.length k)
  have z0 := HB3.cell 0
  have z1 := HB3.cell 1
  simp only [List.set_cons_zero, List.set_cons_succ, List.getElem?_cons_zero, List.getElem?_cons_succ] at z0 z1
  have hz : w.heap.size ≤ W0.heap.size := HO.size
  have hz1 : w.heap.size < W0.heap.size := HB.lt
  refine bodyPost_ret (v := .tuple #[.agg #[.bool b, .slice A l.length k], .int .i64 q]) (by simp [results, Try.results44, go_sem, z0, z1]) rfl ⟨_, rfl, ?_, ?_⟩
  · refine ((ho.less (base := w.heap.size) hz).fr (S := (· = w.heap.size)) ((((Fr.refl (· = w.heap.size) _).set_ (p := ⟨w.heap.size, 0, none⟩) (.inl rfl) _).set_ (p := ⟨w.heap.size, 1, none⟩) (.inl rfl) _)) fun b hb e => ?_)
    have h5 : W0.heap.size ≤ b := (owns_lt ho hb).1
    omega
  · exact ((below_then' HO hz hb).setCell (p := ⟨w.heap.size, 0, none⟩) (Nat.le_refl _) _).setCell (p := ⟨w.heap.size, 1, none⟩) (Nat.le_refl _) _
end Go.Proofs.Ytcdlpmnlblpinaa
