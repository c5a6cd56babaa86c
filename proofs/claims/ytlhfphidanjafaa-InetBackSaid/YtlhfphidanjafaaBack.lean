/- slipwaylaw09.InetBack, walked. -/
import Derived.Test.YtlhfphidanjafaaTellsAt
import Derived.Test.YtlhfphidanjafaaAwake
import Derived.BigRegion
import Derived.Deep.RegionWith
import Derived.Deep.RegionLaw
import Derived.StillTailTactics
set_option linter.unusedVariables false
set_option linter.unusedSimpArgs false
namespace Go.Proofs.Ytlhfphidanjafaa
open Go.RowKit

theorem dec_none {t : List UInt8} (h : ¬ decE t = 0) : decL t = [] ∧ decH t = hd0 := by
  unfold decL decH
  rw [if_neg h, if_neg h]
  exact ⟨rfl, rfl⟩

set_option maxHeartbeats 1000000 in
set_option maxRecDepth 20000 in
theorem InetBack_any (h : Hd) (hw : h.wf) (A : Option Addr) (l : List UInt8) (n c : Nat) (A2 : Option Addr) (t : List UInt8) (n2 c2 : Nat) (w : World) (hn : n = l.length) (hA : RA w A l) (hc : n ≤ c) (hcm : c ≤ 9223372036854775807) (hl : n ≤ 140737488351232)
    (hn2 : n2 = t.length) (hA2 : RA w A2 t) (hc2 : n2 ≤ c2) (hcm2 : c2 ≤ 9223372036854775807) (hl2 : n2 ≤ 140737488351232) :
    Calls Try.prog 6 #[h.val, .slice A n c, .slice A2 n2 c2] w fun e w' => e = .returned (.bool true) ∧ Below w.heap.size w w' := by
  subst hn hn2
  have EA := fun W hA' => Encode_any h hw A l l.length c W rfl hA' hc hcm hl
  have EB := fun W hA' => Decode_any A2 t t.length c2 W rfl hA' hc2 hcm2
  have hlaid := laid_read h l t hw
  have hread := read_laid t
  have hnone := @dec_none t
  have hEz := @encE_zero h l.length
  generalize hk : encE h l.length = k at EA hlaid hEz
  generalize hB : encL h l = B at EA hlaid
  clear hk hB
  obtain ⟨tos, id, ttl, proto, keep, src, dst⟩ := h
  simp only [Hd.val] at EA ⊢
  have HL := Lib.hid hlaid
  have HR := Lib.hid hread
  have HN := Lib.hid hnone
  have HE := Lib.hid EA
  have HD := Lib.hid EB
  have HZ := Lib.hid hEz
  clear hlaid hread hnone EA EB hEz
  go_enter Try.func6, Try.ntmps6
  go_wp2_with fail
  refine (awake_any _).mono ?_
  rintro e w1 ⟨rfl, hb1⟩
  have H1 : Blk w1 w.heap.size 27 [.int .i64 tos, .int .i64 id, .int .i64 ttl, .int .i64 proto, .bool keep, .int .u32 src, .int .u32 dst] := Blk.beyond (Blk.new w _ _) hb1
  have O1 : Below w.heap.size w w1 := below_then' ((Below.refl _ _).alloc (Nat.le_refl _) _) (by simp <;> omega) hb1
  have R1 : RA w1 A l := hA.below O1
  clear hb1
  have h60 := H1.cell 0; have h61 := H1.cell 1; have h62 := H1.cell 2; have h63 := H1.cell 3; have h64 := H1.cell 4; have h65 := H1.cell 5; have h66 := H1.cell 6
  simp only [List.getElem?_cons_zero, List.getElem?_cons_succ] at h60 h61 h62 h63 h64 h65 h66
  go_wp2_with fail
  refine (HE.out w1 R1).mono ?_
  rintro e w2 ⟨v, rfl, hv, hb2⟩
  have O2 := below_then' O1 O1.size hb2
  have H2 := Lib.hid (H1.beyond hb2)
  have hsz1 := O1.size
  have HB2 := Lib.hid hb2
  clear H1 h60 h61 h62 h63 h64 h65 h66 hb2
  by_cases hk : k = 0
  case neg =>
    have hk1 : ((k : Int) == 0) = false := by simp; omega
    have RT := hA2.below O2
    have O := O2
    clear hv HE HL HZ H2 HB2 O2
    go_wp2_with fail
    refine (HD.out _ RT).mono ?_
    rintro e w6 ⟨v6, rfl, hv6, hb6⟩
    have RT6 := RT.below hb6
    have O6 := below_then' O O.size hb6
    clear RT O hb6
    by_cases hd0' : decE t = 0
    case neg =>
      obtain ⟨n1, n2⟩ := HN.out hd0'
      rw [n1] at hv6
      rw [n2]
      simp only [hd0, Hd.val]
      obtain ⟨A6, c6, rfl, hr6, hc6, _⟩ := hv6.form
      have hk1 : ((decE t : Int) != 0) = true := by simp; omega
      clear hv6 hr6 HD HN HR n1 n2 RT6
      generalize decE t = m at hk1
      go_wp2
      go_ret
      exact ⟨rfl, O6.alloc O6.size _⟩
    case pos =>
      obtain ⟨f1, f2, f3, f4⟩ := HR.out hd0'
      obtain ⟨z1, z2, z3, z4, z5, z6, z7, hz⟩ := Hd.form (decH t)
      have hdl : (decL t).length ≤ 140737488351232 := by omega
      obtain ⟨A6, c6, rfl, hr6, hc6, _⟩ := hv6.form
      have hE2 := fun W hA' => Encode_any (decH t) f2 A6 (decL t) (decL t).length c6 W rfl hA' hc6 hv6.cap hdl
      have hE3 : encE (decH t) (decL t).length = if 1480 < (decL t).length then 2 else 0 := by unfold encE; rw [if_neg f3]
      rw [hz] at hE2
      rw [hz, hd0']
      rw [hE3] at hE2
      have f4' := Lib.hid f4
      clear HD HN HR hv6 hc6 f2 f3 f4 hz hE3 hd0'
      generalize encL (decH t) (decL t) = C at hE2 f4'
      generalize decL t = d at f1 hdl hr6 hE2 f4'
      by_cases hbg : 1480 < d.length
      case pos =>
        rw [if_pos hbg] at hE2
        have hgt : (1500 : Int) < 20 + (d.length : Int) := by omega
        clear f4' f1
        go_wp2_with fail
        refine (hE2 _ (hr6.alloc _)).mono ?_
        rintro e w7 ⟨v7, rfl, hv7, hb7⟩
        have O7 := below_then' (O6.alloc O6.size _) (O6.alloc O6.size _).size hb7
        clear hb7 hv7 hE2 hr6
        go_wp2
        go_ret
        exact ⟨rfl, O7⟩
      case neg =>
        rw [if_neg hbg] at hE2
        go_wp2_with fail
        refine (hE2 _ (hr6.alloc _)).mono ?_
        rintro e w7 ⟨v7, rfl, hv7, hb7⟩
        obtain ⟨f5, f6, f7⟩ := f4'.out (by omega)
        have RT7 := (RT6.alloc (.cells #[.int .i64 z1, .int .i64 z2, .int .i64 z3, .int .i64 z4, .bool z5, .int .u32 z6, .int .u32 z7] 27)).below hb7
        have O7 := below_then' (O6.alloc O6.size _) (O6.alloc O6.size _).size hb7
        obtain ⟨g7, c7, rfl, hc7, hcm7, hg7, hgl7⟩ := hv7.form1 (by omega)
        have k2 : ¬ (1500 : Int) < 20 + (d.length : Int) := by omega
        have k3 : ¬ (t.length : Int) < 20 + (d.length : Int) := by omega
        have k4 : 20 + (d.length : Int) ≤ c2 := by omega
        have k1 : (C.length : Int) = 20 + (d.length : Int) := by omega
        have F6 := Lib.hid f6
        have F7 := Lib.hid f7
        have F5 := Lib.hid f5
        have HV7 := Lib.hid hv7
        obtain ⟨ad, rfl, _, _⟩ := RT7.at_ (j := 0) (by omega)
        clear hE2 f4' f5 f6 f7 hv7 hb7 O6 RT6 hr6
        obtain ⟨x6, hx⟩ : ∃ x, (t.getD 6 0).toNat = x := ⟨_, rfl⟩
        have X6 := Lib.hid hx
        clear hx
        obtain ⟨x10, hx⟩ : ∃ x, (t.getD 10 0).toNat = x := ⟨_, rfl⟩
        have X10 := Lib.hid hx
        clear hx
        obtain ⟨x11, hx⟩ : ∃ x, (t.getD 11 0).toNat = x := ⟨_, rfl⟩
        have X11 := Lib.hid hx
        clear hx
        obtain ⟨y10, hx⟩ : ∃ x, (C.getD 10 0).toNat = x := ⟨_, rfl⟩
        have Y10 := Lib.hid hx
        clear hx
        obtain ⟨y11, hx⟩ : ∃ x, (C.getD 11 0).toNat = x := ⟨_, rfl⟩
        have Y11 := Lib.hid hx
        clear hx
        have hz10 : ((t.take (20 + d.length)).getD 10 0).toNat = x10 := by rw [← X10.out]; simp [List.getD, List.getElem?_take, show 10 < 20 + d.length by omega]
        have hz11 : ((t.take (20 + d.length)).getD 11 0).toNat = x11 := by rw [← X11.out]; simp [List.getD, List.getElem?_take, show 11 < 20 + d.length by omega]
        have Z10 := Lib.hid hz10
        have Z11 := Lib.hid hz11
        clear hz10 hz11
        by_cases h6 : 128 ≤ x6
        case pos =>
          have h6i : (128 : Int) ≤ x6 := by omega
          go_wp2_with (at_builtin; refine appN w7.heap.size rfl (.const (.slice none 0 0)) _ rfl (.slice none 0 0) [] (some ad) (t.take (20 + d.length)) _ _ rfl rfl (by rw [List.length_take]; omega) (Own.nil _ _) (RT7.take _) (Nat.le_refl _) (by rw [List.length_nil, List.length_take]; omega) ?_; intro v8 w8 hv8 hg8 ht8; rw [List.nil_append] at hv8; obtain ⟨g8, c8, rfl, hc8, hcm8, hg8', hgl8⟩ := hv8.form1 (by rw [List.length_take]; omega); have b8 := (Below.refl w7.heap.size w7).grown hg8 (Nat.le_refl _) (by intro k hk; cases hk); have RT8 := RT7.below b8; have HV8 := HV7.out.below b8; have O8 := Lib.hid (below_then' O7 O7.size b8); have q6 := RT8.nat 6 (by omega) (by omega); have q10 := RT8.nat 10 (by omega) (by omega); have q11 := RT8.nat 11 (by omega) (by omega); have p10 := HV8.nat 10 (by omega); have p11 := HV8.nat 11 (by omega); rw [X6.out] at q6; rw [X10.out] at q10; rw [X11.out] at q11; rw [Y10.out] at p10; rw [Y11.out] at p11; have s10 := hv8.nat 10 (by rw [List.length_take]; omega); have s11 := hv8.nat 11 (by rw [List.length_take]; omega); rw [Z10.out] at s10; rw [Z11.out] at s11; have f10 := hv8.frozen_ 10; have f11 := hv8.frozen_ 11; have cC := conv_str C.length c7 rfl HV8.ra; have cZ := conv_str (20 + d.length) c8 (by rw [List.length_take]; omega) hv8.ra; have W8 := Lib.hid hv8; have V8 := Lib.hid HV8; clear hv8 HV8 RT8 b8 hg8 ht8)
          have RC := V8.out.ra.drop 20 c7 (by omega) hc7
          have RZ := W8.out.ra.drop 20 c8 (by rw [List.length_take]; omega) hc8
          rw [← F6.out] at RZ
          simp only [Option.map, Addr.add, Nat.zero_add, show ¬ (20 : Nat) = 0 by omega, if_false] at RC RZ
          have cC9 := conv_str (C.length - 20) (c7 - 20) (by rw [List.length_drop]) (RA.drew RC)
          have cZ9 := conv_str d.length (c8 - 20) (by rw [List.length_drop]; omega) (RA.drew RZ)
          have kc7 : (20 : Int) ≤ c7 := by omega
          have kc8 : (20 : Int) ≤ c8 := by rw [List.length_take] at hc8; omega
          clear cC cZ RC RZ
          go_region
          all_goals go_wp2_with fail
          all_goals go_ret
          all_goals exact ⟨rfl, below_drew' O8.out⟩
        case neg =>
          have h6i : ¬ (128 : Int) ≤ x6 := by omega
          have hF := F7.out (by rw [X6.out]; omega)
          rw [X10.out, X11.out, Y10.out, Y11.out] at hF
          by_cases hq : x10 = 255 ∧ x11 = 255 ∧ y10 = 0 ∧ y11 = 0
          case pos =>
            have hC : C = ((t.take (20 + d.length)).set 10 0).set 11 0 := by
              rcases hF with e | ⟨_, _, _, _, e⟩
              · exfalso
                have := Z10.out
                rw [← e, Y10.out] at this
                omega
              · exact e
            obtain ⟨rfl, rfl, rfl, rfl⟩ := hq
            have HC := Lib.hid hC
            clear hC hF
            go_wp2_with (at_builtin; refine appN w7.heap.size rfl (.const (.slice none 0 0)) _ rfl (.slice none 0 0) [] (some ad) (t.take (20 + d.length)) _ _ rfl rfl (by rw [List.length_take]; omega) (Own.nil _ _) (RT7.take _) (Nat.le_refl _) (by rw [List.length_nil, List.length_take]; omega) ?_; intro v8 w8 hv8 hg8 ht8; rw [List.nil_append] at hv8; obtain ⟨g8, c8, rfl, hc8, hcm8, hg8', hgl8⟩ := hv8.form1 (by rw [List.length_take]; omega); have b8 := (Below.refl w7.heap.size w7).grown hg8 (Nat.le_refl _) (by intro k hk; cases hk); have RT8 := RT7.below b8; have HV8 := HV7.out.below b8; have O8 := Lib.hid (below_then' O7 O7.size b8); have q6 := RT8.nat 6 (by omega) (by omega); have q10 := RT8.nat 10 (by omega) (by omega); have q11 := RT8.nat 11 (by omega) (by omega); have p10 := HV8.nat 10 (by omega); have p11 := HV8.nat 11 (by omega); rw [X6.out] at q6; rw [X10.out] at q10; rw [X11.out] at q11; rw [Y10.out] at p10; rw [Y11.out] at p11; have s10 := hv8.nat 10 (by rw [List.length_take]; omega); have s11 := hv8.nat 11 (by rw [List.length_take]; omega); rw [Z10.out] at s10; rw [Z11.out] at s11; have f10 := hv8.frozen_ 10; have f11 := hv8.frozen_ 11; have cC := conv_str C.length c7 rfl HV8.ra; have cZ := conv_str (20 + d.length) c8 (by rw [List.length_take]; omega) hv8.ra; have W8 := Lib.hid hv8; have V8 := Lib.hid HV8; clear hv8 HV8 RT8 b8 hg8 ht8; have hne : g7 ≠ g8 := (by omega); have RC : RA ((w8.setCell ⟨g8, 10, none⟩ (.int .u8 0)).setCell ⟨g8, 11, none⟩ (.int .u8 0)) (some ⟨g7, 0, none⟩) C := ((V8.out.ra).far (p := ⟨g8, 10, none⟩) hne _).far (p := ⟨g8, 11, none⟩) hne _; have WZ := ((W8.out.set_n rfl 10 0).set_n (by rw [List.length_set]) 11 0); have RZ : RA ((w8.setCell ⟨g8, 10, none⟩ (.int .u8 0)).setCell ⟨g8, 11, none⟩ (.int .u8 0)) (some ⟨g8, 0, none⟩) (((t.take (20 + d.length)).set 10 0).set 11 0) := WZ.ra; have c9 := conv_str C.length c7 rfl RC; have cZ9 := conv_str (20 + d.length) c8 (by simp only [List.length_set, List.length_take] <;> omega) RZ; rw [← HC.out] at cZ9; have O9 := Lib.hid ((O8.out.setCell (p := ⟨g8, 10, none⟩) (by have := O7.size; simp only <;> omega) (.int .u8 0)).setCell (p := ⟨g8, 11, none⟩) (by have := O7.size; simp only <;> omega) (.int .u8 0)); clear cC cZ RC WZ RZ hne)
            go_ret
            exact ⟨rfl, O9.out⟩
          case neg =>
            have hC : C = t.take (20 + d.length) := by
              rcases hF with e | ⟨e1, e2, e3, e4, _⟩
              · exact e
              · exact absurd ⟨e1, e2, e3, e4⟩ hq
            have HC := Lib.hid hC
            clear hC hF
            by_cases e1 : x10 = 255
            case neg =>
              have e1' : ((x10 : Int) == 255) = false := by simp; omega
              clear e1 hq
              go_wp2_with (at_builtin; refine appN w7.heap.size rfl (.const (.slice none 0 0)) _ rfl (.slice none 0 0) [] (some ad) (t.take (20 + d.length)) _ _ rfl rfl (by rw [List.length_take]; omega) (Own.nil _ _) (RT7.take _) (Nat.le_refl _) (by rw [List.length_nil, List.length_take]; omega) ?_; intro v8 w8 hv8 hg8 ht8; rw [List.nil_append] at hv8; obtain ⟨g8, c8, rfl, hc8, hcm8, hg8', hgl8⟩ := hv8.form1 (by rw [List.length_take]; omega); have b8 := (Below.refl w7.heap.size w7).grown hg8 (Nat.le_refl _) (by intro k hk; cases hk); have RT8 := RT7.below b8; have HV8 := HV7.out.below b8; have O8 := Lib.hid (below_then' O7 O7.size b8); have q6 := RT8.nat 6 (by omega) (by omega); have q10 := RT8.nat 10 (by omega) (by omega); have q11 := RT8.nat 11 (by omega) (by omega); have p10 := HV8.nat 10 (by omega); have p11 := HV8.nat 11 (by omega); rw [X6.out] at q6; rw [X10.out] at q10; rw [X11.out] at q11; rw [Y10.out] at p10; rw [Y11.out] at p11; have s10 := hv8.nat 10 (by rw [List.length_take]; omega); have s11 := hv8.nat 11 (by rw [List.length_take]; omega); rw [Z10.out] at s10; rw [Z11.out] at s11; have f10 := hv8.frozen_ 10; have f11 := hv8.frozen_ 11; have cC := conv_str C.length c7 rfl HV8.ra; have cZ := conv_str (20 + d.length) c8 (by rw [List.length_take]; omega) hv8.ra; have W8 := Lib.hid hv8; have V8 := Lib.hid HV8; clear hv8 HV8 RT8 b8 hg8 ht8; rw [← HC.out] at cZ)
              go_ret
              exact ⟨rfl, O8.out⟩
            case pos =>
              subst e1
              by_cases e2 : x11 = 255
              case neg =>
                have e2' : ((x11 : Int) == 255) = false := by simp; omega
                clear e2 hq
                go_wp2_with (at_builtin; refine appN w7.heap.size rfl (.const (.slice none 0 0)) _ rfl (.slice none 0 0) [] (some ad) (t.take (20 + d.length)) _ _ rfl rfl (by rw [List.length_take]; omega) (Own.nil _ _) (RT7.take _) (Nat.le_refl _) (by rw [List.length_nil, List.length_take]; omega) ?_; intro v8 w8 hv8 hg8 ht8; rw [List.nil_append] at hv8; obtain ⟨g8, c8, rfl, hc8, hcm8, hg8', hgl8⟩ := hv8.form1 (by rw [List.length_take]; omega); have b8 := (Below.refl w7.heap.size w7).grown hg8 (Nat.le_refl _) (by intro k hk; cases hk); have RT8 := RT7.below b8; have HV8 := HV7.out.below b8; have O8 := Lib.hid (below_then' O7 O7.size b8); have q6 := RT8.nat 6 (by omega) (by omega); have q10 := RT8.nat 10 (by omega) (by omega); have q11 := RT8.nat 11 (by omega) (by omega); have p10 := HV8.nat 10 (by omega); have p11 := HV8.nat 11 (by omega); rw [X6.out] at q6; rw [X10.out] at q10; rw [X11.out] at q11; rw [Y10.out] at p10; rw [Y11.out] at p11; have s10 := hv8.nat 10 (by rw [List.length_take]; omega); have s11 := hv8.nat 11 (by rw [List.length_take]; omega); rw [Z10.out] at s10; rw [Z11.out] at s11; have f10 := hv8.frozen_ 10; have f11 := hv8.frozen_ 11; have cC := conv_str C.length c7 rfl HV8.ra; have cZ := conv_str (20 + d.length) c8 (by rw [List.length_take]; omega) hv8.ra; have W8 := Lib.hid hv8; have V8 := Lib.hid HV8; clear hv8 HV8 RT8 b8 hg8 ht8; rw [← HC.out] at cZ)
                go_ret
                exact ⟨rfl, O8.out⟩
              case pos =>
                subst e2
                by_cases e3 : y10 = 0
                case neg =>
                  have e3' : ((y10 : Int) == 0) = false := by simp; omega
                  clear e3 hq
                  go_wp2_with (at_builtin; refine appN w7.heap.size rfl (.const (.slice none 0 0)) _ rfl (.slice none 0 0) [] (some ad) (t.take (20 + d.length)) _ _ rfl rfl (by rw [List.length_take]; omega) (Own.nil _ _) (RT7.take _) (Nat.le_refl _) (by rw [List.length_nil, List.length_take]; omega) ?_; intro v8 w8 hv8 hg8 ht8; rw [List.nil_append] at hv8; obtain ⟨g8, c8, rfl, hc8, hcm8, hg8', hgl8⟩ := hv8.form1 (by rw [List.length_take]; omega); have b8 := (Below.refl w7.heap.size w7).grown hg8 (Nat.le_refl _) (by intro k hk; cases hk); have RT8 := RT7.below b8; have HV8 := HV7.out.below b8; have O8 := Lib.hid (below_then' O7 O7.size b8); have q6 := RT8.nat 6 (by omega) (by omega); have q10 := RT8.nat 10 (by omega) (by omega); have q11 := RT8.nat 11 (by omega) (by omega); have p10 := HV8.nat 10 (by omega); have p11 := HV8.nat 11 (by omega); rw [X6.out] at q6; rw [X10.out] at q10; rw [X11.out] at q11; rw [Y10.out] at p10; rw [Y11.out] at p11; have s10 := hv8.nat 10 (by rw [List.length_take]; omega); have s11 := hv8.nat 11 (by rw [List.length_take]; omega); rw [Z10.out] at s10; rw [Z11.out] at s11; have f10 := hv8.frozen_ 10; have f11 := hv8.frozen_ 11; have cC := conv_str C.length c7 rfl HV8.ra; have cZ := conv_str (20 + d.length) c8 (by rw [List.length_take]; omega) hv8.ra; have W8 := Lib.hid hv8; have V8 := Lib.hid HV8; clear hv8 HV8 RT8 b8 hg8 ht8; rw [← HC.out] at cZ)
                  go_ret
                  exact ⟨rfl, O8.out⟩
                case pos =>
                  subst e3
                  have e4' : ((y11 : Int) == 0) = false := by simp; omega
                  clear hq
                  go_wp2_with (at_builtin; refine appN w7.heap.size rfl (.const (.slice none 0 0)) _ rfl (.slice none 0 0) [] (some ad) (t.take (20 + d.length)) _ _ rfl rfl (by rw [List.length_take]; omega) (Own.nil _ _) (RT7.take _) (Nat.le_refl _) (by rw [List.length_nil, List.length_take]; omega) ?_; intro v8 w8 hv8 hg8 ht8; rw [List.nil_append] at hv8; obtain ⟨g8, c8, rfl, hc8, hcm8, hg8', hgl8⟩ := hv8.form1 (by rw [List.length_take]; omega); have b8 := (Below.refl w7.heap.size w7).grown hg8 (Nat.le_refl _) (by intro k hk; cases hk); have RT8 := RT7.below b8; have HV8 := HV7.out.below b8; have O8 := Lib.hid (below_then' O7 O7.size b8); have q6 := RT8.nat 6 (by omega) (by omega); have q10 := RT8.nat 10 (by omega) (by omega); have q11 := RT8.nat 11 (by omega) (by omega); have p10 := HV8.nat 10 (by omega); have p11 := HV8.nat 11 (by omega); rw [X6.out] at q6; rw [X10.out] at q10; rw [X11.out] at q11; rw [Y10.out] at p10; rw [Y11.out] at p11; have s10 := hv8.nat 10 (by rw [List.length_take]; omega); have s11 := hv8.nat 11 (by rw [List.length_take]; omega); rw [Z10.out] at s10; rw [Z11.out] at s11; have f10 := hv8.frozen_ 10; have f11 := hv8.frozen_ 11; have cC := conv_str C.length c7 rfl HV8.ra; have cZ := conv_str (20 + d.length) c8 (by rw [List.length_take]; omega) hv8.ra; have W8 := Lib.hid hv8; have V8 := Lib.hid HV8; clear hv8 HV8 RT8 b8 hg8 ht8; rw [← HC.out] at cZ)
                  go_ret
                  exact ⟨rfl, O8.out⟩
  case pos =>
    subst hk
    obtain ⟨d1, d2, d3, d4⟩ := HL.out rfl
    obtain ⟨_, d5⟩ := HZ.out rfl
    obtain ⟨g, cb, rfl, hcb, hcbm, hg, hgl⟩ := hv.form1 (by omega)
    have HV := Lib.hid hv
    clear hv HL HE HZ
    have D4i : (B.length : Int) = 20 + (l.length : Int) := by omega
    have d6 : ¬ (1500 : Int) < 20 + (l.length : Int) := by omega
    have R2 := RA.below R1 (HB2.out)
    have RT2 := hA2.below O2
    have hnw : (B.length + t.length) ≤ 140737488355328 := by omega
    have hcmp : ((20 + (l.length : Int)) != 20 + (l.length : Int)) = false := by simp
    have D4 := Lib.hid D4i
    clear d4 D4i R1 HB2
    go_wp2_with (first
      | (at_builtin; refine appN w2.heap.size rfl (.const (.slice none 0 0)) _ rfl (.slice none 0 0) [] (some ⟨g, 0, none⟩) B _ _ rfl rfl rfl (Own.nil _ _) HV.out.ra (Nat.le_refl _) (by rw [List.length_nil]; omega) ?_; intro v2 w3 hv2 hg2 ht2; rw [List.nil_append] at hv2; have b2 := (Below.refl w2.heap.size w2).grown hg2 (Nat.le_refl _) (by intro k hk; cases hk); have RT3 := RT2.below b2; clear hg2 ht2)
      | (at_builtin; refine appN w2.heap.size rfl (.tmp 34) _ rfl v2 B A2 t _ _ rfl rfl rfl hv2 RT3 b2.size (by omega) ?_; intro v3 w4 hv3 hg3 ht3))
    have b3 := b2.grown hg3 b2.size (fun k hk => (World.ownsRow.lt hv2 k hk).1)
    obtain ⟨A3, c3, rfl, hr3, hc3, hq3⟩ := hv3.form
    have hD := Decode_any A3 (B ++ t) (B ++ t).length c3 w4 rfl hr3 hc3 hv3.cap
    rw [d1, d2, d3] at hD
    simp only [Hd.val] at hD
    have H4 := H2.out.beyond b3
    have R4 := R2.below b3
    have RT4 := RT2.below b3
    have O4 := below_then' O2 O2.size b3
    clear b2 b3 hg3 ht3 hr3 hc3 hq3 hv3 hv2 RT3 RT2 R2 H2 HV d1 d2 d3
    refine hD.mono ?_
    rintro e w5 ⟨v5, rfl, hv5, hb5⟩
    have H5 := H4.beyond hb5
    have R5 := (R4.below hb5).alloc (.cells #[.int .i64 tos, .int .i64 id, .int .i64 ttl, .int .i64 proto, .bool keep, .int .u32 src, .int .u32 dst] 27)
    have RT5 := RT4.below hb5
    have O5 := below_then' O4 O4.size hb5
    obtain ⟨A5, c5, rfl, hr5, hc5, hq5⟩ := hv5.form
    have hs5 := conv_str l.length c5 rfl (hr5.alloc (.cells #[.int .i64 tos, .int .i64 id, .int .i64 ttl, .int .i64 proto, .bool keep, .int .u32 src, .int .u32 dst] 27))
    have hs6 := conv_str l.length c rfl R5
    have hlt : w.heap.size < w5.heap.size := H5.lt
    have h60 := H5.cell 0; have h61 := H5.cell 1; have h62 := H5.cell 2; have h63 := H5.cell 3; have h64 := H5.cell 4; have h65 := H5.cell 5; have h66 := H5.cell 6
    simp only [List.getElem?_cons_zero, List.getElem?_cons_succ] at h60 h61 h62 h63 h64 h65 h66
    have RT := RT5.alloc (.cells #[.int .i64 tos, .int .i64 id, .int .i64 ttl, .int .i64 proto, .bool keep, .int .u32 src, .int .u32 dst] 27)
    have O := O5.alloc O5.size (.cells #[.int .i64 tos, .int .i64 id, .int .i64 ttl, .int .i64 proto, .bool keep, .int .u32 src, .int .u32 dst] 27)
    have D4i := D4.out
    clear hD H4 R4 RT4 O4 hb5 hr5 hc5 hq5 hv5 R5 RT5 O5 H5 D4
    go_wp2_with fail
    clear hs5 hs6 h60 h61 h62 h63 h64 h65 h66 D4i O2 hcmp
    refine (HD.out _ RT).mono ?_
    rintro e w6 ⟨v6, rfl, hv6, hb6⟩
    have RT6 := RT.below hb6
    have O6 := below_then' O O.size hb6
    clear RT O hb6
    by_cases hd0' : decE t = 0
    case neg =>
      obtain ⟨n1, n2⟩ := HN.out hd0'
      rw [n1] at hv6
      rw [n2]
      simp only [hd0, Hd.val]
      obtain ⟨A6, c6, rfl, hr6, hc6, _⟩ := hv6.form
      have hk1 : ((decE t : Int) != 0) = true := by simp; omega
      clear hv6 hr6 HD HN HR n1 n2 RT6
      generalize decE t = m at hk1
      go_wp2
      go_ret
      exact ⟨rfl, O6.alloc O6.size _⟩
    case pos =>
      obtain ⟨f1, f2, f3, f4⟩ := HR.out hd0'
      obtain ⟨z1, z2, z3, z4, z5, z6, z7, hz⟩ := Hd.form (decH t)
      have hdl : (decL t).length ≤ 140737488351232 := by omega
      obtain ⟨A6, c6, rfl, hr6, hc6, _⟩ := hv6.form
      have hE2 := fun W hA' => Encode_any (decH t) f2 A6 (decL t) (decL t).length c6 W rfl hA' hc6 hv6.cap hdl
      have hE3 : encE (decH t) (decL t).length = if 1480 < (decL t).length then 2 else 0 := by unfold encE; rw [if_neg f3]
      rw [hz] at hE2
      rw [hz, hd0']
      rw [hE3] at hE2
      have f4' := Lib.hid f4
      clear HD HN HR hv6 hc6 f2 f3 f4 hz hE3 hd0'
      generalize encL (decH t) (decL t) = C at hE2 f4'
      generalize decL t = d at f1 hdl hr6 hE2 f4'
      by_cases hbg : 1480 < d.length
      case pos =>
        rw [if_pos hbg] at hE2
        have hgt : (1500 : Int) < 20 + (d.length : Int) := by omega
        clear f4' f1
        go_wp2_with fail
        refine (hE2 _ (hr6.alloc _)).mono ?_
        rintro e w7 ⟨v7, rfl, hv7, hb7⟩
        have O7 := below_then' (O6.alloc O6.size _) (O6.alloc O6.size _).size hb7
        clear hb7 hv7 hE2 hr6
        go_wp2
        go_ret
        exact ⟨rfl, O7⟩
      case neg =>
        rw [if_neg hbg] at hE2
        go_wp2_with fail
        refine (hE2 _ (hr6.alloc _)).mono ?_
        rintro e w7 ⟨v7, rfl, hv7, hb7⟩
        obtain ⟨f5, f6, f7⟩ := f4'.out (by omega)
        have RT7 := (RT6.alloc (.cells #[.int .i64 z1, .int .i64 z2, .int .i64 z3, .int .i64 z4, .bool z5, .int .u32 z6, .int .u32 z7] 27)).below hb7
        have O7 := below_then' (O6.alloc O6.size _) (O6.alloc O6.size _).size hb7
        obtain ⟨g7, c7, rfl, hc7, hcm7, hg7, hgl7⟩ := hv7.form1 (by omega)
        have k2 : ¬ (1500 : Int) < 20 + (d.length : Int) := by omega
        have k3 : ¬ (t.length : Int) < 20 + (d.length : Int) := by omega
        have k4 : 20 + (d.length : Int) ≤ c2 := by omega
        have k1 : (C.length : Int) = 20 + (d.length : Int) := by omega
        have F6 := Lib.hid f6
        have F7 := Lib.hid f7
        have F5 := Lib.hid f5
        have HV7 := Lib.hid hv7
        obtain ⟨ad, rfl, _, _⟩ := RT7.at_ (j := 0) (by omega)
        clear hE2 f4' f5 f6 f7 hv7 hb7 O6 RT6 hr6
        obtain ⟨x6, hx⟩ : ∃ x, (t.getD 6 0).toNat = x := ⟨_, rfl⟩
        have X6 := Lib.hid hx
        clear hx
        obtain ⟨x10, hx⟩ : ∃ x, (t.getD 10 0).toNat = x := ⟨_, rfl⟩
        have X10 := Lib.hid hx
        clear hx
        obtain ⟨x11, hx⟩ : ∃ x, (t.getD 11 0).toNat = x := ⟨_, rfl⟩
        have X11 := Lib.hid hx
        clear hx
        obtain ⟨y10, hx⟩ : ∃ x, (C.getD 10 0).toNat = x := ⟨_, rfl⟩
        have Y10 := Lib.hid hx
        clear hx
        obtain ⟨y11, hx⟩ : ∃ x, (C.getD 11 0).toNat = x := ⟨_, rfl⟩
        have Y11 := Lib.hid hx
        clear hx
        have hz10 : ((t.take (20 + d.length)).getD 10 0).toNat = x10 := by rw [← X10.out]; simp [List.getD, List.getElem?_take, show 10 < 20 + d.length by omega]
        have hz11 : ((t.take (20 + d.length)).getD 11 0).toNat = x11 := by rw [← X11.out]; simp [List.getD, List.getElem?_take, show 11 < 20 + d.length by omega]
        have Z10 := Lib.hid hz10
        have Z11 := Lib.hid hz11
        clear hz10 hz11
        by_cases h6 : 128 ≤ x6
        case pos =>
          have h6i : (128 : Int) ≤ x6 := by omega
          go_wp2_with (at_builtin; refine appN w7.heap.size rfl (.const (.slice none 0 0)) _ rfl (.slice none 0 0) [] (some ad) (t.take (20 + d.length)) _ _ rfl rfl (by rw [List.length_take]; omega) (Own.nil _ _) (RT7.take _) (Nat.le_refl _) (by rw [List.length_nil, List.length_take]; omega) ?_; intro v8 w8 hv8 hg8 ht8; rw [List.nil_append] at hv8; obtain ⟨g8, c8, rfl, hc8, hcm8, hg8', hgl8⟩ := hv8.form1 (by rw [List.length_take]; omega); have b8 := (Below.refl w7.heap.size w7).grown hg8 (Nat.le_refl _) (by intro k hk; cases hk); have RT8 := RT7.below b8; have HV8 := HV7.out.below b8; have O8 := Lib.hid (below_then' O7 O7.size b8); have q6 := RT8.nat 6 (by omega) (by omega); have q10 := RT8.nat 10 (by omega) (by omega); have q11 := RT8.nat 11 (by omega) (by omega); have p10 := HV8.nat 10 (by omega); have p11 := HV8.nat 11 (by omega); rw [X6.out] at q6; rw [X10.out] at q10; rw [X11.out] at q11; rw [Y10.out] at p10; rw [Y11.out] at p11; have s10 := hv8.nat 10 (by rw [List.length_take]; omega); have s11 := hv8.nat 11 (by rw [List.length_take]; omega); rw [Z10.out] at s10; rw [Z11.out] at s11; have f10 := hv8.frozen_ 10; have f11 := hv8.frozen_ 11; have cC := conv_str C.length c7 rfl HV8.ra; have cZ := conv_str (20 + d.length) c8 (by rw [List.length_take]; omega) hv8.ra; have W8 := Lib.hid hv8; have V8 := Lib.hid HV8; clear hv8 HV8 RT8 b8 hg8 ht8)
          have RC := V8.out.ra.drop 20 c7 (by omega) hc7
          have RZ := W8.out.ra.drop 20 c8 (by rw [List.length_take]; omega) hc8
          rw [← F6.out] at RZ
          simp only [Option.map, Addr.add, Nat.zero_add, show ¬ (20 : Nat) = 0 by omega, if_false] at RC RZ
          have cC9 := conv_str (C.length - 20) (c7 - 20) (by rw [List.length_drop]) (RA.drew RC)
          have cZ9 := conv_str d.length (c8 - 20) (by rw [List.length_drop]; omega) (RA.drew RZ)
          have kc7 : (20 : Int) ≤ c7 := by omega
          have kc8 : (20 : Int) ≤ c8 := by rw [List.length_take] at hc8; omega
          clear cC cZ RC RZ
          go_region
          all_goals go_wp2_with fail
          all_goals go_ret
          all_goals exact ⟨rfl, below_drew' O8.out⟩
        case neg =>
          have h6i : ¬ (128 : Int) ≤ x6 := by omega
          have hF := F7.out (by rw [X6.out]; omega)
          rw [X10.out, X11.out, Y10.out, Y11.out] at hF
          by_cases hq : x10 = 255 ∧ x11 = 255 ∧ y10 = 0 ∧ y11 = 0
          case pos =>
            have hC : C = ((t.take (20 + d.length)).set 10 0).set 11 0 := by
              rcases hF with e | ⟨_, _, _, _, e⟩
              · exfalso
                have := Z10.out
                rw [← e, Y10.out] at this
                omega
              · exact e
            obtain ⟨rfl, rfl, rfl, rfl⟩ := hq
            have HC := Lib.hid hC
            clear hC hF
            go_wp2_with (at_builtin; refine appN w7.heap.size rfl (.const (.slice none 0 0)) _ rfl (.slice none 0 0) [] (some ad) (t.take (20 + d.length)) _ _ rfl rfl (by rw [List.length_take]; omega) (Own.nil _ _) (RT7.take _) (Nat.le_refl _) (by rw [List.length_nil, List.length_take]; omega) ?_; intro v8 w8 hv8 hg8 ht8; rw [List.nil_append] at hv8; obtain ⟨g8, c8, rfl, hc8, hcm8, hg8', hgl8⟩ := hv8.form1 (by rw [List.length_take]; omega); have b8 := (Below.refl w7.heap.size w7).grown hg8 (Nat.le_refl _) (by intro k hk; cases hk); have RT8 := RT7.below b8; have HV8 := HV7.out.below b8; have O8 := Lib.hid (below_then' O7 O7.size b8); have q6 := RT8.nat 6 (by omega) (by omega); have q10 := RT8.nat 10 (by omega) (by omega); have q11 := RT8.nat 11 (by omega) (by omega); have p10 := HV8.nat 10 (by omega); have p11 := HV8.nat 11 (by omega); rw [X6.out] at q6; rw [X10.out] at q10; rw [X11.out] at q11; rw [Y10.out] at p10; rw [Y11.out] at p11; have s10 := hv8.nat 10 (by rw [List.length_take]; omega); have s11 := hv8.nat 11 (by rw [List.length_take]; omega); rw [Z10.out] at s10; rw [Z11.out] at s11; have f10 := hv8.frozen_ 10; have f11 := hv8.frozen_ 11; have cC := conv_str C.length c7 rfl HV8.ra; have cZ := conv_str (20 + d.length) c8 (by rw [List.length_take]; omega) hv8.ra; have W8 := Lib.hid hv8; have V8 := Lib.hid HV8; clear hv8 HV8 RT8 b8 hg8 ht8; have hne : g7 ≠ g8 := (by omega); have RC : RA ((w8.setCell ⟨g8, 10, none⟩ (.int .u8 0)).setCell ⟨g8, 11, none⟩ (.int .u8 0)) (some ⟨g7, 0, none⟩) C := ((V8.out.ra).far (p := ⟨g8, 10, none⟩) hne _).far (p := ⟨g8, 11, none⟩) hne _; have WZ := ((W8.out.set_n rfl 10 0).set_n (by rw [List.length_set]) 11 0); have RZ : RA ((w8.setCell ⟨g8, 10, none⟩ (.int .u8 0)).setCell ⟨g8, 11, none⟩ (.int .u8 0)) (some ⟨g8, 0, none⟩) (((t.take (20 + d.length)).set 10 0).set 11 0) := WZ.ra; have c9 := conv_str C.length c7 rfl RC; have cZ9 := conv_str (20 + d.length) c8 (by simp only [List.length_set, List.length_take] <;> omega) RZ; rw [← HC.out] at cZ9; have O9 := Lib.hid ((O8.out.setCell (p := ⟨g8, 10, none⟩) (by have := O7.size; simp only <;> omega) (.int .u8 0)).setCell (p := ⟨g8, 11, none⟩) (by have := O7.size; simp only <;> omega) (.int .u8 0)); clear cC cZ RC WZ RZ hne)
            go_ret
            exact ⟨rfl, O9.out⟩
          case neg =>
            have hC : C = t.take (20 + d.length) := by
              rcases hF with e | ⟨e1, e2, e3, e4, _⟩
              · exact e
              · exact absurd ⟨e1, e2, e3, e4⟩ hq
            have HC := Lib.hid hC
            clear hC hF
            by_cases e1 : x10 = 255
            case neg =>
              have e1' : ((x10 : Int) == 255) = false := by simp; omega
              clear e1 hq
              go_wp2_with (at_builtin; refine appN w7.heap.size rfl (.const (.slice none 0 0)) _ rfl (.slice none 0 0) [] (some ad) (t.take (20 + d.length)) _ _ rfl rfl (by rw [List.length_take]; omega) (Own.nil _ _) (RT7.take _) (Nat.le_refl _) (by rw [List.length_nil, List.length_take]; omega) ?_; intro v8 w8 hv8 hg8 ht8; rw [List.nil_append] at hv8; obtain ⟨g8, c8, rfl, hc8, hcm8, hg8', hgl8⟩ := hv8.form1 (by rw [List.length_take]; omega); have b8 := (Below.refl w7.heap.size w7).grown hg8 (Nat.le_refl _) (by intro k hk; cases hk); have RT8 := RT7.below b8; have HV8 := HV7.out.below b8; have O8 := Lib.hid (below_then' O7 O7.size b8); have q6 := RT8.nat 6 (by omega) (by omega); have q10 := RT8.nat 10 (by omega) (by omega); have q11 := RT8.nat 11 (by omega) (by omega); have p10 := HV8.nat 10 (by omega); have p11 := HV8.nat 11 (by omega); rw [X6.out] at q6; rw [X10.out] at q10; rw [X11.out] at q11; rw [Y10.out] at p10; rw [Y11.out] at p11; have s10 := hv8.nat 10 (by rw [List.length_take]; omega); have s11 := hv8.nat 11 (by rw [List.length_take]; omega); rw [Z10.out] at s10; rw [Z11.out] at s11; have f10 := hv8.frozen_ 10; have f11 := hv8.frozen_ 11; have cC := conv_str C.length c7 rfl HV8.ra; have cZ := conv_str (20 + d.length) c8 (by rw [List.length_take]; omega) hv8.ra; have W8 := Lib.hid hv8; have V8 := Lib.hid HV8; clear hv8 HV8 RT8 b8 hg8 ht8; rw [← HC.out] at cZ)
              go_ret
              exact ⟨rfl, O8.out⟩
            case pos =>
              subst e1
              by_cases e2 : x11 = 255
              case neg =>
                have e2' : ((x11 : Int) == 255) = false := by simp; omega
                clear e2 hq
                go_wp2_with (at_builtin; refine appN w7.heap.size rfl (.const (.slice none 0 0)) _ rfl (.slice none 0 0) [] (some ad) (t.take (20 + d.length)) _ _ rfl rfl (by rw [List.length_take]; omega) (Own.nil _ _) (RT7.take _) (Nat.le_refl _) (by rw [List.length_nil, List.length_take]; omega) ?_; intro v8 w8 hv8 hg8 ht8; rw [List.nil_append] at hv8; obtain ⟨g8, c8, rfl, hc8, hcm8, hg8', hgl8⟩ := hv8.form1 (by rw [List.length_take]; omega); have b8 := (Below.refl w7.heap.size w7).grown hg8 (Nat.le_refl _) (by intro k hk; cases hk); have RT8 := RT7.below b8; have HV8 := HV7.out.below b8; have O8 := Lib.hid (below_then' O7 O7.size b8); have q6 := RT8.nat 6 (by omega) (by omega); have q10 := RT8.nat 10 (by omega) (by omega); have q11 := RT8.nat 11 (by omega) (by omega); have p10 := HV8.nat 10 (by omega); have p11 := HV8.nat 11 (by omega); rw [X6.out] at q6; rw [X10.out] at q10; rw [X11.out] at q11; rw [Y10.out] at p10; rw [Y11.out] at p11; have s10 := hv8.nat 10 (by rw [List.length_take]; omega); have s11 := hv8.nat 11 (by rw [List.length_take]; omega); rw [Z10.out] at s10; rw [Z11.out] at s11; have f10 := hv8.frozen_ 10; have f11 := hv8.frozen_ 11; have cC := conv_str C.length c7 rfl HV8.ra; have cZ := conv_str (20 + d.length) c8 (by rw [List.length_take]; omega) hv8.ra; have W8 := Lib.hid hv8; have V8 := Lib.hid HV8; clear hv8 HV8 RT8 b8 hg8 ht8; rw [← HC.out] at cZ)
                go_ret
                exact ⟨rfl, O8.out⟩
              case pos =>
                subst e2
                by_cases e3 : y10 = 0
                case neg =>
                  have e3' : ((y10 : Int) == 0) = false := by simp; omega
                  clear e3 hq
                  go_wp2_with (at_builtin; refine appN w7.heap.size rfl (.const (.slice none 0 0)) _ rfl (.slice none 0 0) [] (some ad) (t.take (20 + d.length)) _ _ rfl rfl (by rw [List.length_take]; omega) (Own.nil _ _) (RT7.take _) (Nat.le_refl _) (by rw [List.length_nil, List.length_take]; omega) ?_; intro v8 w8 hv8 hg8 ht8; rw [List.nil_append] at hv8; obtain ⟨g8, c8, rfl, hc8, hcm8, hg8', hgl8⟩ := hv8.form1 (by rw [List.length_take]; omega); have b8 := (Below.refl w7.heap.size w7).grown hg8 (Nat.le_refl _) (by intro k hk; cases hk); have RT8 := RT7.below b8; have HV8 := HV7.out.below b8; have O8 := Lib.hid (below_then' O7 O7.size b8); have q6 := RT8.nat 6 (by omega) (by omega); have q10 := RT8.nat 10 (by omega) (by omega); have q11 := RT8.nat 11 (by omega) (by omega); have p10 := HV8.nat 10 (by omega); have p11 := HV8.nat 11 (by omega); rw [X6.out] at q6; rw [X10.out] at q10; rw [X11.out] at q11; rw [Y10.out] at p10; rw [Y11.out] at p11; have s10 := hv8.nat 10 (by rw [List.length_take]; omega); have s11 := hv8.nat 11 (by rw [List.length_take]; omega); rw [Z10.out] at s10; rw [Z11.out] at s11; have f10 := hv8.frozen_ 10; have f11 := hv8.frozen_ 11; have cC := conv_str C.length c7 rfl HV8.ra; have cZ := conv_str (20 + d.length) c8 (by rw [List.length_take]; omega) hv8.ra; have W8 := Lib.hid hv8; have V8 := Lib.hid HV8; clear hv8 HV8 RT8 b8 hg8 ht8; rw [← HC.out] at cZ)
                  go_ret
                  exact ⟨rfl, O8.out⟩
                case pos =>
                  subst e3
                  have e4' : ((y11 : Int) == 0) = false := by simp; omega
                  clear hq
                  go_wp2_with (at_builtin; refine appN w7.heap.size rfl (.const (.slice none 0 0)) _ rfl (.slice none 0 0) [] (some ad) (t.take (20 + d.length)) _ _ rfl rfl (by rw [List.length_take]; omega) (Own.nil _ _) (RT7.take _) (Nat.le_refl _) (by rw [List.length_nil, List.length_take]; omega) ?_; intro v8 w8 hv8 hg8 ht8; rw [List.nil_append] at hv8; obtain ⟨g8, c8, rfl, hc8, hcm8, hg8', hgl8⟩ := hv8.form1 (by rw [List.length_take]; omega); have b8 := (Below.refl w7.heap.size w7).grown hg8 (Nat.le_refl _) (by intro k hk; cases hk); have RT8 := RT7.below b8; have HV8 := HV7.out.below b8; have O8 := Lib.hid (below_then' O7 O7.size b8); have q6 := RT8.nat 6 (by omega) (by omega); have q10 := RT8.nat 10 (by omega) (by omega); have q11 := RT8.nat 11 (by omega) (by omega); have p10 := HV8.nat 10 (by omega); have p11 := HV8.nat 11 (by omega); rw [X6.out] at q6; rw [X10.out] at q10; rw [X11.out] at q11; rw [Y10.out] at p10; rw [Y11.out] at p11; have s10 := hv8.nat 10 (by rw [List.length_take]; omega); have s11 := hv8.nat 11 (by rw [List.length_take]; omega); rw [Z10.out] at s10; rw [Z11.out] at s11; have f10 := hv8.frozen_ 10; have f11 := hv8.frozen_ 11; have cC := conv_str C.length c7 rfl HV8.ra; have cZ := conv_str (20 + d.length) c8 (by rw [List.length_take]; omega) hv8.ra; have W8 := Lib.hid hv8; have V8 := Lib.hid HV8; clear hv8 HV8 RT8 b8 hg8 ht8; rw [← HC.out] at cZ)
                  go_ret
                  exact ⟨rfl, O8.out⟩
end Go.Proofs.Ytlhfphidanjafaa
