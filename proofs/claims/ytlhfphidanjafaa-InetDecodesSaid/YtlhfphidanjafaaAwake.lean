/- awake -/
import Derived.Test.YtlhfphidanjafaaInet
import Derived.Test.YtlhfphidanjafaaInetBad
import Derived.Test.YtlhfphidanjafaaDecode3
import Derived.Lib.SlBytesConst
set_option linter.unusedVariables false
set_option linter.unusedSimpArgs false
namespace Go.Proofs.Ytlhfphidanjafaa
open Go.RowKit

def ab : List UInt8 := [97, 98]
def abB : List UInt8 := [69, 0, 0, 22, 0, 7, 64, 0, 64, 17, 38, 206, 10, 0, 0, 2, 10, 0, 0, 1, 97, 98]
theorem abB_eq : encB 0 7 64 17 true 167772162 167772161 ab = abB := by decide +kernel

theorem ab_box (W : World) : RA (W.alloc (.cells #[.int .u8 97, .int .u8 98] 5 (2, 3))) (some ⟨W.heap.size, 0, none⟩) ab := by
  refine .inr ⟨_, rfl, by simp, fun j hj => ?_⟩
  rw [add_plain', Nat.zero_add, World.cell?_alloc_mark]
  match j, hj with
  | 0, _ => rfl
  | 1, _ => rfl

theorem zz_box (W : World) : RA (W.alloc (.cells #[.int .u8 0, .int .u8 0] 5)) (some ⟨W.heap.size, 0, none⟩) [0, 0] := by
  have : Buf (W.alloc (.cells #[.int .u8 0, .int .u8 0] 5)) W.heap.size [0, 0] := Blk.new W 5 [.int .u8 0, .int .u8 0]
  exact this.reads 0 2 (by simp)

def abL : List UInt8 := [69, 0, 0, 22, 0, 7, 64, 0, 64, 17, 38, 206, 10, 0, 0, 2, 10, 0, 0, 1, 97, 98, 0, 0]
theorem Decode_abL (A : Option Addr) (n c : Nat) (w : World) (hn : n = 24) (hA : RA w A abL) (hc : 24 ≤ c) (hcm : c ≤ 9223372036854775807) :
    Calls Try.prog 16 #[.slice A n c] w fun e w' => ∃ v, e = .returned (.tuple #[.agg #[.int .i64 0, .int .i64 7, .int .i64 64, .int .i64 17, .bool true, .int .u32 167772162, .int .u32 167772161], v, .int .i64 0]) ∧ Own w' w.heap.size v ab ∧ Below w.heap.size w w' := by
  subst hn
  refine (Decode_ok A abL c w hA hc hcm (by decide) ⟨by decide, by decide, by decide +kernel, by decide +kernel⟩ (by decide +kernel) (by decide +kernel) (by simp [abL])).mono ?_
  rintro e w4 ⟨v4, rfl, hv4, hb4⟩
  exact ⟨v4, by kernel_rfl, hv4, hb4⟩
theorem Decode_19 (A : Option Addr) (l : List UInt8) (n c : Nat) (w : World) (hn : n = l.length) (hA : RA w A l) (hc : n ≤ c) (hcm : c ≤ 9223372036854775807) (hl : n < 20) :
    Calls Try.prog 16 #[.slice A n c] w fun e w' => e = .returned (.tuple #[.agg #[.int .i64 0, .int .i64 0, .int .i64 0, .int .i64 0, .bool false, .int .u32 0, .int .u32 0], .slice none 0 0, .int .i64 5]) ∧ Below w.heap.size w w' := by
  subst hn
  exact Decode_short A l c w hA hc hcm hl
theorem Encode_none (w : World) :
    Calls Try.prog 11 #[.agg #[.int .i64 0, .int .i64 0, .int .i64 0, .int .i64 0, .bool false, .int .u32 0, .int .u32 0], .slice none 0 0] w fun e w' => e = .returned (.tuple #[.slice none 0 0, .int .i64 1]) ∧ Below w.heap.size w w' :=
  Encode_arg 0 0 0 0 0 0 false _ w (by omega) (by omega) (by omega) (by omega) (by omega)

set_option maxHeartbeats 600000 in
theorem awake_any (w : World) : Calls Try.prog 8 #[] w fun e w' => e = .returned (.bool true) ∧ Below w.heap.size w w' := by
  have hcs : (convert 28 28 (.slice (some ⟨w.heap.size + 1, 0, none⟩) 2 2)).run Try.prog ((w.alloc (.cells #[.int .i64 0, .int .i64 7, .int .i64 64, .int .i64 17, .bool true, .int .u32 167772162, .int .u32 167772161] 27)).alloc (.cells #[.int .u8 97, .int .u8 98] 5)) =
      .ok (.slice (some ⟨w.heap.size + 1, 0, none⟩) 2 2) ((w.alloc (.cells #[.int .i64 0, .int .i64 7, .int .i64 64, .int .i64 17, .bool true, .int .u32 167772162, .int .u32 167772161] 27)).alloc (.cells #[.int .u8 97, .int .u8 98] 5 (2, 3))) := by
    have := Lib.run_convert_bytes_const (P := Try.prog) (w.alloc (.cells #[.int .i64 0, .int .i64 7, .int .i64 64, .int .i64 17, .bool true, .int .u32 167772162, .int .u32 167772161] 27)) 28 5 #[.int .u8 97, .int .u8 98] 2 2 Try.underlying28 Try.underlying5
    simpa using this
  go_enter Try.func8, Try.ntmps8
  go_wp2_with fail
  refine (Encode_ok 0 7 64 17 167772162 167772161 true _ ab 2 _ ?_ ?_ ?_ (by omega) (by omega) (by omega) (by omega) (by omega) (by omega) (by omega) ?_).mono ?_
  · exact (by simpa using ab_box (w.alloc (.cells #[.int .i64 0, .int .i64 7, .int .i64 64, .int .i64 17, .bool true, .int .u32 167772162, .int .u32 167772161] 27)))
  · simp [ab]
  · omega
  · simp [ab]
  rintro e w1 ⟨v, rfl, hv, hb1⟩
  rw [abB_eq] at hv
  have H1 : Blk w1 w.heap.size 27 [.int .i64 0, .int .i64 7, .int .i64 64, .int .i64 17, .bool true, .int .u32 167772162, .int .u32 167772161] := Blk.beyond ((Blk.new w _ _).alloc _) hb1
  have O1 : Below w.heap.size w w1 := below_then' (((Below.refl _ _).alloc (Nat.le_refl _) _).alloc (by simp) _) (by simp <;> omega) hb1
  have hv1 := hv.less (base := w.heap.size) (by simp <;> omega)
  clear hb1 hv
  obtain ⟨A1, c1, rfl, hr1, hc1, hq1⟩ := hv1.form
  have hs1 := conv_str 22 c1 rfl hr1
  have HV1 := Lib.hid hv1
  have HR1 := Lib.hid hr1
  have HC1 := Lib.hid hc1
  clear hv1 hr1 hc1 hq1
  rw [show abB.length = 22 from rfl]
  have hq1 : (abB == [69, 0, 0, 22, 0, 7, 64, 0, 64, 17, 38, 206, 10, 0, 0, 2, 10, 0, 0, 1, 97, 98]) = true := by decide
  go_wp2_with (first
    | (at_builtin; refine appN w.heap.size rfl (.const (.slice none 0 0)) _ rfl (.slice none 0 0) [] A1 abB _ _ rfl rfl rfl (Own.nil _ _) HR1.out O1.size (by simp [abB]) ?_; intro v2 w2 hv2 hg2 ht2; rw [List.nil_append] at hv2; have O2 := O1.grown hg2 O1.size (by intro k hk; cases hk); have H2 := H1.grown hg2 (by simp [Value.ownBlock]); have R2 := HR1.out.grown hg2 (by intro ad _ _; simp [Value.ownBlock]); have HR2 := Lib.hid R2; clear hg2 R2; have HT2 := Lib.hid ht2; clear ht2)
    | (at_builtin; refine appN w.heap.size rfl (.tmp 30) _ rfl v2 abB (some ⟨w2.heap.size, 0, none⟩) [0, 0] _ _ rfl rfl rfl (hv2.alloc _) (zz_box w2) (by have := O2.size; simp <;> omega) (by simp [abB]) ?_; intro v3 w3 hv3 hg3 ht3))
  have e2 : ∀ k, v2.ownBlock = some k → w1.heap.size ≤ k := by
    intro k hk
    rcases HT2.out with h | ⟨k', h, hle⟩
    · rw [h] at hk; cases hk
    · rw [h] at hk; injection hk with hk; omega
  have R3 : RA w3 A1 abB := (HR2.out.alloc _).grown hg3 (by intro ad hA hne he; subst hA; have := RA.lt HR1.out hne; have := e2 _ he.symm; omega)
  have H3 := (H2.alloc _).grown hg3 (by intro he; have := e2 _ he.symm; have := H1.lt; omega)
  have O3 := (O2.alloc O2.size _).grown hg3 (by have := O2.size; simp <;> omega) (by intro k hk; have := e2 k hk; have := O1.size; omega)
  obtain ⟨A3, c3, rfl, hr3, hc3, hq3⟩ := hv3.form
  have hcap := hv3.cap
  have hr3' : RA w3 A3 abL := hr3
  have h24 : (abB ++ [0, 0]).length = 24 := by decide
  generalize (abB ++ [0, 0]).length = n24 at h24 hc3 ⊢
  subst h24
  have hc3' : 24 ≤ c3 := hc3
  refine (Decode_abL A3 24 c3 w3 rfl hr3' hc3' hcap).mono ?_
  rintro e w4 ⟨v4, rfl, hv4, hb4⟩
  have R4 := R3.below hb4
  have H4 := H3.beyond hb4
  have O4 := below_then' O3 O3.size hb4
  obtain ⟨A4, c4, rfl, hr4, hc4, hq4⟩ := hv4.form
  have HR4 := Lib.hid R4
  have HS4 := Lib.hid hr4
  have H4' := Lib.hid H4
  have O4' := Lib.hid O4
  have n19 : (19 : Int) ≤ c1 := by have := HC1.out; simp [abB] at this; omega
  clear R4 H4 O4 hr4 hv4 hb4 R3 H3 O3 hv3 hg3 ht3 hq3 hq4 hr3 hc3 e2 H2 O2 hv2 HT2 HR2 hcs hs1
  go_wp2_with fail
  have hcut := HR4.out.cut 0 19 c1 (by omega) (by simp [abB]) HC1.out
  have hc1m := HV1.out.cap
  have H4b := H4'.out.alloc (.cells #[.int .i64 0, .int .i64 7, .int .i64 64, .int .i64 17, .bool true, .int .u32 167772162, .int .u32 167772161] 27)
  have B4 : Blk (w4.alloc (.cells #[.int .i64 0, .int .i64 7, .int .i64 64, .int .i64 17, .bool true, .int .u32 167772162, .int .u32 167772161] 27)) w4.heap.size 27 [.int .i64 0, .int .i64 7, .int .i64 64, .int .i64 17, .bool true, .int .u32 167772162, .int .u32 167772161] := Blk.new w4 _ _
  have hA1 : (if c1 = 0 then A1 else A1.map (·.add 0)) = A1 := by cases A1 <;> simp [Addr.add]
  rw [hA1] at hcut
  have hcut' : RA (w4.alloc (.cells #[.int .i64 0, .int .i64 7, .int .i64 64, .int .i64 17, .bool true, .int .u32 167772162, .int .u32 167772161] 27)) A1 (abB.take 19) := RA.alloc (by simpa using hcut) _
  have S4b := HS4.out.alloc (.cells #[.int .i64 0, .int .i64 7, .int .i64 64, .int .i64 17, .bool true, .int .u32 167772162, .int .u32 167772161] 27)
  have O4b := O4'.out.alloc O4'.out.size (.cells #[.int .i64 0, .int .i64 7, .int .i64 64, .int .i64 17, .bool true, .int .u32 167772162, .int .u32 167772161] 27)
  refine (Decode_19 A1 (abB.take 19) 19 c1 _ (by decide) hcut' (by omega) hc1m (by decide)).mono ?_
  rintro e w5 ⟨rfl, hb5⟩
  have H5 := Lib.hid (H4b.beyond hb5)
  have B5 := Lib.hid (B4.beyond hb5)
  have S5 := Lib.hid (S4b.below hb5)
  have O5 := Lib.hid (below_then' O4b O4b.size hb5)
  clear hcut hcut' H4b B4 S4b O4b hb5 hA1
  go_wp2_with fail
  refine (Encode_none _).mono ?_
  rintro e w6 ⟨rfl, hb6⟩
  have H6 := (H5.out.alloc (.cells #[.int .i64 0, .int .i64 0, .int .i64 0, .int .i64 0, .bool false, .int .u32 0, .int .u32 0] 27)).beyond hb6
  have B6 := (B5.out.alloc (.cells #[.int .i64 0, .int .i64 0, .int .i64 0, .int .i64 0, .bool false, .int .u32 0, .int .u32 0] 27)).beyond hb6
  have S6 := (S5.out.alloc (.cells #[.int .i64 0, .int .i64 0, .int .i64 0, .int .i64 0, .bool false, .int .u32 0, .int .u32 0] 27)).below hb6
  have O6a := O5.out.alloc O5.out.size (.cells #[.int .i64 0, .int .i64 0, .int .i64 0, .int .i64 0, .bool false, .int .u32 0, .int .u32 0] 27)
  have O6 := Lib.hid (below_then' O6a O6a.size hb6)
  have hs6 := conv_str ab.length c4 rfl S6
  clear hb6 S6 O6a
  have h60 := H6.cell 0; have h61 := H6.cell 1; have h62 := H6.cell 2; have h63 := H6.cell 3; have h64 := H6.cell 4; have h65 := H6.cell 5; have h66 := H6.cell 6
  have b60 := B6.cell 0; have b61 := B6.cell 1; have b62 := B6.cell 2; have b63 := B6.cell 3; have b64 := B6.cell 4; have b65 := B6.cell 5; have b66 := B6.cell 6
  simp only [List.getElem?_cons_zero, List.getElem?_cons_succ] at h60 h61 h62 h63 h64 h65 h66 b60 b61 b62 b63 b64 b65 b66
  have ed : (ab == [97, 98]) = true := by decide
  go_wp2_with fail
  go_ret
  exact ⟨rfl, O6.out⟩
end Go.Proofs.Ytlhfphidanjafaa
