/- slipwaylaw09.InetTells, walked. -/
import Derived.Test.YtlhfphidanjafaaAwake
import Derived.Test.YtlhfphidanjafaaTellsAt
set_option linter.unusedVariables false
set_option linter.unusedSimpArgs false
namespace Go.Proofs.Ytlhfphidanjafaa
open Go.RowKit

set_option maxHeartbeats 300000 in
theorem InetTells_any (h : Hd) (hw : h.wf) (A : Option Addr) (l : List UInt8) (n c : Nat) (bit : Int) (w : World) (hn : n = l.length) (hA : RA w A l) (hc : n ≤ c) (hcm : c ≤ 9223372036854775807) (hl : n ≤ 140737488351232)
    (hbit : -9223372036854775808 ≤ bit ∧ bit ≤ 9223372036854775807) :
    Calls Try.prog 7 #[h.val, .slice A n c, .int .i64 bit] w fun e w' => e = .returned (.bool true) ∧ Below w.heap.size w w' := by
  subst hn
  have EA := fun W hA' => Encode_any h hw A l l.length c W rfl hA' hc hcm hl
  have hlaid := laid_read h l [] hw
  have hturn := turned (encL h l)
  rw [List.append_nil] at hlaid
  generalize encE h l.length = k at EA hlaid
  generalize encL h l = B at EA hlaid hturn
  obtain ⟨tos, id, ttl, proto, keep, src, dst⟩ := h
  simp only [Hd.val] at EA ⊢
  have HL := Lib.hid hlaid
  have HT := Lib.hid hturn
  have HE := Lib.hid EA
  clear hlaid hturn EA
  go_enter Try.func7, Try.ntmps7
  go_wp2_with fail
  refine (awake_any _).mono ?_
  rintro e w1 ⟨rfl, hb1⟩
  have H1 : Blk w1 w.heap.size 27 [.int .i64 tos, .int .i64 id, .int .i64 ttl, .int .i64 proto, .bool keep, .int .u32 src, .int .u32 dst] := Blk.beyond (Blk.new w _ _) hb1
  have O1 : Below w.heap.size w w1 := below_then' ((Below.refl _ _).alloc (Nat.le_refl _) _) (by simp <;> omega) hb1
  have R1 : RA w1 A l := hA.below O1
  clear hb1
  have h60 := H1.cell 0; have h61 := H1.cell 1; have h62 := H1.cell 2; have h63 := H1.cell 3; have h64 := H1.cell 4; have h65 := H1.cell 5; have h66 := H1.cell 6
  simp only [List.getElem?_cons_zero, List.getElem?_cons_succ] at h60 h61 h62 h63 h64 h65 h66
  go_wp2_with fail
  refine (HE.out w1 R1).mono ?_
  rintro e w2 ⟨v, rfl, hv, hb2⟩
  have O2 := below_then' O1 O1.size hb2
  clear H1 h60 h61 h62 h63 h64 h65 h66 hb2
  by_cases hk : k = 0
  case neg =>
    have hk1 : ((k : Int) != 0) = true := by simp; omega
    clear hv
    go_wp2
    go_ret
    exact ⟨rfl, O2⟩
  case pos =>
    subst hk
    obtain ⟨d1, _, _, d4⟩ := HL.out rfl
    clear HL HE
    have hB20 : ¬ (B.length : Int) < 20 := by omega
    obtain ⟨g, c2, rfl, hc2, hcm2, hg, hgl⟩ := hv.form1 (by omega)
    obtain ⟨r, a, q, s, e1, e2, e3, e4, e5, hq, hs⟩ := tells_at bit
    have hqB : (q : Int) < B.length := by omega
    have hqB' : q < B.length := by omega
    have hcq := hv.cell_ hqB'
    have hfq := hv.frozen_ q
    have ht := HT.out q
    unfold bv at hcq
    have hx8 : B[q].toNat < 256 := B[q].toNat_lt
    have ht' := fun y => ht y hq d1 hqB'
    generalize B[q].toNat = x at hcq hx8 ht'
    have hO1 := O1.size
    have HV := Lib.hid hv
    have HT' := Lib.hid ht'
    clear hv ht' ht d4 HT
    have h8 : s = 0 ∨ s = 1 ∨ s = 2 ∨ s = 3 ∨ s = 4 ∨ s = 5 ∨ s = 6 ∨ s = 7 := by omega
    clear hs
    rcases h8 with rfl | rfl | rfl | rfl | rfl | rfl | rfl | rfl
    · have e5' : (a : Int) % 8 = 0 := e5
      clear e5
      obtain ⟨y, hy, hy1, hy2, hy3⟩ := tells_bit x 0 1 hx8 (by omega) (by rfl)
      have hd := HT'.out y hy1 hy2 hy3
      have hd1 : ((decE (B.set q y) : Int) != 0) = true := by simp; omega
      have hy' : Value.int .u8 (bits .xor .u8 (x : Int) 1) = bv y := hy
      have HY := Lib.hid hy'
      clear hd hy hy1 hy2 hy3 hy'
      go_wp2_with fail
      rw [HY.out]
      refine (Decode_any (some ⟨g, 0, none⟩) (B.set q y) B.length c2 _ (by simp) (HV.out.set_ q y).ra hc2 hcm2).mono ?_
      rintro e w3 ⟨v, rfl, _, hb3⟩
      have O3 := below_then' (O2.setCell (p := ⟨g, q, none⟩) (by simp only; omega) (bv y)) (by have := O2.size; simp <;> omega) hb3
      clear HY
      obtain ⟨z1, z2, z3, z4, z5, z6, z7, hz⟩ := Hd.form (decH (B.set q y))
      rw [hz]
      clear hz
      go_wp2
      go_ret
      exact ⟨rfl, O3.alloc O3.size _⟩
    · have e5' : (a : Int) % 8 = 1 := e5
      clear e5
      obtain ⟨y, hy, hy1, hy2, hy3⟩ := tells_bit x 1 2 hx8 (by omega) (by rfl)
      have hd := HT'.out y hy1 hy2 hy3
      have hd1 : ((decE (B.set q y) : Int) != 0) = true := by simp; omega
      have hy' : Value.int .u8 (bits .xor .u8 (x : Int) 2) = bv y := hy
      have HY := Lib.hid hy'
      clear hd hy hy1 hy2 hy3 hy'
      go_wp2_with fail
      rw [HY.out]
      refine (Decode_any (some ⟨g, 0, none⟩) (B.set q y) B.length c2 _ (by simp) (HV.out.set_ q y).ra hc2 hcm2).mono ?_
      rintro e w3 ⟨v, rfl, _, hb3⟩
      have O3 := below_then' (O2.setCell (p := ⟨g, q, none⟩) (by simp only; omega) (bv y)) (by have := O2.size; simp <;> omega) hb3
      clear HY
      obtain ⟨z1, z2, z3, z4, z5, z6, z7, hz⟩ := Hd.form (decH (B.set q y))
      rw [hz]
      clear hz
      go_wp2
      go_ret
      exact ⟨rfl, O3.alloc O3.size _⟩
    · have e5' : (a : Int) % 8 = 2 := e5
      clear e5
      obtain ⟨y, hy, hy1, hy2, hy3⟩ := tells_bit x 2 4 hx8 (by omega) (by rfl)
      have hd := HT'.out y hy1 hy2 hy3
      have hd1 : ((decE (B.set q y) : Int) != 0) = true := by simp; omega
      have hy' : Value.int .u8 (bits .xor .u8 (x : Int) 4) = bv y := hy
      have HY := Lib.hid hy'
      clear hd hy hy1 hy2 hy3 hy'
      go_wp2_with fail
      rw [HY.out]
      refine (Decode_any (some ⟨g, 0, none⟩) (B.set q y) B.length c2 _ (by simp) (HV.out.set_ q y).ra hc2 hcm2).mono ?_
      rintro e w3 ⟨v, rfl, _, hb3⟩
      have O3 := below_then' (O2.setCell (p := ⟨g, q, none⟩) (by simp only; omega) (bv y)) (by have := O2.size; simp <;> omega) hb3
      clear HY
      obtain ⟨z1, z2, z3, z4, z5, z6, z7, hz⟩ := Hd.form (decH (B.set q y))
      rw [hz]
      clear hz
      go_wp2
      go_ret
      exact ⟨rfl, O3.alloc O3.size _⟩
    · have e5' : (a : Int) % 8 = 3 := e5
      clear e5
      obtain ⟨y, hy, hy1, hy2, hy3⟩ := tells_bit x 3 8 hx8 (by omega) (by rfl)
      have hd := HT'.out y hy1 hy2 hy3
      have hd1 : ((decE (B.set q y) : Int) != 0) = true := by simp; omega
      have hy' : Value.int .u8 (bits .xor .u8 (x : Int) 8) = bv y := hy
      have HY := Lib.hid hy'
      clear hd hy hy1 hy2 hy3 hy'
      go_wp2_with fail
      rw [HY.out]
      refine (Decode_any (some ⟨g, 0, none⟩) (B.set q y) B.length c2 _ (by simp) (HV.out.set_ q y).ra hc2 hcm2).mono ?_
      rintro e w3 ⟨v, rfl, _, hb3⟩
      have O3 := below_then' (O2.setCell (p := ⟨g, q, none⟩) (by simp only; omega) (bv y)) (by have := O2.size; simp <;> omega) hb3
      clear HY
      obtain ⟨z1, z2, z3, z4, z5, z6, z7, hz⟩ := Hd.form (decH (B.set q y))
      rw [hz]
      clear hz
      go_wp2
      go_ret
      exact ⟨rfl, O3.alloc O3.size _⟩
    · have e5' : (a : Int) % 8 = 4 := e5
      clear e5
      obtain ⟨y, hy, hy1, hy2, hy3⟩ := tells_bit x 4 16 hx8 (by omega) (by rfl)
      have hd := HT'.out y hy1 hy2 hy3
      have hd1 : ((decE (B.set q y) : Int) != 0) = true := by simp; omega
      have hy' : Value.int .u8 (bits .xor .u8 (x : Int) 16) = bv y := hy
      have HY := Lib.hid hy'
      clear hd hy hy1 hy2 hy3 hy'
      go_wp2_with fail
      rw [HY.out]
      refine (Decode_any (some ⟨g, 0, none⟩) (B.set q y) B.length c2 _ (by simp) (HV.out.set_ q y).ra hc2 hcm2).mono ?_
      rintro e w3 ⟨v, rfl, _, hb3⟩
      have O3 := below_then' (O2.setCell (p := ⟨g, q, none⟩) (by simp only; omega) (bv y)) (by have := O2.size; simp <;> omega) hb3
      clear HY
      obtain ⟨z1, z2, z3, z4, z5, z6, z7, hz⟩ := Hd.form (decH (B.set q y))
      rw [hz]
      clear hz
      go_wp2
      go_ret
      exact ⟨rfl, O3.alloc O3.size _⟩
    · have e5' : (a : Int) % 8 = 5 := e5
      clear e5
      obtain ⟨y, hy, hy1, hy2, hy3⟩ := tells_bit x 5 32 hx8 (by omega) (by rfl)
      have hd := HT'.out y hy1 hy2 hy3
      have hd1 : ((decE (B.set q y) : Int) != 0) = true := by simp; omega
      have hy' : Value.int .u8 (bits .xor .u8 (x : Int) 32) = bv y := hy
      have HY := Lib.hid hy'
      clear hd hy hy1 hy2 hy3 hy'
      go_wp2_with fail
      rw [HY.out]
      refine (Decode_any (some ⟨g, 0, none⟩) (B.set q y) B.length c2 _ (by simp) (HV.out.set_ q y).ra hc2 hcm2).mono ?_
      rintro e w3 ⟨v, rfl, _, hb3⟩
      have O3 := below_then' (O2.setCell (p := ⟨g, q, none⟩) (by simp only; omega) (bv y)) (by have := O2.size; simp <;> omega) hb3
      clear HY
      obtain ⟨z1, z2, z3, z4, z5, z6, z7, hz⟩ := Hd.form (decH (B.set q y))
      rw [hz]
      clear hz
      go_wp2
      go_ret
      exact ⟨rfl, O3.alloc O3.size _⟩
    · have e5' : (a : Int) % 8 = 6 := e5
      clear e5
      obtain ⟨y, hy, hy1, hy2, hy3⟩ := tells_bit x 6 64 hx8 (by omega) (by rfl)
      have hd := HT'.out y hy1 hy2 hy3
      have hd1 : ((decE (B.set q y) : Int) != 0) = true := by simp; omega
      have hy' : Value.int .u8 (bits .xor .u8 (x : Int) 64) = bv y := hy
      have HY := Lib.hid hy'
      clear hd hy hy1 hy2 hy3 hy'
      go_wp2_with fail
      rw [HY.out]
      refine (Decode_any (some ⟨g, 0, none⟩) (B.set q y) B.length c2 _ (by simp) (HV.out.set_ q y).ra hc2 hcm2).mono ?_
      rintro e w3 ⟨v, rfl, _, hb3⟩
      have O3 := below_then' (O2.setCell (p := ⟨g, q, none⟩) (by simp only; omega) (bv y)) (by have := O2.size; simp <;> omega) hb3
      clear HY
      obtain ⟨z1, z2, z3, z4, z5, z6, z7, hz⟩ := Hd.form (decH (B.set q y))
      rw [hz]
      clear hz
      go_wp2
      go_ret
      exact ⟨rfl, O3.alloc O3.size _⟩
    · have e5' : (a : Int) % 8 = 7 := e5
      clear e5
      obtain ⟨y, hy, hy1, hy2, hy3⟩ := tells_bit x 7 128 hx8 (by omega) (by rfl)
      have hd := HT'.out y hy1 hy2 hy3
      have hd1 : ((decE (B.set q y) : Int) != 0) = true := by simp; omega
      have hy' : Value.int .u8 (bits .xor .u8 (x : Int) 128) = bv y := hy
      have HY := Lib.hid hy'
      clear hd hy hy1 hy2 hy3 hy'
      go_wp2_with fail
      rw [HY.out]
      refine (Decode_any (some ⟨g, 0, none⟩) (B.set q y) B.length c2 _ (by simp) (HV.out.set_ q y).ra hc2 hcm2).mono ?_
      rintro e w3 ⟨v, rfl, _, hb3⟩
      have O3 := below_then' (O2.setCell (p := ⟨g, q, none⟩) (by simp only; omega) (bv y)) (by have := O2.size; simp <;> omega) hb3
      clear HY
      obtain ⟨z1, z2, z3, z4, z5, z6, z7, hz⟩ := Hd.form (decH (B.set q y))
      rw [hz]
      clear hz
      go_wp2
      go_ret
      exact ⟨rfl, O3.alloc O3.size _⟩
end Go.Proofs.Ytlhfphidanjafaa
