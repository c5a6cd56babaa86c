/- slipwayref09: put, Head, Encode, number, Decode. -/
import Derived.Test.YtlhfphidanjafaaRef01
import Derived.Test.YtlhfphidanjafaaBoth
set_option linter.unusedVariables false
set_option linter.unusedSimpArgs false
namespace Go.Proofs.Ytlhfphidanjafaa
open Go.RowKit

set_option maxHeartbeats 1000000 in
theorem put_any (base : Nat) (v : Value) (l : List UInt8) (n width : Int) (w : World) (hv : Own w base v l) (hb : base ≤ w.heap.size) (h0 : 0 ≤ n) (hn : n ≤ 4611686018427387904) (h1 : 1 ≤ width) (h8 : width ≤ 8) (hl : l.length ≤ 1000000000000) :
    Calls Try.prog 28 #[v, .int .i64 n, .int .i64 width] w fun e w' => ∃ v', e = .returned v' ∧ Own w' base v' (l ++ be n.toNat width.toNat) ∧ w.grownBy w' v.ownBlock ∧ (v'.ownBlock = v.ownBlock ∨ ∃ k, v'.ownBlock = some k ∧ w.heap.size ≤ k) := by
  have hw : IntKind.u64.wrap n = n := by rw [IntKind.wrap_u64]; omega
  have HV := Lib.hid hv
  clear hv
  go_enter Try.func28, Try.ntmps28
  go_wp2_with (first
    | (go_at_call 32; refine (rPut_int n width _ h0 (by omega) h1 h8).mono ?_; rintro e w1 ⟨v1, rfl, ho1, hb1⟩; obtain ⟨A1, c1, rfl, hr1, _, _⟩ := ho1.form; have HV1 := HV.out.below hb1; have hz1 : w.heap.size ≤ w1.heap.size := hb1.size)
    | (at_builtin; refine appN base rfl _ _ rfl v l A1 (be n.toNat width.toNat) _ c1 rfl rfl rfl HV1 hr1 (by omega) (by rw [be_length]; omega) ?_; intro v2 w2 ho2 hg2 ha2))
  go_ret
  refine ⟨v2, rfl, ho2, (grown_of_below' hb1 _).trans hg2, ha2.imp id fun ⟨k, h1, h2⟩ => ⟨k, h1, by omega⟩⟩

/-- put, where a box stands beside -/
theorem put_box (base : Nat) (v : Value) (l : List UInt8) (n : Int) (m : Nat) (width : Int) (w : World) (g : Nat) (cs : List Value) (hm : n = m) (hv : Own w base v l) (hk : Blk w g 27 cs) (hb : base ≤ w.heap.size) (hn : m ≤ 4611686018427387904) (h1 : 1 ≤ width) (h8 : width ≤ 8) (hl : l.length ≤ 1000000000000) :
    Calls Try.prog 28 #[v, .int .i64 n, .int .i64 width] w fun e w' => ∃ v', e = .returned v' ∧ Own w' base v' (l ++ be m width.toNat) ∧ Blk w' g 27 cs ∧ Below base w w' ∧ base ≤ w'.heap.size := by
  subst hm
  refine (put_any base v l m width w hv hb (by omega) (by omega) h1 h8 hl).mono ?_
  rintro e w' ⟨v', rfl, ho, hg, _⟩
  refine ⟨v', rfl, by simpa using ho, hk.grown hg (Ne.symm (owns_blk hv hk (by decide))), (Below.refl _ _).grown hg hb (fun k hk => (owns_lt hv hk).1), Nat.le_trans hb hg.size⟩

theorem two_box (W : World) (a b : UInt8) : Buf (W.alloc (.cells #[bv a, bv b] 5)) W.heap.size [a, b] := Blk.new W 5 [bv a, bv b]

set_option maxHeartbeats 4000000 in
theorem Head_false (tos id ttl proto src dst len sum : Nat) (w : World) (h1 : tos < 256) (h2 : proto < 256) (h3 : id < 65536) (h5 : ttl < 256) (h6 : src < 4294967296) (h7 : dst < 4294967296) (h8 : len ≤ 4611686018427387904) (h9 : sum ≤ 65535) :
    Calls Try.prog 17 #[.agg #[.int .i64 tos, .int .i64 id, .int .i64 ttl, .int .i64 proto, .bool false, .int .u32 src, .int .u32 dst], .int .i64 len, .int .i64 sum] w fun e w' =>
      ∃ v, e = .returned v ∧ Own w' w.heap.size v (hdr tos len id 0 ttl proto sum src dst) ∧ Below w.heap.size w w' := by
  go_enter Try.func17, Try.ntmps17
  go_wp2_with fail
  have hB0 : Blk ((w.alloc (.cells #[.int .i64 tos, .int .i64 id, .int .i64 ttl, .int .i64 proto, .bool false, .int .u32 src, .int .u32 dst] 27)).alloc (.cells #[.int .u8 69, .int .u8 tos] 5)) w.heap.size 27 [.int .i64 tos, .int .i64 id, .int .i64 ttl, .int .i64 proto, .bool false, .int .u32 src, .int .u32 dst] := (Blk.new w _ _).alloc _
  have hO0 : Own ((w.alloc (.cells #[.int .i64 tos, .int .i64 id, .int .i64 ttl, .int .i64 proto, .bool false, .int .u32 src, .int .u32 dst] 27)).alloc (.cells #[.int .u8 69, .int .u8 tos] 5)) w.heap.size (.slice (some ⟨w.heap.size + 1, 0, none⟩) 2 2) [69, UInt8.ofNat tos] := by
    have := two_box (w.alloc (.cells #[.int .i64 tos, .int .i64 id, .int .i64 ttl, .int .i64 proto, .bool false, .int .u32 src, .int .u32 dst] 27)) 69 (UInt8.ofNat tos)
    rw [bv_nat tos h1, show bv 69 = .int .u8 69 from rfl] at this
    have := this.whole (base := w.heap.size) (n := 2) (by simp) rfl (by simp [maxLen])
    simpa using this
  have HBx : Hid (Below w.heap.size w ((w.alloc (.cells #[.int .i64 tos, .int .i64 id, .int .i64 ttl, .int .i64 proto, .bool false, .int .u32 src, .int .u32 dst] 27)).alloc (.cells #[.int .u8 69, .int .u8 tos] 5))) := Lib.hid (((Below.refl _ _).alloc (Nat.le_refl _) _).alloc (by simp) _)
  have HB0 := Lib.hid hB0
  have HO0 := Lib.hid hO0
  clear hB0 hO0
  have hz : w.heap.size ≤ ((w.alloc (.cells #[.int .i64 tos, .int .i64 id, .int .i64 ttl, .int .i64 proto, .bool false, .int .u32 src, .int .u32 dst] 27)).alloc (.cells #[.int .u8 69, .int .u8 tos] 5)).heap.size := by simp <;> omega
  refine (put_box w.heap.size _ [69, UInt8.ofNat tos] _ len 2 _ w.heap.size _ (by simp) HO0.out HB0.out (by assumption) (by omega) (by omega) (by omega) (by simp [be_length])).mono ?_
  rintro e w1 ⟨v1, rfl, ho, hk, hb, hz⟩
  have HO1 := Lib.hid ho
  have HK1 := Lib.hid hk
  have HB1 := Lib.hid (HBx.out.trans hb)
  clear HBx
  have HBx := HB1
  have k0 := hk.cell 0
  have k1 := hk.cell 1
  have k2 := hk.cell 2
  have k3 := hk.cell 3
  have k5 := hk.cell 5
  have k6 := hk.cell 6
  simp only [List.getElem?_cons_zero, List.getElem?_cons_succ] at k0 k1 k2 k3 k5 k6
  clear ho hk hb
  go_wp2_with fail
  refine (put_box w.heap.size _ ([69, UInt8.ofNat tos] ++ be len 2) _ id 2 _ w.heap.size _ (by simp) HO1.out HK1.out (by assumption) (by omega) (by omega) (by omega) (by simp [be_length])).mono ?_
  rintro e w2 ⟨v2, rfl, ho, hk, hb, hz⟩
  have HO2 := Lib.hid ho
  have HK2 := Lib.hid hk
  have HB2 := Lib.hid (HBx.out.trans hb)
  clear HBx
  have HBx := HB2
  have k0 := hk.cell 0
  have k1 := hk.cell 1
  have k2 := hk.cell 2
  have k3 := hk.cell 3
  have k5 := hk.cell 5
  have k6 := hk.cell 6
  simp only [List.getElem?_cons_zero, List.getElem?_cons_succ] at k0 k1 k2 k3 k5 k6
  clear ho hk hb
  go_wp2_with fail
  refine (put_box w.heap.size _ ([69, UInt8.ofNat tos] ++ be len 2 ++ be id 2) _ 0 2 _ w.heap.size _ (by simp) HO2.out HK2.out (by assumption) (by omega) (by omega) (by omega) (by simp [be_length])).mono ?_
  rintro e w3 ⟨v3, rfl, ho, hk, hb, hz⟩
  have HO3 := Lib.hid ho
  have HK3 := Lib.hid hk
  have HB3 := Lib.hid (HBx.out.trans hb)
  clear HBx
  have HBx := HB3
  have k0 := hk.cell 0
  have k1 := hk.cell 1
  have k2 := hk.cell 2
  have k3 := hk.cell 3
  have k5 := hk.cell 5
  have k6 := hk.cell 6
  simp only [List.getElem?_cons_zero, List.getElem?_cons_succ] at k0 k1 k2 k3 k5 k6
  clear ho hk hb
  have hr2 : RA (w3.alloc (.cells #[.int .u8 ttl, .int .u8 proto] 5)) (some ⟨w3.heap.size, 0, none⟩) [UInt8.ofNat ttl, UInt8.ofNat proto] := by
    have := (two_box w3 (UInt8.ofNat ttl) (UInt8.ofNat proto)).reads 0 2 (by simp)
    rw [bv_nat ttl h5, bv_nat proto h2] at this
    simpa using this
  have HR2 := Lib.hid hr2
  have K4 : Hid (w.heap.size ≤ (w3.alloc (.cells #[.int .u8 ttl, .int .u8 proto] 5)).heap.size) := Lib.hid (by simp; omega)
  have K5 : Hid (([69, UInt8.ofNat tos] ++ be len 2 ++ be id 2 ++ be 0 2).length + [UInt8.ofNat ttl, UInt8.ofNat proto].length ≤ 140737488355328) := Lib.hid (by simp [be_length])
  clear hr2
  go_wp2_with (at_builtin; refine appN w.heap.size rfl _ _ rfl v3 ([69, UInt8.ofNat tos] ++ be len 2 ++ be id 2 ++ be 0 2) (some ⟨w3.heap.size, 0, none⟩) [UInt8.ofNat ttl, UInt8.ofNat proto] _ _ rfl rfl rfl (HO3.out.alloc _) HR2.out K4.out K5.out ?_; intro v4 w4 ho4 hg4 ha4)
  have hk4 : Blk w4 w.heap.size 27 _ := (HK3.out.alloc _).grown hg4 (Ne.symm (owns_blk HO3.out HK3.out (by decide)))
  have HBy := (HB3.out.alloc hz _).grown hg4 K4.out (fun k hk => (owns_lt HO3.out hk).1)
  clear HBx
  have HBx := Lib.hid HBy
  have hz : w.heap.size ≤ w4.heap.size := HBy.size
  clear HBy
  have HO4 := Lib.hid ho4
  have HK4 := Lib.hid hk4
  clear ho4 hg4 ha4 hk4
  refine (put_box w.heap.size _ ([69, UInt8.ofNat tos] ++ be len 2 ++ be id 2 ++ be 0 2 ++ [UInt8.ofNat ttl, UInt8.ofNat proto]) _ sum 2 _ w.heap.size _ (by simp) HO4.out HK4.out (by assumption) (by omega) (by omega) (by omega) (by simp [be_length])).mono ?_
  rintro e w5 ⟨v5, rfl, ho, hk, hb, hz⟩
  have HO5 := Lib.hid ho
  have HK5 := Lib.hid hk
  have HB5 := Lib.hid (HBx.out.trans hb)
  clear HBx
  have HBx := HB5
  have k0 := hk.cell 0
  have k1 := hk.cell 1
  have k2 := hk.cell 2
  have k3 := hk.cell 3
  have k5 := hk.cell 5
  have k6 := hk.cell 6
  simp only [List.getElem?_cons_zero, List.getElem?_cons_succ] at k0 k1 k2 k3 k5 k6
  clear ho hk hb
  go_wp2_with fail
  refine (put_box w.heap.size _ ([69, UInt8.ofNat tos] ++ be len 2 ++ be id 2 ++ be 0 2 ++ [UInt8.ofNat ttl, UInt8.ofNat proto] ++ be sum 2) _ src 4 _ w.heap.size _ (by simp) HO5.out HK5.out (by assumption) (by omega) (by omega) (by omega) (by simp [be_length])).mono ?_
  rintro e w6 ⟨v6, rfl, ho, hk, hb, hz⟩
  have HO6 := Lib.hid ho
  have HK6 := Lib.hid hk
  have HB6 := Lib.hid (HBx.out.trans hb)
  clear HBx
  have HBx := HB6
  have k0 := hk.cell 0
  have k1 := hk.cell 1
  have k2 := hk.cell 2
  have k3 := hk.cell 3
  have k5 := hk.cell 5
  have k6 := hk.cell 6
  simp only [List.getElem?_cons_zero, List.getElem?_cons_succ] at k0 k1 k2 k3 k5 k6
  clear ho hk hb
  go_wp2_with fail
  refine (put_box w.heap.size _ ([69, UInt8.ofNat tos] ++ be len 2 ++ be id 2 ++ be 0 2 ++ [UInt8.ofNat ttl, UInt8.ofNat proto] ++ be sum 2 ++ be src 4) _ dst 4 _ w.heap.size _ (by simp) HO6.out HK6.out (by assumption) (by omega) (by omega) (by omega) (by simp [be_length])).mono ?_
  rintro e w7 ⟨v7, rfl, ho, hk, hb, hz⟩
  have HO7 := Lib.hid ho
  have HK7 := Lib.hid hk
  have HB7 := Lib.hid (HBx.out.trans hb)
  clear HBx
  have HBx := HB7
  have k0 := hk.cell 0
  have k1 := hk.cell 1
  have k2 := hk.cell 2
  have k3 := hk.cell 3
  have k5 := hk.cell 5
  have k6 := hk.cell 6
  simp only [List.getElem?_cons_zero, List.getElem?_cons_succ] at k0 k1 k2 k3 k5 k6
  clear ho hk hb
  go_wp2
  go_ret
  exact ⟨v7, rfl, HO7.out, HB7.out⟩
set_option maxHeartbeats 4000000 in
theorem Head_true (tos id ttl proto src dst len sum : Nat) (w : World) (h1 : tos < 256) (h2 : proto < 256) (h3 : id < 65536) (h5 : ttl < 256) (h6 : src < 4294967296) (h7 : dst < 4294967296) (h8 : len ≤ 4611686018427387904) (h9 : sum ≤ 65535) :
    Calls Try.prog 17 #[.agg #[.int .i64 tos, .int .i64 id, .int .i64 ttl, .int .i64 proto, .bool true, .int .u32 src, .int .u32 dst], .int .i64 len, .int .i64 sum] w fun e w' =>
      ∃ v, e = .returned v ∧ Own w' w.heap.size v (hdr tos len id 16384 ttl proto sum src dst) ∧ Below w.heap.size w w' := by
  go_enter Try.func17, Try.ntmps17
  go_wp2_with fail
  have hB0 : Blk ((w.alloc (.cells #[.int .i64 tos, .int .i64 id, .int .i64 ttl, .int .i64 proto, .bool true, .int .u32 src, .int .u32 dst] 27)).alloc (.cells #[.int .u8 69, .int .u8 tos] 5)) w.heap.size 27 [.int .i64 tos, .int .i64 id, .int .i64 ttl, .int .i64 proto, .bool true, .int .u32 src, .int .u32 dst] := (Blk.new w _ _).alloc _
  have hO0 : Own ((w.alloc (.cells #[.int .i64 tos, .int .i64 id, .int .i64 ttl, .int .i64 proto, .bool true, .int .u32 src, .int .u32 dst] 27)).alloc (.cells #[.int .u8 69, .int .u8 tos] 5)) w.heap.size (.slice (some ⟨w.heap.size + 1, 0, none⟩) 2 2) [69, UInt8.ofNat tos] := by
    have := two_box (w.alloc (.cells #[.int .i64 tos, .int .i64 id, .int .i64 ttl, .int .i64 proto, .bool true, .int .u32 src, .int .u32 dst] 27)) 69 (UInt8.ofNat tos)
    rw [bv_nat tos h1, show bv 69 = .int .u8 69 from rfl] at this
    have := this.whole (base := w.heap.size) (n := 2) (by simp) rfl (by simp [maxLen])
    simpa using this
  have HBx : Hid (Below w.heap.size w ((w.alloc (.cells #[.int .i64 tos, .int .i64 id, .int .i64 ttl, .int .i64 proto, .bool true, .int .u32 src, .int .u32 dst] 27)).alloc (.cells #[.int .u8 69, .int .u8 tos] 5))) := Lib.hid (((Below.refl _ _).alloc (Nat.le_refl _) _).alloc (by simp) _)
  have HB0 := Lib.hid hB0
  have HO0 := Lib.hid hO0
  clear hB0 hO0
  have hz : w.heap.size ≤ ((w.alloc (.cells #[.int .i64 tos, .int .i64 id, .int .i64 ttl, .int .i64 proto, .bool true, .int .u32 src, .int .u32 dst] 27)).alloc (.cells #[.int .u8 69, .int .u8 tos] 5)).heap.size := by simp <;> omega
  refine (put_box w.heap.size _ [69, UInt8.ofNat tos] _ len 2 _ w.heap.size _ (by simp) HO0.out HB0.out (by assumption) (by omega) (by omega) (by omega) (by simp [be_length])).mono ?_
  rintro e w1 ⟨v1, rfl, ho, hk, hb, hz⟩
  have HO1 := Lib.hid ho
  have HK1 := Lib.hid hk
  have HB1 := Lib.hid (HBx.out.trans hb)
  clear HBx
  have HBx := HB1
  have k0 := hk.cell 0
  have k1 := hk.cell 1
  have k2 := hk.cell 2
  have k3 := hk.cell 3
  have k5 := hk.cell 5
  have k6 := hk.cell 6
  simp only [List.getElem?_cons_zero, List.getElem?_cons_succ] at k0 k1 k2 k3 k5 k6
  clear ho hk hb
  go_wp2_with fail
  refine (put_box w.heap.size _ ([69, UInt8.ofNat tos] ++ be len 2) _ id 2 _ w.heap.size _ (by simp) HO1.out HK1.out (by assumption) (by omega) (by omega) (by omega) (by simp [be_length])).mono ?_
  rintro e w2 ⟨v2, rfl, ho, hk, hb, hz⟩
  have HO2 := Lib.hid ho
  have HK2 := Lib.hid hk
  have HB2 := Lib.hid (HBx.out.trans hb)
  clear HBx
  have HBx := HB2
  have k0 := hk.cell 0
  have k1 := hk.cell 1
  have k2 := hk.cell 2
  have k3 := hk.cell 3
  have k5 := hk.cell 5
  have k6 := hk.cell 6
  simp only [List.getElem?_cons_zero, List.getElem?_cons_succ] at k0 k1 k2 k3 k5 k6
  clear ho hk hb
  go_wp2_with fail
  refine (put_box w.heap.size _ ([69, UInt8.ofNat tos] ++ be len 2 ++ be id 2) _ 16384 2 _ w.heap.size _ (by simp) HO2.out HK2.out (by assumption) (by omega) (by omega) (by omega) (by simp [be_length])).mono ?_
  rintro e w3 ⟨v3, rfl, ho, hk, hb, hz⟩
  have HO3 := Lib.hid ho
  have HK3 := Lib.hid hk
  have HB3 := Lib.hid (HBx.out.trans hb)
  clear HBx
  have HBx := HB3
  have k0 := hk.cell 0
  have k1 := hk.cell 1
  have k2 := hk.cell 2
  have k3 := hk.cell 3
  have k5 := hk.cell 5
  have k6 := hk.cell 6
  simp only [List.getElem?_cons_zero, List.getElem?_cons_succ] at k0 k1 k2 k3 k5 k6
  clear ho hk hb
  have hr2 : RA (w3.alloc (.cells #[.int .u8 ttl, .int .u8 proto] 5)) (some ⟨w3.heap.size, 0, none⟩) [UInt8.ofNat ttl, UInt8.ofNat proto] := by
    have := (two_box w3 (UInt8.ofNat ttl) (UInt8.ofNat proto)).reads 0 2 (by simp)
    rw [bv_nat ttl h5, bv_nat proto h2] at this
    simpa using this
  have HR2 := Lib.hid hr2
  have K4 : Hid (w.heap.size ≤ (w3.alloc (.cells #[.int .u8 ttl, .int .u8 proto] 5)).heap.size) := Lib.hid (by simp; omega)
  have K5 : Hid (([69, UInt8.ofNat tos] ++ be len 2 ++ be id 2 ++ be 16384 2).length + [UInt8.ofNat ttl, UInt8.ofNat proto].length ≤ 140737488355328) := Lib.hid (by simp [be_length])
  clear hr2
  go_wp2_with (at_builtin; refine appN w.heap.size rfl _ _ rfl v3 ([69, UInt8.ofNat tos] ++ be len 2 ++ be id 2 ++ be 16384 2) (some ⟨w3.heap.size, 0, none⟩) [UInt8.ofNat ttl, UInt8.ofNat proto] _ _ rfl rfl rfl (HO3.out.alloc _) HR2.out K4.out K5.out ?_; intro v4 w4 ho4 hg4 ha4)
  have hk4 : Blk w4 w.heap.size 27 _ := (HK3.out.alloc _).grown hg4 (Ne.symm (owns_blk HO3.out HK3.out (by decide)))
  have HBy := (HB3.out.alloc hz _).grown hg4 K4.out (fun k hk => (owns_lt HO3.out hk).1)
  clear HBx
  have HBx := Lib.hid HBy
  have hz : w.heap.size ≤ w4.heap.size := HBy.size
  clear HBy
  have HO4 := Lib.hid ho4
  have HK4 := Lib.hid hk4
  clear ho4 hg4 ha4 hk4
  refine (put_box w.heap.size _ ([69, UInt8.ofNat tos] ++ be len 2 ++ be id 2 ++ be 16384 2 ++ [UInt8.ofNat ttl, UInt8.ofNat proto]) _ sum 2 _ w.heap.size _ (by simp) HO4.out HK4.out (by assumption) (by omega) (by omega) (by omega) (by simp [be_length])).mono ?_
  rintro e w5 ⟨v5, rfl, ho, hk, hb, hz⟩
  have HO5 := Lib.hid ho
  have HK5 := Lib.hid hk
  have HB5 := Lib.hid (HBx.out.trans hb)
  clear HBx
  have HBx := HB5
  have k0 := hk.cell 0
  have k1 := hk.cell 1
  have k2 := hk.cell 2
  have k3 := hk.cell 3
  have k5 := hk.cell 5
  have k6 := hk.cell 6
  simp only [List.getElem?_cons_zero, List.getElem?_cons_succ] at k0 k1 k2 k3 k5 k6
  clear ho hk hb
  go_wp2_with fail
  refine (put_box w.heap.size _ ([69, UInt8.ofNat tos] ++ be len 2 ++ be id 2 ++ be 16384 2 ++ [UInt8.ofNat ttl, UInt8.ofNat proto] ++ be sum 2) _ src 4 _ w.heap.size _ (by simp) HO5.out HK5.out (by assumption) (by omega) (by omega) (by omega) (by simp [be_length])).mono ?_
  rintro e w6 ⟨v6, rfl, ho, hk, hb, hz⟩
  have HO6 := Lib.hid ho
  have HK6 := Lib.hid hk
  have HB6 := Lib.hid (HBx.out.trans hb)
  clear HBx
  have HBx := HB6
  have k0 := hk.cell 0
  have k1 := hk.cell 1
  have k2 := hk.cell 2
  have k3 := hk.cell 3
  have k5 := hk.cell 5
  have k6 := hk.cell 6
  simp only [List.getElem?_cons_zero, List.getElem?_cons_succ] at k0 k1 k2 k3 k5 k6
  clear ho hk hb
  go_wp2_with fail
  refine (put_box w.heap.size _ ([69, UInt8.ofNat tos] ++ be len 2 ++ be id 2 ++ be 16384 2 ++ [UInt8.ofNat ttl, UInt8.ofNat proto] ++ be sum 2 ++ be src 4) _ dst 4 _ w.heap.size _ (by simp) HO6.out HK6.out (by assumption) (by omega) (by omega) (by omega) (by simp [be_length])).mono ?_
  rintro e w7 ⟨v7, rfl, ho, hk, hb, hz⟩
  have HO7 := Lib.hid ho
  have HK7 := Lib.hid hk
  have HB7 := Lib.hid (HBx.out.trans hb)
  clear HBx
  have HBx := HB7
  have k0 := hk.cell 0
  have k1 := hk.cell 1
  have k2 := hk.cell 2
  have k3 := hk.cell 3
  have k5 := hk.cell 5
  have k6 := hk.cell 6
  simp only [List.getElem?_cons_zero, List.getElem?_cons_succ] at k0 k1 k2 k3 k5 k6
  clear ho hk hb
  go_wp2
  go_ret
  exact ⟨v7, rfl, HO7.out, HB7.out⟩
end Go.Proofs.Ytlhfphidanjafaa
