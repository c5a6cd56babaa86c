/- slipwayref09: number, Decode. -/
import Derived.Test.YtlhfphidanjafaaRef01
import Derived.Test.YtlhfphidanjafaaBoth
import Derived.Deep.RegionHeld3
set_option linter.unusedVariables false
set_option linter.unusedSimpArgs false
namespace Go.Proofs.Ytlhfphidanjafaa
open Go.RowKit

set_option maxHeartbeats 1000000 in
theorem rnumber_any (A : Option Addr) (l : List UInt8) (c : Nat) (at_ width : Nat) (w : World) (hA : RA w A l) (hlm : l.length ≤ 9223372036854775807) (h1 : 1 ≤ width) (h8 : width ≤ 4) (hl : at_ + width ≤ l.length) :
    Calls Try.prog 22 #[.slice A l.length c, .int .i64 (at_ : Int), .int .i64 (width : Int)] w fun e w' => e = .returned (.int .i64 (ofBe ((l.drop at_).take width) : Nat)) ∧ w = w' := by
  have hlt := ofBe_lt ((l.drop at_).take width)
  have hlen : ((l.drop at_).take width).length = width := by simp; omega
  rw [hlen] at hlt
  have hp : (256 : Nat) ^ width ≤ 256 ^ 4 := Nat.pow_le_pow_right (by omega) h8
  have hx : ofBe ((l.drop at_).take width) < 4294967296 := Nat.lt_of_lt_of_le hlt hp
  have hw : IntKind.i64.wrap ((ofBe ((l.drop at_).take width) : Nat) : Int) = (ofBe ((l.drop at_).take width) : Nat) := by rw [IntKind.wrap_i64]; omega
  clear hlt hlen hp
  go_enter Try.func22, Try.ntmps22
  go_wp2_with (go_at_call 31; refine (rGet_ok A l c at_ width _ hA hlm h1 (by omega) hl).mono ?_; rintro e w' ⟨rfl, rfl⟩)
  go_ret
  exact ⟨rfl, rfl⟩
theorem rnumber_at (i k : Int) (A : Option Addr) (l : List UInt8) (c : Nat) (at_ width : Nat) (w : World) (hi : i = at_) (hk : k = width) (hA : RA w A l) (hlm : l.length ≤ 9223372036854775807) (h1 : 1 ≤ width) (h8 : width ≤ 4) (hl : at_ + width ≤ l.length) :
    Calls Try.prog 22 #[.slice A l.length c, .int .i64 i, .int .i64 k] w fun e w' => e = .returned (.int .i64 (ofBe ((l.drop at_).take width) : Nat)) ∧ w = w' := by
  subst hi hk
  exact rnumber_any A l c at_ width w hA hlm h1 h8 hl

def zip : List Value := [.int .i64 0, .int .i64 0, .int .i64 0, .int .i64 0, .bool false, .int .u32 0, .int .u32 0]
set_option maxHeartbeats 1000000 in
theorem rDecode_short (A : Option Addr) (n c : Nat) (w : World) (hl : n < 20) :
    Calls Try.prog 15 #[.slice A n c] w fun e w' => e = .returned (.tuple #[.agg z7.toArray, .slice none 0 0, .int .i64 (5 : Nat)]) ∧ Below w.heap.size w w' := by
  go_enter Try.func15, Try.ntmps15
  go_wp2
  refine bodyPost_ret (v := .tuple #[.agg z7.toArray, .slice none 0 0, .int .i64 5]) (by simp [results, Try.results15, go_sem, z7]) rfl ⟨rfl, ?_⟩
  exact (Below.refl _ _).alloc (Nat.le_refl _) _

set_option maxRecDepth 100000 in
set_option maxHeartbeats 2000000 in
theorem rDecode_version (A : Option Addr) (l : List UInt8) (c : Nat) (w : World) (hA : RA w A l) (hc : l.length ≤ c) (hcm : c ≤ 9223372036854775807) (hl : 20 ≤ l.length) (hbig : l.length ≤ 140737488351232) (h1 : ¬ l[0].toNat / 16 = 4) :
    Calls Try.prog 15 #[.slice A l.length c] w fun e w' => e = .returned (.tuple #[.agg z7.toArray, .slice none 0 0, .int .i64 (90 : Nat)]) ∧ Below w.heap.size w w' := by
  have t1 : (((l[0].toNat : Int) / 16) != 4) = true := by simp; omega
  obtain ⟨ad, rfl, hlt, _⟩ := hA.at_ (j := 0) (by omega)
  have hA0 := hA.alloc (.cells #[.int .i64 0, .int .i64 0, .int .i64 0, .int .i64 0, .bool false, .int .u32 0, .int .u32 0] 27)
  have hO0 : Below w.heap.size w (w.alloc (.cells #[.int .i64 0, .int .i64 0, .int .i64 0, .int .i64 0, .bool false, .int .u32 0, .int .u32 0] 27)) := (Below.refl _ w).alloc (Nat.le_refl _) _
  have hX0 : Blk (w.alloc (.cells #[.int .i64 0, .int .i64 0, .int .i64 0, .int .i64 0, .bool false, .int .u32 0, .int .u32 0] 27)) w.heap.size 27 z7 := Blk.new w _ z7
  obtain ⟨ad', hee, hlt0, hcell⟩ := hA0.at_ (j := 0) (by omega)
  injection hee with hee
  subst hee
  have x0 := hcell 0 (by omega)
  rw [show ad.add 0 = ad from by simp [Addr.add]] at x0
  unfold bv at x0
  have hf6 : ofBe ((l.drop 6).take 2) < 65536 := by
    have h := ofBe_lt ((l.drop 6).take 2)
    rwa [show ((l.drop 6).take 2).length = 2 from by simp; omega] at h
  have q0 : (0 : Int) < l.length := by omega
  have q20 : (20 : Int) ≤ l.length := by omega
  have q20c : (20 : Int) ≤ c := by omega
  have HA0 := Lib.hid hA0
  have HO0 := Lib.hid hO0
  have HX0 := Lib.hid hX0
  have hv0 := l[0].toNat_lt
  have hs0 : csum (l.take 20) ≤ 65535 := by unfold csum; omega
  clear hA0 hO0 hX0 hcell
  go_enter Try.func15, Try.ntmps15
  go_wp2_with fail
  generalize w.alloc (.cells #[.int .i64 0, .int .i64 0, .int .i64 0, .int .i64 0, .bool false, .int .u32 0, .int .u32 0] 27) = W0 at HA0 HO0 HX0 x0 hlt0 ⊢
  refine (rnumber_at _ _ _ l c 2 2 _ rfl rfl HA0.out (by omega) (by omega) (by omega) (by omega)).mono ?_
  rintro e w1 ⟨rfl, rfl⟩
  go_wp2_with fail
  have hR := HA0.out.cut 0 20 c (by omega) hl hc
  rw [if_neg (by omega)] at hR
  have HR : Hid (RA W0 (some ad) (l.take 20)) := Lib.hid (by simpa [Addr.add] using hR)
  clear hR x0
  refine (SumOf_any _ (l.take 20) 20 c _ (by rw [List.length_take]; omega) (by omega) HR.out).mono ?_
  rintro e w1 ⟨rfl, hb1⟩
  have HA1 := Lib.hid (HA0.out.below hb1)
  have HX1 := Lib.hid (HX0.out.beyond hb1)
  have HO1 := Lib.hid (below_then' HO0.out HO0.out.size hb1)
  obtain ⟨ad', hee, hlt1, hcell⟩ := HA1.out.at_ (j := 0) (by omega)
  injection hee with hee
  subst hee
  have x0 := hcell 0 (by omega)
  rw [show ad.add 0 = ad from by simp [Addr.add]] at x0
  have x1 := hcell 1 (by omega)
  have x8 := hcell 8 (by omega)
  have x9 := hcell 9 (by omega)
  unfold bv at x0 x1 x8 x9
  simp only [Addr.add, Nat.reduceEqDiff, if_false] at x1 x8 x9
  clear hb1 hcell HA0 HX0 HO0 HR
  go_wp2_with fail
  refine (rnumber_at _ _ _ l c 6 2 _ rfl rfl HA1.out (by omega) (by omega) (by omega) (by omega)).mono ?_
  rintro e w2 ⟨rfl, rfl⟩
  have y0 := HX1.out.cell 0
  have y1 := HX1.out.cell 1
  have y2 := HX1.out.cell 2
  have y3 := HX1.out.cell 3
  have y4 := HX1.out.cell 4
  have y5 := HX1.out.cell 5
  have y6 := HX1.out.cell 6
  have f0 := HX1.out.frozen 0
  have f1 := HX1.out.frozen 1
  have f2 := HX1.out.frozen 2
  have f3 := HX1.out.frozen 3
  have f4 := HX1.out.frozen 4
  have f5 := HX1.out.frozen 5
  have f6 := HX1.out.frozen 6
  simp only [z7, List.getElem?_cons_zero, List.getElem?_cons_succ] at y0 y1 y2 y3 y4 y5 y6
  go_wp2
  have HX2 := ((((((HX1.out.set_ 0 (.int .i64 0)).set_ 1 (.int .i64 0)).set_ 2 (.int .i64 0)).set_ 3 (.int .i64 0)).set_ 4 (.bool false)).set_ 5 (.int .u32 0)).set_ 6 (.int .u32 0)
  have z0 := HX2.cell 0
  have z1 := HX2.cell 1
  have z2 := HX2.cell 2
  have z3 := HX2.cell 3
  have z4 := HX2.cell 4
  have z5 := HX2.cell 5
  have z6 := HX2.cell 6
  simp only [z7, List.set_cons_zero, List.set_cons_succ, List.getElem?_cons_zero, List.getElem?_cons_succ] at z0 z1 z2 z3 z4 z5 z6
  refine bodyPost_ret (v := .tuple #[.agg z7.toArray, .slice none 0 0, .int .i64 90]) (by simp [results, Try.results15, go_sem, z7, z0, z1, z2, z3, z4, z5, z6]) rfl ⟨rfl, ?_⟩
  exact (((((((HO1.out.setCell (p := ⟨w.heap.size, 0, none⟩) (Nat.le_refl _) _).setCell (p := ⟨w.heap.size, 1, none⟩) (Nat.le_refl _) _).setCell (p := ⟨w.heap.size, 2, none⟩) (Nat.le_refl _) _).setCell (p := ⟨w.heap.size, 3, none⟩) (Nat.le_refl _) _).setCell (p := ⟨w.heap.size, 4, none⟩) (Nat.le_refl _) _).setCell (p := ⟨w.heap.size, 5, none⟩) (Nat.le_refl _) _).setCell (p := ⟨w.heap.size, 6, none⟩) (Nat.le_refl _) _)
set_option maxRecDepth 100000 in
set_option maxHeartbeats 2000000 in
theorem rDecode_options (A : Option Addr) (l : List UInt8) (c : Nat) (w : World) (hA : RA w A l) (hc : l.length ≤ c) (hcm : c ≤ 9223372036854775807) (hl : 20 ≤ l.length) (hbig : l.length ≤ 140737488351232) (h1 : l[0].toNat / 16 = 4) (h2 : ¬ l[0].toNat % 16 ≤ 5) :
    Calls Try.prog 15 #[.slice A l.length c] w fun e w' => e = .returned (.tuple #[.agg z7.toArray, .slice none 0 0, .int .i64 (91 : Nat)]) ∧ Below w.heap.size w w' := by
  have t1 : (((l[0].toNat : Int) / 16) != 4) = false := by simp; omega
  have t2 : (5 : Int) < (l[0].toNat : Int) % 16 := by omega
  clear h1 h2
  obtain ⟨ad, rfl, hlt, _⟩ := hA.at_ (j := 0) (by omega)
  have hA0 := hA.alloc (.cells #[.int .i64 0, .int .i64 0, .int .i64 0, .int .i64 0, .bool false, .int .u32 0, .int .u32 0] 27)
  have hO0 : Below w.heap.size w (w.alloc (.cells #[.int .i64 0, .int .i64 0, .int .i64 0, .int .i64 0, .bool false, .int .u32 0, .int .u32 0] 27)) := (Below.refl _ w).alloc (Nat.le_refl _) _
  have hX0 : Blk (w.alloc (.cells #[.int .i64 0, .int .i64 0, .int .i64 0, .int .i64 0, .bool false, .int .u32 0, .int .u32 0] 27)) w.heap.size 27 z7 := Blk.new w _ z7
  obtain ⟨ad', hee, hlt0, hcell⟩ := hA0.at_ (j := 0) (by omega)
  injection hee with hee
  subst hee
  have x0 := hcell 0 (by omega)
  rw [show ad.add 0 = ad from by simp [Addr.add]] at x0
  unfold bv at x0
  have hf6 : ofBe ((l.drop 6).take 2) < 65536 := by
    have h := ofBe_lt ((l.drop 6).take 2)
    rwa [show ((l.drop 6).take 2).length = 2 from by simp; omega] at h
  have q0 : (0 : Int) < l.length := by omega
  have q20 : (20 : Int) ≤ l.length := by omega
  have q20c : (20 : Int) ≤ c := by omega
  have HA0 := Lib.hid hA0
  have HO0 := Lib.hid hO0
  have HX0 := Lib.hid hX0
  have hv0 := l[0].toNat_lt
  have hs0 : csum (l.take 20) ≤ 65535 := by unfold csum; omega
  clear hA0 hO0 hX0 hcell
  go_enter Try.func15, Try.ntmps15
  go_wp2_with fail
  generalize w.alloc (.cells #[.int .i64 0, .int .i64 0, .int .i64 0, .int .i64 0, .bool false, .int .u32 0, .int .u32 0] 27) = W0 at HA0 HO0 HX0 x0 hlt0 ⊢
  refine (rnumber_at _ _ _ l c 2 2 _ rfl rfl HA0.out (by omega) (by omega) (by omega) (by omega)).mono ?_
  rintro e w1 ⟨rfl, rfl⟩
  go_wp2_with fail
  have hR := HA0.out.cut 0 20 c (by omega) hl hc
  rw [if_neg (by omega)] at hR
  have HR : Hid (RA W0 (some ad) (l.take 20)) := Lib.hid (by simpa [Addr.add] using hR)
  clear hR x0
  refine (SumOf_any _ (l.take 20) 20 c _ (by rw [List.length_take]; omega) (by omega) HR.out).mono ?_
  rintro e w1 ⟨rfl, hb1⟩
  have HA1 := Lib.hid (HA0.out.below hb1)
  have HX1 := Lib.hid (HX0.out.beyond hb1)
  have HO1 := Lib.hid (below_then' HO0.out HO0.out.size hb1)
  obtain ⟨ad', hee, hlt1, hcell⟩ := HA1.out.at_ (j := 0) (by omega)
  injection hee with hee
  subst hee
  have x0 := hcell 0 (by omega)
  rw [show ad.add 0 = ad from by simp [Addr.add]] at x0
  have x1 := hcell 1 (by omega)
  have x8 := hcell 8 (by omega)
  have x9 := hcell 9 (by omega)
  unfold bv at x0 x1 x8 x9
  simp only [Addr.add, Nat.reduceEqDiff, if_false] at x1 x8 x9
  clear hb1 hcell HA0 HX0 HO0 HR
  go_wp2_with fail
  refine (rnumber_at _ _ _ l c 6 2 _ rfl rfl HA1.out (by omega) (by omega) (by omega) (by omega)).mono ?_
  rintro e w2 ⟨rfl, rfl⟩
  have y0 := HX1.out.cell 0
  have y1 := HX1.out.cell 1
  have y2 := HX1.out.cell 2
  have y3 := HX1.out.cell 3
  have y4 := HX1.out.cell 4
  have y5 := HX1.out.cell 5
  have y6 := HX1.out.cell 6
  have f0 := HX1.out.frozen 0
  have f1 := HX1.out.frozen 1
  have f2 := HX1.out.frozen 2
  have f3 := HX1.out.frozen 3
  have f4 := HX1.out.frozen 4
  have f5 := HX1.out.frozen 5
  have f6 := HX1.out.frozen 6
  simp only [z7, List.getElem?_cons_zero, List.getElem?_cons_succ] at y0 y1 y2 y3 y4 y5 y6
  go_wp2
  have HX2 := ((((((HX1.out.set_ 0 (.int .i64 0)).set_ 1 (.int .i64 0)).set_ 2 (.int .i64 0)).set_ 3 (.int .i64 0)).set_ 4 (.bool false)).set_ 5 (.int .u32 0)).set_ 6 (.int .u32 0)
  have z0 := HX2.cell 0
  have z1 := HX2.cell 1
  have z2 := HX2.cell 2
  have z3 := HX2.cell 3
  have z4 := HX2.cell 4
  have z5 := HX2.cell 5
  have z6 := HX2.cell 6
  simp only [z7, List.set_cons_zero, List.set_cons_succ, List.getElem?_cons_zero, List.getElem?_cons_succ] at z0 z1 z2 z3 z4 z5 z6
  refine bodyPost_ret (v := .tuple #[.agg z7.toArray, .slice none 0 0, .int .i64 91]) (by simp [results, Try.results15, go_sem, z7, z0, z1, z2, z3, z4, z5, z6]) rfl ⟨rfl, ?_⟩
  exact (((((((HO1.out.setCell (p := ⟨w.heap.size, 0, none⟩) (Nat.le_refl _) _).setCell (p := ⟨w.heap.size, 1, none⟩) (Nat.le_refl _) _).setCell (p := ⟨w.heap.size, 2, none⟩) (Nat.le_refl _) _).setCell (p := ⟨w.heap.size, 3, none⟩) (Nat.le_refl _) _).setCell (p := ⟨w.heap.size, 4, none⟩) (Nat.le_refl _) _).setCell (p := ⟨w.heap.size, 5, none⟩) (Nat.le_refl _) _).setCell (p := ⟨w.heap.size, 6, none⟩) (Nat.le_refl _) _)
set_option maxRecDepth 100000 in
set_option maxHeartbeats 2000000 in
theorem rDecode_length (A : Option Addr) (l : List UInt8) (c : Nat) (w : World) (hA : RA w A l) (hc : l.length ≤ c) (hcm : c ≤ 9223372036854775807) (hl : 20 ≤ l.length) (hbig : l.length ≤ 140737488351232) (h1 : l[0].toNat / 16 = 4) (h2 : l[0].toNat % 16 ≤ 5) (h3 : ¬ (l[0].toNat % 16 = 5 ∧ 20 ≤ ofBe ((l.drop 2).take 2) ∧ ofBe ((l.drop 2).take 2) ≤ l.length)) :
    Calls Try.prog 15 #[.slice A l.length c] w fun e w' => e = .returned (.tuple #[.agg z7.toArray, .slice none 0 0, .int .i64 (92 : Nat)]) ∧ Below w.heap.size w w' := by
  have t1 : (((l[0].toNat : Int) / 16) != 4) = false := by simp; omega
  have t2 : ¬ (5 : Int) < (l[0].toNat : Int) % 16 := by omega
  by_cases k1 : l[0].toNat % 16 < 5
  · have t3 : (l[0].toNat : Int) % 16 < 5 := by omega
    clear h1 h2 h3 k1
    obtain ⟨ad, rfl, hlt, _⟩ := hA.at_ (j := 0) (by omega)
    have hA0 := hA.alloc (.cells #[.int .i64 0, .int .i64 0, .int .i64 0, .int .i64 0, .bool false, .int .u32 0, .int .u32 0] 27)
    have hO0 : Below w.heap.size w (w.alloc (.cells #[.int .i64 0, .int .i64 0, .int .i64 0, .int .i64 0, .bool false, .int .u32 0, .int .u32 0] 27)) := (Below.refl _ w).alloc (Nat.le_refl _) _
    have hX0 : Blk (w.alloc (.cells #[.int .i64 0, .int .i64 0, .int .i64 0, .int .i64 0, .bool false, .int .u32 0, .int .u32 0] 27)) w.heap.size 27 z7 := Blk.new w _ z7
    obtain ⟨ad', hee, hlt0, hcell⟩ := hA0.at_ (j := 0) (by omega)
    injection hee with hee
    subst hee
    have x0 := hcell 0 (by omega)
    rw [show ad.add 0 = ad from by simp [Addr.add]] at x0
    unfold bv at x0
    have hf6 : ofBe ((l.drop 6).take 2) < 65536 := by
      have h := ofBe_lt ((l.drop 6).take 2)
      rwa [show ((l.drop 6).take 2).length = 2 from by simp; omega] at h
    have q0 : (0 : Int) < l.length := by omega
    have q20 : (20 : Int) ≤ l.length := by omega
    have q20c : (20 : Int) ≤ c := by omega
    have HA0 := Lib.hid hA0
    have HO0 := Lib.hid hO0
    have HX0 := Lib.hid hX0
    have hv0 := l[0].toNat_lt
    have hs0 : csum (l.take 20) ≤ 65535 := by unfold csum; omega
    clear hA0 hO0 hX0 hcell
    go_enter Try.func15, Try.ntmps15
    go_wp2_with fail
    generalize w.alloc (.cells #[.int .i64 0, .int .i64 0, .int .i64 0, .int .i64 0, .bool false, .int .u32 0, .int .u32 0] 27) = W0 at HA0 HO0 HX0 x0 hlt0 ⊢
    refine (rnumber_at _ _ _ l c 2 2 _ rfl rfl HA0.out (by omega) (by omega) (by omega) (by omega)).mono ?_
    rintro e w1 ⟨rfl, rfl⟩
    go_wp2_with fail
    have hR := HA0.out.cut 0 20 c (by omega) hl hc
    rw [if_neg (by omega)] at hR
    have HR : Hid (RA W0 (some ad) (l.take 20)) := Lib.hid (by simpa [Addr.add] using hR)
    clear hR x0
    refine (SumOf_any _ (l.take 20) 20 c _ (by rw [List.length_take]; omega) (by omega) HR.out).mono ?_
    rintro e w1 ⟨rfl, hb1⟩
    have HA1 := Lib.hid (HA0.out.below hb1)
    have HX1 := Lib.hid (HX0.out.beyond hb1)
    have HO1 := Lib.hid (below_then' HO0.out HO0.out.size hb1)
    obtain ⟨ad', hee, hlt1, hcell⟩ := HA1.out.at_ (j := 0) (by omega)
    injection hee with hee
    subst hee
    have x0 := hcell 0 (by omega)
    rw [show ad.add 0 = ad from by simp [Addr.add]] at x0
    have x1 := hcell 1 (by omega)
    have x8 := hcell 8 (by omega)
    have x9 := hcell 9 (by omega)
    unfold bv at x0 x1 x8 x9
    simp only [Addr.add, Nat.reduceEqDiff, if_false] at x1 x8 x9
    clear hb1 hcell HA0 HX0 HO0 HR
    go_wp2_with fail
    refine (rnumber_at _ _ _ l c 6 2 _ rfl rfl HA1.out (by omega) (by omega) (by omega) (by omega)).mono ?_
    rintro e w2 ⟨rfl, rfl⟩
    have y0 := HX1.out.cell 0
    have y1 := HX1.out.cell 1
    have y2 := HX1.out.cell 2
    have y3 := HX1.out.cell 3
    have y4 := HX1.out.cell 4
    have y5 := HX1.out.cell 5
    have y6 := HX1.out.cell 6
    have f0 := HX1.out.frozen 0
    have f1 := HX1.out.frozen 1
    have f2 := HX1.out.frozen 2
    have f3 := HX1.out.frozen 3
    have f4 := HX1.out.frozen 4
    have f5 := HX1.out.frozen 5
    have f6 := HX1.out.frozen 6
    simp only [z7, List.getElem?_cons_zero, List.getElem?_cons_succ] at y0 y1 y2 y3 y4 y5 y6
    go_wp2
    have HX2 := ((((((HX1.out.set_ 0 (.int .i64 0)).set_ 1 (.int .i64 0)).set_ 2 (.int .i64 0)).set_ 3 (.int .i64 0)).set_ 4 (.bool false)).set_ 5 (.int .u32 0)).set_ 6 (.int .u32 0)
    have z0 := HX2.cell 0
    have z1 := HX2.cell 1
    have z2 := HX2.cell 2
    have z3 := HX2.cell 3
    have z4 := HX2.cell 4
    have z5 := HX2.cell 5
    have z6 := HX2.cell 6
    simp only [z7, List.set_cons_zero, List.set_cons_succ, List.getElem?_cons_zero, List.getElem?_cons_succ] at z0 z1 z2 z3 z4 z5 z6
    refine bodyPost_ret (v := .tuple #[.agg z7.toArray, .slice none 0 0, .int .i64 92]) (by simp [results, Try.results15, go_sem, z7, z0, z1, z2, z3, z4, z5, z6]) rfl ⟨rfl, ?_⟩
    exact (((((((HO1.out.setCell (p := ⟨w.heap.size, 0, none⟩) (Nat.le_refl _) _).setCell (p := ⟨w.heap.size, 1, none⟩) (Nat.le_refl _) _).setCell (p := ⟨w.heap.size, 2, none⟩) (Nat.le_refl _) _).setCell (p := ⟨w.heap.size, 3, none⟩) (Nat.le_refl _) _).setCell (p := ⟨w.heap.size, 4, none⟩) (Nat.le_refl _) _).setCell (p := ⟨w.heap.size, 5, none⟩) (Nat.le_refl _) _).setCell (p := ⟨w.heap.size, 6, none⟩) (Nat.le_refl _) _)
  have t3 : ¬ (l[0].toNat : Int) % 16 < 5 := by omega
  by_cases k2 : ofBe ((l.drop 2).take 2) < 20
  · have t4 : ((ofBe ((l.drop 2).take 2) : Nat) : Int) < 20 := by omega
    clear h1 h2 h3 k1 k2
    obtain ⟨ad, rfl, hlt, _⟩ := hA.at_ (j := 0) (by omega)
    have hA0 := hA.alloc (.cells #[.int .i64 0, .int .i64 0, .int .i64 0, .int .i64 0, .bool false, .int .u32 0, .int .u32 0] 27)
    have hO0 : Below w.heap.size w (w.alloc (.cells #[.int .i64 0, .int .i64 0, .int .i64 0, .int .i64 0, .bool false, .int .u32 0, .int .u32 0] 27)) := (Below.refl _ w).alloc (Nat.le_refl _) _
    have hX0 : Blk (w.alloc (.cells #[.int .i64 0, .int .i64 0, .int .i64 0, .int .i64 0, .bool false, .int .u32 0, .int .u32 0] 27)) w.heap.size 27 z7 := Blk.new w _ z7
    obtain ⟨ad', hee, hlt0, hcell⟩ := hA0.at_ (j := 0) (by omega)
    injection hee with hee
    subst hee
    have x0 := hcell 0 (by omega)
    rw [show ad.add 0 = ad from by simp [Addr.add]] at x0
    unfold bv at x0
    have hf6 : ofBe ((l.drop 6).take 2) < 65536 := by
      have h := ofBe_lt ((l.drop 6).take 2)
      rwa [show ((l.drop 6).take 2).length = 2 from by simp; omega] at h
    have q0 : (0 : Int) < l.length := by omega
    have q20 : (20 : Int) ≤ l.length := by omega
    have q20c : (20 : Int) ≤ c := by omega
    have HA0 := Lib.hid hA0
    have HO0 := Lib.hid hO0
    have HX0 := Lib.hid hX0
    have hv0 := l[0].toNat_lt
    have hs0 : csum (l.take 20) ≤ 65535 := by unfold csum; omega
    clear hA0 hO0 hX0 hcell
    go_enter Try.func15, Try.ntmps15
    go_wp2_with fail
    generalize w.alloc (.cells #[.int .i64 0, .int .i64 0, .int .i64 0, .int .i64 0, .bool false, .int .u32 0, .int .u32 0] 27) = W0 at HA0 HO0 HX0 x0 hlt0 ⊢
    refine (rnumber_at _ _ _ l c 2 2 _ rfl rfl HA0.out (by omega) (by omega) (by omega) (by omega)).mono ?_
    rintro e w1 ⟨rfl, rfl⟩
    go_wp2_with fail
    have hR := HA0.out.cut 0 20 c (by omega) hl hc
    rw [if_neg (by omega)] at hR
    have HR : Hid (RA W0 (some ad) (l.take 20)) := Lib.hid (by simpa [Addr.add] using hR)
    clear hR x0
    refine (SumOf_any _ (l.take 20) 20 c _ (by rw [List.length_take]; omega) (by omega) HR.out).mono ?_
    rintro e w1 ⟨rfl, hb1⟩
    have HA1 := Lib.hid (HA0.out.below hb1)
    have HX1 := Lib.hid (HX0.out.beyond hb1)
    have HO1 := Lib.hid (below_then' HO0.out HO0.out.size hb1)
    obtain ⟨ad', hee, hlt1, hcell⟩ := HA1.out.at_ (j := 0) (by omega)
    injection hee with hee
    subst hee
    have x0 := hcell 0 (by omega)
    rw [show ad.add 0 = ad from by simp [Addr.add]] at x0
    have x1 := hcell 1 (by omega)
    have x8 := hcell 8 (by omega)
    have x9 := hcell 9 (by omega)
    unfold bv at x0 x1 x8 x9
    simp only [Addr.add, Nat.reduceEqDiff, if_false] at x1 x8 x9
    clear hb1 hcell HA0 HX0 HO0 HR
    go_wp2_with fail
    refine (rnumber_at _ _ _ l c 6 2 _ rfl rfl HA1.out (by omega) (by omega) (by omega) (by omega)).mono ?_
    rintro e w2 ⟨rfl, rfl⟩
    have y0 := HX1.out.cell 0
    have y1 := HX1.out.cell 1
    have y2 := HX1.out.cell 2
    have y3 := HX1.out.cell 3
    have y4 := HX1.out.cell 4
    have y5 := HX1.out.cell 5
    have y6 := HX1.out.cell 6
    have f0 := HX1.out.frozen 0
    have f1 := HX1.out.frozen 1
    have f2 := HX1.out.frozen 2
    have f3 := HX1.out.frozen 3
    have f4 := HX1.out.frozen 4
    have f5 := HX1.out.frozen 5
    have f6 := HX1.out.frozen 6
    simp only [z7, List.getElem?_cons_zero, List.getElem?_cons_succ] at y0 y1 y2 y3 y4 y5 y6
    go_wp2
    have HX2 := ((((((HX1.out.set_ 0 (.int .i64 0)).set_ 1 (.int .i64 0)).set_ 2 (.int .i64 0)).set_ 3 (.int .i64 0)).set_ 4 (.bool false)).set_ 5 (.int .u32 0)).set_ 6 (.int .u32 0)
    have z0 := HX2.cell 0
    have z1 := HX2.cell 1
    have z2 := HX2.cell 2
    have z3 := HX2.cell 3
    have z4 := HX2.cell 4
    have z5 := HX2.cell 5
    have z6 := HX2.cell 6
    simp only [z7, List.set_cons_zero, List.set_cons_succ, List.getElem?_cons_zero, List.getElem?_cons_succ] at z0 z1 z2 z3 z4 z5 z6
    refine bodyPost_ret (v := .tuple #[.agg z7.toArray, .slice none 0 0, .int .i64 92]) (by simp [results, Try.results15, go_sem, z7, z0, z1, z2, z3, z4, z5, z6]) rfl ⟨rfl, ?_⟩
    exact (((((((HO1.out.setCell (p := ⟨w.heap.size, 0, none⟩) (Nat.le_refl _) _).setCell (p := ⟨w.heap.size, 1, none⟩) (Nat.le_refl _) _).setCell (p := ⟨w.heap.size, 2, none⟩) (Nat.le_refl _) _).setCell (p := ⟨w.heap.size, 3, none⟩) (Nat.le_refl _) _).setCell (p := ⟨w.heap.size, 4, none⟩) (Nat.le_refl _) _).setCell (p := ⟨w.heap.size, 5, none⟩) (Nat.le_refl _) _).setCell (p := ⟨w.heap.size, 6, none⟩) (Nat.le_refl _) _)
  have t4 : ¬ ((ofBe ((l.drop 2).take 2) : Nat) : Int) < 20 := by omega
  have t5 : (l.length : Int) < ((ofBe ((l.drop 2).take 2) : Nat) : Int) := by omega
  have t5' : decide (l.length < ofBe ((l.drop 2).take 2)) = true := by simp; omega
  clear h1 h2 h3 k1 k2
  obtain ⟨ad, rfl, hlt, _⟩ := hA.at_ (j := 0) (by omega)
  have hA0 := hA.alloc (.cells #[.int .i64 0, .int .i64 0, .int .i64 0, .int .i64 0, .bool false, .int .u32 0, .int .u32 0] 27)
  have hO0 : Below w.heap.size w (w.alloc (.cells #[.int .i64 0, .int .i64 0, .int .i64 0, .int .i64 0, .bool false, .int .u32 0, .int .u32 0] 27)) := (Below.refl _ w).alloc (Nat.le_refl _) _
  have hX0 : Blk (w.alloc (.cells #[.int .i64 0, .int .i64 0, .int .i64 0, .int .i64 0, .bool false, .int .u32 0, .int .u32 0] 27)) w.heap.size 27 z7 := Blk.new w _ z7
  obtain ⟨ad', hee, hlt0, hcell⟩ := hA0.at_ (j := 0) (by omega)
  injection hee with hee
  subst hee
  have x0 := hcell 0 (by omega)
  rw [show ad.add 0 = ad from by simp [Addr.add]] at x0
  unfold bv at x0
  have hf6 : ofBe ((l.drop 6).take 2) < 65536 := by
    have h := ofBe_lt ((l.drop 6).take 2)
    rwa [show ((l.drop 6).take 2).length = 2 from by simp; omega] at h
  have q0 : (0 : Int) < l.length := by omega
  have q20 : (20 : Int) ≤ l.length := by omega
  have q20c : (20 : Int) ≤ c := by omega
  have HA0 := Lib.hid hA0
  have HO0 := Lib.hid hO0
  have HX0 := Lib.hid hX0
  have hv0 := l[0].toNat_lt
  have hs0 : csum (l.take 20) ≤ 65535 := by unfold csum; omega
  clear hA0 hO0 hX0 hcell
  go_enter Try.func15, Try.ntmps15
  go_wp2_with fail
  generalize w.alloc (.cells #[.int .i64 0, .int .i64 0, .int .i64 0, .int .i64 0, .bool false, .int .u32 0, .int .u32 0] 27) = W0 at HA0 HO0 HX0 x0 hlt0 ⊢
  refine (rnumber_at _ _ _ l c 2 2 _ rfl rfl HA0.out (by omega) (by omega) (by omega) (by omega)).mono ?_
  rintro e w1 ⟨rfl, rfl⟩
  go_wp2_with fail
  have hR := HA0.out.cut 0 20 c (by omega) hl hc
  rw [if_neg (by omega)] at hR
  have HR : Hid (RA W0 (some ad) (l.take 20)) := Lib.hid (by simpa [Addr.add] using hR)
  clear hR x0
  refine (SumOf_any _ (l.take 20) 20 c _ (by rw [List.length_take]; omega) (by omega) HR.out).mono ?_
  rintro e w1 ⟨rfl, hb1⟩
  have HA1 := Lib.hid (HA0.out.below hb1)
  have HX1 := Lib.hid (HX0.out.beyond hb1)
  have HO1 := Lib.hid (below_then' HO0.out HO0.out.size hb1)
  obtain ⟨ad', hee, hlt1, hcell⟩ := HA1.out.at_ (j := 0) (by omega)
  injection hee with hee
  subst hee
  have x0 := hcell 0 (by omega)
  rw [show ad.add 0 = ad from by simp [Addr.add]] at x0
  have x1 := hcell 1 (by omega)
  have x8 := hcell 8 (by omega)
  have x9 := hcell 9 (by omega)
  unfold bv at x0 x1 x8 x9
  simp only [Addr.add, Nat.reduceEqDiff, if_false] at x1 x8 x9
  clear hb1 hcell HA0 HX0 HO0 HR
  go_wp2_with fail
  refine (rnumber_at _ _ _ l c 6 2 _ rfl rfl HA1.out (by omega) (by omega) (by omega) (by omega)).mono ?_
  rintro e w2 ⟨rfl, rfl⟩
  have y0 := HX1.out.cell 0
  have y1 := HX1.out.cell 1
  have y2 := HX1.out.cell 2
  have y3 := HX1.out.cell 3
  have y4 := HX1.out.cell 4
  have y5 := HX1.out.cell 5
  have y6 := HX1.out.cell 6
  have f0 := HX1.out.frozen 0
  have f1 := HX1.out.frozen 1
  have f2 := HX1.out.frozen 2
  have f3 := HX1.out.frozen 3
  have f4 := HX1.out.frozen 4
  have f5 := HX1.out.frozen 5
  have f6 := HX1.out.frozen 6
  simp only [z7, List.getElem?_cons_zero, List.getElem?_cons_succ] at y0 y1 y2 y3 y4 y5 y6
  go_wp2
  have HX2 := ((((((HX1.out.set_ 0 (.int .i64 0)).set_ 1 (.int .i64 0)).set_ 2 (.int .i64 0)).set_ 3 (.int .i64 0)).set_ 4 (.bool false)).set_ 5 (.int .u32 0)).set_ 6 (.int .u32 0)
  have z0 := HX2.cell 0
  have z1 := HX2.cell 1
  have z2 := HX2.cell 2
  have z3 := HX2.cell 3
  have z4 := HX2.cell 4
  have z5 := HX2.cell 5
  have z6 := HX2.cell 6
  simp only [z7, List.set_cons_zero, List.set_cons_succ, List.getElem?_cons_zero, List.getElem?_cons_succ] at z0 z1 z2 z3 z4 z5 z6
  refine bodyPost_ret (v := .tuple #[.agg z7.toArray, .slice none 0 0, .int .i64 92]) (by simp [results, Try.results15, go_sem, z7, z0, z1, z2, z3, z4, z5, z6]) rfl ⟨rfl, ?_⟩
  exact (((((((HO1.out.setCell (p := ⟨w.heap.size, 0, none⟩) (Nat.le_refl _) _).setCell (p := ⟨w.heap.size, 1, none⟩) (Nat.le_refl _) _).setCell (p := ⟨w.heap.size, 2, none⟩) (Nat.le_refl _) _).setCell (p := ⟨w.heap.size, 3, none⟩) (Nat.le_refl _) _).setCell (p := ⟨w.heap.size, 4, none⟩) (Nat.le_refl _) _).setCell (p := ⟨w.heap.size, 5, none⟩) (Nat.le_refl _) _).setCell (p := ⟨w.heap.size, 6, none⟩) (Nat.le_refl _) _)
set_option maxRecDepth 100000 in
set_option maxHeartbeats 2000000 in
theorem rDecode_sum (A : Option Addr) (l : List UInt8) (c : Nat) (w : World) (hA : RA w A l) (hc : l.length ≤ c) (hcm : c ≤ 9223372036854775807) (hl : 20 ≤ l.length) (hbig : l.length ≤ 140737488351232) (hh : headOk l hl) (h5 : ¬ csum (l.take 20) = 0) :
    Calls Try.prog 15 #[.slice A l.length c] w fun e w' => e = .returned (.tuple #[.agg z7.toArray, .slice none 0 0, .int .i64 (93 : Nat)]) ∧ Below w.heap.size w w' := by
  obtain ⟨h1, h2, h3, h4⟩ := hh
  have t1 : (((l[0].toNat : Int) / 16) != 4) = false := by simp; omega
  have t2 : ¬ (5 : Int) < (l[0].toNat : Int) % 16 := by omega
  have t3 : ¬ (l[0].toNat : Int) % 16 < 5 := by omega
  have t4 : ¬ ((ofBe ((l.drop 2).take 2) : Nat) : Int) < 20 := by omega
  have t5 : ¬ (l.length : Int) < ((ofBe ((l.drop 2).take 2) : Nat) : Int) := by omega
  have t5' : decide (l.length < ofBe ((l.drop 2).take 2)) = false := by simp; omega
  have t6 : (((csum (l.take 20) : Nat) : Int) != 0) = true := by simp; omega
  clear h1 h2 h3 h4 h5
  obtain ⟨ad, rfl, hlt, _⟩ := hA.at_ (j := 0) (by omega)
  have hA0 := hA.alloc (.cells #[.int .i64 0, .int .i64 0, .int .i64 0, .int .i64 0, .bool false, .int .u32 0, .int .u32 0] 27)
  have hO0 : Below w.heap.size w (w.alloc (.cells #[.int .i64 0, .int .i64 0, .int .i64 0, .int .i64 0, .bool false, .int .u32 0, .int .u32 0] 27)) := (Below.refl _ w).alloc (Nat.le_refl _) _
  have hX0 : Blk (w.alloc (.cells #[.int .i64 0, .int .i64 0, .int .i64 0, .int .i64 0, .bool false, .int .u32 0, .int .u32 0] 27)) w.heap.size 27 z7 := Blk.new w _ z7
  obtain ⟨ad', hee, hlt0, hcell⟩ := hA0.at_ (j := 0) (by omega)
  injection hee with hee
  subst hee
  have x0 := hcell 0 (by omega)
  rw [show ad.add 0 = ad from by simp [Addr.add]] at x0
  unfold bv at x0
  have hf6 : ofBe ((l.drop 6).take 2) < 65536 := by
    have h := ofBe_lt ((l.drop 6).take 2)
    rwa [show ((l.drop 6).take 2).length = 2 from by simp; omega] at h
  have q0 : (0 : Int) < l.length := by omega
  have q20 : (20 : Int) ≤ l.length := by omega
  have q20c : (20 : Int) ≤ c := by omega
  have HA0 := Lib.hid hA0
  have HO0 := Lib.hid hO0
  have HX0 := Lib.hid hX0
  have hv0 := l[0].toNat_lt
  have hs0 : csum (l.take 20) ≤ 65535 := by unfold csum; omega
  clear hA0 hO0 hX0 hcell
  go_enter Try.func15, Try.ntmps15
  go_wp2_with fail
  generalize w.alloc (.cells #[.int .i64 0, .int .i64 0, .int .i64 0, .int .i64 0, .bool false, .int .u32 0, .int .u32 0] 27) = W0 at HA0 HO0 HX0 x0 hlt0 ⊢
  refine (rnumber_at _ _ _ l c 2 2 _ rfl rfl HA0.out (by omega) (by omega) (by omega) (by omega)).mono ?_
  rintro e w1 ⟨rfl, rfl⟩
  go_wp2_with fail
  have hR := HA0.out.cut 0 20 c (by omega) hl hc
  rw [if_neg (by omega)] at hR
  have HR : Hid (RA W0 (some ad) (l.take 20)) := Lib.hid (by simpa [Addr.add] using hR)
  clear hR x0
  refine (SumOf_any _ (l.take 20) 20 c _ (by rw [List.length_take]; omega) (by omega) HR.out).mono ?_
  rintro e w1 ⟨rfl, hb1⟩
  have HA1 := Lib.hid (HA0.out.below hb1)
  have HX1 := Lib.hid (HX0.out.beyond hb1)
  have HO1 := Lib.hid (below_then' HO0.out HO0.out.size hb1)
  obtain ⟨ad', hee, hlt1, hcell⟩ := HA1.out.at_ (j := 0) (by omega)
  injection hee with hee
  subst hee
  have x0 := hcell 0 (by omega)
  rw [show ad.add 0 = ad from by simp [Addr.add]] at x0
  have x1 := hcell 1 (by omega)
  have x8 := hcell 8 (by omega)
  have x9 := hcell 9 (by omega)
  unfold bv at x0 x1 x8 x9
  simp only [Addr.add, Nat.reduceEqDiff, if_false] at x1 x8 x9
  clear hb1 hcell HA0 HX0 HO0 HR
  go_wp2_with fail
  refine (rnumber_at _ _ _ l c 6 2 _ rfl rfl HA1.out (by omega) (by omega) (by omega) (by omega)).mono ?_
  rintro e w2 ⟨rfl, rfl⟩
  have y0 := HX1.out.cell 0
  have y1 := HX1.out.cell 1
  have y2 := HX1.out.cell 2
  have y3 := HX1.out.cell 3
  have y4 := HX1.out.cell 4
  have y5 := HX1.out.cell 5
  have y6 := HX1.out.cell 6
  have f0 := HX1.out.frozen 0
  have f1 := HX1.out.frozen 1
  have f2 := HX1.out.frozen 2
  have f3 := HX1.out.frozen 3
  have f4 := HX1.out.frozen 4
  have f5 := HX1.out.frozen 5
  have f6 := HX1.out.frozen 6
  simp only [z7, List.getElem?_cons_zero, List.getElem?_cons_succ] at y0 y1 y2 y3 y4 y5 y6
  go_wp2
  have HX2 := ((((((HX1.out.set_ 0 (.int .i64 0)).set_ 1 (.int .i64 0)).set_ 2 (.int .i64 0)).set_ 3 (.int .i64 0)).set_ 4 (.bool false)).set_ 5 (.int .u32 0)).set_ 6 (.int .u32 0)
  have z0 := HX2.cell 0
  have z1 := HX2.cell 1
  have z2 := HX2.cell 2
  have z3 := HX2.cell 3
  have z4 := HX2.cell 4
  have z5 := HX2.cell 5
  have z6 := HX2.cell 6
  simp only [z7, List.set_cons_zero, List.set_cons_succ, List.getElem?_cons_zero, List.getElem?_cons_succ] at z0 z1 z2 z3 z4 z5 z6
  refine bodyPost_ret (v := .tuple #[.agg z7.toArray, .slice none 0 0, .int .i64 93]) (by simp [results, Try.results15, go_sem, z7, z0, z1, z2, z3, z4, z5, z6]) rfl ⟨rfl, ?_⟩
  exact (((((((HO1.out.setCell (p := ⟨w.heap.size, 0, none⟩) (Nat.le_refl _) _).setCell (p := ⟨w.heap.size, 1, none⟩) (Nat.le_refl _) _).setCell (p := ⟨w.heap.size, 2, none⟩) (Nat.le_refl _) _).setCell (p := ⟨w.heap.size, 3, none⟩) (Nat.le_refl _) _).setCell (p := ⟨w.heap.size, 4, none⟩) (Nat.le_refl _) _).setCell (p := ⟨w.heap.size, 5, none⟩) (Nat.le_refl _) _).setCell (p := ⟨w.heap.size, 6, none⟩) (Nat.le_refl _) _)
set_option maxRecDepth 100000 in
set_option maxHeartbeats 2000000 in
theorem rDecode_fragment (A : Option Addr) (l : List UInt8) (c : Nat) (w : World) (hA : RA w A l) (hc : l.length ≤ c) (hcm : c ≤ 9223372036854775807) (hl : 20 ≤ l.length) (hbig : l.length ≤ 140737488351232) (hh : headOk l hl) (h5 : csum (l.take 20) = 0) (h6 : ¬ ofBe ((l.drop 6).take 2) % 16384 = 0) :
    Calls Try.prog 15 #[.slice A l.length c] w fun e w' => e = .returned (.tuple #[.agg z7.toArray, .slice none 0 0, .int .i64 (94 : Nat)]) ∧ Below w.heap.size w w' := by
  obtain ⟨h1, h2, h3, h4⟩ := hh
  have t1 : (((l[0].toNat : Int) / 16) != 4) = false := by simp; omega
  have t2 : ¬ (5 : Int) < (l[0].toNat : Int) % 16 := by omega
  have t3 : ¬ (l[0].toNat : Int) % 16 < 5 := by omega
  have t4 : ¬ ((ofBe ((l.drop 2).take 2) : Nat) : Int) < 20 := by omega
  have t5 : ¬ (l.length : Int) < ((ofBe ((l.drop 2).take 2) : Nat) : Int) := by omega
  have t5' : decide (l.length < ofBe ((l.drop 2).take 2)) = false := by simp; omega
  have t6 : (((csum (l.take 20) : Nat) : Int) != 0) = false := by simp; omega
  by_cases k : ofBe ((l.drop 6).take 2) / 8192 % 2 = 1
  · have t7 : (((ofBe ((l.drop 6).take 2) : Nat) : Int) / 8192 % 2 == 1) = true := by rw [beq_iff_eq]; omega
    clear h1 h2 h3 h4 h5 h6 k
    obtain ⟨ad, rfl, hlt, _⟩ := hA.at_ (j := 0) (by omega)
    have hA0 := hA.alloc (.cells #[.int .i64 0, .int .i64 0, .int .i64 0, .int .i64 0, .bool false, .int .u32 0, .int .u32 0] 27)
    have hO0 : Below w.heap.size w (w.alloc (.cells #[.int .i64 0, .int .i64 0, .int .i64 0, .int .i64 0, .bool false, .int .u32 0, .int .u32 0] 27)) := (Below.refl _ w).alloc (Nat.le_refl _) _
    have hX0 : Blk (w.alloc (.cells #[.int .i64 0, .int .i64 0, .int .i64 0, .int .i64 0, .bool false, .int .u32 0, .int .u32 0] 27)) w.heap.size 27 z7 := Blk.new w _ z7
    obtain ⟨ad', hee, hlt0, hcell⟩ := hA0.at_ (j := 0) (by omega)
    injection hee with hee
    subst hee
    have x0 := hcell 0 (by omega)
    rw [show ad.add 0 = ad from by simp [Addr.add]] at x0
    unfold bv at x0
    have hf6 : ofBe ((l.drop 6).take 2) < 65536 := by
      have h := ofBe_lt ((l.drop 6).take 2)
      rwa [show ((l.drop 6).take 2).length = 2 from by simp; omega] at h
    have q0 : (0 : Int) < l.length := by omega
    have q20 : (20 : Int) ≤ l.length := by omega
    have q20c : (20 : Int) ≤ c := by omega
    have HA0 := Lib.hid hA0
    have HO0 := Lib.hid hO0
    have HX0 := Lib.hid hX0
    have hv0 := l[0].toNat_lt
    have hs0 : csum (l.take 20) ≤ 65535 := by unfold csum; omega
    clear hA0 hO0 hX0 hcell
    go_enter Try.func15, Try.ntmps15
    go_wp2_with fail
    generalize w.alloc (.cells #[.int .i64 0, .int .i64 0, .int .i64 0, .int .i64 0, .bool false, .int .u32 0, .int .u32 0] 27) = W0 at HA0 HO0 HX0 x0 hlt0 ⊢
    refine (rnumber_at _ _ _ l c 2 2 _ rfl rfl HA0.out (by omega) (by omega) (by omega) (by omega)).mono ?_
    rintro e w1 ⟨rfl, rfl⟩
    go_wp2_with fail
    have hR := HA0.out.cut 0 20 c (by omega) hl hc
    rw [if_neg (by omega)] at hR
    have HR : Hid (RA W0 (some ad) (l.take 20)) := Lib.hid (by simpa [Addr.add] using hR)
    clear hR x0
    refine (SumOf_any _ (l.take 20) 20 c _ (by rw [List.length_take]; omega) (by omega) HR.out).mono ?_
    rintro e w1 ⟨rfl, hb1⟩
    have HA1 := Lib.hid (HA0.out.below hb1)
    have HX1 := Lib.hid (HX0.out.beyond hb1)
    have HO1 := Lib.hid (below_then' HO0.out HO0.out.size hb1)
    obtain ⟨ad', hee, hlt1, hcell⟩ := HA1.out.at_ (j := 0) (by omega)
    injection hee with hee
    subst hee
    have x0 := hcell 0 (by omega)
    rw [show ad.add 0 = ad from by simp [Addr.add]] at x0
    have x1 := hcell 1 (by omega)
    have x8 := hcell 8 (by omega)
    have x9 := hcell 9 (by omega)
    unfold bv at x0 x1 x8 x9
    simp only [Addr.add, Nat.reduceEqDiff, if_false] at x1 x8 x9
    clear hb1 hcell HA0 HX0 HO0 HR
    go_wp2_with fail
    refine (rnumber_at _ _ _ l c 6 2 _ rfl rfl HA1.out (by omega) (by omega) (by omega) (by omega)).mono ?_
    rintro e w2 ⟨rfl, rfl⟩
    have y0 := HX1.out.cell 0
    have y1 := HX1.out.cell 1
    have y2 := HX1.out.cell 2
    have y3 := HX1.out.cell 3
    have y4 := HX1.out.cell 4
    have y5 := HX1.out.cell 5
    have y6 := HX1.out.cell 6
    have f0 := HX1.out.frozen 0
    have f1 := HX1.out.frozen 1
    have f2 := HX1.out.frozen 2
    have f3 := HX1.out.frozen 3
    have f4 := HX1.out.frozen 4
    have f5 := HX1.out.frozen 5
    have f6 := HX1.out.frozen 6
    simp only [z7, List.getElem?_cons_zero, List.getElem?_cons_succ] at y0 y1 y2 y3 y4 y5 y6
    go_wp2
    have HX2 := ((((((HX1.out.set_ 0 (.int .i64 0)).set_ 1 (.int .i64 0)).set_ 2 (.int .i64 0)).set_ 3 (.int .i64 0)).set_ 4 (.bool false)).set_ 5 (.int .u32 0)).set_ 6 (.int .u32 0)
    have z0 := HX2.cell 0
    have z1 := HX2.cell 1
    have z2 := HX2.cell 2
    have z3 := HX2.cell 3
    have z4 := HX2.cell 4
    have z5 := HX2.cell 5
    have z6 := HX2.cell 6
    simp only [z7, List.set_cons_zero, List.set_cons_succ, List.getElem?_cons_zero, List.getElem?_cons_succ] at z0 z1 z2 z3 z4 z5 z6
    refine bodyPost_ret (v := .tuple #[.agg z7.toArray, .slice none 0 0, .int .i64 94]) (by simp [results, Try.results15, go_sem, z7, z0, z1, z2, z3, z4, z5, z6]) rfl ⟨rfl, ?_⟩
    exact (((((((HO1.out.setCell (p := ⟨w.heap.size, 0, none⟩) (Nat.le_refl _) _).setCell (p := ⟨w.heap.size, 1, none⟩) (Nat.le_refl _) _).setCell (p := ⟨w.heap.size, 2, none⟩) (Nat.le_refl _) _).setCell (p := ⟨w.heap.size, 3, none⟩) (Nat.le_refl _) _).setCell (p := ⟨w.heap.size, 4, none⟩) (Nat.le_refl _) _).setCell (p := ⟨w.heap.size, 5, none⟩) (Nat.le_refl _) _).setCell (p := ⟨w.heap.size, 6, none⟩) (Nat.le_refl _) _)
  have t7 : (((ofBe ((l.drop 6).take 2) : Nat) : Int) / 8192 % 2 == 1) = false := beq_eq_false_iff_ne.2 (by omega)
  have t8 : (((ofBe ((l.drop 6).take 2) : Nat) : Int) % 8192 != 0) = true := bne_iff_ne.2 (by omega)
  clear h1 h2 h3 h4 h5 h6 k
  obtain ⟨ad, rfl, hlt, _⟩ := hA.at_ (j := 0) (by omega)
  have hA0 := hA.alloc (.cells #[.int .i64 0, .int .i64 0, .int .i64 0, .int .i64 0, .bool false, .int .u32 0, .int .u32 0] 27)
  have hO0 : Below w.heap.size w (w.alloc (.cells #[.int .i64 0, .int .i64 0, .int .i64 0, .int .i64 0, .bool false, .int .u32 0, .int .u32 0] 27)) := (Below.refl _ w).alloc (Nat.le_refl _) _
  have hX0 : Blk (w.alloc (.cells #[.int .i64 0, .int .i64 0, .int .i64 0, .int .i64 0, .bool false, .int .u32 0, .int .u32 0] 27)) w.heap.size 27 z7 := Blk.new w _ z7
  obtain ⟨ad', hee, hlt0, hcell⟩ := hA0.at_ (j := 0) (by omega)
  injection hee with hee
  subst hee
  have x0 := hcell 0 (by omega)
  rw [show ad.add 0 = ad from by simp [Addr.add]] at x0
  unfold bv at x0
  have hf6 : ofBe ((l.drop 6).take 2) < 65536 := by
    have h := ofBe_lt ((l.drop 6).take 2)
    rwa [show ((l.drop 6).take 2).length = 2 from by simp; omega] at h
  have q0 : (0 : Int) < l.length := by omega
  have q20 : (20 : Int) ≤ l.length := by omega
  have q20c : (20 : Int) ≤ c := by omega
  have HA0 := Lib.hid hA0
  have HO0 := Lib.hid hO0
  have HX0 := Lib.hid hX0
  have hv0 := l[0].toNat_lt
  have hs0 : csum (l.take 20) ≤ 65535 := by unfold csum; omega
  clear hA0 hO0 hX0 hcell
  go_enter Try.func15, Try.ntmps15
  go_wp2_with fail
  generalize w.alloc (.cells #[.int .i64 0, .int .i64 0, .int .i64 0, .int .i64 0, .bool false, .int .u32 0, .int .u32 0] 27) = W0 at HA0 HO0 HX0 x0 hlt0 ⊢
  refine (rnumber_at _ _ _ l c 2 2 _ rfl rfl HA0.out (by omega) (by omega) (by omega) (by omega)).mono ?_
  rintro e w1 ⟨rfl, rfl⟩
  go_wp2_with fail
  have hR := HA0.out.cut 0 20 c (by omega) hl hc
  rw [if_neg (by omega)] at hR
  have HR : Hid (RA W0 (some ad) (l.take 20)) := Lib.hid (by simpa [Addr.add] using hR)
  clear hR x0
  refine (SumOf_any _ (l.take 20) 20 c _ (by rw [List.length_take]; omega) (by omega) HR.out).mono ?_
  rintro e w1 ⟨rfl, hb1⟩
  have HA1 := Lib.hid (HA0.out.below hb1)
  have HX1 := Lib.hid (HX0.out.beyond hb1)
  have HO1 := Lib.hid (below_then' HO0.out HO0.out.size hb1)
  obtain ⟨ad', hee, hlt1, hcell⟩ := HA1.out.at_ (j := 0) (by omega)
  injection hee with hee
  subst hee
  have x0 := hcell 0 (by omega)
  rw [show ad.add 0 = ad from by simp [Addr.add]] at x0
  have x1 := hcell 1 (by omega)
  have x8 := hcell 8 (by omega)
  have x9 := hcell 9 (by omega)
  unfold bv at x0 x1 x8 x9
  simp only [Addr.add, Nat.reduceEqDiff, if_false] at x1 x8 x9
  clear hb1 hcell HA0 HX0 HO0 HR
  go_wp2_with fail
  refine (rnumber_at _ _ _ l c 6 2 _ rfl rfl HA1.out (by omega) (by omega) (by omega) (by omega)).mono ?_
  rintro e w2 ⟨rfl, rfl⟩
  have y0 := HX1.out.cell 0
  have y1 := HX1.out.cell 1
  have y2 := HX1.out.cell 2
  have y3 := HX1.out.cell 3
  have y4 := HX1.out.cell 4
  have y5 := HX1.out.cell 5
  have y6 := HX1.out.cell 6
  have f0 := HX1.out.frozen 0
  have f1 := HX1.out.frozen 1
  have f2 := HX1.out.frozen 2
  have f3 := HX1.out.frozen 3
  have f4 := HX1.out.frozen 4
  have f5 := HX1.out.frozen 5
  have f6 := HX1.out.frozen 6
  simp only [z7, List.getElem?_cons_zero, List.getElem?_cons_succ] at y0 y1 y2 y3 y4 y5 y6
  go_wp2
  have HX2 := ((((((HX1.out.set_ 0 (.int .i64 0)).set_ 1 (.int .i64 0)).set_ 2 (.int .i64 0)).set_ 3 (.int .i64 0)).set_ 4 (.bool false)).set_ 5 (.int .u32 0)).set_ 6 (.int .u32 0)
  have z0 := HX2.cell 0
  have z1 := HX2.cell 1
  have z2 := HX2.cell 2
  have z3 := HX2.cell 3
  have z4 := HX2.cell 4
  have z5 := HX2.cell 5
  have z6 := HX2.cell 6
  simp only [z7, List.set_cons_zero, List.set_cons_succ, List.getElem?_cons_zero, List.getElem?_cons_succ] at z0 z1 z2 z3 z4 z5 z6
  refine bodyPost_ret (v := .tuple #[.agg z7.toArray, .slice none 0 0, .int .i64 94]) (by simp [results, Try.results15, go_sem, z7, z0, z1, z2, z3, z4, z5, z6]) rfl ⟨rfl, ?_⟩
  exact (((((((HO1.out.setCell (p := ⟨w.heap.size, 0, none⟩) (Nat.le_refl _) _).setCell (p := ⟨w.heap.size, 1, none⟩) (Nat.le_refl _) _).setCell (p := ⟨w.heap.size, 2, none⟩) (Nat.le_refl _) _).setCell (p := ⟨w.heap.size, 3, none⟩) (Nat.le_refl _) _).setCell (p := ⟨w.heap.size, 4, none⟩) (Nat.le_refl _) _).setCell (p := ⟨w.heap.size, 5, none⟩) (Nat.le_refl _) _).setCell (p := ⟨w.heap.size, 6, none⟩) (Nat.le_refl _) _)
set_option maxRecDepth 100000 in
set_option maxHeartbeats 2000000 in
theorem rDecode_ttl (A : Option Addr) (l : List UInt8) (c : Nat) (w : World) (hA : RA w A l) (hc : l.length ≤ c) (hcm : c ≤ 9223372036854775807) (hl : 20 ≤ l.length) (hbig : l.length ≤ 140737488351232) (hh : headOk l hl) (h5 : csum (l.take 20) = 0) (h6 : ofBe ((l.drop 6).take 2) % 16384 = 0) (h7 : l[8].toNat = 0) :
    Calls Try.prog 15 #[.slice A l.length c] w fun e w' => e = .returned (.tuple #[.agg z7.toArray, .slice none 0 0, .int .i64 (95 : Nat)]) ∧ Below w.heap.size w w' := by
  obtain ⟨h1, h2, h3, h4⟩ := hh
  have t1 : (((l[0].toNat : Int) / 16) != 4) = false := by simp; omega
  have t2 : ¬ (5 : Int) < (l[0].toNat : Int) % 16 := by omega
  have t3 : ¬ (l[0].toNat : Int) % 16 < 5 := by omega
  have t4 : ¬ ((ofBe ((l.drop 2).take 2) : Nat) : Int) < 20 := by omega
  have t5 : ¬ (l.length : Int) < ((ofBe ((l.drop 2).take 2) : Nat) : Int) := by omega
  have t5' : decide (l.length < ofBe ((l.drop 2).take 2)) = false := by simp; omega
  have t6 : (((csum (l.take 20) : Nat) : Int) != 0) = false := by simp; omega
  have t7 : (((ofBe ((l.drop 6).take 2) : Nat) : Int) / 8192 % 2 == 1) = false := beq_eq_false_iff_ne.2 (by omega)
  have t8 : (((ofBe ((l.drop 6).take 2) : Nat) : Int) % 8192 != 0) = false := by rw [bne_eq_false_iff_eq]; omega
  have t9 : ((l[8].toNat : Int) == 0) = true := by rw [beq_iff_eq]; omega
  have q8 : (8 : Int) < l.length := by omega
  clear h1 h2 h3 h4 h5 h6 h7
  obtain ⟨ad, rfl, hlt, _⟩ := hA.at_ (j := 0) (by omega)
  have hA0 := hA.alloc (.cells #[.int .i64 0, .int .i64 0, .int .i64 0, .int .i64 0, .bool false, .int .u32 0, .int .u32 0] 27)
  have hO0 : Below w.heap.size w (w.alloc (.cells #[.int .i64 0, .int .i64 0, .int .i64 0, .int .i64 0, .bool false, .int .u32 0, .int .u32 0] 27)) := (Below.refl _ w).alloc (Nat.le_refl _) _
  have hX0 : Blk (w.alloc (.cells #[.int .i64 0, .int .i64 0, .int .i64 0, .int .i64 0, .bool false, .int .u32 0, .int .u32 0] 27)) w.heap.size 27 z7 := Blk.new w _ z7
  obtain ⟨ad', hee, hlt0, hcell⟩ := hA0.at_ (j := 0) (by omega)
  injection hee with hee
  subst hee
  have x0 := hcell 0 (by omega)
  rw [show ad.add 0 = ad from by simp [Addr.add]] at x0
  unfold bv at x0
  have hf6 : ofBe ((l.drop 6).take 2) < 65536 := by
    have h := ofBe_lt ((l.drop 6).take 2)
    rwa [show ((l.drop 6).take 2).length = 2 from by simp; omega] at h
  have q0 : (0 : Int) < l.length := by omega
  have q20 : (20 : Int) ≤ l.length := by omega
  have q20c : (20 : Int) ≤ c := by omega
  have HA0 := Lib.hid hA0
  have HO0 := Lib.hid hO0
  have HX0 := Lib.hid hX0
  have hv0 := l[0].toNat_lt
  have hs0 : csum (l.take 20) ≤ 65535 := by unfold csum; omega
  clear hA0 hO0 hX0 hcell
  go_enter Try.func15, Try.ntmps15
  go_wp2_with fail
  generalize w.alloc (.cells #[.int .i64 0, .int .i64 0, .int .i64 0, .int .i64 0, .bool false, .int .u32 0, .int .u32 0] 27) = W0 at HA0 HO0 HX0 x0 hlt0 ⊢
  refine (rnumber_at _ _ _ l c 2 2 _ rfl rfl HA0.out (by omega) (by omega) (by omega) (by omega)).mono ?_
  rintro e w1 ⟨rfl, rfl⟩
  go_wp2_with fail
  have hR := HA0.out.cut 0 20 c (by omega) hl hc
  rw [if_neg (by omega)] at hR
  have HR : Hid (RA W0 (some ad) (l.take 20)) := Lib.hid (by simpa [Addr.add] using hR)
  clear hR x0
  refine (SumOf_any _ (l.take 20) 20 c _ (by rw [List.length_take]; omega) (by omega) HR.out).mono ?_
  rintro e w1 ⟨rfl, hb1⟩
  have HA1 := Lib.hid (HA0.out.below hb1)
  have HX1 := Lib.hid (HX0.out.beyond hb1)
  have HO1 := Lib.hid (below_then' HO0.out HO0.out.size hb1)
  obtain ⟨ad', hee, hlt1, hcell⟩ := HA1.out.at_ (j := 0) (by omega)
  injection hee with hee
  subst hee
  have x0 := hcell 0 (by omega)
  rw [show ad.add 0 = ad from by simp [Addr.add]] at x0
  have x1 := hcell 1 (by omega)
  have x8 := hcell 8 (by omega)
  have x9 := hcell 9 (by omega)
  unfold bv at x0 x1 x8 x9
  simp only [Addr.add, Nat.reduceEqDiff, if_false] at x1 x8 x9
  clear hb1 hcell HA0 HX0 HO0 HR
  go_wp2_with fail
  refine (rnumber_at _ _ _ l c 6 2 _ rfl rfl HA1.out (by omega) (by omega) (by omega) (by omega)).mono ?_
  rintro e w2 ⟨rfl, rfl⟩
  have y0 := HX1.out.cell 0
  have y1 := HX1.out.cell 1
  have y2 := HX1.out.cell 2
  have y3 := HX1.out.cell 3
  have y4 := HX1.out.cell 4
  have y5 := HX1.out.cell 5
  have y6 := HX1.out.cell 6
  have f0 := HX1.out.frozen 0
  have f1 := HX1.out.frozen 1
  have f2 := HX1.out.frozen 2
  have f3 := HX1.out.frozen 3
  have f4 := HX1.out.frozen 4
  have f5 := HX1.out.frozen 5
  have f6 := HX1.out.frozen 6
  simp only [z7, List.getElem?_cons_zero, List.getElem?_cons_succ] at y0 y1 y2 y3 y4 y5 y6
  go_wp2
  have HX2 := ((((((HX1.out.set_ 0 (.int .i64 0)).set_ 1 (.int .i64 0)).set_ 2 (.int .i64 0)).set_ 3 (.int .i64 0)).set_ 4 (.bool false)).set_ 5 (.int .u32 0)).set_ 6 (.int .u32 0)
  have z0 := HX2.cell 0
  have z1 := HX2.cell 1
  have z2 := HX2.cell 2
  have z3 := HX2.cell 3
  have z4 := HX2.cell 4
  have z5 := HX2.cell 5
  have z6 := HX2.cell 6
  simp only [z7, List.set_cons_zero, List.set_cons_succ, List.getElem?_cons_zero, List.getElem?_cons_succ] at z0 z1 z2 z3 z4 z5 z6
  refine bodyPost_ret (v := .tuple #[.agg z7.toArray, .slice none 0 0, .int .i64 95]) (by simp [results, Try.results15, go_sem, z7, z0, z1, z2, z3, z4, z5, z6]) rfl ⟨rfl, ?_⟩
  exact (((((((HO1.out.setCell (p := ⟨w.heap.size, 0, none⟩) (Nat.le_refl _) _).setCell (p := ⟨w.heap.size, 1, none⟩) (Nat.le_refl _) _).setCell (p := ⟨w.heap.size, 2, none⟩) (Nat.le_refl _) _).setCell (p := ⟨w.heap.size, 3, none⟩) (Nat.le_refl _) _).setCell (p := ⟨w.heap.size, 4, none⟩) (Nat.le_refl _) _).setCell (p := ⟨w.heap.size, 5, none⟩) (Nat.le_refl _) _).setCell (p := ⟨w.heap.size, 6, none⟩) (Nat.le_refl _) _)
end Go.Proofs.Ytlhfphidanjafaa
