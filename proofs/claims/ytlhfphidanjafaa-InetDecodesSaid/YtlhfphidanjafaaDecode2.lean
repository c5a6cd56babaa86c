/- inet.Decode, further on -/
import Derived.Test.YtlhfphidanjafaaDecode
import Derived.StillTailTactics
set_option linter.unusedVariables false
namespace Go.Proofs.Ytlhfphidanjafaa
open Go.RowKit

/-- what Decode asks of a head ahead of the sum -/
def headOk (l : List UInt8) (h : 20 ≤ l.length) : Prop := l[0].toNat / 16 = 4 ∧ l[0].toNat % 16 = 5 ∧ 20 ≤ ofBe ((l.drop 2).take 2) ∧ ofBe ((l.drop 2).take 2) ≤ l.length


set_option maxHeartbeats 2000000 in
theorem Decode_sum (A : Option Addr) (l : List UInt8) (c : Nat) (w : World) (hA : RA w A l) (hc : l.length ≤ c) (hcm : c ≤ 9223372036854775807) (hl : 20 ≤ l.length) (hh : headOk l hl) (hs : ¬ csum (l.take 20) = 0) :
    Calls Try.prog 16 #[.slice A l.length c] w fun e w' => e = .returned (.tuple #[.agg z7.toArray, .slice none 0 0, .int .i64 93]) ∧ Below w.heap.size w w' := by
  have s1 : (((csum (l.take 20) : Nat) : Int) == 0) = false := by simp; omega
  have n20 : (20 : Int) ≤ c := by omega
  obtain ⟨k1, k2, k3, k4⟩ := hh
  have o1 : decide ((l[0].toNat : Int) % 16 ≤ 5) = true := by simp; omega
  have v1 : (((l[0].toNat : Int) / 16) == 4) = true := by simp; omega
  have o2 : (((l[0].toNat : Int) % 16) == 5) = true := by simp; omega
  have l1 : decide ((20 : Int) ≤ ofBe ((l.drop 2).take 2)) = true := by simp; omega
  have l2 : decide (ofBe ((l.drop 2).take 2) ≤ l.length) = true := by simp; omega
  clear k1 k2 k3 k4
  have b1 : decide ((20 : Int) ≤ l.length) = true := by simp; omega
  obtain ⟨ad, rfl, hlt, _⟩ := hA.at_ (j := 0) (by omega)
  have hmf : ∀ (fn : Fn) (first cap : Array Value) (w : World), (Instr.makeFunc fn first cap).run Try.prog w = .ok (.func fn first cap) w := fun _ _ _ _ => rfl
  go_enter_defers Try.func16, Try.ntmps16
  go_wp2_with fail
  have D0 := Ds.start w (some ad) l c
  generalize (((w.alloc (.cells #[.slice (some ad) l.length c] 28)).alloc (.cells #[.int .i64 0, .int .i64 0, .int .i64 0, .int .i64 0, .bool false, .int .u32 0, .int .u32 0] 27)).alloc (.cells #[.slice none 0 0] 28)).alloc (.cells #[.int .i64 0] 23) = W0 at D0 ⊢
  have hA0 := hA.below D0.old
  obtain ⟨ad', hee, _, hcell⟩ := hA0.at_ (j := 0) (by omega)
  injection hee with hee
  subst hee
  have x0 : W0.cell? ad = some (bv l[0]) := by simpa [Addr.add] using hcell 0 (by omega)
  have x1 := hcell 1 (by omega)
  have x8 := hcell 8 (by omega)
  have x9 := hcell 9 (by omega)
  have hb0 := D0.cell
  clear hcell
  have HA0 := Lib.hid hA0
  unfold bv at x0 x1 x8 x9
  have hv0 := l[0].toNat_lt
  have o0 := u8_and15 (x := (l[0].toNat : Int)) (by omega) (by omega)
  have hf0 := ofBe_lt ((l.drop 6).take 2)
  have hl0 := ofBe_lt ((l.drop 2).take 2)
  rw [show ((l.drop 6).take 2).length = 2 from by simp; omega] at hf0
  rw [show ((l.drop 2).take 2).length = 2 from by simp; omega] at hl0
  have g0 := and_16383 (ofBe ((l.drop 6).take 2)) hf0
  refine (must_yes _ _).mono ?_
  rintro e w1 ⟨rfl, rfl⟩
  go_wp2_with fail
  refine (number_at _ _ w.heap.size _ l c 2 2 _ rfl rfl D0.cell HA0.out hc hcm (by omega) (by omega) (by omega)).mono ?_
  rintro e w1 ⟨rfl, rfl⟩
  go_wp2_with fail
  refine (number_at _ _ w.heap.size _ l c 6 2 _ rfl rfl D0.cell HA0.out hc hcm (by omega) (by omega) (by omega)).mono ?_
  rintro e w1 ⟨rfl, rfl⟩
  go_wp2_with fail
  refine (must_yes _ _).mono ?_
  rintro e w1 ⟨rfl, rfl⟩
  go_wp2_with fail
  refine (must_yes _ _).mono ?_
  rintro e w1 ⟨rfl, rfl⟩
  go_wp2_with fail
  refine (must_yes _ _).mono ?_
  rintro e w1 ⟨rfl, rfl⟩
  go_wp2_with fail
  have R0 : RA (W0.alloc (.cells #[.slice (some ad) 20 c] 28)) (some ad) (l.take 20) := by
    have := (HA0.out.alloc (.cells #[.slice (some ad) 20 c] 28)).cut 0 20 c (by omega) hl hc
    rw [if_neg (by omega)] at this
    simpa [Addr.add] using this
  refine (Sum_n W0.heap.size (some ad) (l.take 20) 20 c _ _ (by rw [List.length_take]; omega) (by omega) ?_ R0).mono ?_
  · simp [World.cell?_alloc_new]
  rintro e w1 ⟨rfl, rfl⟩
  have D1 := D0.alloc (.cells #[.slice (some ad) 20 c] 28)
  have x8' : (W0.alloc (.cells #[.slice (some ad) 20 c] 28)).cell? (ad.add 8) = some (.int .u8 (l[8].toNat : Int)) := by
    rw [World.cell?_alloc_lt _ _ _ (by rw [block_add]; assumption)]; exact x8
  have x1' : (W0.alloc (.cells #[.slice (some ad) 20 c] 28)).cell? (ad.add 1) = some (.int .u8 (l[1].toNat : Int)) := by
    rw [World.cell?_alloc_lt _ _ _ (by rw [block_add]; assumption)]; exact x1
  have x9' : (W0.alloc (.cells #[.slice (some ad) 20 c] 28)).cell? (ad.add 9) = some (.int .u8 (l[9].toNat : Int)) := by
    rw [World.cell?_alloc_lt _ _ _ (by rw [block_add]; assumption)]; exact x9
  have hb1 := D1.cell
  have HA1 := Lib.hid (HA0.out.alloc (.cells #[.slice (some ad) 20 c] 28))
  clear R0 x0 x1 x8 x9 hb0 hA0 hA
  simp only [Addr.add, Nat.reduceEqDiff, if_false] at x1' x8' x9'
  generalize W0.alloc (.cells #[.slice (some ad) 20 c] 28) = W1 at D1 x8' x1' x9' hb1 HA1 ⊢
  go_wp2_with fail
  refine (must_no 93 _).mono ?_
  rintro e w1 ⟨rfl, rfl⟩
  go_wp2_with fail
  refine leaves_cons (f := 23) (args := #[.pointer (some ⟨w.heap.size + 1, 0, none⟩), .pointer (some ⟨w.heap.size + 1 + 1, 0, none⟩), .pointer (some ⟨w.heap.size + 1 + 1 + 1, 0, none⟩)]) (by simp) (by simp [go_sem]) ?_
  refine (caught (w.heap.size + 1) (w.heap.size + 1 + 1) (w.heap.size + 1 + 1 + 1) z7 (.slice none 0 0) (.int .i64 0) 93 [] _ rfl D1.h D1.d D1.e (by omega) (by omega) (by omega)).mono ?_
  rintro e u' w2 ⟨rfl, rfl, g1, g2, g3, hB⟩
  have hB1 := D1.old.trans (hB w.heap.size (by omega) (by omega) (by omega))
  clear hB
  have c0 := g1.cell 0
  have c1 := g1.cell 1
  have c2 := g1.cell 2
  have c3 := g1.cell 3
  have c4 := g1.cell 4
  have c5 := g1.cell 5
  have c6 := g1.cell 6
  have cd := g2.cell 0
  have ce := g3.cell 0
  simp only [z7, List.getElem?_cons_zero, List.getElem?_cons_succ] at c0 c1 c2 c3 c4 c5 c6 cd ce
  simp [Leaves, settle, results, Try.results16, go_sem, c0, c1, c2, c3, c4, c5, c6, cd, ce, z7, hB1]

set_option maxHeartbeats 2000000 in
theorem Decode_fragment (A : Option Addr) (l : List UInt8) (c : Nat) (w : World) (hA : RA w A l) (hc : l.length ≤ c) (hcm : c ≤ 9223372036854775807) (hl : 20 ≤ l.length) (hh : headOk l hl) (hs : csum (l.take 20) = 0)
    (hf : ¬ ofBe ((l.drop 6).take 2) % 16384 = 0) :
    Calls Try.prog 16 #[.slice A l.length c] w fun e w' => e = .returned (.tuple #[.agg z7.toArray, .slice none 0 0, .int .i64 94]) ∧ Below w.heap.size w w' := by
  have s1 : (((csum (l.take 20) : Nat) : Int) == 0) = true := by simp; omega
  have n20 : (20 : Int) ≤ c := by omega
  have g1 : (((ofBe ((l.drop 6).take 2) % 16384 : Nat) : Int) == 0) = false := by rw [beq_eq_false_iff_ne]; omega
  have g1' : (((ofBe ((l.drop 6).take 2) : Nat) : Int) % 16384 == 0) = false := by rw [beq_eq_false_iff_ne]; omega
  clear hs
  obtain ⟨k1, k2, k3, k4⟩ := hh
  have o1 : decide ((l[0].toNat : Int) % 16 ≤ 5) = true := by simp; omega
  have v1 : (((l[0].toNat : Int) / 16) == 4) = true := by simp; omega
  have o2 : (((l[0].toNat : Int) % 16) == 5) = true := by simp; omega
  have l1 : decide ((20 : Int) ≤ ofBe ((l.drop 2).take 2)) = true := by simp; omega
  have l2 : decide (ofBe ((l.drop 2).take 2) ≤ l.length) = true := by simp; omega
  clear k1 k2 k3 k4
  have b1 : decide ((20 : Int) ≤ l.length) = true := by simp; omega
  obtain ⟨ad, rfl, hlt, _⟩ := hA.at_ (j := 0) (by omega)
  have hmf : ∀ (fn : Fn) (first cap : Array Value) (w : World), (Instr.makeFunc fn first cap).run Try.prog w = .ok (.func fn first cap) w := fun _ _ _ _ => rfl
  go_enter_defers Try.func16, Try.ntmps16
  go_wp2_with fail
  have D0 := Ds.start w (some ad) l c
  generalize (((w.alloc (.cells #[.slice (some ad) l.length c] 28)).alloc (.cells #[.int .i64 0, .int .i64 0, .int .i64 0, .int .i64 0, .bool false, .int .u32 0, .int .u32 0] 27)).alloc (.cells #[.slice none 0 0] 28)).alloc (.cells #[.int .i64 0] 23) = W0 at D0 ⊢
  have hA0 := hA.below D0.old
  obtain ⟨ad', hee, _, hcell⟩ := hA0.at_ (j := 0) (by omega)
  injection hee with hee
  subst hee
  have x0 : W0.cell? ad = some (bv l[0]) := by simpa [Addr.add] using hcell 0 (by omega)
  have x1 := hcell 1 (by omega)
  have x8 := hcell 8 (by omega)
  have x9 := hcell 9 (by omega)
  have hb0 := D0.cell
  clear hcell
  have HA0 := Lib.hid hA0
  unfold bv at x0 x1 x8 x9
  have hv0 := l[0].toNat_lt
  have o0 := u8_and15 (x := (l[0].toNat : Int)) (by omega) (by omega)
  have hf0 := ofBe_lt ((l.drop 6).take 2)
  have hl0 := ofBe_lt ((l.drop 2).take 2)
  rw [show ((l.drop 6).take 2).length = 2 from by simp; omega] at hf0
  rw [show ((l.drop 2).take 2).length = 2 from by simp; omega] at hl0
  have g0 := and_16383 (ofBe ((l.drop 6).take 2)) hf0
  refine (must_yes _ _).mono ?_
  rintro e w1 ⟨rfl, rfl⟩
  go_wp2_with fail
  refine (number_at _ _ w.heap.size _ l c 2 2 _ rfl rfl D0.cell HA0.out hc hcm (by omega) (by omega) (by omega)).mono ?_
  rintro e w1 ⟨rfl, rfl⟩
  go_wp2_with fail
  refine (number_at _ _ w.heap.size _ l c 6 2 _ rfl rfl D0.cell HA0.out hc hcm (by omega) (by omega) (by omega)).mono ?_
  rintro e w1 ⟨rfl, rfl⟩
  go_wp2_with fail
  refine (must_yes _ _).mono ?_
  rintro e w1 ⟨rfl, rfl⟩
  go_wp2_with fail
  refine (must_yes _ _).mono ?_
  rintro e w1 ⟨rfl, rfl⟩
  go_wp2_with fail
  refine (must_yes _ _).mono ?_
  rintro e w1 ⟨rfl, rfl⟩
  go_wp2_with fail
  have R0 : RA (W0.alloc (.cells #[.slice (some ad) 20 c] 28)) (some ad) (l.take 20) := by
    have := (HA0.out.alloc (.cells #[.slice (some ad) 20 c] 28)).cut 0 20 c (by omega) hl hc
    rw [if_neg (by omega)] at this
    simpa [Addr.add] using this
  refine (Sum_n W0.heap.size (some ad) (l.take 20) 20 c _ _ (by rw [List.length_take]; omega) (by omega) ?_ R0).mono ?_
  · simp [World.cell?_alloc_new]
  rintro e w1 ⟨rfl, rfl⟩
  have D1 := D0.alloc (.cells #[.slice (some ad) 20 c] 28)
  have x8' : (W0.alloc (.cells #[.slice (some ad) 20 c] 28)).cell? (ad.add 8) = some (.int .u8 (l[8].toNat : Int)) := by
    rw [World.cell?_alloc_lt _ _ _ (by rw [block_add]; assumption)]; exact x8
  have x1' : (W0.alloc (.cells #[.slice (some ad) 20 c] 28)).cell? (ad.add 1) = some (.int .u8 (l[1].toNat : Int)) := by
    rw [World.cell?_alloc_lt _ _ _ (by rw [block_add]; assumption)]; exact x1
  have x9' : (W0.alloc (.cells #[.slice (some ad) 20 c] 28)).cell? (ad.add 9) = some (.int .u8 (l[9].toNat : Int)) := by
    rw [World.cell?_alloc_lt _ _ _ (by rw [block_add]; assumption)]; exact x9
  have hb1 := D1.cell
  have HA1 := Lib.hid (HA0.out.alloc (.cells #[.slice (some ad) 20 c] 28))
  clear R0 x0 x1 x8 x9 hb0 hA0 hA
  simp only [Addr.add, Nat.reduceEqDiff, if_false] at x1' x8' x9'
  generalize W0.alloc (.cells #[.slice (some ad) 20 c] 28) = W1 at D1 x8' x1' x9' hb1 HA1 ⊢
  go_wp2_with fail
  refine (must_yes _ _).mono ?_
  rintro e w1 ⟨rfl, rfl⟩
  go_wp2_with fail
  refine (must_no 94 _).mono ?_
  rintro e w1 ⟨rfl, rfl⟩
  go_wp2_with fail
  refine leaves_cons (f := 23) (args := #[.pointer (some ⟨w.heap.size + 1, 0, none⟩), .pointer (some ⟨w.heap.size + 1 + 1, 0, none⟩), .pointer (some ⟨w.heap.size + 1 + 1 + 1, 0, none⟩)]) (by simp) (by simp [go_sem]) ?_
  refine (caught (w.heap.size + 1) (w.heap.size + 1 + 1) (w.heap.size + 1 + 1 + 1) z7 (.slice none 0 0) (.int .i64 0) 94 [] _ rfl D1.h D1.d D1.e (by omega) (by omega) (by omega)).mono ?_
  rintro e u' w2 ⟨rfl, rfl, g1, g2, g3, hB⟩
  have hB1 := D1.old.trans (hB w.heap.size (by omega) (by omega) (by omega))
  clear hB
  have c0 := g1.cell 0
  have c1 := g1.cell 1
  have c2 := g1.cell 2
  have c3 := g1.cell 3
  have c4 := g1.cell 4
  have c5 := g1.cell 5
  have c6 := g1.cell 6
  have cd := g2.cell 0
  have ce := g3.cell 0
  simp only [z7, List.getElem?_cons_zero, List.getElem?_cons_succ] at c0 c1 c2 c3 c4 c5 c6 cd ce
  simp [Leaves, settle, results, Try.results16, go_sem, c0, c1, c2, c3, c4, c5, c6, cd, ce, z7, hB1]

set_option maxHeartbeats 2000000 in
theorem Decode_ttl (A : Option Addr) (l : List UInt8) (c : Nat) (w : World) (hA : RA w A l) (hc : l.length ≤ c) (hcm : c ≤ 9223372036854775807) (hl : 20 ≤ l.length) (hh : headOk l hl) (hs : csum (l.take 20) = 0)
    (hf : ofBe ((l.drop 6).take 2) % 16384 = 0) (ht : l[8].toNat = 0) :
    Calls Try.prog 16 #[.slice A l.length c] w fun e w' => e = .returned (.tuple #[.agg z7.toArray, .slice none 0 0, .int .i64 95]) ∧ Below w.heap.size w w' := by
  have s1 : (((csum (l.take 20) : Nat) : Int) == 0) = true := by simp; omega
  have n20 : (20 : Int) ≤ c := by omega
  have g1 : (((ofBe ((l.drop 6).take 2) % 16384 : Nat) : Int) == 0) = true := by rw [beq_iff_eq]; omega
  have g1' : (((ofBe ((l.drop 6).take 2) : Nat) : Int) % 16384 == 0) = true := by rw [beq_iff_eq]; omega
  have t1 : ((l[8].toNat : Int) != 0) = false := by simp; omega
  clear hs hf ht
  obtain ⟨k1, k2, k3, k4⟩ := hh
  have o1 : decide ((l[0].toNat : Int) % 16 ≤ 5) = true := by simp; omega
  have v1 : (((l[0].toNat : Int) / 16) == 4) = true := by simp; omega
  have o2 : (((l[0].toNat : Int) % 16) == 5) = true := by simp; omega
  have l1 : decide ((20 : Int) ≤ ofBe ((l.drop 2).take 2)) = true := by simp; omega
  have l2 : decide (ofBe ((l.drop 2).take 2) ≤ l.length) = true := by simp; omega
  clear k1 k2 k3 k4
  have b1 : decide ((20 : Int) ≤ l.length) = true := by simp; omega
  obtain ⟨ad, rfl, hlt, _⟩ := hA.at_ (j := 0) (by omega)
  have hmf : ∀ (fn : Fn) (first cap : Array Value) (w : World), (Instr.makeFunc fn first cap).run Try.prog w = .ok (.func fn first cap) w := fun _ _ _ _ => rfl
  go_enter_defers Try.func16, Try.ntmps16
  go_wp2_with fail
  have D0 := Ds.start w (some ad) l c
  generalize (((w.alloc (.cells #[.slice (some ad) l.length c] 28)).alloc (.cells #[.int .i64 0, .int .i64 0, .int .i64 0, .int .i64 0, .bool false, .int .u32 0, .int .u32 0] 27)).alloc (.cells #[.slice none 0 0] 28)).alloc (.cells #[.int .i64 0] 23) = W0 at D0 ⊢
  have hA0 := hA.below D0.old
  obtain ⟨ad', hee, _, hcell⟩ := hA0.at_ (j := 0) (by omega)
  injection hee with hee
  subst hee
  have x0 : W0.cell? ad = some (bv l[0]) := by simpa [Addr.add] using hcell 0 (by omega)
  have x1 := hcell 1 (by omega)
  have x8 := hcell 8 (by omega)
  have x9 := hcell 9 (by omega)
  have hb0 := D0.cell
  clear hcell
  have HA0 := Lib.hid hA0
  unfold bv at x0 x1 x8 x9
  have hv0 := l[0].toNat_lt
  have o0 := u8_and15 (x := (l[0].toNat : Int)) (by omega) (by omega)
  have hf0 := ofBe_lt ((l.drop 6).take 2)
  have hl0 := ofBe_lt ((l.drop 2).take 2)
  rw [show ((l.drop 6).take 2).length = 2 from by simp; omega] at hf0
  rw [show ((l.drop 2).take 2).length = 2 from by simp; omega] at hl0
  have g0 := and_16383 (ofBe ((l.drop 6).take 2)) hf0
  refine (must_yes _ _).mono ?_
  rintro e w1 ⟨rfl, rfl⟩
  go_wp2_with fail
  refine (number_at _ _ w.heap.size _ l c 2 2 _ rfl rfl D0.cell HA0.out hc hcm (by omega) (by omega) (by omega)).mono ?_
  rintro e w1 ⟨rfl, rfl⟩
  go_wp2_with fail
  refine (number_at _ _ w.heap.size _ l c 6 2 _ rfl rfl D0.cell HA0.out hc hcm (by omega) (by omega) (by omega)).mono ?_
  rintro e w1 ⟨rfl, rfl⟩
  go_wp2_with fail
  refine (must_yes _ _).mono ?_
  rintro e w1 ⟨rfl, rfl⟩
  go_wp2_with fail
  refine (must_yes _ _).mono ?_
  rintro e w1 ⟨rfl, rfl⟩
  go_wp2_with fail
  refine (must_yes _ _).mono ?_
  rintro e w1 ⟨rfl, rfl⟩
  go_wp2_with fail
  have R0 : RA (W0.alloc (.cells #[.slice (some ad) 20 c] 28)) (some ad) (l.take 20) := by
    have := (HA0.out.alloc (.cells #[.slice (some ad) 20 c] 28)).cut 0 20 c (by omega) hl hc
    rw [if_neg (by omega)] at this
    simpa [Addr.add] using this
  refine (Sum_n W0.heap.size (some ad) (l.take 20) 20 c _ _ (by rw [List.length_take]; omega) (by omega) ?_ R0).mono ?_
  · simp [World.cell?_alloc_new]
  rintro e w1 ⟨rfl, rfl⟩
  have D1 := D0.alloc (.cells #[.slice (some ad) 20 c] 28)
  have x8' : (W0.alloc (.cells #[.slice (some ad) 20 c] 28)).cell? (ad.add 8) = some (.int .u8 (l[8].toNat : Int)) := by
    rw [World.cell?_alloc_lt _ _ _ (by rw [block_add]; assumption)]; exact x8
  have x1' : (W0.alloc (.cells #[.slice (some ad) 20 c] 28)).cell? (ad.add 1) = some (.int .u8 (l[1].toNat : Int)) := by
    rw [World.cell?_alloc_lt _ _ _ (by rw [block_add]; assumption)]; exact x1
  have x9' : (W0.alloc (.cells #[.slice (some ad) 20 c] 28)).cell? (ad.add 9) = some (.int .u8 (l[9].toNat : Int)) := by
    rw [World.cell?_alloc_lt _ _ _ (by rw [block_add]; assumption)]; exact x9
  have hb1 := D1.cell
  have HA1 := Lib.hid (HA0.out.alloc (.cells #[.slice (some ad) 20 c] 28))
  clear R0 x0 x1 x8 x9 hb0 hA0 hA
  simp only [Addr.add, Nat.reduceEqDiff, if_false] at x1' x8' x9'
  generalize W0.alloc (.cells #[.slice (some ad) 20 c] 28) = W1 at D1 x8' x1' x9' hb1 HA1 ⊢
  go_wp2_with fail
  refine (must_yes _ _).mono ?_
  rintro e w1 ⟨rfl, rfl⟩
  go_wp2_with fail
  refine (must_yes _ _).mono ?_
  rintro e w1 ⟨rfl, rfl⟩
  go_wp2_with fail
  refine (must_no 95 _).mono ?_
  rintro e w1 ⟨rfl, rfl⟩
  go_wp2_with fail
  refine leaves_cons (f := 23) (args := #[.pointer (some ⟨w.heap.size + 1, 0, none⟩), .pointer (some ⟨w.heap.size + 1 + 1, 0, none⟩), .pointer (some ⟨w.heap.size + 1 + 1 + 1, 0, none⟩)]) (by simp) (by simp [go_sem]) ?_
  refine (caught (w.heap.size + 1) (w.heap.size + 1 + 1) (w.heap.size + 1 + 1 + 1) z7 (.slice none 0 0) (.int .i64 0) 95 [] _ rfl D1.h D1.d D1.e (by omega) (by omega) (by omega)).mono ?_
  rintro e u' w2 ⟨rfl, rfl, g1, g2, g3, hB⟩
  have hB1 := D1.old.trans (hB w.heap.size (by omega) (by omega) (by omega))
  clear hB
  have c0 := g1.cell 0
  have c1 := g1.cell 1
  have c2 := g1.cell 2
  have c3 := g1.cell 3
  have c4 := g1.cell 4
  have c5 := g1.cell 5
  have c6 := g1.cell 6
  have cd := g2.cell 0
  have ce := g3.cell 0
  simp only [z7, List.getElem?_cons_zero, List.getElem?_cons_succ] at c0 c1 c2 c3 c4 c5 c6 cd ce
  simp [Leaves, settle, results, Try.results16, go_sem, c0, c1, c2, c3, c4, c5, c6, cd, ce, z7, hB1]

end Go.Proofs.Ytlhfphidanjafaa
