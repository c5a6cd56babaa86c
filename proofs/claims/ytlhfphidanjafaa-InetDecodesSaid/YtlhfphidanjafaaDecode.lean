/- inet.Decode -/
import Derived.Test.YtlhfphidanjafaaDec
set_option linter.unusedVariables false
namespace Go.Proofs.Ytlhfphidanjafaa
open Go.RowKit

/-- how memory stands while a head is read: the argument's variable, the three results' -/
structure Ds (w W : World) (A : Option Addr) (l : List UInt8) (c : Nat) : Prop where
  box : Blk W w.heap.size 28 [.slice A l.length c]
  h : Blk W (w.heap.size + 1) 27 z7
  d : Blk W (w.heap.size + 1 + 1) 28 [.slice none 0 0]
  e : Blk W (w.heap.size + 1 + 1 + 1) 23 [.int .i64 0]
  old : Below w.heap.size w W
section
variable {w W W1 : World} {A : Option Addr} {l : List UInt8} {c : Nat}
theorem Ds.drew (h : Ds w W A l c) : Ds w W.drew A l c := ⟨h.box, h.h, h.d, h.e, below_drew' h.old⟩
theorem Ds.alloc (h : Ds w W A l c) (o : Obj) : Ds w (W.alloc o) A l c := ⟨h.box.alloc o, h.h.alloc o, h.d.alloc o, h.e.alloc o, h.old.alloc h.old.size o⟩
theorem Ds.cell (h : Ds w W A l c) : W.cell? ⟨w.heap.size, 0, none⟩ = some (.slice A l.length c) := (h.box.cell 0).trans rfl
theorem Ds.start (w : World) (A : Option Addr) (l : List UInt8) (c : Nat) : Ds w ((((w.alloc (.cells #[.slice A l.length c] 28)).alloc (.cells #[.int .i64 0, .int .i64 0, .int .i64 0, .int .i64 0, .bool false, .int .u32 0, .int .u32 0] 27)).alloc (.cells #[.slice none 0 0] 28)).alloc (.cells #[.int .i64 0] 23)) A l c := by
  refine ⟨(((Blk.new w _ _).alloc _).alloc _).alloc _, ?_, ?_, ?_, ?_⟩
  · have := ((Blk.new (w.alloc (.cells #[.slice A l.length c] 28)) 27 z7).alloc (.cells #[.slice none 0 0] 28)).alloc (.cells #[.int .i64 0] 23)
    simpa [z7] using this
  · have := (Blk.new ((w.alloc (.cells #[.slice A l.length c] 28)).alloc (.cells #[.int .i64 0, .int .i64 0, .int .i64 0, .int .i64 0, .bool false, .int .u32 0, .int .u32 0] 27)) 28 [.slice none 0 0]).alloc (.cells #[.int .i64 0] 23)
    simpa using this
  · have := Blk.new (((w.alloc (.cells #[.slice A l.length c] 28)).alloc (.cells #[.int .i64 0, .int .i64 0, .int .i64 0, .int .i64 0, .bool false, .int .u32 0, .int .u32 0] 27)).alloc (.cells #[.slice none 0 0] 28)) 23 [.int .i64 0]
    simpa using this
  · exact ((((Below.refl _ _).alloc (Nat.le_refl _) _).alloc (by simp) _).alloc (by simp; omega) _).alloc (by simp; omega) _
end


set_option maxHeartbeats 1000000 in
theorem Decode_short (A : Option Addr) (l : List UInt8) (c : Nat) (w : World) (hA : RA w A l) (hc : l.length ≤ c) (hcm : c ≤ 9223372036854775807) (hl : l.length < 20) :
    Calls Try.prog 16 #[.slice A l.length c] w fun e w' => e = .returned (.tuple #[.agg z7.toArray, .slice none 0 0, .int .i64 5]) ∧ Below w.heap.size w w' := by
  have b1 : decide ((20 : Int) ≤ l.length) = false := by simp; omega
  have hmf : ∀ (fn : Fn) (first cap : Array Value) (w : World), (Instr.makeFunc fn first cap).run Try.prog w = .ok (.func fn first cap) w := fun _ _ _ _ => rfl
  go_enter_defers Try.func16, Try.ntmps16
  go_wp2_with fail
  have D0 := Ds.start w (A) l c
  generalize (((w.alloc (.cells #[.slice (A) l.length c] 28)).alloc (.cells #[.int .i64 0, .int .i64 0, .int .i64 0, .int .i64 0, .bool false, .int .u32 0, .int .u32 0] 27)).alloc (.cells #[.slice none 0 0] 28)).alloc (.cells #[.int .i64 0] 23) = W0 at D0 ⊢
  refine (must_no 5 _).mono ?_
  rintro e w1 ⟨rfl, rfl⟩
  go_wp2_with fail
  refine leaves_cons (f := 23) (args := #[.pointer (some ⟨w.heap.size + 1, 0, none⟩), .pointer (some ⟨w.heap.size + 1 + 1, 0, none⟩), .pointer (some ⟨w.heap.size + 1 + 1 + 1, 0, none⟩)]) (by simp) (by simp [go_sem]) ?_
  refine (caught (w.heap.size + 1) (w.heap.size + 1 + 1) (w.heap.size + 1 + 1 + 1) z7 (.slice none 0 0) (.int .i64 0) 5 [] _ rfl D0.h D0.d D0.e (by omega) (by omega) (by omega)).mono ?_
  rintro e u' w2 ⟨rfl, rfl, g1, g2, g3, hB⟩
  have hB1 := D0.old.trans (hB w.heap.size (by omega) (by omega) (by omega))
  clear hB
  have c0 := g1.cell 0
  have c1 := g1.cell 1
  have c2 := g1.cell 2
  have c3 := g1.cell 3
  have c4 := g1.cell 4
  have c5 := g1.cell 5
  have c6 := g1.cell 6
  have cd := g2.cell 0
  have ce := g3.cell 0
  simp only [z7, List.getElem?_cons_zero, List.getElem?_cons_succ] at c0 c1 c2 c3 c4 c5 c6 cd ce
  simp [Leaves, settle, results, Try.results16, go_sem, c0, c1, c2, c3, c4, c5, c6, cd, ce, z7, hB1]

set_option maxHeartbeats 1000000 in
theorem Decode_version (A : Option Addr) (l : List UInt8) (c : Nat) (w : World) (hA : RA w A l) (hc : l.length ≤ c) (hcm : c ≤ 9223372036854775807) (hl : 20 ≤ l.length) (hv : ¬ l[0].toNat / 16 = 4) :
    Calls Try.prog 16 #[.slice A l.length c] w fun e w' => e = .returned (.tuple #[.agg z7.toArray, .slice none 0 0, .int .i64 90]) ∧ Below w.heap.size w w' := by
  have b1 : decide ((20 : Int) ≤ l.length) = true := by simp; omega
  obtain ⟨ad, rfl, hlt, _⟩ := hA.at_ (j := 0) (by omega)
  have hmf : ∀ (fn : Fn) (first cap : Array Value) (w : World), (Instr.makeFunc fn first cap).run Try.prog w = .ok (.func fn first cap) w := fun _ _ _ _ => rfl
  go_enter_defers Try.func16, Try.ntmps16
  go_wp2_with fail
  have D0 := Ds.start w (some ad) l c
  generalize (((w.alloc (.cells #[.slice (some ad) l.length c] 28)).alloc (.cells #[.int .i64 0, .int .i64 0, .int .i64 0, .int .i64 0, .bool false, .int .u32 0, .int .u32 0] 27)).alloc (.cells #[.slice none 0 0] 28)).alloc (.cells #[.int .i64 0] 23) = W0 at D0 ⊢
  have hA0 := hA.below D0.old
  obtain ⟨ad', hee, _, hcell⟩ := hA0.at_ (j := 0) (by omega)
  injection hee with hee
  subst hee
  have x0 : W0.cell? ad = some (bv l[0]) := by simpa [Addr.add] using hcell 0 (by omega)
  have x1 := hcell 1 (by omega)
  have x8 := hcell 8 (by omega)
  have x9 := hcell 9 (by omega)
  have hb0 := D0.cell
  clear hcell
  have HA0 := Lib.hid hA0
  unfold bv at x0 x1 x8 x9
  have hv0 := l[0].toNat_lt
  have o0 := u8_and15 (x := (l[0].toNat : Int)) (by omega) (by omega)
  have hf0 := ofBe_lt ((l.drop 6).take 2)
  have hl0 := ofBe_lt ((l.drop 2).take 2)
  rw [show ((l.drop 6).take 2).length = 2 from by simp; omega] at hf0
  rw [show ((l.drop 2).take 2).length = 2 from by simp; omega] at hl0
  have g0 := and_16383 (ofBe ((l.drop 6).take 2)) hf0
  have v1 : (((l[0].toNat : Int) / 16) == 4) = false := by simp; omega
  refine (must_yes _ _).mono ?_
  rintro e w1 ⟨rfl, rfl⟩
  go_wp2_with fail
  refine (number_at _ _ w.heap.size _ l c 2 2 _ rfl rfl D0.cell HA0.out hc hcm (by omega) (by omega) (by omega)).mono ?_
  rintro e w1 ⟨rfl, rfl⟩
  go_wp2_with fail
  refine (number_at _ _ w.heap.size _ l c 6 2 _ rfl rfl D0.cell HA0.out hc hcm (by omega) (by omega) (by omega)).mono ?_
  rintro e w1 ⟨rfl, rfl⟩
  go_wp2_with fail
  refine (must_no 90 _).mono ?_
  rintro e w1 ⟨rfl, rfl⟩
  go_wp2_with fail
  refine leaves_cons (f := 23) (args := #[.pointer (some ⟨w.heap.size + 1, 0, none⟩), .pointer (some ⟨w.heap.size + 1 + 1, 0, none⟩), .pointer (some ⟨w.heap.size + 1 + 1 + 1, 0, none⟩)]) (by simp) (by simp [go_sem]) ?_
  refine (caught (w.heap.size + 1) (w.heap.size + 1 + 1) (w.heap.size + 1 + 1 + 1) z7 (.slice none 0 0) (.int .i64 0) 90 [] _ rfl D0.h D0.d D0.e (by omega) (by omega) (by omega)).mono ?_
  rintro e u' w2 ⟨rfl, rfl, g1, g2, g3, hB⟩
  have hB1 := D0.old.trans (hB w.heap.size (by omega) (by omega) (by omega))
  clear hB
  have c0 := g1.cell 0
  have c1 := g1.cell 1
  have c2 := g1.cell 2
  have c3 := g1.cell 3
  have c4 := g1.cell 4
  have c5 := g1.cell 5
  have c6 := g1.cell 6
  have cd := g2.cell 0
  have ce := g3.cell 0
  simp only [z7, List.getElem?_cons_zero, List.getElem?_cons_succ] at c0 c1 c2 c3 c4 c5 c6 cd ce
  simp [Leaves, settle, results, Try.results16, go_sem, c0, c1, c2, c3, c4, c5, c6, cd, ce, z7, hB1]

set_option maxHeartbeats 1000000 in
theorem Decode_options (A : Option Addr) (l : List UInt8) (c : Nat) (w : World) (hA : RA w A l) (hc : l.length ≤ c) (hcm : c ≤ 9223372036854775807) (hl : 20 ≤ l.length) (hv : l[0].toNat / 16 = 4) (ho : ¬ l[0].toNat % 16 ≤ 5) :
    Calls Try.prog 16 #[.slice A l.length c] w fun e w' => e = .returned (.tuple #[.agg z7.toArray, .slice none 0 0, .int .i64 91]) ∧ Below w.heap.size w w' := by
  have b1 : decide ((20 : Int) ≤ l.length) = true := by simp; omega
  obtain ⟨ad, rfl, hlt, _⟩ := hA.at_ (j := 0) (by omega)
  have hmf : ∀ (fn : Fn) (first cap : Array Value) (w : World), (Instr.makeFunc fn first cap).run Try.prog w = .ok (.func fn first cap) w := fun _ _ _ _ => rfl
  go_enter_defers Try.func16, Try.ntmps16
  go_wp2_with fail
  have D0 := Ds.start w (some ad) l c
  generalize (((w.alloc (.cells #[.slice (some ad) l.length c] 28)).alloc (.cells #[.int .i64 0, .int .i64 0, .int .i64 0, .int .i64 0, .bool false, .int .u32 0, .int .u32 0] 27)).alloc (.cells #[.slice none 0 0] 28)).alloc (.cells #[.int .i64 0] 23) = W0 at D0 ⊢
  have hA0 := hA.below D0.old
  obtain ⟨ad', hee, _, hcell⟩ := hA0.at_ (j := 0) (by omega)
  injection hee with hee
  subst hee
  have x0 : W0.cell? ad = some (bv l[0]) := by simpa [Addr.add] using hcell 0 (by omega)
  have x1 := hcell 1 (by omega)
  have x8 := hcell 8 (by omega)
  have x9 := hcell 9 (by omega)
  have hb0 := D0.cell
  clear hcell
  have HA0 := Lib.hid hA0
  unfold bv at x0 x1 x8 x9
  have hv0 := l[0].toNat_lt
  have o0 := u8_and15 (x := (l[0].toNat : Int)) (by omega) (by omega)
  have hf0 := ofBe_lt ((l.drop 6).take 2)
  have hl0 := ofBe_lt ((l.drop 2).take 2)
  rw [show ((l.drop 6).take 2).length = 2 from by simp; omega] at hf0
  rw [show ((l.drop 2).take 2).length = 2 from by simp; omega] at hl0
  have g0 := and_16383 (ofBe ((l.drop 6).take 2)) hf0
  have v1 : (((l[0].toNat : Int) / 16) == 4) = true := by simp; omega
  have o1 : decide ((l[0].toNat : Int) % 16 ≤ 5) = false := by simp; omega
  clear hv
  refine (must_yes _ _).mono ?_
  rintro e w1 ⟨rfl, rfl⟩
  go_wp2_with fail
  refine (number_at _ _ w.heap.size _ l c 2 2 _ rfl rfl D0.cell HA0.out hc hcm (by omega) (by omega) (by omega)).mono ?_
  rintro e w1 ⟨rfl, rfl⟩
  go_wp2_with fail
  refine (number_at _ _ w.heap.size _ l c 6 2 _ rfl rfl D0.cell HA0.out hc hcm (by omega) (by omega) (by omega)).mono ?_
  rintro e w1 ⟨rfl, rfl⟩
  go_wp2_with fail
  refine (must_yes _ _).mono ?_
  rintro e w1 ⟨rfl, rfl⟩
  go_wp2_with fail
  refine (must_no 91 _).mono ?_
  rintro e w1 ⟨rfl, rfl⟩
  go_wp2_with fail
  refine leaves_cons (f := 23) (args := #[.pointer (some ⟨w.heap.size + 1, 0, none⟩), .pointer (some ⟨w.heap.size + 1 + 1, 0, none⟩), .pointer (some ⟨w.heap.size + 1 + 1 + 1, 0, none⟩)]) (by simp) (by simp [go_sem]) ?_
  refine (caught (w.heap.size + 1) (w.heap.size + 1 + 1) (w.heap.size + 1 + 1 + 1) z7 (.slice none 0 0) (.int .i64 0) 91 [] _ rfl D0.h D0.d D0.e (by omega) (by omega) (by omega)).mono ?_
  rintro e u' w2 ⟨rfl, rfl, g1, g2, g3, hB⟩
  have hB1 := D0.old.trans (hB w.heap.size (by omega) (by omega) (by omega))
  clear hB
  have c0 := g1.cell 0
  have c1 := g1.cell 1
  have c2 := g1.cell 2
  have c3 := g1.cell 3
  have c4 := g1.cell 4
  have c5 := g1.cell 5
  have c6 := g1.cell 6
  have cd := g2.cell 0
  have ce := g3.cell 0
  simp only [z7, List.getElem?_cons_zero, List.getElem?_cons_succ] at c0 c1 c2 c3 c4 c5 c6 cd ce
  simp [Leaves, settle, results, Try.results16, go_sem, c0, c1, c2, c3, c4, c5, c6, cd, ce, z7, hB1]

set_option maxHeartbeats 1000000 in
theorem Decode_length (A : Option Addr) (l : List UInt8) (c : Nat) (w : World) (hA : RA w A l) (hc : l.length ≤ c) (hcm : c ≤ 9223372036854775807) (hl : 20 ≤ l.length) (hv : l[0].toNat / 16 = 4) (ho : l[0].toNat % 16 ≤ 5)
    (hn : ¬ (l[0].toNat % 16 = 5 ∧ 20 ≤ ofBe ((l.drop 2).take 2) ∧ ofBe ((l.drop 2).take 2) ≤ l.length)) :
    Calls Try.prog 16 #[.slice A l.length c] w fun e w' => e = .returned (.tuple #[.agg z7.toArray, .slice none 0 0, .int .i64 92]) ∧ Below w.heap.size w w' := by
  have o1 : decide ((l[0].toNat : Int) % 16 ≤ 5) = true := by simp; omega
  have v1 : (((l[0].toNat : Int) / 16) == 4) = true := by simp; omega
  clear hv
  by_cases h5 : l[0].toNat % 16 = 5
  · have o2 : (((l[0].toNat : Int) % 16) == 5) = true := by simp; omega
    by_cases h20 : 20 ≤ ofBe ((l.drop 2).take 2)
    · have l1 : decide ((20 : Int) ≤ ofBe ((l.drop 2).take 2)) = true := by simp; omega
      have l2 : decide (ofBe ((l.drop 2).take 2) ≤ l.length) = false := by simp; omega
      clear h5 hn ho
      have b1 : decide ((20 : Int) ≤ l.length) = true := by simp; omega
      obtain ⟨ad, rfl, hlt, _⟩ := hA.at_ (j := 0) (by omega)
      have hmf : ∀ (fn : Fn) (first cap : Array Value) (w : World), (Instr.makeFunc fn first cap).run Try.prog w = .ok (.func fn first cap) w := fun _ _ _ _ => rfl
      go_enter_defers Try.func16, Try.ntmps16
      go_wp2_with fail
      have D0 := Ds.start w (some ad) l c
      generalize (((w.alloc (.cells #[.slice (some ad) l.length c] 28)).alloc (.cells #[.int .i64 0, .int .i64 0, .int .i64 0, .int .i64 0, .bool false, .int .u32 0, .int .u32 0] 27)).alloc (.cells #[.slice none 0 0] 28)).alloc (.cells #[.int .i64 0] 23) = W0 at D0 ⊢
      have hA0 := hA.below D0.old
      obtain ⟨ad', hee, _, hcell⟩ := hA0.at_ (j := 0) (by omega)
      injection hee with hee
      subst hee
      have x0 : W0.cell? ad = some (bv l[0]) := by simpa [Addr.add] using hcell 0 (by omega)
      have x1 := hcell 1 (by omega)
      have x8 := hcell 8 (by omega)
      have x9 := hcell 9 (by omega)
      have hb0 := D0.cell
      clear hcell
      have HA0 := Lib.hid hA0
      unfold bv at x0 x1 x8 x9
      have hv0 := l[0].toNat_lt
      have o0 := u8_and15 (x := (l[0].toNat : Int)) (by omega) (by omega)
      have hf0 := ofBe_lt ((l.drop 6).take 2)
      have hl0 := ofBe_lt ((l.drop 2).take 2)
      rw [show ((l.drop 6).take 2).length = 2 from by simp; omega] at hf0
      rw [show ((l.drop 2).take 2).length = 2 from by simp; omega] at hl0
      have g0 := and_16383 (ofBe ((l.drop 6).take 2)) hf0
      refine (must_yes _ _).mono ?_
      rintro e w1 ⟨rfl, rfl⟩
      go_wp2_with fail
      refine (number_at _ _ w.heap.size _ l c 2 2 _ rfl rfl D0.cell HA0.out hc hcm (by omega) (by omega) (by omega)).mono ?_
      rintro e w1 ⟨rfl, rfl⟩
      go_wp2_with fail
      refine (number_at _ _ w.heap.size _ l c 6 2 _ rfl rfl D0.cell HA0.out hc hcm (by omega) (by omega) (by omega)).mono ?_
      rintro e w1 ⟨rfl, rfl⟩
      go_wp2_with fail
      refine (must_yes _ _).mono ?_
      rintro e w1 ⟨rfl, rfl⟩
      go_wp2_with fail
      refine (must_yes _ _).mono ?_
      rintro e w1 ⟨rfl, rfl⟩
      go_wp2_with fail
      refine (must_no 92 _).mono ?_
      rintro e w1 ⟨rfl, rfl⟩
      go_wp2_with fail
      refine leaves_cons (f := 23) (args := #[.pointer (some ⟨w.heap.size + 1, 0, none⟩), .pointer (some ⟨w.heap.size + 1 + 1, 0, none⟩), .pointer (some ⟨w.heap.size + 1 + 1 + 1, 0, none⟩)]) (by simp) (by simp [go_sem]) ?_
      refine (caught (w.heap.size + 1) (w.heap.size + 1 + 1) (w.heap.size + 1 + 1 + 1) z7 (.slice none 0 0) (.int .i64 0) 92 [] _ rfl D0.h D0.d D0.e (by omega) (by omega) (by omega)).mono ?_
      rintro e u' w2 ⟨rfl, rfl, g1, g2, g3, hB⟩
      have hB1 := D0.old.trans (hB w.heap.size (by omega) (by omega) (by omega))
      clear hB
      have c0 := g1.cell 0
      have c1 := g1.cell 1
      have c2 := g1.cell 2
      have c3 := g1.cell 3
      have c4 := g1.cell 4
      have c5 := g1.cell 5
      have c6 := g1.cell 6
      have cd := g2.cell 0
      have ce := g3.cell 0
      simp only [z7, List.getElem?_cons_zero, List.getElem?_cons_succ] at c0 c1 c2 c3 c4 c5 c6 cd ce
      simp [Leaves, settle, results, Try.results16, go_sem, c0, c1, c2, c3, c4, c5, c6, cd, ce, z7, hB1]
    · have l1 : decide ((20 : Int) ≤ ofBe ((l.drop 2).take 2)) = false := by simp; omega
      clear h5 hn ho
      have b1 : decide ((20 : Int) ≤ l.length) = true := by simp; omega
      obtain ⟨ad, rfl, hlt, _⟩ := hA.at_ (j := 0) (by omega)
      have hmf : ∀ (fn : Fn) (first cap : Array Value) (w : World), (Instr.makeFunc fn first cap).run Try.prog w = .ok (.func fn first cap) w := fun _ _ _ _ => rfl
      go_enter_defers Try.func16, Try.ntmps16
      go_wp2_with fail
      have D0 := Ds.start w (some ad) l c
      generalize (((w.alloc (.cells #[.slice (some ad) l.length c] 28)).alloc (.cells #[.int .i64 0, .int .i64 0, .int .i64 0, .int .i64 0, .bool false, .int .u32 0, .int .u32 0] 27)).alloc (.cells #[.slice none 0 0] 28)).alloc (.cells #[.int .i64 0] 23) = W0 at D0 ⊢
      have hA0 := hA.below D0.old
      obtain ⟨ad', hee, _, hcell⟩ := hA0.at_ (j := 0) (by omega)
      injection hee with hee
      subst hee
      have x0 : W0.cell? ad = some (bv l[0]) := by simpa [Addr.add] using hcell 0 (by omega)
      have x1 := hcell 1 (by omega)
      have x8 := hcell 8 (by omega)
      have x9 := hcell 9 (by omega)
      have hb0 := D0.cell
      clear hcell
      have HA0 := Lib.hid hA0
      unfold bv at x0 x1 x8 x9
      have hv0 := l[0].toNat_lt
      have o0 := u8_and15 (x := (l[0].toNat : Int)) (by omega) (by omega)
      have hf0 := ofBe_lt ((l.drop 6).take 2)
      have hl0 := ofBe_lt ((l.drop 2).take 2)
      rw [show ((l.drop 6).take 2).length = 2 from by simp; omega] at hf0
      rw [show ((l.drop 2).take 2).length = 2 from by simp; omega] at hl0
      have g0 := and_16383 (ofBe ((l.drop 6).take 2)) hf0
      refine (must_yes _ _).mono ?_
      rintro e w1 ⟨rfl, rfl⟩
      go_wp2_with fail
      refine (number_at _ _ w.heap.size _ l c 2 2 _ rfl rfl D0.cell HA0.out hc hcm (by omega) (by omega) (by omega)).mono ?_
      rintro e w1 ⟨rfl, rfl⟩
      go_wp2_with fail
      refine (number_at _ _ w.heap.size _ l c 6 2 _ rfl rfl D0.cell HA0.out hc hcm (by omega) (by omega) (by omega)).mono ?_
      rintro e w1 ⟨rfl, rfl⟩
      go_wp2_with fail
      refine (must_yes _ _).mono ?_
      rintro e w1 ⟨rfl, rfl⟩
      go_wp2_with fail
      refine (must_yes _ _).mono ?_
      rintro e w1 ⟨rfl, rfl⟩
      go_wp2_with fail
      refine (must_no 92 _).mono ?_
      rintro e w1 ⟨rfl, rfl⟩
      go_wp2_with fail
      refine leaves_cons (f := 23) (args := #[.pointer (some ⟨w.heap.size + 1, 0, none⟩), .pointer (some ⟨w.heap.size + 1 + 1, 0, none⟩), .pointer (some ⟨w.heap.size + 1 + 1 + 1, 0, none⟩)]) (by simp) (by simp [go_sem]) ?_
      refine (caught (w.heap.size + 1) (w.heap.size + 1 + 1) (w.heap.size + 1 + 1 + 1) z7 (.slice none 0 0) (.int .i64 0) 92 [] _ rfl D0.h D0.d D0.e (by omega) (by omega) (by omega)).mono ?_
      rintro e u' w2 ⟨rfl, rfl, g1, g2, g3, hB⟩
      have hB1 := D0.old.trans (hB w.heap.size (by omega) (by omega) (by omega))
      clear hB
      have c0 := g1.cell 0
      have c1 := g1.cell 1
      have c2 := g1.cell 2
      have c3 := g1.cell 3
      have c4 := g1.cell 4
      have c5 := g1.cell 5
      have c6 := g1.cell 6
      have cd := g2.cell 0
      have ce := g3.cell 0
      simp only [z7, List.getElem?_cons_zero, List.getElem?_cons_succ] at c0 c1 c2 c3 c4 c5 c6 cd ce
      simp [Leaves, settle, results, Try.results16, go_sem, c0, c1, c2, c3, c4, c5, c6, cd, ce, z7, hB1]
  · have o2 : (((l[0].toNat : Int) % 16) == 5) = false := by simp; omega
    clear h5 hn ho
    have b1 : decide ((20 : Int) ≤ l.length) = true := by simp; omega
    obtain ⟨ad, rfl, hlt, _⟩ := hA.at_ (j := 0) (by omega)
    have hmf : ∀ (fn : Fn) (first cap : Array Value) (w : World), (Instr.makeFunc fn first cap).run Try.prog w = .ok (.func fn first cap) w := fun _ _ _ _ => rfl
    go_enter_defers Try.func16, Try.ntmps16
    go_wp2_with fail
    have D0 := Ds.start w (some ad) l c
    generalize (((w.alloc (.cells #[.slice (some ad) l.length c] 28)).alloc (.cells #[.int .i64 0, .int .i64 0, .int .i64 0, .int .i64 0, .bool false, .int .u32 0, .int .u32 0] 27)).alloc (.cells #[.slice none 0 0] 28)).alloc (.cells #[.int .i64 0] 23) = W0 at D0 ⊢
    have hA0 := hA.below D0.old
    obtain ⟨ad', hee, _, hcell⟩ := hA0.at_ (j := 0) (by omega)
    injection hee with hee
    subst hee
    have x0 : W0.cell? ad = some (bv l[0]) := by simpa [Addr.add] using hcell 0 (by omega)
    have x1 := hcell 1 (by omega)
    have x8 := hcell 8 (by omega)
    have x9 := hcell 9 (by omega)
    have hb0 := D0.cell
    clear hcell
    have HA0 := Lib.hid hA0
    unfold bv at x0 x1 x8 x9
    have hv0 := l[0].toNat_lt
    have o0 := u8_and15 (x := (l[0].toNat : Int)) (by omega) (by omega)
    have hf0 := ofBe_lt ((l.drop 6).take 2)
    have hl0 := ofBe_lt ((l.drop 2).take 2)
    rw [show ((l.drop 6).take 2).length = 2 from by simp; omega] at hf0
    rw [show ((l.drop 2).take 2).length = 2 from by simp; omega] at hl0
    have g0 := and_16383 (ofBe ((l.drop 6).take 2)) hf0
    refine (must_yes _ _).mono ?_
    rintro e w1 ⟨rfl, rfl⟩
    go_wp2_with fail
    refine (number_at _ _ w.heap.size _ l c 2 2 _ rfl rfl D0.cell HA0.out hc hcm (by omega) (by omega) (by omega)).mono ?_
    rintro e w1 ⟨rfl, rfl⟩
    go_wp2_with fail
    refine (number_at _ _ w.heap.size _ l c 6 2 _ rfl rfl D0.cell HA0.out hc hcm (by omega) (by omega) (by omega)).mono ?_
    rintro e w1 ⟨rfl, rfl⟩
    go_wp2_with fail
    refine (must_yes _ _).mono ?_
    rintro e w1 ⟨rfl, rfl⟩
    go_wp2_with fail
    refine (must_yes _ _).mono ?_
    rintro e w1 ⟨rfl, rfl⟩
    go_wp2_with fail
    refine (must_no 92 _).mono ?_
    rintro e w1 ⟨rfl, rfl⟩
    go_wp2_with fail
    refine leaves_cons (f := 23) (args := #[.pointer (some ⟨w.heap.size + 1, 0, none⟩), .pointer (some ⟨w.heap.size + 1 + 1, 0, none⟩), .pointer (some ⟨w.heap.size + 1 + 1 + 1, 0, none⟩)]) (by simp) (by simp [go_sem]) ?_
    refine (caught (w.heap.size + 1) (w.heap.size + 1 + 1) (w.heap.size + 1 + 1 + 1) z7 (.slice none 0 0) (.int .i64 0) 92 [] _ rfl D0.h D0.d D0.e (by omega) (by omega) (by omega)).mono ?_
    rintro e u' w2 ⟨rfl, rfl, g1, g2, g3, hB⟩
    have hB1 := D0.old.trans (hB w.heap.size (by omega) (by omega) (by omega))
    clear hB
    have c0 := g1.cell 0
    have c1 := g1.cell 1
    have c2 := g1.cell 2
    have c3 := g1.cell 3
    have c4 := g1.cell 4
    have c5 := g1.cell 5
    have c6 := g1.cell 6
    have cd := g2.cell 0
    have ce := g3.cell 0
    simp only [z7, List.getElem?_cons_zero, List.getElem?_cons_succ] at c0 c1 c2 c3 c4 c5 c6 cd ce
    simp [Leaves, settle, results, Try.results16, go_sem, c0, c1, c2, c3, c4, c5, c6, cd, ce, z7, hB1]
end Go.Proofs.Ytlhfphidanjafaa
