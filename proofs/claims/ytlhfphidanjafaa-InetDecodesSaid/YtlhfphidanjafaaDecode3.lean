/- inet.Decode where it takes the head -/
import Derived.Test.YtlhfphidanjafaaDecode2
set_option linter.unusedVariables false
namespace Go.Proofs.Ytlhfphidanjafaa
open Go.RowKit

/-- memory, behind the head's store -/
structure Dt (w W : World) (A : Option Addr) (l : List UInt8) (c : Nat) (hs : List Value) : Prop where
  box : Blk W w.heap.size 28 [.slice A l.length c]
  h : Blk W (w.heap.size + 1) 27 hs
  d : Blk W (w.heap.size + 1 + 1) 28 [.slice none 0 0]
  e : Blk W (w.heap.size + 1 + 1 + 1) 23 [.int .i64 0]
  old : Below w.heap.size w W
theorem Dt.drew {w W : World} {A : Option Addr} {l : List UInt8} {c : Nat} {hs : List Value} (h : Dt w W A l c hs) : Dt w W.drew A l c hs := ⟨h.box, h.h, h.d, h.e, below_drew' h.old⟩
theorem Dt.beyond {w W W1 : World} {A : Option Addr} {l : List UInt8} {c : Nat} {hs : List Value} (h : Dt w W A l c hs) (hb : Below W.heap.size W W1) : Dt w W1 A l c hs := ⟨h.box.beyond hb, h.h.beyond hb, h.d.beyond hb, h.e.beyond hb, below_then' h.old h.old.size hb⟩
theorem Dt.stored {w W : World} {A : Option Addr} {l : List UInt8} {c : Nat} (h : Ds w W A l c) (v0 v1 v2 v3 v4 v5 v6 : Value) :
    Dt w (((((((W.setCell ⟨w.heap.size + 1, 0, none⟩ v0).setCell ⟨w.heap.size + 1, 1, none⟩ v1).setCell ⟨w.heap.size + 1, 2, none⟩ v2).setCell ⟨w.heap.size + 1, 3, none⟩ v3).setCell ⟨w.heap.size + 1, 4, none⟩ v4).setCell ⟨w.heap.size + 1, 5, none⟩ v5).setCell ⟨w.heap.size + 1, 6, none⟩ v6) A l c [v0, v1, v2, v3, v4, v5, v6] :=
  ⟨((((((h.box.far (p := ⟨w.heap.size + 1, 0, none⟩) (by simp) v0).far (p := ⟨w.heap.size + 1, 1, none⟩) (by simp) v1).far (p := ⟨w.heap.size + 1, 2, none⟩) (by simp) v2).far (p := ⟨w.heap.size + 1, 3, none⟩) (by simp) v3).far (p := ⟨w.heap.size + 1, 4, none⟩) (by simp) v4).far (p := ⟨w.heap.size + 1, 5, none⟩) (by simp) v5).far (p := ⟨w.heap.size + 1, 6, none⟩) (by simp) v6,
   ((((((h.h.set_ 0 v0).set_ 1 v1).set_ 2 v2).set_ 3 v3).set_ 4 v4).set_ 5 v5).set_ 6 v6,
   ((((((h.d.far (p := ⟨w.heap.size + 1, 0, none⟩) (by simp) v0).far (p := ⟨w.heap.size + 1, 1, none⟩) (by simp) v1).far (p := ⟨w.heap.size + 1, 2, none⟩) (by simp) v2).far (p := ⟨w.heap.size + 1, 3, none⟩) (by simp) v3).far (p := ⟨w.heap.size + 1, 4, none⟩) (by simp) v4).far (p := ⟨w.heap.size + 1, 5, none⟩) (by simp) v5).far (p := ⟨w.heap.size + 1, 6, none⟩) (by simp) v6,
   ((((((h.e.far (p := ⟨w.heap.size + 1, 0, none⟩) (by simp <;> omega) v0).far (p := ⟨w.heap.size + 1, 1, none⟩) (by simp <;> omega) v1).far (p := ⟨w.heap.size + 1, 2, none⟩) (by simp <;> omega) v2).far (p := ⟨w.heap.size + 1, 3, none⟩) (by simp <;> omega) v3).far (p := ⟨w.heap.size + 1, 4, none⟩) (by simp <;> omega) v4).far (p := ⟨w.heap.size + 1, 5, none⟩) (by simp <;> omega) v5).far (p := ⟨w.heap.size + 1, 6, none⟩) (by simp <;> omega) v6,
   ((((((h.old.setCell (p := ⟨w.heap.size + 1, 0, none⟩) (by simp) v0).setCell (p := ⟨w.heap.size + 1, 1, none⟩) (by simp) v1).setCell (p := ⟨w.heap.size + 1, 2, none⟩) (by simp) v2).setCell (p := ⟨w.heap.size + 1, 3, none⟩) (by simp) v3).setCell (p := ⟨w.heap.size + 1, 4, none⟩) (by simp) v4).setCell (p := ⟨w.heap.size + 1, 5, none⟩) (by simp) v5).setCell (p := ⟨w.heap.size + 1, 6, none⟩) (by simp) v6⟩

theorem Dt.final {w W : World} {A : Option Addr} {l : List UInt8} {c : Nat} {v0 v1 v2 v3 v4 v5 v6 : Value} (h : Dt w W A l c [v0, v1, v2, v3, v4, v5, v6]) (x y : Value) {B : Nat} {v : Value} {m : List UInt8} (hv : Own W B v m) (hB : w.heap.size + 1 + 1 + 1 < B) :
    let W1 := (((((((((W.setCell ⟨w.heap.size + 1, 0, none⟩ v0).setCell ⟨w.heap.size + 1, 1, none⟩ v1).setCell ⟨w.heap.size + 1, 2, none⟩ v2).setCell ⟨w.heap.size + 1, 3, none⟩ v3).setCell ⟨w.heap.size + 1, 4, none⟩ v4).setCell ⟨w.heap.size + 1, 5, none⟩ v5).setCell ⟨w.heap.size + 1, 6, none⟩ v6).setCell ⟨w.heap.size + 1 + 1, 0, none⟩ x).setCell ⟨w.heap.size + 1 + 1 + 1, 0, none⟩ y)
    Blk W1 (w.heap.size + 1) 27 [v0, v1, v2, v3, v4, v5, v6] ∧ Blk W1 (w.heap.size + 1 + 1) 28 [x] ∧ Blk W1 (w.heap.size + 1 + 1 + 1) 23 [y] ∧ Own W1 w.heap.size v m ∧ Below w.heap.size w W1 := by
  have h1 := ((((((h.h.set_ 0 v0).set_ 1 v1).set_ 2 v2).set_ 3 v3).set_ 4 v4).set_ 5 v5).set_ 6 v6
  have h2 := ((((((h.d.far (p := ⟨w.heap.size + 1, 0, none⟩) (by simp) v0).far (p := ⟨w.heap.size + 1, 1, none⟩) (by simp) v1).far (p := ⟨w.heap.size + 1, 2, none⟩) (by simp) v2).far (p := ⟨w.heap.size + 1, 3, none⟩) (by simp) v3).far (p := ⟨w.heap.size + 1, 4, none⟩) (by simp) v4).far (p := ⟨w.heap.size + 1, 5, none⟩) (by simp) v5).far (p := ⟨w.heap.size + 1, 6, none⟩) (by simp) v6
  have h3 := ((((((h.e.far (p := ⟨w.heap.size + 1, 0, none⟩) (by simp <;> omega) v0).far (p := ⟨w.heap.size + 1, 1, none⟩) (by simp <;> omega) v1).far (p := ⟨w.heap.size + 1, 2, none⟩) (by simp <;> omega) v2).far (p := ⟨w.heap.size + 1, 3, none⟩) (by simp <;> omega) v3).far (p := ⟨w.heap.size + 1, 4, none⟩) (by simp <;> omega) v4).far (p := ⟨w.heap.size + 1, 5, none⟩) (by simp <;> omega) v5).far (p := ⟨w.heap.size + 1, 6, none⟩) (by simp <;> omega) v6
  have h4 := ((((((h.old.setCell (p := ⟨w.heap.size + 1, 0, none⟩) (by simp) v0).setCell (p := ⟨w.heap.size + 1, 1, none⟩) (by simp) v1).setCell (p := ⟨w.heap.size + 1, 2, none⟩) (by simp) v2).setCell (p := ⟨w.heap.size + 1, 3, none⟩) (by simp) v3).setCell (p := ⟨w.heap.size + 1, 4, none⟩) (by simp) v4).setCell (p := ⟨w.heap.size + 1, 5, none⟩) (by simp) v5).setCell (p := ⟨w.heap.size + 1, 6, none⟩) (by simp) v6
  have h5 := ((((((hv.far (p := ⟨w.heap.size + 1, 0, none⟩) (by simp <;> omega) v0).far (p := ⟨w.heap.size + 1, 1, none⟩) (by simp <;> omega) v1).far (p := ⟨w.heap.size + 1, 2, none⟩) (by simp <;> omega) v2).far (p := ⟨w.heap.size + 1, 3, none⟩) (by simp <;> omega) v3).far (p := ⟨w.heap.size + 1, 4, none⟩) (by simp <;> omega) v4).far (p := ⟨w.heap.size + 1, 5, none⟩) (by simp <;> omega) v5).far (p := ⟨w.heap.size + 1, 6, none⟩) (by simp <;> omega) v6
  exact ⟨(h1.far (p := ⟨w.heap.size + 1 + 1, 0, none⟩) (by simp) x).far (p := ⟨w.heap.size + 1 + 1 + 1, 0, none⟩) (by simp <;> omega) y, (h2.set_ 0 x).far (p := ⟨w.heap.size + 1 + 1 + 1, 0, none⟩) (by simp) y,
    (h3.far (p := ⟨w.heap.size + 1 + 1, 0, none⟩) (by simp) x).set_ 0 y, ((h5.far (p := ⟨w.heap.size + 1 + 1, 0, none⟩) (by simp <;> omega) x).far (p := ⟨w.heap.size + 1 + 1 + 1, 0, none⟩) (by simp <;> omega) y).less (by omega),
    (h4.setCell (p := ⟨w.heap.size + 1 + 1, 0, none⟩) (by simp <;> omega) x).setCell (p := ⟨w.heap.size + 1 + 1 + 1, 0, none⟩) (by simp <;> omega) y⟩

set_option maxHeartbeats 4000000 in
theorem Decode_ok (A : Option Addr) (l : List UInt8) (c : Nat) (w : World) (hA : RA w A l) (hc : l.length ≤ c) (hcm : c ≤ 9223372036854775807) (hl : 20 ≤ l.length) (hh : headOk l hl) (hs : csum (l.take 20) = 0)
    (hf : ofBe ((l.drop 6).take 2) % 16384 = 0) (ht : ¬ l[8].toNat = 0) :
    Calls Try.prog 16 #[.slice A l.length c] w fun e w' => ∃ v, e = .returned (.tuple #[.agg #[.int .i64 l[1].toNat, .int .i64 (ofBe ((l.drop 4).take 2)), .int .i64 l[8].toNat, .int .i64 l[9].toNat, .bool (decide (ofBe ((l.drop 6).take 2) / 16384 % 2 = 1)), .int .u32 (ofBe ((l.drop 12).take 4)), .int .u32 (ofBe ((l.drop 16).take 4))], v, .int .i64 0]) ∧
      Own w' w.heap.size v ((l.take (ofBe ((l.drop 2).take 2))).drop 20) ∧ Below w.heap.size w w' := by
  have s1 : (((csum (l.take 20) : Nat) : Int) == 0) = true := by simp; omega
  have n20 : (20 : Int) ≤ c := by omega
  have g1 : (((ofBe ((l.drop 6).take 2) % 16384 : Nat) : Int) == 0) = true := by rw [beq_iff_eq]; omega
  have g1' : (((ofBe ((l.drop 6).take 2) : Nat) : Int) % 16384 == 0) = true := by rw [beq_iff_eq]; omega
  have t1 : ((l[8].toNat : Int) != 0) = true := by simp; omega
  clear hs hf ht
  obtain ⟨k1, k2, k3, k4⟩ := hh
  have o1 : decide ((l[0].toNat : Int) % 16 ≤ 5) = true := by simp; omega
  have v1 : (((l[0].toNat : Int) / 16) == 4) = true := by simp; omega
  have o2 : (((l[0].toNat : Int) % 16) == 5) = true := by simp; omega
  have l1 : decide ((20 : Int) ≤ ofBe ((l.drop 2).take 2)) = true := by simp; omega
  have l2 : decide (ofBe ((l.drop 2).take 2) ≤ l.length) = true := by simp; omega
  clear k1 k2 k3 k4
  have b1 : decide ((20 : Int) ≤ l.length) = true := by simp; omega
  obtain ⟨ad, rfl, hlt, _⟩ := hA.at_ (j := 0) (by omega)
  have hmf : ∀ (fn : Fn) (first cap : Array Value) (w : World), (Instr.makeFunc fn first cap).run Try.prog w = .ok (.func fn first cap) w := fun _ _ _ _ => rfl
  go_enter_defers Try.func16, Try.ntmps16
  go_wp2_with fail
  have D0 := Ds.start w (some ad) l c
  generalize (((w.alloc (.cells #[.slice (some ad) l.length c] 28)).alloc (.cells #[.int .i64 0, .int .i64 0, .int .i64 0, .int .i64 0, .bool false, .int .u32 0, .int .u32 0] 27)).alloc (.cells #[.slice none 0 0] 28)).alloc (.cells #[.int .i64 0] 23) = W0 at D0 ⊢
  have hA0 := hA.below D0.old
  obtain ⟨ad', hee, _, hcell⟩ := hA0.at_ (j := 0) (by omega)
  injection hee with hee
  subst hee
  have x0 : W0.cell? ad = some (bv l[0]) := by simpa [Addr.add] using hcell 0 (by omega)
  have x1 := hcell 1 (by omega)
  have x8 := hcell 8 (by omega)
  have x9 := hcell 9 (by omega)
  have hb0 := D0.cell
  clear hcell
  have HA0 := Lib.hid hA0
  unfold bv at x0 x1 x8 x9
  have hv0 := l[0].toNat_lt
  have o0 := u8_and15 (x := (l[0].toNat : Int)) (by omega) (by omega)
  have hf0 := ofBe_lt ((l.drop 6).take 2)
  have hl0 := ofBe_lt ((l.drop 2).take 2)
  rw [show ((l.drop 6).take 2).length = 2 from by simp; omega] at hf0
  rw [show ((l.drop 2).take 2).length = 2 from by simp; omega] at hl0
  have g0 := and_16383 (ofBe ((l.drop 6).take 2)) hf0
  refine (must_yes _ _).mono ?_
  rintro e w1 ⟨rfl, rfl⟩
  go_wp2_with fail
  refine (number_at _ _ w.heap.size _ l c 2 2 _ rfl rfl D0.cell HA0.out hc hcm (by omega) (by omega) (by omega)).mono ?_
  rintro e w1 ⟨rfl, rfl⟩
  go_wp2_with fail
  refine (number_at _ _ w.heap.size _ l c 6 2 _ rfl rfl D0.cell HA0.out hc hcm (by omega) (by omega) (by omega)).mono ?_
  rintro e w1 ⟨rfl, rfl⟩
  go_wp2_with fail
  refine (must_yes _ _).mono ?_
  rintro e w1 ⟨rfl, rfl⟩
  go_wp2_with fail
  refine (must_yes _ _).mono ?_
  rintro e w1 ⟨rfl, rfl⟩
  go_wp2_with fail
  refine (must_yes _ _).mono ?_
  rintro e w1 ⟨rfl, rfl⟩
  go_wp2_with fail
  have R0 : RA (W0.alloc (.cells #[.slice (some ad) 20 c] 28)) (some ad) (l.take 20) := by
    have := (HA0.out.alloc (.cells #[.slice (some ad) 20 c] 28)).cut 0 20 c (by omega) hl hc
    rw [if_neg (by omega)] at this
    simpa [Addr.add] using this
  refine (Sum_n W0.heap.size (some ad) (l.take 20) 20 c _ _ (by rw [List.length_take]; omega) (by omega) ?_ R0).mono ?_
  · simp [World.cell?_alloc_new]
  rintro e w1 ⟨rfl, rfl⟩
  have D1 := D0.alloc (.cells #[.slice (some ad) 20 c] 28)
  have x8' : (W0.alloc (.cells #[.slice (some ad) 20 c] 28)).cell? (ad.add 8) = some (.int .u8 (l[8].toNat : Int)) := by
    rw [World.cell?_alloc_lt _ _ _ (by rw [block_add]; assumption)]; exact x8
  have x1' : (W0.alloc (.cells #[.slice (some ad) 20 c] 28)).cell? (ad.add 1) = some (.int .u8 (l[1].toNat : Int)) := by
    rw [World.cell?_alloc_lt _ _ _ (by rw [block_add]; assumption)]; exact x1
  have x9' : (W0.alloc (.cells #[.slice (some ad) 20 c] 28)).cell? (ad.add 9) = some (.int .u8 (l[9].toNat : Int)) := by
    rw [World.cell?_alloc_lt _ _ _ (by rw [block_add]; assumption)]; exact x9
  have hb1 := D1.cell
  have HA1 := Lib.hid (HA0.out.alloc (.cells #[.slice (some ad) 20 c] 28))
  clear R0 x0 x1 x8 x9 hb0 hA0 hA
  simp only [Addr.add, Nat.reduceEqDiff, if_false] at x1' x8' x9'
  generalize W0.alloc (.cells #[.slice (some ad) 20 c] 28) = W1 at D1 x8' x1' x9' hb1 HA1 ⊢
  go_wp2_with fail
  refine (must_yes _ _).mono ?_
  rintro e w1 ⟨rfl, rfl⟩
  go_wp2_with fail
  refine (must_yes _ _).mono ?_
  rintro e w1 ⟨rfl, rfl⟩
  go_wp2_with fail
  refine (must_yes _ _).mono ?_
  rintro e w1 ⟨rfl, rfl⟩
  go_wp2_with fail
  have hx1 := l[1].toNat_lt
  have hx8 := l[8].toNat_lt
  have hx9 := l[9].toNat_lt
  have u1 : IntKind.i64.wrap (l[1].toNat : Int) = l[1].toNat := by rw [IntKind.wrap_i64]; omega
  have u8 : IntKind.i64.wrap (l[8].toNat : Int) = l[8].toNat := by rw [IntKind.wrap_i64]; omega
  have u9 : IntKind.i64.wrap (l[9].toNat : Int) = l[9].toNat := by rw [IntKind.wrap_i64]; omega
  have g3 := and_16384 (ofBe ((l.drop 6).take 2)) hf0
  have z12 := ofBe_lt ((l.drop 12).take 4)
  have z16 := ofBe_lt ((l.drop 16).take 4)
  rw [show ((l.drop 12).take 4).length = 4 from by simp; omega] at z12
  rw [show ((l.drop 16).take 4).length = 4 from by simp; omega] at z16
  have u12 : IntKind.u32.wrap ((ofBe ((l.drop 12).take 4) : Nat) : Int) = (ofBe ((l.drop 12).take 4) : Nat) := by rw [IntKind.wrap_u32]; omega
  have u16 : IntKind.u32.wrap ((ofBe ((l.drop 16).take 4) : Nat) : Int) = (ofBe ((l.drop 16).take 4) : Nat) := by rw [IntKind.wrap_u32]; omega
  have hkb : ((((ofBe ((l.drop 6).take 2) : Nat) : Int) / 16384 % 2 * 16384) != 0) = decide (ofBe ((l.drop 6).take 2) / 16384 % 2 = 1) := by
    rw [Bool.eq_iff_iff]
    simp
    omega
  have q1 : (1 : Int) < l.length := by omega
  have q8 : (8 : Int) < l.length := by omega
  have q9 : (9 : Int) < l.length := by omega
  have D2 := D1.drew
  have HA2 : Hid (RA W1.drew (some ad) l) := HA1
  go_still_tail 24, (by kernel_rfl)
  change wpStill _ _ W1.drew _ _ _
  repeat still_step
  still_call (number_still _ _ w.heap.size _ l c 4 2 _ rfl rfl D2.cell HA2.out hc hcm (by omega) (by omega) (by omega))
  repeat still_step
  still_call (number_still _ _ w.heap.size _ l c 12 4 _ rfl rfl D2.cell HA2.out hc hcm (by omega) (by omega) (by omega))
  repeat still_step
  still_call (number_still _ _ w.heap.size _ l c 16 4 _ rfl rfl D2.cell HA2.out hc hcm (by omega) (by omega) (by omega))
  repeat still_step
  refine wpStill_nil ?_
  change wpList _ _ _ _ _ W1.drew
  have c0 := D2.h.cell 0
  have c1 := D2.h.cell 1
  have c2 := D2.h.cell 2
  have c3 := D2.h.cell 3
  have c4 := D2.h.cell 4
  have c5 := D2.h.cell 5
  have c6 := D2.h.cell 6
  simp only [z7, List.getElem?_cons_zero, List.getElem?_cons_succ] at c0 c1 c2 c3 c4 c5 c6
  have f0 := D2.h.frozen 0
  have f1 := D2.h.frozen 1
  have f2 := D2.h.frozen 2
  have f3 := D2.h.frozen 3
  have f4 := D2.h.frozen 4
  have f5 := D2.h.frozen 5
  have f6 := D2.h.frozen 6
  generalize W1.drew = W2 at D2 HA2 c0 c1 c2 c3 c4 c5 c6 f0 f1 f2 f3 f4 f5 f6 ⊢
  go_wp2_with fail
  have D3 := Dt.stored D2 (.int .i64 (l[1].toNat : Int)) (.int .i64 (ofBe ((l.drop 4).take 2) : Nat)) (.int .i64 (l[8].toNat : Int)) (.int .i64 (l[9].toNat : Int)) (.bool (decide (ofBe ((l.drop 6).take 2) / 16384 % 2 = 1))) (.int .u32 (ofBe ((l.drop 12).take 4) : Nat)) (.int .u32 (ofBe ((l.drop 16).take 4) : Nat))
  generalize (((((((W2.setCell ⟨w.heap.size + 1, 0, none⟩ (.int .i64 (l[1].toNat : Int))).setCell ⟨w.heap.size + 1, 1, none⟩ (.int .i64 (ofBe ((l.drop 4).take 2) : Nat))).setCell ⟨w.heap.size + 1, 2, none⟩ (.int .i64 (l[8].toNat : Int))).setCell ⟨w.heap.size + 1, 3, none⟩ (.int .i64 (l[9].toNat : Int))).setCell ⟨w.heap.size + 1, 4, none⟩ (.bool (decide (ofBe ((l.drop 6).take 2) / 16384 % 2 = 1)))).setCell ⟨w.heap.size + 1, 5, none⟩ (.int .u32 (ofBe ((l.drop 12).take 4) : Nat))).setCell ⟨w.heap.size + 1, 6, none⟩ (.int .u32 (ofBe ((l.drop 16).take 4) : Nat))) = W3 at D3 ⊢
  clear c0 c1 c2 c3 c4 c5 c6 f0 f1 f2 f3 f4 f5 f6 HA2 D2 HA1 x1' x8' x9' hb1
  have HA3 : RA W3 (some ad) l := RA.below (w := w) (.inr ⟨ad, rfl, hlt, ‹_›⟩) D3.old
  have c0 := D3.h.cell 0
  have c1 := D3.h.cell 1
  have c2 := D3.h.cell 2
  have c3 := D3.h.cell 3
  have c4 := D3.h.cell 4
  have c5 := D3.h.cell 5
  have c6 := D3.h.cell 6
  have cb := D3.box.cell 0
  simp only [List.getElem?_cons_zero, List.getElem?_cons_succ] at c0 c1 c2 c3 c4 c5 c6 cb
  have s20 : (20 : Int) ≤ (ofBe ((l.drop 2).take 2) : Nat) := by simpa using l1
  have sl' : ofBe ((l.drop 2).take 2) ≤ l.length := by simpa using l2
  have slc : ((ofBe ((l.drop 2).take 2) : Nat) : Int) ≤ c := by omega
  have hRD : ∀ W : World, RA W (some ad) l → RA W (if c = 20 then some ad else some (ad.add 20)) ((l.take (ofBe ((l.drop 2).take 2))).drop 20) := fun W h => h.cut 20 _ c (by omega) sl' hc
  simp only [Addr.add, Nat.reduceEqDiff, if_false] at hRD
  obtain ⟨X, hX⟩ : ∃ X : Option Addr, (if c = 20 then some ad else some ⟨ad.block, ad.off + 20, none⟩) = X := ⟨_, rfl⟩
  rw [hX] at hRD
  generalize hn : ofBe ((l.drop 2).take 2) = n at s20 sl' slc hRD l1 l2 hl0 ⊢
  have HN := Lib.hid hn
  clear hn
  have hlen : n - 20 = ((l.take n).drop 20).length := by simp; omega
  have HRD := Lib.hid hRD
  have HLEN := Lib.hid hlen
  clear hRD hlen l1 l2
  refine wp_only_on ?_
  go_region_law (first
    | (go_simp; go_at_call 27; refine (Clone_n _ ((l.take n).drop 20) _ _ _ ?_ (HRD.out _ ?_) ?_ ?_ ?_).mono ?_; (exact HLEN.out); (exact HA3); (omega); (omega); (omega); rintro e w5 ⟨v, rfl, hv, hb5⟩; obtain ⟨A6, c6v, rfl, hr6, hc6, hq6⟩ := hv.form; have D5 := D3.drew.beyond hb5; have e0 := D5.h.cell 0; have e1 := D5.h.cell 1; have e2 := D5.h.cell 2; have e3 := D5.h.cell 3; have e4 := D5.h.cell 4; have e5 := D5.h.cell 5; have e6 := D5.h.cell 6; have eb := D5.box.cell 0; have ed := D5.d.cell 0; have ee := D5.e.cell 0; simp only [List.getElem?_cons_zero, List.getElem?_cons_succ] at e0 e1 e2 e3 e4 e5 e6 eb ed ee; have f0 := D5.h.frozen 0; have f1 := D5.h.frozen 1; have f2 := D5.h.frozen 2; have f3 := D5.h.frozen 3; have f4 := D5.h.frozen 4; have f5 := D5.h.frozen 5; have f6 := D5.h.frozen 6; have fd := D5.d.frozen 0; have fe := D5.e.frozen 0))
  all_goals simp only [OnlyOn]
  all_goals go_wp2_with fail
  all_goals
    obtain ⟨p1, p2, p3, p4, p5⟩ := D5.final (.slice A6 ((l.take n).drop 20).length c6v) (.int .i64 0) hv (by have := Blk.lt D3.e; simpa using this)
    rw [← HLEN.out] at p1 p2 p3 p4 p5
    generalize (((((((((w5.setCell ⟨w.heap.size + 1, 0, none⟩ (.int .i64 (l[1].toNat : Int))).setCell ⟨w.heap.size + 1, 1, none⟩ (.int .i64 (ofBe ((l.drop 4).take 2) : Nat))).setCell ⟨w.heap.size + 1, 2, none⟩ (.int .i64 (l[8].toNat : Int))).setCell ⟨w.heap.size + 1, 3, none⟩ (.int .i64 (l[9].toNat : Int))).setCell ⟨w.heap.size + 1, 4, none⟩ (.bool (decide (ofBe ((l.drop 6).take 2) / 16384 % 2 = 1)))).setCell ⟨w.heap.size + 1, 5, none⟩ (.int .u32 (ofBe ((l.drop 12).take 4) : Nat))).setCell ⟨w.heap.size + 1, 6, none⟩ (.int .u32 (ofBe ((l.drop 16).take 4) : Nat))).setCell ⟨w.heap.size + 1 + 1, 0, none⟩ (.slice A6 (n - 20) c6v)).setCell ⟨w.heap.size + 1 + 1 + 1, 0, none⟩ (.int .i64 0)) = W6 at p1 p2 p3 p4 p5 ⊢
    clear e0 e1 e2 e3 e4 e5 e6 eb ed ee f0 f1 f2 f3 f4 f5 f6 fd fe c0 c1 c2 c3 c4 c5 c6 cb
    refine leaves_cons (f := 23) (args := #[.pointer (some ⟨w.heap.size + 1, 0, none⟩), .pointer (some ⟨w.heap.size + 1 + 1, 0, none⟩), .pointer (some ⟨w.heap.size + 1 + 1 + 1, 0, none⟩)]) (by simp) (by simp [go_sem]) ?_
    refine (idle (w.heap.size + 1) (w.heap.size + 1 + 1) (w.heap.size + 1 + 1 + 1) _).mono ?_
    rintro e u' w2 ⟨rfl, rfl, rfl⟩
    have c0 := p1.cell 0
    have c1 := p1.cell 1
    have c2 := p1.cell 2
    have c3 := p1.cell 3
    have c4 := p1.cell 4
    have c5 := p1.cell 5
    have c6 := p1.cell 6
    have cd := p2.cell 0
    have ce := p3.cell 0
    simp only [List.getElem?_cons_zero, List.getElem?_cons_succ] at c0 c1 c2 c3 c4 c5 c6 cd ce
    simp [Leaves, settle, results, Try.results16, go_sem, c0, c1, c2, c3, c4, c5, c6, cd, ce]
    rw [HN.out]
    exact ⟨p4, p5⟩
end Go.Proofs.Ytlhfphidanjafaa
