/- inet.Decode: what it calls -/
import Derived.Test.YtlhfphidanjafaaGet
import Derived.Deep.RegionHeld3
import Derived.BigRegion
import Derived.Deep.RegionWith
import Derived.Deep.RegionLaw
import Derived.Defers
import Derived.Recover
import Derived.Laws.PanicsMore
set_option linter.unusedVariables false
namespace Go.Proofs.Ytlhfphidanjafaa
open Go.RowKit

theorem must_yes (e : Int) (w : World) : Calls Try.prog 24 #[.bool true, .int .i64 e] w fun r w' => r = .returned (.tuple #[]) ∧ w = w' := by
  go_enter Try.func24, Try.ntmps24
  go_wp2
  go_end0
  exact ⟨rfl, rfl⟩
theorem must_no (e : Int) (w : World) : Calls Try.prog 24 #[.bool false, .int .i64 e] w fun r w' => r = .panicked [{ v := .iface 23 (.int .i64 e), recovered := false }] ∧ w = w' := by
  go_enter Try.func24, Try.ntmps24
  go_wp2
  exact ⟨rfl, rfl, rfl⟩

set_option maxHeartbeats 1000000 in
theorem number_any (b : Nat) (A : Option Addr) (l : List UInt8) (c : Nat) (at_ width : Nat) (w : World) (hb : w.cell? ⟨b, 0, none⟩ = some (.slice A l.length c)) (hA : RA w A l) (hc : l.length ≤ c) (hcm : c ≤ 9223372036854775807) (h1 : 1 ≤ width) (h8 : width ≤ 4) (hl : at_ + width ≤ l.length) :
    Calls Try.prog 25 #[.int .i64 (at_ : Int), .int .i64 (width : Int), .pointer (some ⟨b, 0, none⟩)] w fun e w' => e = .returned (.int .i64 (ofBe ((l.drop at_).take width) : Nat)) ∧ w = w' := by
  have hlt := ofBe_lt ((l.drop at_).take width)
  have hlen : ((l.drop at_).take width).length = width := by simp; omega
  rw [hlen] at hlt
  have hp : (256 : Nat) ^ width ≤ 256 ^ 4 := Nat.pow_le_pow_right (by omega) h8
  have hx : ofBe ((l.drop at_).take width) < 4294967296 := Nat.lt_of_lt_of_le hlt hp
  have hw : IntKind.i64.wrap ((ofBe ((l.drop at_).take width) : Nat) : Int) = (ofBe ((l.drop at_).take width) : Nat) := by rw [IntKind.wrap_i64]; omega
  clear hlt hlen hp
  go_enter Try.func25, Try.ntmps25
  go_wp2_with (go_at_call 26; refine (Get_ok A l c at_ width _ hA hc hcm h1 (by omega) hl).mono ?_; rintro e w' ⟨rfl, rfl⟩)
  go_ret
  exact ⟨rfl, rfl⟩

theorem number_at (i k : Int) (b : Nat) (A : Option Addr) (l : List UInt8) (c : Nat) (at_ width : Nat) (w : World) (hi : i = at_) (hk : k = width) (hb : w.cell? ⟨b, 0, none⟩ = some (.slice A l.length c)) (hA : RA w A l) (hc : l.length ≤ c) (hcm : c ≤ 9223372036854775807) (h1 : 1 ≤ width) (h8 : width ≤ 4) (hl : at_ + width ≤ l.length) :
    Calls Try.prog 25 #[.int .i64 i, .int .i64 k, .pointer (some ⟨b, 0, none⟩)] w fun e w' => e = .returned (.int .i64 (ofBe ((l.drop at_).take width) : Nat)) ∧ w = w' := by
  subst hi hk
  exact number_any b A l c at_ width w hb hA hc hcm h1 h8 hl

theorem number_still (i k : Int) (b : Nat) (A : Option Addr) (l : List UInt8) (c : Nat) (at_ width : Nat) (w : World) (hi : i = at_) (hk : k = width) (hb : w.cell? ⟨b, 0, none⟩ = some (.slice A l.length c)) (hA : RA w A l) (hc : l.length ≤ c) (hcm : c ≤ 9223372036854775807) (h1 : 1 ≤ width) (h8 : width ≤ 4) (hl : at_ + width ≤ l.length) :
    Calls Try.prog 25 #[.int .i64 i, .int .i64 k, .pointer (some ⟨b, 0, none⟩)] w fun e w' => e = .returned (.int .i64 (ofBe ((l.drop at_).take width) : Nat)) ∧ w' = w :=
  (number_at i k b A l c at_ width w hi hk hb hA hc hcm h1 h8 hl).mono fun _ _ h => ⟨h.1, h.2.symm⟩
theorem ofInt_i64 (a : Nat) (ha : a < 9223372036854775808) : (BitVec.ofInt 64 (a : Int)).toNat = a := by
  rw [BitVec.ofInt_natCast, BitVec.toNat_ofNat]; exact Nat.mod_eq_of_lt (by omega)
theorem i64_and_nat (a b : Nat) (ha : a < 9223372036854775808) (hb : b < 9223372036854775808) : bits .and .i64 (a : Int) (b : Int) = ((a &&& b : Nat) : Int) := by
  have hx : a &&& b < 2 ^ 63 := Nat.and_lt_two_pow _ (by omega)
  show IntKind.i64.wrap ((BitVec.ofInt 64 (a : Int) &&& BitVec.ofInt 64 (b : Int)).toNat : Int) = _
  rw [BitVec.toNat_and, ofInt_i64 a ha, ofInt_i64 b hb, IntKind.wrap_i64]
  omega
theorem and_16383 (a : Nat) (ha : a < 65536) : bits .and .i64 (a : Int) 16383 = ((a % 16384 : Nat) : Int) := by
  have hx : a &&& 16383 = a % 16384 := Nat.and_two_pow_sub_one_eq_mod a 14
  have := i64_and_nat a 16383 (by omega) (by omega)
  rw [hx] at this
  exact this
theorem and_p14 (a : Nat) : a &&& 16384 = a / 16384 % 2 * 16384 := by
  apply Nat.eq_of_testBit_eq
  intro i
  rw [Nat.testBit_and, show 16384 = 2^14 from rfl, Nat.testBit_two_pow, Nat.testBit_mul_two_pow]
  by_cases h : 14 = i
  · subst h; simp [Nat.testBit, Nat.shiftRight_eq_div_pow]
  · have h2 := Nat.testBit_mod_two_pow (a / 2 ^ 14) 1 (i - 14)
    rw [Nat.pow_one] at h2
    rw [h2]
    simp [h]
    omega
theorem and_16384 (a : Nat) (ha : a < 65536) : bits .and .i64 (a : Int) 16384 = ((a / 16384 % 2 * 16384 : Nat) : Int) := by
  have hx := and_p14 a
  have := i64_and_nat a 16384 (by omega) (by omega)
  rw [hx] at this
  exact this

/-- the zero head -/
def z7 : List Value := [.int .i64 0, .int .i64 0, .int .i64 0, .int .i64 0, .bool false, .int .u32 0, .int .u32 0]

set_option maxHeartbeats 1000000 in
theorem caught (a b d : Nat) (hs : List Value) (x y : Value) (n : Int) (older : List PanicEntry) (w : World) (hl : hs.length = 7) (ha : Blk w a 27 hs) (hb : Blk w b 28 [x]) (hd : Blk w d 23 [y])
    (hab : a ≠ b) (had : a ≠ d) (hbd : b ≠ d) :
    CallsD Try.prog 23 #[.pointer (some ⟨a, 0, none⟩), .pointer (some ⟨b, 0, none⟩), .pointer (some ⟨d, 0, none⟩)] (.panicking ({ v := .iface 23 (.int .i64 n), recovered := false } :: older)) w fun e u' w' =>
      e = .returned (.tuple #[]) ∧ u' = .panicking ({ v := .iface 23 (.int .i64 n), recovered := true } :: older) ∧
        Blk w' a 27 z7 ∧ Blk w' b 28 [.slice none 0 0] ∧ Blk w' d 23 [.int .i64 n] ∧ (∀ B, B ≤ a → B ≤ b → B ≤ d → Below B w w') := by
  have hr : ∀ v : Value, Array.replicate 11 v = #[v, v, v, v, v, v, v, v, v, v, v] := fun _ => rfl
  have hta : ∀ w, (Instr.typeAssert (.iface 23 (.int .i64 n)) 20 23 true).run Try.prog w = .ok (.tuple #[.int .i64 n, .bool true]) w := fun _ => by kernel_rfl
  match hs, hl with
  | [h0, h1, h2, h3, h4, h5, h6], _ =>
  have c0 := ha.cell 0
  have c1 := ha.cell 1
  have c2 := ha.cell 2
  have c3 := ha.cell 3
  have c4 := ha.cell 4
  have c5 := ha.cell 5
  have c6 := ha.cell 6
  have f0 := ha.frozen 0
  have f1 := ha.frozen 1
  have f2 := ha.frozen 2
  have f3 := ha.frozen 3
  have f4 := ha.frozen 4
  have f5 := ha.frozen 5
  have f6 := ha.frozen 6
  have cb := hb.cell 0
  have fb := hb.frozen 0
  have cd := hd.cell 0
  have fd := hd.frozen 0
  simp only [List.getElem?_cons_zero, List.getElem?_cons_succ] at c0 c1 c2 c3 c4 c5 c6 cb cd
  refine callsD_of_wpS Try.func23 rfl fun c₀ cs hu => ?_
  apply wpS_seq
  apply wpS_region
  simp [wpOpsS, go_sem, recoverD, hu, Try.ntmps23, Exit.thenS, hr]
  refine wpS_of_wp ?_
  go_wp2
  have A1 := ((((((((ha.set_ 0 (.int .i64 0)).set_ 1 (.int .i64 0)).set_ 2 (.int .i64 0)).set_ 3 (.int .i64 0)).set_ 4 (.bool false)).set_ 5 (.int .u32 0)).set_ 6 (.int .u32 0)).far (p := ⟨b, 0, none⟩) hab (.slice none 0 0)).far (p := ⟨d, 0, none⟩) had (.int .i64 n)
  have A2 := ((((((((hb.far (p := ⟨a, 0, none⟩) (Ne.symm hab) (.int .i64 0)).far (p := ⟨a, 1, none⟩) (Ne.symm hab) (.int .i64 0)).far (p := ⟨a, 2, none⟩) (Ne.symm hab) (.int .i64 0)).far (p := ⟨a, 3, none⟩) (Ne.symm hab) (.int .i64 0)).far (p := ⟨a, 4, none⟩) (Ne.symm hab) (.bool false)).far (p := ⟨a, 5, none⟩) (Ne.symm hab) (.int .u32 0)).far (p := ⟨a, 6, none⟩) (Ne.symm hab) (.int .u32 0)).set_ 0 (.slice none 0 0)).far (p := ⟨d, 0, none⟩) hbd (.int .i64 n)
  have A3 := ((((((((hd.far (p := ⟨a, 0, none⟩) (Ne.symm had) (.int .i64 0)).far (p := ⟨a, 1, none⟩) (Ne.symm had) (.int .i64 0)).far (p := ⟨a, 2, none⟩) (Ne.symm had) (.int .i64 0)).far (p := ⟨a, 3, none⟩) (Ne.symm had) (.int .i64 0)).far (p := ⟨a, 4, none⟩) (Ne.symm had) (.bool false)).far (p := ⟨a, 5, none⟩) (Ne.symm had) (.int .u32 0)).far (p := ⟨a, 6, none⟩) (Ne.symm had) (.int .u32 0)).far (p := ⟨b, 0, none⟩) (Ne.symm hbd) (.slice none 0 0)).set_ 0 (.int .i64 n)
  exact ⟨rfl, _, rfl, _, results_none rfl _ _ _, rfl, rfl, A1, A2, A3, fun B h1 h2 h3 => (((((((((Below.refl B w).setCell (p := ⟨a, 0, none⟩) h1 (.int .i64 0)).setCell (p := ⟨a, 1, none⟩) h1 (.int .i64 0)).setCell (p := ⟨a, 2, none⟩) h1 (.int .i64 0)).setCell (p := ⟨a, 3, none⟩) h1 (.int .i64 0)).setCell (p := ⟨a, 4, none⟩) h1 (.bool false)).setCell (p := ⟨a, 5, none⟩) h1 (.int .u32 0)).setCell (p := ⟨a, 6, none⟩) h1 (.int .u32 0)).setCell (p := ⟨b, 0, none⟩) h2 (.slice none 0 0)).setCell (p := ⟨d, 0, none⟩) h3 (.int .i64 n)⟩

theorem idle (a b d : Nat) (w : World) :
    CallsD Try.prog 23 #[.pointer (some ⟨a, 0, none⟩), .pointer (some ⟨b, 0, none⟩), .pointer (some ⟨d, 0, none⟩)] .returning w fun e u' w' =>
      e = .returned (.tuple #[]) ∧ u' = .returning ∧ w = w' := by
  have hr : ∀ v : Value, Array.replicate 11 v = #[v, v, v, v, v, v, v, v, v, v, v] := fun _ => rfl
  refine callsD_of_wpS Try.func23 rfl fun c₀ cs hu => ?_
  apply wpS_seq
  apply wpS_region
  simp [wpOpsS, go_sem, recoverD, hu, Try.ntmps23, Exit.thenS, hr]
  refine wpS_of_wp ?_
  go_wp2
  exact ⟨rfl, .returning, by cases c₀; simp_all, _, results_none rfl _ _ _, rfl, rfl, rfl⟩
end Go.Proofs.Ytlhfphidanjafaa
