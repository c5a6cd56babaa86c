/- octet.Get; bytes.Clone. -/
import Derived.Test.YtlhfphidanjafaaOctet
set_option linter.unusedVariables false
namespace Go.Proofs.Ytlhfphidanjafaa
open Go.RowKit

/-- bytes as a number, the highest first -/
def ofBe (l : List UInt8) : Nat := l.foldl (fun n x => n * 256 + x.toNat) 0
theorem ofBe_snoc (l : List UInt8) (x : UInt8) : ofBe (l ++ [x]) = ofBe l * 256 + x.toNat := by simp [ofBe]
theorem ofBe_lt (l : List UInt8) : ofBe l < 256 ^ l.length := by
  suffices h : ∀ m : List UInt8, ofBe m.reverse < 256 ^ m.length by simpa using h l.reverse
  intro m
  induction m with
  | nil => simp [ofBe]
  | cons x t ih =>
    rw [List.reverse_cons, ofBe_snoc, List.length_cons, Nat.pow_succ]
    have := x.toNat_lt
    omega
theorem or_256 (n x : Nat) (hn : n * 256 < 18446744073709551616) (hx : x < 256) : bits .or .u64 ((n : Int) * 256) (x : Int) = ((n * 256 + x : Nat) : Int) := by
  have h := u64_or_nat (n * 256) x hn (by omega)
  rw [nat_join 8 (n * 256) x (by omega) (by omega)] at h
  rw [← h]
  congr 1

set_option maxHeartbeats 1000000 in
theorem Get_ok (A : Option Addr) (l : List UInt8) (c : Nat) (at_ width : Nat) (w : World) (hA : RA w A l) (hc : l.length ≤ c) (hcm : c ≤ 9223372036854775807) (h1 : 1 ≤ width) (h8 : width ≤ 8) (hl : at_ + width ≤ l.length) :
    Calls Try.prog 26 #[.slice A l.length c, .int .i64 (at_ : Int), .int .i64 (width : Int)] w fun e w' =>
      e = .returned (.tuple #[.int .u64 (ofBe ((l.drop at_).take width) : Nat), .int .i64 0]) ∧ w = w' := by
  obtain ⟨ad, rfl, _, hcell⟩ := hA.at_ (j := 0) (by omega)
  go_enter Try.func26, Try.ntmps26
  go_wp2
  go_loop [8, 42] (fun n k => ∃ j : Nat, j ≤ width ∧ n = .int .u64 (ofBe ((l.drop at_).take j) : Nat) ∧ k = .int .i64 (j : Int)) (fun _ k => (width - intOf k).toNat)
  case atStart => exact ⟨0, by omega, rfl, rfl⟩
  case round =>
    obtain ⟨j, hj, rfl, rfl⟩ := hrel
    by_cases hlt : j < width
    · have hcj : w.cell? ((ad.add at_).add j) = some (bv (l[at_ + j]'(by omega))) := by rw [add_add']; exact hcell _ _
      clear hcell
      have hs : ofBe ((l.drop at_).take (j + 1)) = ofBe ((l.drop at_).take j) * 256 + (l[at_ + j]'(by omega)).toNat := by
        rw [take_snoc _ j (by simp; omega), ofBe_snoc]; simp
      have hb := ofBe_lt ((l.drop at_).take j)
      have hlen : ((l.drop at_).take j).length = j := by simp; omega
      rw [hlen] at hb
      have hp : (256 : Nat) ^ j ≤ 256 ^ 7 := Nat.pow_le_pow_right (by omega) (by omega)
      have hx := (l[at_ + j]'(by omega)).toNat_lt
      unfold bv at hcj
      generalize (l[at_ + j]'(by omega)).toNat = x at hcj hs hx
      generalize ofBe ((l.drop at_).take j) = n at hs hb
      have hn : n < 72057594037927936 := Nat.lt_of_lt_of_le hb (Nat.le_trans hp (by decide))
      have ho := or_256 n x (by omega) hx
      have HS := Lib.hid hs
      clear hs hb hp hlen
      have hi : (j : Int) < width := by omega
      go_wp2
      go_round
      case rel => exact ⟨j + 1, by omega, by rw [HS.out]; go_num, by go_num⟩
      case measure => simp [intOf]; omega
    · obtain rfl : j = width := by omega
      go_wp2
      go_ret2
      exact ⟨rfl, rfl⟩

set_option maxHeartbeats 1000000 in
theorem Get_short (A : Option Addr) (n : Nat) (c : Nat) (at_ width : Nat) (w : World) (hc : n ≤ c) (hcm : c ≤ 9223372036854775807) (h1 : 1 ≤ width) (h8 : width ≤ 8) (hl : n < at_ + width) :
    Calls Try.prog 26 #[.slice A n c, .int .i64 (at_ : Int), .int .i64 (width : Int)] w fun e w' => e = .returned (.tuple #[.int .u64 0, .int .i64 5]) ∧ w = w' := by
  by_cases h : n < at_
  · go_enter Try.func26, Try.ntmps26
    go_wp2
    go_ret2
    exact ⟨rfl, rfl⟩
  · have h' : (n : Int) - at_ < width := by omega
    go_enter Try.func26, Try.ntmps26
    go_wp2
    go_ret2
    exact ⟨rfl, rfl⟩

set_option maxHeartbeats 1000000 in
theorem Clone_any (A : Option Addr) (l : List UInt8) (c : Nat) (w : World) (hA : RA w A l) (hc : l.length ≤ c) (hcm : c ≤ 9223372036854775807) (hlm : l.length ≤ 140737488355328) :
    Calls Try.prog 27 #[.slice A l.length c] w fun e w' => ∃ v, e = .returned v ∧ Own w' w.heap.size v l ∧ Below w.heap.size w w' := by
  rcases A with _ | ad
  · have h0 : l = [] := by
      rcases hA with h | ⟨ad, h, _⟩
      · exact h
      · cases h
    subst h0
    have heq := fun W : World => Lib.run_eql_slice_nil (P := Try.prog) W 28 5 none 0 c 0 0 Try.underlying28
    go_enter Try.func27, Try.ntmps27
    go_wp2
    go_ret
    exact ⟨_, rfl, Own.nil _ _, Below.refl _ _⟩
  · have heq := fun W : World => Lib.run_eql_slice_nil (P := Try.prog) W 28 5 (some ad) l.length c 0 0 Try.underlying28
    go_enter Try.func27, Try.ntmps27
    go_wp2_with (at_builtin; refine appN w.heap.size rfl _ _ rfl (.slice (some ⟨w.heap.size, 0, none⟩) 0 0) [] (some ad) l _ _ rfl rfl rfl ?h1 (hA.alloc _) ?h2 ?h3 ?_)
    case h1 => exact World.ownsRow_made w #[] 0 (Nat.le_refl _) (by simp [maxLen]) rfl
    case h2 => simp
    case h3 => simp; omega
    intro v1 w1 hown1 hg1 hat1
    go_wp2
    go_ret
    exact ⟨_, rfl, hown1, ((Below.refl _ _).alloc (Nat.le_refl _) _).grown hg1 (by simp) (by intro k hk; simp [Value.ownBlock] at hk; omega)⟩

theorem Clone_n (A : Option Addr) (l : List UInt8) (n c : Nat) (w : World) (hn : n = l.length) (hA : RA w A l) (hc : n ≤ c) (hcm : c ≤ 9223372036854775807) (hlm : n ≤ 140737488355328) :
    Calls Try.prog 27 #[.slice A n c] w fun e w' => ∃ v, e = .returned v ∧ Own w' w.heap.size v l ∧ Below w.heap.size w w' := by
  subst hn
  exact Clone_any A l c w hA hc hcm hlm
end Go.Proofs.Ytlhfphidanjafaa
