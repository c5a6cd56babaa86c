/- The package octet, as far as it is reached: Put, folded, Sum of one part; bytes.Clone. -/
import Derived.Test.YtlhfphidanjafaaBase
import Derived.Laws.BitsAllLaws
set_option linter.unusedVariables false
namespace Go.Proofs.Ytlhfphidanjafaa
open Go.RowKit

/-- the lowest k bytes of n, the highest first -/
def be (n : Nat) : Nat → List UInt8
  | 0 => []
  | k + 1 => be (n / 256) k ++ [UInt8.ofNat n]
theorem be_length (n k : Nat) : (be n k).length = k := by induction k generalizing n <;> simp [be, *]

theorem ret_any {a b : Value} (h : a = b) : Ending.returned a = .returned b := by rw [h]

theorem be_step (n width j : Nat) (hj : j < width) : be (n / 256 ^ (width - (j + 1))) (j + 1) = be (n / 256 ^ (width - j)) j ++ [UInt8.ofNat (n / 2 ^ (8 * (width - 1 - j)))] := by
  have e1 : n / 256 ^ (width - (j + 1)) / 256 = n / 256 ^ (width - j) := by
    rw [Nat.div_div_eq_div_mul, ← Nat.pow_succ]
    congr 2; omega
  have e2 : 2 ^ (8 * (width - 1 - j)) = 256 ^ (width - (j + 1)) := by
    rw [Nat.pow_mul]
    congr 1; omega
  rw [be, e1, e2]

set_option maxHeartbeats 400000 in
theorem Put_bad (n width : Int) (w : World) (hw : width < 1 ∨ 8 < width) :
    Calls Try.prog 19 #[.int .u64 n, .int .i64 width] w fun e w' => e = .returned (.slice none 0 0) ∧ w = w' := by
  rcases hw with h | h
  · go_enter Try.func19, Try.ntmps19
    go_wp2
    go_ret
    exact ⟨rfl, rfl⟩
  · go_enter Try.func19, Try.ntmps19
    have h' : ¬ width < 1 := by omega
    go_wp2
    go_ret
    exact ⟨rfl, rfl⟩

set_option maxHeartbeats 400000 in
theorem Put_ok (n width : Nat) (w : World) (hw : 1 ≤ width) (hw8 : width ≤ 8) :
    Calls Try.prog 19 #[.int .u64 (n : Int), .int .i64 (width : Int)] w fun e w' => ∃ v, e = .returned v ∧ Own w' w.heap.size v (be n width) ∧ Below w.heap.size w w' := by
  obtain ⟨i0, hi, hz0, hz1, hz2⟩ := info_parts Try.info_u8
  go_enter Try.func19, Try.ntmps19
  go_wp2_with (at_make; refine wpList_make_own _ rfl _ _ 28 rfl w.heap.size 5 i0 (.int .u8 0) 1 Try.underlying28 hi hz0 hz1 _ _ _ width rfl rfl (by omega) ?b2 ?b3 (Nat.le_refl _) ?_)
  case b2 => rw [hz2]; omega
  case b3 => unfold maxLen; omega
  intro w0 hown0 hgrow0
  go_wp2
  go_loopw [5, 6] (fun b i wr => ∃ j : Nat, j ≤ width ∧ i = .int .i64 ((width : Int) - 1 - j) ∧ Own wr w.heap.size b (be (n / 256 ^ (width - j)) j) ∧ Below w.heap.size w wr)
    (fun _ i _ => (intOf i + 1).toNat)
  case atStart => exact ⟨0, Nat.zero_le _, by go_num, hown0, (Below.refl _ _).grown hgrow0 (Nat.le_refl _) (fun k h => by cases h)⟩
  case round =>
    obtain ⟨j, hj, rfl, hown, hnx⟩ := hrel
    by_cases hlt : j < width
    · have h0 : 0 ≤ (width : Int) - 1 - j := by omega
      go_wp2_with (at_builtin; refine app1 (W := wr) w.heap.size rfl _ _ rfl u5 _ _ (UInt8.ofNat (n / 2 ^ (8 * (width - 1 - j)))) rfl rfl ?hy hown hnx.size ?hl ?_)
      case hy => rw [bv_of]; simp
      case hl => rw [be_length]; omega
      intro v1 w1 hown1 hg1 hat1
      go_wp2
      go_roundw
      case rel => exact ⟨j + 1, by omega, by go_num, by rw [be_step _ _ _ hlt]; exact hown1, hnx.grown hg1 hnx.size (fun k hk => (World.ownsRow.lt hown k hk).1)⟩
      case measure => simp [intOf]; omega
    · have h0 : ¬ 0 ≤ (width : Int) - 1 - j := by omega
      obtain rfl : j = width := by omega
      go_wp2
      go_ret
      exact ⟨_, rfl, by simpa using hown, hnx⟩

theorem Put_int (n width : Int) (w : World) (hn : 0 ≤ n) (hw : 1 ≤ width) (hw8 : width ≤ 8) :
    Calls Try.prog 19 #[.int .u64 n, .int .i64 width] w fun e w' => ∃ v, e = .returned v ∧ Own w' w.heap.size v (be n.toNat width.toNat) ∧ Below w.heap.size w w' := by
  obtain ⟨n, rfl⟩ := Int.eq_ofNat_of_zero_le hn
  obtain ⟨width, rfl⟩ := Int.eq_ofNat_of_zero_le (show 0 ≤ width by omega)
  exact Put_ok n width w (by omega) (by omega)

/-! ### sums -/
def f16 (u : Nat) : Nat := if u = 0 then 0 else (u - 1) % 65535 + 1
theorem f16_le (u : Nat) : f16 u ≤ 65535 := by unfold f16; split <;> omega
theorem f16_small (u : Nat) (h : u ≤ 65535) : f16 u = u := by unfold f16; split <;> omega
theorem f16_step (u : Nat) (h : 65535 < u) : f16 (u % 65536 + u / 65536) = f16 u := by unfold f16; split <;> split <;> omega
theorem f16_add (u v : Nat) : f16 (f16 u + v) = f16 (u + v) := by unfold f16; split <;> split <;> split <;> omega
theorem f16_f16 (u : Nat) : f16 (f16 u) = f16 u := f16_small _ (f16_le u)

theorem and_65535 (u : Nat) (h : u < 18446744073709551616) : bits .and .u64 (u : Int) 65535 = ((u % 65536 : Nat) : Int) := by
  have hx : u &&& 65535 = u % 65536 := Nat.and_two_pow_sub_one_eq_mod u 16
  have := u64_and_nat u 65535 h (by omega)
  rw [hx] at this
  exact this
theorem xor_65535 (x : Nat) (h : x < 65536) : 65535 ^^^ x = 65535 - x := by
  have h1 : (BitVec.allOnes 16 ^^^ BitVec.ofNat 16 x).toNat = (~~~ (BitVec.ofNat 16 x)).toNat := by rw [BitVec.allOnes_xor]
  rw [BitVec.toNat_xor, BitVec.toNat_not, BitVec.toNat_ofNat, Nat.mod_eq_of_lt (by omega)] at h1
  simpa [BitVec.allOnes] using h1
theorem not_u16 (x : Nat) (h : x < 65536) : bits .xor .u16 IntKind.u16.max (x : Int) = ((65535 - x : Nat) : Int) := by
  have := u16_xor_nat 65535 x (by omega) h
  rw [xor_65535 x h] at this
  exact this

set_option maxHeartbeats 400000 in
theorem folded_any (u : Nat) (w : World) (hu : u < 18446744073709551616) :
    Calls Try.prog 30 #[.int .u64 (u : Int)] w fun e w' => e = .returned (.int .u16 (f16 u : Nat)) ∧ w = w' := by
  go_enter Try.func30, Try.ntmps30
  go_wp2
  go_loop [0] (fun x => ∃ v : Nat, v < 18446744073709551616 ∧ x = .int .u64 (v : Int) ∧ f16 v = f16 u) (fun x => (intOf x).toNat)
  case atStart => exact ⟨u, hu, rfl, rfl⟩
  case round =>
    obtain ⟨v, hv, rfl, he⟩ := hrel
    have HE := Lib.hid he
    clear he
    by_cases hlt : 65535 < v
    · have h0 : (65535 : Int) < v := by omega
      have ha := and_65535 v hv
      go_wp2
      go_round
      case rel => exact ⟨v % 65536 + v / 65536, by omega, by go_num, by rw [f16_step v hlt]; exact HE.out⟩
      case measure => simp [intOf]; omega
    · have h0 : ¬ (65535 : Int) < v := by omega
      have h1 : (v : Int) % 65536 = v := by omega
      go_wp2
      go_ret
      exact ⟨by rw [← HE.out, f16_small v (by omega)]; rfl, rfl⟩

/-- the sum of the words: even places count 256-fold -/
def wsum : Nat → List UInt8 → Nat
  | _, [] => 0
  | k, x :: t => (if k % 2 = 0 then 256 * x.toNat else x.toNat) + wsum (k + 1) t
theorem wsum_snoc (k : Nat) (l : List UInt8) (x : UInt8) : wsum k (l ++ [x]) = wsum k l + (if (k + l.length) % 2 = 0 then 256 * x.toNat else x.toNat) := by
  induction l generalizing k with
  | nil => simp [wsum]
  | cons y t ih =>
    rw [List.cons_append, wsum, ih, wsum, List.length_cons, show k + 1 + t.length = k + (t.length + 1) from by omega]
    omega
theorem wsum_le (k : Nat) (l : List UInt8) : wsum k l ≤ 65280 * l.length := by
  induction l generalizing k with
  | nil => simp [wsum]
  | cons y t ih =>
    have := ih (k + 1)
    have hy := y.toNat_lt
    rw [wsum, List.length_cons]
    split <;> omega
def csum (l : List UInt8) : Nat := 65535 - f16 (wsum 0 l)

theorem take_snoc {α : Type} (l : List α) (k : Nat) (h : k < l.length) : l.take (k + 1) = l.take k ++ [l[k]] := by
  rw [List.take_succ_eq_append_getElem h]

set_option maxHeartbeats 1000000 in
theorem Sum_one (g : Nat) (A : Option Addr) (l : List UInt8) (c c' : Nat) (w : World) (hl : l.length ≤ 140737488351232) (hg : w.cell? ⟨g, 0, none⟩ = some (.slice A l.length c)) (hA : RA w A l) :
    Calls Try.prog 20 #[.slice (some ⟨g, 0, none⟩) 1 c'] w fun e w' => e = .returned (.int .u16 (csum l : Nat)) ∧ w = w' := by
  go_enter Try.func20, Try.ntmps20
  go_wp2
  refine wp_loop_rounds 2 ?_
  rw [rounds_succ]
  go_wp2
  go_loop [3, 4, 17] (fun u n k => ∃ j : Nat, j ≤ l.length ∧ u = .int .u64 (wsum 0 (l.take j) : Nat) ∧ n = .int .i64 (j : Int) ∧ k = .int .i64 (j : Int)) (fun _ _ k => (l.length - intOf k).toNat)
  case atStart => exact ⟨0, by omega, rfl, rfl, rfl⟩
  case round =>
    obtain ⟨j, hj, rfl, rfl, rfl⟩ := hrel
    by_cases hlt : j < l.length
    · obtain ⟨ad, rfl, _, hc⟩ := hA.at_ hlt
      have hcj := hc j hlt
      clear hc
      have hb := wsum_le 0 (l.take j)
      have hb' : (l.take j).length ≤ j := List.length_take_le _ _
      have hx := l[j].toNat_lt
      have hs : wsum 0 (l.take (j + 1)) = wsum 0 (l.take j) + (if j % 2 = 0 then 256 * l[j].toNat else l[j].toNat) := by
        rw [take_snoc l j hlt, wsum_snoc]
        simp [List.length_take, Nat.min_eq_left (Nat.le_of_lt hlt)]
      unfold bv at hcj
      generalize l[j].toNat = x at hcj hx hs
      by_cases hp : j % 2 = 0
      · rw [if_pos hp] at hs
        have HS := Lib.hid hs
        clear hs
        have hp' : (((j : Int) % 2) == 0) = true := by simp; omega
        have hi : (j : Int) < l.length := by omega
        go_wp2
        go_round
        case rel => exact ⟨j + 1, by omega, by rw [HS.out]; go_num, by go_num, by go_num⟩
        case measure => simp [intOf]; omega
      · rw [if_neg hp] at hs
        have HS := Lib.hid hs
        clear hs
        have hp' : (((j : Int) % 2) == 0) = false := by simp; omega
        have hi : (j : Int) < l.length := by omega
        go_wp2
        go_round
        case rel => exact ⟨j + 1, by omega, by rw [HS.out]; go_num, by go_num, by go_num⟩
        case measure => simp [intOf]; omega
    · obtain rfl : j = l.length := by omega
      have hb := wsum_le 0 l
      have hf := f16_le (wsum 0 l)
      simp only [List.take_length]
      go_wp2_with fail
      refine (folded_any _ _ (by omega)).mono ?_
      rintro e w' ⟨rfl, rfl⟩
      go_wp2_with fail
      rw [rounds_succ]
      go_wp2_with fail
      refine (folded_any _ _ (by omega)).mono ?_
      rintro e w' ⟨rfl, rfl⟩
      go_wp2
      go_ret
      refine ⟨ret_any ?_, rfl⟩
      have := not_u16 (f16 (wsum 0 l)) (by omega)
      rw [f16_f16, this]
      rfl

theorem Sum_n (g : Nat) (A : Option Addr) (l : List UInt8) (n c c' : Nat) (w : World) (hn : n = l.length) (hl : n ≤ 140737488351232) (hg : w.cell? ⟨g, 0, none⟩ = some (.slice A n c)) (hA : RA w A l) :
    Calls Try.prog 20 #[.slice (some ⟨g, 0, none⟩) 1 c'] w fun e w' => e = .returned (.int .u16 (csum l : Nat)) ∧ w = w' := by
  subst hn
  exact Sum_one g A l c c' w hl hg hA
end Go.Proofs.Ytlhfphidanjafaa
