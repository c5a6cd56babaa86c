/- slipwayref01: Put, Get, Folded, SumOf. -/
import Derived.Test.YtlhfphidanjafaaMem
import Derived.Test.YtlhfphidanjafaaGet
set_option linter.unusedVariables false
set_option linter.unusedSimpArgs false
namespace Go.Proofs.Ytlhfphidanjafaa
open Go.RowKit

theorem be_head (n k : Nat) : be n (k + 1) = UInt8.ofNat (n / 256 ^ k) :: be n k := by
  induction k generalizing n with
  | zero => simp [be]
  | succ k ih =>
    rw [be, ih, be, List.cons_append, Nat.div_div_eq_div_mul, Nat.pow_succ, Nat.mul_comm 256]
theorem be_put (n width j : Nat) (h : j < width) : (List.replicate (width - j) (0 : UInt8) ++ be n j).set (width - 1 - j) (UInt8.ofNat (n / 256 ^ j)) = List.replicate (width - (j + 1)) 0 ++ be n (j + 1) := by
  rw [be_head, show width - j = (width - (j + 1)) + 1 from by omega, List.replicate_succ', List.append_assoc, List.set_append_right _ _ (by simp; omega)]
  simp [show width - 1 - j - (width - (j + 1)) = 0 from by omega]

set_option maxHeartbeats 1000000 in
theorem rPut_ok (n width : Nat) (w : World) (hn : n < 18446744073709551616) (h1 : 1 ≤ width) (h8 : width ≤ 8) :
    Calls Try.prog 32 #[.int .u64 (n : Int), .int .i64 (width : Int)] w fun e w' => e = .returned (.slice (some ⟨w.heap.size, 0, none⟩) width width) ∧ Buf w' w.heap.size (be n width) ∧ Below w.heap.size w w' := by
  have hmk := make_bytes width (by omega)
  go_enter Try.func32, Try.ntmps32
  go_wp2_with fail
  have B1 : Buf (w.alloc (.cells (madeCells #[.int .u8 0] width) 5)) w.heap.size (List.replicate width 0) := Buf.made w _
  have O1 : Below w.heap.size w (w.alloc (.cells (madeCells #[.int .u8 0] width) 5)) := (Below.refl _ _).alloc (Nat.le_refl _) _
  generalize w.alloc (.cells (madeCells #[.int .u8 0] width) 5) = W1 at B1 O1 ⊢
  clear hmk
  go_loopw [0, 6] (fun x i wr => ∃ j : Nat, j ≤ width ∧ x = .int .u64 ((n / 256 ^ j : Nat) : Int) ∧ i = .int .i64 (j : Int) ∧ Buf wr w.heap.size (List.replicate (width - j) 0 ++ be n j) ∧ Below w.heap.size w wr) (fun _ i _ => (width - intOf i).toNat)
  case atStart => exact ⟨0, by omega, by simp, rfl, by simpa [be] using B1, O1⟩
  case round =>
    obtain ⟨j, hj, rfl, rfl, hB, hO⟩ := hrel
    by_cases hlt : j < width
    · have h2 : (j : Int) < width := by omega
      have hx : n / 256 ^ j < 18446744073709551616 := Nat.lt_of_le_of_lt (Nat.div_le_self _ _) hn
      have hs : n / 256 ^ (j + 1) = n / 256 ^ j / 256 := by rw [Nat.div_div_eq_div_mul, Nat.pow_succ]
      have HS := Lib.hid hs
      have hlen : width - 1 - j < (List.replicate (width - j) (0 : UInt8) ++ be n j).length := by simp [be_length]; omega
      have k1 := hB.cell hlen
      have k2 := hB.frozen (width - 1 - j)
      have hp := hB.set_ (width - 1 - j) (UInt8.ofNat (n / 256 ^ j))
      rw [be_put n width j hlt, bv_of] at hp
      have HP := Lib.hid hp
      generalize (List.replicate (width - j) (0 : UInt8) ++ be n j)[width - 1 - j] = old at k1
      clear hB hlen hs hp
      unfold bv at k1
      generalize n / 256 ^ j = x at *
      have h3 : (0 : Int) ≤ (width : Int) - 1 - j := by omega
      have h4 : (width : Int) - 1 - j < width := by omega
      go_wp2
      go_roundw
      case rel => exact ⟨j + 1, by omega, by rw [HS.out]; go_num, by go_num, HP.out, hO.setCell (p := ⟨w.heap.size, width - 1 - j, none⟩) (by simp) _⟩
      case measure => simp [intOf]; omega
    · obtain rfl : j = width := by omega
      have h2 : ¬ (j : Int) < j := by omega
      go_wp2
      go_ret
      exact ⟨rfl, by simpa using hB, hO⟩

theorem rPut_int (n width : Int) (w : World) (h0 : 0 ≤ n) (hn : n < 18446744073709551616) (h1 : 1 ≤ width) (h8 : width ≤ 8) :
    Calls Try.prog 32 #[.int .u64 n, .int .i64 width] w fun e w' => ∃ v, e = .returned v ∧ Own w' w.heap.size v (be n.toNat width.toNat) ∧ Below w.heap.size w w' := by
  obtain ⟨n, rfl⟩ := Int.eq_ofNat_of_zero_le h0
  obtain ⟨width, rfl⟩ := Int.eq_ofNat_of_zero_le (show 0 ≤ width by omega)
  refine (rPut_ok n width w (by omega) (by omega) (by omega)).mono ?_
  rintro e w' ⟨rfl, hB, hb⟩
  exact ⟨_, rfl, hB.whole (Nat.le_refl _) (be_length _ _) (by simp only [maxLen]; omega), hb⟩

set_option maxHeartbeats 1000000 in
theorem rGet_ok (A : Option Addr) (l : List UInt8) (c : Nat) (at_ width : Nat) (w : World) (hA : RA w A l) (hlm : l.length ≤ 9223372036854775807) (h1 : 1 ≤ width) (h8 : width ≤ 8) (hl : at_ + width ≤ l.length) :
    Calls Try.prog 31 #[.slice A l.length c, .int .i64 (at_ : Int), .int .i64 (width : Int)] w fun e w' =>
      e = .returned (.tuple #[.int .u64 (ofBe ((l.drop at_).take width) : Nat), .int .i64 0]) ∧ w = w' := by
  obtain ⟨ad, rfl, _, hcell⟩ := hA.at_ (j := 0) (by omega)
  go_enter Try.func31, Try.ntmps31
  go_wp2
  go_loop [8, 9] (fun n k => ∃ j : Nat, j ≤ width ∧ n = .int .u64 (ofBe ((l.drop at_).take j) : Nat) ∧ k = .int .i64 (j : Int)) (fun _ k => (width - intOf k).toNat)
  case atStart => exact ⟨0, by omega, rfl, rfl⟩
  case round =>
    obtain ⟨j, hj, rfl, rfl⟩ := hrel
    by_cases hlt : j < width
    · have hcj : w.cell? (ad.add (at_ + j)) = some (bv (l[at_ + j]'(by omega))) := hcell _ _
      clear hcell
      have hs : ofBe ((l.drop at_).take (j + 1)) = ofBe ((l.drop at_).take j) * 256 + (l[at_ + j]'(by omega)).toNat := by
        rw [take_snoc _ j (by simp; omega), ofBe_snoc]; simp
      have hb := ofBe_lt ((l.drop at_).take j)
      have hlen : ((l.drop at_).take j).length = j := by simp; omega
      rw [hlen] at hb
      have hp : (256 : Nat) ^ j ≤ 256 ^ 7 := Nat.pow_le_pow_right (by omega) (by omega)
      have hx := (l[at_ + j]'(by omega)).toNat_lt
      unfold bv at hcj
      generalize (l[at_ + j]'(by omega)).toNat = x at hcj hs hx
      generalize ofBe ((l.drop at_).take j) = n at hs hb
      have hn : n < 72057594037927936 := Nat.lt_of_lt_of_le hb (Nat.le_trans hp (by decide))
      have HS := Lib.hid hs
      clear hs hb hp hlen
      have hi : (j : Int) < width := by omega
      have hi2 : (at_ : Int) + j < l.length := by omega
      go_wp2
      go_round
      case rel => exact ⟨j + 1, by omega, by rw [HS.out]; go_num, by go_num⟩
      case measure => simp [intOf]; omega
    · obtain rfl : j = width := by omega
      go_wp2
      go_ret2
      exact ⟨rfl, rfl⟩

set_option maxHeartbeats 400000 in
theorem Folded_any (u : Nat) (w : World) (hu : u < 18446744073709551616) :
    Calls Try.prog 33 #[.int .u64 (u : Int)] w fun e w' => e = .returned (.int .u64 (f16 u : Nat)) ∧ w = w' := by
  go_enter Try.func33, Try.ntmps33
  go_wp2
  go_loop [0] (fun x => ∃ v : Nat, v < 18446744073709551616 ∧ x = .int .u64 (v : Int) ∧ f16 v = f16 u) (fun x => (intOf x).toNat)
  case atStart => exact ⟨u, hu, rfl, rfl⟩
  case round =>
    obtain ⟨v, hv, rfl, he⟩ := hrel
    have HE := Lib.hid he
    clear he
    by_cases hlt : 65535 < v
    · have h0 : (65535 : Int) < v := by omega
      go_wp2
      go_round
      case rel => exact ⟨v % 65536 + v / 65536, by omega, by go_num, by rw [f16_step v hlt]; exact HE.out⟩
      case measure => simp [intOf]; omega
    · have h0 : ¬ (65535 : Int) < v := by omega
      go_wp2
      go_ret
      exact ⟨by rw [← HE.out, f16_small v (by omega)]; rfl, rfl⟩
theorem Folded_at (x : Int) (u : Nat) (w : World) (hx : x = u) (hu : u < 18446744073709551616) :
    Calls Try.prog 33 #[.int .u64 x] w fun e w' => e = .returned (.int .u64 (f16 u : Nat)) ∧ w = w' := by
  subst hx
  exact Folded_any u w hu

set_option maxHeartbeats 1000000 in
theorem rSum_one (g : Nat) (A : Option Addr) (l : List UInt8) (c c' : Nat) (w : World) (hl : l.length ≤ 140737488351232) (hg : w.cell? ⟨g, 0, none⟩ = some (.slice A l.length c)) (hA : RA w A l) :
    Calls Try.prog 29 #[.slice (some ⟨g, 0, none⟩) 1 c'] w fun e w' => e = .returned (.int .u16 (csum l : Nat)) ∧ w = w' := by
  go_enter Try.func29, Try.ntmps29
  go_wp2
  refine wp_loop_rounds 2 ?_
  rw [rounds_succ]
  go_wp2
  go_loop [3, 4, 6] (fun u h k => ∃ j : Nat, j ≤ l.length ∧ u = .int .u64 (f16 (wsum 0 (l.take j)) : Nat) ∧ h = .bool (decide (j % 2 = 0)) ∧ k = .int .i64 (j : Int)) (fun _ _ k => (l.length - intOf k).toNat)
  case atStart => exact ⟨0, by omega, rfl, rfl, rfl⟩
  case round =>
    obtain ⟨j, hj, rfl, rfl, rfl⟩ := hrel
    by_cases hlt : j < l.length
    · obtain ⟨ad, rfl, _, hc⟩ := hA.at_ hlt
      have hcj := hc j hlt
      clear hc
      have hx := l[j].toNat_lt
      have hs : wsum 0 (l.take (j + 1)) = wsum 0 (l.take j) + (if j % 2 = 0 then 256 * l[j].toNat else l[j].toNat) := by
        rw [take_snoc l j hlt, wsum_snoc]
        simp [List.length_take, Nat.min_eq_left (Nat.le_of_lt hlt)]
      have hf := f16_le (wsum 0 (l.take j))
      unfold bv at hcj
      generalize l[j].toNat = x at hcj hx hs
      have hi : (j : Int) < l.length := by omega
      by_cases hp : j % 2 = 0
      · rw [if_pos hp] at hs
        have hs' : f16 (wsum 0 (l.take (j + 1))) = f16 (f16 (wsum 0 (l.take j)) + 256 * x) := by rw [hs, f16_add]
        have HS := Lib.hid hs'
        clear hs hs'
        have hd : decide (j % 2 = 0) = true := by simpa using hp
        have HD : Hid (decide ((j + 1) % 2 = 0) = false) := Lib.hid (by simp; omega)
        rw [hd]
        generalize f16 (wsum 0 (l.take j)) = u at hf HS ⊢
        clear hp hd
        go_wp2_with (go_at_call 33; refine (Folded_at _ (u + 256 * x) _ (by simp) (by omega)).mono ?_; rintro e w' ⟨rfl, rfl⟩)
        go_round
        case rel => exact ⟨j + 1, by omega, by rw [HS.out], by rw [HD.out], by go_num⟩
        case measure => simp [intOf]; omega
      · rw [if_neg hp] at hs
        have hs' : f16 (wsum 0 (l.take (j + 1))) = f16 (f16 (wsum 0 (l.take j)) + x) := by rw [hs, f16_add]
        have HS := Lib.hid hs'
        clear hs hs'
        have hd : decide (j % 2 = 0) = false := by simpa using hp
        have HD : Hid (decide ((j + 1) % 2 = 0) = true) := Lib.hid (by simp; omega)
        rw [hd]
        generalize f16 (wsum 0 (l.take j)) = u at hf HS ⊢
        clear hp hd
        go_wp2_with (go_at_call 33; refine (Folded_at _ (u + x) _ (by simp) (by omega)).mono ?_; rintro e w' ⟨rfl, rfl⟩)
        go_round
        case rel => exact ⟨j + 1, by omega, by rw [HS.out], by rw [HD.out], by go_num⟩
        case measure => simp [intOf]; omega
    · obtain rfl : j = l.length := by omega
      have hf := f16_le (wsum 0 l)
      simp only [List.take_length]
      have hi : ¬ (l.length : Int) < l.length := by omega
      have e1 : ((65535 : Int) - f16 (wsum 0 l)) = ((65535 - f16 (wsum 0 l) : Nat) : Int) := by omega
      have E1 := Lib.hid e1
      clear e1
      go_wp2_with fail
      rw [rounds_succ]
      go_wp2
      go_ret
      refine ⟨ret_any ?_, rfl⟩
      rw [E1.out]
      rfl

set_option maxHeartbeats 1000000 in
theorem SumOf_any (A : Option Addr) (l : List UInt8) (n c : Nat) (w : World) (hn : n = l.length) (hl : n ≤ 140737488351232) (hA : RA w A l) :
    Calls Try.prog 18 #[.slice A n c] w fun e w' => e = .returned (.int .u16 (csum l : Nat)) ∧ Below w.heap.size w w' := by
  subst hn
  have HA := Lib.hid (hA.alloc (.cells #[.slice A l.length c] 28))
  go_enter Try.func18, Try.ntmps18
  go_wp2_with (go_at_call 29; refine (rSum_one w.heap.size A l c _ _ hl (by simp) HA.out).mono ?_; rintro e w' ⟨rfl, rfl⟩)
  go_ret
  exact ⟨rfl, (Below.refl _ _).alloc (Nat.le_refl _) _⟩
end Go.Proofs.Ytlhfphidanjafaa
