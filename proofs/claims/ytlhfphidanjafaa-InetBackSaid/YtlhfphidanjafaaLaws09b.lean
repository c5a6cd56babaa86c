/- What was read is laid as it was. -/
import Derived.Test.YtlhfphidanjafaaLaws09
set_option linter.unusedVariables false
set_option linter.unusedSimpArgs false
namespace Go.Proofs.Ytlhfphidanjafaa

theorem cons1 (n : Nat) (l : List UInt8) (h : n + 1 ≤ l.length) : ∃ x t, l = x :: t ∧ n ≤ t.length := by
  cases l with
  | nil => simp at h
  | cons x t => exact ⟨x, t, rfl, by simpa using h⟩
theorem cons_eq {x y : UInt8} {s t : List UInt8} (h : x = y) (k : s = t) : x :: s = y :: t := by rw [h, k]
theorem cons20 (l : List UInt8) (h : 20 ≤ l.length) : ∃ b0 b1 b2 b3 b4 b5 b6 b7 b8 b9 b10 b11 b12 b13 b14 b15 b16 b17 b18 b19 t, l = b0 :: b1 :: b2 :: b3 :: b4 :: b5 :: b6 :: b7 :: b8 :: b9 :: b10 :: b11 :: b12 :: b13 :: b14 :: b15 :: b16 :: b17 :: b18 :: b19 :: t := by
  obtain ⟨b0, l0, rfl, h0⟩ := cons1 19 _ h
  obtain ⟨b1, l1, rfl, h1⟩ := cons1 18 _ h0
  obtain ⟨b2, l2, rfl, h2⟩ := cons1 17 _ h1
  obtain ⟨b3, l3, rfl, h3⟩ := cons1 16 _ h2
  obtain ⟨b4, l4, rfl, h4⟩ := cons1 15 _ h3
  obtain ⟨b5, l5, rfl, h5⟩ := cons1 14 _ h4
  obtain ⟨b6, l6, rfl, h6⟩ := cons1 13 _ h5
  obtain ⟨b7, l7, rfl, h7⟩ := cons1 12 _ h6
  obtain ⟨b8, l8, rfl, h8⟩ := cons1 11 _ h7
  obtain ⟨b9, l9, rfl, h9⟩ := cons1 10 _ h8
  obtain ⟨b10, l10, rfl, h10⟩ := cons1 9 _ h9
  obtain ⟨b11, l11, rfl, h11⟩ := cons1 8 _ h10
  obtain ⟨b12, l12, rfl, h12⟩ := cons1 7 _ h11
  obtain ⟨b13, l13, rfl, h13⟩ := cons1 6 _ h12
  obtain ⟨b14, l14, rfl, h14⟩ := cons1 5 _ h13
  obtain ⟨b15, l15, rfl, h15⟩ := cons1 4 _ h14
  obtain ⟨b16, l16, rfl, h16⟩ := cons1 3 _ h15
  obtain ⟨b17, l17, rfl, h17⟩ := cons1 2 _ h16
  obtain ⟨b18, l18, rfl, h18⟩ := cons1 1 _ h17
  obtain ⟨b19, l19, rfl, h19⟩ := cons1 0 _ h18
  exact ⟨_, _, _, _, _, _, _, _, _, _, _, _, _, _, _, _, _, _, _, _, _, rfl⟩

theorem ofBe2 (a b : UInt8) : ofBe [a, b] = a.toNat * 256 + b.toNat := by simp [ofBe]
theorem ofBe4 (a b c d : UInt8) : ofBe [a, b, c, d] = ((a.toNat * 256 + b.toNat) * 256 + c.toNat) * 256 + d.toNat := by simp [ofBe]

/-- what a head that was taken says, byte by byte -/
structure Taken (b : List UInt8) (b1 b2 b3 b4 b5 b6 b7 b8 b9 b10 b11 b12 b13 b14 b15 b16 b17 b18 b19 : UInt8) (t : List UInt8) : Prop where
  all : b = 69 :: b1 :: b2 :: b3 :: b4 :: b5 :: b6 :: b7 :: b8 :: b9 :: b10 :: b11 :: b12 :: b13 :: b14 :: b15 :: b16 :: b17 :: b18 :: b19 :: t
  len : 20 ≤ b2.toNat * 256 + b3.toNat
  room : b2.toNat * 256 + b3.toNat ≤ 20 + t.length
  sum : ∃ m, wsum 0 [69, b1, b2, b3, b4, b5, b6, b7, b8, b9, b10, b11, b12, b13, b14, b15, b16, b17, b18, b19] = 65535 * (m + 1)
  frag : (b6.toNat * 256 + b7.toNat) % 16384 = 0
  ttl : ¬ b8.toNat = 0
  head : decH b = ⟨b1.toNat, (b4.toNat * 256 + b5.toNat : Nat), b8.toNat, b9.toNat, decide ((b6.toNat * 256 + b7.toNat) / 16384 % 2 = 1), (((b12.toNat * 256 + b13.toNat) * 256 + b14.toNat) * 256 + b15.toNat : Nat), (((b16.toNat * 256 + b17.toNat) * 256 + b18.toNat) * 256 + b19.toNat : Nat)⟩
  data : decL b = t.take (b2.toNat * 256 + b3.toNat - 20)

theorem taken (b : List UInt8) (h : decE b = 0) : ∃ b1 b2 b3 b4 b5 b6 b7 b8 b9 b10 b11 b12 b13 b14 b15 b16 b17 b18 b19 t, Taken b b1 b2 b3 b4 b5 b6 b7 b8 b9 b10 b11 b12 b13 b14 b15 b16 b17 b18 b19 t := by
  have h0 := h
  obtain ⟨hl, a1, ⟨a2, a3, a4⟩, a5, a6, a7⟩ := decE_zero h
  obtain ⟨b0, b1, b2, b3, b4, b5, b6, b7, b8, b9, b10, b11, b12, b13, b14, b15, b16, b17, b18, b19, t, rfl⟩ := cons20 b hl
  simp only [List.getD_cons_zero, List.getD_cons_succ, List.drop_succ_cons, List.drop_zero, List.take_succ_cons, List.take_zero, ofBe2, List.length_cons] at a1 a2 a3 a4 a5 a6 a7
  have e0 : b0 = 69 := UInt8.toNat_inj.1 (by have : (69 : UInt8).toNat = 69 := rfl; omega)
  subst e0
  refine ⟨b1, b2, b3, b4, b5, b6, b7, b8, b9, b10, b11, b12, b13, b14, b15, b16, b17, b18, b19, t, ⟨rfl, a3, by omega, csum_zero a5, a6, a7, ?_, ?_⟩⟩
  · unfold decH
    rw [if_pos h0]
    simp only [List.getD_cons_zero, List.getD_cons_succ, List.drop_succ_cons, List.drop_zero, List.take_succ_cons, List.take_zero, ofBe2, ofBe4]
  · unfold decL
    rw [if_pos h0]
    simp only [List.drop_succ_cons, List.drop_zero, List.take_succ_cons, List.take_zero, ofBe2]
    obtain ⟨k, hk⟩ : ∃ k, b2.toNat * 256 + b3.toNat = k + 20 := ⟨b2.toNat * 256 + b3.toNat - 20, by omega⟩
    rw [hk, Nat.add_sub_cancel]
    simp only [List.take_succ_cons, List.drop_succ_cons, List.drop_zero]

set_option maxRecDepth 10000 in
set_option maxHeartbeats 1000000 in
/-- what is laid of a head that was read -/
theorem read_laid (b : List UInt8) (h : decE b = 0) : 20 + (decL b).length ≤ b.length ∧ (decH b).wf ∧ ¬ (decH b).bad ∧
    ((decL b).length ≤ 1480 → (encL (decH b) (decL b)).length = 20 + (decL b).length ∧
      (encL (decH b) (decL b)).drop 20 = (b.take (20 + (decL b).length)).drop 20 ∧
      ((b.getD 6 0).toNat < 128 → ((encL (decH b) (decL b)) = b.take (20 + (decL b).length)) ∨
        (b.getD 10 0).toNat = 255 ∧ (b.getD 11 0).toNat = 255 ∧ ((encL (decH b) (decL b)).getD 10 0).toNat = 0 ∧ ((encL (decH b) (decL b)).getD 11 0).toNat = 0 ∧ (encL (decH b) (decL b)) = ((b.take (20 + (decL b).length)).set 10 0).set 11 0)) := by
  obtain ⟨b1, b2, b3, b4, b5, b6, b7, b8, b9, b10, b11, b12, b13, b14, b15, b16, b17, b18, b19, t, T⟩ := taken b h
  obtain ⟨e, hlen, hroom, ⟨m, hsum⟩, hfrag, httl, hH, hD⟩ := T
  have l1 := b1.toNat_lt; have l2 := b2.toNat_lt; have l3 := b3.toNat_lt; have l4 := b4.toNat_lt; have l5 := b5.toNat_lt; have l6 := b6.toNat_lt; have l7 := b7.toNat_lt; have l8 := b8.toNat_lt
  have l9 := b9.toNat_lt; have l10 := b10.toNat_lt; have l11 := b11.toNat_lt; have l12 := b12.toNat_lt; have l13 := b13.toNat_lt; have l14 := b14.toNat_lt; have l15 := b15.toNat_lt
  have l16 := b16.toNat_lt; have l17 := b17.toNat_lt; have l18 := b18.toNat_lt; have l19 := b19.toNat_lt
  have hdl : (decL b).length = b2.toNat * 256 + b3.toNat - 20 := by rw [hD, List.length_take]; omega
  have hbl : b.length = 20 + t.length := by rw [e]; simp; omega
  have hbad : ¬ (decH b).bad := by rw [hH]; simp only [Hd.bad]; omega
  refine ⟨by omega, ?_, hbad, ?_⟩
  · rw [hH]; simp only [Hd.wf]; omega
  intro hsm
  have htake : b.take (20 + (decL b).length) = 69 :: b1 :: b2 :: b3 :: b4 :: b5 :: b6 :: b7 :: b8 :: b9 :: b10 :: b11 :: b12 :: b13 :: b14 :: b15 :: b16 :: b17 :: b18 :: b19 :: decL b := by
    rw [e]
    rw [Nat.add_comm]
    simp only [List.take_succ_cons]
    rw [← e, hdl, hD]
  have hE0 : encE (decH b) (decL b).length = 0 := by unfold encE; rw [if_neg hbad, if_neg (by omega)]
  have hL : encL (decH b) (decL b) = encB b1.toNat (b4.toNat * 256 + b5.toNat) b8.toNat b9.toNat (decide ((b6.toNat * 256 + b7.toNat) / 16384 % 2 = 1)) (((b12.toNat * 256 + b13.toNat) * 256 + b14.toNat) * 256 + b15.toNat) (((b16.toNat * 256 + b17.toNat) * 256 + b18.toNat) * 256 + b19.toNat) (decL b) := by
    unfold encL
    rw [if_pos hE0, hH]
    simp only [Int.toNat_natCast]
  have hg6 : b.getD 6 0 = b6 := by rw [e]; rfl
  have hg10 : b.getD 10 0 = b10 := by rw [e]; rfl
  have hg11 : b.getD 11 0 = b11 := by rw [e]; rfl
  have hcut : ∀ x : List UInt8, x.length = 20 → (x ++ decL b).drop 20 = decL b := by
    intro x hx
    rw [List.drop_append_of_le_length (by omega), List.drop_of_length_le (by omega), List.nil_append]
  rw [htake, hg6, hg10, hg11, hL]
  clear htake hg6 hg10 hg11 hL hE0 hH hD e
  refine ⟨encB_length _ _ _ _ _ _ _ _, hcut _ (hdr_length _ _ _ _ _ _ _ _ _), ?_⟩
  intro h6
  have hfl : flagsOf (decide ((b6.toNat * 256 + b7.toNat) / 16384 % 2 = 1)) = b6.toNat * 256 + b7.toNat := by
    unfold flagsOf
    by_cases hx : (b6.toNat * 256 + b7.toNat) / 16384 % 2 = 1
    · simp only [hx, decide_true, if_true]; omega
    · simp only [hx, decide_false, if_false]; simp; omega
  have hh : ∀ s, hdr b1.toNat (20 + (decL b).length) (b4.toNat * 256 + b5.toNat) (b6.toNat * 256 + b7.toNat) b8.toNat b9.toNat s (((b12.toNat * 256 + b13.toNat) * 256 + b14.toNat) * 256 + b15.toNat) (((b16.toNat * 256 + b17.toNat) * 256 + b18.toNat) * 256 + b19.toNat) =
      [69, b1, b2, b3, b4, b5, b6, b7, b8, b9, UInt8.ofNat (s / 256), UInt8.ofNat s, b12, b13, b14, b15, b16, b17, b18, b19] := by
    intro s
    rw [hdr_eq, hdl]
    refine cons_eq rfl ?_
    refine cons_eq (u8_eq (by omega)) ?_
    refine cons_eq (u8_eq (by omega)) ?_
    refine cons_eq (u8_eq (by omega)) ?_
    refine cons_eq (u8_eq (by omega)) ?_
    refine cons_eq (u8_eq (by omega)) ?_
    refine cons_eq (u8_eq (by omega)) ?_
    refine cons_eq (u8_eq (by omega)) ?_
    refine cons_eq (u8_eq (by omega)) ?_
    refine cons_eq (u8_eq (by omega)) ?_
    refine cons_eq rfl ?_
    refine cons_eq rfl ?_
    refine cons_eq (u8_eq (by omega)) ?_
    refine cons_eq (u8_eq (by omega)) ?_
    refine cons_eq (u8_eq (by omega)) ?_
    refine cons_eq (u8_eq (by omega)) ?_
    refine cons_eq (u8_eq (by omega)) ?_
    refine cons_eq (u8_eq (by omega)) ?_
    refine cons_eq (u8_eq (by omega)) ?_
    refine cons_eq (u8_eq (by omega)) ?_
    rfl
  unfold encB
  rw [hfl]
  simp only [hh]
  have hz : wsum 0 [69, b1, b2, b3, b4, b5, b6, b7, b8, b9, UInt8.ofNat (0 / 256), UInt8.ofNat 0, b12, b13, b14, b15, b16, b17, b18, b19] + (b10.toNat * 256 + b11.toNat) = 65535 * (m + 1) := by
    rw [← hsum]
    simp only [wsum_two, u8_nat]
    omega
  have hp : 0 < wsum 0 [69, b1, b2, b3, b4, b5, b6, b7, b8, b9, UInt8.ofNat (0 / 256), UInt8.ofNat 0, b12, b13, b14, b15, b16, b17, b18, b19] := by
    rw [wsum_two]; have : (69 : UInt8).toNat = 69 := rfl; omega
  have hc : csum [69, b1, b2, b3, b4, b5, b6, b7, b8, b9, UInt8.ofNat (0 / 256), UInt8.ofNat 0, b12, b13, b14, b15, b16, b17, b18, b19] = 65535 - ((wsum 0 [69, b1, b2, b3, b4, b5, b6, b7, b8, b9, UInt8.ofNat (0 / 256), UInt8.ofNat 0, b12, b13, b14, b15, b16, b17, b18, b19] - 1) % 65535 + 1) := by
    unfold csum f16; rw [if_neg (by omega)]
  generalize csum [69, b1, b2, b3, b4, b5, b6, b7, b8, b9, UInt8.ofNat (0 / 256), UInt8.ofNat 0, b12, b13, b14, b15, b16, b17, b18, b19] = s at hc ⊢
  generalize wsum 0 [69, b1, b2, b3, b4, b5, b6, b7, b8, b9, UInt8.ofNat (0 / 256), UInt8.ofNat 0, b12, b13, b14, b15, b16, b17, b18, b19] = S at hc hz hp
  by_cases hq : b10.toNat = 255 ∧ b11.toNat = 255 ∧ s = 0
  · right
    obtain ⟨q1, q2, rfl⟩ := hq
    refine ⟨q1, q2, rfl, rfl, rfl⟩
  · left
    have hs : s = b10.toNat * 256 + b11.toNat := by omega
    rw [hs, u8_eq (x := (b10.toNat * 256 + b11.toNat) / 256) (b := b10) (by omega), u8_eq (x := b10.toNat * 256 + b11.toNat) (b := b11) (by omega)]
    rfl
end Go.Proofs.Ytlhfphidanjafaa
