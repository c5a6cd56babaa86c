/- Plain laws of heads: what was laid is read, what was read is laid, one turned bit is seen. -/
import Derived.Test.YtlhfphidanjafaaBoth
set_option linter.unusedVariables false
set_option linter.unusedSimpArgs false
namespace Go.Proofs.Ytlhfphidanjafaa

theorem u8_eq {x : Nat} {b : UInt8} (h : x % 256 = b.toNat) : UInt8.ofNat x = b := by
  apply UInt8.toNat_inj.1
  rw [UInt8.toNat_ofNat']
  exact h
theorem u8_nat (x : Nat) : (UInt8.ofNat x).toNat = x % 256 := UInt8.toNat_ofNat'

theorem decE_zero {l : List UInt8} (h : decE l = 0) : 20 ≤ l.length ∧ (l.getD 0 0).toNat / 16 = 4 ∧ ((l.getD 0 0).toNat % 16 = 5 ∧ 20 ≤ ofBe ((l.drop 2).take 2) ∧ ofBe ((l.drop 2).take 2) ≤ l.length) ∧ csum (l.take 20) = 0 ∧ ofBe ((l.drop 6).take 2) % 16384 = 0 ∧ ¬ (l.getD 8 0).toNat = 0 := by
  unfold decE at h
  split at h; · omega
  split at h; · omega
  split at h; · omega
  split at h; · omega
  split at h; · omega
  split at h; · omega
  split at h; · omega
  rename_i h1 h2 h3 h4 h5 h6 h7
  exact ⟨by omega, Decidable.not_not.1 h2, Decidable.not_not.1 h4, Decidable.not_not.1 h5, Decidable.not_not.1 h6, h7⟩
theorem decE_mk {l : List UInt8} (h1 : 20 ≤ l.length) (h2 : (l.getD 0 0).toNat = 69) (h3 : 20 ≤ ofBe ((l.drop 2).take 2)) (h4 : ofBe ((l.drop 2).take 2) ≤ l.length) (h5 : csum (l.take 20) = 0) (h6 : ofBe ((l.drop 6).take 2) % 16384 = 0) (h7 : ¬ (l.getD 8 0).toNat = 0) : decE l = 0 := by
  unfold decE
  rw [if_neg (by omega), if_neg (by omega), if_neg (by omega), if_neg (by simp only [Decidable.not_not]; omega), if_neg (not_not_intro h5), if_neg (not_not_intro h6), if_neg h7]

theorem csum_zero {l : List UInt8} (h : csum l = 0) : ∃ m, wsum 0 l = 65535 * (m + 1) := by
  unfold csum f16 at h
  split at h
  · omega
  · exact ⟨(wsum 0 l - 1) / 65535, by omega⟩
theorem csum_zero_mk {l : List UInt8} (m : Nat) (h : wsum 0 l = 65535 * (m + 1)) : csum l = 0 := by
  unfold csum f16
  rw [if_neg (by omega)]
  omega

theorem wsum_set (j : Nat) (l : List UInt8) (k : Nat) (y : UInt8) (hk : k < l.length) :
    wsum j (l.set k y) + (if (j + k) % 2 = 0 then 256 else 1) * l[k].toNat = wsum j l + (if (j + k) % 2 = 0 then 256 else 1) * y.toNat := by
  induction l generalizing j k with
  | nil => simp at hk
  | cons x t ih =>
    cases k with
    | zero => simp only [List.set_cons_zero, wsum, List.getElem_cons_zero, Nat.add_zero]; split <;> omega
    | succ k =>
      have := ih (j + 1) k (by simpa using hk)
      simp only [List.set_cons_succ, wsum, List.getElem_cons_succ]
      rw [show j + 1 + k = j + (k + 1) from by omega] at this
      omega

/-- a head of which one byte is turned by no more than a bit is not taken -/
theorem turned (l : List UInt8) (k : Nat) (y : UInt8) (hk : k < 20) (h : decE l = 0) (hl : k < l.length) (h1 : ¬ y.toNat = l[k].toNat) (h2 : y.toNat ≤ l[k].toNat + 128) (h3 : l[k].toNat ≤ y.toNat + 128) : ¬ decE (l.set k y) = 0 := by
  intro h'
  obtain ⟨a1, _, _, a4, _⟩ := decE_zero h
  obtain ⟨_, _, _, b4, _⟩ := decE_zero h'
  rw [List.take_set] at b4
  have hk' : k < (l.take 20).length := by simp; omega
  have := wsum_set 0 (l.take 20) k y hk'
  obtain ⟨m, hm⟩ := csum_zero a4
  obtain ⟨m', hm'⟩ := csum_zero b4
  rw [hm, hm', List.getElem_take] at this
  split at this <;> omega

theorem encE_zero {h : Hd} {n : Nat} (he : encE h n = 0) : ¬ h.bad ∧ n ≤ 1480 := by
  unfold encE at he
  split at he; · omega
  split at he; · omega
  exact ⟨by assumption, by omega⟩

/-- the twenty bytes of a head, one by one -/
theorem hdr_eq (tos len id fl ttl proto sum src dst : Nat) : hdr tos len id fl ttl proto sum src dst =
    [69, UInt8.ofNat tos, UInt8.ofNat (len / 256), UInt8.ofNat len, UInt8.ofNat (id / 256), UInt8.ofNat id, UInt8.ofNat (fl / 256), UInt8.ofNat fl, UInt8.ofNat ttl, UInt8.ofNat proto, UInt8.ofNat (sum / 256), UInt8.ofNat sum,
      UInt8.ofNat (src / 256 / 256 / 256), UInt8.ofNat (src / 256 / 256), UInt8.ofNat (src / 256), UInt8.ofNat src, UInt8.ofNat (dst / 256 / 256 / 256), UInt8.ofNat (dst / 256 / 256), UInt8.ofNat (dst / 256), UInt8.ofNat dst] := rfl
theorem wsum_even (k : Nat) (t : List UInt8) : wsum (k + 2) t = wsum k t := by
  induction t generalizing k with
  | nil => rfl
  | cons x t ih => rw [wsum, wsum, show k + 2 + 1 = k + 1 + 2 from rfl, ih, Nat.add_mod_right]
theorem wsum_two (a b : UInt8) (t : List UInt8) : wsum 0 (a :: b :: t) = 256 * a.toNat + b.toNat + wsum 0 t := by
  rw [wsum, wsum, show 0 + 1 + 1 = 0 + 2 from rfl, wsum_even]
  simp; omega
theorem wsum_hdr (tos len id fl ttl proto sum src dst : Nat) (h : sum < 65536) : wsum 0 (hdr tos len id fl ttl proto sum src dst) = wsum 0 (hdr tos len id fl ttl proto 0 src dst) + sum := by
  simp only [hdr_eq, wsum_two, u8_nat, UInt8.toNat_ofNat]
  generalize 256 * (src / 256 / 256 / 256 % 256) + src / 256 / 256 % 256 + (256 * (src / 256 % 256) + src % 256 + (256 * (dst / 256 / 256 / 256 % 256) + dst / 256 / 256 % 256 + (256 * (dst / 256 % 256) + dst % 256 + wsum 0 []))) = X
  omega
theorem wsum_pos (tos len id fl ttl proto sum src dst : Nat) : 0 < wsum 0 (hdr tos len id fl ttl proto sum src dst) := by
  rw [hdr_eq, wsum_two]
  have : (69 : UInt8).toNat = 69 := rfl
  omega
theorem hdr_sum (tos len id fl ttl proto src dst : Nat) : csum (hdr tos len id fl ttl proto (csum (hdr tos len id fl ttl proto 0 src dst)) src dst) = 0 := by
  have hp := wsum_pos tos len id fl ttl proto 0 src dst
  have hc : csum (hdr tos len id fl ttl proto 0 src dst) < 65536 := by unfold csum; omega
  have hw := wsum_hdr tos len id fl ttl proto _ src dst hc
  have hx : csum (hdr tos len id fl ttl proto 0 src dst) = 65535 - ((wsum 0 (hdr tos len id fl ttl proto 0 src dst) - 1) % 65535 + 1) := by
    unfold csum f16; rw [if_neg (by omega)]
  refine csum_zero_mk ((wsum 0 (hdr tos len id fl ttl proto 0 src dst) - 1) / 65535) ?_
  rw [hw]
  omega

set_option maxHeartbeats 2000000 in
/-- what was laid is read as it was, whatever stands behind -/
theorem laid_read (h : Hd) (l t : List UInt8) (hw : h.wf) (he : encE h l.length = 0) : decE (encL h l ++ t) = 0 ∧ decH (encL h l ++ t) = h ∧ decL (encL h l ++ t) = l ∧ (encL h l).length = 20 + l.length := by
  obtain ⟨hb, hn⟩ := encE_zero he
  obtain ⟨tos, id, ttl, proto, keep, src, dst⟩ := h
  obtain ⟨_, _, _, _, b5, b6⟩ := hw
  simp only [Hd.bad] at hb
  simp only at b5 b6
  obtain ⟨tos, rfl⟩ : ∃ k : Nat, tos = k := ⟨tos.toNat, by omega⟩
  obtain ⟨id, rfl⟩ : ∃ k : Nat, id = k := ⟨id.toNat, by omega⟩
  obtain ⟨ttl, rfl⟩ : ∃ k : Nat, ttl = k := ⟨ttl.toNat, by omega⟩
  obtain ⟨proto, rfl⟩ : ∃ k : Nat, proto = k := ⟨proto.toNat, by omega⟩
  obtain ⟨src, rfl⟩ : ∃ k : Nat, src = k := ⟨src.toNat, by omega⟩
  obtain ⟨dst, rfl⟩ : ∃ k : Nat, dst = k := ⟨dst.toNat, by omega⟩
  have hL : encL ⟨tos, id, ttl, proto, keep, src, dst⟩ l = encB tos id ttl proto keep src dst l := by
    simp only [encL, if_pos he, Int.toNat_natCast]
  rw [hL]
  have hs := hdr_sum tos (20 + l.length) id (flagsOf keep) ttl proto src dst
  have hE : encB tos id ttl proto keep src dst l = hdr tos (20 + l.length) id (flagsOf keep) ttl proto (csum (hdr tos (20 + l.length) id (flagsOf keep) ttl proto 0 src dst)) src dst ++ l := rfl
  have hlen := encB_length tos id ttl proto keep src dst l
  rw [hE, List.append_assoc]
  generalize csum (hdr tos (20 + l.length) id (flagsOf keep) ttl proto 0 src dst) = s at hs hE ⊢
  have hf : flagsOf keep = if keep then 16384 else 0 := rfl
  have hf' : flagsOf keep = 16384 ∧ keep = true ∨ flagsOf keep = 0 ∧ keep = false := by cases keep <;> simp [flagsOf]
  have h2 : ofBe (((hdr tos (20 + l.length) id (flagsOf keep) ttl proto s src dst ++ (l ++ t)).drop 2).take 2) = 20 + l.length := by
    rw [hdr_eq]; simp [ofBe]; omega
  have h6 : ofBe (((hdr tos (20 + l.length) id (flagsOf keep) ttl proto s src dst ++ (l ++ t)).drop 6).take 2) = flagsOf keep := by
    rw [hdr_eq]; simp [ofBe]; omega
  have h4 : ofBe (((hdr tos (20 + l.length) id (flagsOf keep) ttl proto s src dst ++ (l ++ t)).drop 4).take 2) = id := by
    rw [hdr_eq]; simp [ofBe]; omega
  have h12 : ofBe (((hdr tos (20 + l.length) id (flagsOf keep) ttl proto s src dst ++ (l ++ t)).drop 12).take 4) = src := by
    rw [hdr_eq]; simp [ofBe]; omega
  have h16 : ofBe (((hdr tos (20 + l.length) id (flagsOf keep) ttl proto s src dst ++ (l ++ t)).drop 16).take 4) = dst := by
    rw [hdr_eq]; simp [ofBe]; omega
  have g0 : ((hdr tos (20 + l.length) id (flagsOf keep) ttl proto s src dst ++ (l ++ t)).getD 0 0).toNat = 69 := by rw [hdr_eq]; rfl
  have g1 : ((hdr tos (20 + l.length) id (flagsOf keep) ttl proto s src dst ++ (l ++ t)).getD 1 0).toNat = tos := by rw [hdr_eq]; simp; omega
  have g8 : ((hdr tos (20 + l.length) id (flagsOf keep) ttl proto s src dst ++ (l ++ t)).getD 8 0).toNat = ttl := by rw [hdr_eq]; simp; omega
  have g9 : ((hdr tos (20 + l.length) id (flagsOf keep) ttl proto s src dst ++ (l ++ t)).getD 9 0).toNat = proto := by rw [hdr_eq]; simp; omega
  have ht : (hdr tos (20 + l.length) id (flagsOf keep) ttl proto s src dst ++ (l ++ t)).take 20 = hdr tos (20 + l.length) id (flagsOf keep) ttl proto s src dst := by
    rw [List.take_append_of_le_length (by rw [hdr_length]; omega), List.take_of_length_le (by rw [hdr_length]; omega)]
  have hl : (hdr tos (20 + l.length) id (flagsOf keep) ttl proto s src dst ++ (l ++ t)).length = 20 + l.length + t.length := by simp [hdr_length]; omega
  have hd : decE (hdr tos (20 + l.length) id (flagsOf keep) ttl proto s src dst ++ (l ++ t)) = 0 := by
    apply decE_mk
    · omega
    · exact g0
    · rw [h2]; omega
    · rw [h2]; omega
    · rw [ht]; exact hs
    · rw [h6]; omega
    · rw [g8]; omega
  refine ⟨hd, ?_, ?_, by rw [← hE]; exact hlen⟩
  · have hk : decide (flagsOf keep / 16384 % 2 = 1) = keep := by rcases hf' with ⟨a, b⟩ | ⟨a, b⟩ <;> rw [a, b] <;> rfl
    clear hL hs hE hlen hf ht hl g0
    generalize hdr tos (20 + l.length) id (flagsOf keep) ttl proto s src dst ++ (l ++ t) = B at *
    unfold decH
    rw [if_pos hd, g1, g8, g9, h4, h6, h12, h16, hk]
  · simp only [decL, if_pos hd, h2]
    rw [← List.append_assoc, List.take_append_of_le_length (by simp [hdr_length]), List.take_of_length_le (by simp [hdr_length]), List.drop_append_of_le_length (by rw [hdr_length]; omega), List.drop_of_length_le (by rw [hdr_length]; omega), List.nil_append]
end Go.Proofs.Ytlhfphidanjafaa
