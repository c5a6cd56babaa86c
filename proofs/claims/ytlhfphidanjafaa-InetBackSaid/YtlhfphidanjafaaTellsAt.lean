/- Numbers for InetTells. -/
import Derived.Test.YtlhfphidanjafaaLaws09b
namespace Go.Proofs.Ytlhfphidanjafaa
open Go.RowKit
theorem Hd.form (h : Hd) : ∃ a b c d k e f, h.val = .agg #[.int .i64 a, .int .i64 b, .int .i64 c, .int .i64 d, .bool k, .int .u32 e, .int .u32 f] := ⟨_, _, _, _, _, _, _, rfl⟩
theorem tells_at (bit : Int) : ∃ (r : Int) (a q s : Nat), bit.tmod 160 = r ∧ wrap64 (r + 160) = r + 160 ∧ (r + 160).tmod 160 = (a : Int) ∧ wrap64 ((a : Int) / 8) = (q : Int) ∧ (a : Int) % 8 = (s : Int) ∧ q < 20 ∧ s < 8 := by
  have h1 := Int.lt_tmod_of_pos bit (show (0 : Int) < 160 by omega)
  have h2 := Int.tmod_lt_of_pos bit (show (0 : Int) < 160 by omega)
  generalize bit.tmod 160 = r at h1 h2
  have h3 : (r + 160).tmod 160 = (r + 160) % 160 := Int.tmod_eq_emod_of_nonneg (by omega)
  refine ⟨r, ((r + 160) % 160).toNat, ((r + 160) % 160).toNat / 8, ((r + 160) % 160).toNat % 8, rfl, ?_, ?_, ?_, ?_, ?_, ?_⟩
  · simp only [wrap64]; omega
  · rw [h3]; omega
  · simp only [wrap64]; omega
  · omega
  · omega
  · omega

theorem xor_bits : ∀ x : Fin 256, ∀ s : Fin 8, ¬ (x.val ^^^ 2 ^ s.val) = x.val ∧ (x.val ^^^ 2 ^ s.val) ≤ x.val + 128 ∧ x.val ≤ (x.val ^^^ 2 ^ s.val) + 128 ∧ (x.val ^^^ 2 ^ s.val) < 256 := by decide +kernel
theorem tells_bit (x s p : Nat) (hx : x < 256) (hs : s < 8) (hp : 2 ^ s = p) : ∃ y : UInt8, Value.int .u8 (bits .xor .u8 (x : Int) (p : Int)) = bv y ∧ ¬ y.toNat = x ∧ y.toNat ≤ x + 128 ∧ x ≤ y.toNat + 128 := by
  obtain ⟨h1, h2, h3, h4⟩ := xor_bits ⟨x, hx⟩ ⟨s, hs⟩
  simp only [hp] at h1 h2 h3 h4
  have hp8 : p < 256 := by rw [← hp]; exact Nat.pow_lt_pow_right (by omega) hs
  refine ⟨UInt8.ofNat (x ^^^ p), ?_, ?_⟩
  · rw [u8_xor_nat x p hx hp8, bv]
    rw [u8_nat, Nat.mod_eq_of_lt h4]
  · rw [u8_nat, Nat.mod_eq_of_lt h4]
    exact ⟨h1, h2, h3⟩

section
variable {w w' : World} {base : Nat} {v : Value} {l : List UInt8}
theorem Own.form1 (h : Own w base v l) (hl : 0 < l.length) : ∃ g c, v = .slice (some ⟨g, 0, none⟩) l.length c ∧ l.length ≤ c ∧ c ≤ 9223372036854775807 ∧ base ≤ g ∧ g < w.heap.size := by
  rcases h.2 with ⟨rfl, h0⟩ | ⟨g, cap, cur, rfl, hb, hg, hn, hm, hs, hx⟩
  · omega
  · exact ⟨g, cap, rfl, hn, by simpa [maxLen] using hm, hb, (Array.getElem?_eq_some_iff.1 hg).1⟩
theorem Own.ra {A : Option Addr} {n c : Nat} (h : Own w base (.slice A n c) l) : RA w A l := by
  obtain ⟨A', c', e, h', _⟩ := h.form
  injection e with e1 e2 e3
  subst e1
  exact h'
variable {g n c : Nat}
theorem Own.cell_ (h : Own w base (.slice (some ⟨g, 0, none⟩) l.length c) l) {j : Nat} (hj : j < l.length) : w.cell? ⟨g, j, none⟩ = some (bv l[j]) := by
  rw [World.ownsRow.cellAt h j (by omega), bvs_get, List.getElem?_eq_getElem hj]; rfl
theorem Own.frozen_ (h : Own w base (.slice (some ⟨g, 0, none⟩) l.length c) l) (j : Nat) : w.frozen? ⟨g, j, none⟩ = false := World.ownsRow.frozenAt h j
theorem Own.set_ (h : Own w base (.slice (some ⟨g, 0, none⟩) l.length c) l) (j : Nat) (y : UInt8) : Own (w.setCell ⟨g, j, none⟩ (bv y)) base (.slice (some ⟨g, 0, none⟩) l.length c) (l.set j y) := by
  have := (World.ownsRow.stored h j (bv y)).1
  unfold Own
  rw [List.length_set]
  have e : bvs (l.set j y) = (bvs l).set j (bv y) := by simp [bvs, List.map_set]
  rw [e]; exact this
end
theorem Own.set_n {w : World} {base g n c : Nat} {l : List UInt8} (h : Own w base (.slice (some ⟨g, 0, none⟩) n c) l) (hn : n = l.length) (j : Nat) (y : UInt8) : Own (w.setCell ⟨g, j, none⟩ (bv y)) base (.slice (some ⟨g, 0, none⟩) n c) (l.set j y) := by
  subst hn; exact h.set_ j y
theorem RA.far {w : World} {ad : Addr} {l : List UInt8} (h : RA w (some ad) l) {p : Addr} (hp : ad.block ≠ p.block) (u : Value) : RA (w.setCell p u) (some ad) l :=
  h.keep (by simp) (fun ad' e => by injection e with e; subst e; exact Below.heap_setCell w p u _ hp)
theorem RA.nat {w : World} {ad : Addr} {l : List UInt8} (h : RA w (some ad) l) (j : Nat) (hj : j < l.length) (h0 : j ≠ 0) : w.cell? ⟨ad.block, ad.off + j, none⟩ = some (.int .u8 ((l.getD j 0).toNat : Int)) := by
  obtain ⟨ad', e, _, hc⟩ := h.at_ hj
  injection e with e
  subst e
  have := hc j hj
  rw [Addr.add, if_neg h0] at this
  rw [this, bv]
  simp [List.getD, List.getElem?_eq_getElem hj]
theorem Own.nat {w : World} {base g c : Nat} {l : List UInt8} (h : Own w base (.slice (some ⟨g, 0, none⟩) l.length c) l) (j : Nat) (hj : j < l.length) : w.cell? ⟨g, j, none⟩ = some (.int .u8 ((l.getD j 0).toNat : Int)) := by
  rw [h.cell_ hj, bv]
  simp [List.getD, List.getElem?_eq_getElem hj]
theorem RA.take {w : World} {A : Option Addr} {l : List UInt8} (h : RA w A l) (k : Nat) : RA w A (l.take k) := by
  rcases h with h | ⟨ad, rfl, hb, hc⟩
  · exact .inl (by rw [h]; simp)
  · exact .inr ⟨ad, rfl, hb, fun j hj => by rw [List.length_take] at hj; rw [hc j (by omega), List.getElem_take]⟩
end Go.Proofs.Ytlhfphidanjafaa
