/- What a driver in order and a card come to: the plain law. -/
import Derived.Test.YtcdlpmnlblpinaaCardAt
set_option linter.unusedVariables false
set_option linter.unusedSimpArgs false
namespace Go.Proofs.Ytcdlpmnlblpinaa
open Go.RowKit

theorem mod_ne {a b n : Nat} (h1 : a < b) (h2 : b < a + n) : a % n ≠ b % n := by
  intro h
  have h3 := Nat.sub_mod_eq_zero_of_mod_eq h.symm
  have h4 : (b - a) % n = b - a := Nat.mod_eq_of_lt (by omega)
  omega
/-- a queue in a ring: items got .. all.length - 1 lie at their numbers modulo n, marked by c; the other places are marked by not c -/
structure Queue (S : List Slot) (c : Bool) (all : List (List UInt8)) (got : Nat) : Prop where
  pos : 1 ≤ S.length
  le : got ≤ all.length
  room : all.length ≤ got + S.length
  full : ∀ (k : Nat) (h : k < all.length), got ≤ k → S[k % S.length]? = some ⟨c, all[k]⟩
  free : ∀ k, all.length ≤ k → k < got + S.length → ∃ d, S[k % S.length]? = some ⟨!c, d⟩
theorem Queue.lt {S : List Slot} {c : Bool} {all : List (List UInt8)} {got : Nat} (h : Queue S c all got) (k : Nat) : k % S.length < S.length := Nat.mod_lt _ h.pos
/-- the place behind the last one -/
theorem Queue.end_ {S : List Slot} {c : Bool} {all : List (List UInt8)} {got : Nat} (h : Queue S c all got) : (S.getD (all.length % S.length) blank).card = if all.length - got < S.length then !c else c := by
  have hr := h.room
  have hl := h.le
  by_cases hlt : all.length - got < S.length
  · obtain ⟨d, hd⟩ := h.free all.length (Nat.le_refl _) (by omega)
    rw [if_pos hlt]
    simp [List.getD, hd]
  · have e : all.length = got + S.length := by omega
    have hp := h.pos
    have hf := h.full got (by omega) (Nat.le_refl _)
    rw [if_neg hlt, e, Nat.add_mod_right]
    simp [List.getD, hf]
theorem Queue.head {S : List Slot} {c : Bool} {all : List (List UInt8)} {got : Nat} (h : Queue S c all got) (hlt : got < all.length) : S.getD (got % S.length) blank = ⟨c, all[got]⟩ := by
  simp [List.getD, h.full got hlt (Nat.le_refl _)]
theorem Queue.head_none {S : List Slot} {c : Bool} {all : List (List UInt8)} {got : Nat} (h : Queue S c all got) (he : got = all.length) : (S.getD (got % S.length) blank).card = !c := by
  have hp := h.pos
  obtain ⟨d, hd⟩ := h.free got (by omega) (by omega)
  simp [List.getD, hd]
theorem Queue.push {S : List Slot} {c : Bool} {all : List (List UInt8)} {got : Nat} (h : Queue S c all got) (hlt : all.length - got < S.length) (b : List UInt8) : Queue (S.set (all.length % S.length) ⟨c, b⟩) c (all ++ [b]) got := by
  have hl := h.le
  have hr := h.room
  have hp := h.pos
  refine ⟨by simpa using hp, by simp; omega, by simp; omega, fun k hk hg => ?_, fun k hk hg => ?_⟩
  · simp only [List.length_append, List.length_cons, List.length_nil, List.length_set] at hk ⊢
    by_cases e : k = all.length
    · subst e
      rw [List.getElem?_set_self (h.lt _)]
      simp
    · rw [List.getElem?_set_ne (Ne.symm (mod_ne (a := k) (b := all.length) (by omega) (by omega))), h.full k (by omega) hg, List.getElem_append_left (by omega)]
  · simp only [List.length_append, List.length_cons, List.length_nil, List.length_set] at hk hg ⊢
    obtain ⟨d, hd⟩ := h.free k (by omega) hg
    exact ⟨d, by rw [List.getElem?_set_ne (mod_ne (a := all.length) (b := k) (by omega) (by omega)), hd]⟩
theorem Queue.pop {S : List Slot} {c : Bool} {all : List (List UInt8)} {got : Nat} (h : Queue S c all got) (hlt : got < all.length) (d : List UInt8) : Queue (S.set (got % S.length) ⟨!c, d⟩) c all (got + 1) := by
  have hl := h.le
  have hr := h.room
  have hp := h.pos
  refine ⟨by simpa using hp, by omega, by simp; omega, fun k hk hg => ?_, fun k hk hg => ?_⟩
  · rw [List.length_set, List.getElem?_set_ne (mod_ne (a := got) (b := k) (by omega) (by omega))]
    exact h.full k hk (by omega)
  · simp only [List.length_set] at hg ⊢
    by_cases e : k = got + S.length
    · subst e
      rw [Nat.add_mod_right, List.getElem?_set_self (h.lt _)]
      exact ⟨d, rfl⟩
    · obtain ⟨d', hd⟩ := h.free k hk (by omega)
      exact ⟨d', by rw [List.getElem?_set_ne (mod_ne (a := got) (b := k) (by omega) (by omega)), hd]⟩
theorem next_mod (a n : Nat) : (a % n + 1) % n = (a + 1) % n := Nat.mod_add_mod _ _ _
theorem Queue.new (n : Nat) (c : Bool) (hn : 1 ≤ n) : Queue (List.replicate n ⟨!c, []⟩) c [] 0 := by
  refine ⟨by simpa using hn, by simp, by simp, fun k hk => by simp at hk, fun k _ hk => ⟨[], ?_⟩⟩
  rw [List.getElem?_eq_getElem (Nat.mod_lt _ (by rw [List.length_replicate]; omega))]
  simp

/-- how a card stands to a driver that works in order -/
structure Flow (s : CardSt) (came : List (List UInt8)) (got r : Nat) (laid : List (List UInt8)) (gone t : Nat) : Prop where
  rx : Queue s.rs false came got
  tx : Queue s.ts true laid gone
  rn : s.rn = came.length % s.rs.length
  r : r = got % s.rs.length
  tn : s.tn = gone % s.ts.length
  t : t = laid.length % s.ts.length
  ins : s.ins = came.length
  outs : s.outs = gone
section
variable {s : CardSt} {came laid : List (List UInt8)} {got r gone t : Nat}
theorem Flow.new (n m : Nat) (h1 : 1 ≤ n) (h2 : 1 ≤ m) (hs : s = ⟨List.replicate n ⟨true, []⟩, 0, List.replicate m blank, 0, 0, 0, 0⟩) : Flow s [] 0 0 [] 0 0 := by
  subst hs
  exact ⟨Queue.new n false h1, Queue.new m true h2, by simp, by simp, by simp, by simp, rfl, rfl⟩
theorem Flow.arrive (h : Flow s came got r laid gone t) (b : List UInt8) : (arrive s b).1 = (decide (came.length - got < s.rs.length) && decide (0 < b.length ∧ b.length ≤ 1514)) ∧
    ((arrive s b).1 = true → Flow (arrive s b).2 (came ++ [b]) got r laid gone t) ∧ ((arrive s b).1 = false → Flow (arrive s b).2 came got r laid gone t) := by
  have he := h.rx.end_
  rw [← h.rn] at he
  by_cases h1 : b.length = 0 ∨ 1514 < b.length
  · simp only [Proofs.Ytcdlpmnlblpinaa.arrive, if_pos h1]
    refine ⟨?_, fun h => by simp at h, fun _ => h⟩
    have : decide (0 < b.length ∧ b.length ≤ 1514) = false := by simp; omega
    rw [this, Bool.and_false]
  have h2 : decide (0 < b.length ∧ b.length ≤ 1514) = true := by simp; omega
  rw [h2, Bool.and_true]
  by_cases hlt : came.length - got < s.rs.length
  · rw [if_pos hlt] at he
    have he : (s.rs.getD s.rn blank).card = true := he
    simp only [Proofs.Ytcdlpmnlblpinaa.arrive, if_neg h1, if_pos he]
    refine ⟨by simp [hlt], fun _ => ?_, fun h => by simp at h⟩
    have hq := h.rx.push hlt b
    rw [← h.rn] at hq
    exact ⟨hq, h.tx, by simp [h.rn, next_mod], by simp [h.r], h.tn, h.t, by simp [h.ins], h.outs⟩
  · rw [if_neg hlt] at he
    have he' : ¬ (s.rs.getD s.rn blank).card = true := by rw [he]; simp
    simp only [Proofs.Ytcdlpmnlblpinaa.arrive, if_neg h1, if_neg he']
    exact ⟨by simp [hlt], fun h => by simp at h, fun _ => ⟨h.rx, h.tx, h.rn, h.r, h.tn, h.t, h.ins, h.outs⟩⟩
theorem Flow.inR (h : Flow s came got r laid gone t) : inRing s.rs r := ⟨by omega, by have := h.rx.lt got; rw [← h.r] at this; omega⟩
theorem Flow.inT (h : Flow s came got r laid gone t) : inRing s.ts t := ⟨by omega, by have := h.tx.lt laid.length; rw [← h.t] at this; omega⟩
theorem Flow.shown_e (h : Flow s came got r laid gone t) : shownE s.rs r = 0 := by simp [shownE, h.inR]
theorem Flow.shown_some (h : Flow s came got r laid gone t) (hlt : got < came.length) : shown s.rs r = ⟨false, came[got]⟩ := by
  simp only [shown, if_pos h.inR, Int.toNat_natCast]
  have := h.rx.head hlt
  rwa [← h.r] at this
theorem Flow.shown_none (h : Flow s came got r laid gone t) (he : got = came.length) : (shown s.rs r).card = true := by
  simp only [shown, if_pos h.inR, Int.toNat_natCast]
  have := h.rx.head_none he
  rwa [← h.r] at this
theorem Flow.give (h : Flow s came got r laid gone t) (hlt : got < came.length) : giveE s r = 0 ∧ Flow (give s r) came (got + 1) ((r + 1) % s.rs.length) laid gone t := by
  have hs := h.shown_some hlt
  simp only [shown, if_pos h.inR, Int.toNat_natCast] at hs
  have hE : giveE s r = 0 := by
    simp only [giveE, if_pos h.inR, Int.toNat_natCast, hs]
    rfl
  refine ⟨hE, ?_⟩
  simp only [Proofs.Ytcdlpmnlblpinaa.give, hE, if_true, Int.toNat_natCast]
  have hq := h.rx.pop hlt []
  rw [← h.r] at hq
  exact ⟨hq, h.tx, by simp [h.rn], by simp [h.r, next_mod], h.tn, h.t, h.ins, h.outs⟩
theorem Flow.lay (h : Flow s came got r laid gone t) (b : List UInt8) : (layE s t b = 0 ↔ (laid.length - gone < s.ts.length ∧ 60 ≤ b.length ∧ b.length ≤ 1514)) ∧
    (layE s t b = 0 → Flow (lay s t b) came got r (laid ++ [b]) gone ((t + 1) % s.ts.length)) ∧ (¬ layE s t b = 0 → Flow (lay s t b) came got r laid gone t) := by
  have he := h.tx.end_
  rw [← h.t] at he
  refine ⟨?_, fun h0 => ?_, fun h0 => ?_⟩
  · simp only [layE, if_pos h.inT, Int.toNat_natCast]
    by_cases n1 : b.length < 60
    · rw [if_pos n1]; omega
    rw [if_neg n1]
    by_cases n2 : 1514 < b.length
    · rw [if_pos n2]; omega
    rw [if_neg n2]
    by_cases hlt : laid.length - gone < s.ts.length
    · have he2 : ¬ (s.ts.getD t blank).card = true := by rw [he, if_pos hlt]; simp
      rw [if_neg he2]; omega
    · have he2 : (s.ts.getD t blank).card = true := by rw [he, if_neg hlt]
      rw [if_pos he2]; omega
  · have hlt : laid.length - gone < s.ts.length := by
      simp only [layE, if_pos h.inT, Int.toNat_natCast] at h0
      by_cases n1 : b.length < 60
      · rw [if_pos n1] at h0; omega
      rw [if_neg n1] at h0
      by_cases n2 : 1514 < b.length
      · rw [if_pos n2] at h0; omega
      rw [if_neg n2] at h0
      by_cases hlt : laid.length - gone < s.ts.length
      · exact hlt
      · have he2 : (s.ts.getD t blank).card = true := by rw [he, if_neg hlt]
        rw [if_pos he2] at h0; omega
    simp only [Proofs.Ytcdlpmnlblpinaa.lay, h0, if_true, Int.toNat_natCast]
    have hq := h.tx.push hlt b
    rw [← h.t] at hq
    exact ⟨h.rx, hq, h.rn, h.r, by simp [h.tn], by simp [h.t, next_mod], h.ins, h.outs⟩
  · simp only [Proofs.Ytcdlpmnlblpinaa.lay, if_neg h0]
    exact h
theorem Flow.depart (h : Flow s came got r laid gone t) : (depart s).1 = decide (gone < laid.length) ∧ (∀ hlt : gone < laid.length, (depart s).2.1 = laid[gone] ∧ Flow (depart s).2.2 came got r laid (gone + 1) t) ∧ (¬ gone < laid.length → Flow (depart s).2.2 came got r laid gone t) := by
  by_cases hlt : gone < laid.length
  · have hh := h.tx.head hlt
    rw [← h.tn] at hh
    have hc : (s.ts.getD s.tn blank).card = true := by rw [hh]
    have hq := h.tx.pop hlt []
    rw [← h.tn] at hq
    simp only [Proofs.Ytcdlpmnlblpinaa.depart, if_pos hc]
    exact ⟨by simp [hlt], fun _ => ⟨by rw [hh], ⟨h.rx, hq, h.rn, h.r, by simp [h.tn, next_mod], by simp [h.t], h.ins, by simp [h.outs]⟩⟩, fun h => absurd hlt h⟩
  · have hl := h.tx.le
    have hh := h.tx.head_none (by omega)
    rw [← h.tn] at hh
    have hc : ¬ (s.ts.getD s.tn blank).card = true := by rw [hh]; simp
    simp only [Proofs.Ytcdlpmnlblpinaa.depart, if_neg hc]
    exact ⟨by simp [hlt], fun h => absurd h hlt, fun _ => h⟩
end
end Go.Proofs.Ytcdlpmnlblpinaa
