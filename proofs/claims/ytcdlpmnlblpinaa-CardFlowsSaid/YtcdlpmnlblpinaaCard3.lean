/- card.Card: Give, Lay, Rings, Counts, New. -/
import Derived.Test.YtcdlpmnlblpinaaCard2
import Derived.Laws.MakeOwn
set_option linter.unusedVariables false
set_option linter.unusedSimpArgs false
namespace Go.Proofs.Ytcdlpmnlblpinaa
open Go.RowKit

set_option maxRecDepth 100000 in
set_option maxHeartbeats 2000000 in
theorem Give_no (c gr gt : Nat) (s : CardSt) (i : Int) (w : World) (h : CardAt w c gr gt s) (r2 : s.rs.length ≤ 64) (hi : i < 0 ∨ (s.rs.length : Int) ≤ i) :
    Calls Try.prog 12 #[.pointer (some ⟨c, 0, none⟩), .int .i64 i] w fun e w' => e = .returned (.int .i64 40) ∧ w = w' := by
  have c0 := h.blk.cell 0
  simp only [CardSt.cells, List.getElem?_cons_zero] at c0
  clear h
  go_enter Try.func12, Try.ntmps12
  go_wp2_with (go_at_call 32; refine (at_no c 0 _ s.rs.length s.rs.length i _ c0 (by omega) hi).mono ?_; rintro e w' ⟨rfl, rfl⟩)
  go_ret
  exact ⟨rfl, rfl⟩
set_option maxRecDepth 100000 in
set_option maxHeartbeats 2000000 in
theorem Give_own (c gr gt i : Nat) (s : CardSt) (w : World) (h : CardAt w c gr gt s) (r2 : s.rs.length ≤ 64) (hi : i < s.rs.length) (hc : s.rs[i].card = true) :
    Calls Try.prog 12 #[.pointer (some ⟨c, 0, none⟩), .int .i64 (i : Int)] w fun e w' => e = .returned (.int .i64 41) ∧ w = w' := by
  have c0 := h.blk.cell 0
  simp only [CardSt.cells, List.getElem?_cons_zero] at c0
  have hsc := slot_card h.rx hi
  rw [hc] at hsc
  clear h hc
  go_enter Try.func12, Try.ntmps12
  go_wp2_with (go_at_call 32; refine (at_yes c 0 gr s.rs.length s.rs.length i _ c0 (by omega) hi).mono ?_; rintro e w' ⟨rfl, rfl⟩)
  go_ret
  exact ⟨rfl, rfl⟩
set_option maxRecDepth 100000 in
set_option maxHeartbeats 2000000 in
theorem Give_ok (c gr gt i : Nat) (s : CardSt) (w : World) (h : CardAt w c gr gt s) (r2 : s.rs.length ≤ 64) (hi : i < s.rs.length) (hc : s.rs[i].card = false) :
    Calls Try.prog 12 #[.pointer (some ⟨c, 0, none⟩), .int .i64 (i : Int)] w fun e w' => e = .returned (.int .i64 0) ∧ CardAt w' c gr gt { s with rs := s.rs.set i ⟨true, []⟩ } ∧ Fr (Foot c gr gt) w w' := by
  have c0 := h.blk.cell 0
  simp only [CardSt.cells, List.getElem?_cons_zero] at c0
  have hsc := slot_card h.rx hi
  rw [hc] at hsc
  have H := Lib.hid h
  clear h hc
  go_enter Try.func12, Try.ntmps12
  go_wp2_with (go_at_call 32; refine (at_yes c 0 gr s.rs.length s.rs.length i _ c0 (by omega) hi).mono ?_; rintro e w' ⟨rfl, rfl⟩)
  refine (put_slot gr i s.rs none [] 0 0 true _ H.out.rx hi (by omega) (by simp) rfl (RA.nil _ _)).mono ?_
  rintro e w2 ⟨rfl, hS2, hf2⟩
  have h2 := H.out.rx_to hS2 (by simp) hf2
  have F2 := foot_r (c := c) (gt := gt) hf2
  clear hS2 hf2
  go_wp2
  go_ret
  exact ⟨rfl, h2, F2⟩
theorem Give_any (c gr gt : Nat) (s : CardSt) (B : Nat) (i : Int) (w : World) (h : CardAt w c gr gt s) (hs : s.ok B) :
    Calls Try.prog 12 #[.pointer (some ⟨c, 0, none⟩), .int .i64 i] w fun e w' => e = .returned (.int .i64 (giveE s i)) ∧ CardAt w' c gr gt (give s i) ∧ Fr (Foot c gr gt) w w' := by
  by_cases hi : inRing s.rs i
  · obtain ⟨h0, h1⟩ := hi
    obtain ⟨i, rfl⟩ := Int.eq_ofNat_of_zero_le h0
    have hi' : i < s.rs.length := by omega
    have hr : inRing s.rs i := ⟨h0, h1⟩
    have hE : giveE s i = if s.rs[i].card then 41 else 0 := by
      simp only [giveE, if_pos hr, Int.toNat_natCast, getD_of hi']
    by_cases hc : s.rs[i].card = true
    · rw [if_pos hc] at hE
      refine (Give_own c gr gt i s w h hs.r2 hi' hc).mono ?_
      rintro e w' ⟨rfl, rfl⟩
      simp only [give, hE]
      exact ⟨by trivial, h, Fr.refl _ _⟩
    · rw [if_neg hc] at hE
      refine (Give_ok c gr gt i s w h hs.r2 hi' (by simpa using hc)).mono ?_
      rintro e w' ⟨rfl, h1, h2⟩
      simp only [give, hE, Int.toNat_natCast]
      exact ⟨by trivial, h1, h2⟩
  · have hE : giveE s i = 40 := by simp only [giveE, if_neg hi]
    have hi' : i < 0 ∨ (s.rs.length : Int) ≤ i := by unfold inRing at hi; omega
    refine (Give_no c gr gt s i w h hs.r2 hi').mono ?_
    rintro e w' ⟨rfl, rfl⟩
    simp only [give, hE]
    exact ⟨by trivial, h, Fr.refl _ _⟩

set_option maxRecDepth 100000 in
set_option maxHeartbeats 2000000 in
theorem Lay_no (c gr gt : Nat) (s : CardSt) (i : Int) (v : Value) (w : World) (h : CardAt w c gr gt s) (r2 : s.ts.length ≤ 64) (hi : i < 0 ∨ (s.ts.length : Int) ≤ i) :
    Calls Try.prog 13 #[.pointer (some ⟨c, 0, none⟩), .int .i64 i, v] w fun e w' => e = .returned (.int .i64 40) ∧ w = w' := by
  have c2 := h.blk.cell 2
  simp only [CardSt.cells, List.getElem?_cons_zero, List.getElem?_cons_succ] at c2
  clear h
  go_enter Try.func13, Try.ntmps13
  go_wp2_with (go_at_call 32; refine (at_no c 2 _ s.ts.length s.ts.length i _ c2 (by omega) hi).mono ?_; rintro e w' ⟨rfl, rfl⟩)
  go_ret
  exact ⟨rfl, rfl⟩
set_option maxRecDepth 100000 in
set_option maxHeartbeats 2000000 in
theorem Lay_short (c gr gt i : Nat) (s : CardSt) (A : Option Addr) (n k : Nat) (w : World) (h : CardAt w c gr gt s) (r2 : s.ts.length ≤ 64) (hi : i < s.ts.length) (hn : n < 60) :
    Calls Try.prog 13 #[.pointer (some ⟨c, 0, none⟩), .int .i64 (i : Int), .slice A n k] w fun e w' => e = .returned (.int .i64 5) ∧ w = w' := by
  have c2 := h.blk.cell 2
  simp only [CardSt.cells, List.getElem?_cons_zero, List.getElem?_cons_succ] at c2
  clear h
  go_enter Try.func13, Try.ntmps13
  go_wp2_with (go_at_call 32; refine (at_yes c 2 gt s.ts.length s.ts.length i _ c2 (by omega) hi).mono ?_; rintro e w' ⟨rfl, rfl⟩)
  go_ret
  exact ⟨rfl, rfl⟩
set_option maxRecDepth 100000 in
set_option maxHeartbeats 2000000 in
theorem Lay_long (c gr gt i : Nat) (s : CardSt) (A : Option Addr) (n k : Nat) (w : World) (h : CardAt w c gr gt s) (r2 : s.ts.length ≤ 64) (hi : i < s.ts.length) (hn : 1514 < n) (hn2 : n ≤ 140737488351232) :
    Calls Try.prog 13 #[.pointer (some ⟨c, 0, none⟩), .int .i64 (i : Int), .slice A n k] w fun e w' => e = .returned (.int .i64 2) ∧ w = w' := by
  have c2 := h.blk.cell 2
  simp only [CardSt.cells, List.getElem?_cons_zero, List.getElem?_cons_succ] at c2
  clear h
  go_enter Try.func13, Try.ntmps13
  go_wp2_with (go_at_call 32; refine (at_yes c 2 gt s.ts.length s.ts.length i _ c2 (by omega) hi).mono ?_; rintro e w' ⟨rfl, rfl⟩)
  go_ret
  exact ⟨rfl, rfl⟩
set_option maxRecDepth 100000 in
set_option maxHeartbeats 2000000 in
theorem Lay_own (c gr gt i : Nat) (s : CardSt) (A : Option Addr) (n k : Nat) (w : World) (h : CardAt w c gr gt s) (r2 : s.ts.length ≤ 64) (hi : i < s.ts.length) (hn : 60 ≤ n) (hn2 : n ≤ 1514) (hc : s.ts[i].card = true) :
    Calls Try.prog 13 #[.pointer (some ⟨c, 0, none⟩), .int .i64 (i : Int), .slice A n k] w fun e w' => e = .returned (.int .i64 41) ∧ w = w' := by
  have c2 := h.blk.cell 2
  simp only [CardSt.cells, List.getElem?_cons_zero, List.getElem?_cons_succ] at c2
  have hsc := slot_card h.tx hi
  rw [hc] at hsc
  clear h hc
  go_enter Try.func13, Try.ntmps13
  go_wp2_with (go_at_call 32; refine (at_yes c 2 gt s.ts.length s.ts.length i _ c2 (by omega) hi).mono ?_; rintro e w' ⟨rfl, rfl⟩)
  go_ret
  exact ⟨rfl, rfl⟩
set_option maxRecDepth 100000 in
set_option maxHeartbeats 2000000 in
theorem Lay_ok (c gr gt i : Nat) (s : CardSt) (A : Option Addr) (b : List UInt8) (n k : Nat) (w : World) (h : CardAt w c gr gt s) (r2 : s.ts.length ≤ 64) (hi : i < s.ts.length) (hA : RA w A b) (hb : n = b.length) (hn : 60 ≤ n) (hn2 : n ≤ 1514) (hc : s.ts[i].card = false) :
    Calls Try.prog 13 #[.pointer (some ⟨c, 0, none⟩), .int .i64 (i : Int), .slice A n k] w fun e w' => e = .returned (.int .i64 0) ∧ CardAt w' c gr gt { s with ts := s.ts.set i ⟨true, b⟩ } ∧ Fr (Foot c gr gt) w w' := by
  subst hb
  have c2 := h.blk.cell 2
  simp only [CardSt.cells, List.getElem?_cons_zero, List.getElem?_cons_succ] at c2
  have hsc := slot_card h.tx hi
  rw [hc] at hsc
  have H := Lib.hid h
  have HA := Lib.hid hA
  clear h hc hA
  go_enter Try.func13, Try.ntmps13
  go_wp2_with (go_at_call 32; refine (at_yes c 2 gt s.ts.length s.ts.length i _ c2 (by omega) hi).mono ?_; rintro e w' ⟨rfl, rfl⟩)
  refine (put_slot gt i s.ts A b b.length k true _ H.out.tx hi (by omega) hn2 rfl HA.out).mono ?_
  rintro e w2 ⟨rfl, hS2, hf2⟩
  have h2 := H.out.tx_to hS2 (by simp) hf2
  have F2 := foot_t (c := c) (gr := gr) hf2
  clear hS2 hf2
  go_wp2
  go_ret
  exact ⟨rfl, h2, F2⟩
theorem Lay_any (c gr gt : Nat) (s : CardSt) (B : Nat) (i : Int) (A : Option Addr) (b : List UInt8) (n k : Nat) (w : World) (h : CardAt w c gr gt s) (hs : s.ok B) (hA : RA w A b) (hb : n = b.length) (hn2 : n ≤ 140737488351232) :
    Calls Try.prog 13 #[.pointer (some ⟨c, 0, none⟩), .int .i64 i, .slice A n k] w fun e w' => e = .returned (.int .i64 (layE s i b)) ∧ CardAt w' c gr gt (lay s i b) ∧ Fr (Foot c gr gt) w w' := by
  by_cases hi : inRing s.ts i
  · obtain ⟨h0, h1⟩ := hi
    obtain ⟨i, rfl⟩ := Int.eq_ofNat_of_zero_le h0
    have hi' : i < s.ts.length := by omega
    have hr : inRing s.ts i := ⟨h0, h1⟩
    have hE : layE s i b = if b.length < 60 then 5 else if 1514 < b.length then 2 else if s.ts[i].card then 41 else 0 := by
      simp only [layE, if_pos hr, Int.toNat_natCast, getD_of hi']
    by_cases n1 : b.length < 60
    · rw [if_pos n1] at hE
      refine (Lay_short c gr gt i s A n k w h hs.t2 hi' (by omega)).mono ?_
      rintro e w' ⟨rfl, rfl⟩
      simp only [lay, hE]
      exact ⟨by trivial, h, Fr.refl _ _⟩
    rw [if_neg n1] at hE
    by_cases n2 : 1514 < b.length
    · rw [if_pos n2] at hE
      refine (Lay_long c gr gt i s A n k w h hs.t2 hi' (by omega) hn2).mono ?_
      rintro e w' ⟨rfl, rfl⟩
      simp only [lay, hE]
      exact ⟨by trivial, h, Fr.refl _ _⟩
    rw [if_neg n2] at hE
    by_cases hc : s.ts[i].card = true
    · rw [if_pos hc] at hE
      refine (Lay_own c gr gt i s A n k w h hs.t2 hi' (by omega) (by omega) hc).mono ?_
      rintro e w' ⟨rfl, rfl⟩
      simp only [lay, hE]
      exact ⟨by trivial, h, Fr.refl _ _⟩
    · rw [if_neg hc] at hE
      refine (Lay_ok c gr gt i s A b n k w h hs.t2 hi' hA hb (by omega) (by omega) (by simpa using hc)).mono ?_
      rintro e w' ⟨rfl, h1, h2⟩
      simp only [lay, hE, Int.toNat_natCast]
      exact ⟨by trivial, h1, h2⟩
  · have hE : layE s i b = 40 := by simp only [layE, if_neg hi]
    have hi' : i < 0 ∨ (s.ts.length : Int) ≤ i := by unfold inRing at hi; omega
    refine (Lay_no c gr gt s i _ w h hs.t2 hi').mono ?_
    rintro e w' ⟨rfl, rfl⟩
    simp only [lay, hE]
    exact ⟨by trivial, h, Fr.refl _ _⟩

set_option maxHeartbeats 1000000 in
theorem Rings_any (c gr gt : Nat) (s : CardSt) (w : World) (h : CardAt w c gr gt s) :
    Calls Try.prog 31 #[.pointer (some ⟨c, 0, none⟩)] w fun e w' => e = .returned (.tuple #[.int .i64 (s.rs.length : Int), .int .i64 (s.ts.length : Int)]) ∧ ∃ q, w' = w.drewN q := by
  have c0 := h.blk.cell 0
  have c2 := h.blk.cell 2
  simp only [CardSt.cells, List.getElem?_cons_zero, List.getElem?_cons_succ] at c0 c2
  clear h
  go_enter Try.func31, Try.ntmps31
  go_wp2_with fail
  go_quiet (fail)
  go_wp2
  go_ret2
  exact ⟨rfl, _, rfl⟩

set_option maxHeartbeats 1000000 in
theorem Counts_any (c gr gt : Nat) (s : CardSt) (w : World) (h : CardAt w c gr gt s) :
    Calls Try.prog 15 #[.pointer (some ⟨c, 0, none⟩)] w fun e w' => e = .returned (.agg #[.int .i64 (s.ins : Int), .int .i64 (s.drops : Int), .int .i64 (s.outs : Int)]) ∧ Below w.heap.size w w' := by
  have h0 := h.below ((Below.refl _ w).alloc (Nat.le_refl _) (.cells #[.int .i64 0, .int .i64 0, .int .i64 0] 41))
  have c4 := h0.blk.cell 4
  have c5 := h0.blk.cell 5
  have c6 := h0.blk.cell 6
  have k1 := h.blk.lt
  simp only [CardSt.cells, List.getElem?_cons_zero, List.getElem?_cons_succ] at c4 c5 c6
  clear h h0
  go_enter Try.func15, Try.ntmps15
  go_wp2
  refine bodyPost_ret (v := .agg #[.int .i64 (s.ins : Int), .int .i64 (s.drops : Int), .int .i64 (s.outs : Int)]) (by simp [results, Try.results15, go_sem]) rfl ⟨rfl, ?_⟩
  exact (Below.refl _ w).alloc (Nat.le_refl _) _
end Go.Proofs.Ytcdlpmnlblpinaa
