/- card.Card: the calls. -/
import Derived.Test.YtcdlpmnlblpinaaCardAt
set_option linter.unusedVariables false
set_option linter.unusedSimpArgs false
namespace Go.Proofs.Ytcdlpmnlblpinaa
open Go.RowKit

set_option maxRecDepth 100000 in
set_option maxHeartbeats 2000000 in
theorem Arrive_full (c gr gt : Nat) (s : CardSt) (B : Nat) (A : Option Addr) (n k : Nat) (w : World) (h : CardAt w c gr gt s) (hs : s.ok B) (hB : B < 4611686018427387904) (hn : 1 ≤ n) (hn2 : n ≤ 1514) (hc : (s.rs.getD s.rn blank).card = false) :
    Calls Try.prog 10 #[.pointer (some ⟨c, 0, none⟩), .slice A n k] w fun e w' => e = .returned (.bool false) ∧ CardAt w' c gr gt { s with drops := s.drops + 1 } ∧ Fr (Foot c gr gt) w w' := by
  have hsc := slot_card h.rx hs.r3
  rw [getD_of hs.r3] at hc
  rw [hc] at hsc
  obtain ⟨r1, r2, r3, t1, t2, t3, b1, b2, b3⟩ := hs
  have n1 : ((n : Int) == 0) = false := by simp; omega
  have H := Lib.hid h
  have c0 := (h).blk.cell 0
  have c1 := (h).blk.cell 1
  have c2 := (h).blk.cell 2
  have c3 := (h).blk.cell 3
  have c4 := (h).blk.cell 4
  have c5 := (h).blk.cell 5
  have c6 := (h).blk.cell 6
  have f1 := (h).blk.frozen 1
  have f3 := (h).blk.frozen 3
  have f4 := (h).blk.frozen 4
  have f5 := (h).blk.frozen 5
  have f6 := (h).blk.frozen 6
  simp only [CardSt.cells, List.getElem?_cons_zero, List.getElem?_cons_succ] at c0 c1 c2 c3 c4 c5 c6
  clear h hc
  go_enter Try.func10, Try.ntmps10
  go_wp2_with fail
  go_quiet ((go_at_call 32; exact Calls.quiet_of_same ((at_yes c 0 gr s.rs.length s.rs.length s.rn _ (by exact c0) (by omega) r3).mono fun _ _ h => ⟨h.1, h.2.symm⟩)))
  go_wp2
  go_ret
  refine ⟨rfl, (H.out.drewN nq).set_ (s' := { s with drops := s.drops + 1 }) 5 _ rfl rfl (by simp [CardSt.cells]), ?_⟩
  exact ((Fr.refl _ w).drewN nq).set_ (p := ⟨c, 5, none⟩) (.inl (.inl rfl)) _

set_option maxRecDepth 100000 in
set_option maxHeartbeats 2000000 in
theorem Arrive_ok (c gr gt : Nat) (s : CardSt) (B : Nat) (A : Option Addr) (b : List UInt8) (n k : Nat) (w : World) (h : CardAt w c gr gt s) (hs : s.ok B) (hB : B < 4611686018427387904) (hA : RA w A b) (hb : n = b.length) (hn : 1 ≤ n) (hn2 : n ≤ 1514) (hc : (s.rs.getD s.rn blank).card = true) :
    Calls Try.prog 10 #[.pointer (some ⟨c, 0, none⟩), .slice A n k] w fun e w' => e = .returned (.bool true) ∧ CardAt w' c gr gt { s with rs := s.rs.set s.rn ⟨false, b⟩, rn := (s.rn + 1) % s.rs.length, ins := s.ins + 1 } ∧ Fr (Foot c gr gt) w w' := by
  subst hb
  have hsc := slot_card h.rx hs.r3
  rw [getD_of hs.r3] at hc
  rw [hc] at hsc
  have hs' := hs
  obtain ⟨r1, r2, r3, t1, t2, t3, b1, b2, b3⟩ := hs
  have n1 : ((b.length : Int) == 0) = false := beq_eq_false_iff_ne.2 (by omega)
  have H := Lib.hid h
  have HA := Lib.hid hA
  have c0 := (h).blk.cell 0
  have c1 := (h).blk.cell 1
  have c2 := (h).blk.cell 2
  have c3 := (h).blk.cell 3
  have c4 := (h).blk.cell 4
  have c5 := (h).blk.cell 5
  have c6 := (h).blk.cell 6
  have f1 := (h).blk.frozen 1
  have f3 := (h).blk.frozen 3
  have f4 := (h).blk.frozen 4
  have f5 := (h).blk.frozen 5
  have f6 := (h).blk.frozen 6
  simp only [CardSt.cells, List.getElem?_cons_zero, List.getElem?_cons_succ] at c0 c1 c2 c3 c4 c5 c6
  clear h hc hA
  go_enter Try.func10, Try.ntmps10
  go_wp2_with fail
  go_quiet ((go_at_call 32; exact Calls.quiet_of_same ((at_yes c 0 gr s.rs.length s.rs.length s.rn _ (by exact c0) (by omega) r3).mono fun _ _ h => ⟨h.1, h.2.symm⟩)))
  go_wp2_with fail
  clear c0 c1 c2 c3 c4 c5 c6 f1 f3 f4 f5 f6
  clear hsc
  refine (put_slot gr s.rn s.rs A b b.length k false _ (H.out.drewN nq).rx r3 (by omega) hn2 rfl (HA.out.drewN nq)).mono ?_
  rintro e w1 ⟨rfl, hS1, hf1⟩
  have h1 := (H.out.drewN nq).rx_to hS1 (by simp) hf1
  have F1 := (foot_r (c := c) (gt := gt) hf1)
  have s1 : ({ s with rs := s.rs.set s.rn ⟨false, b⟩ } : CardSt).ok B := ⟨by simpa using r1, by simpa using r2, by simpa using r3, t1, t2, t3, b1, b2, b3⟩
  clear hS1 hf1
  go_wp2_with fail
  refine (step_rx c gr gt _ B _ h1 s1).mono ?_
  rintro e w2 ⟨rfl, h2, F2⟩
  rw [show ({ s with rs := s.rs.set s.rn ⟨false, b⟩ } : CardSt).rs.length = s.rs.length from by simp] at h2
  have c0 := (h2).blk.cell 0
  have c1 := (h2).blk.cell 1
  have c2 := (h2).blk.cell 2
  have c3 := (h2).blk.cell 3
  have c4 := (h2).blk.cell 4
  have c5 := (h2).blk.cell 5
  have c6 := (h2).blk.cell 6
  have f1 := (h2).blk.frozen 1
  have f3 := (h2).blk.frozen 3
  have f4 := (h2).blk.frozen 4
  have f5 := (h2).blk.frozen 5
  have f6 := (h2).blk.frozen 6
  simp only [CardSt.cells, List.getElem?_cons_zero, List.getElem?_cons_succ] at c0 c1 c2 c3 c4 c5 c6
  go_wp2
  go_ret
  refine ⟨rfl, h2.set_ (s' := { s with rs := s.rs.set s.rn ⟨false, b⟩, rn := (s.rn + 1) % s.rs.length, ins := s.ins + 1 }) 4 _ rfl rfl (by simp [CardSt.cells]), ?_⟩
  exact (((((Fr.refl _ w).drewN nq).trans F1).trans F2).set_ (p := ⟨c, 4, none⟩) (.inl (.inl rfl)) _)

theorem Arrive_any (c gr gt : Nat) (s : CardSt) (B : Nat) (A : Option Addr) (b : List UInt8) (n k : Nat) (w : World) (h : CardAt w c gr gt s) (hs : s.ok B) (hB : B < 4611686018427387904) (hA : RA w A b) (hb : n = b.length) (hn : n ≤ 140737488351232) :
    Calls Try.prog 10 #[.pointer (some ⟨c, 0, none⟩), .slice A n k] w fun e w' => e = .returned (.bool (arrive s b).1) ∧ CardAt w' c gr gt (arrive s b).2 ∧ Fr (Foot c gr gt) w w' := by
  by_cases h1 : b.length = 0 ∨ 1514 < b.length
  · refine (Arrive_bad _ A n k w (by omega) hn).mono ?_
    rintro e w' ⟨rfl, rfl⟩
    simp only [arrive, if_pos h1]
    exact ⟨by trivial, h, Fr.refl _ _⟩
  by_cases hc : (s.rs.getD s.rn blank).card = true
  · simp only [arrive, if_neg h1, if_pos hc]
    exact Arrive_ok c gr gt s B A b n k w h hs hB hA hb (by omega) (by omega) hc
  · simp only [arrive, if_neg h1, if_neg hc]
    exact Arrive_full c gr gt s B A n k w h hs hB (by omega) (by omega) (by simpa using hc)

set_option maxRecDepth 100000 in
set_option maxHeartbeats 2000000 in
theorem Depart_no (c gr gt : Nat) (s : CardSt) (B : Nat) (w : World) (h : CardAt w c gr gt s) (hs : s.ok B) (hc : (s.ts.getD s.tn blank).card = false) :
    Calls Try.prog 14 #[.pointer (some ⟨c, 0, none⟩)] w fun e w' => e = .returned (.tuple #[.slice none 0 0, .bool false]) ∧ CardAt w' c gr gt s ∧ Fr (Foot c gr gt) w w' := by
  have hsc := slot_card h.tx hs.t3
  rw [getD_of hs.t3] at hc
  rw [hc] at hsc
  obtain ⟨r1, r2, r3, t1, t2, t3, b1, b2, b3⟩ := hs
  have H := Lib.hid h
  have c0 := (h).blk.cell 0
  have c1 := (h).blk.cell 1
  have c2 := (h).blk.cell 2
  have c3 := (h).blk.cell 3
  have c4 := (h).blk.cell 4
  have c5 := (h).blk.cell 5
  have c6 := (h).blk.cell 6
  have f1 := (h).blk.frozen 1
  have f3 := (h).blk.frozen 3
  have f4 := (h).blk.frozen 4
  have f5 := (h).blk.frozen 5
  have f6 := (h).blk.frozen 6
  simp only [CardSt.cells, List.getElem?_cons_zero, List.getElem?_cons_succ] at c0 c1 c2 c3 c4 c5 c6
  clear h hc
  go_enter Try.func14, Try.ntmps14
  go_wp2_with fail
  go_quiet ((go_at_call 32; exact Calls.quiet_of_same ((at_yes c 2 gt s.ts.length s.ts.length s.tn _ (by exact c2) (by omega) t3).mono fun _ _ h => ⟨h.1, h.2.symm⟩)))
  go_wp2
  go_ret2
  exact ⟨rfl, H.out.drewN nq, (Fr.refl _ w).drewN nq⟩

set_option maxRecDepth 100000 in
set_option maxHeartbeats 2000000 in
theorem Depart_yes (c gr gt : Nat) (s : CardSt) (B : Nat) (w : World) (h : CardAt w c gr gt s) (hs : s.ok B) (hB : B < 4611686018427387904) (hc : (s.ts.getD s.tn blank).card = true) :
    Calls Try.prog 14 #[.pointer (some ⟨c, 0, none⟩)] w fun e w' => ∃ v, e = .returned (.tuple #[v, .bool true]) ∧ Own w' w.heap.size v (s.ts.getD s.tn blank).data ∧ CardAt w' c gr gt { s with ts := s.ts.set s.tn ⟨false, []⟩, tn := (s.tn + 1) % s.ts.length, outs := s.outs + 1 } ∧ Fr (Foot c gr gt) w w' := by
  have hsc := slot_card h.tx hs.t3
  rw [getD_of hs.t3] at hc
  rw [hc] at hsc
  rw [getD_of hs.t3]
  obtain ⟨r1, r2, r3, t1, t2, t3, b1, b2, b3⟩ := hs
  have H := Lib.hid h
  have c0 := (h).blk.cell 0
  have c1 := (h).blk.cell 1
  have c2 := (h).blk.cell 2
  have c3 := (h).blk.cell 3
  have c4 := (h).blk.cell 4
  have c5 := (h).blk.cell 5
  have c6 := (h).blk.cell 6
  have f1 := (h).blk.frozen 1
  have f3 := (h).blk.frozen 3
  have f4 := (h).blk.frozen 4
  have f5 := (h).blk.frozen 5
  have f6 := (h).blk.frozen 6
  simp only [CardSt.cells, List.getElem?_cons_zero, List.getElem?_cons_succ] at c0 c1 c2 c3 c4 c5 c6
  have k1 := h.blk.lt
  have k2 := h.rx.lt
  have k3 := h.tx.lt
  clear h hc
  go_enter Try.func14, Try.ntmps14
  go_wp2_with fail
  go_quiet ((go_at_call 32; exact Calls.quiet_of_same ((at_yes c 2 gt s.ts.length s.ts.length s.tn _ (by exact c2) (by omega) t3).mono fun _ _ h => ⟨h.1, h.2.symm⟩)))
  go_wp2_with fail
  clear c0 c1 c2 c3 c4 c5 c6 f1 f3 f4 f5 f6
  clear hsc
  refine (data_slot gt s.tn s.ts _ (H.out.drewN nq).tx t3 (by omega)).mono ?_
  rintro e w1 ⟨v1, rfl, ho1, hb1⟩
  have h1 := Lib.hid ((H.out.drewN nq).below hb1)
  have F0 : Fr (Foot c gr gt) w w1 := (((Fr.refl _ w).drewN nq).trans (Fr.of_below hb1))
  have HO1 := Lib.hid ho1
  clear hb1 ho1
  go_wp2_with fail
  refine (put_slot gt s.tn s.ts none [] 0 0 false _ h1.out.tx t3 (by omega) (by simp) rfl (RA.nil _ _)).mono ?_
  rintro e w2 ⟨rfl, hS2, hf2⟩
  have h2 := h1.out.tx_to hS2 (by simp) hf2
  have ho2 := HO1.out.fr hf2 (fun g hg e => by
    have h5 := (owns_lt HO1.out hg).1
    have hz : (w.drewN nq).heap.size = w.heap.size := rfl
    omega)
  have F2 := F0.trans (foot_t (c := c) (gr := gr) hf2)
  have s2 : ({ s with ts := s.ts.set s.tn ⟨false, []⟩ } : CardSt).ok B := ⟨r1, r2, r3, by simpa using t1, by simpa using t2, by simpa using t3, b1, b2, b3⟩
  have HO2 := Lib.hid ho2
  clear hS2 hf2 ho2 HO1 h1
  go_wp2_with fail
  refine (step_tx c gr gt _ B _ h2 s2).mono ?_
  rintro e w3 ⟨rfl, h3, F3⟩
  rw [show ({ s with ts := s.ts.set s.tn ⟨false, []⟩ } : CardSt).ts.length = s.ts.length from by simp] at h3
  have ho3 := HO2.out.fr F3 (fun g hg e => by
    have h5 := (owns_lt HO2.out hg).1
    have hz : (w.drewN nq).heap.size = w.heap.size := rfl
    rcases e with e | e | e <;> omega)
  have HO3 := Lib.hid ho3
  clear ho3 HO2 h2
  have c0 := (h3).blk.cell 0
  have c1 := (h3).blk.cell 1
  have c2 := (h3).blk.cell 2
  have c3 := (h3).blk.cell 3
  have c4 := (h3).blk.cell 4
  have c5 := (h3).blk.cell 5
  have c6 := (h3).blk.cell 6
  have f1 := (h3).blk.frozen 1
  have f3 := (h3).blk.frozen 3
  have f4 := (h3).blk.frozen 4
  have f5 := (h3).blk.frozen 5
  have f6 := (h3).blk.frozen 6
  simp only [CardSt.cells, List.getElem?_cons_zero, List.getElem?_cons_succ] at c0 c1 c2 c3 c4 c5 c6
  go_wp2
  go_ret2
  refine ⟨v1, rfl, HO3.out.fr ((Fr.refl (· = c) _).set_ (p := ⟨c, 6, none⟩) (.inl rfl) _) (fun g hg e => by have h5 := (owns_lt HO3.out hg).1; have hz : (w.drewN nq).heap.size = w.heap.size := rfl; omega), h3.set_ (s' := { s with ts := s.ts.set s.tn ⟨false, []⟩, tn := (s.tn + 1) % s.ts.length, outs := s.outs + 1 }) 6 _ rfl rfl (by simp [CardSt.cells]), ?_⟩
  exact (F2.trans F3).set_ (p := ⟨c, 6, none⟩) (.inl (.inl rfl)) _

theorem Depart_any (c gr gt : Nat) (s : CardSt) (B : Nat) (w : World) (h : CardAt w c gr gt s) (hs : s.ok B) (hB : B < 4611686018427387904) :
    Calls Try.prog 14 #[.pointer (some ⟨c, 0, none⟩)] w fun e w' => ∃ v, e = .returned (.tuple #[v, .bool (depart s).1]) ∧ Own w' w.heap.size v (depart s).2.1 ∧ CardAt w' c gr gt (depart s).2.2 ∧ Fr (Foot c gr gt) w w' := by
  by_cases hc : (s.ts.getD s.tn blank).card = true
  · simp only [depart, if_pos hc]
    exact Depart_yes c gr gt s B w h hs hB hc
  · simp only [depart, if_neg hc]
    refine (Depart_no c gr gt s B w h hs (by simpa using hc)).mono ?_
    rintro e w' ⟨rfl, h1, h2⟩
    exact ⟨_, rfl, Own.nil _ _, h1, h2⟩
end Go.Proofs.Ytcdlpmnlblpinaa
