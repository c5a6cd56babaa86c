/- card.Card in memory, what its calls compute, and the calls. -/
import Derived.Test.YtcdlpmnlblpinaaCardOps
import Derived.BigQuiet
import Derived.StillTailTactics
set_option linter.unusedVariables false
set_option linter.unusedSimpArgs false
namespace Go.Proofs.Ytcdlpmnlblpinaa
open Go.RowKit

structure CardSt where
  rs : List Slot
  rn : Nat
  ts : List Slot
  tn : Nat
  ins : Nat
  drops : Nat
  outs : Nat
def CardSt.cells (s : CardSt) (gr gt : Nat) : List Value :=
  [.slice (some ⟨gr, 0, none⟩) s.rs.length s.rs.length, .int .i64 (s.rn : Int), .slice (some ⟨gt, 0, none⟩) s.ts.length s.ts.length, .int .i64 (s.tn : Int), .int .i64 (s.ins : Int), .int .i64 (s.drops : Int), .int .i64 (s.outs : Int)]
structure CardSt.ok (s : CardSt) (B : Nat) : Prop where
  r1 : 1 ≤ s.rs.length
  r2 : s.rs.length ≤ 64
  r3 : s.rn < s.rs.length
  t1 : 1 ≤ s.ts.length
  t2 : s.ts.length ≤ 64
  t3 : s.tn < s.ts.length
  c1 : s.ins ≤ B
  c2 : s.drops ≤ B
  c3 : s.outs ≤ B
structure CardAt (w : World) (c gr gt : Nat) (s : CardSt) : Prop where
  blk : Blk w c 88 (s.cells gr gt)
  rx : SlotsAt w gr s.rs
  tx : SlotsAt w gt s.ts
  ne : gr ≠ gt
def Foot (c gr gt : Nat) (b : Nat) : Prop := b = c ∨ b = gr ∨ b = gt
section
variable {w w' : World} {c gr gt : Nat} {s : CardSt}
theorem CardAt.fr {F : Nat → Prop} (h : CardAt w c gr gt s) (f : Fr F w w') (h1 : ¬ F c) (h2 : ¬ F gr) (h3 : ¬ F gt) : CardAt w' c gr gt s := ⟨h.blk.fr f h1, h.rx.fr f h2, h.tx.fr f h3, h.ne⟩
theorem CardAt.below (h : CardAt w c gr gt s) (hb : Below w.heap.size w w') : CardAt w' c gr gt s := h.fr (F := fun _ => False) (Fr.of_below hb) (fun h => h) (fun h => h) (fun h => h)
theorem CardAt.drew (h : CardAt w c gr gt s) : CardAt w.drew c gr gt s := ⟨h.blk, h.rx, h.tx, h.ne⟩
theorem CardAt.drewN (h : CardAt w c gr gt s) (n : Nat) : CardAt (w.drewN n) c gr gt s := ⟨h.blk, h.rx, h.tx, h.ne⟩
theorem CardAt.cr (h : CardAt w c gr gt s) : c ≠ gr := fun e => by
  have := h.rx.ty
  rw [← e, h.blk.ty] at this
  injection this with this
  revert this; decide
theorem CardAt.ct (h : CardAt w c gr gt s) : c ≠ gt := fun e => by
  have := h.tx.ty
  rw [← e, h.blk.ty] at this
  injection this with this
  revert this; decide
theorem CardAt.rx_to {s' : List Slot} (h : CardAt w c gr gt s) (hS : SlotsAt w' gr s') (hl : s'.length = s.rs.length) (f : Fr (· = gr) w w') : CardAt w' c gr gt { s with rs := s' } :=
  ⟨by have := h.blk.fr f h.cr; unfold CardSt.cells at this ⊢; rw [show ({ s with rs := s' } : CardSt).rs.length = s.rs.length from hl]; exact this, hS, h.tx.fr f (Ne.symm h.ne), h.ne⟩
theorem CardAt.tx_to {s' : List Slot} (h : CardAt w c gr gt s) (hS : SlotsAt w' gt s') (hl : s'.length = s.ts.length) (f : Fr (· = gt) w w') : CardAt w' c gr gt { s with ts := s' } :=
  ⟨by have := h.blk.fr f h.ct; unfold CardSt.cells at this ⊢; rw [show ({ s with ts := s' } : CardSt).ts.length = s.ts.length from hl]; exact this, h.rx.fr f h.ne, hS, h.ne⟩
theorem CardAt.set_ (h : CardAt w c gr gt s) {s' : CardSt} (i : Nat) (u : Value) (h1 : s'.rs = s.rs) (h2 : s'.ts = s.ts) (hc : (s.cells gr gt).set i u = s'.cells gr gt) : CardAt (w.setCell ⟨c, i, none⟩ u) c gr gt s' :=
  ⟨by rw [← hc]; exact h.blk.set_ i u, by rw [h1]; exact h.rx.fr ((Fr.refl (· = c) _).set_ (p := ⟨c, i, none⟩) (.inl rfl) u) (Ne.symm h.cr), by rw [h2]; exact h.tx.fr ((Fr.refl (· = c) _).set_ (p := ⟨c, i, none⟩) (.inl rfl) u) (Ne.symm h.ct), h.ne⟩
end
theorem foot_r {c gr gt : Nat} {w w' : World} (f : Fr (· = gr) w w') : Fr (Foot c gr gt) w w' := f.mono fun _ _ h => .inr (.inl h)
theorem foot_t {c gr gt : Nat} {w w' : World} (f : Fr (· = gt) w w') : Fr (Foot c gr gt) w w' := f.mono fun _ _ h => .inr (.inr h)

set_option maxHeartbeats 1000000 in
theorem step_rx (c gr gt : Nat) (s : CardSt) (B : Nat) (w : World) (h : CardAt w c gr gt s) (hs : s.ok B) :
    Calls Try.prog 34 #[.pointer (some ⟨c, 0, none⟩)] w fun e w' => e = .returned (.tuple #[]) ∧ CardAt w' c gr gt { s with rn := (s.rn + 1) % s.rs.length } ∧ Fr (Foot c gr gt) w w' := by
  have c0 := h.blk.cell 0
  have c1 := h.blk.cell 1
  have f1 := h.blk.frozen 1
  simp only [CardSt.cells, List.getElem?_cons_zero, List.getElem?_cons_succ] at c0 c1
  obtain ⟨r1, r2, r3, _⟩ := hs
  have n0 : ¬ ((s.rs.length : Int) = 0) := by omega
  have H := Lib.hid h
  clear h
  go_enter Try.func34, Try.ntmps34
  go_region
  all_goals
    go_end0
    refine ⟨rfl, CardAt.drew (H.out.set_ (s' := { s with rn := (s.rn + 1) % s.rs.length }) 1 _ rfl rfl (by simp [CardSt.cells])), ?_⟩
    exact ((Fr.refl _ w).set_ (p := ⟨c, 1, none⟩) (.inl (.inl rfl)) _).drew

set_option maxHeartbeats 1000000 in
theorem step_tx (c gr gt : Nat) (s : CardSt) (B : Nat) (w : World) (h : CardAt w c gr gt s) (hs : s.ok B) :
    Calls Try.prog 34 #[.pointer (some ⟨c, 2, none⟩)] w fun e w' => e = .returned (.tuple #[]) ∧ CardAt w' c gr gt { s with tn := (s.tn + 1) % s.ts.length } ∧ Fr (Foot c gr gt) w w' := by
  have c0 := h.blk.cell 2
  have c1 := h.blk.cell 3
  have f1 := h.blk.frozen 3
  simp only [CardSt.cells, List.getElem?_cons_zero, List.getElem?_cons_succ] at c0 c1
  obtain ⟨_, _, _, r1, r2, r3, _⟩ := hs
  have n0 : ¬ ((s.ts.length : Int) = 0) := by omega
  have H := Lib.hid h
  clear h
  go_enter Try.func34, Try.ntmps34
  go_region
  all_goals
    go_end0
    refine ⟨rfl, CardAt.drew (H.out.set_ (s' := { s with tn := (s.tn + 1) % s.ts.length }) 3 _ rfl rfl (by simp [CardSt.cells])), ?_⟩
    exact ((Fr.refl _ w).set_ (p := ⟨c, 3, none⟩) (.inl (.inl rfl)) _).drew

/-! ### what the calls compute -/
def blank : Slot := ⟨false, []⟩
def arrive (s : CardSt) (b : List UInt8) : Bool × CardSt :=
  if b.length = 0 ∨ 1514 < b.length then (false, s)
  else if (s.rs.getD s.rn blank).card then (true, { s with rs := s.rs.set s.rn ⟨false, b⟩, rn := (s.rn + 1) % s.rs.length, ins := s.ins + 1 })
  else (false, { s with drops := s.drops + 1 })
def depart (s : CardSt) : Bool × List UInt8 × CardSt :=
  if (s.ts.getD s.tn blank).card then (true, (s.ts.getD s.tn blank).data, { s with ts := s.ts.set s.tn ⟨false, []⟩, tn := (s.tn + 1) % s.ts.length, outs := s.outs + 1 })
  else (false, [], s)
def inRing (S : List Slot) (i : Int) : Prop := 0 ≤ i ∧ i < (S.length : Int)
instance (S : List Slot) (i : Int) : Decidable (inRing S i) := inferInstanceAs (Decidable (_ ∧ _))
def shown (S : List Slot) (i : Int) : Slot := if inRing S i then S.getD i.toNat blank else blank
def shownE (S : List Slot) (i : Int) : Nat := if inRing S i then 0 else 40
def giveE (s : CardSt) (i : Int) : Nat := if inRing s.rs i then if (s.rs.getD i.toNat blank).card then 41 else 0 else 40
def give (s : CardSt) (i : Int) : CardSt := if giveE s i = 0 then { s with rs := s.rs.set i.toNat ⟨true, []⟩ } else s
def layE (s : CardSt) (i : Int) (b : List UInt8) : Nat := if inRing s.ts i then if b.length < 60 then 5 else if 1514 < b.length then 2 else if (s.ts.getD i.toNat blank).card then 41 else 0 else 40
def lay (s : CardSt) (i : Int) (b : List UInt8) : CardSt := if layE s i b = 0 then { s with ts := s.ts.set i.toNat ⟨true, b⟩ } else s

theorem slot_card {w : World} {g : Nat} {S : List Slot} (h : SlotsAt w g S) {i : Nat} (hi : i < S.length) : w.cell? ⟨g, i * 1516, none⟩ = some (.bool S[i].card) := by
  obtain ⟨cs, hb, _, h2⟩ := h
  exact (hb.cell _).trans (h2 i hi).1.card
theorem getD_of {S : List Slot} {i : Nat} (hi : i < S.length) : S.getD i blank = S[i] := by simp [List.getD, List.getElem?_eq_getElem hi]

set_option maxHeartbeats 2000000 in
theorem Arrive_bad (p : Value) (A : Option Addr) (n k : Nat) (w : World) (hn : n = 0 ∨ 1514 < n) (hn2 : n ≤ 140737488351232) :
    Calls Try.prog 10 #[p, .slice A n k] w fun e w' => e = .returned (.bool false) ∧ w = w' := by
  rcases hn with h | h
  · have h1 : ((n : Int) == 0) = true := by simp; omega
    subst h
    go_enter Try.func10, Try.ntmps10
    go_wp2
    go_ret
    exact ⟨rfl, rfl⟩
  · have h1 : ((n : Int) == 0) = false := by simp; omega
    have h2 : (1514 : Int) < n := by omega
    go_enter Try.func10, Try.ntmps10
    go_wp2
    go_ret
    exact ⟨rfl, rfl⟩
end Go.Proofs.Ytcdlpmnlblpinaa
