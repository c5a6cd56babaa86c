/- How memory stands in the card's statements. -/
import Derived.Test.YtcdlpmnlblpinaaCardNew
set_option linter.unusedVariables false
set_option linter.unusedSimpArgs false
namespace Go.Proofs.Ytcdlpmnlblpinaa
open Go.RowKit

theorem CardAt.not_foot {w : World} {c gr gt : Nat} {s : CardSt} (h : CardAt w c gr gt s) {base : Nat} {e : TypeId} {size n : Nat} {v : Value} {xs : List Value} (ho : w.ownsRow base e size v n xs) (h1 : e ≠ 88) (h2 : e ≠ 91) : ∀ g, v.ownBlock = some g → ¬ Foot c gr gt g := by
  intro g hg he
  have ht := owns_ty ho hg
  rcases he with rfl | rfl | rfl
  · rw [h.blk.ty] at ht; injection ht with ht; exact h1 ht.symm
  · rw [h.rx.ty] at ht; injection ht with ht; exact h2 ht.symm
  · rw [h.tx.ty] at ht; injection ht with ht; exact h2 ht.symm
/-- a card, rows that came out, all made since w -/
structure CL (w W : World) (c gr gt : Nat) (s : CardSt) (L : List (Value × List UInt8)) : Prop where
  card : CardAt W c gr gt s
  old : Below w.heap.size w W
  pool : Pool W w.heap.size L
  far : w.heap.size ≤ c ∧ w.heap.size ≤ gr ∧ w.heap.size ≤ gt
section
variable {w W W' : World} {c gr gt : Nat} {s s' : CardSt} {L : List (Value × List UInt8)}
theorem CL.below (h : CL w W c gr gt s L) (hb : Below W.heap.size W W') : CL w W' c gr gt s L := ⟨h.card.below hb, below_then' h.old h.old.size hb, h.pool.below hb, h.far⟩
theorem CL.add (h : CL w W c gr gt s L) (hb : Below W.heap.size W W') {v : Value} {l : List UInt8} (hv : Own W' W.heap.size v l) : CL w W' c gr gt s (L ++ [(v, l)]) :=
  ⟨h.card.below hb, below_then' h.old h.old.size hb, h.pool.add h.old.size hb hv, h.far⟩
theorem CL.alloc (h : CL w W c gr gt s L) (o : Obj) : CL w (W.alloc o) c gr gt s L := h.below ((Below.refl _ W).alloc (Nat.le_refl _) o)
theorem CL.drewN (h : CL w W c gr gt s L) (n : Nat) : CL w (W.drewN n) c gr gt s L := ⟨h.card.drewN n, below_drewN' h.old n, ⟨fun x hx => (h.pool.own x hx).drewN n, h.pool.far⟩, h.far⟩
theorem CL.not_old (h : CL w W c gr gt s L) : ∀ k, k < w.heap.size → ¬ Foot c gr gt k := by
  have := h.far
  rintro k hk (rfl | rfl | rfl) <;> omega
theorem CL.foot (h : CL w W c gr gt s L) (hc : CardAt W' c gr gt s') (f : Fr (Foot c gr gt) W W') : CL w W' c gr gt s' L :=
  ⟨hc, f.on_below h.old h.old.size h.not_old, h.pool.fr f fun x hx => h.card.not_foot (h.pool.own x hx) (by decide) (by decide), h.far⟩
/-- a row comes out while the card turns -/
theorem CL.out (h : CL w W c gr gt s L) (hc : CardAt W' c gr gt s') (f : Fr (Foot c gr gt) W W') {v : Value} {l : List UInt8} (hv : Own W' W.heap.size v l) : CL w W' c gr gt s' (L ++ [(v, l)]) := by
  have h1 := h.foot hc f
  refine ⟨h1.card, h1.old, ⟨fun x hx => ?_, List.pairwise_append.2 ⟨h1.pool.far, by simp, fun x hx y hy => ?_⟩⟩, h1.far⟩
  · rcases List.mem_append.1 hx with hx | hx
    · exact h1.pool.own x hx
    · obtain rfl : x = (v, l) := by simpa using hx
      exact hv.less h.old.size
  · obtain rfl : y = (v, l) := by simpa using hy
    intro g hg he
    have a1 := (h.pool.lt hx hg).2
    have a2 := (owns_lt hv he).1
    omega
end
end Go.Proofs.Ytcdlpmnlblpinaa
