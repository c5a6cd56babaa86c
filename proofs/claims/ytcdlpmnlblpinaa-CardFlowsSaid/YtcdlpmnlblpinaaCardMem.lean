/- A ring's descriptors in memory; put, data, at, step. -/
import Derived.Test.YtcdlpmnlblpinaaMem
import Derived.Deep.RegionLaw
import Derived.BigRegion
import Derived.Deep.RegionWith
set_option linter.unusedVariables false
set_option linter.unusedSimpArgs false
namespace Go.Proofs.Ytcdlpmnlblpinaa
open Go.RowKit

/-! ### copy into any block -/
section
variable {ops : Array Oper} {rest : List Oper} {o : Oper} {a : Act} {Q : Exit → Act → World → Prop}
theorem wp_copyR {w : World} {K : Act → World → Prop} (d s : Operand)
    (ho : o.op = .call { callee := .builtin .copy, args := #[d, s], argTypes := #[27, 27] })
    (g off dLen dCap : Nat) (t : TypeId) (dp sp : Option Addr) (sLen sCap : Nat) (hd : a.eval d = .slice dp dLen dCap) (hs : a.eval s = .slice sp sLen sCap)
    (cs : List Value) (m : List UInt8) (hB : Blk w g t cs) (hr : RA w sp m) (hn : sLen = m.length) (hdp : dp = some ⟨g, off, none⟩) (hfit : m.length ≤ dLen) (hfit2 : off + m.length ≤ cs.length)
    (h : ∀ w', Blk w' g t (cs.take off ++ (bvs m ++ cs.drop (off + m.length))) → w.grownBy w' (some g) → K (a.put o.dst (goInt m.length)) w') : o.wp Try.prog a w K Q := by
  subst hn hdp
  obtain ⟨i0, hi, hz0, hz1, hz2⟩ := info_parts Try.info_u8
  have hsz : (Try.prog.info? 5).map (·.size) = some 1 := by rw [hi, Option.map_some, hz1]
  by_cases h0 : m.length = 0
  · obtain rfl : m = [] := List.eq_nil_of_length_eq_zero h0
    have hrun := run_copy_none (P := Try.prog) w 27 27 o.type 5 (some ⟨g, off, none⟩) sp dLen dCap 0 sCap Try.underlying27 hsz (by simp)
    unfold Oper.wp
    simp only [List.length_nil] at hs
    simp [execOp, ho, resolve, invoke, builtin, hd, hs, hrun, Result.andThen]
    exact h w (by simpa [bvs] using hB) (World.grownBy.refl w _)
  · obtain ⟨ad, rfl, _, hcell⟩ := hr.at_ (j := 0) (by omega)
    have hrun := run_copy_row (P := Try.prog) w 27 27 o.type 5 g off dLen dCap ad m.length sCap cs.toArray t (bvs m) Try.underlying27 hsz hB
      (by rw [bvs_length]; exact (Nat.min_eq_left hfit).symm) (RA.cells hr) (by simp [bvs]; omega) (bvs_one m)
    have hrow := setRow_heap w g _ ((cs.take off ++ (bvs m ++ cs.drop (off + (bvs m).length))).toArray) t (0, 0) hB
    unfold Oper.wp
    simp [execOp, ho, resolve, invoke, builtin, hd, hs, hrun, Result.andThen]
    rw [bvs_length]
    refine h _ ?_ ⟨rfl, rfl, rfl, by simp [World.setRow], fun k hk hne => setRow_other w g k _ (by simpa using hne)⟩
    unfold Blk
    simpa [bvs_length] using hrow
theorem copyR {w : World} (hgd : o.guard = none) (d s : Operand)
    (ho : o.op = .call { callee := .builtin .copy, args := #[d, s], argTypes := #[27, 27] })
    (g off dLen dCap : Nat) (t : TypeId) (dp sp : Option Addr) (sLen sCap : Nat) (hd : a.eval d = .slice dp dLen dCap) (hs : a.eval s = .slice sp sLen sCap)
    (cs : List Value) (m : List UInt8) (hB : Blk w g t cs) (hr : RA w sp m) (hn : sLen = m.length) (hdp : dp = some ⟨g, off, none⟩) (hfit : m.length ≤ dLen) (hfit2 : off + m.length ≤ cs.length)
    (h : ∀ w', Blk w' g t (cs.take off ++ (bvs m ++ cs.drop (off + m.length))) → w.grownBy w' (some g) → wpList Try.prog ops Q rest (a.put o.dst (goInt m.length)) w') : wpList Try.prog ops Q (o :: rest) a w :=
  wpList_plain hgd fun _ hK => wp_copyR d s ho g off dLen dCap t dp sp sLen sCap hd hs cs m hB hr hn hdp hfit hfit2 fun w' h1 h2 => hK _ _ (h w' h1 h2)
end

/-! ### descriptors -/
structure Slot where
  card : Bool
  data : List UInt8
def Slot.ok (s : Slot) : Prop := s.data.length ≤ 1514
/-- the cells of slot i, in a row of cells -/
structure SlotIn (cs : List Value) (i : Nat) (s : Slot) : Prop where
  card : cs[i * 1516]? = some (.bool s.card)
  n : cs[i * 1516 + 1515]? = some (.int .i64 (s.data.length : Int))
  data : ∀ (j : Nat) (h : j < s.data.length), cs[i * 1516 + 1 + j]? = some (bv s.data[j])
def SlotsAt (w : World) (g : Nat) (S : List Slot) : Prop :=
  ∃ cs, Blk w g 91 cs ∧ cs.length = S.length * 1516 ∧ ∀ (i : Nat) (h : i < S.length), SlotIn cs i S[i] ∧ S[i].ok
section
variable {w w' : World} {g : Nat} {S : List Slot}
theorem SlotsAt.fr {F : Nat → Prop} (h : SlotsAt w g S) (f : Fr F w w') (hg : ¬ F g) : SlotsAt w' g S := by
  obtain ⟨cs, hb, h1, h2⟩ := h
  exact ⟨cs, hb.fr f hg, h1, h2⟩
theorem SlotsAt.below (h : SlotsAt w g S) (hb : Below w.heap.size w w') : SlotsAt w' g S := h.fr (F := fun _ => False) (Fr.of_below hb) (fun h => h)
theorem SlotsAt.drew (h : SlotsAt w g S) : SlotsAt w.drew g S := h
theorem SlotsAt.lt (h : SlotsAt w g S) : g < w.heap.size := by
  obtain ⟨cs, hb, _⟩ := h
  exact hb.lt
theorem SlotsAt.ty (h : SlotsAt w g S) : tyAt w g = some 91 := by
  obtain ⟨cs, hb, _⟩ := h
  exact hb.ty
theorem SlotsAt.reads (h : SlotsAt w g S) (i : Nat) (hi : i < S.length) : RA w (some ⟨g, i * 1516 + 1, none⟩) S[i].data := by
  obtain ⟨cs, hb, h1, h2⟩ := h
  refine .inr ⟨_, rfl, hb.lt, fun j hj => ?_⟩
  rw [add_plain', hb.cell]
  exact (h2 i hi).1.data j hj
end
/-- what put leaves -/
def putCells (cs : List Value) (i : Nat) (m : List UInt8) (card : Bool) : List Value :=
  ((cs.take (i * 1516 + 1) ++ (bvs m ++ cs.drop (i * 1516 + 1 + m.length))).set (i * 1516 + 1515) (.int .i64 (m.length : Int))).set (i * 1516) (.bool card)
theorem put_length {cs : List Value} {N i : Nat} {m : List UInt8} {card : Bool} (h1 : cs.length = N * 1516) (hi : i < N) (hm : m.length ≤ 1514) : (putCells cs i m card).length = N * 1516 := by
  simp only [putCells, List.length_set, List.length_append, List.length_take, List.length_drop, bvs_length, h1]
  have : i * 1516 + 1516 ≤ N * 1516 := by omega
  omega
theorem put_get {cs : List Value} {N i : Nat} {m : List UInt8} {card : Bool} (h1 : cs.length = N * 1516) (hi : i < N) (hm : m.length ≤ 1514) (q : Nat) (hq : q < N * 1516) : (putCells cs i m card)[q]? =
    if q = i * 1516 then some (.bool card) else if q = i * 1516 + 1515 then some (.int .i64 (m.length : Int)) else if i * 1516 + 1 ≤ q ∧ q < i * 1516 + 1 + m.length then (bvs m)[q - (i * 1516 + 1)]? else cs[q]? := by
  have hN : i * 1516 + 1516 ≤ N * 1516 := by omega
  have hl : (cs.take (i * 1516 + 1) ++ (bvs m ++ cs.drop (i * 1516 + 1 + m.length))).length = N * 1516 := by
    simp only [List.length_append, List.length_take, List.length_drop, bvs_length, h1]; omega
  unfold putCells
  rw [List.getElem?_set]
  by_cases e1 : i * 1516 = q
  · rw [if_pos e1, if_pos (by rw [List.length_set, hl]; omega), if_pos e1.symm]
  rw [if_neg e1, if_neg (Ne.symm e1), List.getElem?_set]
  by_cases e2 : i * 1516 + 1515 = q
  · rw [if_pos e2, if_pos (by rw [hl]; omega), if_pos e2.symm]
  rw [if_neg e2, if_neg (Ne.symm e2), List.getElem?_append]
  have ht : (cs.take (i * 1516 + 1)).length = i * 1516 + 1 := by rw [List.length_take, h1]; omega
  rw [ht]
  by_cases e3 : q < i * 1516 + 1
  · rw [if_pos e3, if_neg (by omega), List.getElem?_take, if_pos e3]
  rw [if_neg e3, List.getElem?_append, bvs_length]
  by_cases e4 : q - (i * 1516 + 1) < m.length
  · rw [if_pos e4, if_pos (by omega)]
  · rw [if_neg e4, if_neg (by omega), List.getElem?_drop]
    congr 1; omega
theorem SlotsAt.put {w' : World} {g : Nat} {S : List Slot} {cs : List Value} (h1 : cs.length = S.length * 1516) (h2 : ∀ (i : Nat) (h : i < S.length), SlotIn cs i S[i] ∧ S[i].ok) {i : Nat} (hi : i < S.length) {m : List UInt8} {card : Bool} (hm : m.length ≤ 1514)
    (hb : Blk w' g 91 (putCells cs i m card)) : SlotsAt w' g (S.set i ⟨card, m⟩) := by
  have hN : i * 1516 + 1516 ≤ S.length * 1516 := by omega
  refine ⟨_, hb, by rw [put_length h1 hi hm, List.length_set], fun k hk => ?_⟩
  rw [List.length_set] at hk
  have hK : k * 1516 + 1516 ≤ S.length * 1516 := by
    have := Nat.mul_le_mul_right 1516 (Nat.succ_le_of_lt hk)
    rwa [Nat.succ_mul] at this
  have get := fun q hq => put_get (card := card) h1 hi hm q hq
  by_cases hki : k = i
  · subst hki
    rw [List.getElem_set_self]
    refine ⟨⟨?_, ?_, fun j hj => ?_⟩, hm⟩
    · rw [get _ (by omega), if_pos rfl]
    · rw [get _ (by omega), if_neg (by omega), if_pos rfl]
    · have hj' : j < m.length := hj
      rw [get _ (by omega), if_neg (by omega), if_neg (by omega), if_pos (by omega), show k * 1516 + 1 + j - (k * 1516 + 1) = j from by omega, bvs_get, List.getElem?_eq_getElem hj']
      rfl
  · rw [List.getElem_set_ne (Ne.symm hki)]
    obtain ⟨⟨a1, a2, a3⟩, a4⟩ := h2 k hk
    have hne : k * 1516 + 1516 ≤ i * 1516 ∨ i * 1516 + 1516 ≤ k * 1516 := by omega
    have a4' : S[k].data.length ≤ 1514 := a4
    refine ⟨⟨?_, ?_, fun j hj => ?_⟩, a4⟩
    · rw [get _ (by omega), if_neg (by omega), if_neg (by omega), if_neg (by omega)]; exact a1
    · rw [get _ (by omega), if_neg (by omega), if_neg (by omega), if_neg (by omega)]; exact a2
    · rw [get _ (by omega), if_neg (by omega), if_neg (by omega), if_neg (by omega)]; exact a3 j hj
end Go.Proofs.Ytcdlpmnlblpinaa
