/- A script of the card's statements, opened. -/
import Derived.Test.YtcdlpmnlblpinaaOpenKit
import Derived.Test.YtcdlpmnlblpinaaFlows
set_option linter.unusedVariables false
set_option linter.unusedSimpArgs false
namespace Go.Proofs.Ytcdlpmnlblpinaa
open Go.ChangeShapes Go.WideShapes Go.ChangeAt Go.RowKit Go.Deep

theorem cells_op : Try.prog.cellsOf 29 = 3 := by kernel_rfl
theorem bytes_op : Try.prog.bytesOf 29 = 40 := by kernel_rfl
theorem cells_int : Try.prog.cellsOf 3 = 1 := by kernel_rfl
theorem cells_sl : Try.prog.cellsOf 27 = 1 := by kernel_rfl
section
variable {H : Type} {enc : TypeId × Value → H} {W : World}
set_option maxRecDepth 100000 in
theorem open_op {n : Nat} {cs : List Value} {d : DataW H} {p : List MemPlace} (h : DataW.trod enc Try.prog W 0 (fun _ => true) true n 29 cs = some (d, p)) (hw : Light 29 d) :
    ∃ o : OpV, cs = [.int .i64 o.kind, .int .i64 o.i, .slice o.A o.b.length o.k] ∧ RA W o.A o.b ∧ o.ok := by
  obtain ⟨xs, m, _, hx, hlen, hxl, hf⟩ := DataW.trod_struct Try.underlying29 h
  rw [cells_op] at hlen
  simp only [Prod.mk.injEq] at hx
  obtain ⟨rfl, rfl⟩ := hx
  match cs, hlen, xs, hxl with
  | [c0, c1, c2], _, [y0, y1, y2], _ =>
    have f0 : DataW.trod enc Try.prog W 0 (fun _ => true) true m 3 (([c0, c1, c2].drop 0).take (Try.prog.cellsOf 3)) = some y0 := hf 0 _ rfl
    have f1 : DataW.trod enc Try.prog W 0 (fun _ => true) true m 3 (([c0, c1, c2].drop 1).take (Try.prog.cellsOf 3)) = some y1 := hf 1 _ rfl
    have f2 : DataW.trod enc Try.prog W 0 (fun _ => true) true m 27 (([c0, c1, c2].drop 2).take (Try.prog.cellsOf 27)) = some y2 := hf 2 _ rfl
    simp only [cells_int, cells_sl, List.drop_zero, List.drop_succ_cons, List.take_succ_cons, List.take_zero] at f0 f1 f2
    obtain ⟨n0, g0, _, w0⟩ := DataW.trod_int Try.underlying3 f0
    obtain ⟨n1, g1, _, w1⟩ := DataW.trod_int Try.underlying3 f1
    obtain ⟨A, l, k, g2, h1, h2, h3, h4⟩ := open_bytes_at (d := y2.1) (p := y2.2) f2
    obtain rfl := (List.cons.inj g0).1
    obtain rfl := (List.cons.inj g1).1
    obtain rfl := (List.cons.inj g2).1
    exact ⟨⟨n0, n1, A, l, k⟩, rfl, h3, wfi64 w0, wfi64 w1, h1, h2, h4 (hw.part (j := 2) Try.underlying29 rfl rfl)⟩

set_option maxRecDepth 100000 in
theorem open_ops {A : Option Addr} {n c : Nat} {d : DataW H} {p : List MemPlace} (h : DataW.Trod enc Try.prog W 0 (fun _ => true) true 22 (.slice A n c) d p) (hw : Light 22 d) :
    ∃ ops : List OpV, n = ops.length ∧ n ≤ c ∧ c ≤ 9223372036854775807 ∧ n ≤ 3600000000000 ∧ OpsAt W A ops := by
  obtain ⟨fuel, hf⟩ := h
  rcases open_slice Try.underlying22 hf with ⟨hcs, hx⟩ | ⟨a, len, cap, m, k, D, Pl, hcs, _, hl, hm, hmm, hx, hi⟩
  · simp [Value.cells] at hcs
    obtain ⟨rfl, rfl, rfl⟩ := hcs
    exact ⟨[], rfl, by omega, by omega, by omega, fun j h => by simp at h⟩
  · simp [Value.cells] at hcs
    obtain ⟨rfl, rfl, rfl⟩ := hcs
    simp only [Prod.mk.injEq] at hx
    obtain ⟨rfl, rfl⟩ := hx
    have hs := hw.slice Try.underlying22
    rw [bytes_op, List.length_map, List.length_range] at hs
    simp only [if_true] at hmm
    have hnb : n ≤ 3600000000000 := by have := hs.1; simp only [reachBytes] at this; omega
    have each : ∀ i, ∃ o : OpV, i < n → ∃ cs', W.cells? 0 (a.add (i * 3)) 3 = some cs' ∧ cs' = [.int .i64 o.kind, .int .i64 o.i, .slice o.A o.b.length o.k] ∧ RA W o.A o.b ∧ o.ok := by
      intro i
      by_cases hin : i < n
      · obtain ⟨cs', hc, ht⟩ := hi i (by omega)
        obtain ⟨o, ho⟩ := open_op ht (hs.2 (D i) (List.mem_map.2 ⟨i, List.mem_range.2 hin, rfl⟩))
        rw [cells_op] at hc
        exact ⟨o, fun _ => ⟨cs', hc, ho⟩⟩
      · exact ⟨⟨0, 0, none, [], 0⟩, fun h => absurd h hin⟩
    obtain ⟨f, hfo⟩ := Classical.axiomOfChoice each
    refine ⟨(List.range n).map f, by simp, hl, by simpa [maxLen] using hm, hnb, fun j hj => ?_⟩
    have hj' : j < n := by simpa using hj
    obtain ⟨cs', hc, e, hr, ho⟩ := hfo j hj'
    subst e
    obtain ⟨_, hcl, hat⟩ := World.cells?_some hc
    have e : ((List.range n).map f)[j] = f j := by simp
    rw [e]
    have a0 := hat 0 (by omega)
    have a1 := hat 1 (by omega)
    have a2 := hat 2 (by omega)
    simp only [List.getElem?_cons_zero, List.getElem?_cons_succ] at a0 a1 a2
    rw [show (a.add (j * 3)).add 0 = a.add (j * 3) from by simp [Addr.add]] at a0
    refine ⟨a, rfl, ?_, a0, a1, a2, hr, ho⟩
    have := World.block_lt_of_cell? (h := a0)
    rwa [block_add] at this
end
theorem CardFlows_any (rx tx : Int) (A : Option Addr) (ops : List OpV) (n c : Nat) (w : World) (hn : n = ops.length) (hn2 : n ≤ 3600000000000) (hA : OpsAt w A ops) :
    Calls Try.prog 3 #[.int .i64 rx, .int .i64 tx, .slice A n c] w (FlowPost w) := by
  by_cases h : rx < 1 ∨ 64 < rx ∨ tx < 1 ∨ 64 < tx
  · exact CardFlows_bad rx tx _ w h
  · obtain ⟨r, rfl⟩ := Int.eq_ofNat_of_zero_le (show 0 ≤ rx by omega)
    obtain ⟨m, rfl⟩ := Int.eq_ofNat_of_zero_le (show 0 ≤ tx by omega)
    exact CardFlows_ok r m A ops n c w (by omega) (by omega) (by omega) (by omega) hn hn2 hA
end Go.Proofs.Ytcdlpmnlblpinaa
