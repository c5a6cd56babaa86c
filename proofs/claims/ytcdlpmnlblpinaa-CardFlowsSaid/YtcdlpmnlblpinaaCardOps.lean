/- card: at, put, data, step. -/
import Derived.Test.YtcdlpmnlblpinaaCardMem
import Derived.Outline
set_option linter.unusedVariables false
set_option linter.unusedSimpArgs false
namespace Go.Proofs.Ytcdlpmnlblpinaa
open Go.RowKit

set_option maxHeartbeats 1000000 in
theorem at_no (c o : Nat) (A : Option Addr) (n k : Nat) (i : Int) (w : World) (h : w.cell? ⟨c, o, none⟩ = some (.slice A n k)) (hn : n ≤ 1000) (hi : i < 0 ∨ (n : Int) ≤ i) :
    Calls Try.prog 32 #[.pointer (some ⟨c, o, none⟩), .int .i64 i] w fun e w' => e = .returned (.pointer none) ∧ w = w' := by
  by_cases h0 : i < 0
  · go_enter Try.func32, Try.ntmps32
    go_wp2
    go_ret
    exact ⟨rfl, rfl⟩
  · have h1 : (n : Int) ≤ i := by omega
    go_enter Try.func32, Try.ntmps32
    go_wp2
    go_ret
    exact ⟨rfl, rfl⟩
set_option maxHeartbeats 1000000 in
theorem at_yes (c o g n k i : Nat) (w : World) (h : w.cell? ⟨c, o, none⟩ = some (.slice (some ⟨g, 0, none⟩) n k)) (hn : n ≤ 1000) (hi : i < n) :
    Calls Try.prog 32 #[.pointer (some ⟨c, o, none⟩), .int .i64 (i : Int)] w fun e w' => e = .returned (.pointer (some ⟨g, i * 1516, none⟩)) ∧ w = w' := by
  have h1 : (i : Int) < n := by omega
  have h2 : ¬ (n : Int) ≤ i := by omega
  go_enter Try.func32, Try.ntmps32
  go_wp2
  go_ret
  exact ⟨rfl, rfl⟩

theorem copied_length {cs : List Value} {N i : Nat} {m : List UInt8} (h1 : cs.length = N * 1516) (hm : m.length ≤ 1514) (hN : i * 1516 + 1516 ≤ N * 1516) : (cs.take (i * 1516 + 1) ++ (bvs m ++ cs.drop (i * 1516 + 1 + m.length))).length = N * 1516 := by
  simp only [List.length_append, List.length_take, List.length_drop, bvs_length, h1]; omega

set_option maxRecDepth 100000 in
set_option maxHeartbeats 2000000 in
theorem put_slot (g i : Nat) (S : List Slot) (A : Option Addr) (m : List UInt8) (n k : Nat) (card : Bool) (w : World) (hS : SlotsAt w g S) (hi : i < S.length) (hN : S.length ≤ 1000) (hm : m.length ≤ 1514) (hn : n = m.length) (hA : RA w A m) :
    Calls Try.prog 33 #[.pointer (some ⟨g, i * 1516, none⟩), .slice A n k, .bool card] w fun e w' => e = .returned (.tuple #[]) ∧ SlotsAt w' g (S.set i ⟨card, m⟩) ∧ Fr (· = g) w w' := by
  subst hn
  obtain ⟨cs, hb, h1, h2⟩ := hS
  have hN1 : i * 1516 + 1516 ≤ S.length * 1516 := by omega
  have HB := Lib.hid hb
  have H1 := Lib.hid h1
  have H2 := Lib.hid h2
  clear hb h1 h2
  go_enter Try.func33, Try.ntmps33
  go_wp2_with (refine copyR rfl _ _ rfl g (i * 1516 + 1) 1514 _ 91 _ _ _ _ rfl rfl cs m HB.out hA rfl rfl (by omega) (by rw [H1.out]; omega) ?_; intro w1 hb1 hg1; obtain ⟨u1, x1⟩ := blk_some hb1 (i := i * 1516 + 1515) (by rw [copied_length H1.out hm hN1]; omega); obtain ⟨u2, x2⟩ := blk_some hb1 (i := i * 1516) (by rw [copied_length H1.out hm hN1]; omega); have f1 := hb1.frozen (i * 1516 + 1515); have f2 := hb1.frozen (i * 1516); have HB1 := Lib.hid hb1; clear hb1)
  go_end0
  refine ⟨rfl, SlotsAt.put H1.out H2.out hi hm ((HB1.out.set_ _ _).set_ _ _), ?_⟩
  exact ((Fr.of_grown (S := (· = g)) hg1 (fun b h => by injection h with h; exact h.symm)).set_ (p := ⟨g, i * 1516 + 1515, none⟩) (.inl rfl) _).set_ (p := ⟨g, i * 1516, none⟩) (.inl rfl) _

theorem slice_arr (ad : Addr) (n : Nat) (hn : n ≤ 1514) (W : World) : (Instr.sliceAt 89 (.pointer (some ad)) none (some (.int .i64 (n : Int))) (some (.int .i64 (n : Int)))).run Try.prog W = .ok (.slice (some ad) n n) W := by
  obtain ⟨i0, hi, hz0, hz1, hz2⟩ := info_parts Try.info_u8
  have h1 : (n : Int) ≤ 1514 := by omega
  have h2 : IntKind.i64.wrap (n : Int) = n := by rw [IntKind.wrap_i64]; omega
  simp [Instr.sliceAt, Instr.sliceBounds, Instr.sliceBound, Instr.sureAddr, run_underlying Try.underlying89, sizeOf, typeInfo, hi, go_sem, h1, h2, Addr.add]
  intro h; omega

set_option maxRecDepth 100000 in
set_option maxHeartbeats 2000000 in
theorem data_slot (g i : Nat) (S : List Slot) (w : World) (hS : SlotsAt w g S) (hi : i < S.length) (hN : S.length ≤ 1000) :
    Calls Try.prog 36 #[.pointer (some ⟨g, i * 1516, none⟩)] w fun e w' => ∃ v, e = .returned v ∧ Own w' w.heap.size v S[i].data ∧ Below w.heap.size w w' := by
  obtain ⟨cs, hb, h1, h2⟩ := hS
  have hN1 : i * 1516 + 1516 ≤ S.length * 1516 := by omega
  obtain ⟨⟨a1, a2, a3⟩, a4⟩ := h2 i hi
  have hr := SlotsAt.reads ⟨cs, hb, h1, h2⟩ i hi
  have c1 := (hb.cell (i * 1516 + 1515)).trans a2
  have a4' : S[i].data.length ≤ 1514 := a4
  have hlt := hb.lt
  obtain ⟨l, hl⟩ : ∃ l, S[i].data = l := ⟨_, rfl⟩
  rw [hl] at c1 hr a4' ⊢
  clear a1 a2 a3 a4 hl h2 h1
  have hmk := make_bytes l.length (by omega)
  have hsl := slice_arr ⟨g, i * 1516 + 1, none⟩ l.length a4'
  have B1 := Buf.made w l.length
  have O1 : Below w.heap.size w (w.alloc (.cells (madeCells #[.int .u8 0] l.length) 5)) := (Below.refl _ _).alloc (Nat.le_refl _) _
  have HR := Lib.hid (hr.alloc (.cells (madeCells #[.int .u8 0] l.length) 5))
  have c2 : (w.alloc (.cells (madeCells #[.int .u8 0] l.length) 5)).cell? ⟨g, i * 1516 + 1515, none⟩ = some (.int .i64 (l.length : Int)) := (World.cell?_alloc_lt _ _ _ hlt).trans c1
  go_enter Try.func36, Try.ntmps36
  go_wp2_with fail
  generalize w.alloc (.cells (madeCells #[.int .u8 0] l.length) 5) = W1 at B1 O1 HR c2 ⊢
  clear c1 hr hb hmk
  go_region_law (refine step_copyB rfl _ _ rfl w.heap.size 0 _ _ _ _ _ _ rfl rfl (List.replicate l.length 0) l (by exact B1) (by exact HR.out) rfl (fun _ => rfl) (by omega) (by simp) ?_; intro w3 C3 G3)
  all_goals
    go_wp2
    go_ret
    refine ⟨_, rfl, ?_, O1.drew.grown G3 (by have := Blk.lt B1; show w.heap.size ≤ W1.heap.size; omega) (fun k hk => by injection hk with hk; omega)⟩
    have C4 : Buf w3 w.heap.size l := by simpa [splice] using C3
    exact C4.whole (Nat.le_refl _) rfl (by simp only [maxLen]; omega)
end Go.Proofs.Ytcdlpmnlblpinaa
