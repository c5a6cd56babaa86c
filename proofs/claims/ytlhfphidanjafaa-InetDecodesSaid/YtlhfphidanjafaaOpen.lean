/- A head and a slice of bytes that came in, opened. -/
import Derived.Test.YtlhfphidanjafaaRowKit0
import Derived.Test.YtlhfphidanjafaaBoth
import Derived.Lib.SmallJoins
import Derived.SizedLaws
set_option linter.unusedVariables false
set_option linter.unusedSimpArgs false
namespace Go.Proofs.Ytlhfphidanjafaa
open Go.ChangeShapes Go.WideShapes Go.ChangeAt Go.RowKit

theorem laid_out : laidOutB Try.prog = true := by kernel_rfl
theorem cells_u8 : Try.prog.cellsOf 5 = 1 := by kernel_rfl
theorem bytes_u8 : Try.prog.bytesOf 5 = 1 := by kernel_rfl
theorem cells_ip : Try.prog.cellsOf 27 = 7 := by kernel_rfl
theorem array7 {α : Type} {cs : Array α} (h : cs.size = 7) : ∃ c0 c1 c2 c3 c4 c5 c6, cs = #[c0, c1, c2, c3, c4, c5, c6] := by
  obtain ⟨l⟩ := cs
  match l, h with
  | [c0, c1, c2, c3, c4, c5, c6], _ => exact ⟨c0, c1, c2, c3, c4, c5, c6, rfl⟩

section
variable {H : Type} {enc : TypeId × Value → H} {W : World}
theorem bytes_of_ints (zs : List Int) (h : ∀ n ∈ zs, (Lit.int .u8 n).wf = true) : ∃ l : List UInt8, zs = l.map fun b => (b.toNat : Int) := by
  induction zs with
  | nil => exact ⟨[], rfl⟩
  | cons z t ih =>
    obtain ⟨l, hl⟩ := ih (fun n hn => h n (List.mem_cons_of_mem _ hn))
    have hz : 0 ≤ z ∧ z ≤ 255 := by simpa [Lit.wf, IntKind.min, IntKind.max, IntKind.signed, IntKind.bits] using h z (List.mem_cons_self ..)
    refine ⟨UInt8.ofNat z.toNat :: l, ?_⟩
    rw [List.map_cons, ← hl, UInt8.toNat_ofNat']
    congr 1
    omega

/-- a slice of bytes that came in, nil or not -/
theorem open_bytes {A : Option Addr} {n c : Nat} {d : DataW H} {p : List MemPlace} (h : DataW.Trod enc Try.prog W 0 (fun _ => true) true 28 (.slice A n c) d p) :
    ∃ l : List UInt8, n = l.length ∧ n ≤ c ∧ c ≤ 9223372036854775807 ∧ RA W A l ∧ (∀ (ts : List TypeId) (ds : List (DataW H)) (j : Nat), (DataW.weightsEach Try.prog ts ds).all (· ≤ reachBytes) = true → ts[j]? = some 28 → ds[j]? = some d → n ≤ 140737488351232) := by
  obtain ⟨fuel, hf⟩ := h
  rcases open_ints Try.underlying28 Try.underlying5 cells_u8 hf with ⟨hcs, hx⟩ | ⟨a, len', cap', zs, hcs, _, hl, hm, hz, hx, hcell, hwz⟩
  · simp [Value.cells] at hcs
    obtain ⟨rfl, rfl, rfl⟩ := hcs
    exact ⟨[], rfl, Nat.le_refl _, by omega, RA.nil _ _, fun _ _ _ _ _ _ => by omega⟩
  · simp [Value.cells] at hcs
    obtain ⟨rfl, rfl, rfl⟩ := hcs
    simp only [Prod.mk.injEq] at hx
    obtain ⟨rfl, rfl⟩ := hx
    simp only [if_true] at hz
    obtain ⟨l, rfl⟩ := bytes_of_ints zs hwz
    rw [List.length_map] at hz
    refine ⟨l.take n, by rw [List.length_take]; omega, by omega, by simpa [maxLen] using hm, ?_, ?_⟩
    · by_cases h0 : n = 0
      · exact .inl (by rw [h0]; rfl)
      · have h00 := hcell 0 (by simp; omega)
        refine .inr ⟨a, rfl, ?_, fun j hj => ?_⟩
        · rw [show a.add 0 = a from by simp [Addr.add]] at h00
          exact World.block_lt_of_cell? (h := h00)
        · have hj' : j < l.length := by rw [List.length_take] at hj; omega
          rw [hcell j (by simpa using hj')]
          simp [bv, List.getD, hj']
    · intro ts ds j hw ht hd
      have := sized_slice hw ht hd Try.underlying28
      rw [bytes_u8] at this
      simp only [lits, List.length_map, List.length_take, List.length_drop, reachBytes] at this
      omega

theorem wf_i64 {n : Int} (h : (Lit.int .i64 n).wf = true) : -9223372036854775808 ≤ n ∧ n ≤ 9223372036854775807 := by
  simpa [Lit.wf, IntKind.min, IntKind.max, IntKind.signed, IntKind.bits] using h
theorem wf_u32 {n : Int} (h : (Lit.int .u32 n).wf = true) : 0 ≤ n ∧ n ≤ 4294967295 := by
  simpa [Lit.wf, IntKind.min, IntKind.max, IntKind.signed, IntKind.bits] using h

/-- a head that came in, by value -/
theorem open_hd {r : Reach} {b0 : Nat} {v : Value} {d : DataW H} {p : List MemPlace} (hv : Value.okWide Try.prog W r b0 27 v) (h : DataW.Trod enc Try.prog W 0 (fun _ => true) true 27 v d p) :
    ∃ h : Hd, v = h.val ∧ h.wf := by
  obtain ⟨cs, rfl, hsz⟩ := okWide_struct Try.underlying27 hv
  obtain ⟨c0, c1, c2, c3, c4, c5, c6, rfl⟩ := array7 (hsz.trans cells_ip)
  obtain ⟨fuel, hf⟩ := h
  obtain ⟨xs, n, _, hx, _, hlen, hfield⟩ := DataW.trod_struct Try.underlying27 hf
  have ex : ∀ i, i < 7 → ∃ y, xs[i]? = some y := fun i hi => ⟨xs[i]'(by rw [hlen]; exact hi), List.getElem?_eq_getElem _⟩
  have k3 : Try.prog.cellsOf 3 = 1 := by kernel_rfl
  have k4 : Try.prog.cellsOf 4 = 1 := by kernel_rfl
  have k25 : Try.prog.cellsOf 25 = 1 := by kernel_rfl
  obtain ⟨y0, e0⟩ := ex 0 (by omega)
  obtain ⟨y1, e1⟩ := ex 1 (by omega)
  obtain ⟨y2, e2⟩ := ex 2 (by omega)
  obtain ⟨y3, e3⟩ := ex 3 (by omega)
  obtain ⟨y4, e4⟩ := ex 4 (by omega)
  obtain ⟨y5, e5⟩ := ex 5 (by omega)
  obtain ⟨y6, e6⟩ := ex 6 (by omega)
  have f0 := (hfield 0 _ rfl).trans e0
  have f1 := (hfield 1 _ rfl).trans e1
  have f2 := (hfield 2 _ rfl).trans e2
  have f3 := (hfield 3 _ rfl).trans e3
  have f4 := (hfield 4 _ rfl).trans e4
  have f5 := (hfield 5 _ rfl).trans e5
  have f6 := (hfield 6 _ rfl).trans e6
  simp only [k3, k4, k25, Value.cells, List.drop_zero, List.drop_succ_cons, List.take_succ_cons, List.take_zero] at f0 f1 f2 f3 f4 f5 f6
  obtain ⟨n0, g0, _, w0⟩ := DataW.trod_int Try.underlying3 f0
  obtain ⟨n1, g1, _, w1⟩ := DataW.trod_int Try.underlying3 f1
  obtain ⟨n2, g2, _, w2⟩ := DataW.trod_int Try.underlying3 f2
  obtain ⟨n3, g3, _, w3⟩ := DataW.trod_int Try.underlying3 f3
  obtain ⟨n4, g4, _⟩ := DataW.trod_bool Try.underlying4 f4
  obtain ⟨n5, g5, _, w5⟩ := DataW.trod_int Try.underlying25 f5
  obtain ⟨n6, g6, _, w6⟩ := DataW.trod_int Try.underlying25 f6
  obtain rfl := (List.cons.inj g0).1
  obtain rfl := (List.cons.inj g1).1
  obtain rfl := (List.cons.inj g2).1
  obtain rfl := (List.cons.inj g3).1
  obtain rfl := (List.cons.inj g4).1
  obtain rfl := (List.cons.inj g5).1
  obtain rfl := (List.cons.inj g6).1
  exact ⟨⟨n0, n1, n2, n3, n4, n5, n6⟩, rfl, wf_i64 w0, wf_i64 w1, wf_i64 w2, wf_i64 w3, wf_u32 w5, wf_u32 w6⟩
end
end Go.Proofs.Ytlhfphidanjafaa
