/- What came in, opened: bytes in any place, weights. -/
import Derived.Test.YtcdlpmnlblpinaaRowKit1
import Derived.Test.YtcdlpmnlblpinaaMem
import Derived.Lib.SmallJoins
import Derived.SizedLaws
import Derived.Deep.Slices
set_option linter.unusedVariables false
set_option linter.unusedSimpArgs false
namespace Go.Proofs.Ytcdlpmnlblpinaa
open Go.ChangeShapes Go.WideShapes Go.ChangeAt Go.RowKit Go.Deep

theorem cells_u8' : Try.prog.cellsOf 5 = 1 := by kernel_rfl
theorem bytes_u8' : Try.prog.bytesOf 5 = 1 := by kernel_rfl
theorem wfi64 {n : Int} (h : (Lit.int .i64 n).wf = true) : -9223372036854775808 ≤ n ∧ n ≤ 9223372036854775807 := by
  simpa [Lit.wf, IntKind.min, IntKind.max, IntKind.signed, IntKind.bits] using h
theorem wfu8 {n : Int} (h : (Lit.int .u8 n).wf = true) : 0 ≤ n ∧ n ≤ 255 := by
  simpa [Lit.wf, IntKind.min, IntKind.max, IntKind.signed, IntKind.bits] using h
theorem wfu32 {n : Int} (h : (Lit.int .u32 n).wf = true) : 0 ≤ n ∧ n ≤ 4294967295 := by
  simpa [Lit.wf, IntKind.min, IntKind.max, IntKind.signed, IntKind.bits] using h

section
variable {H : Type} {enc : TypeId × Value → H} {W : World}
/-- what a datum weighs is within reach -/
def Light (t : TypeId) (d : DataW H) : Prop := ∀ n ∈ d.weights Try.prog t, n ≤ reachBytes
theorem light_of {ts : List TypeId} {ds : List (DataW H)} (h : (DataW.weightsEach Try.prog ts ds).all (· ≤ reachBytes) = true) {j : Nat} {t : TypeId} {d : DataW H} (ht : ts[j]? = some t) (hd : ds[j]? = some d) : Light t d := by
  intro n hn
  have := DataW.weights_mem_each ht hd n hn
  simpa using (List.all_eq_true.1 h) n this
theorem weightsAll_mem {P : Program} {e : TypeId} : ∀ {l : List (DataW H)} {d : DataW H}, d ∈ l → ∀ n ∈ d.weights P e, n ∈ DataW.weightsAll P e l
  | x :: r, d, hd, n, hn => by
    rw [DataW.weightsAll]
    rcases List.mem_cons.1 hd with rfl | hd
    · exact List.mem_append_left _ hn
    · exact List.mem_append_right _ (weightsAll_mem hd n hn)
theorem Light.slice {t e : TypeId} {l sp : List (DataW H)} (h : Light t (.slice l sp)) (hu : Try.prog.underlying t = some (.slice e)) : (l.length + sp.length) * Try.prog.bytesOf e ≤ reachBytes ∧ ∀ d ∈ l, Light e d := by
  unfold Light at h
  simp only [DataW.weights, hu] at h
  exact ⟨h _ (List.mem_cons_self ..), fun d hd n hn => h n (List.mem_cons_of_mem _ (List.mem_append_left _ (weightsAll_mem hd n hn)))⟩
theorem Light.part {t : TypeId} {fs : Array Field} {l : List (DataW H)} (h : Light t (.agg l)) (hu : Try.prog.underlying t = some (.struct fs)) {j : Nat} {f : Field} {d : DataW H} (hf : fs[j]? = some f) (hd : l[j]? = some d) : Light f.type d := by
  unfold Light at h
  simp only [DataW.weights, hu] at h
  intro n hn
  exact h n (DataW.weights_mem_each (j := j) (by rw [List.getElem?_map, Array.getElem?_toList, hf]; rfl) hd n hn)

theorem bytes_of_ints' (zs : List Int) (h : ∀ n ∈ zs, (Lit.int .u8 n).wf = true) : ∃ l : List UInt8, zs = l.map fun b => (b.toNat : Int) := by
  induction zs with
  | nil => exact ⟨[], rfl⟩
  | cons z t ih =>
    obtain ⟨l, hl⟩ := ih (fun n hn => h n (List.mem_cons_of_mem _ hn))
    have hz := wfu8 (h z (List.mem_cons_self ..))
    refine ⟨UInt8.ofNat z.toNat :: l, ?_⟩
    rw [List.map_cons, ← hl, UInt8.toNat_ofNat']
    congr 1
    omega
/-- a slice of bytes, wherever it came in -/
theorem open_bytes_at {n : Nat} {cs : List Value} {d : DataW H} {p : List MemPlace} (h : DataW.trod enc Try.prog W 0 (fun _ => true) true n 27 cs = some (d, p)) :
    ∃ A l c, cs = [.slice A (l : List UInt8).length c] ∧ l.length ≤ c ∧ c ≤ 9223372036854775807 ∧ RA W A l ∧ (Light 27 d → l.length ≤ 140737488351232) := by
  rcases open_ints Try.underlying27 Try.underlying5 cells_u8' h with ⟨hcs, hx⟩ | ⟨a, len', cap', zs, hcs, _, hl, hm, hz, hx, hcell, hwz⟩
  · exact ⟨none, [], 0, hcs, by simp, by omega, RA.nil _ _, fun _ => by simp⟩
  · simp only [Prod.mk.injEq] at hx
    obtain ⟨rfl, rfl⟩ := hx
    simp only [if_true] at hz
    obtain ⟨l, rfl⟩ := bytes_of_ints' zs hwz
    rw [List.length_map] at hz
    have hll : (l.take len').length = len' := by rw [List.length_take]; omega
    refine ⟨some a, l.take len', cap', by rw [hll]; exact hcs, by omega, by simpa [maxLen] using hm, ?_, fun hw => ?_⟩
    · by_cases h0 : len' = 0
      · exact .inl (by rw [h0]; rfl)
      · have h00 := hcell 0 (by simp; omega)
        refine .inr ⟨a, rfl, ?_, fun j hj => ?_⟩
        · rw [show a.add 0 = a from by simp [Addr.add]] at h00
          exact World.block_lt_of_cell? (h := h00)
        · have hj' : j < l.length := by rw [List.length_take] at hj; omega
          rw [hcell j (by simpa using hj')]
          simp [bv, List.getD, hj']
    · have := (hw.slice Try.underlying27).1
      rw [bytes_u8'] at this
      simp only [lits, List.length_map, List.length_take, List.length_drop, reachBytes] at this
      rw [hll]
      omega
end
end Go.Proofs.Ytcdlpmnlblpinaa
