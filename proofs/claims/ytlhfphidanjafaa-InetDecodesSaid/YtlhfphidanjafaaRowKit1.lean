/- A statement's row, whatever its parameters: the law returned true and left all old memory as it was. -/
import Derived.Test.YtlhfphidanjafaaRowKit0
import Derived.WideKeyArgs
set_option linter.unusedVariables false
namespace Go.Proofs.Ytlhfphidanjafaa
open Go.ChangeShapes Go.WideShapes Go.ChangeAt Go.RowKit

theorem laid_out1 : laidOutB Try.prog = true := by kernel_rfl
def plainParams (P : Program) (ts : List TypeId) : Bool := ts.all fun t => P.readableRec t && decide (t < P.types.size)
section
variable {H : Type} {enc : TypeId × Value → H}
theorem trodAll_stays {P : Program} (hl : laidOutB P = true) {W W' : World} {sp' : Nat → Bool} : ∀ {ts : List TypeId} {vs : List Value} {ds : List (DataW H)} {ps : List MemPlace}, plainParams P ts = true →
    DataW.TrodAll enc P W 0 (fun _ => true) true ts vs ds ps → (∀ p ∈ ps, W.sameAt W' p) → (∀ p ∈ ps, sp' p.block = true) → DataW.TrodAll enc P W' 0 sp' true ts vs ds ps
  | [], vs, ds, ps, _, h, _, _ => by
    obtain ⟨rfl, rfl, rfl⟩ := trodAll_nil h
    exact trodAll_mk0
  | t :: ts, vs, ds, ps, hp, h, h1, h2 => by
    obtain ⟨v, vs', d, ds', p, q, rfl, rfl, rfl, hd, hr⟩ := trodAll_cons h
    simp only [plainParams, List.all_cons, Bool.and_eq_true, decide_eq_true_eq] at hp
    exact ⟨p, q, WideElems.Trod_stays hl hp.1.1 hp.1.2 hd (fun x hx => h1 x (List.mem_append_left _ hx)) (fun x hx => h2 x (List.mem_append_left _ hx)),
      trodAll_stays hl (by simpa [plainParams] using hp.2) hr (fun x hx => h1 x (List.mem_append_right _ hx)) (fun x hx => h2 x (List.mem_append_right _ hx)), rfl⟩

set_option maxRecDepth 100000 in
theorem law_post {f : Func} {s : ChangeSpec} {W W' : World} {args : Array Value} {ds gs : List (DataW H)} {before : List MemPlace}
    (hW : DataW.Whole enc Try.prog f.params.toList s.vars false W args.toList ds gs before) (hv : s.vars = []) (hfn : (s.fn H ds).results = [.lit (.bool true)] ∧ (s.fn H ds).args = ds) (hfv : (s.fn H ds).vars = [])
    (hrt : f.resultTypes = #[4]) (hp : plainParams Try.prog f.params.toList = true) (hb : Below W.heap.size W W') :
    s.post enc Try.prog f false true false false W args (.bool true) W' := by
  have hW' := hW
  obtain ⟨p, q, hA, hV, rfl, hfz, hnd⟩ := hW
  rw [hv] at hV
  obtain ⟨rfl, rfl⟩ := trodVars_none hV
  rw [List.append_nil] at hW'
  have hlt : ∀ x ∈ p, x.block < W.heap.size := fun x hx => hW'.lt x hx
  refine post_of_below (pa := p) (pv := []) hW' (fun _ _ _ => ?_) (fun sp hsp => ?_) (fun sp _ => ?_) (by simp) hb (ok_one hrt rfl (okWide_bool_mk Try.underlying4 _))
  · rw [List.append_nil, hfn.1, hrt]
    exact trodAll_cons_mk (shut_bool Try.underlying4 _) trodAll_mk0
  · rw [List.append_nil, hfn.2]
    exact trodAll_stays laid_out1 hp hA (fun x hx => hb.same (hlt x hx)) hsp
  · rw [List.append_nil, hfv, hv]
    rfl
end
end Go.Proofs.Ytlhfphidanjafaa
