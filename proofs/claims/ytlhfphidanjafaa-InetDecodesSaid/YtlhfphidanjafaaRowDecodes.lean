/- Proved here: slipwaylaw09.InetDecodes returns true for every two lists of bytes, and leaves what it reads as it was. -/
import Derived.Test.YtlhfphidanjafaaRowKit1
import Derived.Test.YtlhfphidanjafaaOpen
import Derived.Test.YtlhfphidanjafaaDecodes
import Derived.Carry
set_option linter.unusedVariables false
namespace Go.Proofs.Ytlhfphidanjafaa.inetDecodes
open Go.ChangeShapes Go.WideShapes Go.ChangeAt Go.RowKit

set_option maxRecDepth 100000 in
theorem lifted (os : Os) (started : os.Started) (H : Type) (enc : TypeId × Value → H) :
    ReturnsInHanded {} Try.checked os 5 .any (Rows.inetDecodesSpec.pre6 enc Try.prog Try.f5 Rows.inetDecodesRow.domain false) (Rows.inetDecodesSpec.post enc Try.prog Try.f5 false true false false) := by
  refine returnsInHanded_of_change_sized (C := Try.checked) own_knob started (by kernel_rfl) Try.func5
    (ChangeSpec.witness6 (enc := enc) (C := Try.checked) false ⟨#[], #[.slice none 0 0, .slice none 0 0], []⟩ 8 (by kernel_rfl) (by kernel_rfl) (by kernel_rfl) (by kernel_rfl)) ?_
  intro W base args ds gs before hval hW _ hsz0 _
  have hsz : (DataW.weightsEach Try.prog (Try.f5.params.toList ++ Rows.inetDecodesSpec.plain.varTypes Try.prog) (ds ++ gs)).all (· ≤ reachBytes) = true := hsz0
  have hW' := hW
  obtain ⟨p, q, hA0, hV, rfl, hfz, hnd⟩ := hW
  have hA : DataW.TrodAll enc Try.prog W 0 (fun _ => true) true Try.f5.params.toList args.toList ds p := hA0
  rw [Try.params5] at hA hval hsz
  obtain ⟨v0, v1, d0, d1, p0, p1, rfl, rfl, rfl, h0, h1⟩ := trodAll_two hA
  obtain ⟨A, n, c, rfl⟩ := okWide_slice Try.underlying28 (hval 0 28 v0 rfl rfl)
  obtain ⟨l, hn, hc, hcm, hRA, hbig⟩ := open_bytes h0
  obtain ⟨C, k, d, rfl⟩ := okWide_slice Try.underlying28 (hval 1 28 v1 rfl rfl)
  obtain ⟨m, hk, hd, hdm, hRC, hbig2⟩ := open_bytes h1
  have hl := hbig _ _ 0 hsz rfl rfl
  have hm := hbig2 _ _ 1 hsz rfl rfl
  clear hA0 hsz hsz0
  refine (InetDecodes_any A l n c C m k d W hn hRA hc hcm hl hk hRC hd hdm hm).mono fun e W' ⟨he, hg⟩ => ?_
  subst he
  exact ⟨_, rfl, law_post hW' rfl ⟨rfl, rfl⟩ rfl (by kernel_rfl) (by kernel_rfl) hg⟩

theorem over : Rows.inetDecodesRow.holds Try.pinned (OpenSpec.ofChange Rows.inetDecodesSpec) :=
  OpenClaim.holds_of_wide 5 Try.f5 rfl rfl rfl rfl rfl rfl rfl ⟨rfl, rfl, rfl, rfl, rfl⟩ rfl rfl rfl rfl rfl (by kernel_rfl) Try.func5 (by kernel_rfl)
    (of_decide_eq_true (by kernel_rfl)) (by unfold Func.isWrapper; first | (rw [if_pos (by decide +kernel)]; kernel_rfl) | (rw [if_neg (by decide +kernel)]; exact ⟨rfl, rfl⟩))
    (fun os started H enc _ => lifted os started H enc)

theorem proved : Rows.InetDecodesSaid :=
  over
end Go.Proofs.Ytlhfphidanjafaa.inetDecodes
