/- Proved here: slipwaylaw09.InetEncodes returns true for every two heads and every two lists of data, and leaves what it reads as it was. -/
import Derived.Test.YtlhfphidanjafaaRowKit1
import Derived.Test.YtlhfphidanjafaaOpen
import Derived.Test.YtlhfphidanjafaaEncodes
import Derived.Carry
set_option linter.unusedVariables false
namespace Go.Proofs.Ytlhfphidanjafaa.inetEncodes
open Go.ChangeShapes Go.WideShapes Go.ChangeAt Go.RowKit

set_option maxRecDepth 100000 in
theorem lifted (os : Os) (started : os.Started) (H : Type) (enc : TypeId × Value → H) :
    ReturnsInHanded {} Try.checked os 4 .any (Rows.inetEncodesSpec.pre6 enc Try.prog Try.f4 Rows.inetEncodesRow.domain false) (Rows.inetEncodesSpec.post enc Try.prog Try.f4 false true false false) := by
  refine returnsInHanded_of_change_sized (C := Try.checked) own_knob started (by kernel_rfl) Try.func4
    (ChangeSpec.witness6 (enc := enc) (C := Try.checked) false ⟨#[], #[.agg #[.int .i64 0, .int .i64 0, .int .i64 0, .int .i64 0, .bool false, .int .u32 0, .int .u32 0], .slice none 0 0, .agg #[.int .i64 0, .int .i64 0, .int .i64 0, .int .i64 0, .bool false, .int .u32 0, .int .u32 0], .slice none 0 0], []⟩ 8 (by kernel_rfl) (by kernel_rfl) (by kernel_rfl) (by kernel_rfl)) ?_
  intro W base args ds gs before hval hW _ hsz0 _
  have hsz : (DataW.weightsEach Try.prog (Try.f4.params.toList ++ Rows.inetEncodesSpec.plain.varTypes Try.prog) (ds ++ gs)).all (· ≤ reachBytes) = true := hsz0
  have hW' := hW
  obtain ⟨p, q, hA0, hV, rfl, hfz, hnd⟩ := hW
  have hA : DataW.TrodAll enc Try.prog W 0 (fun _ => true) true Try.f4.params.toList args.toList ds p := hA0
  rw [Try.params4] at hA hval hsz
  obtain ⟨v0, v1, v2, v3, d0, d1, d2, d3, p0, p1, p2, p3, rfl, rfl, rfl, h0, h1, h2, h3⟩ := trodAll_four hA
  obtain ⟨h, rfl, hwf⟩ := open_hd (hval 0 27 v0 rfl rfl) h0
  obtain ⟨A, n, c, rfl⟩ := okWide_slice Try.underlying28 (hval 1 28 v1 rfl rfl)
  obtain ⟨l, hn, hc, hcm, hRA, hbig⟩ := open_bytes h1
  obtain ⟨g, rfl, gwf⟩ := open_hd (hval 2 27 v2 rfl rfl) h2
  obtain ⟨C, k, d, rfl⟩ := okWide_slice Try.underlying28 (hval 3 28 v3 rfl rfl)
  obtain ⟨m, hk, hd, hdm, hRC, hbig2⟩ := open_bytes h3
  have hl := hbig _ _ 1 hsz rfl rfl
  have hm := hbig2 _ _ 3 hsz rfl rfl
  clear hA0 hsz hsz0
  refine (InetEncodes_any h g hwf gwf A l n c C m k d W hn hRA hc hcm hl hk hRC hd hdm hm).mono fun e W' ⟨he, hg⟩ => ?_
  subst he
  exact ⟨_, rfl, law_post hW' rfl ⟨rfl, rfl⟩ rfl (by kernel_rfl) (by kernel_rfl) hg⟩

theorem over : Rows.inetEncodesRow.holds Try.pinned (OpenSpec.ofChange Rows.inetEncodesSpec) :=
  OpenClaim.holds_of_wide 4 Try.f4 rfl rfl rfl rfl rfl rfl rfl ⟨rfl, rfl, rfl, rfl, rfl⟩ rfl rfl rfl rfl rfl (by kernel_rfl) Try.func4 (by kernel_rfl)
    (of_decide_eq_true (by kernel_rfl)) (by unfold Func.isWrapper; first | (rw [if_pos (by decide +kernel)]; kernel_rfl) | (rw [if_neg (by decide +kernel)]; exact ⟨rfl, rfl⟩))
    (fun os started H enc _ => lifted os started H enc)

theorem proved : Rows.InetEncodesSaid :=
  over
end Go.Proofs.Ytlhfphidanjafaa.inetEncodes
