/- the numbers have their names -/
import Derived.Test.YtlhfphidanjafaaAwake
set_option linter.unusedVariables false
set_option linter.unusedSimpArgs false
namespace Go.Proofs.Ytlhfphidanjafaa
open Go.RowKit

set_option maxHeartbeats 1000000 in
theorem InetNames_any (w : World) : Calls Try.prog 3 #[] w fun e w' => e = .returned (.bool true) ∧ Below w.heap.size w w' := by
  go_enter Try.func3, Try.ntmps3
  go_wp2_with fail
  refine (awake_any w).mono ?_
  rintro e w1 ⟨rfl, hb1⟩
  go_wp2_with fail
  go_loop [3] (fun i => ∃ j : Nat, j ≤ 6 ∧ i = .int .i64 (j : Int)) (fun i => (6 - intOf i).toNat)
  case atStart => exact ⟨0, by omega, rfl⟩
  case round =>
    obtain ⟨j, hj, rfl⟩ := hrel
    by_cases hlt : j < 6
    · have h6 : j = 0 ∨ j = 1 ∨ j = 2 ∨ j = 3 ∨ j = 4 ∨ j = 5 := by omega
      rcases h6 with rfl | rfl | rfl | rfl | rfl | rfl
      all_goals
        go_wp2
        go_round
        case rel => first | exact ⟨1, by omega, rfl⟩ | exact ⟨2, by omega, rfl⟩ | exact ⟨3, by omega, rfl⟩ | exact ⟨4, by omega, rfl⟩ | exact ⟨5, by omega, rfl⟩ | exact ⟨6, by omega, rfl⟩
        case measure => simp [intOf]
    · obtain rfl : j = 6 := by omega
      go_wp2
      go_ret
      exact ⟨rfl, hb1.alloc hb1.size _⟩
end Go.Proofs.Ytlhfphidanjafaa
