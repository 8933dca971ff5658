/- Part of the proof: an evaluator of the model's code over pure trees, and what it computes. No condition of its own. -/
import Derived.Test.YtjpmhmpiglbioaaGreatDoorWj
set_option linter.unusedSimpArgs false
set_option linter.unusedVariables false
namespace Go.Wn
open Go Go.Proofs
theorem awake15 : (hand env1 200).1 ⟨0, 0⟩ 43 [] [] = some (.p (.b true), []) := by kernel_rfl
end Go.Wn
