/- Part of the proof: an evaluator of the model's code over pure trees, and what it computes. No condition of its own. -/
import Derived.Test.YtjpmhmpiglbioaaGreatDoorWh
import Derived.KernelRfl
set_option linter.unusedSimpArgs false
set_option linter.unusedVariables false
namespace Go.Wn
open Go Go.Proofs
theorem codes0 : codesOk env0 fnT = true := by kernel_rfl

theorem env0_ok : EnvOk Tryz.prog env0 where
  tab := tabOk_of tyT_ok fnT_ok
  code := fun f fn c _ hf hb => codesOk_get fnT f fn c codes0 hf hb
  sump := fun f S h => by cases h
  sum := fun f S h => by cases h
end Go.Wn
