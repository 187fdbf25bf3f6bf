/- TopClosed, so many wait, to send: false: by the kernel. -/
import Derived.Test.YtcnnhfdccflloaaGreatPa
set_option linter.unusedVariables false
set_option linter.unusedSimpArgs false
set_option maxRecDepth 100000
namespace Go.Proofs.YtcnnhfdccflloaaGreat.T
open Go.AM
noncomputable section
theorem w_0_false : G 0 false = (AV.b true = AV.b true) := by kernel_rfl
theorem w_1_false : G 1 false = (AV.b true = AV.b true) := by kernel_rfl
theorem w_2_false : G 2 false = (AV.b true = AV.b true) := by kernel_rfl
theorem w_3_false : G 3 false = (AV.b true = AV.b true) := by kernel_rfl
theorem w_4_false : G 4 false = (AV.b true = AV.b true) := by kernel_rfl
end
end Go.Proofs.YtcnnhfdccflloaaGreat.T
