/- TopClosed, so many wait, to send: true: by the kernel. -/
import Derived.Test.YtcnnhfdccflloaaGreatPa
set_option linter.unusedVariables false
set_option linter.unusedSimpArgs false
set_option maxRecDepth 100000
namespace Go.Proofs.YtcnnhfdccflloaaGreat.T
open Go.AM
noncomputable section
theorem w_0_true : G 0 true = (AV.b true = AV.b true) := by kernel_rfl
theorem w_1_true : G 1 true = (AV.b true = AV.b true) := by kernel_rfl
theorem w_2_true : G 2 true = (AV.b true = AV.b true) := by kernel_rfl
theorem w_3_true : G 3 true = (AV.b true = AV.b true) := by kernel_rfl
theorem w_4_true : G 4 true = (AV.b true = AV.b true) := by kernel_rfl
end
end Go.Proofs.YtcnnhfdccflloaaGreat.T
