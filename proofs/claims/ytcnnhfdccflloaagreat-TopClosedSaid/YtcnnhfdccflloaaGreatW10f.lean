/- TopClosed, so many wait, to send: false: by the kernel. -/
import Derived.Test.YtcnnhfdccflloaaGreatPa
set_option linter.unusedVariables false
set_option linter.unusedSimpArgs false
set_option maxRecDepth 100000
namespace Go.Proofs.YtcnnhfdccflloaaGreat.T
open Go.AM
noncomputable section
theorem w_10_false : G 10 false = (AV.b true = AV.b true) := by kernel_rfl
end
end Go.Proofs.YtcnnhfdccflloaaGreat.T
