/- WorldFull, what is made 2, 0 more: by the kernel. -/
import Derived.Test.YtdmehnecfockmaaGreatPa
set_option linter.unusedVariables false
set_option linter.unusedSimpArgs false
set_option maxRecDepth 100000
namespace Go.Proofs.YtdmehnecfockmaaGreat.T
open Go.AM
noncomputable section
theorem w_2_0 : G 2 0 = (AV.b true = AV.b true) := by kernel_rfl
end
end Go.Proofs.YtdmehnecfockmaaGreat.T
