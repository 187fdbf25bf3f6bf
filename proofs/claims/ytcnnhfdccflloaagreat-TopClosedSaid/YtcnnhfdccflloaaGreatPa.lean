/- TopClosed: what is behind its guard. -/
import Derived.Test.YtcnnhfdccflloaaGreatYD
import Derived.Test.YtcnnhfdccflloaaGreatTopClosedG2
set_option linter.unusedVariables false
set_option linter.unusedSimpArgs false
set_option maxRecDepth 100000
namespace Go.Proofs.YtcnnhfdccflloaaGreat.T
open Go.AM
noncomputable section
def C59 : CS := CT (disp zK) 59
def Qt : KS := fun v _ => v = .b true
def S0 : St := ⟨.nil, 0⟩
theorem law_eq (x0 x1 : AV) : CT (disp zK) 60 3 [x0, x1] S0 Qt = Y_3_1 C59 Qt x0 x1 S0 := by kernel_rfl
theorem aw_eq (S : St) (k : KS) : C59 4 [] S k = k (.b true) S := by kernel_rfl
@[irreducible] def G (n : Int) (send : Bool) : Prop := Y_3_1 C59 Qt (.i .i64 n) (.b send) S0
theorem G_def (n : Int) (send : Bool) : G n send = Y_3_1 C59 Qt (.i .i64 n) (.b send) S0 := by kernel_rfl
end
end Go.Proofs.YtcnnhfdccflloaaGreat.T
