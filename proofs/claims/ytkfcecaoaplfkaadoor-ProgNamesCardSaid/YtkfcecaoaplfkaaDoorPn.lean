/- ProgNames: its ways. -/
import Derived.Test.YtkfcecaoaplfkaaDoorYD
import Derived.Test.YtkfcecaoaplfkaaDoorNmG2
set_option linter.unusedVariables false
set_option linter.unusedSimpArgs false
set_option maxRecDepth 100000
namespace Go.Proofs.YtkfcecaoaplfkaaDoor.T
open Go.AM
noncomputable section
def Cn : CS := CT (disp zK) 59
def Qn : KS := fun v _ => v = .b true
theorem lawN_eq (x0 x1 : AV) : CT (disp zK) 60 7 [x0, x1] S0 Qn = Y_7_1 Cn Qn x0 x1 S0 := by kernel_rfl
theorem awN_eq (S : St) (k : KS) : Cn 9 [] S k = k (.b true) S := by kernel_rfl
@[irreducible] def Gn (a : Int) (b : Int) : Prop := Y_7_1 Cn Qn (.i .i64 a) (.i .i64 b) S0
theorem Gn_def (a : Int) (b : Int) : Gn a b = Y_7_1 Cn Qn (.i .i64 a) (.i .i64 b) S0 := by kernel_rfl
end
end Go.Proofs.YtkfcecaoaplfkaaDoor.T
