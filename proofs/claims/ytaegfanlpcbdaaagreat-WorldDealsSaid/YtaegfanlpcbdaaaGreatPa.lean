/- WorldDeals: what is behind its guard. -/
import Derived.Test.YtaegfanlpcbdaaaGreatYD
import Derived.Test.YtaegfanlpcbdaaaGreatWorldDealsG2
set_option linter.unusedVariables false
set_option linter.unusedSimpArgs false
set_option maxRecDepth 100000
namespace Go.Proofs.YtaegfanlpcbdaaaGreat.T
open Go.AM
noncomputable section
def C59 : CS := CT (disp zK) 59
def Qt : KS := fun v _ => v = .b true
def S0 : St := ⟨.nil, 0⟩
theorem law_eq (x0 x1 x2 : AV) : CT (disp zK) 60 3 [x0, x1, x2] S0 Qt = Y_3_1 C59 Qt x0 x1 x2 S0 := by kernel_rfl
theorem aw_eq (S : St) (k : KS) : C59 4 [] S k = k (.b true) S := by kernel_rfl
@[irreducible] def G (room : Int) (n : Int) (first : Bool) : Prop := Y_3_1 C59 Qt (.i .i64 room) (.i .i64 n) (.b first) S0
theorem G_def (room : Int) (n : Int) (first : Bool) : G room n first = Y_3_1 C59 Qt (.i .i64 room) (.i .i64 n) (.b first) S0 := by kernel_rfl
end
end Go.Proofs.YtaegfanlpcbdaaaGreat.T
