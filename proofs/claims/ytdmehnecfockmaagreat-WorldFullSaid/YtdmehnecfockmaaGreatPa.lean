/- WorldFull: what its numbers may be. -/
import Derived.Test.YtdmehnecfockmaaGreatYD
import Derived.Test.YtdmehnecfockmaaGreatWorldFullG2
set_option linter.unusedVariables false
set_option linter.unusedSimpArgs false
set_option maxRecDepth 100000
namespace Go.Proofs.YtdmehnecfockmaaGreat.T
open Go.AM
noncomputable section
def C59 : CS := CT (disp zK) 59
def Qt : KS := fun v _ => v = .b true
def S0 : St := ⟨.nil, 0⟩
theorem law_eq (x0 x1 : AV) : CT (disp zK) 60 3 [x0, x1] S0 Qt = Y_3_1 C59 Qt x0 x1 S0 := by kernel_rfl
theorem aw_eq (S : St) (k : KS) : C59 8 [] S k = k (.b true) S := by kernel_rfl
theorem round_4 (a : Int) (S : St) (k : KS) : C59 4 [.i .i64 a, .i .i64 4] S k = k (.i .i64 (rdN 4 a)) S := by
  refine Eq.trans ?_ (round_i (n := 4) (by omega) (by omega) a S k)
  kernel_rfl
theorem round_3 (a : Int) (S : St) (k : KS) : C59 4 [.i .i64 a, .i .i64 3] S k = k (.i .i64 (rdN 3 a)) S := by
  refine Eq.trans ?_ (round_i (n := 3) (by omega) (by omega) a S k)
  kernel_rfl
@[irreducible] def G (k : Int) (more : Int) : Prop := Y_3_1 C59 Qt (.i .i64 k) (.i .i64 more) S0
theorem G_def (k : Int) (more : Int) : G k more = Y_3_1 C59 Qt (.i .i64 k) (.i .i64 more) S0 := by kernel_rfl
end
end Go.Proofs.YtdmehnecfockmaaGreat.T
