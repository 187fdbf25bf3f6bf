/- WorldPanics: what its first number may be; what is behind its guard. -/
import Derived.Test.YtomigpfcnjmmpaaGreatYD
import Derived.Test.YtomigpfcnjmmpaaGreatWorldPanicsG2
set_option linter.unusedVariables false
set_option maxRecDepth 100000
namespace Go.Proofs.YtomigpfcnjmmpaaGreat.T
open Go.AM
noncomputable section
def C59 : CS := CT (disp zK) 59
def Qt : KS := fun v _ => v = .b true
def S0 : St := ⟨.nil, 0⟩
theorem law_eq (x y : AV) : CT (disp zK) 60 3 [x, y] S0 Qt = Y_3_1 C59 Qt x y S0 := by kernel_rfl
theorem aw_eq (S : St) (k : KS) : C59 4 [] S k = k (.b true) S := by kernel_rfl
theorem round_eq (a : Int) (S : St) (k : KS) : C59 5 [.i .i64 a, .i .i64 9] S k = k (.i .i64 (rdN 9 a)) S := by
  refine Eq.trans ?_ (round_i (n := 9) (by omega) (by omega) a S k)
  kernel_rfl
@[irreducible] def G (i o : Int) : Prop := Y_3_1 C59 Qt (.i .i64 i) (.i .i64 o) S0
theorem G_def (i o : Int) : G i o = Y_3_1 C59 Qt (.i .i64 i) (.i .i64 o) S0 := by kernel_rfl
end
end Go.Proofs.YtomigpfcnjmmpaaGreat.T
