/- WorldDeals, a room of 2, the first ahead: false: by the kernel, each number of values. -/
import Derived.Test.YtaegfanlpcbdaaaGreatPa
set_option linter.unusedVariables false
set_option linter.unusedSimpArgs false
set_option maxRecDepth 100000
namespace Go.Proofs.YtaegfanlpcbdaaaGreat.T
open Go.AM
noncomputable section
theorem w_2_0_false : G 2 0 false = (AV.b true = AV.b true) := by kernel_rfl
theorem w_2_1_false : G 2 1 false = (AV.b true = AV.b true) := by kernel_rfl
theorem w_2_2_false : G 2 2 false = (AV.b true = AV.b true) := by kernel_rfl
theorem w_2_3_false : G 2 3 false = (AV.b true = AV.b true) := by kernel_rfl
theorem w_2_4_false : G 2 4 false = (AV.b true = AV.b true) := by kernel_rfl
theorem w_2_5_false : G 2 5 false = (AV.b true = AV.b true) := by kernel_rfl
theorem w_2_6_false : G 2 6 false = (AV.b true = AV.b true) := by kernel_rfl
theorem w_2_7_false : G 2 7 false = (AV.b true = AV.b true) := by kernel_rfl
theorem w_2_8_false : G 2 8 false = (AV.b true = AV.b true) := by kernel_rfl
theorem w_2_9_false : G 2 9 false = (AV.b true = AV.b true) := by kernel_rfl
theorem w_2_10_false : G 2 10 false = (AV.b true = AV.b true) := by kernel_rfl
theorem v_2_false (n : Int) (h1 : 0 ≤ n) (h2 : n ≤ 10) : G 2 n false := by
  have h : n = 0 ∨ n = 1 ∨ n = 2 ∨ n = 3 ∨ n = 4 ∨ n = 5 ∨ n = 6 ∨ n = 7 ∨ n = 8 ∨ n = 9 ∨ n = 10 := by omega
  rcases h with rfl | rfl | rfl | rfl | rfl | rfl | rfl | rfl | rfl | rfl | rfl
  · exact of w_2_0_false
  · exact of w_2_1_false
  · exact of w_2_2_false
  · exact of w_2_3_false
  · exact of w_2_4_false
  · exact of w_2_5_false
  · exact of w_2_6_false
  · exact of w_2_7_false
  · exact of w_2_8_false
  · exact of w_2_9_false
  · exact of w_2_10_false
end
end Go.Proofs.YtaegfanlpcbdaaaGreat.T
