/- WorldDeals, a room of 1, the first ahead: false: by the kernel, each number of values. -/
import Derived.Test.YtaegfanlpcbdaaaGreatPa
set_option linter.unusedVariables false
set_option linter.unusedSimpArgs false
set_option maxRecDepth 100000
namespace Go.Proofs.YtaegfanlpcbdaaaGreat.T
open Go.AM
noncomputable section
theorem w_1_0_false : G 1 0 false = (AV.b true = AV.b true) := by kernel_rfl
theorem w_1_1_false : G 1 1 false = (AV.b true = AV.b true) := by kernel_rfl
theorem w_1_2_false : G 1 2 false = (AV.b true = AV.b true) := by kernel_rfl
theorem w_1_3_false : G 1 3 false = (AV.b true = AV.b true) := by kernel_rfl
theorem w_1_4_false : G 1 4 false = (AV.b true = AV.b true) := by kernel_rfl
theorem w_1_5_false : G 1 5 false = (AV.b true = AV.b true) := by kernel_rfl
theorem w_1_6_false : G 1 6 false = (AV.b true = AV.b true) := by kernel_rfl
theorem w_1_7_false : G 1 7 false = (AV.b true = AV.b true) := by kernel_rfl
theorem w_1_8_false : G 1 8 false = (AV.b true = AV.b true) := by kernel_rfl
theorem w_1_9_false : G 1 9 false = (AV.b true = AV.b true) := by kernel_rfl
theorem w_1_10_false : G 1 10 false = (AV.b true = AV.b true) := by kernel_rfl
theorem v_1_false (n : Int) (h1 : 0 ≤ n) (h2 : n ≤ 10) : G 1 n false := by
  have h : n = 0 ∨ n = 1 ∨ n = 2 ∨ n = 3 ∨ n = 4 ∨ n = 5 ∨ n = 6 ∨ n = 7 ∨ n = 8 ∨ n = 9 ∨ n = 10 := by omega
  rcases h with rfl | rfl | rfl | rfl | rfl | rfl | rfl | rfl | rfl | rfl | rfl
  · exact of w_1_0_false
  · exact of w_1_1_false
  · exact of w_1_2_false
  · exact of w_1_3_false
  · exact of w_1_4_false
  · exact of w_1_5_false
  · exact of w_1_6_false
  · exact of w_1_7_false
  · exact of w_1_8_false
  · exact of w_1_9_false
  · exact of w_1_10_false
end
end Go.Proofs.YtaegfanlpcbdaaaGreat.T
