/- WorldDeals, a room of 3, the first ahead: false: by the kernel, each number of values. -/
import Derived.Test.YtaegfanlpcbdaaaGreatPa
set_option linter.unusedVariables false
set_option linter.unusedSimpArgs false
set_option maxRecDepth 100000
namespace Go.Proofs.YtaegfanlpcbdaaaGreat.T
open Go.AM
noncomputable section
theorem w_3_0_false : G 3 0 false = (AV.b true = AV.b true) := by kernel_rfl
theorem w_3_1_false : G 3 1 false = (AV.b true = AV.b true) := by kernel_rfl
theorem w_3_2_false : G 3 2 false = (AV.b true = AV.b true) := by kernel_rfl
theorem w_3_3_false : G 3 3 false = (AV.b true = AV.b true) := by kernel_rfl
theorem w_3_4_false : G 3 4 false = (AV.b true = AV.b true) := by kernel_rfl
theorem w_3_5_false : G 3 5 false = (AV.b true = AV.b true) := by kernel_rfl
theorem w_3_6_false : G 3 6 false = (AV.b true = AV.b true) := by kernel_rfl
theorem w_3_7_false : G 3 7 false = (AV.b true = AV.b true) := by kernel_rfl
theorem w_3_8_false : G 3 8 false = (AV.b true = AV.b true) := by kernel_rfl
theorem w_3_9_false : G 3 9 false = (AV.b true = AV.b true) := by kernel_rfl
theorem w_3_10_false : G 3 10 false = (AV.b true = AV.b true) := by kernel_rfl
theorem v_3_false (n : Int) (h1 : 0 ≤ n) (h2 : n ≤ 10) : G 3 n false := by
  have h : n = 0 ∨ n = 1 ∨ n = 2 ∨ n = 3 ∨ n = 4 ∨ n = 5 ∨ n = 6 ∨ n = 7 ∨ n = 8 ∨ n = 9 ∨ n = 10 := by omega
  rcases h with rfl | rfl | rfl | rfl | rfl | rfl | rfl | rfl | rfl | rfl | rfl
  · exact of w_3_0_false
  · exact of w_3_1_false
  · exact of w_3_2_false
  · exact of w_3_3_false
  · exact of w_3_4_false
  · exact of w_3_5_false
  · exact of w_3_6_false
  · exact of w_3_7_false
  · exact of w_3_8_false
  · exact of w_3_9_false
  · exact of w_3_10_false
end
end Go.Proofs.YtaegfanlpcbdaaaGreat.T
