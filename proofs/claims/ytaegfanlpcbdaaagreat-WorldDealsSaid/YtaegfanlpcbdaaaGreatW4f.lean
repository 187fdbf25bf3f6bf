/- WorldDeals, a room of 4, the first ahead: false: by the kernel, each number of values. -/
import Derived.Test.YtaegfanlpcbdaaaGreatPa
set_option linter.unusedVariables false
set_option linter.unusedSimpArgs false
set_option maxRecDepth 100000
namespace Go.Proofs.YtaegfanlpcbdaaaGreat.T
open Go.AM
noncomputable section
theorem w_4_0_false : G 4 0 false = (AV.b true = AV.b true) := by kernel_rfl
theorem w_4_1_false : G 4 1 false = (AV.b true = AV.b true) := by kernel_rfl
theorem w_4_2_false : G 4 2 false = (AV.b true = AV.b true) := by kernel_rfl
theorem w_4_3_false : G 4 3 false = (AV.b true = AV.b true) := by kernel_rfl
theorem w_4_4_false : G 4 4 false = (AV.b true = AV.b true) := by kernel_rfl
theorem w_4_5_false : G 4 5 false = (AV.b true = AV.b true) := by kernel_rfl
theorem w_4_6_false : G 4 6 false = (AV.b true = AV.b true) := by kernel_rfl
theorem w_4_7_false : G 4 7 false = (AV.b true = AV.b true) := by kernel_rfl
theorem w_4_8_false : G 4 8 false = (AV.b true = AV.b true) := by kernel_rfl
theorem w_4_9_false : G 4 9 false = (AV.b true = AV.b true) := by kernel_rfl
theorem w_4_10_false : G 4 10 false = (AV.b true = AV.b true) := by kernel_rfl
theorem v_4_false (n : Int) (h1 : 0 ≤ n) (h2 : n ≤ 10) : G 4 n false := by
  have h : n = 0 ∨ n = 1 ∨ n = 2 ∨ n = 3 ∨ n = 4 ∨ n = 5 ∨ n = 6 ∨ n = 7 ∨ n = 8 ∨ n = 9 ∨ n = 10 := by omega
  rcases h with rfl | rfl | rfl | rfl | rfl | rfl | rfl | rfl | rfl | rfl | rfl
  · exact of w_4_0_false
  · exact of w_4_1_false
  · exact of w_4_2_false
  · exact of w_4_3_false
  · exact of w_4_4_false
  · exact of w_4_5_false
  · exact of w_4_6_false
  · exact of w_4_7_false
  · exact of w_4_8_false
  · exact of w_4_9_false
  · exact of w_4_10_false
end
end Go.Proofs.YtaegfanlpcbdaaaGreat.T
