/- WorldDeals, a room of 5, the first ahead: true: by the kernel, each number of values. -/
import Derived.Test.YtaegfanlpcbdaaaGreatPa
set_option linter.unusedVariables false
set_option linter.unusedSimpArgs false
set_option maxRecDepth 100000
namespace Go.Proofs.YtaegfanlpcbdaaaGreat.T
open Go.AM
noncomputable section
theorem w_5_0_true : G 5 0 true = (AV.b true = AV.b true) := by kernel_rfl
theorem w_5_1_true : G 5 1 true = (AV.b true = AV.b true) := by kernel_rfl
theorem w_5_2_true : G 5 2 true = (AV.b true = AV.b true) := by kernel_rfl
theorem w_5_3_true : G 5 3 true = (AV.b true = AV.b true) := by kernel_rfl
theorem w_5_4_true : G 5 4 true = (AV.b true = AV.b true) := by kernel_rfl
theorem w_5_5_true : G 5 5 true = (AV.b true = AV.b true) := by kernel_rfl
theorem w_5_6_true : G 5 6 true = (AV.b true = AV.b true) := by kernel_rfl
theorem w_5_7_true : G 5 7 true = (AV.b true = AV.b true) := by kernel_rfl
theorem w_5_8_true : G 5 8 true = (AV.b true = AV.b true) := by kernel_rfl
theorem w_5_9_true : G 5 9 true = (AV.b true = AV.b true) := by kernel_rfl
theorem w_5_10_true : G 5 10 true = (AV.b true = AV.b true) := by kernel_rfl
theorem v_5_true (n : Int) (h1 : 0 ≤ n) (h2 : n ≤ 10) : G 5 n true := by
  have h : n = 0 ∨ n = 1 ∨ n = 2 ∨ n = 3 ∨ n = 4 ∨ n = 5 ∨ n = 6 ∨ n = 7 ∨ n = 8 ∨ n = 9 ∨ n = 10 := by omega
  rcases h with rfl | rfl | rfl | rfl | rfl | rfl | rfl | rfl | rfl | rfl | rfl
  · exact of w_5_0_true
  · exact of w_5_1_true
  · exact of w_5_2_true
  · exact of w_5_3_true
  · exact of w_5_4_true
  · exact of w_5_5_true
  · exact of w_5_6_true
  · exact of w_5_7_true
  · exact of w_5_8_true
  · exact of w_5_9_true
  · exact of w_5_10_true
end
end Go.Proofs.YtaegfanlpcbdaaaGreat.T
