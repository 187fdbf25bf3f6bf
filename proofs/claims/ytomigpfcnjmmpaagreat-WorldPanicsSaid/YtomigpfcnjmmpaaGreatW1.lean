/- WorldPanics with 1 others: by the kernel, each way. -/
import Derived.Test.YtomigpfcnjmmpaaGreatPa
set_option linter.unusedVariables false
set_option linter.unusedSimpArgs false
set_option maxRecDepth 100000
namespace Go.Proofs.YtomigpfcnjmmpaaGreat.T
open Go.AM
theorem w_0_1 : G 0 1 = (AV.b true = AV.b true) := by kernel_rfl
theorem w_1_1 : G 1 1 = (AV.b true = AV.b true) := by kernel_rfl
theorem w_2_1 : G 2 1 = (AV.b true = AV.b true) := by kernel_rfl
theorem w_3_1 : G 3 1 = (AV.b true = AV.b true) := by kernel_rfl
theorem w_4_1 : G 4 1 = (AV.b true = AV.b true) := by kernel_rfl
theorem w_5_1 : G 5 1 = (AV.b true = AV.b true) := by kernel_rfl
theorem w_6_1 : G 6 1 = (AV.b true = AV.b true) := by kernel_rfl
theorem w_7_1 : G 7 1 = (AV.b true = AV.b true) := by kernel_rfl
theorem w_8_1 : G 8 1 = (AV.b true = AV.b true) := by kernel_rfl
theorem v_1 (i : Int) (h1 : 0 ≤ i) (h2 : i ≤ 8) : G i 1 := by
  have h : i = 0 ∨ i = 1 ∨ i = 2 ∨ i = 3 ∨ i = 4 ∨ i = 5 ∨ i = 6 ∨ i = 7 ∨ i = 8 := by omega
  rcases h with rfl | rfl | rfl | rfl | rfl | rfl | rfl | rfl | rfl
  · exact of w_0_1
  · exact of w_1_1
  · exact of w_2_1
  · exact of w_3_1
  · exact of w_4_1
  · exact of w_5_1
  · exact of w_6_1
  · exact of w_7_1
  · exact of w_8_1
end Go.Proofs.YtomigpfcnjmmpaaGreat.T
