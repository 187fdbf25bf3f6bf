/- WorldPanics with 3 others: by the kernel, each way. -/
import Derived.Test.YtomigpfcnjmmpaaGreatPa
set_option linter.unusedVariables false
set_option linter.unusedSimpArgs false
set_option maxRecDepth 100000
namespace Go.Proofs.YtomigpfcnjmmpaaGreat.T
open Go.AM
theorem w_0_3 : G 0 3 = (AV.b true = AV.b true) := by kernel_rfl
theorem w_1_3 : G 1 3 = (AV.b true = AV.b true) := by kernel_rfl
theorem w_2_3 : G 2 3 = (AV.b true = AV.b true) := by kernel_rfl
theorem w_3_3 : G 3 3 = (AV.b true = AV.b true) := by kernel_rfl
theorem w_4_3 : G 4 3 = (AV.b true = AV.b true) := by kernel_rfl
theorem w_5_3 : G 5 3 = (AV.b true = AV.b true) := by kernel_rfl
theorem w_6_3 : G 6 3 = (AV.b true = AV.b true) := by kernel_rfl
theorem w_7_3 : G 7 3 = (AV.b true = AV.b true) := by kernel_rfl
theorem w_8_3 : G 8 3 = (AV.b true = AV.b true) := by kernel_rfl
theorem v_3 (i : Int) (h1 : 0 ≤ i) (h2 : i ≤ 8) : G i 3 := by
  have h : i = 0 ∨ i = 1 ∨ i = 2 ∨ i = 3 ∨ i = 4 ∨ i = 5 ∨ i = 6 ∨ i = 7 ∨ i = 8 := by omega
  rcases h with rfl | rfl | rfl | rfl | rfl | rfl | rfl | rfl | rfl
  · exact of w_0_3
  · exact of w_1_3
  · exact of w_2_3
  · exact of w_3_3
  · exact of w_4_3
  · exact of w_5_3
  · exact of w_6_3
  · exact of w_7_3
  · exact of w_8_3
end Go.Proofs.YtomigpfcnjmmpaaGreat.T
