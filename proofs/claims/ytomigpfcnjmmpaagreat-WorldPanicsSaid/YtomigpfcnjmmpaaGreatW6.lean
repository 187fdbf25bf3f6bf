/- WorldPanics with 6 others: by the kernel, each way. -/
import Derived.Test.YtomigpfcnjmmpaaGreatPa
set_option linter.unusedVariables false
set_option linter.unusedSimpArgs false
set_option maxRecDepth 100000
namespace Go.Proofs.YtomigpfcnjmmpaaGreat.T
open Go.AM
theorem w_0_6 : G 0 6 = (AV.b true = AV.b true) := by kernel_rfl
theorem w_1_6 : G 1 6 = (AV.b true = AV.b true) := by kernel_rfl
theorem w_2_6 : G 2 6 = (AV.b true = AV.b true) := by kernel_rfl
theorem w_3_6 : G 3 6 = (AV.b true = AV.b true) := by kernel_rfl
theorem w_4_6 : G 4 6 = (AV.b true = AV.b true) := by kernel_rfl
theorem w_5_6 : G 5 6 = (AV.b true = AV.b true) := by kernel_rfl
theorem w_6_6 : G 6 6 = (AV.b true = AV.b true) := by kernel_rfl
theorem w_7_6 : G 7 6 = (AV.b true = AV.b true) := by kernel_rfl
theorem w_8_6 : G 8 6 = (AV.b true = AV.b true) := by kernel_rfl
theorem v_6 (i : Int) (h1 : 0 ≤ i) (h2 : i ≤ 8) : G i 6 := by
  have h : i = 0 ∨ i = 1 ∨ i = 2 ∨ i = 3 ∨ i = 4 ∨ i = 5 ∨ i = 6 ∨ i = 7 ∨ i = 8 := by omega
  rcases h with rfl | rfl | rfl | rfl | rfl | rfl | rfl | rfl | rfl
  · exact of w_0_6
  · exact of w_1_6
  · exact of w_2_6
  · exact of w_3_6
  · exact of w_4_6
  · exact of w_5_6
  · exact of w_6_6
  · exact of w_7_6
  · exact of w_8_6
end Go.Proofs.YtomigpfcnjmmpaaGreat.T
