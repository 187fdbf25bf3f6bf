/- WorldPanics with 7 others: by the kernel, each way. -/
import Derived.Test.YtomigpfcnjmmpaaGreatPa
set_option linter.unusedVariables false
set_option linter.unusedSimpArgs false
set_option maxRecDepth 100000
namespace Go.Proofs.YtomigpfcnjmmpaaGreat.T
open Go.AM
theorem w_0_7 : G 0 7 = (AV.b true = AV.b true) := by kernel_rfl
theorem w_1_7 : G 1 7 = (AV.b true = AV.b true) := by kernel_rfl
theorem w_2_7 : G 2 7 = (AV.b true = AV.b true) := by kernel_rfl
theorem w_3_7 : G 3 7 = (AV.b true = AV.b true) := by kernel_rfl
theorem w_4_7 : G 4 7 = (AV.b true = AV.b true) := by kernel_rfl
theorem w_5_7 : G 5 7 = (AV.b true = AV.b true) := by kernel_rfl
theorem w_6_7 : G 6 7 = (AV.b true = AV.b true) := by kernel_rfl
theorem w_7_7 : G 7 7 = (AV.b true = AV.b true) := by kernel_rfl
theorem w_8_7 : G 8 7 = (AV.b true = AV.b true) := by kernel_rfl
theorem v_7 (i : Int) (h1 : 0 ≤ i) (h2 : i ≤ 8) : G i 7 := by
  have h : i = 0 ∨ i = 1 ∨ i = 2 ∨ i = 3 ∨ i = 4 ∨ i = 5 ∨ i = 6 ∨ i = 7 ∨ i = 8 := by omega
  rcases h with rfl | rfl | rfl | rfl | rfl | rfl | rfl | rfl | rfl
  · exact of w_0_7
  · exact of w_1_7
  · exact of w_2_7
  · exact of w_3_7
  · exact of w_4_7
  · exact of w_5_7
  · exact of w_6_7
  · exact of w_7_7
  · exact of w_8_7
end Go.Proofs.YtomigpfcnjmmpaaGreat.T
