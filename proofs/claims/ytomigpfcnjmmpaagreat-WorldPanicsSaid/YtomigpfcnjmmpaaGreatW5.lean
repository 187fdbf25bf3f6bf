/- WorldPanics with 5 others: by the kernel, each way. -/
import Derived.Test.YtomigpfcnjmmpaaGreatPa
set_option linter.unusedVariables false
set_option linter.unusedSimpArgs false
set_option maxRecDepth 100000
namespace Go.Proofs.YtomigpfcnjmmpaaGreat.T
open Go.AM
theorem w_0_5 : G 0 5 = (AV.b true = AV.b true) := by kernel_rfl
theorem w_1_5 : G 1 5 = (AV.b true = AV.b true) := by kernel_rfl
theorem w_2_5 : G 2 5 = (AV.b true = AV.b true) := by kernel_rfl
theorem w_3_5 : G 3 5 = (AV.b true = AV.b true) := by kernel_rfl
theorem w_4_5 : G 4 5 = (AV.b true = AV.b true) := by kernel_rfl
theorem w_5_5 : G 5 5 = (AV.b true = AV.b true) := by kernel_rfl
theorem w_6_5 : G 6 5 = (AV.b true = AV.b true) := by kernel_rfl
theorem w_7_5 : G 7 5 = (AV.b true = AV.b true) := by kernel_rfl
theorem w_8_5 : G 8 5 = (AV.b true = AV.b true) := by kernel_rfl
theorem v_5 (i : Int) (h1 : 0 ≤ i) (h2 : i ≤ 8) : G i 5 := by
  have h : i = 0 ∨ i = 1 ∨ i = 2 ∨ i = 3 ∨ i = 4 ∨ i = 5 ∨ i = 6 ∨ i = 7 ∨ i = 8 := by omega
  rcases h with rfl | rfl | rfl | rfl | rfl | rfl | rfl | rfl | rfl
  · exact of w_0_5
  · exact of w_1_5
  · exact of w_2_5
  · exact of w_3_5
  · exact of w_4_5
  · exact of w_5_5
  · exact of w_6_5
  · exact of w_7_5
  · exact of w_8_5
end Go.Proofs.YtomigpfcnjmmpaaGreat.T
