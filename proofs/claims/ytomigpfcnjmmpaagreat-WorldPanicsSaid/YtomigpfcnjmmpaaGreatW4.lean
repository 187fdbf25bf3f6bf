/- WorldPanics with 4 others: by the kernel, each way. -/
import Derived.Test.YtomigpfcnjmmpaaGreatPa
set_option linter.unusedVariables false
set_option linter.unusedSimpArgs false
set_option maxRecDepth 100000
namespace Go.Proofs.YtomigpfcnjmmpaaGreat.T
open Go.AM
theorem w_0_4 : G 0 4 = (AV.b true = AV.b true) := by kernel_rfl
theorem w_1_4 : G 1 4 = (AV.b true = AV.b true) := by kernel_rfl
theorem w_2_4 : G 2 4 = (AV.b true = AV.b true) := by kernel_rfl
theorem w_3_4 : G 3 4 = (AV.b true = AV.b true) := by kernel_rfl
theorem w_4_4 : G 4 4 = (AV.b true = AV.b true) := by kernel_rfl
theorem w_5_4 : G 5 4 = (AV.b true = AV.b true) := by kernel_rfl
theorem w_6_4 : G 6 4 = (AV.b true = AV.b true) := by kernel_rfl
theorem w_7_4 : G 7 4 = (AV.b true = AV.b true) := by kernel_rfl
theorem w_8_4 : G 8 4 = (AV.b true = AV.b true) := by kernel_rfl
theorem v_4 (i : Int) (h1 : 0 ≤ i) (h2 : i ≤ 8) : G i 4 := by
  have h : i = 0 ∨ i = 1 ∨ i = 2 ∨ i = 3 ∨ i = 4 ∨ i = 5 ∨ i = 6 ∨ i = 7 ∨ i = 8 := by omega
  rcases h with rfl | rfl | rfl | rfl | rfl | rfl | rfl | rfl | rfl
  · exact of w_0_4
  · exact of w_1_4
  · exact of w_2_4
  · exact of w_3_4
  · exact of w_4_4
  · exact of w_5_4
  · exact of w_6_4
  · exact of w_7_4
  · exact of w_8_4
end Go.Proofs.YtomigpfcnjmmpaaGreat.T
