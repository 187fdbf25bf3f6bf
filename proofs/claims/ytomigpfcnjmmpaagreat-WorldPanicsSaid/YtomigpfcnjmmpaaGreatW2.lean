/- WorldPanics with 2 others: by the kernel, each way. -/
import Derived.Test.YtomigpfcnjmmpaaGreatPa
set_option linter.unusedVariables false
set_option linter.unusedSimpArgs false
set_option maxRecDepth 100000
namespace Go.Proofs.YtomigpfcnjmmpaaGreat.T
open Go.AM
theorem w_0_2 : G 0 2 = (AV.b true = AV.b true) := by kernel_rfl
theorem w_1_2 : G 1 2 = (AV.b true = AV.b true) := by kernel_rfl
theorem w_2_2 : G 2 2 = (AV.b true = AV.b true) := by kernel_rfl
theorem w_3_2 : G 3 2 = (AV.b true = AV.b true) := by kernel_rfl
theorem w_4_2 : G 4 2 = (AV.b true = AV.b true) := by kernel_rfl
theorem w_5_2 : G 5 2 = (AV.b true = AV.b true) := by kernel_rfl
theorem w_6_2 : G 6 2 = (AV.b true = AV.b true) := by kernel_rfl
theorem w_7_2 : G 7 2 = (AV.b true = AV.b true) := by kernel_rfl
theorem w_8_2 : G 8 2 = (AV.b true = AV.b true) := by kernel_rfl
theorem v_2 (i : Int) (h1 : 0 ≤ i) (h2 : i ≤ 8) : G i 2 := by
  have h : i = 0 ∨ i = 1 ∨ i = 2 ∨ i = 3 ∨ i = 4 ∨ i = 5 ∨ i = 6 ∨ i = 7 ∨ i = 8 := by omega
  rcases h with rfl | rfl | rfl | rfl | rfl | rfl | rfl | rfl | rfl
  · exact of w_0_2
  · exact of w_1_2
  · exact of w_2_2
  · exact of w_3_2
  · exact of w_4_2
  · exact of w_5_2
  · exact of w_6_2
  · exact of w_7_2
  · exact of w_8_2
end Go.Proofs.YtomigpfcnjmmpaaGreat.T
