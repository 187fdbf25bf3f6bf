/- WorldPanics with 8 others: by the kernel, each way. -/
import Derived.Test.YtomigpfcnjmmpaaGreatPa
set_option linter.unusedVariables false
set_option linter.unusedSimpArgs false
set_option maxRecDepth 100000
namespace Go.Proofs.YtomigpfcnjmmpaaGreat.T
open Go.AM
theorem w_0_8 : G 0 8 = (AV.b true = AV.b true) := by kernel_rfl
theorem w_1_8 : G 1 8 = (AV.b true = AV.b true) := by kernel_rfl
theorem w_2_8 : G 2 8 = (AV.b true = AV.b true) := by kernel_rfl
theorem w_3_8 : G 3 8 = (AV.b true = AV.b true) := by kernel_rfl
theorem w_4_8 : G 4 8 = (AV.b true = AV.b true) := by kernel_rfl
theorem w_5_8 : G 5 8 = (AV.b true = AV.b true) := by kernel_rfl
theorem w_6_8 : G 6 8 = (AV.b true = AV.b true) := by kernel_rfl
theorem w_7_8 : G 7 8 = (AV.b true = AV.b true) := by kernel_rfl
theorem w_8_8 : G 8 8 = (AV.b true = AV.b true) := by kernel_rfl
theorem v_8 (i : Int) (h1 : 0 ≤ i) (h2 : i ≤ 8) : G i 8 := by
  have h : i = 0 ∨ i = 1 ∨ i = 2 ∨ i = 3 ∨ i = 4 ∨ i = 5 ∨ i = 6 ∨ i = 7 ∨ i = 8 := by omega
  rcases h with rfl | rfl | rfl | rfl | rfl | rfl | rfl | rfl | rfl
  · exact of w_0_8
  · exact of w_1_8
  · exact of w_2_8
  · exact of w_3_8
  · exact of w_4_8
  · exact of w_5_8
  · exact of w_6_8
  · exact of w_7_8
  · exact of w_8_8
end Go.Proofs.YtomigpfcnjmmpaaGreat.T
