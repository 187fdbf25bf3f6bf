/- WorldPanics with 0 others: by the kernel, each way. -/
import Derived.Test.YtomigpfcnjmmpaaGreatPa
set_option linter.unusedVariables false
set_option linter.unusedSimpArgs false
set_option maxRecDepth 100000
namespace Go.Proofs.YtomigpfcnjmmpaaGreat.T
open Go.AM
theorem w_0_0 : G 0 0 = (AV.b true = AV.b true) := by kernel_rfl
theorem w_1_0 : G 1 0 = (AV.b true = AV.b true) := by kernel_rfl
theorem w_2_0 : G 2 0 = (AV.b true = AV.b true) := by kernel_rfl
theorem w_3_0 : G 3 0 = (AV.b true = AV.b true) := by kernel_rfl
theorem w_4_0 : G 4 0 = (AV.b true = AV.b true) := by kernel_rfl
theorem w_5_0 : G 5 0 = (AV.b true = AV.b true) := by kernel_rfl
theorem w_6_0 : G 6 0 = (AV.b true = AV.b true) := by kernel_rfl
theorem w_7_0 : G 7 0 = (AV.b true = AV.b true) := by kernel_rfl
theorem w_8_0 : G 8 0 = (AV.b true = AV.b true) := by kernel_rfl
theorem v_0 (i : Int) (h1 : 0 ≤ i) (h2 : i ≤ 8) : G i 0 := by
  have h : i = 0 ∨ i = 1 ∨ i = 2 ∨ i = 3 ∨ i = 4 ∨ i = 5 ∨ i = 6 ∨ i = 7 ∨ i = 8 := by omega
  rcases h with rfl | rfl | rfl | rfl | rfl | rfl | rfl | rfl | rfl
  · exact of w_0_0
  · exact of w_1_0
  · exact of w_2_0
  · exact of w_3_0
  · exact of w_4_0
  · exact of w_5_0
  · exact of w_6_0
  · exact of w_7_0
  · exact of w_8_0
end Go.Proofs.YtomigpfcnjmmpaaGreat.T
