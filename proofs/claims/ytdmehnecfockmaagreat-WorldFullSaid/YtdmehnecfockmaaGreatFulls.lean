/- WorldFull: whatever its arguments it answers true. -/
import Derived.Test.YtdmehnecfockmaaGreatW00
import Derived.Test.YtdmehnecfockmaaGreatW01
import Derived.Test.YtdmehnecfockmaaGreatW02
import Derived.Test.YtdmehnecfockmaaGreatW10
import Derived.Test.YtdmehnecfockmaaGreatW11
import Derived.Test.YtdmehnecfockmaaGreatW12
import Derived.Test.YtdmehnecfockmaaGreatW20
import Derived.Test.YtdmehnecfockmaaGreatW21
import Derived.Test.YtdmehnecfockmaaGreatW22
import Derived.Test.YtdmehnecfockmaaGreatW30
import Derived.Test.YtdmehnecfockmaaGreatW31
import Derived.Test.YtdmehnecfockmaaGreatW32
set_option linter.unusedVariables false
set_option linter.unusedSimpArgs false
set_option maxRecDepth 100000
namespace Go.Proofs.YtdmehnecfockmaaGreat.T
open Go.AM
noncomputable section
theorem k_eq (a b : Int) : Y_3_1 C59 Qt (.i .i64 a) (.i .i64 b) S0 = Y_3_1 C59 Qt (.i .i64 (rdN 4 a)) (.i .i64 (rdN 3 b)) S0 := by
  unfold Y_3_1 Y_3_2 Y_3_3
  simp only [round_4, round_3, rdN_rdN (show (0 : Int) < 4 by omega), rdN_rdN (show (0 : Int) < 3 by omega)]
theorem all (hw : ∀ i j : Int, 0 ≤ i → i ≤ 3 → 0 ≤ j → j ≤ 2 → G i j) (a b : Int) : Y_3_1 C59 Qt (.i .i64 a) (.i .i64 b) S0 := by
  rw [k_eq, ← G_def]
  have h1 := rdN_pos (show (0 : Int) < 4 by omega) a
  have h2 := rdN_pos (show (0 : Int) < 3 by omega) b
  exact hw _ _ h1.1 (by omega) h2.1 (by omega)
theorem true_of (hw : ∀ i j : Int, 0 ≤ i → i ≤ 3 → 0 ≤ j → j ≤ 2 → G i j) (a0 a1 : Int) : ∃ m S, acall tblK m 3 [.i .i64 a0, .i .i64 a1] ⟨.nil, 0⟩ = some (.b true, S) := by
  obtain ⟨n, v, S', h1, h2⟩ := goodK 60 3 [.i .i64 a0, .i .i64 a1] S0 Qt (by rw [law_eq]; exact all hw a0 a1)
  have h2' : v = .b true := h2
  subst h2'
  exact ⟨n, S', h1⟩
theorem ways (i j : Int) (h1 : 0 ≤ i) (h2 : i ≤ 3) (h3 : 0 ≤ j) (h4 : j ≤ 2) : G i j := by
  have h : i = 0 ∨ i = 1 ∨ i = 2 ∨ i = 3 := by omega
  have h' : j = 0 ∨ j = 1 ∨ j = 2 := by omega
  rcases h with rfl | rfl | rfl | rfl <;> rcases h' with rfl | rfl | rfl
  · exact of w_0_0
  · exact of w_0_1
  · exact of w_0_2
  · exact of w_1_0
  · exact of w_1_1
  · exact of w_1_2
  · exact of w_2_0
  · exact of w_2_1
  · exact of w_2_2
  · exact of w_3_0
  · exact of w_3_1
  · exact of w_3_2
theorem worldFull_true (a0 a1 : Int) : ∃ m S, acall tblK m 3 [.i .i64 a0, .i .i64 a1] ⟨.nil, 0⟩ = some (.b true, S) := true_of ways a0 a1
end
end Go.Proofs.YtdmehnecfockmaaGreat.T
