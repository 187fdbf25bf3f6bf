/- ProgNames: whatever its arguments it answers true. -/
import Derived.Test.YtkfcecaoaplfkaaDoorN0
import Derived.Test.YtkfcecaoaplfkaaDoorN1
import Derived.Test.YtkfcecaoaplfkaaDoorN2
import Derived.Test.YtkfcecaoaplfkaaDoorN3
import Derived.Test.YtkfcecaoaplfkaaDoorN4
import Derived.Test.YtkfcecaoaplfkaaDoorN5
import Derived.Test.YtkfcecaoaplfkaaDoorN6
set_option linter.unusedVariables false
set_option linter.unusedSimpArgs false
set_option maxRecDepth 100000
namespace Go.Proofs.YtkfcecaoaplfkaaDoor.T
open Go.AM
noncomputable section
theorem trueN_of (hw : ∀ a b : Int, Gn a b) (a0 a1 : Int) : ∃ m S, acall tblK m 7 [.i .i64 a0, .i .i64 a1] S0 = some (.b true, S) := by
  obtain ⟨n, v, S', h1, h2⟩ := goodK 60 7 [.i .i64 a0, .i .i64 a1] S0 Qn (by rw [lawN_eq, ← Gn_def]; exact hw a0 a1)
  have h2' : v = .b true := h2
  subst h2'
  exact ⟨n, S', h1⟩
theorem waysN (a b : Int) : Gn a b := by
  rcases a with n | x
  · by_cases h : n < 33
    · have h : n = 0 ∨ n = 1 ∨ n = 2 ∨ n = 3 ∨ n = 4 ∨ n = 5 ∨ n = 6 ∨ n = 7 ∨ n = 8 ∨ n = 9 ∨ n = 10 ∨ n = 11 ∨ n = 12 ∨ n = 13 ∨ n = 14 ∨ n = 15 ∨ n = 16 ∨ n = 17 ∨ n = 18 ∨ n = 19 ∨ n = 20 ∨ n = 21 ∨ n = 22 ∨ n = 23 ∨ n = 24 ∨ n = 25 ∨ n = 26 ∨ n = 27 ∨ n = 28 ∨ n = 29 ∨ n = 30 ∨ n = 31 ∨ n = 32 := by omega
      rcases h with rfl | rfl | rfl | rfl | rfl | rfl | rfl | rfl | rfl | rfl | rfl | rfl | rfl | rfl | rfl | rfl | rfl | rfl | rfl | rfl | rfl | rfl | rfl | rfl | rfl | rfl | rfl | rfl | rfl | rfl | rfl | rfl | rfl
      · exact m_0 b
      · exact m_1 b
      · exact m_2 b
      · exact m_3 b
      · exact m_4 b
      · exact m_5 b
      · exact m_6 b
      · exact m_7 b
      · exact m_8 b
      · exact m_9 b
      · exact m_10 b
      · exact m_11 b
      · exact m_12 b
      · exact m_13 b
      · exact m_14 b
      · exact m_15 b
      · exact m_16 b
      · exact m_17 b
      · exact m_18 b
      · exact m_19 b
      · exact m_20 b
      · exact m_21 b
      · exact m_22 b
      · exact m_23 b
      · exact m_24 b
      · exact m_25 b
      · exact m_26 b
      · exact m_27 b
      · exact m_28 b
      · exact m_29 b
      · exact m_30 b
      · exact m_31 b
      · exact m_32 b
    · obtain ⟨x, rfl⟩ : ∃ x, n = x + 33 := ⟨n - 33, by omega⟩
      exact m_g x b
  · exact m_n x b
theorem progNames_true (a0 a1 : Int) : ∃ m S, acall tblK m 7 [.i .i64 a0, .i .i64 a1] S0 = some (.b true, S) := trueN_of waysN a0 a1
end
end Go.Proofs.YtkfcecaoaplfkaaDoor.T
