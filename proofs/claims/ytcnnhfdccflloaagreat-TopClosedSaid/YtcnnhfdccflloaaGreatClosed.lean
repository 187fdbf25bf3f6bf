/- TopClosed: whatever its arguments it answers true. -/
import Derived.Test.YtcnnhfdccflloaaGreatW0f
import Derived.Test.YtcnnhfdccflloaaGreatW5f
import Derived.Test.YtcnnhfdccflloaaGreatW7f
import Derived.Test.YtcnnhfdccflloaaGreatW9f
import Derived.Test.YtcnnhfdccflloaaGreatW10f
import Derived.Test.YtcnnhfdccflloaaGreatW11f
import Derived.Test.YtcnnhfdccflloaaGreatW12f
import Derived.Test.YtcnnhfdccflloaaGreatW0t
import Derived.Test.YtcnnhfdccflloaaGreatW5t
import Derived.Test.YtcnnhfdccflloaaGreatW7t
import Derived.Test.YtcnnhfdccflloaaGreatW9t
import Derived.Test.YtcnnhfdccflloaaGreatW10t
import Derived.Test.YtcnnhfdccflloaaGreatW11t
import Derived.Test.YtcnnhfdccflloaaGreatW12t
set_option linter.unusedVariables false
set_option linter.unusedSimpArgs false
set_option maxRecDepth 100000
namespace Go.Proofs.YtcnnhfdccflloaaGreat.T
open Go.AM
noncomputable section
theorem guard (a : Int) (f : Bool) (h : a < 0 ∨ 12 < a) : Y_3_1 C59 Qt (.i .i64 a) (.b f) S0 := by
  unfold Y_3_1 Y_3_2
  by_cases h0 : a < 0
  · simp only [bLt_i, lt_t h0, bR_t, gdO_tf, sMv_1, bPick_t, condX_t, aw_eq]
    rfl
  · simp only [bLt_i, lt_f (show (0 : Int) ≤ a by omega), bR_f, gdO_ff, gdO_tf, sMv_1, bGt_i, lt_t (show 12 < a by omega), bR_t, bPick_f, bPick_t, condX_t, aw_eq]
    rfl
theorem all (hw : ∀ n : Int, ∀ f : Bool, 0 ≤ n → n ≤ 12 → G n f) (a : Int) (f : Bool) : Y_3_1 C59 Qt (.i .i64 a) (.b f) S0 := by
  by_cases h : a < 0 ∨ 12 < a
  · exact guard a f h
  rw [← G_def]
  exact hw _ _ (by omega) (by omega)
theorem true_of (hw : ∀ n : Int, ∀ f : Bool, 0 ≤ n → n ≤ 12 → G n f) (a0 : Int) (a1 : Bool) : ∃ m S, acall tblK m 3 [.i .i64 a0, .b a1] ⟨.nil, 0⟩ = some (.b true, S) := by
  obtain ⟨n, v, S', h1, h2⟩ := goodK 60 3 [.i .i64 a0, .b a1] S0 Qt (by rw [law_eq]; exact all hw a0 a1)
  have h2' : v = .b true := h2
  subst h2'
  exact ⟨n, S', h1⟩
theorem ways (n : Int) (f : Bool) (h3 : 0 ≤ n) (h4 : n ≤ 12) : G n f := by
  have h : n = 0 ∨ n = 1 ∨ n = 2 ∨ n = 3 ∨ n = 4 ∨ n = 5 ∨ n = 6 ∨ n = 7 ∨ n = 8 ∨ n = 9 ∨ n = 10 ∨ n = 11 ∨ n = 12 := by omega
  rcases h with rfl | rfl | rfl | rfl | rfl | rfl | rfl | rfl | rfl | rfl | rfl | rfl | rfl <;> cases f
  · exact of w_0_false
  · exact of w_0_true
  · exact of w_1_false
  · exact of w_1_true
  · exact of w_2_false
  · exact of w_2_true
  · exact of w_3_false
  · exact of w_3_true
  · exact of w_4_false
  · exact of w_4_true
  · exact of w_5_false
  · exact of w_5_true
  · exact of w_6_false
  · exact of w_6_true
  · exact of w_7_false
  · exact of w_7_true
  · exact of w_8_false
  · exact of w_8_true
  · exact of w_9_false
  · exact of w_9_true
  · exact of w_10_false
  · exact of w_10_true
  · exact of w_11_false
  · exact of w_11_true
  · exact of w_12_false
  · exact of w_12_true
theorem topClosed_true (a0 : Int) (a1 : Bool) : ∃ m S, acall tblK m 3 [.i .i64 a0, .b a1] ⟨.nil, 0⟩ = some (.b true, S) := true_of ways a0 a1
end
end Go.Proofs.YtcnnhfdccflloaaGreat.T
