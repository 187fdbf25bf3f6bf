/- WorldDeals: whatever its arguments it answers true. -/
import Derived.Test.YtaegfanlpcbdaaaGreatW0f
import Derived.Test.YtaegfanlpcbdaaaGreatW0t
import Derived.Test.YtaegfanlpcbdaaaGreatW1f
import Derived.Test.YtaegfanlpcbdaaaGreatW1t
import Derived.Test.YtaegfanlpcbdaaaGreatW2f
import Derived.Test.YtaegfanlpcbdaaaGreatW2t
import Derived.Test.YtaegfanlpcbdaaaGreatW3f
import Derived.Test.YtaegfanlpcbdaaaGreatW3t
import Derived.Test.YtaegfanlpcbdaaaGreatW4f
import Derived.Test.YtaegfanlpcbdaaaGreatW4t
import Derived.Test.YtaegfanlpcbdaaaGreatW5f
import Derived.Test.YtaegfanlpcbdaaaGreatW5t
set_option linter.unusedVariables false
set_option linter.unusedSimpArgs false
set_option maxRecDepth 100000
namespace Go.Proofs.YtaegfanlpcbdaaaGreat.T
open Go.AM
noncomputable section
theorem guard (a b : Int) (f : Bool) (h : a < 0 ∨ 5 < a ∨ b < 0 ∨ 10 < b) : Y_3_1 C59 Qt (.i .i64 a) (.i .i64 b) (.b f) S0 := by
  unfold Y_3_1 Y_3_2
  by_cases h0 : a < 0
  · simp only [bLt_i, lt_t h0, bR_t, gdO_tf, sMv_1, bPick_t, condX_t, aw_eq]
    rfl
  · by_cases h1 : 5 < a
    · simp only [bLt_i, lt_f (show (0 : Int) ≤ a by omega), bR_f, gdO_ff, gdO_tf, sMv_1, bGt_i, lt_t h1, bR_t, bPick_f, bPick_t, condX_t, aw_eq]
      rfl
    · by_cases h2 : b < 0
      · simp only [bLt_i, lt_f (show (0 : Int) ≤ a by omega), bR_f, gdO_ff, gdO_tf, sMv_1, bGt_i, lt_f (show a ≤ 5 by omega), lt_t h2, bR_t, bPick_f, bPick_t, condX_t, aw_eq]
        rfl
      · simp only [bLt_i, lt_f (show (0 : Int) ≤ a by omega), bR_f, gdO_ff, gdO_tf, sMv_1, bGt_i, lt_f (show a ≤ 5 by omega), lt_f (show (0 : Int) ≤ b by omega), lt_t (show 10 < b by omega), bR_t, bPick_f, bPick_t, condX_t, aw_eq]
        rfl
theorem all (hw : ∀ r n : Int, ∀ f : Bool, 0 ≤ r → r ≤ 5 → 0 ≤ n → n ≤ 10 → G r n f) (a b : Int) (f : Bool) : Y_3_1 C59 Qt (.i .i64 a) (.i .i64 b) (.b f) S0 := by
  by_cases h : a < 0 ∨ 5 < a ∨ b < 0 ∨ 10 < b
  · exact guard a b f h
  rw [← G_def]
  exact hw _ _ _ (by omega) (by omega) (by omega) (by omega)
theorem true_of (hw : ∀ r n : Int, ∀ f : Bool, 0 ≤ r → r ≤ 5 → 0 ≤ n → n ≤ 10 → G r n f) (a0 a1 : Int) (a2 : Bool) : ∃ m S, acall tblK m 3 [.i .i64 a0, .i .i64 a1, .b a2] ⟨.nil, 0⟩ = some (.b true, S) := by
  obtain ⟨n, v, S', h1, h2⟩ := goodK 60 3 [.i .i64 a0, .i .i64 a1, .b a2] S0 Qt (by rw [law_eq]; exact all hw a0 a1 a2)
  have h2' : v = .b true := h2
  subst h2'
  exact ⟨n, S', h1⟩
theorem ways (r n : Int) (f : Bool) (h1 : 0 ≤ r) (h2 : r ≤ 5) (h3 : 0 ≤ n) (h4 : n ≤ 10) : G r n f := by
  have h : r = 0 ∨ r = 1 ∨ r = 2 ∨ r = 3 ∨ r = 4 ∨ r = 5 := by omega
  rcases h with rfl | rfl | rfl | rfl | rfl | rfl <;> cases f
  · exact v_0_false n h3 h4
  · exact v_0_true n h3 h4
  · exact v_1_false n h3 h4
  · exact v_1_true n h3 h4
  · exact v_2_false n h3 h4
  · exact v_2_true n h3 h4
  · exact v_3_false n h3 h4
  · exact v_3_true n h3 h4
  · exact v_4_false n h3 h4
  · exact v_4_true n h3 h4
  · exact v_5_false n h3 h4
  · exact v_5_true n h3 h4
theorem worldDeals_true (a0 a1 : Int) (a2 : Bool) : ∃ m S, acall tblK m 3 [.i .i64 a0, .i .i64 a1, .b a2] ⟨.nil, 0⟩ = some (.b true, S) := true_of ways a0 a1 a2
end
end Go.Proofs.YtaegfanlpcbdaaaGreat.T
