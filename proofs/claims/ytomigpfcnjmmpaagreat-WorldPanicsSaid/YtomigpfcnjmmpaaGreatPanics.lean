/- WorldPanics: whatever its arguments it answers true. -/
import Derived.Test.YtomigpfcnjmmpaaGreatW0
import Derived.Test.YtomigpfcnjmmpaaGreatW1
import Derived.Test.YtomigpfcnjmmpaaGreatW2
import Derived.Test.YtomigpfcnjmmpaaGreatW3
import Derived.Test.YtomigpfcnjmmpaaGreatW4
import Derived.Test.YtomigpfcnjmmpaaGreatW5
import Derived.Test.YtomigpfcnjmmpaaGreatW6
import Derived.Test.YtomigpfcnjmmpaaGreatW7
import Derived.Test.YtomigpfcnjmmpaaGreatW8
set_option linter.unusedVariables false
set_option linter.unusedSimpArgs false
set_option maxRecDepth 100000
namespace Go.Proofs.YtomigpfcnjmmpaaGreat.T
open Go.AM
theorem k_eq (a : Int) (y : AV) : Y_3_1 C59 Qt (.i .i64 a) y S0 = Y_3_1 C59 Qt (.i .i64 (rdN 9 a)) y S0 := by
  unfold Y_3_1 Y_3_2 Y_3_3 Y_3_4 Y_3_5
  simp only [round_eq, rdN_rdN (show (0 : Int) < 9 by omega)]
theorem guard (a b : Int) (h : b < 0 ∨ 8 < b) : Y_3_1 C59 Qt (.i .i64 a) (.i .i64 b) S0 := by
  unfold Y_3_1 Y_3_2
  by_cases h0 : b < 0
  · simp only [bLt_i, lt_t h0, bR_t, gdO_tf, bPick_t, condX_t, aw_eq]
    rfl
  · simp only [bLt_i, lt_f (show (0 : Int) ≤ b by omega), bR_f, gdO_ff, sMv_1, bGt_i, lt_t (show 8 < b by omega), bR_t, bPick_f, condX_t, aw_eq]
    rfl
theorem all (hw : ∀ i o : Int, 0 ≤ i → i ≤ 8 → 0 ≤ o → o ≤ 8 → G i o) (a b : Int) : Y_3_1 C59 Qt (.i .i64 a) (.i .i64 b) S0 := by
  by_cases h : b < 0 ∨ 8 < b
  · exact guard a b h
  rw [k_eq, ← G_def]
  have hr := rdN_pos (show (0 : Int) < 9 by omega) a
  exact hw _ _ hr.1 (by omega) (by omega) (by omega)
theorem true_of (hw : ∀ i o : Int, 0 ≤ i → i ≤ 8 → 0 ≤ o → o ≤ 8 → G i o) (a0 a1 : Int) : ∃ m S, acall tblK m 3 [.i .i64 a0, .i .i64 a1] ⟨.nil, 0⟩ = some (.b true, S) := by
  obtain ⟨n, v, S', h1, h2⟩ := goodK 60 3 [.i .i64 a0, .i .i64 a1] S0 Qt (by rw [law_eq]; exact all hw a0 a1)
  have h2' : v = .b true := h2
  subst h2'
  exact ⟨n, S', h1⟩
theorem ways (i o : Int) (h1 : 0 ≤ i) (h2 : i ≤ 8) (h3 : 0 ≤ o) (h4 : o ≤ 8) : G i o := by
  have h : o = 0 ∨ o = 1 ∨ o = 2 ∨ o = 3 ∨ o = 4 ∨ o = 5 ∨ o = 6 ∨ o = 7 ∨ o = 8 := by omega
  rcases h with rfl | rfl | rfl | rfl | rfl | rfl | rfl | rfl | rfl
  · exact v_0 i h1 h2
  · exact v_1 i h1 h2
  · exact v_2 i h1 h2
  · exact v_3 i h1 h2
  · exact v_4 i h1 h2
  · exact v_5 i h1 h2
  · exact v_6 i h1 h2
  · exact v_7 i h1 h2
  · exact v_8 i h1 h2
theorem worldPanics_true (a0 a1 : Int) : ∃ m S, acall tblK m 3 [.i .i64 a0, .i .i64 a1] ⟨.nil, 0⟩ = some (.b true, S) := true_of ways a0 a1
end Go.Proofs.YtomigpfcnjmmpaaGreat.T
