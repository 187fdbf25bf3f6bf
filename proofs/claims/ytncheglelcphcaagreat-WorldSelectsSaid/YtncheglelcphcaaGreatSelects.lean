/- WorldSelects: whatever its arguments it answers true. -/
import Derived.Test.YtncheglelcphcaaGreatW0
import Derived.Test.YtncheglelcphcaaGreatW1
import Derived.Test.YtncheglelcphcaaGreatW2
import Derived.Test.YtncheglelcphcaaGreatW3
import Derived.Test.YtncheglelcphcaaGreatW4
import Derived.Test.YtncheglelcphcaaGreatW5
import Derived.Test.YtncheglelcphcaaGreatW6
set_option linter.unusedVariables false
set_option linter.unusedSimpArgs false
set_option maxRecDepth 100000
namespace Go.Proofs.YtncheglelcphcaaGreat.T
open Go.AM
noncomputable section
theorem guard (a : Option (Nat × Nat)) (n cap : Nat) (h : n < 1 ∨ 4 < n) (x1 x2 x3 : AV) (S : St) : Y_3_1 C59 Qt (.sl a n cap 0) x1 x2 x3 S := by
  unfold Y_3_1 Y_3_2 Y_3_3
  have e : (Int.ofNat n : Int) = (n : Int) := rfl
  by_cases h0 : n < 1
  · simp only [bLen_sl, e, bLt_i, lt_t (show (n : Int) < 1 by omega), bR_t, gdO_tf, bPick_t, condX_t, aw_eq]
    rfl
  · simp only [bLen_sl, e, bLt_i, lt_f (show (1 : Int) ≤ n by omega), bR_f, gdO_ff, sMv_1, bGt_i, lt_t (show (4 : Int) < n by omega), bR_t, bPick_f, condX_t, aw_eq]
    rfl
theorem all (hw : ∀ (cap : Nat) (l : List Bool) (d : Bool) (x y : Int), 1 ≤ l.length → l.length ≤ 4 → G cap l d x y) (cap : Nat) (l : List Bool) (d : Bool) (x y : Int) : Y_3_1 C59 Qt (.sl (some (0, 0)) l.length cap 0) (.b d) (.i .i64 x) (.i .i64 y) (Sb l) := by
  by_cases h : l.length < 1 ∨ 4 < l.length
  · exact guard _ _ _ h _ _ _ _
  rw [← G_def]
  exact hw _ _ _ _ _ (by omega) (by omega)
theorem true_of (hw : ∀ (cap : Nat) (l : List Bool) (d : Bool) (x y : Int), 1 ≤ l.length → l.length ≤ 4 → G cap l d x y) {S : St} {a : AV} (l : List Bool) (h : (l = [] ∧ a = .sl none 0 0 0 ∧ S = ⟨.nil, 0⟩) ∨ ∃ cap, a = .sl (some (0, 0)) l.length cap 0 ∧ S = Sb l) (d : Bool) (x y : Int) : ∃ m S', acall tblK m 3 [a, .b d, .i .i64 x, .i .i64 y] S = some (.b true, S') := by
  have key : Y_3_1 C59 Qt a (.b d) (.i .i64 x) (.i .i64 y) S := by
    rcases h with ⟨rfl, rfl, rfl⟩ | ⟨cap, rfl, rfl⟩
    · exact guard none 0 0 (.inl (by omega)) _ _ _ _
    · exact all hw cap l d x y
  obtain ⟨n, v, S', h1, h2⟩ := goodV 60 3 [a, .b d, .i .i64 x, .i .i64 y] S Qt (by rw [law_eq]; exact key)
  have h2' : v = .b true := h2
  subst h2'
  exact ⟨n, S', h1⟩
theorem ways (cap : Nat) (l : List Bool) (d : Bool) (x y : Int) (h1 : 1 ≤ l.length) (h2 : l.length ≤ 4) : G cap l d x y := by
  match l, h1, h2 with
  | [b0], _, _ =>
    cases d <;> cases b0
    · exact v_f_f cap x y
    · exact v_t_f cap x y
    · exact v_f_t cap x y
    · exact v_t_t cap x y
  | [b0, b1], _, _ =>
    cases d <;> cases b0 <;> cases b1
    · exact v_ff_f cap x y
    · exact v_ft_f cap x y
    · exact v_tf_f cap x y
    · exact v_tt_f cap x y
    · exact v_ff_t cap x y
    · exact v_ft_t cap x y
    · exact v_tf_t cap x y
    · exact v_tt_t cap x y
  | [b0, b1, b2], _, _ =>
    cases d <;> cases b0 <;> cases b1 <;> cases b2
    · exact v_fff_f cap x y
    · exact v_fft_f cap x y
    · exact v_ftf_f cap x y
    · exact v_ftt_f cap x y
    · exact v_tff_f cap x y
    · exact v_tft_f cap x y
    · exact v_ttf_f cap x y
    · exact v_ttt_f cap x y
    · exact v_fff_t cap x y
    · exact v_fft_t cap x y
    · exact v_ftf_t cap x y
    · exact v_ftt_t cap x y
    · exact v_tff_t cap x y
    · exact v_tft_t cap x y
    · exact v_ttf_t cap x y
    · exact v_ttt_t cap x y
  | [b0, b1, b2, b3], _, _ =>
    cases d <;> cases b0 <;> cases b1 <;> cases b2 <;> cases b3
    · exact v_ffff_f cap x y
    · exact v_ffft_f cap x y
    · exact v_fftf_f cap x y
    · exact v_fftt_f cap x y
    · exact v_ftff_f cap x y
    · exact v_ftft_f cap x y
    · exact v_fttf_f cap x y
    · exact v_fttt_f cap x y
    · exact v_tfff_f cap x y
    · exact v_tfft_f cap x y
    · exact v_tftf_f cap x y
    · exact v_tftt_f cap x y
    · exact v_ttff_f cap x y
    · exact v_ttft_f cap x y
    · exact v_tttf_f cap x y
    · exact v_tttt_f cap x y
    · exact v_ffff_t cap x y
    · exact v_ffft_t cap x y
    · exact v_fftf_t cap x y
    · exact v_fftt_t cap x y
    · exact v_ftff_t cap x y
    · exact v_ftft_t cap x y
    · exact v_fttf_t cap x y
    · exact v_fttt_t cap x y
    · exact v_tfff_t cap x y
    · exact v_tfft_t cap x y
    · exact v_tftf_t cap x y
    · exact v_tftt_t cap x y
    · exact v_ttff_t cap x y
    · exact v_ttft_t cap x y
    · exact v_tttf_t cap x y
    · exact v_tttt_t cap x y
  | [], h1, _ => simp at h1
  | _ :: _ :: _ :: _ :: _ :: r, _, h2 => simp at h2
theorem worldSelects_true {S : St} {a : AV} (l : List Bool) (h : (l = [] ∧ a = .sl none 0 0 0 ∧ S = ⟨.nil, 0⟩) ∨ ∃ cap, a = .sl (some (0, 0)) l.length cap 0 ∧ S = Sb l) (d : Bool) (x y : Int) : ∃ m S', acall tblK m 3 [a, .b d, .i .i64 x, .i .i64 y] S = some (.b true, S') := true_of ways l h d x y
end
end Go.Proofs.YtncheglelcphcaaGreat.T
