/- clock: what its functions do. -/
import Derived.Test.YtijhjfpiglaleaaGenA
import Derived.Test.YtijhjfpiglaleaaLgD
set_option linter.unusedVariables false
set_option linter.unusedSimpArgs false
namespace Go.AM
variable {N : Nat → Nat} {F : Nat → Option AFn}

def held (t : Int) : Int := min (max t (-4611686018427387904)) 4611686018427387904
theorem held_spec (h : H_clock_held N F) (t : Int) (L : Lg) : CallL F (N k_clock_held) [.i .i64 t] L fun v L' => v = .i .i64 (held t) ∧ L' = L := by
  apply r_clock_held h.code
  simp [D_clock_held_1]
  rfl
def clockAdd (t d : Int) : Int := held (held t + held d)
theorem held_bounds (t : Int) : -4611686018427387904 ≤ held t ∧ held t ≤ 4611686018427387904 := by unfold held; omega
theorem clockAdd_spec (h : H_clock_Add N F) (t d : Int) (L : Lg) : CallL F (N k_clock_Add) [.i .i64 t, .i .i64 d] L fun v L' => v = .i .i64 (clockAdd t d) ∧ L' = L := by
  apply r_clock_Add h.code
  unfold D_clock_Add_1
  refine (held_spec h.clock_held _ _).mono ?_
  rintro _ _ ⟨rfl, rfl⟩
  refine (held_spec h.clock_held _ _).mono ?_
  rintro _ _ ⟨rfl, rfl⟩
  have h1 := held_bounds t
  have h2 := held_bounds d
  have e4 : clockAdd t d = min (max (held t + held d) (-4611686018427387904)) 4611686018427387904 := rfl
  by_cases c1 : 0 < held d
  · have e2 : wr .i64 (4611686018427387904 - held d) = 4611686018427387904 - held d := wr_id (by omega) (by omega)
    have c2 : ¬ held d < 0 := by omega
    by_cases c3 : 4611686018427387904 - held d < held t
    · simp [c1, e2, c3, e4]; omega
    · have e1 : wr .i64 (held t + held d) = held t + held d := wr_id (by omega) (by omega)
      simp [c1, e2, c3, c2, e1, e4]; omega
  · by_cases c2 : held d < 0
    · have e3 : wr .i64 (-4611686018427387904 - held d) = -4611686018427387904 - held d := wr_id (by omega) (by omega)
      by_cases c3 : held t < -4611686018427387904 - held d
      · simp [c1, e3, c3, c2, e4]; omega
      · have e1 : wr .i64 (held t + held d) = held t + held d := wr_id (by omega) (by omega)
        simp [c1, e3, c3, c2, e1, e4]; omega
    · have e1 : wr .i64 (held t + held d) = held t + held d := wr_id (by omega) (by omega)
      simp [c1, c2, e1, e4]; omega

/-- the first of a row behind now -/
def clockNext (w p n : Int) : Int × Int :=
  if p < 1 ∨ min w n < 0 ∨ 4611686018427387904 < max w (max p n) then (0, 1)
  else if n < w then (w, 0) else (clockAdd n (p - (n - w).tmod p), 0)
theorem clockNext_spec (h : H_clock_Next N F) (w p n : Int) (L : Lg) : CallL F (N k_clock_Next) [.i .i64 w, .i .i64 p, .i .i64 n] L fun v L' => v = .tup [.i .i64 (clockNext w p n).1, .i .i64 (clockNext w p n).2] ∧ L' = L := by
  apply r_clock_Next h.code
  unfold D_clock_Next_1 clockNext
  by_cases c1 : p < 1
  · simp [c1]
  by_cases c2 : min w n < 0
  · simp [c1, c2]
  by_cases c3 : 4611686018427387904 < max w (max p n)
  · simp [c1, c2, c3]
  by_cases c4 : n < w
  · simp [c1, c2, c3, c4]
  have hp : p ≠ 0 := by omega
  have e1 : wr .i64 (n - w) = n - w := wr_id (by omega) (by omega)
  have h3 : 0 ≤ (n - w).tmod p ∧ (n - w).tmod p < p := ⟨Int.tmod_nonneg _ (by omega), Int.tmod_lt_of_pos _ (by omega)⟩
  have e2 : wr .i64 (p - (n - w).tmod p) = p - (n - w).tmod p := wr_id (by omega) (by omega)
  simp [c1, c2, c3, c4, e1, e2, wp_rem _ _ _ _ _ _ hp]
  refine (clockAdd_spec h.clock_Add _ _ _).mono ?_
  rintro _ _ ⟨rfl, rfl⟩
  simp [c1, c2, c3, c4]
theorem round_spec (h : H_tarpaulinalike_Round N F) (k n : Int) (hn : 0 < n) (hn2 : n ≤ 4611686018427387904) (L : Lg) : CallL F (N k_tarpaulinalike_Round) [.i .i64 k, .i .i64 n] L fun v L' => v = .i .i64 (k % n) ∧ L' = L := by
  apply r_tarpaulinalike_Round h.code
  have h0 : n ≠ 0 := by omega
  have h1 : -n < k.tmod n ∧ k.tmod n < n := by
    have h3 := Int.tmod_lt_of_pos k hn
    have h4 := Int.tmod_lt_of_pos (-k) hn
    rw [Int.neg_tmod] at h4
    omega
  have e1 : wr .i64 (k.tmod n + n) = k.tmod n + n := wr_id (by omega) (by omega)
  have e2 : (k.tmod n + n).tmod n = k % n := by
    rw [Int.tmod_eq_emod_of_nonneg (by omega), Int.add_emod_right]
    rw [Int.tmod_def, Int.sub_mul_emod_self_left]
  simp [D_tarpaulinalike_Round_1, wp_rem _ _ _ _ _ _ h0, e1, e2]
end Go.AM
