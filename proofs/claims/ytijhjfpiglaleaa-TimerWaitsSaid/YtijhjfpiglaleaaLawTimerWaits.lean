/- TimerWaits. -/
import Derived.Test.YtijhjfpiglaleaaLawTimerP
set_option linter.unusedVariables false
set_option linter.unusedSimpArgs false
namespace Go.AM
variable {N : Nat → Nat} {F : Nat → Option AFn}
theorem known_spec {f : Nat} (h : F f = some kTrue) (L : Lg) : CallL F f [] L fun v L' => v = .b true ∧ L' = L := by
  apply CallL.of_wp h
  show fin _ _ _ _ _
  exact ⟨L, Sees.refl _, rfl, rfl⟩
/-- who waits: task i, case 3 -/
def tws (a b : Nat) : List Wt := (List.range' a (b - a)).map fun i : Nat => (⟨(i : Int), 3, 0⟩ : Wt)
theorem tws_cons {a b : Nat} (h : a < b) : tws a b = ⟨(a : Int), 3, 0⟩ :: tws (a + 1) b := by
  unfold tws
  rw [show b - a = (b - (a + 1)) + 1 by omega, List.range'_succ]
  simp
theorem tws_snoc {a b : Nat} (h : a ≤ b) : tws a b ++ [⟨(b : Int), 3, 0⟩] = tws a (b + 1) := by
  unfold tws
  rw [show b + 1 - a = (b - a) + 1 by omega, List.range'_concat]
  simp
  omega
theorem tws_mem {a b : Nat} {w : Wt} (h : w ∈ tws a b) : w.t < (b : Int) := by
  unfold tws at h
  simp only [List.mem_map, List.mem_range'_1] at h
  obtain ⟨i, hi, rfl⟩ := h
  simp; omega
theorem timerWaits_law (code : F (N k_tarpaulinlaw13_TimerWaits) = some (c_tarpaulinlaw13_TimerWaits N)) (aw : F (N k_tarpaulinlaw13_awake) = some kTrue) (h1 : H_timer_New N F) (h2 : H_timer_Set_Ticker N F) (h3 : H_chanq_Chan_Wait N F) (h4 : H_timer_Set_Fire N F) (h5 : H_chanq_Chan_Can N F) (h6 : H_chanq_Chan_Waiting N F)
    (n d late : Int) : CallL F (N k_tarpaulinlaw13_TimerWaits) [.i .i64 n, .i .i64 d, .i .i64 late] Lg.nil fun v _ => v = .b true := by
  refine CallL.opq ?_
  intro Q hQ
  have fin : ∀ L, fin1 (some (.b true)) Q L := fun L => ⟨L, Sees.refl _, hQ _ _ rfl⟩
  apply r_tarpaulinlaw13_TimerWaits code
  unfold D_tarpaulinlaw13_TimerWaits_1 D_tarpaulinlaw13_TimerWaits_2
  have awk : CallL F (N k_tarpaulinlaw13_awake) [] Lg.nil fun v17 L17 => fin1 (some v17) Q L17 := by
    refine (known_spec aw _).mono ?_
    rintro _ _ ⟨rfl, rfl⟩
    exact fin _
  by_cases g1 : n < 1
  · simpa [initE, g1] using awk
  by_cases g2 : 10 < n
  · simpa [initE, g1, g2] using awk
  by_cases g3 : d < 1
  · simpa [initE, g1, g2, g3] using awk
  by_cases g4 : 100 < d
  · simpa [initE, g1, g2, g3, g4] using awk
  by_cases g5 : late < 0
  · simpa [initE, g1, g2, g3, g4, g5] using awk
  by_cases g6 : 300 < late
  · simpa [initE, g1, g2, g3, g4, g5, g6] using awk
  simp [initE, g1, g2, g3, g4, g5, g6]
  unfold D_tarpaulinlaw13_TimerWaits_3
  refine (tnew_spec h1).mono ?_
  rintro _ _ ⟨s, hs, rfl, rfl⟩
  unfold D_tarpaulinlaw13_TimerWaits_4
  simp
  unfold D_tarpaulinlaw13_TimerWaits_5
  simp
  refine (tticker_spec (σ := Tms.nil) h2 (Lg.put_same _ _ _) Tms.nil_fine 0 d).mono ?_
  rintro v L1 ⟨c, hc, hcs, hh⟩
  have mk := make_first (k := 2) (dat := 0) (some c) (d := d) (by omega) (by omega) (by omega) (by omega)
  rcases hh with ⟨e0, rfl, hL⟩ | ⟨e0, _, _⟩
  case inr => exact absurd mk.2.1 e0
  obtain ⟨σ, hσ⟩ : ∃ σ, σ = (Tms.nil.make ⟨2, 0, some c, 0⟩ 0 d).1 := ⟨_, rfl⟩
  rw [← hσ] at hL mk
  obtain ⟨mk1, mk2, mk3⟩ := mk
  simp at mk3
  have hLs : L1 s = some (.abs (SetP s σ)) := by rw [hL, Lg.put_ne _ _ _ (Ne.symm hcs), Lg.put_same]
  have hLc : L1 c = some (.abs (ChanP c .tm)) := by rw [hL, Lg.put_same]
  rw [mk1]
  clear hL hσ
  unfold D_tarpaulinlaw13_TimerWaits_6 D_tarpaulinlaw13_TimerWaits_17 D_tarpaulinlaw13_TimerWaits_19
  simp
  obtain ⟨n, rfl⟩ := Int.eq_ofNat_of_zero_le (show 0 ≤ n by omega)
  obtain ⟨I, hI⟩ : ∃ I : Nat → Env → Lg → Prop, I = fun m l L => ∃ i : Nat, m + i = n ∧ l 0 = .i .i64 n ∧ l 1 = .i .i64 d ∧ l 2 = .i .i64 late ∧ l 7 = .p (some (s, 0)) ∧ l 9 = .p (some (c, 0)) ∧ l 11 = .i .i64 i ∧
    L s = some (.abs (SetP s σ)) ∧ L c = some (.abs (ChanP c ⟨[], 1, tws 0 i, [], true, false, false⟩)) := ⟨_, rfl⟩
  refine loopW_intro I n ?_ ?_
  · rw [hI]
    exact ⟨0, by omega, by simp, by simp, by simp, by simp, by simp, by simp, hLs, hLc⟩
  intro m l t L hi
  rw [hI] at hi
  obtain ⟨i, hm, l0, l1, l2, l7, l9, l11, m1, m2⟩ := hi
  unfold D_tarpaulinlaw13_TimerWaits_20
  rw [l0, l9, l11]
  by_cases hin : i < n
  · have hin' : (i : Int) < (n : Int) := by omega
    have w1 : wr .i64 ((i : Int) + 1) = ((i + 1 : Nat) : Int) := by rw [wr_id (by omega) (by omega)]; omega
    simp [hin, fillP, splice, ble_nat, beq_nat]
    have hwt : (⟨[], 1, tws 0 i, [], true, false, false⟩ : Ch).waits ⟨(i : Int), 3, 0⟩ false = (⟨[], 1, tws 0 (i + 1), [], true, false, false⟩, 0) := by
      simp [Ch.waits, Ch.free, Ch.wait, tws_snoc]
    refine CallL.mono (wait_spec h3 m2 ⟨(i : Int), 3, 0⟩ false (by simp [Ch.wait, tws]; omega) (by simp [Ch.wait])) ?_
    rintro _ L2 ⟨rfl, rfl⟩
    rw [hwt]
    simp [w1]
    rw [hI]
    refine ⟨n - (i + 1), by omega, i + 1, by omega, by simp [l0], by simp [l1], by simp [l2], by simp [l7], by simp [l9], by simp, ?_, Lg.put_same _ _ _⟩
    rw [Lg.put_ne _ _ _ (Ne.symm hcs)]; exact m1
  have hin2 : i = n := by omega
  subst hin2
  simp
  unfold D_tarpaulinlaw13_TimerWaits_8 D_tarpaulinlaw13_TimerWaits_11 D_tarpaulinlaw13_TimerWaits_13
  clear hI hLs hLc
  obtain ⟨J, hJ⟩ : ∃ J : Nat → Env → Lg → Prop, J = fun m l L => ∃ (j : Nat) (σ : Tms) (due q : Int), m + j = i ∧ 0 ≤ q ∧ q ≤ j + 1 ∧ 0 ≤ due ∧ due ≤ j * (d + late) + d ∧ Sg σ 2 0 (some c) 1 due q d ∧ l 0 = .i .i64 i ∧ l 1 = .i .i64 d ∧ l 2 = .i .i64 late ∧ l 7 = .p (some (s, 0)) ∧ l 9 = .p (some (c, 0)) ∧ l 12 = .i .i64 (j * (d + late)) ∧ l 13 = .i .i64 j ∧
    L s = some (.abs (SetP s σ)) ∧ L c = some (.abs (ChanP c ⟨[], 1, tws j i, [], true, false, false⟩)) := ⟨_, rfl⟩
  refine loopW_intro J i ?_ ?_
  · rw [hJ]
    exact ⟨0, σ, d, 1, by omega, by omega, by omega, by omega, by simp, mk3, by simp [l0], by simp [l1], by simp [l2], by simp [l7], by simp [l9], by simp, by simp, m1, m2⟩
  intro m l t L hj
  rw [hJ] at hj
  obtain ⟨j, σ, due, q, hm, q1, q2, d1, d2, sg, l0, l1, l2, l7, l9, l12, l13, m1, m2⟩ := hj
  unfold D_tarpaulinlaw13_TimerWaits_14
  rw [l0, l9, l13]
  by_cases hjn : j < i
  · simp [hjn]
    unfold D_tarpaulinlaw13_TimerWaits_15
    rw [l12, l1, l2, l7, l13]
    have b1 : 0 ≤ (j : Int) * (d + late) ∧ (j : Int) * (d + late) ≤ 4000 := ⟨Int.mul_nonneg (by omega) (by omega), by
      have := Int.mul_le_mul (show (j : Int) ≤ 10 by omega) (show d + late ≤ 400 by omega) (by omega) (by omega)
      omega⟩
    obtain ⟨now, hnow⟩ : ∃ now, now = (j : Int) * (d + late) + d + late := ⟨_, rfl⟩
    have w1 : wr .i64 ((j : Int) * (d + late) + d) = (j : Int) * (d + late) + d := wr_id (by omega) (by omega)
    have w2 : wr .i64 ((j : Int) * (d + late) + d + late) = now := by rw [wr_id (by omega) (by omega), hnow]
    simp [w1, w2]
    obtain ⟨x', tk, sg'⟩ := sg.tick (now := now) (by omega) (by omega) d1 (by omega) (by omega)
    have hcc : L.hasC s (some c) ⟨[], 1, tws j i, [], true, false, false⟩ := by
      intro a ha; cases ha; exact ⟨hcs, m2⟩
    refine CallL.mono (fire_spec h4 m1 sg.sorted sg.len ⟨by rw [sg.seq]; omega, by rw [sg.seq]; omega⟩ now tk sg.one hcc) ?_
    rintro _ L2 ⟨sl, rfl, hfr⟩
    have hput : putsC (some c) ⟨[], 1, tws j i, [], true, false, false⟩ now = (⟨[], 1, tws (j + 1) i, [], true, false, false⟩, [⟨(j : Int), 3, now, true, false⟩], true) := by
      simp [putsC, Ch.put, tws_cons hjn]
    rw [hput] at hfr
    rw [hput]
    rcases hfr with ⟨z, _⟩ | ⟨b, ex, hb, _, rfl, _, hL2⟩
    · simp at z
    have r2b : L2 b = some (.raw (.cells [.i .i64 j, .i .i64 3, .i .i64 now, .b true, .b false])) := by rw [hL2, Lg.put_same]; rfl
    simp only [Lg.putC] at hb hL2
    have nbc : c ≠ b := by rintro rfl; rw [Lg.put_same] at hb; cases hb
    have nbs : s ≠ b := by rintro rfl; rw [Lg.put_ne _ _ _ (Ne.symm hcs), Lg.put_same] at hb; cases hb
    have r2c : L2 c = some (.abs (ChanP c ⟨[], 1, tws (j + 1) i, [], true, false, false⟩)) := by rw [hL2, Lg.put_ne _ _ _ nbc, Lg.put_same]
    have r2s : L2 s = some (.abs (SetP s { σ with x := x' })) := by rw [hL2, Lg.put_ne _ _ _ nbs, Lg.put_ne _ _ _ (Ne.symm hcs), Lg.put_same]
    clear hL2 hb
    simp [firedAV]
    intro a6 ha6
    rw [stL_cells (Lg.put_same _ _ _) (by simp) (by simp) (by simp), Lg.put_put, splice_7]
    obtain ⟨L3, hL3⟩ : ∃ L3, L3 = L2.put a6 (.raw (.cells [.i .i64 0, .i .i64 2, .i .i64 due, .i .i64 now, .i .i64 0, .sl (some (b, 0)) 1 1 ex, .b true])) := ⟨_, rfl⟩
    rw [← hL3]
    have E3 : Ext2 L2 L3 := by rw [hL3]; exact (Ext2.refl _).put ha6 _
    have r36 : L3 a6 = some (.raw (.cells [.i .i64 0, .i .i64 2, .i .i64 due, .i .i64 now, .i .i64 0, .sl (some (b, 0)) 1 1 ex, .b true])) := by rw [hL3, Lg.put_same]
    have r3b := E3 _ _ r2b
    have r3k : rdL L3 (b, 0) (some 5) = some (.agg [.i .i64 j, .i .i64 3, .i .i64 now, .b true, .b false]) := by rw [rdL_cells r3b (by simp)]; rfl
    have f5 : rdL L3 (a6, 5) none = some (.sl (some (b, 0)) 1 1 ex) := by rw [rdL_cell r36]; rfl
    have f6 : rdL L3 (a6, 6) none = some (.b true) := by rw [rdL_cell r36]; rfl
    simp [f5, f6, r3k, wp_iad _ _ _ 5 b 0 1 1 ex .i64 0 (by omega) (by omega), w1, w2, fillP, splice, ble_nat, beq_nat]
    have heq : eqAt [.i .i64 j, .i .i64 3, .i .i64 now, .b true, .b false] [.i .i64 j, .i .i64 3, .i .i64 now, .b true, .b false] [(0, 1), (1, 1), (2, 1), (3, 0), (4, 0)] = some true := by simp [eqAt, eqOne, iEq_eq]
    rw [wp_eqagg, heq]
    simp [w1, w2]
    unfold D_tarpaulinlaw13_TimerWaits_16
    have w3 : wr .i64 ((j : Int) + 1) = ((j + 1 : Nat) : Int) := by rw [wr_id (by omega) (by omega)]; omega
    simp [l13, w3]
    rw [hJ]
    have hnow' : now = ((j + 1 : Nat) : Int) * (d + late) := by rw [hnow, show ((j + 1 : Nat) : Int) = (j : Int) + 1 by omega, Int.add_mul]; omega
    have m9 := Int.emod_nonneg (now - due) (show d ≠ 0 by omega)
    have m10 := Int.emod_lt_of_pos (now - due) (show 0 < d by omega)
    refine ⟨m - 1, by omega, j + 1, _, _, _, by omega, ?_, ?_, ?_, ?_, sg', by simp [l0], by simp [l1], by simp [l2], by simp [l7], by simp [l9], by simp [hnow'], by simp, E3 _ _ r2s, E3 _ _ r2c⟩
    · omega
    · omega
    · omega
    · rw [← hnow']; omega
  · have hji : j = i := by omega
    subst hji
    simp
    unfold D_tarpaulinlaw13_TimerWaits_10
    refine (can_spec h5 m2 false).mono ?_
    rintro _ _ ⟨rfl, rfl⟩
    have hcan : (⟨[], 1, tws j j, [], true, false, false⟩ : Ch).can false = false := by simp [Ch.can, Ch.free, Ch.wait, tws]
    rw [hcan]
    simp
    refine (waiting_spec h6 m2 false).mono ?_
    rintro v L2 hfr
    rcases hfr with ⟨z1, z2, rfl, rfl⟩ | ⟨b, ex, hb, z, _⟩
    · simp
      refine (known_spec aw _).mono ?_
      rintro _ _ ⟨rfl, rfl⟩
      simpa using fin _
    · simp [Ch.wait, tws] at z
end Go.AM
