/- TimerMany. -/
import Derived.Test.YtijhjfpiglaleaaLawTimerMP
import Derived.Test.YtijhjfpiglaleaaLawTimerQ
import Derived.Test.YtijhjfpiglaleaaLgR
set_option linter.unusedVariables false
set_option linter.unusedSimpArgs false
namespace Go.AM
variable {N : Nat → Nat} {F : Nat → Option AFn}
theorem make1 {σ : Tms} (c : Option Nat) (hf : σ.fine 100000 100000) : (64 ≤ σ.named → (σ.make ⟨1, 0, c, 0⟩ 0 1) = (σ, 0, 3)) ∧ (σ.named < 64 → (σ.make ⟨1, 0, c, 0⟩ 0 1).2.2 = 0 ∧ (σ.make ⟨1, 0, c, 0⟩ 0 1).1.named = σ.named + 1 ∧
    (σ.make ⟨1, 0, c, 0⟩ 0 1).1.x.l.length ≤ σ.x.l.length + 1 ∧ (σ.make ⟨1, 0, c, 0⟩ 0 1).1.x.seq = σ.x.seq + 1 ∧ (σ.make ⟨1, 0, c, 0⟩ 0 1).1.ones.length = σ.ones.length + 1) := by
  have c1 : ¬ (badN 0 = true ∨ (0 : Int) < 0 ∨ ((1 : Int) = 2 ∧ (1 : Int) < 1)) := by simp [badN]
  refine ⟨fun h => ?_, fun h => ?_⟩
  · have c2 : (1 : Int) ≠ 4 ∧ 64 ≤ σ.named := ⟨by omega, h⟩
    simp only [Tms.make, if_neg c1, if_pos c2]
  · have c2 : ¬ ((1 : Int) ≠ 4 ∧ 64 ≤ σ.named) := by omega
    have hbt : badT (clockAdd 0 (max 1 0)) 0 = false := by rw [clockAdd_id (by omega) (by omega) (by omega)]; exact badT_ok (by omega) (by omega) (by omega) (by omega)
    have hins : ∀ (x : It) (l : List It), (ins x l).length = l.length + 1 := fun x l => by rw [(ins_perm x l).length_eq]; rfl
    have e12 : ¬ ((1 : Int) = 2) := by omega
    have e14 : ¬ ((1 : Int) = 4) := by omega
    simp only [Tms.make, if_neg c1, if_neg c2, Tms.armed, Xs.arm, if_neg e12, if_neg e14, hbt, Bool.false_eq_true, if_false, Xs.armed]
    refine ⟨trivial, trivial, ?_, trivial, by simp⟩
    rw [hins]
    have := rmId_length σ.ones.length σ.x.l
    omega
theorem make4L {σ : Tms} (when ctx : Int) (hc : 0 ≤ ctx) : (σ.make ⟨4, ctx, none, 0⟩ 0 when).2.2 = 0 := by
  have c1 : ¬ (badN 0 = true ∨ ctx < 0 ∨ ((4 : Int) = 2 ∧ when < 1)) := by simp [badN]; omega
  have c2 : ¬ ((4 : Int) ≠ 4 ∧ 64 ≤ σ.named) := by omega
  simp only [Tms.make, if_neg c1, if_neg c2]
theorem timerMany_law (code : F (N k_tarpaulinlaw13_TimerMany) = some (c_tarpaulinlaw13_TimerMany N)) (aw : F (N k_tarpaulinlaw13_awake) = some kTrue) (h1 : H_timer_New N F) (h2 : H_timer_Set_Func N F) (h3 : H_timer_Set_Fire N F) (h4 : H_timer_Set_Timer N F) (h5 : H_timer_Set_Lapse N F) (hr : H_tarpaulinalike_Round N F)
    {L0 : Lg} (l : List Int) (a : AV) (ha : ArgSl L0 a (icl l) l.length 1) (more : Int) : CallL F (N k_tarpaulinlaw13_TimerMany) [a, .i .i64 more] L0 fun v _ => v = .b true := by
  refine CallL.opq ?_
  intro Q hQ
  have fin : ∀ L, fin1 (some (.b true)) Q L := fun L => ⟨L, Sees.refl _, hQ _ _ rfl⟩
  have awk : ∀ L, CallL F (N k_tarpaulinlaw13_awake) [] L fun v17 L17 => fin1 (some v17) Q L17 := by
    intro L
    refine (known_spec aw _).mono ?_
    rintro _ _ ⟨rfl, rfl⟩
    exact fin _
  apply r_tarpaulinlaw13_TimerMany code
  unfold D_tarpaulinlaw13_TimerMany_1 D_tarpaulinlaw13_TimerMany_2
  by_cases g3 : (64 : Int) < (l.length : Int)
  · simpa [initE, g3, ha.len] using awk _
  by_cases g4 : more < 0
  · simpa [initE, g3, g4, ha.len] using awk _
  by_cases g5 : 10 < more
  · simpa [initE, g3, g4, g5, ha.len] using awk _
  simp [initE, g3, g4, g5, ha.len]
  unfold D_tarpaulinlaw13_TimerMany_3
  refine (tnew_spec h1).mono ?_
  rintro _ _ ⟨s, hs, rfl, rfl⟩
  unfold D_tarpaulinlaw13_TimerMany_4
  simp
  unfold D_tarpaulinlaw13_TimerMany_27 D_tarpaulinlaw13_TimerMany_29
  have hE1 : ∀ b, L0 b = some (.raw (.ro (icl l))) → b ≠ s := by rintro b e rfl; rw [hs] at e; cases e
  obtain ⟨I, hI⟩ : ∃ I : Nat → Env → Lg → Prop, I = fun m E L => ∃ (i : Nat) (σ : Tms), m + i = l.length ∧ Mny l i σ ∧ E 0 = a ∧ E 1 = .i .i64 more ∧ E 5 = .p (some (s, 0)) ∧ E 6 = .i .i64 i ∧ L s = some (.abs (SetP s σ)) ∧ (∀ b, L0 b = some (.raw (.ro (icl l))) → L b = some (.raw (.ro (icl l)))) := ⟨_, rfl⟩
  refine loopW_intro I l.length ?_ ?_
  · rw [hI]
    exact ⟨0, Tms.nil, by omega, Mny.nil l, by simp, by simp, by simp, by simp, Lg.put_same _ _ _, fun b e => by rw [Lg.put_ne _ _ _ (hE1 b e)]; exact e⟩
  intro m E t L hi
  rw [hI] at hi
  obtain ⟨i, σ, hm, mn, l0, l1, l5, l6, m1, m3⟩ := hi
  unfold D_tarpaulinlaw13_TimerMany_30
  rw [l0, l6, ha.len]
  by_cases hin : i < l.length
  · obtain ⟨b, cap, rfl, hb⟩ := ha.get hin
    have hbL := m3 b hb
    have ei : (i : Int) < (l.length : Int) := by omega
    have rdx : rdL L (b, i) none = some (.i .i64 l[i]) := by rw [rdL_ro hbL]; simp [icl, hin]
    have w1 : wr .i64 ((i : Int) + 1) = ((i + 1 : Nat) : Int) := by rw [wr_id (by omega) (by omega)]; omega
    simp [hin, rdx, wp_iad _ _ _ 1 b 0 l.length cap 0 .i64 (i : Int) (Int.natCast_nonneg _) ei]
    refine (round_spec hr _ 100 (by omega) (by omega) _).mono ?_
    rintro _ L5 ⟨rfl, hL5⟩
    rw [hL5]
    clear hL5 L5
    have hko : l[i] % 100 = kOf l i := by simp [kOf, hin]
    obtain ⟨st1, st2, st3⟩ := mn.step (by omega : i < 64)
    rw [hko, l5]
    refine (tfunc_spec h2 m1 (mn.fine (by omega)) 10 (kOf l i) i).mono ?_
    rintro _ L5 ⟨rfl, hL5⟩
    rw [hL5]
    clear hL5 L5
    rw [st1, st2]
    simp [l6, w1]
    rw [hI]
    refine ⟨m - 1, by omega, i + 1, _, by omega, st3, by simp [l0], by simp [l1], by simp [l5], by simp, Lg.put_same _ _ _, fun b' e' => by rw [Lg.put_ne _ _ _ (hE1 b' e')]; exact m3 b' e'⟩
  have hil : i = l.length := by omega
  clear hI
  subst hil
  simp
  unfold D_tarpaulinlaw13_TimerMany_6 D_tarpaulinlaw13_TimerMany_15 D_tarpaulinlaw13_TimerMany_17
  obtain ⟨J, hJ⟩ : ∃ J : Nat → Env → Lg → Prop, J = fun m E L => ∃ (i : Nat) (σ : Tms) (last id : Int), m + i = l.length ∧ Mfd l l.length i last id σ ∧ E 0 = a ∧ E 1 = .i .i64 more ∧ E 5 = .p (some (s, 0)) ∧ E 10 = .i .i64 last ∧ E 11 = .i .i64 id ∧ E 12 = .i .i64 i ∧ L s = some (.abs (SetP s σ)) ∧ (∀ b, L0 b = some (.raw (.ro (icl l))) → L b = some (.raw (.ro (icl l)))) := ⟨_, rfl⟩
  refine loopW_intro J l.length ?_ ?_
  · rw [hJ]
    exact ⟨0, σ, -1, -1, by omega, mn.fd, by simp [l0], by simp [l1], by simp [l5], by simp, by simp, by simp, m1, m3⟩
  clear m1 m3 l0 l1 l5 l6 mn hm
  intro m E t L hj
  rw [hJ] at hj
  obtain ⟨i, σ, last, id, hm, mf, l0, l1, l5, l10, l11, l12, m1, m3⟩ := hj
  unfold D_tarpaulinlaw13_TimerMany_18
  rw [l0, l12, ha.len]
  have hseq : 0 ≤ σ.x.seq ∧ σ.x.seq < 4611686018427387904 := by rw [mf.seq]; omega
  have hlen : σ.x.l.length < 1000000 := by have := mf.cnt; omega
  by_cases hin : i < l.length
  · simp [hin]
    unfold D_tarpaulinlaw13_TimerMany_22
    rw [l5]
    obtain ⟨x', j, hj, tk, af, mf'⟩ := mf.fire hin
    have hone : σ.one (j : Int) = some ⟨3, j, none, 1⟩ := by
      have : σ.has (j : Int) = true := by simp [Tms.has, mf.len]; omega
      simp [Tms.one, this, mf.ones j hj]
    refine (fire_spec h3 m1 mf.sorted hlen hseq 200 tk hone (x := Ch.tm) (by intro a ha; cases ha)).mono ?_
    rintro _ L5 ⟨sl, rfl, hfr⟩
    rcases hfr with ⟨_, _, rfl, hL5⟩ | ⟨b, ex, hb, z, _⟩
    case inr => simp [putsC] at z
    simp only [putsC, Lg.putC] at hL5
    rw [hL5]
    clear hL5 L5
    simp [firedAV, putsC]
    intro ax hax
    rw [stL_cells (Lg.put_same _ _ _) (by simp) (by simp) (by simp), Lg.put_put, splice_7]
    obtain ⟨L6, hL6⟩ : ∃ L6, L6 = (L.put s (.abs (SetP s { σ with x := x' }))).put ax (.raw (.cells [.i .i64 j, .i .i64 3, .i .i64 (10 + kOf l j), .i .i64 200, .i .i64 j, .sl none 0 0 0, .b false])) := ⟨_, rfl⟩
    rw [← hL6]
    have nxs : s ≠ ax := by rintro rfl; rw [Lg.put_same] at hax; cases hax
    have b1 : L6 s = some (.abs (SetP s { σ with x := x' })) := by rw [hL6, Lg.put_ne _ _ _ nxs, Lg.put_same]
    have b3 : ∀ b, L0 b = some (.raw (.ro (icl l))) → L6 b = some (.raw (.ro (icl l))) := by
      intro b' e'
      have h8 := m3 b' e'
      have h9 := hE1 b' e'
      have : b' ≠ ax := by rintro rfl; rw [Lg.put_ne _ _ _ h9, h8] at hax; cases hax
      rw [hL6, Lg.put_ne _ _ _ this, Lg.put_ne _ _ _ h9]; exact h8
    have rx : L6 ax = some (.raw (.cells [.i .i64 j, .i .i64 3, .i .i64 (10 + kOf l j), .i .i64 200, .i .i64 j, .sl none 0 0 0, .b false])) := by rw [hL6, Lg.put_same]
    have f0 : rdL L6 (ax, 0) none = some (.i .i64 j) := by rw [rdL_cell rx]; rfl
    have f1 : rdL L6 (ax, 1) none = some (.i .i64 3) := by rw [rdL_cell rx]; rfl
    have f2 : rdL L6 (ax, 2) none = some (.i .i64 (10 + kOf l j)) := by rw [rdL_cell rx]; rfl
    have f4 : rdL L6 (ax, 4) none = some (.i .i64 j) := by rw [rdL_cell rx]; rfl
    clear hL6
    obtain ⟨b, cap, rfl, hb⟩ := ha.get hj
    have hbL := b3 b hb
    have ej : (j : Int) < (l.length : Int) := by omega
    have rdx : rdL L6 (b, j) none = some (.i .i64 l[j]) := by rw [rdL_ro hbL]; simp [icl, hj]
    have hko : l[j] % 100 = kOf l j := by simp [kOf, hj]
    have hkb := kOf_b l j
    have w1 : wr .i64 (10 + kOf l j) = 10 + kOf l j := wr_id (by omega) (by omega)
    have w2 : wr .i64 ((i : Int) + 1) = ((i + 1 : Nat) : Int) := by rw [wr_id (by omega) (by omega)]; omega
    have nlt : ¬ (10 + kOf l j < last) := by omega
    have nge : ¬ ((l.length : Int) ≤ (j : Int)) := by omega
    have nid : 10 + kOf l j = last → ¬ ((j : Int) < id) := by omega
    have nhj : ¬ (l.length ≤ j) := by omega
    have nj0 : ¬ ((j : Int) < 0) := by omega
    unfold D_tarpaulinlaw13_TimerMany_25
    simp [l0, f0, f1, f2, f4, nge, nhj, nj0, wp_iad _ _ _ 1 b 0 l.length cap 0 .i64 (j : Int) (Int.natCast_nonneg _) ej, rdx]
    refine (round_spec hr _ 100 (by omega) (by omega) _).mono ?_
    rintro _ L5 ⟨rfl, hL5⟩
    rw [hL5]
    clear hL5 L5
    rw [hko]
    have go : D_tarpaulinlaw13_TimerMany_24 F N Q (fun l L => ∃ m_1, m_1 < m ∧ J m_1 l L) ((E.put 13 (.p (some (ax, 0)))).put 14 (.b true)) L6 := by
      unfold D_tarpaulinlaw13_TimerMany_24
      simp [f0, f2]
      unfold D_tarpaulinlaw13_TimerMany_20
      simp [l12, w2]
      rw [hJ]
      exact ⟨m - 1, by omega, i + 1, _, 10 + kOf l j, j, by omega, mf', by simp [l0], by simp [l1], by simp [l5], by simp, by simp, by simp, b1, b3⟩
    have h26 : D_tarpaulinlaw13_TimerMany_26 F N Q (fun l L => ∃ m_1, m_1 < m ∧ J m_1 l L) ((E.put 13 (.p (some (ax, 0)))).put 14 (.b true)) (.b false) L6 := by
      unfold D_tarpaulinlaw13_TimerMany_26
      simpa using go
    by_cases hq : 10 + kOf l j = last
    · have hnid := nid hq
      have w1' : wr .i64 (10 + kOf l j) = last := by rw [w1, hq]
      rw [hq] at f2 nlt
      rw [hq]
      simp [w1', f0, f2, l10, l11, nlt, nj0, nge, nhj, hnid, againG, againV, semRL, rLdL]
      exact h26
    · simp [w1, f0, f2, l10, l11, nlt, nj0, nge, nhj, hq, againG, againV, semRL, rLdL]
      exact h26
  · have hil : i = l.length := by omega
    clear hJ
    subst hil
    simp
    unfold D_tarpaulinlaw13_TimerMany_8
    rw [l5]
    have hnil : σ.x.l = [] := List.length_eq_zero_iff.1 (by have := mf.cnt; omega)
    refine (fire_none h3 m1 mf.sorted hlen hseq 4611686018427387904 (by simp [Xs.take, hnil])).mono ?_
    rintro _ L5 ⟨rfl, hL5⟩
    rw [hL5]
    clear hL5 L5
    simp [firedAV]
    intro ax hax
    rw [stL_cells (Lg.put_same _ _ _) (by simp) (by simp) (by simp), Lg.put_put]
    have nxs : s ≠ ax := by rintro rfl; rw [m1] at hax; cases hax
    obtain ⟨L6, hL6⟩ : ∃ L6, L6 = L.put ax (.raw (.cells (splice [.i .i64 0, .i .i64 0, .i .i64 0, .i .i64 0, .i .i64 0, .sl none 0 0 0, .b false] 0 [.i .i64 0, .i .i64 0, .i .i64 0, .i .i64 0, .i .i64 0, .sl none 0 0 0, .b false]))) := ⟨_, rfl⟩
    rw [← hL6]
    have b1 : L6 s = some (.abs (SetP s σ)) := by rw [hL6, Lg.put_ne _ _ _ nxs]; exact m1
    clear hL6 hax
    unfold D_tarpaulinlaw13_TimerMany_11
    rw [Env.put_ne9 (show (0 : Nat) ≠ 16 by omega), l0, ha.len]
    unfold D_tarpaulinlaw13_TimerMany_13
    obtain ⟨more, rfl⟩ := Int.eq_ofNat_of_zero_le (show 0 ≤ more by omega)
    obtain ⟨K, hK⟩ : ∃ K : Nat → Env → Lg → Prop, K = fun m E L => ∃ (i : Nat) (σ : Tms), m + i = 64 + more ∧ σ.named = (min i 64 : Nat) ∧ σ.x.l.length ≤ i ∧ 0 ≤ σ.x.seq ∧ σ.x.seq ≤ 64 + i ∧ σ.ones.length ≤ i ∧ E 1 = .i .i64 more ∧ E 5 = .p (some (s, 0)) ∧ E 16 = .b false ∧ E 17 = .i .i64 i ∧ L s = some (.abs (SetP s σ)) := ⟨_, rfl⟩
    refine loopW_intro K (64 + more - l.length) ?_ ?_
    · rw [hK]
      exact ⟨l.length, σ, by omega, by rw [mf.named]; omega, by rw [hnil]; simp, by rw [mf.seq]; omega, by rw [mf.seq]; omega, by rw [mf.len]; omega, by simp [l1], by simp [l5], by simp, by simp, b1⟩
    clear b1 m1 m3 mf hnil hseq hlen l0 l1 l5 l10 l11 l12
    intro m' E' t' L' hk
    rw [hK] at hk
    obtain ⟨i, σ, hm', q1, q2, q3, q4, q5, l1, l5, l16, l17, m1⟩ := hk
    have w0 : wr .i64 (64 + (more : Int)) = 64 + (more : Int) := wr_id (by omega) (by omega)
    have w1 : wr .i64 ((i : Int) + 1) = ((i + 1 : Nat) : Int) := by rw [wr_id (by omega) (by omega)]; omega
    have hfine : σ.fine 100000 100000 := ⟨by omega, q3, by omega, by omega, by omega⟩
    have hfine2 : σ.fine 1000000 4611686018427387904 := ⟨by omega, q3, by omega, by omega, by omega⟩
    unfold D_tarpaulinlaw13_TimerMany_14
    rw [l1, l17, l5, l16]
    by_cases him : (i : Int) < 64 + (more : Int)
    · simp [w0, him]
      refine (ttimer_spec h4 m1 hfine2 0 1).mono ?_
      rintro v L7 ⟨c, hc, hcs, hh⟩
      have mk := make1 (some c) hfine
      by_cases h64 : i < 64
      · have h64' : (i : Int) < 64 := by omega
        obtain ⟨k1, k2, k3, k4, k5⟩ := mk.2 (by rw [q1]; omega)
        rcases hh with ⟨e0, rfl, hL⟩ | ⟨e0, _, _⟩
        case inr => exact absurd k1 e0
        simp [h64', l17, w1]
        rw [hK]
        refine ⟨m' - 1, by omega, i + 1, _, by omega, ?_, ?_, ?_, ?_, ?_, by simp [l1], by simp [l5], by simp [l16], by simp, by rw [hL, Lg.put_ne _ _ _ (Ne.symm hcs), Lg.put_same]⟩
        · rw [k2, q1]; omega
        · omega
        · omega
        · omega
        · omega
      · have h64' : ¬ (i : Int) < 64 := by omega
        have k1 := mk.1 (by rw [q1]; omega)
        rcases hh with ⟨e0, _, _⟩ | ⟨e0, rfl, hL⟩
        case inl => rw [k1] at e0; simp at e0
        rw [k1, hL]
        simp [h64', l17, w1]
        rw [hK]
        refine ⟨m' - 1, by omega, i + 1, σ, by omega, by rw [q1]; omega, by omega, by omega, by omega, by omega, by simp [l1], by simp [l5], by simp [l16], by simp, m1⟩
    · simp [w0, him]
      unfold D_tarpaulinlaw13_TimerMany_10
      refine (tlapse_spec h5 m1 hfine2 5 0).mono ?_
      rintro _ L7 ⟨rfl, _⟩
      rw [make4L 5 0 (by omega)]
      simp
      refine (known_spec aw _).mono ?_
      rintro _ _ ⟨rfl, rfl⟩
      simpa using fin _
end Go.AM
