/- TimerTicks. -/
import Derived.Test.YtijhjfpiglaleaaLawTimerQ
import Derived.Test.YtijhjfpiglaleaaLgR
set_option linter.unusedVariables false
set_option linter.unusedSimpArgs false
namespace Go.AM
variable {N : Nat → Nat} {F : Nat → Option AFn}
theorem ArgSl.len {L : Lg} {a : AV} {cs : List AV} {n size : Nat} (h : ArgSl L a cs n size) (M : Lg) (k : AV → Lg → Prop) : wpOp F .lenSl [a] M k = k (.i .i64 n) M := by
  obtain ⟨_, ⟨rfl, rfl⟩ | ⟨b, cap, rfl, _⟩⟩ := h
  · simp
  · simp
theorem ArgSl.get {L : Lg} {a : AV} {cs : List AV} {n size : Nat} (h : ArgSl L a cs n size) {i : Nat} (hi : i < n) : ∃ b cap, a = .sl (some (b, 0)) n cap 0 ∧ L b = some (.raw (.ro cs)) := by
  obtain ⟨_, ⟨rfl, rfl⟩ | ⟨b, cap, rfl, e⟩⟩ := h
  · omega
  · exact ⟨b, cap, rfl, e⟩
theorem timerTicks_law (code : F (N k_tarpaulinlaw13_TimerTicks) = some (c_tarpaulinlaw13_TimerTicks N)) (aw : F (N k_tarpaulinlaw13_awake) = some kTrue) (h1 : H_timer_New N F) (h2 : H_timer_Set_Ticker N F) (h3 : H_chanq_Chan_Recv N F) (h4 : H_timer_Set_Fire N F) (h5 : H_tarpaulinalike_Round N F)
    (d : Int) {L0 : Lg} (l : List Int) (a : AV) (ha : ArgSl L0 a (icl l) l.length 1) : CallL F (N k_tarpaulinlaw13_TimerTicks) [.i .i64 d, a] L0 fun v _ => v = .b true := by
  refine CallL.opq ?_
  intro Q hQ
  have fin : ∀ L, fin1 (some (.b true)) Q L := fun L => ⟨L, Sees.refl _, hQ _ _ rfl⟩
  have awk : ∀ L, CallL F (N k_tarpaulinlaw13_awake) [] L fun v17 L17 => fin1 (some v17) Q L17 := by
    intro L
    refine (known_spec aw _).mono ?_
    rintro _ _ ⟨rfl, rfl⟩
    exact fin _
  apply r_tarpaulinlaw13_TimerTicks code
  unfold D_tarpaulinlaw13_TimerTicks_1 D_tarpaulinlaw13_TimerTicks_2
  by_cases g3 : d < 1
  · simpa [initE, g3] using awk _
  by_cases g4 : 100 < d
  · simpa [initE, g3, g4] using awk _
  by_cases g5 : (50 : Int) < (l.length : Int)
  · simpa [initE, g3, g4, g5, ha.len] using awk _
  simp [initE, g3, g4, g5, ha.len]
  unfold D_tarpaulinlaw13_TimerTicks_3
  refine (tnew_spec h1).mono ?_
  rintro _ _ ⟨s, hs, rfl, rfl⟩
  unfold D_tarpaulinlaw13_TimerTicks_4
  simp
  unfold D_tarpaulinlaw13_TimerTicks_5
  simp
  refine (tticker_spec (σ := Tms.nil) h2 (Lg.put_same _ _ _) Tms.nil_fine 0 d).mono ?_
  rintro v L1 ⟨c, hc, hcs, hh⟩
  have mk := make_first (k := 2) (dat := 0) (some c) (d := d) (by omega) (by omega) (by omega) (by omega)
  rcases hh with ⟨e0, rfl, hL⟩ | ⟨e0, _, _⟩
  case inr => exact absurd mk.2.1 e0
  obtain ⟨σ, hσ⟩ : ∃ σ, σ = (Tms.nil.make ⟨2, 0, some c, 0⟩ 0 d).1 := ⟨_, rfl⟩
  rw [← hσ] at hL mk
  obtain ⟨mk1, mk2, mk3⟩ := mk
  simp at mk3
  have hLs : L1 s = some (.abs (SetP s σ)) := by rw [hL, Lg.put_ne _ _ _ (Ne.symm hcs), Lg.put_same]
  have hLc : L1 c = some (.abs (ChanP c (Ch.tv []))) := by rw [hL, Lg.put_same]; rfl
  have hE1 : Ext2 L0 L1 := by
    rw [hL, Lg.put_put]
    exact ((Ext2.refl L0).put hs _).put (by rw [Lg.put_ne _ _ _ hcs] at hc; exact hc) _
  rw [mk1]
  clear hL hσ
  have hb0 : ∀ b, L0 b = some (.raw (.ro (icl l))) → b ≠ s ∧ b ≠ c := by
    intro b e
    refine ⟨(by rintro rfl; rw [hs] at e; cases e), ?_⟩
    rintro rfl
    rw [Lg.put_ne _ _ _ hcs, e] at hc; cases hc
  unfold D_tarpaulinlaw13_TimerTicks_6 D_tarpaulinlaw13_TimerTicks_7 D_tarpaulinlaw13_TimerTicks_10 D_tarpaulinlaw13_TimerTicks_12
  simp
  obtain ⟨I, hI⟩ : ∃ I : Nat → Env → Lg → Prop, I = fun m E L => ∃ (i : Nat) (σ : Tms) (due q now : Int) (vs : List Int), m + i = l.length ∧ 0 ≤ q ∧ q ≤ i + 1 ∧ 0 ≤ now ∧ now ≤ 300 * i ∧ now < due ∧ due ≤ now + d ∧ vs.length ≤ 1 ∧ (∀ v ∈ vs, 0 ≤ v) ∧ Sg σ 2 0 (some c) 1 due q d ∧
    E 0 = .i .i64 d ∧ E 1 = a ∧ E 5 = .p (some (s, 0)) ∧ E 7 = .p (some (c, 0)) ∧ E 9 = .i .i64 now ∧ E 10 = .i .i64 due ∧ E 11 = .i .i64 (vs.headD (-1)) ∧ E 12 = .i .i64 i ∧
    L s = some (.abs (SetP s σ)) ∧ L c = some (.abs (ChanP c (Ch.tv vs))) ∧ (∀ b, L0 b = some (.raw (.ro (icl l))) → L b = some (.raw (.ro (icl l)))) := ⟨_, rfl⟩
  refine loopW_intro I l.length ?_ ?_
  · rw [hI]
    exact ⟨0, σ, d, 1, 0, [], by omega, by omega, by omega, by omega, by omega, by omega, by omega, by simp, by simp, mk3, by simp, by simp, by simp, by simp, by simp, by simp, by simp, by simp, hLs, hLc, fun b e => hE1 _ _ e⟩
  intro m E t L hi
  rw [hI] at hi
  obtain ⟨i, σ, due, q, now, vs, hm, q1, q2, n0, n1, d1, d2, v1, v2, sg, l0, l1, l5, l7, l9, l10, l11, l12, m1, m2, m3⟩ := hi
  unfold D_tarpaulinlaw13_TimerTicks_13
  rw [l1, l12, ha.len]
  by_cases hin : i < l.length
  case neg =>
    have hin' : ¬ (i : Int) < (l.length : Int) := by omega
    simp [hin]
    unfold D_tarpaulinlaw13_TimerTicks_9
    exact awk _
  obtain ⟨b, cap, rfl, hb⟩ := ha.get hin
  have hbL := m3 b hb
  have nb := hb0 b hb
  have ei : (i : Int) < (l.length : Int) := by omega
  have rdx : rdL L (b, i) none = some (.i .i64 l[i]) := by rw [rdL_ro hbL]; simp [icl, hin]
  have w1 : wr .i64 ((i : Int) + 1) = ((i + 1 : Nat) : Int) := by rw [wr_id (by omega) (by omega)]; omega
  simp [hin]
  unfold D_tarpaulinlaw13_TimerTicks_17
  rw [l1, l12, l7, l11]
  simp [rdx, wp_iad _ _ _ 1 b 0 l.length cap 0 .i64 (i : Int) (Int.natCast_nonneg _) ei]
  have h30 : (3 : Int) ≠ 0 := by omega
  by_cases c3 : (l[i]).tmod 3 = 0
  · simp [wp_rem _ _ _ _ _ _ h30, c3]
    refine (recv_tv h3 m2).mono ?_
    rintro _ L2 ⟨rfl, rfl⟩
    have fin2 : ∀ E' : Env, (∀ k, k ≠ 13 → k ≠ 14 → k ≠ 15 → k ≠ 11 → E' k = E k) → E' 11 = .i .i64 (-1) → D_tarpaulinlaw13_TimerTicks_15 F N Q (fun l L => ∃ m_1, m_1 < m ∧ I m_1 l L) E' (L.put c (.abs (ChanP c (Ch.tv vs.tail)))) := by
      intro E' hE h11
      unfold D_tarpaulinlaw13_TimerTicks_15
      rw [hE 12 (by omega) (by omega) (by omega) (by omega), l12]
      simp [w1]
      rw [hI]
      refine ⟨m - 1, by omega, i + 1, σ, due, q, now, [], by omega, by omega, by omega, by omega, by omega, by omega, by omega, by simp, by simp, sg, ?_, ?_, ?_, ?_, ?_, ?_, ?_, by simp, ?_, ?_, ?_⟩
      · simp [hE, l0]
      · simp [hE, l1]
      · simp [hE, l5]
      · simp [hE, l7]
      · simp [hE, l9]
      · simp [hE, l10]
      · simp [h11]
      · rw [Lg.put_ne _ _ _ (Ne.symm hcs)]; exact m1
      · rw [Lg.put_same]
        have : vs.tail = [] := by cases vs with
          | nil => rfl
          | cons x r => simp at v1; simp [v1]
        rw [this]
      · intro b' e'
        rw [Lg.put_ne _ _ _ (hb0 b' e').2]; exact m3 b' e'
    match vs, v1, v2, fin2 with
    | [], _, _, fin2 =>
      simp [recvAV]
      exact fin2 _ (by intro k a1 a2 a3 a4; simp only [Env.put_ne9 a1, Env.put_ne9 a2, Env.put_ne9 a3, Env.put_ne9 a4]) (by simp)
    | [x], _, v2, fin2 =>
      have hx : 0 ≤ x := v2 x (by simp)
      simp [recvAV, hx]
      exact fin2 _ (by intro k a1 a2 a3 a4; simp only [Env.put_ne9 a1, Env.put_ne9 a2, Env.put_ne9 a3, Env.put_ne9 a4]) (by simp)
  · simp [wp_rem _ _ _ _ _ _ h30, c3]
    unfold D_tarpaulinlaw13_TimerTicks_18
    rw [l1, l12, l9]
    simp [rdx, wp_iad _ _ _ 1 b 0 l.length cap 0 .i64 (i : Int) (Int.natCast_nonneg _) ei]
    refine (round_spec h5 _ 300 (by omega) (by omega) _).mono ?_
    rintro _ L5 ⟨rfl, hL5⟩
    rw [hL5]
    clear hL5 L5
    have r0 := Int.emod_nonneg l[i] (show (300 : Int) ≠ 0 by omega)
    have r1 := Int.emod_lt_of_pos l[i] (show (0 : Int) < 300 by omega)
    obtain ⟨nw, hnw⟩ : ∃ nw, nw = now + l[i] % 300 := ⟨_, rfl⟩
    have w2 : wr .i64 (now + l[i] % 300) = nw := by rw [wr_id (by omega) (by omega), hnw]
    simp [w2]
    -- behind the second Fire
    have tail : ∀ (E' : Env) (L' : Lg) (σ' : Tms) (due' q' : Int) (vs' : List Int), (∀ k, k ≠ 9 → k ≠ 17 → k ≠ 18 → k ≠ 10 → k ≠ 11 → k ≠ 20 → E' k = E k) → E' 9 = .i .i64 nw → E' 10 = .i .i64 due' → E' 11 = .i .i64 (vs'.headD (-1)) → 0 ≤ q' → q' ≤ (i : Int) + 2 → nw < due' → due' ≤ nw + d → vs'.length ≤ 1 → (∀ v ∈ vs', 0 ≤ v) → Sg σ' 2 0 (some c) 1 due' q' d →
        L' s = some (.abs (SetP s σ')) → L' c = some (.abs (ChanP c (Ch.tv vs'))) → (∀ b, L0 b = some (.raw (.ro (icl l))) → L' b = some (.raw (.ro (icl l)))) → D_tarpaulinlaw13_TimerTicks_22 F N Q (fun l L => ∃ m_1, m_1 < m ∧ I m_1 l L) E' L' := by
      intro E' L' σ' due' q' vs' hE e9 e10 e11 a1 a2 a3 a4 a5 a6 sg' b1 b2 b3
      unfold D_tarpaulinlaw13_TimerTicks_22
      rw [hE 5 (by omega) (by omega) (by omega) (by omega) (by omega) (by omega), l5, e9]
      refine (fire_wait h4 b1 sg' ⟨by omega, by omega⟩ a3).mono ?_
      rintro _ L3 ⟨rfl, hL3⟩
      subst hL3
      simp [firedAV]
      intro ax hax
      rw [stL_cells (Lg.put_same _ _ _) (by simp) (by simp) (by simp), Lg.put_put]
      simp
      unfold D_tarpaulinlaw13_TimerTicks_15
      simp [hE 12 (by omega) (by omega) (by omega) (by omega) (by omega) (by omega), l12, w1]
      rw [hI]
      have nx : ∀ {r : Nat} {y : LC}, L3 r = some y → r ≠ ax := fun h h9 => by rw [h9, hax] at h; cases h
      have lo : ∀ (r : Nat) (y : LC) (z : LC), L3 r = some y → (L3.put ax z) r = some y := fun r y z h => by rw [Lg.put_ne _ _ _ (nx h)]; exact h
      refine ⟨m - 1, by omega, i + 1, σ', due', q', nw, vs', by omega, by omega, by omega, by omega, by omega, a3, a4, a5, a6, sg', ?_, ?_, ?_, ?_, ?_, ?_, ?_, by simp, lo _ _ _ b1, lo _ _ _ b2, fun b' e' => lo _ _ _ (b3 b' e')⟩
      · simp [hE, l0]
      · simp [hE, l1]
      · simp [hE, l5]
      · simp [hE, l7]
      · simp [e9]
      · simp [e10]
      · simp [e11]
    unfold D_tarpaulinlaw13_TimerTicks_19
    simp [l5]
    by_cases hdue : due ≤ nw
    · refine CallL.mono (fire_tick h4 m1 m2 hcs v1 sg ⟨by omega, by omega⟩ (now := nw) (by omega) (by omega) (by omega) hdue (by omega)) ?_
      rintro _ _ ⟨σ', sg', rfl, rfl⟩
      have m9 := Int.emod_nonneg (nw - due) (show d ≠ 0 by omega)
      have m10 := Int.emod_lt_of_pos (nw - due) (show 0 < d by omega)
      have m11 := Int.mul_ediv_add_emod (nw - due) d
      have m12 : 0 ≤ (nw - due) / d := Int.ediv_nonneg (by omega) (by omega)
      have m13 : (nw - due) / d ≤ nw - due := Int.ediv_le_self _ (by omega)
      have w3 : wr .i64 (nw - due) = nw - due := wr_id (by omega) (by omega)
      have t1 : (nw - due).tdiv d = (nw - due) / d := Int.tdiv_eq_ediv_of_nonneg (by omega)
      have w4 : wr .i64 ((nw - due) / d) = (nw - due) / d := wr_id (by omega) (by omega)
      have w5 : wr .i64 ((nw - due) / d + 1) = (nw - due) / d + 1 := wr_id (by omega) (by omega)
      have m14 : d * ((nw - due) / d + 1) = nw - due - (nw - due) % d + d := by rw [Int.mul_add]; omega
      have w6 : wr .i64 (nw - due - (nw - due) % d + d) = nw - due - (nw - due) % d + d := wr_id (by omega) (by omega)
      have w7 : wr .i64 (due + (nw - due - (nw - due) % d + d)) = nw + (d - (nw - due) % d) := by rw [wr_id (by omega) (by omega)]; omega
      have hd0 : d ≠ 0 := by omega
      simp [firedAV]
      intro ax hax
      rw [stL_cells (Lg.put_same _ _ _) (by simp) (by simp) (by simp), Lg.put_put, splice_7]
      obtain ⟨L4, hL4⟩ : ∃ L4, L4 = ((L.put s (.abs (SetP s σ'))).put c (.abs (ChanP c (Ch.tv (putV vs nw))))).put ax (.raw (.cells [.i .i64 0, .i .i64 2, .i .i64 due, .i .i64 nw, .i .i64 0, .sl none 0 0 0, .b (keptV vs)])) := ⟨_, rfl⟩
      rw [← hL4]
      have nxc : c ≠ ax := by rintro rfl; rw [Lg.put_same] at hax; cases hax
      have nxs : s ≠ ax := by rintro rfl; rw [Lg.put_ne _ _ _ (Ne.symm hcs), Lg.put_same] at hax; cases hax
      have b1 : L4 s = some (.abs (SetP s σ')) := by rw [hL4, Lg.put_ne _ _ _ nxs, Lg.put_ne _ _ _ (Ne.symm hcs), Lg.put_same]
      have b2 : L4 c = some (.abs (ChanP c (Ch.tv (putV vs nw)))) := by rw [hL4, Lg.put_ne _ _ _ nxc, Lg.put_same]
      have b3 : ∀ b, L0 b = some (.raw (.ro (icl l))) → L4 b = some (.raw (.ro (icl l))) := by
        intro b' e'
        have h8 := m3 b' e'
        have h9 := hb0 b' e'
        have : b' ≠ ax := by rintro rfl; rw [Lg.put_ne _ _ _ h9.2, Lg.put_ne _ _ _ h9.1, h8] at hax; cases hax
        rw [hL4, Lg.put_ne _ _ _ this, Lg.put_ne _ _ _ h9.2, Lg.put_ne _ _ _ h9.1]; exact h8
      have rx : L4 ax = some (.raw (.cells [.i .i64 0, .i .i64 2, .i .i64 due, .i .i64 nw, .i .i64 0, .sl none 0 0 0, .b (keptV vs)])) := by rw [hL4, Lg.put_same]
      have f2 : rdL L4 (ax, 2) none = some (.i .i64 due) := by rw [rdL_cell rx]; rfl
      have f6 : rdL L4 (ax, 6) none = some (.b (keptV vs)) := by rw [rdL_cell rx]; rfl
      have pv1 : (putV vs nw).length ≤ 1 := by unfold putV; split <;> simp [v1]
      have pv2 : ∀ v ∈ putV vs nw, 0 ≤ v := by
        unfold putV; split
        · simp; omega
        · exact v2
      unfold D_tarpaulinlaw13_TimerTicks_20
      have go : D_tarpaulinlaw13_TimerTicks_21 F N Q (fun l L => ∃ m_1, m_1 < m ∧ I m_1 l L) (((E.put 9 (.i .i64 nw)).put 17 (.p (some (ax, 0)))).put 18 (.b true)) L4 := by
        unfold D_tarpaulinlaw13_TimerTicks_21
        simp [l10, l0, l11, w3, wp_quo _ _ _ _ _ _ hd0, t1, w4, w5, m14, w6, w7]
        match vs, v1, tail, b2, pv1, pv2 with
        | [], _, tail, b2, pv1, pv2 =>
          simp
          exact tail _ _ σ' _ (q + 1) [nw] (by intro k a1 a2 a3 a4 a5 a6; simp only [Env.put_ne9 a1, Env.put_ne9 a2, Env.put_ne9 a3, Env.put_ne9 a4, Env.put_ne9 a5]) (by simp) (by simp) (by simp) (by omega) (by omega) (by omega) (by omega) pv1 pv2 sg' b1 b2 b3
        | [x], _, tail, b2, pv1, pv2 =>
          have hx : 0 ≤ x := v2 x (by simp)
          simp [hx]
          refine ⟨fun h => absurd h (by omega), ?_⟩
          exact tail _ _ σ' _ (q + 1) [x] (by intro k a1 a2 a3 a4 a5 a6; simp only [Env.put_ne9 a1, Env.put_ne9 a2, Env.put_ne9 a3, Env.put_ne9 a4, Env.put_ne9 a5]) (by simp) (by simp) (by simp [l11]) (by omega) (by omega) (by omega) (by omega) pv1 pv2 sg' b1 b2 b3
      match vs, v1, v2, go, f6, l11 with
      | [], _, _, go, f6, l11 =>
        simp [l10, hdue, f2, f6, keptV, l11]
        exact go
      | [x], _, v2, go, f6, l11 =>
        have hx : 0 ≤ x := v2 x (by simp)
        simp [l10, hdue, f2, f6, keptV, l11, hx]
        exact ⟨fun h => absurd h (by omega), go⟩
    · refine (fire_wait h4 m1 sg ⟨by omega, by omega⟩ (now := nw) (by omega)).mono ?_
      rintro _ L3 ⟨rfl, hL3⟩
      subst hL3
      simp [firedAV]
      intro ax hax
      rw [stL_cells (Lg.put_same _ _ _) (by simp) (by simp) (by simp), Lg.put_put]
      unfold D_tarpaulinlaw13_TimerTicks_20
      have nx : ∀ {r : Nat} {y : LC}, L3 r = some y → r ≠ ax := fun h h9 => by rw [h9, hax] at h; cases h
      have lo : ∀ (r : Nat) (y : LC) (z : LC), L3 r = some y → (L3.put ax z) r = some y := fun r y z h => by rw [Lg.put_ne _ _ _ (nx h)]; exact h
      simp [l10, hdue]
      unfold D_tarpaulinlaw13_TimerTicks_21
      simp
      exact tail _ _ σ due q vs (by intro k a1 a2 a3 a4 a5 a6; simp only [Env.put_ne9 a1, Env.put_ne9 a2, Env.put_ne9 a3, Env.put_ne9 a4]) (by simp) (by simp [l10]) (by simp [l11]) (by omega) (by omega) (by omega) (by omega) v1 v2 sg (lo _ _ _ m1) (lo _ _ _ m2) (fun b' e' => lo _ _ _ (m3 b' e'))
end Go.AM
