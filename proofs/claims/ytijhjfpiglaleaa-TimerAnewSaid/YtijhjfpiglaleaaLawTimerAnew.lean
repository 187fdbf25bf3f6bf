/- TimerAnew. -/
import Derived.Test.YtijhjfpiglaleaaLawTimerQ
import Derived.Test.YtijhjfpiglaleaaLgR
set_option linter.unusedVariables false
set_option linter.unusedSimpArgs false
namespace Go.AM
variable {N : Nat → Nat} {F : Nat → Option AFn}
section
variable {Q : AV → Lg → Prop}
variable (h3 : H_timer_Set_Kind N F) (h4 : H_timer_Set_Chan N F) (h5 : H_timer_Set_Reset N F) (h6 : H_timer_Set_Next N F) (h7 : H_timer_Set_Gen N F) (h8 : H_timer_Set_Fire N F) (h9 : H_timer_Set_Len N F) (hr : H_tarpaulinalike_Round N F) (aw : F (N k_tarpaulinlaw13_awake) = some kTrue)
include h3 h4 h5 h6 h7 h8 h9 hr aw
theorem anew8 (fin : ∀ L, fin1 (some (.b true)) Q L) {d : Int} {l : List Int} {a : AV} {k dat p : Int} {cc : Option Nat} {s : Nat} {σ : Tms} {E : Env} {L0 L1 : Lg} (ha : ArgSl L0 a (icl l) l.length 1) (hlen : ¬ (30 : Int) < (l.length : Int)) (hd : 1 ≤ d ∧ d ≤ 1000)
    (hk : k = 1 ∨ k = 2 ∨ k = 3) (hp : p = if k = 2 then d else 0) (hcc : cc = none ↔ k = 3) (sg0 : Sg σ k dat cc 1 d 1 p) (m1 : L1 s = some (.abs (SetP s σ))) (m2 : L1.hasC s cc (Ch.tv [])) (m3 : ∀ b, L0 b = some (.raw (.ro (icl l))) → L1 b = some (.raw (.ro (icl l))))
    (e1 : E 1 = .i .i64 d) (e2 : E 2 = a) (e7 : E 7 = .p (some (s, 0))) (e8 : E 8 = .i .i64 0) (e9 : E 9 = .i .i64 0) (e10 : E 10 = .i .i64 k) :
    D_tarpaulinlaw13_TimerAnew_8 F N Q E L1 := by
  unfold D_tarpaulinlaw13_TimerAnew_8
  have awk : ∀ L, CallL F (N k_tarpaulinlaw13_awake) [] L fun v17 L17 => fin1 (some v17) Q L17 := by
    intro L
    refine (known_spec aw _).mono ?_
    rintro _ _ ⟨rfl, rfl⟩
    exact fin _
  simp [e7, e8, e9, e10]
  refine (tkind_spec h3 m1 0).mono ?_
  rintro _ L2 ⟨rfl, hL2⟩
  rw [hL2]
  clear hL2 L2
  rw [sg0.one]
  simp [e7, e8, e10]
  refine (tchan_spec h4 m1 0).mono ?_
  rintro _ L2 ⟨rfl, hL2⟩
  rw [hL2]
  clear hL2 L2
  rw [sg0.one]
  have go : D_tarpaulinlaw13_TimerAnew_9 F N Q E L1 := by
    unfold D_tarpaulinlaw13_TimerAnew_9 D_tarpaulinlaw13_TimerAnew_12 D_tarpaulinlaw13_TimerAnew_14
    obtain ⟨I, hI⟩ : ∃ I : Nat → Env → Lg → Prop, I = fun m E L => ∃ (i : Nat) (σ : Tms) (due q now p : Int), m + i = l.length ∧ 0 ≤ q ∧ q ≤ i + 1 ∧ 0 ≤ now ∧ now ≤ 300 * i ∧ (i = 0 → due = d) ∧ Sg σ k dat cc (i + 1) due q p ∧
      E 1 = .i .i64 d ∧ E 2 = a ∧ E 7 = .p (some (s, 0)) ∧ E 8 = .i .i64 0 ∧ E 11 = .i .i64 now ∧ E 13 = .i .i64 i ∧
      L s = some (.abs (SetP s σ)) ∧ L.hasC s cc (Ch.tv []) ∧ (∀ b, L0 b = some (.raw (.ro (icl l))) → L b = some (.raw (.ro (icl l)))) := ⟨_, rfl⟩
    refine loopW_intro I l.length ?_ ?_
    · rw [hI]
      exact ⟨0, σ, d, 1, 0, p, by omega, by omega, by omega, by omega, by omega, by simp, sg0, by simp [e1], by simp [e2], by simp [e7], by simp [e8], by simp, by simp, m1, m2, m3⟩
    intro m E t L hi
    rw [hI] at hi
    obtain ⟨i, σ, due, q, now, p, hm, q1, q2, n0, n1, hdue, sg, l1, l2, l7, l8, l11, l13, m1, m2, m3⟩ := hi
    unfold D_tarpaulinlaw13_TimerAnew_15
    rw [l1, l2, l7, l8, l13, ha.len]
    by_cases hin : i < l.length
    case neg =>
      simp [hin]
      unfold D_tarpaulinlaw13_TimerAnew_11
      rw [ha.len]
      have hil : i = l.length := by omega
      by_cases h0 : i = 0
      · have hl0 : l.length = 0 := by omega
        have hdd := hdue h0
        subst h0
        simp [hl0]
        refine (tnext_spec h6 m1 sg.sorted).mono ?_
        rintro _ L2 ⟨rfl, hL2⟩
        rw [hL2]
        clear hL2 L2
        rw [sg.next, hdd]
        simp
        refine (tgen_spec h7 m1 0).mono ?_
        rintro _ L2 ⟨rfl, hL2⟩
        rw [hL2]
        clear hL2 L2
        rw [sg.one]
        simp
        refine (known_spec aw _).mono ?_
        rintro _ _ ⟨rfl, rfl⟩
        simpa using fin _
      · have hl0 : ¬ (l.length : Int) = 0 := by omega
        have hl1 : ¬ l = [] := by rintro rfl; simp at hl0
        simp [hl0, hl1]
        refine (tlen_spec h9 m1).mono ?_
        rintro _ L2 ⟨rfl, hL2⟩
        rw [hL2]
        clear hL2 L2
        rw [sg.ones]
        simp
        refine (known_spec aw _).mono ?_
        rintro _ _ ⟨rfl, rfl⟩
        simpa using fin _
    obtain ⟨b, cap, rfl, hb⟩ := ha.get hin
    have hbL := m3 b hb
    have ei : (i : Int) < (l.length : Int) := by omega
    have rdx : rdL L (b, i) none = some (.i .i64 l[i]) := by rw [rdL_ro hbL]; simp [icl, hin]
    have w1 : wr .i64 ((i : Int) + 1) = ((i + 1 : Nat) : Int) := by rw [wr_id (by omega) (by omega)]; omega
    have w0 : wr .i64 ((i : Int) + 2) = (i : Int) + 2 := by rw [wr_id (by omega) (by omega)]
    simp [hin]
    unfold D_tarpaulinlaw13_TimerAnew_19
    rw [l2, l13]
    simp [rdx, wp_iad _ _ _ 1 b 0 l.length cap 0 .i64 (i : Int) (Int.natCast_nonneg _) ei]
    refine (round_spec hr _ 500 (by omega) (by omega) _).mono ?_
    rintro _ L5 ⟨rfl, hL5⟩
    rw [hL5]
    clear hL5 L5
    have r0 := Int.emod_nonneg l[i] (show (500 : Int) ≠ 0 by omega)
    have r1 := Int.emod_lt_of_pos l[i] (show (0 : Int) < 500 by omega)
    obtain ⟨n, hn⟩ : ∃ n, n = 1 + l[i] % 500 := ⟨_, rfl⟩
    have w2 : wr .i64 (1 + l[i] % 500) = n := by rw [wr_id (by omega) (by omega), hn]
    simp [w2]
    unfold D_tarpaulinlaw13_TimerAnew_20
    simp [l7, l8, l11]
    refine (reset_spec h5 m1 sg.len (by rw [sg.seq]; omega) 0 now n sg.one (by simp; omega) (x := Ch.tv []) rfl m2).mono ?_
    intro v L2 hv
    have hb1 : ¬ (badN now = true ∨ (k = 2 ∧ n < 1)) := by simp [badN]; omega
    have hb2 : ¬ k = 4 := by omega
    simp only [if_neg hb1, if_neg hb2] at hv
    obtain ⟨rfl, hL2⟩ := hv
    have sg2 := sg.reset (now := now) (d := n) n0 (by omega) (by omega)
    obtain ⟨σ2, hσ2⟩ : ∃ σ2, σ2 = σ.reset 0 ⟨k, dat, cc, (i : Int) + 1⟩ now n := ⟨_, rfl⟩
    rw [← hσ2] at hL2 sg2
    have b1 : L2 s = some (.abs (SetP s σ2)) := by
      rw [hL2]
      cases hq : cc with
      | none => exact Lg.put_same _ _ _
      | some c => simp only [Lg.putC]; rw [Lg.put_ne _ _ _ (Ne.symm (m2 c hq).1), Lg.put_same]
    have b2 : L2.hasC s cc (Ch.tv []) := by
      intro c hq
      refine ⟨(m2 c hq).1, ?_⟩
      rw [hL2, hq]
      simp only [Lg.putC]
      rw [Lg.put_same]; rfl
    have b3 : ∀ b, L0 b = some (.raw (.ro (icl l))) → L2 b = some (.raw (.ro (icl l))) := by
      intro b' e'
      have h8 := m3 b' e'
      have ns : b' ≠ s := by rintro rfl; rw [m1] at h8; cases h8
      rw [hL2]
      cases hq : cc with
      | none => simp only [Lg.putC]; rw [Lg.put_ne _ _ _ ns]; exact h8
      | some c =>
        have nc : b' ≠ c := by rintro rfl; rw [(m2 b' hq).2] at h8; cases h8
        simp only [Lg.putC]; rw [Lg.put_ne _ _ _ nc, Lg.put_ne _ _ _ ns]; exact h8
    clear hL2
    simp
    unfold D_tarpaulinlaw13_TimerAnew_21
    have w3 : wr .i64 (now + n) = now + n := wr_id (by omega) (by omega)
    simp [l11, w3]
    unfold D_tarpaulinlaw13_TimerAnew_22
    simp [l7]
    refine (tnext_spec h6 b1 sg2.sorted).mono ?_
    rintro _ L5 ⟨rfl, hL5⟩
    rw [hL5]
    clear hL5 L5
    rw [sg2.next]
    unfold D_tarpaulinlaw13_TimerAnew_23
    simp [l7, l8]
    refine (tgen_spec h7 b1 0).mono ?_
    rintro _ L5 ⟨rfl, hL5⟩
    rw [hL5]
    clear hL5 L5
    rw [sg2.one]
    have hg : (i : Int) + 1 + 1 = (i : Int) + 2 := by omega
    have h20 : (2 : Int) ≠ 0 := by omega
    have t1 : n.tdiv 2 = n / 2 := Int.tdiv_eq_ediv_of_nonneg (by omega)
    have w4 : wr .i64 (n / 2) = n / 2 := wr_id (by omega) (by omega)
    have w5 : wr .i64 (now + n / 2) = now + n / 2 := wr_id (by omega) (by omega)
    simp [l13, w0, hg, l11, wp_quo _ _ _ _ _ _ h20, t1, w4, w5, l7]
    refine (fire_none h8 b1 sg2.sorted sg2.len (by rw [sg2.seq]; omega) (now + n / 2) (sg2.wait (by omega))).mono ?_
    rintro _ L5 ⟨rfl, hL5⟩
    rw [hL5]
    clear hL5 L5
    simp [firedAV]
    intro ax hax
    rw [stL_cells (Lg.put_same _ _ _) (by simp) (by simp) (by simp), Lg.put_put]
    have nx : ∀ {r : Nat} {y : LC}, L2 r = some y → r ≠ ax := fun h h9 => by rw [h9, hax] at h; cases h
    have lo : ∀ (r : Nat) (y : LC) (z : LC), L2 r = some y → (L2.put ax z) r = some y := fun r y z h => by rw [Lg.put_ne _ _ _ (nx h)]; exact h
    have hnf : ¬ (now + n ≤ now + n / 2) := by omega
    simp [t1, w4, w5, hnf]
    unfold D_tarpaulinlaw13_TimerAnew_17
    simp [l13, w1]
    rw [hI]
    refine ⟨m - 1, by omega, i + 1, σ2, now + n, q + 1, now + n / 2, (if k = 2 then n else 0), by omega, by omega, by omega, by omega, by omega, by omega, ?_, by simp [l1], by simp [l2], by simp [l7], by simp [l8], by simp, by simp, lo _ _ _ b1, ?_, fun b' e' => lo _ _ _ (b3 b' e')⟩
    · have : ((i + 1 : Nat) : Int) + 1 = (i : Int) + 1 + 1 := by omega
      rw [this]; exact sg2
    · intro c hq; exact ⟨(b2 c hq).1, lo _ _ _ (b2 c hq).2⟩
  cases hq : cc with
  | none =>
    have := hcc.1 hq
    simpa [this, e10] using go
  | some c =>
    have : ¬ k = 3 := fun h => by rw [hcc.2 h] at hq; cases hq
    simpa [this, e10] using go
end
theorem timerAnew_law (code : F (N k_tarpaulinlaw13_TimerAnew) = some (c_tarpaulinlaw13_TimerAnew N)) (aw : F (N k_tarpaulinlaw13_awake) = some kTrue) (h1 : H_timer_New N F) (h2 : H_timer_Set_Ticker N F) (h10 : H_timer_Set_Timer N F) (h11 : H_timer_Set_Func N F)
    (h3 : H_timer_Set_Kind N F) (h4 : H_timer_Set_Chan N F) (h5 : H_timer_Set_Reset N F) (h6 : H_timer_Set_Next N F) (h7 : H_timer_Set_Gen N F) (h8 : H_timer_Set_Fire N F) (h9 : H_timer_Set_Len N F) (hr : H_tarpaulinalike_Round N F)
    (kind d : Int) {L0 : Lg} (l : List Int) (a : AV) (ha : ArgSl L0 a (icl l) l.length 1) : CallL F (N k_tarpaulinlaw13_TimerAnew) [.i .i64 kind, .i .i64 d, a] L0 fun v _ => v = .b true := by
  refine CallL.opq ?_
  intro Q hQ
  have fin : ∀ L, fin1 (some (.b true)) Q L := fun L => ⟨L, Sees.refl _, hQ _ _ rfl⟩
  have awk : ∀ L, CallL F (N k_tarpaulinlaw13_awake) [] L fun v17 L17 => fin1 (some v17) Q L17 := by
    intro L
    refine (known_spec aw _).mono ?_
    rintro _ _ ⟨rfl, rfl⟩
    exact fin _
  apply r_tarpaulinlaw13_TimerAnew code
  unfold D_tarpaulinlaw13_TimerAnew_1 D_tarpaulinlaw13_TimerAnew_2
  by_cases g3 : d < 1
  · simpa [initE, g3] using awk _
  by_cases g4 : 1000 < d
  · simpa [initE, g3, g4] using awk _
  by_cases g5 : (30 : Int) < (l.length : Int)
  · simpa [initE, g3, g4, g5, ha.len] using awk _
  simp [initE, g3, g4, g5, ha.len]
  unfold D_tarpaulinlaw13_TimerAnew_3
  refine (tnew_spec h1).mono ?_
  rintro _ _ ⟨s, hs, rfl, rfl⟩
  unfold D_tarpaulinlaw13_TimerAnew_4
  simp
  unfold D_tarpaulinlaw13_TimerAnew_5 D_tarpaulinlaw13_TimerAnew_6
  simp
  refine (round_spec hr _ 3 (by omega) (by omega) _).mono ?_
  rintro _ L5 ⟨rfl, hL5⟩
  rw [hL5]
  clear hL5 L5
  have r0 := Int.emod_nonneg kind (show (3 : Int) ≠ 0 by omega)
  have r1 := Int.emod_lt_of_pos kind (show (0 : Int) < 3 by omega)
  obtain ⟨k, hk⟩ : ∃ k, k = 1 + kind % 3 := ⟨_, rfl⟩
  have w2 : wr .i64 (1 + kind % 3) = k := by rw [wr_id (by omega) (by omega), hk]
  simp [w2]
  unfold D_tarpaulinlaw13_TimerAnew_7
  have hE1 : ∀ b, L0 b = some (.raw (.ro (icl l))) → b ≠ s := by rintro b e rfl; rw [hs] at e; cases e
  by_cases k1 : k = 1
  · simp [k1]
    refine (ttimer_spec (σ := Tms.nil) h10 (Lg.put_same _ _ _) Tms.nil_fine 0 d).mono ?_
    rintro v L1 ⟨c, hc, hcs, hh⟩
    have mk := make_first (k := 1) (dat := 0) (some c) (d := d) (by omega) (by omega) (by omega) (by omega)
    rcases hh with ⟨e0, rfl, hL⟩ | ⟨e0, _, _⟩
    case inr => exact absurd mk.2.1 e0
    rw [mk.1, hL, Lg.put_put]
    simp
    refine anew8 h3 h4 h5 h6 h7 h8 h9 hr aw fin ha g5 ⟨by omega, by omega⟩ (.inl rfl) rfl (by simp) mk.2.2 (s := s) ?_ ?_ ?_ (by simp) (by simp) (by simp) (by simp) (by simp) (by simp [k1])
    · rw [Lg.put_ne _ _ _ (Ne.symm hcs), Lg.put_same]
    · intro a' h'; cases h'; exact ⟨hcs, Lg.put_same _ _ _⟩
    · intro b e
      have nc : b ≠ c := by rintro rfl; rw [Lg.put_ne _ _ _ hcs, e] at hc; cases hc
      rw [Lg.put_ne _ _ _ nc, Lg.put_ne _ _ _ (hE1 b e)]; exact e
  by_cases k2 : k = 2
  · simp [k2]
    refine (tticker_spec (σ := Tms.nil) h2 (Lg.put_same _ _ _) Tms.nil_fine 0 d).mono ?_
    rintro v L1 ⟨c, hc, hcs, hh⟩
    have mk := make_first (k := 2) (dat := 0) (some c) (d := d) (by omega) (by omega) (by omega) (by omega)
    rcases hh with ⟨e0, rfl, hL⟩ | ⟨e0, _, _⟩
    case inr => exact absurd mk.2.1 e0
    rw [mk.1, hL, Lg.put_put]
    simp
    refine anew8 h3 h4 h5 h6 h7 h8 h9 hr aw fin ha g5 ⟨by omega, by omega⟩ (.inr (.inl rfl)) rfl (by simp) mk.2.2 (s := s) ?_ ?_ ?_ (by simp) (by simp) (by simp) (by simp) (by simp) (by simp [k2])
    · rw [Lg.put_ne _ _ _ (Ne.symm hcs), Lg.put_same]
    · intro a' h'; cases h'; exact ⟨hcs, Lg.put_same _ _ _⟩
    · intro b e
      have nc : b ≠ c := by rintro rfl; rw [Lg.put_ne _ _ _ hcs, e] at hc; cases hc
      rw [Lg.put_ne _ _ _ nc, Lg.put_ne _ _ _ (hE1 b e)]; exact e
  have k3 : k = 3 := by omega
  simp [k3]
  refine (tfunc_spec (σ := Tms.nil) h11 (Lg.put_same _ _ _) Tms.nil_fine 0 d 7).mono ?_
  rintro v L1 ⟨rfl, hL⟩
  have mk := make_first (k := 3) (dat := 7) none (d := d) (by omega) (by omega) (by omega) (by omega)
  rw [mk.1, mk.2.1, hL, Lg.put_put]
  simp
  refine anew8 h3 h4 h5 h6 h7 h8 h9 hr aw fin ha g5 ⟨by omega, by omega⟩ (.inr (.inr rfl)) rfl (by simp) mk.2.2 (s := s) ?_ ?_ ?_ (by simp) (by simp) (by simp) (by simp) (by simp) (by simp [k3])
  · rw [Lg.put_same]
  · intro a' h'; cases h'
  · intro b e
    rw [Lg.put_ne _ _ _ (hE1 b e)]; exact e
end Go.AM
