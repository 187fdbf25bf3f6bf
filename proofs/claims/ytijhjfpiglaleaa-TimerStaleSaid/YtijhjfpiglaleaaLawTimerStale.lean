/- TimerStale. -/
import Derived.Test.YtijhjfpiglaleaaLawTimerSP
import Derived.Test.YtijhjfpiglaleaaLgT
set_option linter.unusedVariables false
set_option linter.unusedSimpArgs false
namespace Go.AM
variable {N : Nat → Nat} {F : Nat → Option AFn}
structure SM (L0 : Lg) (cs : List AV) (s id c c0 : Nat) (σ : Tms) (vs : List Int) (L : Lg) : Prop where
  set : L s = some (.abs (SetP s σ))
  ch : L c = some (.abs (ChanP c (Ch.tv vs)))
  ne : c ≠ s
  ch0 : id = 1 → c0 ≠ s ∧ c0 ≠ c ∧ ∃ vs0, vs0.length ≤ 1 ∧ L c0 = some (.abs (ChanP c0 (Ch.tv vs0)))
  args : ∀ b, L0 b = some (.raw (.ro cs)) → L b = some (.raw (.ro cs))
section
variable {L0 L : Lg} {cs : List AV} {s id c c0 : Nat} {σ : Tms} {vs : List Int} {kid K : Int}
theorem SM.junk (h : SM L0 cs s id c c0 σ vs L) {ax : Nat} (hx : L ax = none) (z : LC) : SM L0 cs s id c c0 σ vs (L.put ax z) := by
  have nx : ∀ {r : Nat} {y : LC}, L r = some y → (L.put ax z) r = some y := fun {r y} e => by
    rw [Lg.put_ne]; exact e
    rintro rfl; rw [hx] at e; cases e
  refine ⟨nx h.set, nx h.ch, h.ne, fun h1 => ?_, fun b e => nx (h.args b e)⟩
  obtain ⟨a1, a2, vs0, a3, a4⟩ := h.ch0 h1
  exact ⟨a1, a2, vs0, a3, nx a4⟩
theorem SM.setS (h : SM L0 cs s id c c0 σ vs L) (σ' : Tms) : SM L0 cs s id c c0 σ' vs (L.put s (.abs (SetP s σ'))) := by
  refine ⟨Lg.put_same _ _ _, by rw [Lg.put_ne _ _ _ h.ne]; exact h.ch, h.ne, fun h1 => ?_, fun b e => ?_⟩
  · obtain ⟨a1, a2, vs0, a3, a4⟩ := h.ch0 h1
    exact ⟨a1, a2, vs0, a3, by rw [Lg.put_ne _ _ _ a1]; exact a4⟩
  · have := h.args b e
    have n : b ≠ s := by rintro rfl; rw [h.set] at this; cases this
    rw [Lg.put_ne _ _ _ n]; exact this
theorem SM.setC (h : SM L0 cs s id c c0 σ vs L) (vs' : List Int) : SM L0 cs s id c c0 σ vs' (L.put c (.abs (ChanP c (Ch.tv vs')))) := by
  refine ⟨by rw [Lg.put_ne _ _ _ (Ne.symm h.ne)]; exact h.set, Lg.put_same _ _ _, h.ne, fun h1 => ?_, fun b e => ?_⟩
  · obtain ⟨a1, a2, vs0, a3, a4⟩ := h.ch0 h1
    exact ⟨a1, a2, vs0, a3, by rw [Lg.put_ne _ _ _ a2]; exact a4⟩
  · have := h.args b e
    have n : b ≠ c := by rintro rfl; rw [h.ch] at this; cases this
    rw [Lg.put_ne _ _ _ n]; exact this
theorem SM.setC0 (h : SM L0 cs s id c c0 σ vs L) (h1 : id = 1) {vs' : List Int} (hv : vs'.length ≤ 1) : SM L0 cs s id c c0 σ vs (L.put c0 (.abs (ChanP c0 (Ch.tv vs')))) := by
  obtain ⟨a1, a2, vs0, a3, a4⟩ := h.ch0 h1
  refine ⟨by rw [Lg.put_ne _ _ _ (Ne.symm a1)]; exact h.set, by rw [Lg.put_ne _ _ _ (Ne.symm a2)]; exact h.ch, h.ne, fun _ => ⟨a1, a2, vs', hv, Lg.put_same _ _ _⟩, fun b e => ?_⟩
  have := h.args b e
  have n : b ≠ c0 := by rintro rfl; rw [a4] at this; cases this
  rw [Lg.put_ne _ _ _ n]; exact this
theorem putV_len {vs : List Int} (h : vs.length ≤ 1) (now : Int) : (putV vs now).length ≤ 1 := by unfold putV; split <;> simp [h]
theorem fireS (h4 : H_timer_Set_Fire N F) (si : SI id c c0 kid σ K) (sm : SM L0 cs s id c c0 σ vs L) (hv : vs.length ≤ 1) (hK : K ≤ 100000) {n : Nat} {now nw when : Int} (hb : Beh id σ now when) (hn : 0 ≤ now) (hnw : now ≤ nw) (hbd : nw ≤ 1099511627776) (hl : Left n σ nw) :
    CallL F (N k_timer_Set_Fire) [.p (some (s, 0)), .i .i64 nw] L fun v L' => (v = .tup [firedAV 0 0 0 0 0 (.sl none 0 0 0) false, .b false] ∧ L' = L ∧ ∀ y ∈ σ.x.l, nw < y.w) ∨
      ∃ (σ' : Tms) (j : Nat) (k w : Int) (vs' : List Int) (kept : Bool), n < 2 ∧ v = .tup [firedAV j k w nw 0 (.sl none 0 0 0) kept, .b true] ∧ now < w ∧ w ≤ nw ∧ SM L0 cs s id c c0 σ' vs' L' ∧ SI id c c0 kid σ' (K + 1) ∧ Beh id σ' now when ∧ Left (n + 1) σ' nw ∧ (vs' = vs ∨ (vs' = putV vs nw ∧ 0 ≤ when ∧ when ≤ w)) := by
  have hseq : 0 ≤ σ.x.seq ∧ σ.x.seq < 4611686018427387904 := ⟨si.xg.pos, by have := si.xg.seq; omega⟩
  have hlen : σ.x.l.length < 1000000 := by have := si.xg.len; omega
  rcases si.fire hb hn hnw hbd hl with ⟨h1, h2⟩ | ⟨x', j, w, hn2, hj, w1, w2, w3, tk, si', hb', hl'⟩
  · refine (fire_none h4 sm.set si.xg.sorted hlen hseq nw h1).mono ?_
    rintro _ L' ⟨rfl, hL'⟩
    exact .inl ⟨rfl, hL', h2⟩
  · obtain ⟨k, g, _, hone⟩ := si.get hj
    by_cases hji : j = id
    · rw [if_pos hji] at hone
      refine (fire_spec h4 sm.set si.xg.sorted hlen hseq nw tk hone (hasC_some sm.ne sm.ch)).mono ?_
      rintro _ L' ⟨sl, rfl, hfr⟩
      rw [put_tv hv] at hfr
      rw [put_tv hv]
      rcases hfr with ⟨_, _, rfl, hL'⟩ | ⟨b, ex, hb, z, _⟩
      · refine .inr ⟨_, j, k, w, putV vs nw, _, hn2, rfl, w1, w2, ?_, si', hb', hl', .inr ⟨rfl, w3 hji⟩⟩
        rw [hL']
        exact (sm.setS _).setC _
      · simp at z
    · rw [if_neg hji] at hone
      have h1 : id = 1 := by have := si.idl; omega
      obtain ⟨a1, a2, vs0, a3, a4⟩ := sm.ch0 h1
      refine (fire_spec h4 sm.set si.xg.sorted hlen hseq nw tk hone (hasC_some a1 a4)).mono ?_
      rintro _ L' ⟨sl, rfl, hfr⟩
      rw [put_tv a3] at hfr
      rw [put_tv a3]
      rcases hfr with ⟨_, _, rfl, hL'⟩ | ⟨b, ex, hb, z, _⟩
      · refine .inr ⟨_, j, k, w, vs, _, hn2, rfl, w1, w2, ?_, si', hb', hl', .inl rfl⟩
        rw [hL']
        exact (sm.setS _).setC0 h1 (putV_len a3 nw)
      · simp at z
end
theorem tcl_get : ∀ (l : List (Int × Int × Int)) (i k : Nat) (x : Int × Int × Int), l[i]? = some x → k < 3 → (tcl l)[i * 3 + k]? = (t3 x)[k]?
  | [], i, k, x, h, _ => by simp at h
  | y :: r, 0, k, x, h, hk => by
    simp at h; subst h
    simp only [tcl, List.flatMap_cons, Nat.zero_mul, Nat.zero_add]
    rw [List.getElem?_append_left (by simp [t3]; omega)]
  | y :: r, i + 1, k, x, h, hk => by
    have := tcl_get r i k x (by simpa using h) hk
    have e : (i + 1) * 3 + k = (t3 y).length + (i * 3 + k) := by simp [t3]; omega
    rw [e]
    simp only [tcl, List.flatMap_cons]
    rw [List.getElem?_append_right (by omega), Nat.add_sub_cancel_left]
    exact this
section
variable {Q : AV → Lg → Prop}
variable (hr : H_tarpaulinalike_Round N F) (h4 : H_timer_Set_Fire N F) (h5 : H_chanq_Chan_Recv N F) (h6 : H_timer_Set_Stop N F) (h7 : H_chanq_Chan_Can N F) (h8 : H_timer_Set_Reset N F) (h9 : H_chanq_Chan_Len N F) (h10 : H_chanq_Chan_Cap N F) (aw : F (N k_tarpaulinlaw13_awake) = some kTrue)
include hr h4 h5 h6 h7 h8 h9 h10 aw
theorem stale8 (fin : ∀ L, fin1 (some (.b true)) Q L) {d : Int} {l : List (Int × Int × Int)} {a : AV} {kid : Int} {s id c c0 : Nat} {σ : Tms} {E : Env} {L0 L1 : Lg} (ha : ArgSl L0 a (tcl l) l.length 3) (hlen : ¬ (80 : Int) < (l.length : Int)) (hd : 1 ≤ d ∧ d ≤ 1000)
    (sm0 : SM L0 (tcl l) s id c c0 σ [] L1) (si0 : SI id c c0 kid σ 4) (be0 : Beh id σ 0 d)
    (e1 : E 1 = .i .i64 d) (e2 : E 2 = a) (e7 : E 7 = .p (some (s, 0))) (e8 : E 8 = .i .i64 id) (e9 : E 9 = .p (some (c, 0))) :
    D_tarpaulinlaw13_TimerStale_8 F N Q E L1 := by
  unfold D_tarpaulinlaw13_TimerStale_8 D_tarpaulinlaw13_TimerStale_11 D_tarpaulinlaw13_TimerStale_13
  have awk : ∀ L, CallL F (N k_tarpaulinlaw13_awake) [] L fun v17 L17 => fin1 (some v17) Q L17 := by
    intro L
    refine (known_spec aw _).mono ?_
    rintro _ _ ⟨rfl, rfl⟩
    exact fin _
  obtain ⟨I, hI⟩ : ∃ I : Nat → Env → Lg → Prop, I = fun m E L => ∃ (i : Nat) (σ : Tms) (vs : List Int) (now since when : Int), m + i = l.length ∧ SM L0 (tcl l) s id c c0 σ vs L ∧ SI id c c0 kid σ (4 * i + 4) ∧ Beh id σ now when ∧ vs.length ≤ 1 ∧ (∀ v ∈ vs, 0 ≤ when ∧ when ≤ v ∧ v ≤ now) ∧ 0 ≤ since ∧ since ≤ now ∧ now ≤ 2000 * i ∧
    E 2 = a ∧ E 7 = .p (some (s, 0)) ∧ E 8 = .i .i64 id ∧ E 9 = .p (some (c, 0)) ∧ E 11 = .i .i64 now ∧ E 12 = .i .i64 since ∧ E 13 = .i .i64 when ∧ E 14 = .i .i64 i := ⟨_, rfl⟩
  refine loopW_intro I l.length ?_ ?_
  · rw [hI]
    exact ⟨0, σ, [], 0, 0, d, by omega, sm0, by simpa using si0, be0, by simp, by simp, by omega, by omega, by omega, by simp [e2], by simp [e7], by simp [e8], by simp [e9], by simp, by simp, by simp [e1], by simp⟩
  intro m E t L hi
  rw [hI] at hi
  obtain ⟨i, σ, vs, now, since, when, hm, sm, si, be, v1, v2, s0, s1, n1, l2, l7, l8, l9, l11, l12, l13, l14⟩ := hi
  unfold D_tarpaulinlaw13_TimerStale_14
  rw [l2, l14, ha.len]
  by_cases hin : i < l.length
  case neg =>
    simp [hin]
    unfold D_tarpaulinlaw13_TimerStale_10
    exact awk _
  obtain ⟨b, cap, rfl, hb⟩ := ha.get hin
  have hbL := sm.args b hb
  have ei : (i : Int) < (l.length : Int) := by omega
  obtain ⟨x, hx⟩ : ∃ x, x = l[i] := ⟨_, rfl⟩
  have hxi : l[i]? = some x := by rw [hx]; exact List.getElem?_eq_getElem hin
  have rd0 : rdL L (b, i * 3) none = some (.i .i64 x.1) := by rw [rdL_ro hbL]; exact tcl_get l i 0 x hxi (by omega)
  have rd2 : rdL L (b, i * 3 + 2) none = some (.i .i64 x.2.2) := by rw [rdL_ro hbL]; exact tcl_get l i 2 x hxi (by omega)
  have w1 : wr .i64 ((i : Int) + 1) = ((i + 1 : Nat) : Int) := by rw [wr_id (by omega) (by omega)]; omega
  -- the end of each act
  have tail : ∀ (E' : Env) (L' : Lg) (σ' : Tms) (vs' : List Int) (now' since' when' : Int), SM L0 (tcl l) s id c c0 σ' vs' L' → SI id c c0 kid σ' (4 * i + 8) → Beh id σ' now' when' → vs'.length ≤ 1 → (∀ v ∈ vs', 0 ≤ when' ∧ when' ≤ v ∧ v ≤ now') → 0 ≤ since' → since' ≤ now' → now' ≤ 2000 * i + 2000 →
      E' 2 = .sl (some (b, 0)) l.length cap 0 → E' 7 = .p (some (s, 0)) → E' 8 = .i .i64 id → E' 9 = .p (some (c, 0)) → E' 11 = .i .i64 now' → E' 12 = .i .i64 since' → E' 13 = .i .i64 when' → E' 14 = .i .i64 i → D_tarpaulinlaw13_TimerStale_19 F N Q (fun l L => ∃ m_1, m_1 < m ∧ I m_1 l L) E' L' := by
    intro E' L' σ' vs' now' since' when' sm' si' be' a1 a2 a3 a4 a5 q2 q7 q8 q9 q11 q12 q13 q14
    unfold D_tarpaulinlaw13_TimerStale_19
    rw [q9]
    refine (chanLen_spec h9 sm'.ch).mono ?_
    rintro _ L5 ⟨rfl, hL5⟩
    rw [hL5]
    clear hL5 L5
    simp [Ch.tv]
    refine (chanCap_spec h10 sm'.ch).mono ?_
    rintro _ L5 ⟨rfl, hL5⟩
    rw [hL5]
    clear hL5 L5
    simp [Ch.tv]
    unfold D_tarpaulinlaw13_TimerStale_16
    simp [q14, w1]
    rw [hI]
    refine ⟨m - 1, by omega, i + 1, σ', vs', now', since', when', by omega, sm', ?_, be', a1, a2, a3, a4, by omega, by simp [q2], by simp [q7], by simp [q8], by simp [q9], by simp [q11], by simp [q12], by simp [q13], by simp⟩
    have : (4 * ((i + 1 : Nat) : Int) + 4) = 4 * (i : Int) + 8 := by omega
    rw [this]; exact si'
  have simono : ∀ {σ : Tms} {K K' : Int}, SI id c c0 kid σ K → K ≤ K' → SI id c c0 kid σ K' := fun {σ K K'} h hk => by
    obtain ⟨g, q1, q2, q3⟩ := h.one
    exact ⟨h.idl, h.kl, h.len, ⟨g, q1, q2, Int.le_trans q3 hk⟩, h.zero, h.xg.mono hk, h.ids, h.per⟩
  simp [hin]
  unfold D_tarpaulinlaw13_TimerStale_20
  rw [l2, l14]
  simp [rd0, wp_iad _ _ _ 3 b 0 l.length cap 0 .i64 (i : Int) (Int.natCast_nonneg _) ei]
  refine (round_spec hr _ 4 (by omega) (by omega) _).mono ?_
  rintro _ L5 ⟨rfl, hL5⟩
  rw [hL5]
  clear hL5 L5
  have r0 := Int.emod_nonneg x.1 (show (4 : Int) ≠ 0 by omega)
  have r1 := Int.emod_lt_of_pos x.1 (show (0 : Int) < 4 by omega)
  unfold D_tarpaulinlaw13_TimerStale_22
  simp
  unfold D_tarpaulinlaw13_TimerStale_23
  by_cases c0' : x.1 % 4 = 0
  · simp [c0']
    unfold D_tarpaulinlaw13_TimerStale_24
    simp [l2, l14, rd2, wp_iad _ _ _ 3 b 0 l.length cap 0 .i64 (i : Int) (Int.natCast_nonneg _) ei]
    refine (round_spec hr _ 2000 (by omega) (by omega) _).mono ?_
    rintro _ L5 ⟨rfl, hL5⟩
    rw [hL5]
    clear hL5 L5
    have t0 := Int.emod_nonneg x.2.2 (show (2000 : Int) ≠ 0 by omega)
    have t1 := Int.emod_lt_of_pos x.2.2 (show (0 : Int) < 2000 by omega)
    obtain ⟨nw, hnw⟩ : ∃ nw, nw = now + x.2.2 % 2000 := ⟨_, rfl⟩
    have w2 : wr .i64 (now + x.2.2 % 2000) = nw := by rw [wr_id (by omega) (by omega), hnw]
    simp [l11, w2]
    unfold D_tarpaulinlaw13_TimerStale_25 D_tarpaulinlaw13_TimerStale_27
    obtain ⟨J, hJ⟩ : ∃ J : Nat → Env → Lg → Prop, J = fun m E L => ∃ (n : Nat) (σ : Tms) (vs : List Int), m + n = 3 ∧ SM L0 (tcl l) s id c c0 σ vs L ∧ SI id c c0 kid σ (4 * i + 4 + n) ∧ Beh id σ now when ∧ Left n σ nw ∧ vs.length ≤ 1 ∧ (∀ v ∈ vs, 0 ≤ when ∧ when ≤ v ∧ v ≤ nw) ∧
      E 2 = .sl (some (b, 0)) l.length cap 0 ∧ E 7 = .p (some (s, 0)) ∧ E 8 = .i .i64 id ∧ E 9 = .p (some (c, 0)) ∧ E 11 = .i .i64 nw ∧ E 12 = .i .i64 since ∧ E 13 = .i .i64 when ∧ E 14 = .i .i64 i ∧ E 15 = .i .i64 n := ⟨_, rfl⟩
    refine loopW_intro J 3 ?_ ?_
    · rw [hJ]
      exact ⟨0, σ, vs, by omega, sm, by simpa using si, be, trivial, v1, fun v hv => by have := v2 v hv; omega, by simp [l2], by simp [l7], by simp [l8], by simp [l9], by simp, by simp [l12], by simp [l13], by simp [l14], by simp⟩
    clear sm si be v1 v2 hbL rd0 rd2 c0' r0 r1 hb
    intro m2 E t L hj
    rw [hJ] at hj
    obtain ⟨n, σ, vs, hm2, sm, si, be, lf, v1, v2, l2, l7, l8, l9, l11, l12, l13, l14, l15⟩ := hj
    unfold D_tarpaulinlaw13_TimerStale_28
    rw [l15]
    have w3 : wr .i64 ((n : Int) + 1) = ((n + 1 : Nat) : Int) := by rw [wr_id (by omega) (by omega)]; omega
    by_cases hn3 : (n : Int) < 3
    case neg =>
      have hn4 : n = 3 := by omega
      subst hn4
      simp
      refine tail _ _ σ vs nw since when sm (simono si (by omega)) ?_ v1 v2 s0 (by omega) (by omega) l2 l7 l8 l9 l11 l12 l13 l14
      intro y hy
      exact ⟨lf y hy, (be y hy).2⟩
    simp [hn3, l7, l11]
    refine (fireS h4 si sm v1 (by omega) be (by omega) (by omega) (by omega) lf).mono ?_
    rintro v L5 (⟨rfl, hL5, hall⟩ | ⟨σ', j, k, w, vs', kept, hn2, rfl, q1, q2, sm', si', be', lf', hvs⟩)
    · rw [hL5]
      clear hL5 L5
      simp [firedAV]
      intro ax hax
      rw [stL_cells (Lg.put_same _ _ _) (by simp) (by simp) (by simp), Lg.put_put]
      simp [l15, w3]
      rw [hJ]
      refine ⟨m2 - 1, by omega, n + 1, σ, vs, by omega, sm.junk hax _, simono si (by omega), be, Left.all hall, v1, v2, by simp [l2], by simp [l7], by simp [l8], by simp [l9], by simp [l11], by simp [l12], by simp [l13], by simp [l14], by simp⟩
    · simp [firedAV]
      intro ax hax
      rw [stL_cells (Lg.put_same _ _ _) (by simp) (by simp) (by simp), Lg.put_put, splice_7]
      have sm6 := sm'.junk hax (.raw (.cells [.i .i64 j, .i .i64 k, .i .i64 w, .i .i64 nw, .i .i64 0, .sl none 0 0 0, .b kept]))
      obtain ⟨L6, hL6⟩ : ∃ L6, L6 = L5.put ax (.raw (.cells [.i .i64 j, .i .i64 k, .i .i64 w, .i .i64 nw, .i .i64 0, .sl none 0 0 0, .b kept])) := ⟨_, rfl⟩
      have rx : L6 ax = some (.raw (.cells [.i .i64 j, .i .i64 k, .i .i64 w, .i .i64 nw, .i .i64 0, .sl none 0 0 0, .b kept])) := by rw [hL6, Lg.put_same]
      rw [← hL6] at sm6
      rw [← hL6]
      clear hL6 hax
      have f2 : rdL L6 (ax, 2) none = some (.i .i64 w) := by rw [rdL_cell rx]; rfl
      have k1 : ¬ nw < w := by omega
      have k2 : ¬ w < since := by omega
      simp [f2, k1, k2, l12, l15, w3, l11]
      rw [hJ]
      refine ⟨m2 - 1, by omega, n + 1, σ', vs', by omega, sm6, ?_, be', lf', ?_, ?_, by simp [l2], by simp [l7], by simp [l8], by simp [l9], by simp [l11], by simp [l12], by simp [l13], by simp [l14], by simp⟩
      · have : 4 * (i : Int) + 4 + ((n + 1 : Nat) : Int) = 4 * (i : Int) + 4 + n + 1 := by omega
        rw [this]; exact si'
      · rcases hvs with rfl | ⟨rfl, _⟩
        · exact v1
        · exact putV_len v1 nw
      · rcases hvs with rfl | ⟨rfl, z1, z2⟩
        · exact v2
        · unfold putV
          split
          · intro v hv; simp at hv; subst hv; omega
          · exact v2
  simp [c0']
  unfold D_tarpaulinlaw13_TimerStale_29
  simp
  unfold D_tarpaulinlaw13_TimerStale_30
  by_cases c1' : x.1 % 4 = 1
  · simp [c1']
    unfold D_tarpaulinlaw13_TimerStale_31
    simp [l9]
    refine (recv_tv h5 sm.ch).mono ?_
    rintro _ L5 ⟨rfl, hL5⟩
    rw [hL5]
    clear hL5 L5
    have smr := sm.setC vs.tail
    have tl : vs.tail = [] := by match vs, v1 with
      | [], _ => rfl
      | [q], _ => rfl
    rw [tl] at smr
    rw [tl]
    have sir := simono si (show (4 * (i : Int) + 4) ≤ 4 * i + 8 by omega)
    match vs, v1, v2 with
    | [], _, _ =>
      simp [recvAV]
      exact tail _ _ σ [] now since when smr sir be (by simp) (by simp) s0 s1 (by omega) (by simp [l2]) (by simp [l7]) (by simp [l8]) (by simp [l9]) (by simp [l11]) (by simp [l12]) (by simp [l13]) (by simp [l14])
    | [q], _, v2 =>
      obtain ⟨k1, k2, k3⟩ := v2 q (by simp)
      have k4 : ¬ when < 0 := by omega
      have k5 : ¬ q < when := by omega
      have k6 : ¬ now < q := by omega
      simp [recvAV, l13, l11, k4, k5, k6]
      exact tail _ _ σ [] now since when smr sir be (by simp) (by simp) s0 s1 (by omega) (by simp [l2]) (by simp [l7]) (by simp [l8]) (by simp [l9]) (by simp [l11]) (by simp [l12]) (by simp [l13]) (by simp [l14])
  simp [c1']
  unfold D_tarpaulinlaw13_TimerStale_32
  simp
  unfold D_tarpaulinlaw13_TimerStale_33
  have hone : ∃ g, σ.ones[id]? = some ⟨kid, 0, some c, g⟩ ∧ σ.one (id : Int) = some ⟨kid, 0, some c, g⟩ ∧ 0 ≤ g ∧ g ≤ 4 * (i : Int) + 4 := by
    obtain ⟨g, g1, g2, g3⟩ := si.one
    have hh : σ.has (id : Int) = true := by simp [Tms.has, si.len]; omega
    exact ⟨g, g1, by simp [Tms.one, hh, g1], g2, g3⟩
  obtain ⟨g, g1, gone, g2, g3⟩ := hone
  have hlen' : (σ.x.l.length : Int) ≤ 1000 := by have := si.xg.len; omega
  have hseq' := si.xg.seq
  have hpos' := si.xg.pos
  have hcan : (Ch.tv []).can false = false := by simp [Ch.tv, Ch.can, Ch.free, Ch.wait]
  by_cases c2' : x.1 % 4 = 2
  · simp [c2']
    unfold D_tarpaulinlaw13_TimerStale_34
    simp [l7, l8]
    refine (stop_spec h6 sm.set (by omega) id gone (x := Ch.tv vs) rfl (hasC_some sm.ne sm.ch)).mono ?_
    rintro _ L5 ⟨rfl, hL5⟩
    have sm5 : SM L0 (tcl l) s id c c0 { σ with x := σ.x.stop id } [] L5 := by rw [hL5]; exact (sm.setS _).setC []
    clear hL5
    simp [l9]
    refine (can_spec h7 sm5.ch false).mono ?_
    rintro _ L6 ⟨rfl, hL6⟩
    rw [hL6, hcan]
    clear hL6 L6
    simp
    obtain ⟨si5, m5⟩ := si.stop
    refine tail _ _ _ [] now since (-1) sm5 (simono si5 (by omega)) ?_ (by simp) (by simp) s0 s1 (by omega) (by simp [l2]) (by simp [l7]) (by simp [l8]) (by simp [l9]) (by simp [l11]) (by simp [l12]) (by simp) (by simp [l14])
    intro y hy
    exact ⟨(be y (m5 y hy).1).1, fun h => absurd h (m5 y hy).2⟩
  have c3' : x.1 % 4 = 3 := by omega
  simp [c3']
  unfold D_tarpaulinlaw13_TimerStale_35
  simp [l2, l14, rd2, wp_iad _ _ _ 3 b 0 l.length cap 0 .i64 (i : Int) (Int.natCast_nonneg _) ei]
  refine (round_spec hr _ 1000 (by omega) (by omega) _).mono ?_
  rintro _ L5 ⟨rfl, hL5⟩
  rw [hL5]
  clear hL5 L5
  have t0 := Int.emod_nonneg x.2.2 (show (1000 : Int) ≠ 0 by omega)
  have t1 := Int.emod_lt_of_pos x.2.2 (show (0 : Int) < 1000 by omega)
  obtain ⟨k, hk⟩ : ∃ k, k = 1 + x.2.2 % 1000 := ⟨_, rfl⟩
  have w2 : wr .i64 (1 + x.2.2 % 1000) = k := by rw [wr_id (by omega) (by omega), hk]
  have w3 : wr .i64 (now + k) = now + k := wr_id (by omega) (by omega)
  simp [w2, l7, l8, l11]
  refine (reset_spec h8 sm.set (by omega) ⟨hpos', by omega⟩ id now k gone (by simp; omega) (x := Ch.tv vs) rfl (hasC_some sm.ne sm.ch)).mono ?_
  intro v L5 hv
  have hb1 : ¬ (badN now = true ∨ (kid = 2 ∧ k < 1)) := by simp [badN]; omega
  have hb2 : ¬ kid = 4 := by have := si.kl; omega
  simp only [if_neg hb1, if_neg hb2] at hv
  obtain ⟨rfl, hL5⟩ := hv
  have sm5 : SM L0 (tcl l) s id c c0 (σ.reset id ⟨kid, 0, some c, g⟩ now k) [] L5 := by rw [hL5]; exact (sm.setS _).setC []
  clear hL5
  simp [l9]
  refine (can_spec h7 sm5.ch false).mono ?_
  rintro _ L6 ⟨rfl, hL6⟩
  rw [hL6, hcan]
  clear hL6 L6
  simp [w2, w3, l11]
  obtain ⟨si5, m5⟩ := si.reset g1 (now := now) (k := k) (by omega) (by omega) (by omega) (by omega)
  refine tail _ _ _ [] now now (now + k) sm5 (simono si5 (by omega)) ?_ (by simp) (by simp) (by omega) (by omega) (by omega) (by simp [l2]) (by simp [l7]) (by simp [l8]) (by simp [l9]) (by simp [l11]) (by simp) (by simp) (by simp [l14])
  intro y hy
  rcases m5 y hy with ⟨h1, h2⟩ | ⟨h1, h2⟩
  · exact ⟨by omega, fun _ => ⟨by omega, by omega⟩⟩
  · exact ⟨(be y h1).1, fun h => absurd h h2⟩
end
theorem SI.first {σ : Tms} {c c0 : Nat} {d : Int} (hd : 1 ≤ d ∧ d ≤ 1000) (sg : Sg σ 1 0 (some c) 1 d 1 0) : SI 0 c c0 1 σ 4 ∧ Beh 0 σ 0 d := by
  have mem : ∀ y ∈ σ.x.l, y = ⟨0, d, 1⟩ := fun y hy => by rw [sg.l] at hy; simpa using hy
  refine ⟨⟨by omega, .inl rfl, by rw [sg.ones]; rfl, ⟨1, by rw [sg.ones]; rfl, by omega, by omega⟩, by intro h; omega, ⟨sg.sorted, by rw [sg.l]; simp, ?_, by rw [sg.seq]; omega, by rw [sg.seq]; omega, by rw [sg.l]; simp, ?_, ?_⟩, ?_, ?_⟩, ?_⟩
  · intro y hy; rw [mem y hy, sg.seq]; simp
  · intro y hy; rw [mem y hy]; exact ⟨0, sg.pf, by omega, by omega⟩
  · intro y hy; rw [mem y hy]; simp; omega
  · intro y hy; rw [mem y hy]; exact ⟨0, by omega, rfl⟩
  · intro y hy p hp; rw [mem y hy] at hp; rw [show σ.x.pf (0 : Int) = some 0 from sg.pf] at hp; cases hp; omega
  · intro y hy; rw [mem y hy]; exact ⟨by simp; omega, fun _ => by simp; omega⟩
theorem SI.second {σ : Tms} {c c0 : Nat} {d : Int} (hd : 1 ≤ d ∧ d ≤ 1000) (sg : Sg σ 1 0 (some c0) 1 d 1 0) (hn : σ.named = 1) : (σ.make ⟨2, 0, some c, 0⟩ 0 d).2.1 = 1 ∧ (σ.make ⟨2, 0, some c, 0⟩ 0 d).2.2 = 0 ∧ SI 1 c c0 2 (σ.make ⟨2, 0, some c, 0⟩ 0 d).1 4 ∧ Beh 1 (σ.make ⟨2, 0, some c, 0⟩ 0 d).1 0 d := by
  obtain ⟨si, be⟩ := SI.first (c := c0) (c0 := c0) hd sg
  have c1 : ¬ (badN 0 = true ∨ (0 : Int) < 0 ∨ ((2 : Int) = 2 ∧ d < 1)) := by simp [badN]; omega
  have c2 : ¬ ((2 : Int) ≠ 4 ∧ 64 ≤ σ.named) := by rw [hn]; omega
  have hm : max d 0 = d := by omega
  have hmn : min d 4611686018427387904 = d := by omega
  have hca : clockAdd 0 d = d := by rw [clockAdd_id (by omega) (by omega) (by omega)]; omega
  have hx2 : XG σ.x 2 := ⟨si.xg.sorted, si.xg.nd, si.xg.below, si.xg.pos, by rw [sg.seq]; omega, by rw [sg.l]; simp, si.xg.per, si.xg.time⟩
  obtain ⟨a1, a2, a3, a4, a5⟩ := hx2.arm 1 d d (by omega) (by omega) (by omega) (by omega)
  have hol : σ.ones.length = 1 := by rw [sg.ones]; rfl
  have hmk : σ.make ⟨2, 0, some c, 0⟩ 0 d = ({ σ with named := if (2 : Int) = 4 then σ.named else σ.named + 1, ones := σ.ones ++ [(⟨2, 0, some c, 0⟩ : On)] }.armed σ.ones.length ⟨2, 0, some c, 0⟩ 0 d, (σ.ones.length : Int), 0) := by
    unfold Tms.make
    rw [if_neg c1, if_neg c2]
  have hx : (σ.make ⟨2, 0, some c, 0⟩ 0 d).1.x = (σ.x.arm 1 d d).1 := by
    rw [hmk]
    simp [Tms.armed, hm, hmn, hca, hol]
  have ho : (σ.make ⟨2, 0, some c, 0⟩ 0 d).1.ones = [⟨1, 0, some c0, 1⟩, ⟨2, 0, some c, 1⟩] := by
    rw [hmk]
    simp [Tms.armed, sg.ones]
  have mem : ∀ y ∈ (σ.x.arm 1 d d).1.l, (y.id = 1 ∧ y.w = d) ∨ (y.id = 0 ∧ y.w = d) := by
    intro y hy
    rcases (a2 y).1 hy with rfl | ⟨h1, h2⟩
    · exact .inl ⟨rfl, rfl⟩
    · rw [sg.l] at h1; simp at h1; subst h1; exact .inr ⟨rfl, rfl⟩
  refine ⟨by rw [hmk, hol]; rfl, by rw [hmk], ⟨by omega, .inr rfl, by rw [ho]; rfl, ⟨1, by rw [ho]; rfl, by omega, by omega⟩, fun _ => ⟨1, by rw [ho]; rfl⟩, by rw [hx]; exact a1.mono (by omega), ?_, ?_⟩, ?_⟩
  · intro y hy
    rw [hx] at hy
    rcases mem y hy with ⟨h1, _⟩ | ⟨h1, _⟩
    · exact ⟨1, by omega, h1⟩
    · exact ⟨0, by omega, h1⟩
  · intro y hy p hp
    rw [hx] at hy hp
    rcases mem y hy with ⟨h1, _⟩ | ⟨h1, _⟩
    · rw [h1, a3] at hp; cases hp; omega
    · rw [h1, a4 0 (by omega), sg.pf] at hp; cases hp; omega
  · intro y hy
    rw [hx] at hy
    rcases mem y hy with ⟨h1, h2⟩ | ⟨h1, h2⟩
    · exact ⟨by omega, fun _ => by omega⟩
    · exact ⟨by omega, fun _ => by omega⟩
theorem timerStale_law (code : F (N k_tarpaulinlaw13_TimerStale) = some (c_tarpaulinlaw13_TimerStale N)) (aw : F (N k_tarpaulinlaw13_awake) = some kTrue) (h1 : H_timer_New N F) (h2 : H_timer_Set_Ticker N F) (h3 : H_timer_Set_Timer N F)
    (hr : H_tarpaulinalike_Round N F) (h4 : H_timer_Set_Fire N F) (h5 : H_chanq_Chan_Recv N F) (h6 : H_timer_Set_Stop N F) (h7 : H_chanq_Chan_Can N F) (h8 : H_timer_Set_Reset N F) (h9 : H_chanq_Chan_Len N F) (h10 : H_chanq_Chan_Cap N F)
    (tk : Bool) (d : Int) {L0 : Lg} (l : List (Int × Int × Int)) (a : AV) (ha : ArgSl L0 a (tcl l) l.length 3) : CallL F (N k_tarpaulinlaw13_TimerStale) [.b tk, .i .i64 d, a] L0 fun v _ => v = .b true := by
  refine CallL.opq ?_
  intro Q hQ
  have fin : ∀ L, fin1 (some (.b true)) Q L := fun L => ⟨L, Sees.refl _, hQ _ _ rfl⟩
  have awk : ∀ L, CallL F (N k_tarpaulinlaw13_awake) [] L fun v17 L17 => fin1 (some v17) Q L17 := by
    intro L
    refine (known_spec aw _).mono ?_
    rintro _ _ ⟨rfl, rfl⟩
    exact fin _
  apply r_tarpaulinlaw13_TimerStale code
  unfold D_tarpaulinlaw13_TimerStale_1 D_tarpaulinlaw13_TimerStale_2
  by_cases g3 : d < 1
  · simpa [initE, g3] using awk _
  by_cases g4 : 1000 < d
  · simpa [initE, g3, g4] using awk _
  by_cases g5 : (80 : Int) < (l.length : Int)
  · simpa [initE, g3, g4, g5, ha.len] using awk _
  simp [initE, g3, g4, g5, ha.len]
  unfold D_tarpaulinlaw13_TimerStale_3
  refine (tnew_spec h1).mono ?_
  rintro _ _ ⟨s, hs, rfl, rfl⟩
  unfold D_tarpaulinlaw13_TimerStale_4
  simp
  unfold D_tarpaulinlaw13_TimerStale_5
  simp
  have hE1 : ∀ b, L0 b = some (.raw (.ro (tcl l))) → b ≠ s := by rintro b e rfl; rw [hs] at e; cases e
  refine (ttimer_spec (σ := Tms.nil) h3 (Lg.put_same _ _ _) Tms.nil_fine 0 d).mono ?_
  rintro v L1 ⟨c, hc, hcs, hh⟩
  have mk := make_first (k := 1) (dat := 0) (some c) (d := d) (by omega) (by omega) (by omega) (by omega)
  rcases hh with ⟨e0, rfl, hL⟩ | ⟨e0, _, _⟩
  case inr => exact absurd mk.2.1 e0
  have hnm : (Tms.nil.make ⟨1, 0, some c, 0⟩ 0 d).1.named = 1 := by
    have c1 : ¬ (badN 0 = true ∨ (0 : Int) < 0 ∨ ((1 : Int) = 2 ∧ d < 1)) := by simp [badN]
    have c2 : ¬ ((1 : Int) ≠ 4 ∧ 64 ≤ Tms.nil.named) := by simp [Tms.nil]
    simp only [Tms.make, if_neg c1, if_neg c2]
    simp [Tms.armed, Tms.nil]
  obtain ⟨σ, hσ⟩ : ∃ σ, σ = (Tms.nil.make ⟨1, 0, some c, 0⟩ 0 d).1 := ⟨_, rfl⟩
  rw [← hσ] at hL mk hnm
  obtain ⟨mk1, mk2, sg⟩ := mk
  simp at sg
  have hLs : L1 s = some (.abs (SetP s σ)) := by rw [hL, Lg.put_ne _ _ _ (Ne.symm hcs), Lg.put_same]
  have hLc : L1 c = some (.abs (ChanP c (Ch.tv []))) := by rw [hL, Lg.put_same]; rfl
  have hLa : ∀ b, L0 b = some (.raw (.ro (tcl l))) → L1 b = some (.raw (.ro (tcl l))) := by
    intro b e
    have nc : b ≠ c := by rintro rfl; rw [Lg.put_ne _ _ _ hcs, e] at hc; cases hc
    rw [hL, Lg.put_ne _ _ _ nc, Lg.put_ne _ _ _ (hE1 b e), Lg.put_ne _ _ _ (hE1 b e)]; exact e
  rw [mk1]
  clear hL hσ
  unfold D_tarpaulinlaw13_TimerStale_6
  cases tk with
  | false =>
    simp
    unfold D_tarpaulinlaw13_TimerStale_7
    simp
    obtain ⟨si, be⟩ := SI.first (c := c) (c0 := c) ⟨by omega, by omega⟩ sg
    exact stale8 hr h4 h5 h6 h7 h8 h9 h10 aw fin ha g5 ⟨by omega, by omega⟩ ⟨hLs, hLc, hcs, by intro h; omega, hLa⟩ si be (by simp) (by simp) (by simp) (by simp) (by simp)
  | true =>
    simp
    have hfi : σ.fine 1000000 4611686018427387904 := ⟨sg.len, by rw [sg.seq]; omega, by rw [sg.seq]; omega, by rw [hnm]; omega, by rw [sg.ones]; simp⟩
    refine (tticker_spec h2 hLs hfi 0 d).mono ?_
    rintro v L2 ⟨c', hc', hcs', hh⟩
    obtain ⟨mk1', mk2', si, be⟩ := SI.second (c := c') (c0 := c) (d := d) ⟨by omega, by omega⟩ sg hnm
    rcases hh with ⟨e0, rfl, hL⟩ | ⟨e0, _, _⟩
    case inr => exact absurd mk2' e0
    have ncc : c ≠ c' := by rintro rfl; rw [hLc] at hc'; cases hc'
    have hLs2 : L2 s = some (.abs (SetP s (σ.make ⟨2, 0, some c', 0⟩ 0 d).1)) := by rw [hL, Lg.put_ne _ _ _ (Ne.symm hcs'), Lg.put_same]
    have hLc2 : L2 c' = some (.abs (ChanP c' (Ch.tv []))) := by rw [hL, Lg.put_same]; rfl
    have hLc0 : L2 c = some (.abs (ChanP c (Ch.tv []))) := by rw [hL, Lg.put_ne _ _ _ ncc, Lg.put_ne _ _ _ hcs]; exact hLc
    have hLa2 : ∀ b, L0 b = some (.raw (.ro (tcl l))) → L2 b = some (.raw (.ro (tcl l))) := by
      intro b e
      have e1 := hLa b e
      have nc : b ≠ c' := by rintro rfl; rw [e1] at hc'; cases hc'
      rw [hL, Lg.put_ne _ _ _ nc, Lg.put_ne _ _ _ (hE1 b e)]; exact e1
    rw [mk1']
    simp
    unfold D_tarpaulinlaw13_TimerStale_7
    simp
    exact stale8 hr h4 h5 h6 h7 h8 h9 h10 aw fin ha g5 ⟨by omega, by omega⟩ ⟨hLs2, hLc2, hcs', fun _ => ⟨hcs, ncc, [], by simp, hLc0⟩, hLa2⟩ si be (by simp) (by simp) (by simp) (by simp) (by simp)
end Go.AM
