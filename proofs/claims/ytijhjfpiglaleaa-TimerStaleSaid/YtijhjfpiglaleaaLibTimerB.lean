/- timer: arm, make. -/
import Derived.Test.YtijhjfpiglaleaaLibTimerA
set_option linter.unusedVariables false
set_option linter.unusedSimpArgs false
namespace Go.AM
variable {N : Nat → Nat} {F : Nat → Option AFn}

def Tms.armed (σ : Tms) (i : Nat) (w : On) (now d : Int) : Tms :=
  { σ with ones := σ.ones.set i { w with gen := w.gen + 1 }, x := (σ.x.arm i (clockAdd now (max d 0)) (if w.kind = 2 then min d 4611686018427387904 else 0)).1 }
/-- what lets the set of timers go on -/
structure Tms.fine (σ : Tms) (n : Nat) (q : Int) : Prop where
  len : σ.x.l.length < n
  pos : 0 ≤ σ.x.seq
  seq : σ.x.seq < q
  named : 0 ≤ σ.named ∧ σ.named ≤ 64
  ones : σ.ones.length < n
section
variable {L K : Lg} {s t : Nat} {σ : Tms}
theorem arm_open (hf : H_timer_Set_arm N F) (o : SOpen L s σ t K) {i : Nat} {w : On} (hw : σ.ones[i]? = some w) (hx : σ.x.l.length < 1000000) (hq : 0 ≤ σ.x.seq ∧ σ.x.seq < 4611686018427387904) (hg : 0 ≤ w.gen ∧ w.gen < 4611686018427387904) (now d : Int) :
    CallL F (N k_timer_Set_arm) [.p (some (s, 0)), .i .i64 i, .i .i64 now, .i .i64 d] K fun v K' => v = .tup [] ∧ SOpen L s (σ.armed i w now d) t K' := by
  have hi : i < σ.ones.length := by
    rcases Nat.lt_or_ge i σ.ones.length with h | h
    · exact h
    · rw [List.getElem?_eq_none h] at hw; cases hw
  apply r_timer_Set_arm hf.code
  generalize hQ : (fun (v : AV) (K' : Lg) => v = .tup [] ∧ SOpen L s (σ.armed i w now d) t K') = Q
  unfold D_timer_Set_arm_1 D_timer_Set_arm_2
  have o' := o
  obtain ⟨sv, h1, h2, h3, h4, h5, h6⟩ := o'
  rcases h5 with ⟨g1, rfl⟩ | ⟨b, rfl, a2, a3, a4, a5, a6⟩
  · rw [g1] at hi; simp at hi
  have ei : (i : Int) < (σ.ones.length : Int) := by omega
  have g0 := ocells_get σ.ones i 0 w hw (by omega)
  have g3 := ocells_get σ.ones i 3 w hw (by omega)
  have gat := ocells_at σ.ones i w hw
  have hle : i * 4 + 3 + 1 ≤ (ocells σ.ones).length := by have := gat.2; omega
  have hlt : i * 4 + 3 < (ocells σ.ones).length := by omega
  simp [On.cells] at g0 g3
  have w1 : wr .i64 (w.gen + 1) = w.gen + 1 := wr_id (by omega) (by omega)
  have key : ∀ p : Int, p = (if w.kind = 2 then min d 4611686018427387904 else 0) → ∀ K0 : Lg, K0 = K → D_timer_Set_arm_3 F N Q (.p (some (s, 0))) (.i .i64 i) (.i .i64 now) (.i .i64 d) (.i .i64 p) K0 := by
    rintro p hp K0 rfl
    unfold D_timer_Set_arm_3
    simp [rdL, AB.read, look, h1]
    refine (clockAdd_spec hf.clock_Add now (max d 0) _).mono ?_
    rintro _ K1 ⟨rfl, rfl⟩
    refine (xarm_spec hf.expire_Timers_Arm h2 hx hq i (clockAdd now (max d 0)) p).mono ?_
    rintro _ K2 ⟨rfl, rfl⟩
    have o2 := o.setX (σ.x.arm i (clockAdd now (max d 0)) p).1
    refine ⟨⟨?_, trivial⟩, ?_⟩
    · simp [againV, semRL, rLdL, rdL, AB.read, look, h1]
    · have hs2 : (K1.put t (.abs (TmP t (σ.x.arm i (clockAdd now (max d 0)) p).1))) s = some (.raw (.cells [.sl (some (b, 0)) σ.ones.length σ.ones.length 4, .p (some (t, 0)), .i .i64 σ.named])) := by rw [Lg.put_ne _ _ _ (Ne.symm h3)]; exact h1
      have hb2 : (K1.put t (.abs (TmP t (σ.x.arm i (clockAdd now (max d 0)) p).1))) b = some (.raw (.cells (ocells σ.ones))) := by rw [Lg.put_ne _ _ _ a4]; exact a2
      simp [rdL, AB.read, look, hs2, wp_iad _ _ _ 4 b 0 σ.ones.length σ.ones.length 4 .i64 (i : Int) (Int.natCast_nonneg _) ei, hb2, g3, w1]
      rw [stL_cell hb2 hlt rfl, ocells_gen σ.ones i w (w.gen + 1) hw]
      refine ⟨_, Sees.refl _, ?_⟩
      subst hQ
      refine ⟨rfl, .sl (some (b, 0)) σ.ones.length σ.ones.length 4, ?_, ?_, h3, h4, .inr ⟨b, by simp [Tms.armed], by simp [Tms.armed], a3, a4, a5, by simpa [Tms.armed] using a6⟩, ?_⟩
      · rw [Lg.put_ne _ _ _ (Ne.symm a3)]; exact hs2
      · rw [Lg.put_ne _ _ _ (Ne.symm a4), Lg.put_same]; simp [Tms.armed, hp]
      · intro r e hr he
        have c1 : r ≠ b := by rintro rfl; rw [a5] at he; cases he
        have c2 : r ≠ t := by rintro rfl; rw [h4] at he; cases he
        rw [Lg.put_ne _ _ _ c1, Lg.put_ne _ _ _ c2]; exact h6 r e hr he
  simp [rdL, AB.read, look, h1, wp_iad _ _ _ 4 b 0 σ.ones.length σ.ones.length 4 .i64 (i : Int) (Int.natCast_nonneg _) ei, a2, g0]
  refine ⟨fun hk => ?_, fun hk => ?_⟩
  · exact key _ (by rw [if_pos hk]) _ rfl
  · exact key 0 (by rw [if_neg hk]) _ rfl
theorem On.cells_one (w : On) : w.cells.all AV.one = true := by simp [On.cells, ptr]
theorem make4 (hf : H_timer_Set_arm N F) (o : SOpen L s σ t K) {w : On} (hw0 : w.gen = 0) (hx : σ.x.l.length < 1000000) (hq : 0 ≤ σ.x.seq ∧ σ.x.seq < 4611686018427387904) (ho : σ.ones.length < 1000000) (now d : Int) {x5 : Nat} (h5s : x5 ≠ s) (r5 : K x5 = some (.raw (.cells w.cells))) {Q : AV → Lg → Prop}
    (hQ : ∀ K', SOpen L s ({ σ with ones := σ.ones ++ [w] }.armed σ.ones.length w now d) t K' → Q (.tup [.i .i64 σ.ones.length, .i .i64 0]) K') :
    D_timer_Set_make_4 F N Q (.p (some (s, 0))) (.i .i64 now) (.i .i64 d) (.p (some (x5, 0))) K := by
  have o' := o
  obtain ⟨sv, h1, h2, h3, h4, h5, h6⟩ := o'
  unfold D_timer_Set_make_4
  have rc : cut w.cells 0 4 = some w.cells := by simp [cut, On.cells, ble_nat]
  have wl : wr .i64 ((σ.ones.length : Int)) = (σ.ones.length : Int) := wr_id (by omega) (by omega)
  have hsv : OwnSl K sv (ocells σ.ones) σ.ones.length 4 := by
    rcases h5 with ⟨g1, rfl⟩ | ⟨b, rfl, a2, a3, a4, a5, a6⟩
    · exact .inl ⟨by simp [g1], by simp [g1, ocells], rfl⟩
    · exact .inr ⟨b, a6, rfl, a2, ocells_length _⟩
  have hsb : ∀ b, slB sv = some b → b ≠ s ∧ b ≠ t ∧ L b = none ∧ K b ≠ none := by
    intro b hb
    rcases h5 with ⟨g1, rfl⟩ | ⟨b', rfl, a2, a3, a4, a5, a6⟩
    · simp [slB] at hb
    · simp [slB] at hb; subst hb; exact ⟨a3, a4, a5, by rw [a2]; simp⟩
  have hdel : ∀ (M : Lg) r, slB sv ≠ some r → (M.delO (slB sv)) r = M r := by
    intro M r hr
    cases hh : slB sv with
    | none => rfl
    | some b => rw [hh] at hr; simp only [Lg.delO]; rw [Lg.del_apply, if_neg]; intro h; exact hr (by rw [h])
  simp [rdL, AB.read, look, h1, rLdL, rdCellsL, r5, rc]
  rw [newL_bslice (c := w.cells) _ _ (by simp [On.cells, reps, fillP, cellsOf_agg', splice, ble_nat, beq_nat, ptr]) w.cells_one]
  intro b1 hb1
  have nb : ∀ {y : Nat} {k : LC}, K y = some k → y ≠ b1 := fun hx hxr => by rw [hxr, hb1] at hx; cases hx
  have hsv1 : OwnSl (K.put b1 (.raw (.cells w.cells))) sv (ocells σ.ones) σ.ones.length 4 := by
    rcases hsv with h | ⟨b, c0, c1, c2, c3⟩
    · exact .inl h
    · exact .inr ⟨b, c0, c1, by rw [Lg.put_ne _ _ _ (nb c2)]; exact c2, c3⟩
  simp
  refine hsv1.app (m := 1) (by omega) rfl (by omega) (new := w.cells) (by simp [rdCellsL, AB.read, rc]) (by simp [On.cells]) w.cells_one (by omega) ?_
  intro b2 hb2
  rw [Lg.put_apply] at hb2
  have n12 : b2 ≠ b1 := by rintro rfl; simp at hb2
  rw [if_neg n12] at hb2
  have nb2 : ∀ {y : Nat} {k : LC}, K y = some k → y ≠ b2 := fun hx hxr => by rw [hxr, hb2] at hx; cases hx
  have onew : ocells σ.ones ++ w.cells = ocells (σ.ones ++ [w]) := by rw [ocells_append]; simp [ocells]
  rw [onew]
  have hds : slB sv ≠ some s := fun h => (hsb _ h).1 rfl
  have hdt : slB sv ≠ some t := fun h => (hsb _ h).2.1 rfl
  obtain ⟨M, hM⟩ : ∃ M, M = ((K.put b1 (.raw (.cells w.cells))).delO (slB sv)).put b2 (.raw (.cells (ocells (σ.ones ++ [w])))) := ⟨_, rfl⟩
  have hMs : M s = some (.raw (.cells [sv, .p (some (t, 0)), .i .i64 σ.named])) := by rw [hM, Lg.put_ne _ _ _ (nb2 h1), hdel _ _ hds, Lg.put_ne _ _ _ (nb h1)]; exact h1
  have hMt : M t = some (.abs (TmP t σ.x)) := by rw [hM, Lg.put_ne _ _ _ (nb2 h2), hdel _ _ hdt, Lg.put_ne _ _ _ (nb h2)]; exact h2
  have hMb : M b2 = some (.raw (.cells (ocells (σ.ones ++ [w])))) := by rw [hM, Lg.put_same]
  have hMo : ∀ r d, r ≠ s → L r = some d → M r = some d := by
    intro r d hr hd
    have hk := h6 r d hr hd
    have hdr : slB sv ≠ some r := fun h => by rw [(hsb _ h).2.2.1] at hd; cases hd
    rw [hM, Lg.put_ne _ _ _ (nb2 hk), hdel _ _ hdr, Lg.put_ne _ _ _ (nb hk)]; exact hk
  rw [← hM]
  have hb2s : b2 ≠ s := Ne.symm (nb2 h1)
  have hb2t : b2 ≠ t := Ne.symm (nb2 h2)
  have hb2L : L b2 = none := (o.ne hb2).2
  have oN : SOpen L s { σ with ones := σ.ones ++ [w] } t (M.put s (.raw (.cells [.sl (some (b2, 0)) (σ.ones.length + 1) (σ.ones.length + 1) 4, .p (some (t, 0)), .i .i64 σ.named]))) :=
    ⟨.sl (some (b2, 0)) (σ.ones.length + 1) (σ.ones.length + 1) 4, Lg.put_same _ _ _, by rw [Lg.put_ne _ _ _ h3]; exact hMt, h3, h4, .inr ⟨b2, by simp, by rw [Lg.put_ne _ _ _ hb2s]; exact hMb, hb2s, hb2t, hb2L, by simp⟩, fun r d hr hd => by rw [Lg.put_ne _ _ _ hr]; exact hMo r d hr hd⟩
  simp [rdL, AB.read, look, hMs, stL_cell hMs, wl]
  refine (arm_open hf oN (i := σ.ones.length) (w := w) (by simp) hx hq (by omega) now d).mono ?_
  rintro _ K' ⟨rfl, oR⟩
  have oR' := oR
  obtain ⟨sv', k1, k2, k3, k4, k5, k6⟩ := oR'
  have := hQ K' oR
  rcases k5 with ⟨g1, rfl⟩ | ⟨b', rfl, e2, e3, e4, e5, e6⟩
  · simp [Tms.armed] at g1
  · simp [rdL, AB.read, look, k1, wl, Tms.armed]
    exact ⟨_, Sees.refl _, by simpa [Tms.armed] using this⟩
def badN (now : Int) : Bool := decide (now < 0) || decide (4611686018427387904 < now)
def Tms.make (σ : Tms) (w : On) (now d : Int) : Tms × Int × Int :=
  if badN now = true ∨ w.data < 0 ∨ (w.kind = 2 ∧ d < 1) then (σ, 0, 1)
  else if w.kind ≠ 4 ∧ 64 ≤ σ.named then (σ, 0, 3)
  else ({ σ with named := if w.kind = 4 then σ.named else σ.named + 1, ones := σ.ones ++ [w] }.armed σ.ones.length w now d, σ.ones.length, 0)
theorem make_open (hf : H_timer_Set_make N F) (o : SOpen L s σ t K) {w : On} (hw0 : w.gen = 0) (hfi : σ.fine 1000000 4611686018427387904) (now d : Int) :
    CallL F (N k_timer_Set_make) [.p (some (s, 0)), .agg w.cells, .i .i64 now, .i .i64 d] K fun v K' => v = .tup [.i .i64 (σ.make w now d).2.1, .i .i64 (σ.make w now d).2.2] ∧ SOpen L s (σ.make w now d).1 t K' := by
  apply r_timer_Set_make hf.code
  generalize hQ : (fun (v : AV) (K' : Lg) => v = .tup [.i .i64 (σ.make w now d).2.1, .i .i64 (σ.make w now d).2.2] ∧ SOpen L s (σ.make w now d).1 t K') = Q
  unfold D_timer_Set_make_1
  simp
  rw [newL_box_agg _ _ _ (by simp [On.cells])]
  intro x5 hx5
  have n5 := o.ne hx5
  have o1 := o.onto hx5 (.raw (.cells w.cells))
  have r5 : (K.put x5 (.raw (.cells w.cells))) x5 = some (.raw (.cells w.cells)) := Lg.put_same _ _ _
  have hsub : ∀ r d, r ≠ s → L r = some d → (L.put x5 (.raw (.cells w.cells))) r = some d := by
    intro r d hr hd
    have : r ≠ x5 := by rintro rfl; rw [n5.2] at hd; cases hd
    rw [Lg.put_ne _ _ _ this]; exact hd
  have finE : ∀ k : Int, σ.make w now d = (σ, 0, k) → fin1 (some (.tup [.i .i64 0, .i .i64 k])) Q (K.put x5 (.raw (.cells w.cells))) := by
    intro k hk
    refine ⟨_, Sees.refl _, ?_⟩
    subst hQ
    rw [hk]
    exact ⟨rfl, o1.sub hsub⟩
  unfold D_timer_Set_make_2
  refine (bad_spec hf.timer_bad now).mono ?_
  rintro _ K1 ⟨rfl, hK1⟩
  rw [← hK1] at finE o1 r5
  clear hK1
  rw [show (decide (now < 0) || decide (4611686018427387904 < now)) = badN now from rfl]
  cases hbad : badN now
  case true =>
    have := finE 1 (by simp [Tms.make, hbad])
    simpa using this
  case false =>
    have rd : ∀ k : Nat, rdL K1 (x5, k) none = w.cells[k]? := fun k => rdL_cell r5
    by_cases c2 : w.data < 0
    · have := finE 1 (by simp [Tms.make, c2])
      simpa [rd, On.cells, c2] using this
    · have nos : x5 ≠ s := n5.1
      by_cases c3 : w.kind = 2 ∧ d < 1
      · have := finE 1 (by simp [Tms.make, c3])
        simpa [rd, On.cells, c2, c3] using this
      · have c4 : ¬ (badN now = true ∨ w.data < 0 ∨ (w.kind = 2 ∧ d < 1)) := by simp [hbad, c2, c3]
        have o2 := o1.sub hsub
        have o2' := o2
        obtain ⟨sv, h1, h2, h3, h4, h5, h6⟩ := o2'
        have m3 : ¬ (w.kind ≠ 4 ∧ 64 ≤ σ.named) → D_timer_Set_make_3 F N Q (.p (some (s, 0))) (.i .i64 now) (.i .i64 d) (.p (some (x5, 0))) K1 := by
          intro c5
          unfold D_timer_Set_make_3
          by_cases c6 : w.kind = 4
          · simp [rd, On.cells, c6]
            refine make4 hf.timer_Set_arm o2 hw0 hfi.len ⟨hfi.pos, hfi.seq⟩ hfi.ones now d nos r5 ?_
            intro K' oR
            subst hQ
            simp only [Tms.make, if_neg c4, if_neg c5, if_pos c6]
            exact ⟨by trivial, oR⟩
          · have w1 : wr .i64 (σ.named + 1) = σ.named + 1 := wr_id (by have := hfi.named; omega) (by have := hfi.named; omega)
            simp [r5, On.cells, c6, rdL, AB.read, look, h1, w1, stL_cell h1]
            have oN : SOpen L s { σ with named := σ.named + 1 } t (K1.put s (.raw (.cells [sv, .p (some (t, 0)), .i .i64 (σ.named + 1)]))) := by
              refine ⟨sv, Lg.put_same _ _ _, by rw [Lg.put_ne _ _ _ h3]; exact h2, h3, h4, ?_, fun r d hr hd => by rw [Lg.put_ne _ _ _ hr]; exact h6 r d hr hd⟩
              rcases h5 with h5 | ⟨b, a1, a2, a3, a4, a5, a6⟩
              · exact .inl h5
              · exact .inr ⟨b, a1, by rw [Lg.put_ne _ _ _ a3]; exact a2, a3, a4, a5, a6⟩
            refine make4 hf.timer_Set_arm oN hw0 hfi.len ⟨hfi.pos, hfi.seq⟩ hfi.ones now d nos (by rw [Lg.put_ne _ _ _ nos]; exact r5) ?_
            intro K' oR
            subst hQ
            simp only [Tms.make, if_neg c4, if_neg c5, if_neg c6]
            exact ⟨by trivial, oR⟩
        have fin3 := fun h : w.kind ≠ 4 ∧ 64 ≤ σ.named => finE 3 (by simp only [Tms.make, if_neg c4, if_pos h])
        by_cases c6 : w.kind = 4
        · have := m3 (by simp [c6])
          simpa [rd, On.cells, c2, c6] using this
        · by_cases c7 : 64 ≤ σ.named
          · have := fin3 ⟨c6, c7⟩
            by_cases c8 : w.kind = 2
            · have c9 : ¬ d < 1 := fun h => c3 ⟨c8, h⟩
              simpa [r5, On.cells, c2, c6, c8, c9, rdL, AB.read, look, h1, c7] using this
            · simpa [r5, On.cells, c2, c6, c8, rdL, AB.read, look, h1, c7] using this
          · have := m3 (by simp [c7])
            by_cases c8 : w.kind = 2
            · have c9 : ¬ d < 1 := fun h => c3 ⟨c8, h⟩
              simpa [r5, On.cells, c2, c6, c8, c9, rdL, AB.read, look, h1, c7] using this
            · simpa [r5, On.cells, c2, c6, c8, rdL, AB.read, look, h1, c7] using this
end
end Go.AM
