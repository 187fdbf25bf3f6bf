/- timer: channel, Timer, Ticker, Func, Lapse, Stop, Reset. -/
import Derived.Test.YtijhjfpiglaleaaLibTimerB
set_option linter.unusedVariables false
set_option linter.unusedSimpArgs false
namespace Go.AM
variable {N : Nat → Nat} {F : Nat → Option AFn}

theorem CallL.opq {f : Nat} {vs : List AV} {L : Lg} {Q0 : AV → Lg → Prop} (h : ∀ Q : AV → Lg → Prop, (∀ v L, Q0 v L → Q v L) → CallL F f vs L Q) : CallL F f vs L Q0 := h Q0 fun _ _ h => h
def Ch.tm : Ch := ⟨[], 1, [], [], true, false, false⟩
def Lg.putC (L : Lg) (c : Option Nat) (x : Ch) : Lg := match c with
  | none => L
  | some c => L.put c (.abs (ChanP c x))
def Lg.hasC (L : Lg) (s : Nat) (c : Option Nat) (x : Ch) : Prop := ∀ a, c = some a → a ≠ s ∧ L a = some (.abs (ChanP a x))
section
variable {L K : Lg} {s t : Nat} {σ : Tms}
theorem make_spec (hf : H_timer_Set_make N F) (e : L s = some (.abs (SetP s σ))) {w : On} (hw0 : w.gen = 0) (hfi : σ.fine 1000000 4611686018427387904) (now d : Int) :
    CallL F (N k_timer_Set_make) [.p (some (s, 0)), .agg w.cells, .i .i64 now, .i .i64 d] L fun v L' => v = .tup [.i .i64 (σ.make w now d).2.1, .i .i64 (σ.make w now d).2.2] ∧ L' = L.put s (.abs (SetP s (σ.make w now d).1)) := by
  apply CallL.openS e
  intro t K o
  refine (make_open hf o hw0 hfi now d).sees ?_
  rintro _ K' ⟨rfl, o'⟩
  exact ⟨_, o'.shut, rfl, rfl⟩
theorem make_err {w : On} {now d : Int} (h : (σ.make w now d).2.2 ≠ 0) : (σ.make w now d).1 = σ ∧ (σ.make w now d).2.1 = 0 := by
  unfold Tms.make at *
  split
  · exact ⟨rfl, rfl⟩
  · split
    · exact ⟨rfl, rfl⟩
    · simp_all
theorem channel_spec (hf : H_timer_Set_channel N F) (e : L s = some (.abs (SetP s σ))) (hfi : σ.fine 1000000 4611686018427387904) (kind now d : Int) :
    CallL F (N k_timer_Set_channel) [.p (some (s, 0)), .i .i64 kind, .i .i64 now, .i .i64 d] L fun v L' => ∃ c, L c = none ∧ c ≠ s ∧
      ((σ.make ⟨kind, 0, some c, 0⟩ now d).2.2 = 0 ∧ v = .tup [.i .i64 (σ.make ⟨kind, 0, some c, 0⟩ now d).2.1, .p (some (c, 0)), .i .i64 0] ∧ L' = (L.put s (.abs (SetP s (σ.make ⟨kind, 0, some c, 0⟩ now d).1))).put c (.abs (ChanP c .tm)) ∨
       (σ.make ⟨kind, 0, some c, 0⟩ now d).2.2 ≠ 0 ∧ v = .tup [.i .i64 0, .p none, .i .i64 (σ.make ⟨kind, 0, some c, 0⟩ now d).2.2] ∧ L' = L) := by
  refine CallL.opq ?_
  intro Q hQ
  apply r_timer_Set_channel hf.code
  unfold D_timer_Set_channel_1
  refine (timed_spec hf.chanq_Timed).mono ?_
  rintro _ L1 ⟨c, hc, rfl, rfl⟩
  have hcs : c ≠ s := by rintro rfl; rw [e] at hc; cases hc
  have e1 : (L.put c (.abs (ChanP c .tm))) s = some (.abs (SetP s σ)) := by rw [Lg.put_ne _ _ _ (Ne.symm hcs)]; exact e
  simp [fillP, splice, ble_nat, beq_nat]
  have hm := make_spec hf.timer_Set_make e1 (w := ⟨kind, 0, some c, 0⟩) rfl hfi now d
  refine CallL.mono hm ?_
  rintro _ L2 ⟨rfl, rfl⟩
  by_cases h0 : (σ.make ⟨kind, 0, some c, 0⟩ now d).2.2 = 0
  · simp [h0]
    refine ⟨_, Sees.refl _, hQ _ _ ⟨c, hc, hcs, .inl ⟨h0, rfl, ?_⟩⟩⟩
    rw [Lg.put_comm _ (Ne.symm hcs)]
  · have h9 := make_err h0
    simp [h0, h9]
    refine ⟨L, ?_, hQ _ _ ⟨c, hc, hcs, .inr ⟨h0, rfl, rfl⟩⟩⟩
    rw [Lg.put_self _ s _ e1]
    exact ((Ext2.refl L).put hc _).sees
theorem ttimer_spec (hf : H_timer_Set_Timer N F) (e : L s = some (.abs (SetP s σ))) (hfi : σ.fine 1000000 4611686018427387904) (now d : Int) :
    CallL F (N k_timer_Set_Timer) [.p (some (s, 0)), .i .i64 now, .i .i64 d] L fun v L' => ∃ c, L c = none ∧ c ≠ s ∧
      ((σ.make ⟨1, 0, some c, 0⟩ now d).2.2 = 0 ∧ v = .tup [.i .i64 (σ.make ⟨1, 0, some c, 0⟩ now d).2.1, .p (some (c, 0)), .i .i64 0] ∧ L' = (L.put s (.abs (SetP s (σ.make ⟨1, 0, some c, 0⟩ now d).1))).put c (.abs (ChanP c .tm)) ∨
       (σ.make ⟨1, 0, some c, 0⟩ now d).2.2 ≠ 0 ∧ v = .tup [.i .i64 0, .p none, .i .i64 (σ.make ⟨1, 0, some c, 0⟩ now d).2.2] ∧ L' = L) := by
  refine CallL.opq ?_
  intro Q hQ
  apply r_timer_Set_Timer hf.code
  unfold D_timer_Set_Timer_1
  refine (channel_spec hf.timer_Set_channel e hfi 1 now d).mono ?_
  rintro _ L' ⟨c, hc, hcs, ⟨h0, rfl, rfl⟩ | ⟨h0, rfl, rfl⟩⟩
  · simp
    exact ⟨_, Sees.refl _, hQ _ _ ⟨c, hc, hcs, .inl ⟨h0, rfl, rfl⟩⟩⟩
  · simp
    exact ⟨_, Sees.refl _, hQ _ _ ⟨c, hc, hcs, .inr ⟨h0, rfl, rfl⟩⟩⟩
theorem tticker_spec (hf : H_timer_Set_Ticker N F) (e : L s = some (.abs (SetP s σ))) (hfi : σ.fine 1000000 4611686018427387904) (now d : Int) :
    CallL F (N k_timer_Set_Ticker) [.p (some (s, 0)), .i .i64 now, .i .i64 d] L fun v L' => ∃ c, L c = none ∧ c ≠ s ∧
      ((σ.make ⟨2, 0, some c, 0⟩ now d).2.2 = 0 ∧ v = .tup [.i .i64 (σ.make ⟨2, 0, some c, 0⟩ now d).2.1, .p (some (c, 0)), .i .i64 0] ∧ L' = (L.put s (.abs (SetP s (σ.make ⟨2, 0, some c, 0⟩ now d).1))).put c (.abs (ChanP c .tm)) ∨
       (σ.make ⟨2, 0, some c, 0⟩ now d).2.2 ≠ 0 ∧ v = .tup [.i .i64 0, .p none, .i .i64 (σ.make ⟨2, 0, some c, 0⟩ now d).2.2] ∧ L' = L) := by
  refine CallL.opq ?_
  intro Q hQ
  apply r_timer_Set_Ticker hf.code
  unfold D_timer_Set_Ticker_1
  refine (channel_spec hf.timer_Set_channel e hfi 2 now d).mono ?_
  rintro _ L' ⟨c, hc, hcs, ⟨h0, rfl, rfl⟩ | ⟨h0, rfl, rfl⟩⟩
  · simp
    exact ⟨_, Sees.refl _, hQ _ _ ⟨c, hc, hcs, .inl ⟨h0, rfl, rfl⟩⟩⟩
  · simp
    exact ⟨_, Sees.refl _, hQ _ _ ⟨c, hc, hcs, .inr ⟨h0, rfl, rfl⟩⟩⟩
theorem tfunc_spec (hf : H_timer_Set_Func N F) (e : L s = some (.abs (SetP s σ))) (hfi : σ.fine 1000000 4611686018427387904) (now d prog : Int) :
    CallL F (N k_timer_Set_Func) [.p (some (s, 0)), .i .i64 now, .i .i64 d, .i .i64 prog] L fun v L' => v = .tup [.i .i64 (σ.make ⟨3, prog, none, 0⟩ now d).2.1, .i .i64 (σ.make ⟨3, prog, none, 0⟩ now d).2.2] ∧ L' = L.put s (.abs (SetP s (σ.make ⟨3, prog, none, 0⟩ now d).1)) := by
  refine CallL.opq ?_
  intro Q hQ
  apply r_timer_Set_Func hf.code
  unfold D_timer_Set_Func_1
  simp [fillP, splice, ble_nat, beq_nat]
  refine (make_spec hf.timer_Set_make e (w := ⟨3, prog, none, 0⟩) rfl hfi now d).mono ?_
  rintro _ L2 ⟨rfl, rfl⟩
  simp
  exact ⟨_, Sees.refl _, hQ _ _ ⟨rfl, rfl⟩⟩
theorem tlapse_spec (hf : H_timer_Set_Lapse N F) (e : L s = some (.abs (SetP s σ))) (hfi : σ.fine 1000000 4611686018427387904) (when ctx : Int) :
    CallL F (N k_timer_Set_Lapse) [.p (some (s, 0)), .i .i64 when, .i .i64 ctx] L fun v L' => v = .tup [.i .i64 (σ.make ⟨4, ctx, none, 0⟩ 0 when).2.1, .i .i64 (σ.make ⟨4, ctx, none, 0⟩ 0 when).2.2] ∧ L' = L.put s (.abs (SetP s (σ.make ⟨4, ctx, none, 0⟩ 0 when).1)) := by
  refine CallL.opq ?_
  intro Q hQ
  apply r_timer_Set_Lapse hf.code
  unfold D_timer_Set_Lapse_1
  simp [fillP, splice, ble_nat, beq_nat]
  refine (make_spec hf.timer_Set_make e (w := ⟨4, ctx, none, 0⟩) rfl hfi 0 when).mono ?_
  rintro _ L2 ⟨rfl, rfl⟩
  simp
  exact ⟨_, Sees.refl _, hQ _ _ ⟨rfl, rfl⟩⟩
theorem on_get {id : Int} {o : On} (h : σ.one id = some o) : ∃ i : Nat, id = (i : Int) ∧ i < σ.ones.length ∧ σ.ones[i]? = some o ∧ σ.has id = true := by
  unfold Tms.one at h
  split at h
  · rename_i hh
    obtain ⟨i, rfl, hi⟩ := Tms.has_nat hh
    exact ⟨i, rfl, hi, by simpa using h, hh⟩
  · cases h
theorem one_none {id : Int} (h : σ.one id = none) : σ.has id = false := by
  unfold Tms.one at h
  cases hh : σ.has id
  · rfl
  · obtain ⟨i, rfl, hi⟩ := Tms.has_nat hh
    simp [hh] at h; omega
def Ch.left (x : Ch) : Bool := decide (0 < x.vals.length)
def Ch.dropped (x : Ch) : Ch := { x with vals := [] }
def dropsC (c : Option Nat) (x : Ch) : Bool := c.isSome && x.left
theorem dropC_spec (hf : H_chanq_Chan_Drop N F) {c : Option Nat} {x : Ch} (hx : x.timed = true) (h : L.hasC s c x) : CallL F (N k_chanq_Chan_Drop) [ptr c] L fun v L' => v = .b (dropsC c x) ∧ L' = L.putC c x.dropped := by
  cases c with
  | none => exact dropNil_spec hf
  | some c =>
    refine (drop_spec hf (h c rfl).2).mono ?_
    intro v L' h
    rw [if_pos hx] at h
    obtain ⟨rfl, rfl⟩ := h
    exact ⟨by simp [dropsC, Ch.left], rfl⟩
theorem stop_spec (hf : H_timer_Set_Stop N F) (e : L s = some (.abs (SetP s σ))) (hl : σ.x.l.length ≤ 1000000) (id : Int) {o : On} (ho : σ.one id = some o) {x : Ch} (hx : x.timed = true) (hc : L.hasC s o.c x) :
    CallL F (N k_timer_Set_Stop) [.p (some (s, 0)), .i .i64 id] L fun v L' => v = .tup [.b (dropsC o.c x || (findId id σ.x.l).isSome), .i .i64 0] ∧ L' = (L.put s (.abs (SetP s { σ with x := σ.x.stop id }))).putC o.c x.dropped := by
  refine CallL.opq ?_
  intro Q hQ
  obtain ⟨i, rfl, hi, hg, hh⟩ := on_get ho
  apply CallL.openS e
  intro t K op
  apply r_timer_Set_Stop hf.code
  unfold D_timer_Set_Stop_1
  refine (has_open hf.timer_Set_has op i).mono ?_
  rintro _ K0 ⟨rfl, rfl⟩
  have op' := op
  obtain ⟨sv, h1, h2, h3, h4, h5, h6⟩ := op'
  simp [hh, rdL, AB.read, look, h1]
  refine (xstop_spec hf.expire_Timers_Stop h2 hl i).mono ?_
  rintro _ K1 ⟨rfl, rfl⟩
  have o2 := op.setX (σ.x.stop i)
  rcases h5 with ⟨g1, rfl⟩ | ⟨b, rfl, a2, a3, a4, a5, a6⟩
  · rw [g1] at hi; simp at hi
  have ei : (i : Int) < (σ.ones.length : Int) := by omega
  have h9 := ocells_get σ.ones i 2 _ hg (by omega)
  simp [On.cells] at h9
  have hs2 : (K0.put t (.abs (TmP t (σ.x.stop i)))) s = some (.raw (.cells [.sl (some (b, 0)) σ.ones.length σ.ones.length 4, .p (some (t, 0)), .i .i64 σ.named])) := by rw [Lg.put_ne _ _ _ (Ne.symm h3)]; exact h1
  have hb2 : (K0.put t (.abs (TmP t (σ.x.stop i)))) b = some (.raw (.cells (ocells σ.ones))) := by rw [Lg.put_ne _ _ _ a4]; exact a2
  simp [rdL, AB.read, look, hs2, wp_iad _ _ _ 4 b 0 σ.ones.length σ.ones.length 4 .i64 (i : Int) (Int.natCast_nonneg _) ei, hb2, h9]
  have hsee : ∀ y, Sees ((K0.put t (.abs (TmP t (σ.x.stop i)))).putC o.c y) ((L.put s (.abs (SetP s { σ with x := σ.x.stop i }))).putC o.c y) := by
    intro y
    cases hoc : o.c with
    | none => exact o2.shut
    | some c =>
      have h8 := hc c hoc
      simp only [Lg.putC]
      rw [Lg.put_comm _ (Ne.symm h8.1)]
      exact (o2.putOld h8.1 h8.2 _).shut
  have hc2 : (K0.put t (.abs (TmP t (σ.x.stop i)))).hasC s o.c x := by
    intro c hoc
    have h8 := hc c hoc
    exact ⟨h8.1, o2.old h8.1 h8.2⟩
  refine (dropC_spec hf.chanq_Chan_Drop hx hc2).mono ?_
  rintro _ K2 ⟨rfl, rfl⟩
  cases hd : dropsC o.c x
  · simp
    exact ⟨_, hsee _, hQ _ _ ⟨by simp [hd], rfl⟩⟩
  · simp
    exact ⟨_, hsee _, hQ _ _ ⟨by simp [hd], rfl⟩⟩
theorem stop_none (hf : H_timer_Set_Stop N F) (e : L s = some (.abs (SetP s σ))) (id : Int) (ho : σ.one id = none) :
    CallL F (N k_timer_Set_Stop) [.p (some (s, 0)), .i .i64 id] L fun v L' => v = .tup [.b false, .i .i64 4] ∧ L' = L := by
  refine CallL.opq ?_
  intro Q hQ
  apply CallL.openS e
  intro t K op
  apply r_timer_Set_Stop hf.code
  unfold D_timer_Set_Stop_1
  refine (has_open hf.timer_Set_has op id).mono ?_
  rintro _ K0 ⟨rfl, rfl⟩
  simp [one_none ho]
  exact ⟨_, op.back e, hQ _ _ ⟨rfl, rfl⟩⟩
end
end Go.AM
