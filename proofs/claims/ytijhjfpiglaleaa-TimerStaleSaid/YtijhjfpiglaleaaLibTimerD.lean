/- timer: Reset, Fire. -/
import Derived.Test.YtijhjfpiglaleaaLibTimerC
set_option linter.unusedVariables false
set_option linter.unusedSimpArgs false
namespace Go.AM
variable {N : Nat → Nat} {F : Nat → Option AFn}
section
variable {L K : Lg} {s t : Nat} {σ : Tms}
theorem arm_spec (hf : H_timer_Set_arm N F) (e : L s = some (.abs (SetP s σ))) {i : Nat} {w : On} (hw : σ.ones[i]? = some w) (hx : σ.x.l.length < 1000000) (hq : 0 ≤ σ.x.seq ∧ σ.x.seq < 4611686018427387904) (hg : 0 ≤ w.gen ∧ w.gen < 4611686018427387904) (now d : Int) :
    CallL F (N k_timer_Set_arm) [.p (some (s, 0)), .i .i64 i, .i .i64 now, .i .i64 d] L fun v L' => v = .tup [] ∧ L' = L.put s (.abs (SetP s (σ.armed i w now d))) := by
  apply CallL.openS e
  intro t K o
  refine (arm_open hf o hw hx hq hg now d).sees ?_
  rintro _ K' ⟨rfl, o'⟩
  exact ⟨_, o'.shut, rfl, rfl⟩
def Tms.reset (σ : Tms) (id : Int) (o : On) (now d : Int) : Tms := { σ with x := σ.x.stop id }.armed id.toNat o now d
theorem reset_spec (hf : H_timer_Set_Reset N F) (e : L s = some (.abs (SetP s σ))) (hl : σ.x.l.length < 1000000) (hq : 0 ≤ σ.x.seq ∧ σ.x.seq < 4611686018427387904) (id now d : Int) {o : On} (ho : σ.one id = some o) (hg : 0 ≤ o.gen ∧ o.gen < 4611686018427387904) {x : Ch} (hx : x.timed = true) (hc : L.hasC s o.c x) :
    CallL F (N k_timer_Set_Reset) [.p (some (s, 0)), .i .i64 id, .i .i64 now, .i .i64 d] L fun v L' =>
      if badN now = true ∨ (o.kind = 2 ∧ d < 1) then v = .tup [.b false, .i .i64 1] ∧ L' = L
      else if o.kind = 4 then v = .tup [.b false, .i .i64 7] ∧ L' = L
      else v = .tup [.b (dropsC o.c x || (findId id σ.x.l).isSome), .i .i64 0] ∧ L' = (L.put s (.abs (SetP s (σ.reset id o now d)))).putC o.c x.dropped := by
  refine CallL.opq ?_
  intro Q hQ
  obtain ⟨i, rfl, hi, hg0, hh⟩ := on_get ho
  apply CallL.openS e
  intro t K op
  apply r_timer_Set_Reset hf.code
  unfold D_timer_Set_Reset_1 D_timer_Set_Reset_2
  refine (has_open hf.timer_Set_has op i).mono ?_
  rintro _ K0 ⟨rfl, rfl⟩
  have op' := op
  obtain ⟨sv, h1, h2, h3, h4, h5, h6⟩ := op'
  simp [hh]
  refine (bad_spec hf.timer_bad now).mono ?_
  rintro _ K1 ⟨rfl, rfl⟩
  rw [show (decide (now < 0) || decide (4611686018427387904 < now)) = badN now from rfl]
  have hb := op.back e
  rcases h5 with ⟨g1, rfl⟩ | ⟨b, rfl, a2, a3, a4, a5, a6⟩
  · rw [g1] at hi; simp at hi
  have ei : (i : Int) < (σ.ones.length : Int) := by omega
  have h9 := ocells_get σ.ones i 0 _ hg0 (by omega)
  simp [On.cells] at h9
  have iad := wp_iad F
  have rest : ¬ (badN now = true ∨ (o.kind = 2 ∧ d < 1)) → ¬ o.kind = 4 → D_timer_Set_Reset_3 F N Q (.p (some (s, 0))) (.i .i64 i) (.i .i64 now) (.i .i64 d) K1 := by
    intro c1 c2
    unfold D_timer_Set_Reset_3
    refine CallL.pre hb ?_
    refine (stop_spec hf.timer_Set_Stop e (by omega) i ho hx hc).mono ?_
    rintro _ L2 ⟨rfl, rfl⟩
    have e2 : ((L.put s (.abs (SetP s { σ with x := σ.x.stop i }))).putC o.c x.dropped) s = some (.abs (SetP s { σ with x := σ.x.stop i })) := by
      cases hoc : o.c with
      | none => exact Lg.put_same _ _ _
      | some c => simp only [Lg.putC]; rw [Lg.put_ne _ _ _ (Ne.symm (hc c hoc).1), Lg.put_same]
    simp
    refine (arm_spec hf.timer_Set_arm e2 (i := i) (w := o) hg0 (Nat.lt_of_le_of_lt (rmId_length _ _) hl) hq hg now d).mono ?_
    rintro _ L3 ⟨rfl, rfl⟩
    simp
    refine ⟨_, Sees.refl _, hQ _ _ ?_⟩
    rw [if_neg c1, if_neg c2]
    refine ⟨rfl, ?_⟩
    cases hoc : o.c with
    | none => simp [Lg.putC, Tms.reset]
    | some c => simp only [Lg.putC, Tms.reset, Int.toNat_natCast]; rw [Lg.put_comm _ (hc c hoc).1, Lg.put_put]
  have fin1' : badN now = true ∨ (o.kind = 2 ∧ d < 1) → fin1 (some (.tup [.b false, .i .i64 1])) Q K1 := fun h => ⟨_, hb, hQ _ _ (by rw [if_pos h]; exact ⟨rfl, rfl⟩)⟩
  have fin2' : ¬ (badN now = true ∨ (o.kind = 2 ∧ d < 1)) → o.kind = 4 → fin1 (some (.tup [.b false, .i .i64 7])) Q K1 := fun h h4 => ⟨_, hb, hQ _ _ (by rw [if_neg h, if_pos h4]; exact ⟨rfl, rfl⟩)⟩
  cases hbad : badN now
  case true =>
    have := fin1' (.inl hbad)
    simpa using this
  case false =>
    by_cases c3 : o.kind = 2
    · by_cases c4 : d < 1
      · have := fin1' (.inr ⟨c3, c4⟩)
        simpa [rdL, AB.read, look, h1, wp_iad _ _ _ 4 b 0 σ.ones.length σ.ones.length 4 .i64 (i : Int) (Int.natCast_nonneg _) ei, a2, h9, c3, c4] using this
      · have := rest (by simp [hbad, c4]) (by omega)
        simpa [rdL, AB.read, look, h1, wp_iad _ _ _ 4 b 0 σ.ones.length σ.ones.length 4 .i64 (i : Int) (Int.natCast_nonneg _) ei, a2, h9, c3, c4] using this
    · by_cases c5 : o.kind = 4
      · have := fin2' (by simp [hbad, c3]) c5
        simpa [rdL, AB.read, look, h1, wp_iad _ _ _ 4 b 0 σ.ones.length σ.ones.length 4 .i64 (i : Int) (Int.natCast_nonneg _) ei, a2, h9, c3, c5] using this
      · have := rest (by simp [hbad, c3]) c5
        simpa [rdL, AB.read, look, h1, wp_iad _ _ _ 4 b 0 σ.ones.length σ.ones.length 4 .i64 (i : Int) (Int.natCast_nonneg _) ei, a2, h9, c3, c5] using this
theorem reset_none (hf : H_timer_Set_Reset N F) (e : L s = some (.abs (SetP s σ))) (id now d : Int) (ho : σ.one id = none) :
    CallL F (N k_timer_Set_Reset) [.p (some (s, 0)), .i .i64 id, .i .i64 now, .i .i64 d] L fun v L' => v = .tup [.b false, .i .i64 4] ∧ L' = L := by
  refine CallL.opq ?_
  intro Q hQ
  apply CallL.openS e
  intro t K op
  apply r_timer_Set_Reset hf.code
  unfold D_timer_Set_Reset_1 D_timer_Set_Reset_2
  refine (has_open hf.timer_Set_has op id).mono ?_
  rintro _ K0 ⟨rfl, rfl⟩
  simp [one_none ho]
  exact ⟨_, op.back e, hQ _ _ ⟨rfl, rfl⟩⟩
theorem Ext2.both {A B : Lg} (h : Ext2 A B) (r : Nat) (d : LC) : Ext2 (A.put r d) (B.put r d) := by
  intro b c e
  rw [Lg.put_apply] at e ⊢
  split
  · rename_i h9; rw [if_pos h9] at e; exact e
  · rename_i h9; rw [if_neg h9] at e; exact h b c e
theorem Ext2.bothC {A B : Lg} (h : Ext2 A B) (c : Option Nat) (y : Ch) : Ext2 (A.putC c y) (B.putC c y) := by
  cases c with
  | none => exact h
  | some c => exact h.both c _
theorem hasC_ext {A B : Lg} (h : Ext2 A B) {c : Option Nat} {x : Ch} (hc : A.hasC s c x) : B.hasC s c x := fun a ha => ⟨(hc a ha).1, h _ _ (hc a ha).2⟩
theorem putC_none {A : Lg} {c : Option Nat} {x y : Ch} {r : Nat} (hc : A.hasC s c x) (hr : A r = none) : (A.putC c y) r = none := by
  cases c with
  | none => exact hr
  | some c =>
    simp only [Lg.putC]
    rw [Lg.put_ne]
    · exact hr
    · rintro rfl; rw [(hc r rfl).2] at hr; cases hr
theorem putC_none' {A : Lg} {c : Option Nat} {y : Ch} {r : Nat} (hr : (A.putC c y) r = none) : A r = none := by
  cases c with
  | none => exact hr
  | some c =>
    simp only [Lg.putC] at hr
    rw [Lg.put_apply] at hr
    split at hr
    · cases hr
    · exact hr
def putsC (c : Option Nat) (x : Ch) (now : Int) : Ch × List Wk × Bool := match c with
  | none => (x, [], false)
  | some _ => x.put now
theorem putC_spec (hf : H_chanq_Chan_Put N F) {c : Option Nat} {x : Ch} (h : L.hasC s c x) (now : Int) : CallL F (N k_chanq_Chan_Put) [ptr c, .i .i64 now] L fun v L' => ∃ sl, v = .tup [sl, .b (putsC c x now).2.2] ∧
    FreshSl (L.putC c (putsC c x now).1) sl (wkcells (putsC c x now).2.1) (putsC c x now).2.1.length 5 L' := by
  cases c with
  | none =>
    refine (putNil_spec hf now).mono ?_
    rintro _ _ ⟨rfl, rfl⟩
    exact ⟨_, rfl, .inl ⟨rfl, rfl, rfl, rfl⟩⟩
  | some c => exact put_spec hf (h c rfl).2 now
def firedAV (id kind when now data : Int) (sl : AV) (kept : Bool) : AV := .agg [.i .i64 id, .i .i64 kind, .i .i64 when, .i .i64 now, .i .i64 data, sl, .b kept]
theorem fire_none (hf : H_timer_Set_Fire N F) (e : L s = some (.abs (SetP s σ))) (hs : σ.x.l.Pairwise It.lt) (hl : σ.x.l.length < 1000000) (hq : 0 ≤ σ.x.seq ∧ σ.x.seq < 4611686018427387904) (now : Int) (hk : (σ.x.take now).2.2 = false) :
    CallL F (N k_timer_Set_Fire) [.p (some (s, 0)), .i .i64 now] L fun v L' => v = .tup [firedAV 0 0 0 0 0 (.sl none 0 0 0) false, .b false] ∧ L' = L := by
  refine CallL.opq ?_
  intro Q hQ
  apply CallL.openS e
  intro t K op
  have hb := op.back e
  have tk : σ.x.take now = (σ.x, (0, 0, 0), false) := by
    unfold Xs.take at hk ⊢
    split
    · rfl
    · rename_i h; simp only [h] at hk
      split
      · rfl
      · rename_i h2; rw [if_neg h2] at hk; simp at hk
  apply r_timer_Set_Fire hf.code
  unfold D_timer_Set_Fire_1 D_timer_Set_Fire_2 D_timer_Set_Fire_3
  simp
  intro a4 h4
  have e1 : Ext2 K (K.put a4 (.raw (.cells [.i .i64 0, .i .i64 0, .i .i64 0, .i .i64 0, .i .i64 0, .sl none 0 0 0, .b false]))) := (Ext2.refl K).put h4 _
  obtain ⟨sv, h1, h2, h3, h5, h6, h7⟩ := op
  simp [rdL, AB.read, look, e1 _ _ h1]
  refine (xtake_spec hf.expire_Timers_Take (e1 _ _ h2) hs hl hq now).mono ?_
  rintro _ K2 ⟨rfl, rfl⟩
  rw [tk]
  simp only [retDue]
  rw [Lg.put_self _ t _ (e1 _ _ h2)]
  simp
  intro a6 h6'
  rw [stL_cells (Lg.put_same _ _ _) (by simp) (by simp) (by simp)]
  simp [splice]
  unfold D_timer_Set_Fire_4
  have n64 : a6 ≠ a4 := by rintro rfl; simp at h6'
  simp [fillP, splice, ble_nat, beq_nat]
  rw [stL_cells (c := [.i .i64 0, .i .i64 0, .i .i64 0, .i .i64 0, .i .i64 0, .sl none 0 0 0, .b false]) (by rw [Lg.put_ne _ _ _ (Ne.symm n64), Lg.put_same]) (by simp) (by simp) (by simp)]
  rw [res_cell_tmp _ _ (Lg.put_same _ _ _) (by simp [splice])]
  simp [splice]
  refine ⟨L, Sees.trans (Ext2.sees ?_) hb, hQ _ _ ⟨rfl, rfl⟩⟩
  have h6k : K a6 = none := by rw [Lg.put_ne _ _ _ n64] at h6'; exact h6'
  exact ((((Ext2.refl K).put h4 _).put h6k _).put h4 _)
theorem splice_3 (z1 z2 z3 a b c : AV) : splice [z1, z2, z3] 0 [a, b, c] = [a, b, c] := rfl
theorem splice_7 (z1 z2 z3 z4 z5 z6 z7 a b c d e f g : AV) : splice [z1, z2, z3, z4, z5, z6, z7] 0 [a, b, c, d, e, f, g] = [a, b, c, d, e, f, g] := rfl
theorem fire_spec (hf : H_timer_Set_Fire N F) (e : L s = some (.abs (SetP s σ))) (hs : σ.x.l.Pairwise It.lt) (hl : σ.x.l.length < 1000000) (hq : 0 ≤ σ.x.seq ∧ σ.x.seq < 4611686018427387904) (now : Int) {x' : Xs} {id when : Int} (tk : σ.x.take now = (x', (id, when, now), true))
    {o : On} (ho : σ.one id = some o) {x : Ch} (hc : L.hasC s o.c x) :
    CallL F (N k_timer_Set_Fire) [.p (some (s, 0)), .i .i64 now] L fun v L' => ∃ sl, v = .tup [firedAV id o.kind when now o.data sl (putsC o.c x now).2.2, .b true] ∧
      FreshSl ((L.put s (.abs (SetP s { σ with x := x' }))).putC o.c (putsC o.c x now).1) sl (wkcells (putsC o.c x now).2.1) (putsC o.c x now).2.1.length 5 L' := by
  refine CallL.opq ?_
  intro Q hQ
  obtain ⟨i, rfl, hi, hg0, hh⟩ := on_get ho
  apply CallL.openS e
  intro t K op
  apply r_timer_Set_Fire hf.code
  unfold D_timer_Set_Fire_1 D_timer_Set_Fire_2 D_timer_Set_Fire_3
  simp
  intro a4 h4
  have e1 : Ext2 K (K.put a4 (.raw (.cells [.i .i64 0, .i .i64 0, .i .i64 0, .i .i64 0, .i .i64 0, .sl none 0 0 0, .b false]))) := (Ext2.refl K).put h4 _
  have oX := op.setX x'
  have op' := op
  obtain ⟨sv, h1, h2, h3, h5, h6, h7⟩ := op'
  simp [rdL, AB.read, look, e1 _ _ h1]
  refine (xtake_spec hf.expire_Timers_Take (e1 _ _ h2) hs hl hq now).mono ?_
  rintro _ K2 ⟨rfl, rfl⟩
  rw [tk]
  simp only [retDue]
  have nt4 : t ≠ a4 := by rintro rfl; rw [h2] at h4; cases h4
  obtain ⟨K2, hK2⟩ : ∃ K2, K2 = (K.put a4 (.raw (.cells [.i .i64 0, .i .i64 0, .i .i64 0, .i .i64 0, .i .i64 0, .sl none 0 0 0, .b false]))).put t (.abs (TmP t x')) := ⟨_, rfl⟩
  rw [← hK2]
  have E2 : Ext2 (K.put t (.abs (TmP t x'))) K2 := by rw [hK2]; exact e1.both _ _
  have r4 : K2 a4 = some (.raw (.cells [.i .i64 0, .i .i64 0, .i .i64 0, .i .i64 0, .i .i64 0, .sl none 0 0 0, .b false])) := by rw [hK2, Lg.put_ne _ _ _ (Ne.symm nt4), Lg.put_same]
  have b4 : (K.put t (.abs (TmP t x'))) a4 = none := by rw [Lg.put_ne _ _ _ (Ne.symm nt4)]; exact h4
  simp
  intro a6 h6'
  rw [stL_cells (Lg.put_same _ _ _) (by simp) (by simp) (by simp), Lg.put_put, splice_3]
  obtain ⟨K3, hK3⟩ : ∃ K3, K3 = K2.put a6 (.raw (.cells [.i .i64 i, .i .i64 when, .i .i64 now])) := ⟨_, rfl⟩
  rw [← hK3]
  have E3 : Ext2 K2 K3 := by rw [hK3]; exact (Ext2.refl _).put h6' _
  have r6 : K3 a6 = some (.raw (.cells [.i .i64 i, .i .i64 when, .i .i64 now])) := by rw [hK3, Lg.put_same]
  unfold D_timer_Set_Fire_4
  simp
  unfold D_timer_Set_Fire_5
  obtain ⟨sv', g1, g2, g3, g4, g5, g6⟩ := oX
  rcases g5 with ⟨q1, rfl⟩ | ⟨b, rfl, a2, a3, aa4, a5, aa6⟩
  · rw [show ({ σ with x := x' } : Tms).ones = σ.ones from rfl] at q1; rw [q1] at hi; simp at hi
  have ei : (i : Int) < (σ.ones.length : Int) := by omega
  have k3s := E3 _ _ (E2 _ _ g1)
  have k3b := E3 _ _ (E2 _ _ a2)
  have gat := ocells_at σ.ones i o hg0
  have f1 : rdL K3 (b, i * 4) (some 4) = some (.agg o.cells) := by rw [rdL_cells k3b (by exact gat.2)]; rw [show (ocells ({ σ with x := x' } : Tms).ones) = ocells σ.ones from rfl, gat.1]
  have f2 : rdL K3 (s, 0) none = some (.sl (some (b, 0)) σ.ones.length σ.ones.length 4) := by rw [rdL_cell k3s]; rfl
  have f3 : rdL K3 (a6, 0) none = some (.i .i64 i) := by rw [rdL_cell r6]; rfl
  simp [f1, f2, f3, wp_iad _ _ _ 4 b 0 σ.ones.length σ.ones.length 4 .i64 (i : Int) (Int.natCast_nonneg _) ei]
  intro a8 h8
  rw [stL_cells (Lg.put_same _ _ _) o.cells_one (by simp [On.cells]) (by simp)]
  have n68 : a6 ≠ a8 := by rintro rfl; rw [r6] at h8; cases h8
  obtain ⟨K4, hK4⟩ : ∃ K4, K4 = K3.put a8 (.raw (.cells o.cells)) := ⟨_, rfl⟩
  have E4 : Ext2 K3 K4 := by rw [hK4]; exact (Ext2.refl _).put h8 _
  have r8 : K4 a8 = some (.raw (.cells o.cells)) := by rw [hK4, Lg.put_same]
  have r64 := E4 _ _ r6
  have spl : splice [AV.i .i64 0, .i .i64 0, .p none, .i .i64 0] 0 o.cells = o.cells := by simp [splice, On.cells]
  rw [spl, Lg.put_put, ← hK4]
  simp [rdL, AB.read, look, r64, r8, On.cells, fillP, splice, ble_nat, beq_nat]
  intro a21 h21
  rw [stL_cells (Lg.put_same _ _ _) (by simp) (by simp) (by simp), Lg.put_put, splice_7]
  obtain ⟨K5, hK5⟩ : ∃ K5, K5 = K4.put a21 (.raw (.cells [.i .i64 i, .i .i64 o.kind, .i .i64 when, .i .i64 now, .i .i64 o.data, .sl none 0 0 0, .b false])) := ⟨_, rfl⟩
  rw [← hK5]
  have E5 : Ext2 K4 K5 := by rw [hK5]; exact (Ext2.refl _).put h21 _
  have r21 : K5 a21 = some (.raw (.cells [.i .i64 i, .i .i64 o.kind, .i .i64 when, .i .i64 now, .i .i64 o.data, .sl none 0 0 0, .b false])) := by rw [hK5, Lg.put_same]
  have r85 := E5 _ _ r8
  simp [rdL, AB.read, look, r85, On.cells]
  have E25 : Ext2 (K.put t (.abs (TmP t x'))) K5 := ((E2.trans E3).trans E4).trans E5
  have hcK : (K.put t (.abs (TmP t x'))).hasC s o.c x := fun c hoc => ⟨(hc c hoc).1, g6 _ _ (hc c hoc).1 (hc c hoc).2⟩
  have hc5 : K5.hasC s o.c x := hasC_ext E25 hcK
  have n21 : (K.put t (.abs (TmP t x'))) a21 = none := ((E2.trans E3).trans E4).none h21
  refine (putC_spec hf.chanq_Chan_Put hc5 now).mono ?_
  rintro _ K6 ⟨sl, rfl, hfr⟩
  obtain ⟨y, hy⟩ : ∃ y, y = (putsC o.c x now) := ⟨_, rfl⟩
  rw [← hy] at hfr
  rw [← hy]
  rw [← hy] at hQ
  have oX2 : SOpen (L.putC o.c y.1) s { σ with x := x' } t ((K.put t (.abs (TmP t x'))).putC o.c y.1) := by
    cases hoc : o.c with
    | none => exact op.setX x'
    | some c => exact (op.setX x').putOld (hc c hoc).1 (hc c hoc).2 _
  have comm : ∀ d, (L.putC o.c y.1).put s d = (L.put s d).putC o.c y.1 := by
    intro d
    cases hoc : o.c with
    | none => rfl
    | some c => simp only [Lg.putC]; rw [Lg.put_comm _ (hc c hoc).1]
  have E6 : Ext2 ((K.put t (.abs (TmP t x'))).putC o.c y.1) (K5.putC o.c y.1) := E25.bothC _ _
  have c4 : ((K.put t (.abs (TmP t x'))).putC o.c y.1) a4 = none := putC_none hcK b4
  have c21 : ((K.put t (.abs (TmP t x'))).putC o.c y.1) a21 = none := putC_none hcK n21
  have r4K : K5 a4 = some (.raw (.cells [.i .i64 0, .i .i64 0, .i .i64 0, .i .i64 0, .i .i64 0, .sl none 0 0 0, .b false])) := E5 _ _ (E4 _ _ (E3 _ _ r4))
  have n4c : ∀ c, o.c = some c → a4 ≠ c := fun c hoc h => by rw [← h] at hoc; have := (hcK a4 hoc).2; rw [b4] at this; cases this
  have n21c : ∀ c, o.c = some c → a21 ≠ c := fun c hoc h => by rw [← h] at hoc; have := (hcK a21 hoc).2; rw [n21] at this; cases this
  have getC : ∀ r d, (∀ c, o.c = some c → r ≠ c) → K5 r = some d → (K5.putC o.c y.1) r = some d := by
    intro r d h1 h2
    cases hoc : o.c with
    | none => exact h2
    | some c => simp only [Lg.putC]; rw [Lg.put_ne _ _ _ (h1 c hoc)]; exact h2
  have q4 := getC _ _ n4c r4K
  have q21 := getC _ _ n21c r21
  have n421 : a4 ≠ a21 := by rintro rfl; rw [E4 _ _ (E3 _ _ r4)] at h21; cases h21
  have fin : ∀ (B : Lg), Ext2 B K6 → B a4 = none → B a21 = none → K6 a4 = some (.raw (.cells [.i .i64 0, .i .i64 0, .i .i64 0, .i .i64 0, .i .i64 0, .sl none 0 0 0, .b false])) → K6 a21 = some (.raw (.cells [.i .i64 i, .i .i64 o.kind, .i .i64 when, .i .i64 now, .i .i64 o.data, .sl none 0 0 0, .b false])) → sl.one = true → sl.cellsOf = some [sl] → (∀ K7, Ext2 B K7 → ∃ L', Sees K7 L' ∧ FreshSl ((L.putC o.c y.1).put s (.abs (SetP s { σ with x := x' }))) sl (wkcells y.2.1) y.2.1.length 5 L') → 
      wpOp F (.ext 0) [.tup [sl, .b y.2.2]] K6 fun v26 L26 => wpOp F (.ext 1) [.tup [sl, .b y.2.2]] L26 fun v27 L27 => wpOp F (.fad 5) [.p (some (a21, 0))] L27 fun v28 L28 => wpOp F (.st 1) [v28, v26] L28 fun _ L29 =>
        wpOp F (.fad 6) [.p (some (a21, 0))] L29 fun v30 L30 => wpOp F (.st 1) [v30, v27] L30 fun _ L31 => wpOp F (.ld (some 7)) [.p (some (a21, 0))] L31 fun v32 L32 => wpOp F (.st 7) [.p (some (a4, 0)), v32] L32 fun _ L33 =>
        fin1 (resVL Env.nil Env.nil L33 [.cell (.c (.p (some (a4, 0)))) (some 7), .tmp (.c (.b true))]) Q L33 := by
    intro B hB b4 b21 k4 k21 hone hco hfin
    simp
    rw [stL_cell k21 (by simp) hco]
    simp
    rw [stL_cell (Lg.put_same _ _ _) (by simp) rfl, Lg.put_put]
    simp
    rw [rdL_cells (Lg.put_same _ _ _) (by simp)]
    simp
    rw [stL_cells (c := [.i .i64 0, .i .i64 0, .i .i64 0, .i .i64 0, .i .i64 0, .sl none 0 0 0, .b false]) (by rw [Lg.put_ne _ _ _ n421]; exact k4) (by simp [hone]) (by simp) (by simp), splice_7]
    rw [res_cell_tmp _ _ (Lg.put_same _ _ _) (by simp)]
    simp
    obtain ⟨L', g1, g2⟩ := hfin _ ((hB.put b21 _).put b4 _)
    refine ⟨_, g1, hQ _ _ ⟨sl, rfl, ?_⟩⟩
    rw [← comm]
    exact g2
  rcases hfr with ⟨z1, z2, rfl, rfl⟩ | ⟨bs, ex, z1, z2, rfl, z3, rfl⟩
  · refine fin _ E6 c4 c21 q4 q21 rfl rfl ?_
    intro K7 hK7
    exact ⟨_, (Ext2.sees hK7).trans oX2.shut, .inl ⟨z1, z2, rfl, rfl⟩⟩
  · have nb4 : a4 ≠ bs := by rintro rfl; rw [q4] at z1; cases z1
    have nb21 : a21 ≠ bs := by rintro rfl; rw [q21] at z1; cases z1
    have zz := E6.none z1
    refine fin _ (E6.both bs _) (by rw [Lg.put_ne _ _ _ nb4]; exact c4) (by rw [Lg.put_ne _ _ _ nb21]; exact c21) (by rw [Lg.put_ne _ _ _ nb4]; exact q4) (by rw [Lg.put_ne _ _ _ nb21]; exact q21) rfl rfl ?_
    intro K7 hK7
    have o9 := oX2.onto zz (.raw (.cells (wkcells y.2.1)))
    have ne := oX2.ne zz
    refine ⟨_, (Ext2.sees hK7).trans o9.shut, .inr ⟨bs, ex, ?_, z2, rfl, z3, ?_⟩⟩
    · rw [Lg.put_ne _ _ _ ne.1]; exact ne.2
    · rw [Lg.put_comm _ ne.1]
end
end Go.AM
