/- timer: the set of timers, opened; small functions. -/
import Derived.Test.YtijhjfpiglaleaaLibExpire
import Derived.Test.YtijhjfpiglaleaaGenC
set_option linter.unusedVariables false
set_option linter.unusedSimpArgs false
namespace Go.AM
variable {N : Nat → Nat} {F : Nat → Option AFn}

section
variable {L : Lg} {t : Nat} {x : Xs}
theorem xstop_spec (hf : H_expire_Timers_Stop N F) (e : L t = some (.abs (TmP t x))) (hl : x.l.length ≤ 1000000) (id : Int) :
    CallL F (N k_expire_Timers_Stop) [.p (some (t, 0)), .i .i64 id] L fun v L' => v = .b (findId id x.l).isSome ∧ L' = L.put t (.abs (TmP t (x.stop id))) := by
  apply CallL.openX e
  intro h pm K o
  refine (xstop_open hf o hl id).sees ?_
  rintro _ K' ⟨rfl, o'⟩
  exact ⟨_, o'.shut, rfl, rfl⟩
theorem xarm_spec (hf : H_expire_Timers_Arm N F) (e : L t = some (.abs (TmP t x))) (hl : x.l.length < 1000000) (hq : 0 ≤ x.seq ∧ x.seq < 4611686018427387904) (id when period : Int) :
    CallL F (N k_expire_Timers_Arm) [.p (some (t, 0)), .i .i64 id, .i .i64 when, .i .i64 period] L fun v L' => v = .i .i64 (x.arm id when period).2 ∧ L' = L.put t (.abs (TmP t (x.arm id when period).1)) := by
  apply CallL.openX e
  intro h pm K o
  refine (xarm_open hf o hl hq id when period).sees ?_
  rintro _ K' ⟨rfl, o'⟩
  exact ⟨_, o'.shut, rfl, rfl⟩
theorem xnext_spec (hf : H_expire_Timers_Next N F) (e : L t = some (.abs (TmP t x))) (hs : x.l.Pairwise It.lt) :
    CallL F (N k_expire_Timers_Next) [.p (some (t, 0))] L fun v L' => v = .tup [.i .i64 x.next.1, .b x.next.2] ∧ L' = L := by
  apply CallL.openX e
  intro h pm K o
  refine (xnext_open hf o hs).sees ?_
  rintro _ K' ⟨rfl, rfl⟩
  exact ⟨_, o.back e, rfl, rfl⟩
theorem xtake_spec (hf : H_expire_Timers_Take N F) (e : L t = some (.abs (TmP t x))) (hs : x.l.Pairwise It.lt) (hl : x.l.length < 1000000) (hq : 0 ≤ x.seq ∧ x.seq < 4611686018427387904) (now : Int) :
    CallL F (N k_expire_Timers_Take) [.p (some (t, 0)), .i .i64 now] L fun v L' => v = retDue (x.take now).2.1 (x.take now).2.2 ∧ L' = L.put t (.abs (TmP t (x.take now).1)) := by
  apply CallL.openX e
  intro h pm K o
  refine (xtake_open hf o hs hl hq now).sees ?_
  rintro _ K' ⟨rfl, o'⟩
  exact ⟨_, o'.shut, rfl, rfl⟩
end

/-- a timer -/
structure On where
  kind : Int
  data : Int
  c : Option Nat
  gen : Int
def On.cells (o : On) : List AV := [.i .i64 o.kind, .i .i64 o.data, ptr o.c, .i .i64 o.gen]
def ocells : List On → List AV
  | [] => []
  | o :: r => o.cells ++ ocells r
theorem ocells_length : ∀ (A : List On), (ocells A).length = A.length * 4
  | [] => rfl
  | w :: A => by simp [ocells, ocells_length A, On.cells]; omega
theorem ocells_append : ∀ (A B : List On), ocells (A ++ B) = ocells A ++ ocells B
  | [], _ => rfl
  | w :: A, B => by simp [ocells, ocells_append A B]
theorem ocells_get : ∀ (ws : List On) (i k : Nat) (w : On), ws[i]? = some w → k < 4 → (ocells ws)[i * 4 + k]? = w.cells[k]?
  | [], i, k, w, h, _ => by simp at h
  | a :: r, 0, k, w, h, hk => by
    simp at h; subst h
    simp only [ocells, Nat.zero_mul, Nat.zero_add]
    rw [List.getElem?_append_left (by simp [On.cells]; omega)]
  | a :: r, i + 1, k, w, h, hk => by
    have := ocells_get r i k w (by simpa using h) hk
    have e : (i + 1) * 4 + k = a.cells.length + (i * 4 + k) := by simp [On.cells]; omega
    rw [e]
    simp only [ocells]
    rw [List.getElem?_append_right (by omega), Nat.add_sub_cancel_left]
    exact this
theorem ocells_at : ∀ (ws : List On) (i : Nat) (w : On), ws[i]? = some w → ((ocells ws).drop (i * 4)).take 4 = w.cells ∧ i * 4 + 4 ≤ (ocells ws).length
  | [], i, w, h => by simp at h
  | a :: r, 0, w, h => by simp at h; subst h; simp [ocells, On.cells]
  | a :: r, i + 1, w, h => by
    have := ocells_at r i w (by simpa using h)
    have e : (i + 1) * 4 = i * 4 + 1 + 1 + 1 + 1 := by omega
    rw [e]
    simp only [ocells, On.cells, List.cons_append, List.nil_append, List.drop_succ_cons, List.length_cons]
    exact ⟨this.1, by omega⟩
theorem ocells_gen : ∀ (ws : List On) (i : Nat) (w : On) (g : Int), ws[i]? = some w → (ocells ws).set (i * 4 + 3) (.i .i64 g) = ocells (ws.set i { w with gen := g })
  | [], i, w, g, h => by simp at h
  | a :: r, 0, w, g, h => by simp at h; subst h; simp [ocells, On.cells]
  | a :: r, i + 1, w, g, h => by
    have := ocells_gen r i w g (by simpa using h)
    have e : (i + 1) * 4 + 3 = (i * 4 + 3) + 1 + 1 + 1 + 1 := by omega
    rw [e, List.set_cons_succ]
    simp only [ocells, On.cells, List.cons_append, List.nil_append, List.set_cons_succ]
    rw [this]
/-- timers: each; what will be due; how many have names -/
structure Tms where
  ones : List On
  x : Xs
  named : Int
def SSl (L : Lg) (s t : Nat) (ones : List On) (sv : AV) (K : Lg) : Prop :=
  (ones = [] ∧ sv = .sl none 0 0 0) ∨ ∃ b, sv = .sl (some (b, 0)) ones.length ones.length 4 ∧ K b = some (.raw (.cells (ocells ones))) ∧ b ≠ s ∧ b ≠ t ∧ L b = none ∧ 0 < ones.length
def SOpen (L : Lg) (s : Nat) (σ : Tms) (t : Nat) (K : Lg) : Prop :=
  ∃ sv, K s = some (.raw (.cells [sv, .p (some (t, 0)), .i .i64 σ.named])) ∧ K t = some (.abs (TmP t σ.x)) ∧ t ≠ s ∧ L t = none ∧ SSl L s t σ.ones sv K ∧ ∀ r d, r ≠ s → L r = some d → K r = some d
def SetP (s : Nat) (σ : Tms) (hp : Hp) : Prop := ∃ t M, SOpen Lg.nil s σ t M ∧ Sat M hp
section
variable {L L0 K : Lg} {s t : Nat} {σ : Tms}
theorem SOpen.shut (o : SOpen L s σ t K) : Sees K (L.put s (.abs (SetP s σ))) := by
  obtain ⟨sv, h1, h2, h3, h4, h5, h6⟩ := o
  rcases h5 with ⟨g1, rfl⟩ | ⟨b, rfl, a2, a3, a4, a5, a6⟩
  · refine Sees.shutAt (fun r => r = s ∨ r = t) (.inl rfl) ?_ ?_ (.inl ⟨_, h1⟩) ?_
    · intro r d hr hd; simp only [not_or] at hr; exact h6 r d hr.1 hd
    · rintro r (rfl | rfl) hr
      · exact absurd rfl hr
      · exact h4
    · intro M hm hM hN hs
      exact ⟨t, M, ⟨_, by rw [hM s (.inl rfl)]; exact h1, by rw [hM t (.inr rfl)]; exact h2, h3, rfl, .inl ⟨g1, rfl⟩, fun r d _ hd => by cases hd⟩, hs⟩
  · refine Sees.shutAt (fun r => r = s ∨ r = t ∨ r = b) (.inl rfl) ?_ ?_ (.inl ⟨_, h1⟩) ?_
    · intro r d hr hd; simp only [not_or] at hr; exact h6 r d hr.1 hd
    · rintro r (rfl | rfl | rfl) hr
      · exact absurd rfl hr
      · exact h4
      · exact a5
    · intro M hm hM hN hs
      exact ⟨t, M, ⟨_, by rw [hM s (.inl rfl)]; exact h1, by rw [hM t (.inr (.inl rfl))]; exact h2, h3, rfl, .inr ⟨b, rfl, by rw [hM b (.inr (.inr rfl))]; exact a2, a3, a4, rfl, a6⟩, fun r d _ hd => by cases hd⟩, hs⟩
theorem CallL.openS {f : Nat} {vs : List AV} {Q : AV → Lg → Prop} (e : L s = some (.abs (SetP s σ))) (H : ∀ t K, SOpen L s σ t K → CallL F f vs K Q) : CallL F f vs L Q := by
  apply CallL.opens e
  rintro hm ⟨t, M, ⟨sv, h1, h2, h3, h4, h5, h6⟩, hs⟩
  refine ⟨M, hs, by rw [h1]; simp, fun hf => ?_⟩
  have hover : ∀ b d, M b = some d → (M.over L) b = some d := fun b d hb => by simp [Lg.over, hb]
  refine H t (M.over L) ⟨sv, hover _ _ h1, hover _ _ h2, h3, hf _ _ h2 h3, ?_, ?_⟩
  · rcases h5 with h5 | ⟨b, a1, a2, a3, a4, a5, a6⟩
    · exact .inl h5
    · exact .inr ⟨b, a1, hover _ _ a2, a3, a4, hf _ _ a2 a3, a6⟩
  · intro r d hr hd
    cases hM : M r with
    | none => simp [Lg.over, hM, hd]
    | some c => rw [hf r c hM hr] at hd; cases hd
theorem SOpen.back (o : SOpen L s σ t K) (e : L s = some (.abs (SetP s σ))) : Sees K L := by
  have := o.shut
  rwa [Lg.put_self L s _ e] at this
theorem SOpen.ne (o : SOpen L s σ t K) {r : Nat} (hr : K r = none) : r ≠ s ∧ L r = none := by
  obtain ⟨sv, h1, h2, h3, h4, h5, h6⟩ := o
  have n : r ≠ s := by rintro rfl; rw [h1] at hr; cases hr
  refine ⟨n, ?_⟩
  cases e : L r with
  | none => rfl
  | some d => rw [h6 r d n e] at hr; cases hr
theorem SOpen.old (o : SOpen L s σ t K) {r : Nat} {d : LC} (hr : r ≠ s) (hd : L r = some d) : K r = some d := by
  obtain ⟨sv, h1, h2, h3, h4, h5, h6⟩ := o
  exact h6 r d hr hd
theorem SOpen.onto (o : SOpen L s σ t K) {r : Nat} (hr : K r = none) (d : LC) : SOpen (L.put r d) s σ t (K.put r d) := by
  obtain ⟨sv, h1, h2, h3, h4, h5, h6⟩ := o
  have nb : ∀ {y : Nat} {k : LC}, K y = some k → y ≠ r := fun hx hxr => by rw [hxr, hr] at hx; cases hx
  refine ⟨sv, by rw [Lg.put_ne _ _ _ (nb h1)]; exact h1, by rw [Lg.put_ne _ _ _ (nb h2)]; exact h2, h3, by rw [Lg.put_ne _ _ _ (nb h2)]; exact h4, ?_, ?_⟩
  · rcases h5 with h5 | ⟨b, a1, a2, a3, a4, a5, a6⟩
    · exact .inl h5
    · exact .inr ⟨b, a1, by rw [Lg.put_ne _ _ _ (nb a2)]; exact a2, a3, a4, by rw [Lg.put_ne _ _ _ (nb a2)]; exact a5, a6⟩
  · intro y k hy hk
    rw [Lg.put_apply] at hk ⊢
    split
    · rename_i h9; rw [if_pos h9] at hk; exact hk
    · rename_i h9; rw [if_neg h9] at hk; exact h6 y k hy hk
/-- what is old may turn -/
theorem SOpen.putOld (o : SOpen L s σ t K) {r : Nat} {d : LC} (hr : r ≠ s) (hd : L r = some d) (d' : LC) : SOpen (L.put r d') s σ t (K.put r d') := by
  obtain ⟨sv, h1, h2, h3, h4, h5, h6⟩ := o
  have c2 : t ≠ r := by rintro rfl; rw [h4] at hd; cases hd
  refine ⟨sv, by rw [Lg.put_ne _ _ _ (Ne.symm hr)]; exact h1, by rw [Lg.put_ne _ _ _ c2]; exact h2, h3, by rw [Lg.put_ne _ _ _ c2]; exact h4, ?_, ?_⟩
  · rcases h5 with h5 | ⟨b, a1, a2, a3, a4, a5, a6⟩
    · exact .inl h5
    · have c3 : b ≠ r := by rintro rfl; rw [a5] at hd; cases hd
      exact .inr ⟨b, a1, by rw [Lg.put_ne _ _ _ c3]; exact a2, a3, a4, by rw [Lg.put_ne _ _ _ c3]; exact a5, a6⟩
  · intro y k hy hk
    rw [Lg.put_apply] at hk ⊢
    split
    · rename_i h9; rw [if_pos h9] at hk; exact hk
    · rename_i h9; rw [if_neg h9] at hk; exact h6 y k hy hk
theorem SOpen.sub (o : SOpen L0 s σ t K) (hs : ∀ r d, r ≠ s → L r = some d → L0 r = some d) : SOpen L s σ t K := by
  obtain ⟨sv, h1, h2, h3, h4, h5, h6⟩ := o
  have hn : ∀ r, r ≠ s → L0 r = none → L r = none := by
    intro r hr h0
    cases e : L r with
    | none => rfl
    | some d => rw [hs r d hr e] at h0; cases h0
  refine ⟨sv, h1, h2, h3, hn t h3 h4, ?_, fun r d hr hd => h6 r d hr (hs r d hr hd)⟩
  rcases h5 with h5 | ⟨b, a1, a2, a3, a4, a5, a6⟩
  · exact .inl h5
  · exact .inr ⟨b, a1, a2, a3, a4, hn b a3 a5, a6⟩
theorem SOpen.setX (o : SOpen L s σ t K) (x : Xs) : SOpen L s { σ with x := x } t (K.put t (.abs (TmP t x))) := by
  obtain ⟨sv, h1, h2, h3, h4, h5, h6⟩ := o
  refine ⟨sv, by rw [Lg.put_ne _ _ _ (Ne.symm h3)]; exact h1, Lg.put_same _ _ _, h3, h4, ?_, ?_⟩
  · rcases h5 with h5 | ⟨b, a1, a2, a3, a4, a5, a6⟩
    · exact .inl h5
    · exact .inr ⟨b, a1, by rw [Lg.put_ne _ _ _ a4]; exact a2, a3, a4, a5, a6⟩
  · intro r d hr hd
    have : r ≠ t := by rintro rfl; rw [h4] at hd; cases hd
    rw [Lg.put_ne _ _ _ this]; exact h6 r d hr hd
theorem SOpen.exp (o : SOpen L s σ t K) : K t = some (.abs (TmP t σ.x)) := o.choose_spec.2.1

def Tms.has (σ : Tms) (id : Int) : Bool := decide (0 ≤ id) && decide (id < σ.ones.length)
theorem has_open (hf : H_timer_Set_has N F) (o : SOpen L s σ t K) (id : Int) : CallL F (N k_timer_Set_has) [.p (some (s, 0)), .i .i64 id] K fun v K' => v = .b (σ.has id) ∧ K' = K := by
  obtain ⟨sv, h1, h2, h3, h4, h5, h6⟩ := o
  apply r_timer_Set_has hf.code
  unfold D_timer_Set_has_1 Tms.has
  by_cases c1 : 0 ≤ id
  · rcases h5 with ⟨g1, rfl⟩ | ⟨b, rfl, a2, a3, a4, a5, a6⟩
    · have : ¬ id < 0 := by omega
      simp [c1, rdL, AB.read, look, h1, g1]
    · simp [c1, rdL, AB.read, look, h1]
  · simp [c1]
theorem bad_spec (hf : H_timer_bad N F) (n : Int) : CallL F (N k_timer_bad) [.i .i64 n] L fun v L' => v = .b (decide (n < 0) || decide (4611686018427387904 < n)) ∧ L' = L := by
  apply r_timer_bad hf.code
  unfold D_timer_bad_1
  by_cases c1 : n < 0 <;> simp [c1]
theorem tnew_spec (hf : H_timer_New N F) : CallL F (N k_timer_New) [] L fun v L' => ∃ s, L s = none ∧ v = .p (some (s, 0)) ∧ L' = L.put s (.abs (SetP s ⟨[], ⟨[], 0, fun _ => none⟩, 0⟩)) := by
  apply r_timer_New hf.code
  unfold D_timer_New_1
  refine (xnew_spec hf.expire_New).mono ?_
  rintro _ _ ⟨t, ht, rfl, rfl⟩
  simp [fillP, splice, ble_nat, beq_nat]
  intro s hs
  have n1 : s ≠ t := by rintro rfl; simp at hs
  rw [Lg.put_ne _ _ _ n1] at hs
  have o : SOpen L s ⟨[], ⟨[], 0, fun _ => none⟩, 0⟩ t ((L.put t (.abs (TmP t ⟨[], 0, fun _ => none⟩))).put s (.raw (.cells [.sl none 0 0 0, .p (some (t, 0)), .i .i64 0]))) :=
    ⟨_, Lg.put_same _ _ _, by rw [Lg.put_ne _ _ _ (Ne.symm n1), Lg.put_same], Ne.symm n1, ht, .inl ⟨rfl, rfl⟩, fun r d hr hd => by
      have c1 : r ≠ t := by rintro rfl; rw [ht] at hd; cases hd
      rw [Lg.put_ne _ _ _ hr, Lg.put_ne _ _ _ c1]; exact hd⟩
  exact ⟨_, o.shut, s, hs, rfl, rfl⟩
theorem tnext_spec (hf : H_timer_Set_Next N F) (e : L s = some (.abs (SetP s σ))) (hs : σ.x.l.Pairwise It.lt) : CallL F (N k_timer_Set_Next) [.p (some (s, 0))] L fun v L' => v = .tup [.i .i64 σ.x.next.1, .b σ.x.next.2] ∧ L' = L := by
  apply CallL.openS e
  intro t K o
  have hb := o.back e
  obtain ⟨sv, h1, h2, h3, h4, h5, h6⟩ := o
  apply r_timer_Set_Next hf.code
  unfold D_timer_Set_Next_1
  simp [rdL, AB.read, look, h1]
  refine (xnext_spec hf.expire_Timers_Next h2 hs).mono ?_
  rintro _ _ ⟨rfl, rfl⟩
  simpa using hb
theorem tlen_spec (hf : H_timer_Set_Len N F) (e : L s = some (.abs (SetP s σ))) : CallL F (N k_timer_Set_Len) [.p (some (s, 0))] L fun v L' => v = .i .i64 σ.ones.length ∧ L' = L := by
  apply CallL.openS e
  intro t K o
  have hb := o.back e
  obtain ⟨sv, h1, h2, h3, h4, h5, h6⟩ := o
  apply r_timer_Set_Len hf.code
  unfold D_timer_Set_Len_1
  rcases h5 with ⟨g1, rfl⟩ | ⟨b, rfl, a2, a3, a4, a5, a6⟩
  · simpa [rdL, AB.read, look, h1, g1] using hb
  · simpa [rdL, AB.read, look, h1] using hb
theorem Tms.has_nat {σ : Tms} {id : Int} (h : σ.has id = true) : ∃ i : Nat, id = (i : Int) ∧ i < σ.ones.length := by
  simp [Tms.has] at h
  obtain ⟨i, rfl⟩ := Int.eq_ofNat_of_zero_le h.1
  exact ⟨i, rfl, by omega⟩
def Tms.one (σ : Tms) (id : Int) : Option On := if σ.has id = true then σ.ones[id.toNat]? else none
theorem tkind_spec (hf : H_timer_Set_Kind N F) (e : L s = some (.abs (SetP s σ))) (id : Int) : CallL F (N k_timer_Set_Kind) [.p (some (s, 0)), .i .i64 id] L fun v L' => v = .i .i64 (match σ.one id with | some o => o.kind | none => 0) ∧ L' = L := by
  apply CallL.openS e
  intro t K o
  have hb := o.back e
  apply r_timer_Set_Kind hf.code
  unfold D_timer_Set_Kind_1 Tms.one
  refine (has_open hf.timer_Set_has o id).mono ?_
  rintro _ _ ⟨rfl, rfl⟩
  cases hh : σ.has id
  · simpa using hb
  · obtain ⟨i, rfl, hi⟩ := Tms.has_nat hh
    obtain ⟨sv, h1, h2, h3, h4, h5, h6⟩ := o
    rcases h5 with ⟨g1, rfl⟩ | ⟨b, rfl, a2, a3, a4, a5, a6⟩
    · rw [g1] at hi; simp at hi
    · have ei : (i : Int) < (σ.ones.length : Int) := by omega
      have hg : σ.ones[i]? = some σ.ones[i] := List.getElem?_eq_getElem hi
      have h9 := ocells_get σ.ones i 0 _ hg (by omega)
      simp [On.cells] at h9
      simpa [rdL, AB.read, look, h1, wp_iad _ _ _ 4 b 0 σ.ones.length σ.ones.length 4 .i64 (i : Int) (Int.natCast_nonneg _) ei, a2, h9, hi] using hb
theorem tgen_spec (hf : H_timer_Set_Gen N F) (e : L s = some (.abs (SetP s σ))) (id : Int) : CallL F (N k_timer_Set_Gen) [.p (some (s, 0)), .i .i64 id] L fun v L' => v = .i .i64 (match σ.one id with | some o => o.gen | none => 0) ∧ L' = L := by
  apply CallL.openS e
  intro t K o
  have hb := o.back e
  apply r_timer_Set_Gen hf.code
  unfold D_timer_Set_Gen_1 Tms.one
  refine (has_open hf.timer_Set_has o id).mono ?_
  rintro _ _ ⟨rfl, rfl⟩
  cases hh : σ.has id
  · simpa using hb
  · obtain ⟨i, rfl, hi⟩ := Tms.has_nat hh
    obtain ⟨sv, h1, h2, h3, h4, h5, h6⟩ := o
    rcases h5 with ⟨g1, rfl⟩ | ⟨b, rfl, a2, a3, a4, a5, a6⟩
    · rw [g1] at hi; simp at hi
    · have ei : (i : Int) < (σ.ones.length : Int) := by omega
      have hg : σ.ones[i]? = some σ.ones[i] := List.getElem?_eq_getElem hi
      have h9 := ocells_get σ.ones i 3 _ hg (by omega)
      simp [On.cells] at h9
      simpa [rdL, AB.read, look, h1, wp_iad _ _ _ 4 b 0 σ.ones.length σ.ones.length 4 .i64 (i : Int) (Int.natCast_nonneg _) ei, a2, h9, hi] using hb
theorem tchan_spec (hf : H_timer_Set_Chan N F) (e : L s = some (.abs (SetP s σ))) (id : Int) : CallL F (N k_timer_Set_Chan) [.p (some (s, 0)), .i .i64 id] L fun v L' => v = (match σ.one id with | some o => ptr o.c | none => .p none) ∧ L' = L := by
  apply CallL.openS e
  intro t K o
  have hb := o.back e
  apply r_timer_Set_Chan hf.code
  unfold D_timer_Set_Chan_1 Tms.one
  refine (has_open hf.timer_Set_has o id).mono ?_
  rintro _ _ ⟨rfl, rfl⟩
  cases hh : σ.has id
  · simpa using hb
  · obtain ⟨i, rfl, hi⟩ := Tms.has_nat hh
    obtain ⟨sv, h1, h2, h3, h4, h5, h6⟩ := o
    rcases h5 with ⟨g1, rfl⟩ | ⟨b, rfl, a2, a3, a4, a5, a6⟩
    · rw [g1] at hi; simp at hi
    · have ei : (i : Int) < (σ.ones.length : Int) := by omega
      have hg : σ.ones[i]? = some σ.ones[i] := List.getElem?_eq_getElem hi
      have h9 := ocells_get σ.ones i 2 _ hg (by omega)
      simp [On.cells] at h9
      simpa [rdL, AB.read, look, h1, wp_iad _ _ _ 4 b 0 σ.ones.length σ.ones.length 4 .i64 (i : Int) (Int.natCast_nonneg _) ei, a2, h9, hi] using hb
end
end Go.AM
