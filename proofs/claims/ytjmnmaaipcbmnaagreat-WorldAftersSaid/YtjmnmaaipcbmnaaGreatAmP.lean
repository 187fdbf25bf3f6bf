/- Regions whose order is open: the order facts and the states on the way. -/
import Derived.Test.YtjmnmaaipcbmnaaGreatAmO
set_option linter.unusedVariables false
set_option linter.unusedSimpArgs false
namespace Go.AM
open Go.RowKit (Below)

/-! ### the states on the way -/
def Way (call : Cll) (l : List Op1) (ts : Nat → Tm) (ss : Nat → St) : Prop :=
  ∀ i o, l[i]? = some o → step1 call o (ts i) (ss i) = some (ts (i + 1), ss (i + 1))

theorem lastOf_cons {x y : Tm × St} {r : List (Tm × St)} : lastOf (x :: y :: r) = lastOf (y :: r) := rfl
theorem way_of_trace {call : Cll} : ∀ {l : List Op1} {T : Tm} {S : St} {tr : List (Tm × St)}, trace call l T S = some tr →
    ∃ ts ss, ts 0 = T ∧ ss 0 = S ∧ Way call l ts ss ∧ (∀ i, i ≤ l.length → tr[i]? = some (ts i, ss i)) ∧ lastOf tr = some (ts l.length, ss l.length)
  | [], T, S, tr, h => by
    cases h
    refine ⟨fun _ => T, fun _ => S, rfl, rfl, fun i o h => by simp at h, fun i hi => ?_, rfl⟩
    have : i = 0 := by simpa using hi
    subst this; rfl
  | o :: r, T, S, tr, h => by
    unfold trace at h
    split at h
    · rename_i T1 S1 he
      rw [Option.map_eq_some_iff] at h
      obtain ⟨u, hu, rfl⟩ := h
      obtain ⟨ts, ss, h1, h2, h3, h4, h5⟩ := way_of_trace hu
      refine ⟨fun i => match i with | 0 => T | i + 1 => ts i, fun i => match i with | 0 => S | i + 1 => ss i, rfl, rfl, ?_, ?_, ?_⟩
      · intro i o' ho
        cases i with
        | zero =>
          simp only [List.getElem?_cons_zero, Option.some.injEq] at ho
          subst ho
          simp only [h1, h2]
          exact he
        | succ i => exact h3 i o' (by simpa using ho)
      · intro i hi
        cases i with
        | zero => rfl
        | succ i => simpa using h4 i (by simpa using hi)
      · have h0 := h4 0 (Nat.zero_le _)
        cases u with
        | nil => cases h0
        | cons y u => rw [lastOf_cons, h5]; rfl
    · cases h
theorem trace_of_run {call : Cll} : ∀ {l : List Op1} {T : Tm} {S : St} {p : Tm × St}, runOps call l T S = some p → ∃ tr, trace call l T S = some tr ∧ lastOf tr = some p
  | [], T, S, p, h => by cases h; exact ⟨_, rfl, rfl⟩
  | o :: r, T, S, p, h => by
    rw [runOps_cons] at h
    split at h
    · rename_i T1 S1 he
      obtain ⟨u, h1, h2⟩ := trace_of_run h
      refine ⟨(T, S) :: u, by unfold trace; rw [he]; simp only [h1, Option.map_some], ?_⟩
      cases u with
      | nil => cases h2
      | cons y u => rw [lastOf_cons, h2]
    · cases h

/-! ### what comes ahead of what -/
theorem fold_testBit (acc : List Nat) (i : Nat) : ∀ (ds : List Nat) (s : Nat), (ds.foldl (fun s e => s ||| 2 ^ e ||| acc.getD e 0) s).testBit i = true → s.testBit i = true ∨ ∃ e ∈ ds, i = e ∨ (acc.getD e 0).testBit i = true
  | [], s, h => .inl h
  | e :: ds, s, h => by
    rw [List.foldl_cons] at h
    rcases fold_testBit acc i ds _ h with h | ⟨e', he, h⟩
    · simp only [Nat.testBit_or, Bool.or_eq_true, Nat.testBit_two_pow, decide_eq_true_eq] at h
      rcases h with (h | h) | h
      · exact .inl h
      · exact .inr ⟨e, by simp, .inl h.symm⟩
      · exact .inr ⟨e, by simp, .inr h⟩
    · exact .inr ⟨e', by simp [he], h⟩
theorem befores_spec (D : Nat → List Nat) : ∀ (ds : List (List Nat)) (acc : List Nat), (∀ k x, ds[k]? = some x → D (acc.length + k) = x) →
    (∀ j i, (acc.getD j 0).testBit i = true → ∃ d ∈ D j, i = d ∨ (acc.getD d 0).testBit i = true) →
    ∀ j i, ((befores ds acc).getD j 0).testBit i = true → ∃ d ∈ D j, i = d ∨ ((befores ds acc).getD d 0).testBit i = true
  | [], acc, _, h => h
  | x :: r, acc, hD, h => by
    unfold befores
    have hx : D acc.length = x := by simpa using hD 0 x (by simp)
    have hget : ∀ d, d < acc.length → ∀ m, (acc ++ [m]).getD d 0 = acc.getD d 0 := fun d hd m => by
      rw [List.getD_eq_getElem?_getD, List.getD_eq_getElem?_getD, List.getElem?_append_left hd]
    have hno : ∀ d, ¬ d < acc.length → ∀ i, (acc.getD d 0).testBit i = true → False := fun d hd i hb => by
      rw [List.getD_eq_getElem?_getD, List.getElem?_eq_none (by omega)] at hb
      simp at hb
    have lift : ∀ m d i, (acc.getD d 0).testBit i = true → ((acc ++ [m]).getD d 0).testBit i = true := fun m d i hb => by
      by_cases hd : d < acc.length
      · rw [hget d hd]; exact hb
      · exact (hno d hd i hb).elim
    refine befores_spec D r _ (fun k y hk => ?_) (fun j i hb => ?_)
    · have := hD (k + 1) y (by simpa using hk)
      rw [← this]
      simp only [List.length_append, List.length_cons, List.length_nil]
      congr 1
      omega
    · by_cases hj : j < acc.length
      · rw [hget j hj] at hb
        obtain ⟨d, hd, h1 | h1⟩ := h j i hb
        · exact ⟨d, hd, .inl h1⟩
        · exact ⟨d, hd, .inr (lift _ d i h1)⟩
      · by_cases hj2 : j = acc.length
        · subst hj2
          rw [List.getD_eq_getElem?_getD, List.getElem?_append_right (Nat.le_refl _)] at hb
          simp only [Nat.sub_self, List.getElem?_cons_zero, Option.getD_some] at hb
          rcases fold_testBit acc i x 0 hb with h0 | ⟨e, he, h1⟩
          · simp at h0
          · rw [hx]
            refine ⟨e, he, h1.imp id (lift _ e i)⟩
        · rw [List.getD_eq_getElem?_getD, List.getElem?_eq_none (by simp; omega)] at hb
          simp at hb
def predsAt (ops : Array Oper) (j : Nat) : List Nat := ((ops.toList[j]?).map preds).getD []
theorem bef_step {ops : Array Oper} {i j : Nat} (h : bef (befores (ops.toList.map preds) []) i j = true) : ∃ d ∈ predsAt ops j, i = d ∨ bef (befores (ops.toList.map preds) []) i d = true := by
  refine befores_spec (predsAt ops) _ [] (fun k x hk => ?_) (fun j i hb => by simp at hb) j i h
  rw [List.getElem?_map] at hk
  show ((ops.toList[0 + k]?).map preds).getD [] = x
  rw [Nat.zero_add, hk]; rfl
theorem back_spec {ops : Array Oper} (h : backOk (ops.toList.map preds) = true) {j d : Nat} (hd : d ∈ predsAt ops j) : d < j := by
  unfold predsAt at hd
  cases ho : ops.toList[j]? with
  | none => rw [ho] at hd; simp at hd
  | some o =>
    rw [ho] at hd
    simp only [Option.map_some, Option.getD_some] at hd
    unfold backOk at h
    rw [List.all_eq_true] at h
    have h1 := h (preds o, j) (by rw [List.mem_zipIdx_iff_getElem?]; rw [List.getElem?_map, ho]; rfl)
    simp only [List.all_eq_true] at h1
    have := h1 d hd
    rw [blt_nat] at this
    exact of_decide_eq_true this
/-- what is closed under what must come ahead -/
theorem bef_closed {ops : Array Oper} (hb : backOk (ops.toList.map preds) = true) {X : Nat → Prop} (hX : ∀ j, X j → ∀ d ∈ predsAt ops j, X d) : ∀ (j : Nat), (∀ d ∈ predsAt ops j, X d) → ∀ i, bef (befores (ops.toList.map preds) []) i j = true → X i := by
  intro j
  induction j using Nat.strongRecOn with
  | _ j ih =>
    intro hj i h
    obtain ⟨d, hd, h1 | h1⟩ := bef_step h
    · subst h1; exact hj i hd
    · exact ih d (back_spec hb hd) (hX d (hj d hd)) i h1

theorem mem_effs {l : List Op1} {e : Nat} : e ∈ effs l ↔ ∃ o, l[e]? = some o ∧ isE o = true := by
  unfold effs
  simp only [List.mem_map, List.mem_filter, Prod.exists, List.mem_zipIdx_iff_getElem?]
  constructor
  · rintro ⟨o, i, ⟨h1, h2⟩, rfl⟩; exact ⟨o, h1, h2⟩
  · rintro ⟨o, h1, h2⟩; exact ⟨o, e, ⟨h1, h2⟩, rfl⟩
theorem temps_spec {l : List Op1} {b : List Nat} (h : tempsOk l b = true) {i j d : Nat} {o p : Op1} (hi : l[i]? = some o) (hd : o.dst.tm = some d) (hj : l[j]? = some p) (hn : d ∈ temps1 p) (hij : i ≠ j) :
    (i < j ∧ bef b i j = true) ∨ (j < i ∧ bef b j i = true) := by
  unfold tempsOk at h
  rw [List.all_eq_true] at h
  have h1 := h (o, i) (by rw [List.mem_zipIdx_iff_getElem?]; exact hi)
  simp only [hd] at h1
  rw [List.all_eq_true] at h1
  have h2 := h1 (p, j) (by rw [List.mem_zipIdx_iff_getElem?]; exact hj)
  simp only [beq_nat, Bool.or_eq_true, decide_eq_true_eq, Bool.not_eq_true', List.contains_eq_mem, decide_eq_false_iff_not] at h2
  rcases h2 with (h2 | h2) | h2
  · exact absurd h2 hij
  · exact absurd hn h2
  · rw [blt_nat] at h2
    by_cases hlt : i < j
    · simp only [hlt, decide_true, cond_true] at h2
      exact .inl ⟨hlt, h2⟩
    · simp only [hlt, decide_false, cond_false] at h2
      exact .inr ⟨by omega, h2⟩
theorem eff_spec {l : List Op1} {b : List Nat} (h : effOk l b = true) {i j : Nat} {o p : Op1} (hi : l[i]? = some o) (ho : isE o = true) (hj : l[j]? = some p) (hp : isE p = true) (hij : i < j) : bef b i j = true := by
  unfold effOk at h
  rw [List.all_eq_true] at h
  have h1 := h (o, i) (by rw [List.mem_zipIdx_iff_getElem?]; exact hi)
  simp only [ho, Bool.not_true, Bool.false_or] at h1
  rw [List.all_eq_true] at h1
  have h2 := h1 (p, j) (by rw [List.mem_zipIdx_iff_getElem?]; exact hj)
  simpa [hp, blt_nat, hij] using h2
theorem chk_mem {l : List Op1} {b : List Nat} {r p : Nat} {o : Op1} (hr : l[r]? = some o) (hm : o.op.mem = true) (hp : p = 0 ∨ ∃ e, e ∈ effs l ∧ p = e + 1) (hf : feas (effs l) b r p = true) (hw : ownW (effs l) r p = false) : (r, p) ∈ chkOf l b := by
  unfold chkOf
  simp only [List.mem_flatten, List.mem_map]
  refine ⟨_, ⟨(o, r), by rw [List.mem_zipIdx_iff_getElem?]; exact hr, rfl⟩, ?_⟩
  simp only [hm, cond_true, List.mem_map, List.mem_filter]
  refine ⟨p, ⟨?_, by simp [hf, hw]⟩, rfl⟩
  rcases hp with rfl | ⟨e, he, rfl⟩
  · simp
  · exact List.mem_cons_of_mem _ (List.mem_map.2 ⟨e, he, rfl⟩)

/-! ### operands, by the temporaries that they name -/
theorem opT_tm (ps t : Nat) : (opT ps t).tm = some t := by
  unfold opT
  cases per ps t <;> rfl
theorem dstT_tm (ps : Nat) (d : Option Tmp) : (dstT ps d).tm = d := by
  cases d with
  | none => rfl
  | some d => simp only [dstT]; cases per ps d <;> rfl
theorem opd_on {β : Bt} {ps nt : Nat} {T : Tm} {a : Act} {x : Operand} {y : Opd} (hc : compOpd ps nt x = some y) (h : ∀ t, y.tm = some t → t < nt → VR β (T.at ps t) (a.tmps.getD t undef)) : VR β (y.ev T) (a.eval x) := by
  cases x with
  | tmp t =>
    simp only [compOpd, blt_nat] at hc
    by_cases ht : t < nt
    · simp only [ht, decide_true, cond_true, Option.some.injEq] at hc
      subst hc
      exact h t (opT_tm ps t) ht
    · simp [ht] at hc
  | const v =>
    simp only [compOpd, Option.map_eq_some_iff] at hc
    obtain ⟨u, hu, rfl⟩ := hc
    exact toAV_VR hu
  | global g => cases hc
  | func f => cases hc; exact .fn f .nil .nil
theorem opds_on {β : Bt} {ps nt : Nat} {T : Tm} {a : Act} : ∀ {xs : List Operand} {ys : List Opd}, mapO (compOpd ps nt) xs = some ys → (∀ t, t ∈ ys.filterMap Opd.tm → t < nt → VR β (T.at ps t) (a.tmps.getD t undef)) → VRs β (evs T ys) (xs.map a.eval)
  | [], ys, hc, h => by simp [mapO] at hc; subst hc; exact .nil
  | x :: xs, ys, hc, h => by
    unfold mapO at hc
    split at hc
    · rename_i y hy
      rw [Option.map_eq_some_iff] at hc
      obtain ⟨zs, hz, rfl⟩ := hc
      refine .cons (opd_on hy fun t ht => h t ?_) (opds_on hz fun t ht => h t ?_)
      · rw [List.mem_filterMap]; exact ⟨y, by simp, ht⟩
      · rw [List.mem_filterMap] at ht ⊢
        obtain ⟨z, h1, h2⟩ := ht
        exact ⟨z, by simp [h1], h2⟩
    · cases hc
theorem wants_on {β : Bt} {ps nt : Nat} {T : Tm} {a : Act} (hsz : nt ≤ a.tmps.size) {ops : Array Oper} {o : Oper} {gd : Option (Opd × Bool)} (hc : compGuard ps ops nt o.guard = some gd)
    (h : ∀ t, gd.bind (·.1.tm) = some t → t < nt → VR β (T.at ps t) (a.tmps.getD t undef)) {r : Bool} (hw : wants T gd = some r) : Region.wanted o (yielded ops a.tmps) = r := by
  unfold compGuard at hc
  split at hc
  · rename_i hg
    cases hc
    cases hw
    simp [Region.wanted, hg]
  · rename_i j w hg
    split at hc
    · rename_i t ht
      rw [blt_nat] at hc
      by_cases hlt : t < nt
      · simp only [hlt, decide_true, cond_true, Option.some.injEq] at hc
        subst hc
        have h1 := h t (opT_tm ps t) hlt
        simp only [wants] at hw
        have hsz : t < a.tmps.size := Nat.lt_of_lt_of_le hlt hsz
        have hget : a.tmps[t]? = some (a.tmps.getD t undef) := by
          rw [Array.getD_eq_getD_getElem?, Array.getElem?_eq_getElem hsz]; rfl
        have hy : yielded ops a.tmps j = match a.tmps.getD t undef with | .bool b => some b | _ => none := by
          simp only [yielded, ht, Option.bind_some, hget]
          cases a.tmps.getD t undef <;> rfl
        have h1' : VR β ((opT ps t).ev T) (a.tmps.getD t undef) := h1
        clear h1
        generalize a.tmps.getD t undef = y at h1' hy
        simp only [Region.wanted, hg, hy]
        generalize (opT ps t).ev T = x at h1' hw
        cases h1' <;> first | (cases hw; done) | (simp only [Option.some.injEq] at hw; subst hw; simp; done) | (simp only [Option.some.injEq] at hw; subst hw; rfl)
      · simp [hlt] at hc
    · cases hc

theorem same1_VR {β : Bt} {x y : AV} (h : same1 x y = true) {v : Value} (hv : VR β y v) : VR β x v := by
  unfold same1 at h
  split at h
  · rw [bytesEq_eq, beq_iff_eq] at h
    rw [h]; exact hv
  · exact hv
  · exact hv
  · cases hv
  · rw [beq_iff_eq] at h
    rw [h]; exact hv
  · simp only [Bool.and_eq_true, kEq_iff, iEq_eq, beq_iff_eq] at h
    rw [h.1, h.2]; exact hv
  · exact hv
  · simp only [Bool.and_eq_true, beq_nat, decide_eq_true_eq] at h
    rw [h.1, h.2]; exact hv
  · simp only [Bool.and_eq_true, beq_nat, decide_eq_true_eq] at h
    rw [h.1.1, h.1.2, h.2]; exact hv
  · simp only [Bool.and_eq_true, beq_nat, decide_eq_true_eq] at h
    rw [h.1.1.1.1, h.1.1.1.2, h.1.1.2, h.1.2, h.2]; exact hv
  · exact hv
  · simp only [beq_nat, decide_eq_true_eq] at h
    rw [h]; exact hv
  · cases h
theorem sameL_VR {β : Bt} : ∀ {x y : List AV} {v : List Value}, sameL x y = true → VRs β y v → VRs β x v
  | [], [], v, _, hv => hv
  | a :: r, b :: q, v, h, hv => by
    simp only [sameL, Bool.and_eq_true] at h
    cases hv with
    | cons h1 h2 => exact .cons (same1_VR h.1 h1) (sameL_VR h.2 h2)
  | [], _ :: _, v, h, _ => by cases h
  | _ :: _, [], v, h, _ => by cases h
theorem sameV_VR {β : Bt} {x y : AV} (h : sameV x y = true) {v : Value} (hv : VR β y v) : VR β x v := by
  unfold sameV at h
  split at h
  · cases hv with
    | agg h1 => exact .agg (sameL_VR h h1)
  · exact same1_VR h hv

/-- what an operation that looks at no memory says does not depend on it -/
theorem semR_mem {o : AOp} (h : o.mem = false) (h1 h2 : PM AB) (vs : List AV) : semR o h1 vs = semR o h2 vs := by
  cases o <;> simp only [AOp.mem, Bool.true_eq_false] at h <;> try rfl
  rename_i ng k
  cases k <;> first | rfl | (simp only [AOp.mem, Bool.true_eq_false] at h; done) | skip
  all_goals
    simp only [semR]
    unfold rEq
    split
    · unfold eqV
      split <;> first | rfl | contradiction
    · rfl
end Go.AM
