/- clear, copy; all operations that change memory; calls; one operation of a region. -/
import Derived.Test.YtjmnmaaipcbmnaaGreatAmL
set_option linter.unusedVariables false
set_option linter.unusedSimpArgs false
namespace Go.AM
open Go.RowKit (Below)

section
variable {P : Program} {β : Bt} {B0 : Nat} {S : St} {w : World} (ρ : Operand → Value)

theorem e_clr (hR : Rel β B0 S.h w) {t e ty : TypeId} {z : List AV} (ht : P.underlying t = some (.slice e)) (hz : zcells P e = some z) {vs : List AV} {x : Value} (hv : VRs β vs [x]) {call : Cll} {v : AV} {S' : St} (hs : eClr z call S vs = some (v, S')) :
    v = .bad ∧ ∃ w' r, (Builtin.clear_ #[t] ty #[x]).run P w = .ok r w' ∧ Stp B0 β S w β S' w' := by
  obtain ⟨p, rfl, hp⟩ := vrs1 hv
  unfold eClr at hs
  split at hs
  · rename_i a n cap ex he
    cases he
    rw [beq_nat] at hs
    by_cases hn : n = 0
    · subst hn
      simp only [decide_true, cond_true] at hs
      cases hs
      refine ⟨rfl, w, .tuple #[], ?_, Stp.refl hR⟩
      cases hp with
      | sln => simp [Builtin.clear_, run_underlying ht]
      | sl => simp [Builtin.clear_, run_underlying ht]
    · simp only [hn, decide_false, cond_false] at hs
      cases hp with
      | sln => exact absurd rfl hn
      | sl hb hl hc he hzz ha =>
        rename_i r k b o zz c' off
        simp only at hs
        cases hw : wrCells S.h (r, k) (reps z n) with
        | none => rw [hw] at hs; cases hs
        | some h' =>
          rw [hw] at hs
          cases hs
          obtain ⟨ti, zv, hi, hzv, hzr, hlen, h1⟩ := zcells_spec hz
          have hzs : zv.cells.size = ti.size := by have := (hzr β).length; simp at this; omega
          have hvr : VRs β (reps z n) (Builtin.zeroCells zv.cells n).toList := zeros_VRs (hzr β) n _ rfl
          obtain ⟨w', h2, h3⟩ := wr_cells (P := P) hR hw hb hvr
          have hoff : off = o + k := by rcases ha with h | h <;> omega
          subst hoff
          refine ⟨rfl, w', .tuple #[], ?_, h3⟩
          obtain ⟨m, rfl⟩ : ∃ m, n = m + 1 := ⟨n - 1, by omega⟩
          simp only at h2
          simp [Builtin.clear_, run_underlying ht, zero_run hi hzv, h2]
  · cases hs
theorem e_cpy (hR : Rel β B0 S.h w) {t u e ty : TypeId} {size : Nat} (ht : P.underlying t = some (.slice e)) (hsz : tsize P e = some size) {vs : List AV} {d x : Value} (hv : VRs β vs [d, x]) {call : Cll} {v : AV} {S' : St} (hs : eCpy size call S vs = some (v, S')) :
    ∃ v' w', (Builtin.copy_ #[t, u] ty #[d, x]).run P w = .ok v' w' ∧ VR β v v' ∧ Stp B0 β S w β S' w' := by
  obtain ⟨p, q, rfl, hp, hq⟩ := vrs2 hv
  unfold eCpy at hs
  split at hs
  · rename_i a dl dc de b sl sc se he
    cases he
    cases hvs : rdCells S.h b (Nat.min sl dl * size) with
    | none => rw [hvs] at hs; cases hs
    | some vs =>
      rw [hvs] at hs
      simp only at hs
      have hle1 : Nat.min sl dl ≤ sl := Nat.min_le_left sl dl
      obtain ⟨l', h1, h2, h3⟩ := first_cells (P := P) (n := Nat.min sl dl) hR hq hle1 hvs
      have hf := h3 w fun _ => rfl
      have hlx : (Builtin.lenOf x).run P w = .ok sl w := by cases hq <;> simp [Builtin.lenOf]
      rw [beq_nat] at hs
      by_cases hn : Nat.min sl dl = 0
      · simp only [hn, decide_true, cond_true] at hs
        cases hs
        have : l' = [] := List.eq_nil_of_length_eq_zero (by rw [h2, hn]; simp)
        subst this
        rw [hn] at hf
        have hmin : min sl dl = 0 := hn
        cases hp with
        | sln => exact ⟨.int .i64 0, w, by simp [Builtin.copy_, run_underlying ht, hlx, sizeOf_run hsz, hf, goInt, hmin], .i _ _, Stp.refl hR⟩
        | sl => exact ⟨.int .i64 0, w, by simp [Builtin.copy_, run_underlying ht, hlx, sizeOf_run hsz, hf, goInt, hmin, storeCells], .i _ _, Stp.refl hR⟩
      · simp only [hn, decide_false, cond_false] at hs
        cases hp with
        | sln => exact absurd (Nat.min_eq_right (Nat.zero_le _)) hn
        | sl hb hl hc he hzz ha =>
          rename_i r k bb o zz c' off
          simp only at hs
          cases hw : wrCells S.h (r, k) vs with
          | none => rw [hw] at hs; cases hs
          | some h' =>
            rw [hw] at hs
            cases hs
            obtain ⟨w', h4, h5⟩ := wr_cells (P := P) hR hw hb h1
            have hmd : Nat.min sl dl ≤ dl := Nat.min_le_right sl dl
            have hoff : off = o + k := by rcases ha with h | h <;> omega
            subst hoff
            refine ⟨.int .i64 (Nat.min sl dl : Nat), w', ?_, .i _ _, h5⟩
            simp only at h4
            have hmin : min sl dl = Nat.min sl dl := rfl
            simp [Builtin.copy_, run_underlying ht, hlx, sizeOf_run hsz, hf, goInt, h4]
  · cases hs

/-- what came of an operation that is no call -/
def Plain (P : Program) (ρ : Operand → Value) (o : Oper) (B0 : Nat) (β : Bt) (S : St) (w : World) (v : AV) (S' : St) : Prop :=
  ∃ w' γ, Stp B0 β S w γ S' w' ∧ ((∃ v', (execOp ρ o).run P w = .ok (.value v') w' ∧ VR γ v v') ∨ ((execOp ρ o).run P w = .ok .skip w' ∧ v = .bad))

theorem builtin_run {o : Oper} {args : Array Operand} {argTypes : Array TypeId} {b : Builtin} (ho : o.op = .call { callee := .builtin b, args := args, argTypes := argTypes }) (s : Sem Value)
    (h1 : ∀ consts, builtin b argTypes o.type consts (args.map ρ) = (do pure (.value (← s)))) : execOp ρ o = (do pure (.value (← s))) := by
  simp only [execOp, ho, resolve, pure_bind, invoke]
  exact h1 _
theorem two_args {args : Array Operand} {vs : List AV} {a b : AV} (hv : VRs β vs (args.toList.map ρ)) (e : vs = [a, b]) : ∃ x y, args.map ρ = #[x, y] ∧ VRs β vs [x, y] := by
  subst e
  have h0 : (args.map ρ).toList = args.toList.map ρ := by simp
  rw [← h0] at hv
  generalize hA : args.map ρ = A at hv ⊢
  generalize hl : A.toList = l at hv
  cases hv with
  | cons h1 t => cases t with
    | cons h2 t => cases t; exact ⟨_, _, by apply Array.ext'; exact hl, .cons h1 (.cons h2 .nil)⟩
theorem one_args {args : Array Operand} {vs : List AV} {a : AV} (hv : VRs β vs (args.toList.map ρ)) (e : vs = [a]) : ∃ x, args.map ρ = #[x] ∧ VRs β vs [x] := by
  subst e
  have h0 : (args.map ρ).toList = args.toList.map ρ := by simp
  rw [← h0] at hv
  generalize hA : args.map ρ = A at hv ⊢
  generalize hl : A.toList = l at hv
  cases hv with
  | cons h1 t => cases t; exact ⟨_, by apply Array.ext'; exact hl, .cons h1 .nil⟩

def AOp.isCall : AOp → Bool
  | .call _ | .callv => true
  | _ => false

theorem E_plain (hR : Rel β B0 S.h w) {o : Oper} {op : AOp} {xs : List Operand} (hc : compOp P o = some (op, xs)) (hn : op.isCall = false) {vs : List AV} (hv : VRs β vs (xs.map ρ)) {call : Cll} {v : AV} {S' : St}
    (hs : semE op call S vs = some (v, S')) (hfree : Free β S.nx S'.nx) : Plain P ρ o B0 β S w v S' := by
  have none_ : ∀ {p}, semE op = eNone → semE op call S vs = some p → False := fun h0 h1 => by rw [h0] at h1; cases h1
  unfold compOp at hc
  split at hc
  · cases hc; exact (none_ rfl hs).elim
  · cases hc; exact (none_ rfl hs).elim
  · cases hc; exact (none_ rfl hs).elim
  · rename_i e _
    cases hq : zcells P e <;> rw [hq] at hc <;> cases hc; exact (none_ rfl hs).elim
  · cases hc; exact (none_ rfl hs).elim
  · split at hc <;> cases hc; exact (none_ rfl hs).elim
  · rename_i t len parts ho
    split at hc
    · split at hc
      · rename_i s z _ _
        cases hq : Nat.ble (len * s) 16777216 <;> rw [hq] at hc <;> cases hc
        exact (none_ rfl hs).elim
      · cases hc
    · cases hc
  · rename_i t a ho
    cases hq : tshape P t <;> rw [hq] at hc <;> cases hc; exact (none_ rfl hs).elim
  · -- store
    rename_i t a x ho
    cases hsz : tsize P t with
    | none => rw [hsz] at hc; cases hc
    | some sz =>
      rw [hsz] at hc; cases hc
      obtain ⟨rfl, w', h1, h2⟩ := e_st (P := P) (call := call) hR hsz hv hs
      refine ⟨w', β, h2, .inr ⟨?_, rfl⟩⟩
      have : execOp ρ o = (do Instr.storeAt t (ρ a) (ρ x); pure .skip) := by simp only [execOp, ho]
      rw [this]
      exact run_unit h1
  · cases hc; exact (none_ rfl hs).elim
  · rename_i bo t x y yt ho
    split at hc
    · cases hc; exact (none_ rfl hs).elim
    · cases hc; exact (none_ rfl hs).elim
    · cases hq : isEq bo <;> rw [hq] at hc
      · cases hc
      · cases hce : compEq P (isNeq bo) t with
        | none => rw [hce] at hc; cases hc
        | some a =>
          rw [hce] at hc
          cases hc
          obtain ⟨k, rfl⟩ := compEq_eq hce
          exact (none_ rfl hs).elim
  · cases hc; exact (none_ rfl hs).elim
  · split at hc
    · cases hc; exact (none_ rfl hs).elim
    · cases hc; exact (none_ rfl hs).elim
    · split at hc <;> cases hc <;> exact (none_ rfl hs).elim
    · cases hc
  · split at hc <;> cases hc <;> exact (none_ rfl hs).elim
  · cases hc; exact (none_ rfl hs).elim
  · cases hc; exact (none_ rfl hs).elim
  · split at hc
    · split at hc
      · rename_i n _ _
        cases hq : Nat.beq n 0 <;> rw [hq] at hc <;> cases hc
        exact (none_ rfl hs).elim
      · cases hc
    · cases hc
  · rename_i t x lo hi mx ho
    split at hc
    · rename_i e hu
      cases hq : (mx.isSome && hi.isNone) <;> rw [hq] at hc
      · cases hsz : tsize P e <;> rw [hsz] at hc <;> cases hc; exact (none_ rfl hs).elim
      · cases hc
    · cases hq : mx.isNone <;> rw [hq] at hc <;> cases hc; exact (none_ rfl hs).elim
    · cases hc
  · split at hc
    · split at hc
      · split at hc
        · rename_i s _
          cases hq : Nat.beq s 0 <;> rw [hq] at hc <;> cases hc; exact (none_ rfl hs).elim
        · cases hc
      · cases hc
    · cases hc
  · split at hc
    · split at hc
      · rename_i g _
        cases hq : tshape P g.type <;> rw [hq] at hc <;> cases hc; exact (none_ rfl hs).elim
      · cases hc
    · cases hc
  · split at hc
    · rename_i e _
      cases hq : tsize P e <;> rw [hq] at hc <;> cases hc; exact (none_ rfl hs).elim
    · rename_i n e _
      cases hq : tsize P e <;> rw [hq] at hc <;> cases hc; exact (none_ rfl hs).elim
    · cases hc
  · split at hc
    · split at hc <;> cases hc; exact (none_ rfl hs).elim
    · cases hc; exact (none_ rfl hs).elim
    · cases hc
  · split at hc
    · rename_i k e _
      cases hq : isIntT P k <;> rw [hq] at hc
      · cases hc
      · cases hz : zval P e <;> rw [hz] at hc <;> cases hc; exact (none_ rfl hs).elim
    · cases hc
  · -- mapUpdate
    rename_i t m k x ho
    split at hc
    · rename_i kt e hu
      cases hq : isIntT P kt <;> rw [hq] at hc <;> cases hc
      obtain ⟨rfl, w', h1, h2⟩ := e_mset (P := P) (call := call) hR hu hq hv hs
      refine ⟨w', β, h2, .inr ⟨?_, rfl⟩⟩
      have : execOp ρ o = (do Instr.mapUpdate t (ρ m) (ρ k) (ρ x); pure .skip) := by simp only [execOp, ho]
      rw [this]
      exact run_unit h1
    · cases hc
  · cases hc; exact (none_ rfl hs).elim
  · rename_i c ho
    split at hc
    · rename_i b hb
      obtain ⟨callee, args, argTypes⟩ := c
      simp only at hb hc
      subst hb
      have hts : ∀ l, argTypes.toList = l → argTypes = l.toArray := fun l hl => by rw [← hl]
      unfold compBuiltin at hc
      split at hc
      · split at hc <;> cases hc <;> exact (none_ rfl hs).elim
      · split at hc <;> cases hc <;> exact (none_ rfl hs).elim
      · cases hc; exact (none_ rfl hs).elim
      · cases hc; exact (none_ rfl hs).elim
      · -- append
        rename_i t u htl
        have ht := hts _ htl
        subst ht
        split at hc
        · rename_i e e' hu1 hu2
          split at hc
          · rename_i s by' zz hsz hby hz
            cases hq : (Nat.beq s 0 || Nat.beq by' 0) <;> rw [hq] at hc <;> cases hc
            simp only [Bool.or_eq_false_iff, beq_nat, decide_eq_false_iff_not] at hq
            obtain ⟨ti, zv, hi, hzv, hzr, hlen, h1⟩ := zcells_spec hz
            have hs1 : s = ti.size := by simp [tsize, hi] at hsz; exact hsz.symm
            have hs2 : by' = ti.bytes := by simp [tbytes, hi] at hby; exact hby.symm
            subst hs1; subst hs2
            have hzs : zv.cells.size = ti.size := by have := (hzr β).length; simp at this; omega
            have hvs : ∃ a b, vs = [a, b] := by
              simp only [semE] at hs
              unfold eApp at hs
              split at hs
              · exact ⟨_, _, rfl⟩
              · cases hs
            obtain ⟨a, b, hab⟩ := hvs
            obtain ⟨x, y, hxy, hv2⟩ := two_args ρ hv hab
            obtain ⟨γ, v', w', h2, h3, h4⟩ := e_app (P := P) (call := call) (ty := o.type) hR hu1 hu2 hi hzv hzs hq.1 hq.2 hv2 hs hfree
            refine ⟨w', γ, h4, .inl ⟨v', ?_, h3⟩⟩
            rw [builtin_run ρ ho (Builtin.append_ #[t, u] o.type #[x, y]) (fun _ => by rw [hxy]; rfl)]
            exact run_value h2
          · cases hc
        · cases hc
      · -- clear
        rename_i t htl
        have ht := hts _ htl
        subst ht
        split at hc
        · rename_i e hu1
          split at hc
          · rename_i z hz
            cases hc
            have hvs : ∃ a, vs = [a] := by
              simp only [semE] at hs
              unfold eClr at hs
              split at hs
              · exact ⟨_, rfl⟩
              · cases hs
            obtain ⟨a, ha⟩ := hvs
            obtain ⟨x, hx, hv2⟩ := one_args ρ hv ha
            obtain ⟨rfl, w', r, h2, h4⟩ := e_clr (P := P) (call := call) (ty := o.type) hR hu1 hz hv2 hs
            refine ⟨w', β, h4, .inl ⟨r, ?_, .bad _⟩⟩
            rw [builtin_run ρ ho (Builtin.clear_ #[t] o.type #[x]) (fun _ => by rw [hx]; rfl)]
            exact run_value h2
          · cases hc
        · cases hc
      · -- copy
        rename_i t u htl
        have ht := hts _ htl
        subst ht
        split at hc
        · rename_i e e' hu1 hu2
          split at hc
          · rename_i s hsz
            cases hc
            have hvs : ∃ a b, vs = [a, b] := by
              simp only [semE] at hs
              unfold eCpy at hs
              split at hs
              · exact ⟨_, _, rfl⟩
              · cases hs
            obtain ⟨a, b, hab⟩ := hvs
            obtain ⟨x, y, hxy, hv2⟩ := two_args ρ hv hab
            obtain ⟨v', w', h2, h3, h4⟩ := e_cpy (P := P) (call := call) (u := u) (ty := o.type) hR hu1 hsz hv2 hs
            refine ⟨w', β, h4, .inl ⟨v', ?_, h3⟩⟩
            rw [builtin_run ρ ho (Builtin.copy_ #[t, u] o.type #[x, y]) (fun _ => by rw [hxy]; rfl)]
            exact run_value h2
          · cases hc
        · cases hc
      · -- delete
        rename_i t u htl
        have ht := hts _ htl
        subst ht
        split at hc
        · rename_i k e hu1
          cases hq : isIntT P k <;> rw [hq] at hc <;> cases hc
          have hvs : ∃ a b, vs = [a, b] := by
            simp only [semE] at hs
            unfold eMdel at hs
            split at hs
            · exact ⟨_, _, rfl⟩
            · exact ⟨_, _, rfl⟩
            · cases hs
          obtain ⟨a, b, hab⟩ := hvs
          obtain ⟨x, y, hxy, hv2⟩ := two_args ρ hv hab
          obtain ⟨rfl, w', r, h2, h4⟩ := e_mdel (P := P) (call := call) (u := u) (ty := o.type) hR hu1 hq hv2 hs
          refine ⟨w', β, h4, .inl ⟨r, ?_, .bad _⟩⟩
          rw [builtin_run ρ ho (Builtin.delete_ #[t, u] o.type #[x, y]) (fun _ => by rw [hxy]; rfl)]
          exact run_value h2
        · cases hc
      · cases hc
    · cases hc; cases hn
    · rename_i x _ _
      cases hq : isTmp x <;> rw [hq] at hc <;> cases hc; cases hn
    · cases hc
  · cases hc

/-! ### calls -/
/-- names in use are used up -/
def St.wf (S : St) : Prop := ∀ n bl, S.h.get n = some bl → n < S.nx
/-- What a call of the abstract machine says of the model's. -/
def CallOk (P : Program) (B0 : Nat) (call : Cll) : Prop :=
  ∀ f vs S v S', call f vs S = some (v, S') → (∃ fn, P.funcs[f]? = some fn ∧ fn.body.isSome = true ∧ (fn.name == "runtime.NumGoroutine") = false) ∧
    ∀ β w (as : Array Value), S.wf → VRs β vs as.toList → Rel β B0 S.h w → Free β S.nx S'.nx →
      Calls P f as w fun e w' => ∃ γ v', e = .returned v' ∧ VR γ v v' ∧ Stp B0 β S w γ S' w'

theorem callFunc_run {f : FuncId} {fn : Func} (hf : P.funcs[f]? = some fn) (hb : fn.body.isSome = true) (hn : (fn.name == "runtime.NumGoroutine") = false) (as : Array Value) : (callFunc f as).run P w = .ok (.enter f as) w := by
  have hb' : fn.body.isNone = false := by cases h : fn.body <;> simp [h] at hb ⊢
  have hn' : fn.name ≠ "runtime.NumGoroutine" := by simpa using hn
  have hb2 : fn.body ≠ none := fun e => by rw [e] at hb; cases hb
  simp [callFunc, hf, hn', hb2]

theorem call_enters {o : Oper} {c : Call} (ho : o.op = .call c) {f : FuncId} (hc : c.callee = .value (.func f)) (hρ : ρ (.func f) = .func (.func f) #[] #[]) {fn : Func} (hf : P.funcs[f]? = some fn) (hb : fn.body.isSome = true)
    (hn : (fn.name == "runtime.NumGoroutine") = false) : (execOp ρ o).run P w = .ok (.enter f (c.args.map ρ)) w := by
  have h1 : execOp ρ o = (do let d ← resolve ρ c o.type; invoke d.target d.args) := by simp only [execOp, ho]
  have h2 : resolve ρ c o.type = pure { target := .fn (.func f) #[], args := c.args.map ρ } := by
    simp only [resolve, hc, hρ, Deferred.ofValue, Array.empty_append]
  rw [h1, h2]
  simp only [pure_bind, invoke, Array.append_empty]
  exact callFunc_run hf hb hn _
theorem callv_enters {o : Oper} {c : Call} (ho : o.op = .call c) {x : Operand} (hc : c.callee = .value x) {f : FuncId} {fst cap : Array Value} (hρ : ρ x = .func (.func f) fst cap) {fn : Func} (hf : P.funcs[f]? = some fn) (hb : fn.body.isSome = true)
    (hn : (fn.name == "runtime.NumGoroutine") = false) : (execOp ρ o).run P w = .ok (.enter f (fst ++ c.args.map ρ ++ cap)) w := by
  have h1 : execOp ρ o = (do let d ← resolve ρ c o.type; invoke d.target d.args) := by simp only [execOp, ho]
  have h2 : resolve ρ c o.type = pure { target := .fn (.func f) cap, args := fst ++ c.args.map ρ } := by
    simp only [resolve, hc, hρ, Deferred.ofValue]
  rw [h1, h2]
  simp only [pure_bind, invoke]
  exact callFunc_run hf hb hn _

theorem eCallv_some {call : Cll} {S : St} {l : List AV} {p : AV × St} (h : eCallv call S l = some p) : ∃ f fst cap us, l = .fn f fst cap :: us ∧ call f (fst ++ us ++ cap) S = some p := by
  cases l with
  | nil => cases h
  | cons x us => cases x with
    | fn f fst cap => exact ⟨f, fst, cap, us, rfl, h⟩
    | _ => cases h

/-- One operation: the model's weakest precondition. -/
theorem op_sound {a : Act} (hwf : S.wf) (hR : Rel β B0 S.h w) {o : Oper} {op : AOp} {xs : List Operand} (hc : compOp P o = some (op, xs)) {vs : List AV} (hv : VRs β vs (xs.map a.eval)) {call : Cll} (hcall : CallOk P B0 call) {v : AV} {S' : St}
    (hs : semOp op call S vs = some (v, S')) (hfree : Free β S.nx S'.nx) {next : Act → World → Prop} {Q : Exit → Act → World → Prop}
    (h : ∀ γ v' w', VR γ v v' → Stp B0 β S w γ S' w' → next (a.put o.dst v') w') : o.wp P a w next Q := by
  unfold Oper.wp
  have hs0 := hs
  cases hcl : op.cl
  · -- R
    simp only [semOp, hcl, opR] at hs
    cases hr : semR op S.h vs with
    | none => rw [hr] at hs; cases hs
    | some u =>
      rw [hr] at hs
      cases hs
      obtain ⟨v', h1, h2⟩ := R_sound a.eval hR hc hv hr
      rw [h1, Oper.upon_value]
      exact h β v' w h2 (Stp.refl hR)
  · -- A
    simp only [semOp, hcl, opA] at hs
    cases hr : semA op S.nx vs with
    | none => rw [hr] at hs; cases hs
    | some p =>
      obtain ⟨blk, u⟩ := p
      rw [hr] at hs
      cases hs
      obtain ⟨x, v', z, h1, h2, h3⟩ := A_sound (P := P) (w := w) a.eval hc hv hr hR.le
      rw [h1, Oper.upon_value]
      have hf0 : β S.nx = none := hfree S.nx (Nat.le_refl _) (Nat.lt_succ_self _)
      obtain ⟨h4, h5⟩ := h3 _ (upd_ext hf0) (upd_same β S.nx (w.heap.size, 0, z))
      exact h _ v' _ h4 (stp_new (x := x) hR hf0 h2 rfl rfl rfl rfl h5)
  · -- E
    simp only [semOp, hcl] at hs
    cases hic : op.isCall with
    | false =>
      obtain ⟨w', γ, h1, ⟨v', h2, h3⟩ | ⟨h2, rfl⟩⟩ := E_plain a.eval hR hc hic hv hs hfree
      · rw [h2, Oper.upon_value]; exact h γ v' w' h3 h1
      · rw [h2, Oper.upon_skip]; exact h γ undef w' (.bad _) h1
    | true =>
      have key : ∀ {c : Call} {f : FuncId} {as : Array Value} {us : List AV}, o.op = .call c → call f us S = some (v, S') → VRs β us as.toList → (∀ fn, P.funcs[f]? = some fn → fn.body.isSome = true → (fn.name == "runtime.NumGoroutine") = false → (execOp a.eval o).run P w = .ok (.enter f as) w) →
          o.upon P a next Q ((execOp a.eval o).run P w) := by
        intro c f as us ho hcl hvs hen
        obtain ⟨⟨fn, hf, hb, hn⟩, hk⟩ := hcall f us S v S' hcl
        rw [hen fn hf hb hn, Oper.upon_enter]
        refine (hk β w as hwf hvs hR hfree).mono ?_
        rintro e w' ⟨γ, v', rfl, h1, h2⟩
        exact h γ v' w' h1 h2
      have no : ∀ {q : AOp}, q.isCall = false → op = q → False := fun h1 h2 => by rw [h2, h1] at hic; cases hic
      have hcall' : ∃ c, o.op = .call c := by
        cases ho : o.op with
        | call c => exact ⟨c, rfl⟩
        | _ =>
          exfalso
          simp only [compOp, ho] at hc
          repeat' split at hc
          all_goals first
            | contradiction
            | (cases hc; simp only [AOp.isCall, Bool.false_eq_true] at hic; done)
            | (cases hc; done)
            | (rw [Option.map_eq_some_iff] at hc; obtain ⟨_, _, h1⟩ := hc; cases h1; simp only [AOp.isCall, Bool.false_eq_true] at hic; done)
            | (rw [cond_eq_ite] at hc; split at hc
               · first | (cases hc; done) | (cases hc; simp only [AOp.isCall, Bool.false_eq_true] at hic; done) | (rw [Option.map_eq_some_iff] at hc; obtain ⟨_, h0, h1⟩ := hc; cases h1; first | (simp only [AOp.isCall, Bool.false_eq_true] at hic; done) | (obtain ⟨k, rfl⟩ := compEq_eq h0; simp only [AOp.isCall, Bool.false_eq_true] at hic; done))
               · first | (cases hc; done) | (cases hc; simp only [AOp.isCall, Bool.false_eq_true] at hic; done) | (rw [Option.map_eq_some_iff] at hc; obtain ⟨_, h0, h1⟩ := hc; cases h1; first | (simp only [AOp.isCall, Bool.false_eq_true] at hic; done) | (obtain ⟨k, rfl⟩ := compEq_eq h0; simp only [AOp.isCall, Bool.false_eq_true] at hic; done)))
      obtain ⟨c, ho⟩ := hcall'
      simp only [compOp, ho] at hc
      split at hc
      · rename_i b hb
        exfalso
        unfold compBuiltin at hc
        repeat' split at hc
        all_goals first
          | (cases hc; simp only [AOp.isCall, Bool.false_eq_true] at hic; done)
          | (cases hc; done)
          | (rw [cond_eq_ite] at hc; split at hc <;> cases hc; simp only [AOp.isCall, Bool.false_eq_true] at hic; done)
      · rename_i f hf
        cases hc
        have hvs : VRs β vs (c.args.map a.eval).toList := by simpa using hv
        exact key ho hs hvs fun fn h1 h2 h3 => call_enters a.eval ho hf rfl h1 h2 h3
      · rename_i x _ hx
        cases hq : isTmp x <;> rw [hq] at hc <;> cases hc
        simp only [semE] at hs
        obtain ⟨f, fst, cap, vs0, rfl, hs⟩ := eCallv_some hs
        simp only [List.map_cons] at hv
        generalize hxe : a.eval x = xe at hv
        cases hv with
        | cons hv1 hv2 =>
          cases hv1 with
          | fn _ hf1 hf2 =>
            rename_i fs' cs'
            have hvs : VRs β (fst ++ vs0 ++ cap) (fs' ++ c.args.map a.eval ++ cs').toList := by
              simp only [Array.toList_append, Array.toList_map]
              exact (hf1.append hv2).append hf2
            exact key ho hs hvs fun fn h1 h2 h3 => callv_enters a.eval ho hx hxe h1 h2 h3
      · cases hc
end
end Go.AM
