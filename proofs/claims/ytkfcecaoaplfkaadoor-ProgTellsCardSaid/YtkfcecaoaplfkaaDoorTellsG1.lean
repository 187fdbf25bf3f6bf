/- The texts AmM, AmN, AmO, AmP, AmQ, AmR, AmS, LgA, LgB, LgC, LgD, GenA, GenB, GenD, GenF of a proof of ProgTells, merged. -/
import Derived.Test.YtkfcecaoaplfkaaDoorTellsG0
import Derived.LoopN
import Derived.KernelRfl
/- clear, copy; all operations that change memory; calls; one operation of a region. -/
set_option linter.unusedVariables false
set_option linter.unusedSimpArgs false
namespace Go.AM
open Go.RowKit (Below)

section
variable {P : Program} {β : Bt} {B0 : Nat} {S : St} {w : World} (ρ : Operand → Value)

theorem e_clr (hR : Rel β B0 S.h w) {t e ty : TypeId} {z : List AV} (ht : P.underlying t = some (.slice e)) (hz : zcells P e = some z) {vs : List AV} {x : Value} (hv : VRs β vs [x]) {call : Cll} {v : AV} {S' : St} (hs : eClr z call S vs = some (v, S')) :
    v = .bad ∧ ∃ w' r, (Builtin.clear_ #[t] ty #[x]).run P w = .ok r w' ∧ Stp B0 β S w β S' w' := by
  obtain ⟨p, rfl, hp⟩ := vrs1 hv
  unfold eClr at hs
  split at hs
  · rename_i a n cap ex he
    cases he
    rw [beq_nat] at hs
    by_cases hn : n = 0
    · subst hn
      simp only [decide_true, cond_true] at hs
      cases hs
      refine ⟨rfl, w, .tuple #[], ?_, Stp.refl hR⟩
      cases hp with
      | sln => simp [Builtin.clear_, run_underlying ht]
      | sl => simp [Builtin.clear_, run_underlying ht]
    · simp only [hn, decide_false, cond_false] at hs
      cases hp with
      | sln => exact absurd rfl hn
      | sl hb hl hc he hzz ha =>
        rename_i r k b o zz c' off
        simp only at hs
        cases hw : wrCells S.h (r, k) (reps z n) with
        | none => rw [hw] at hs; cases hs
        | some h' =>
          rw [hw] at hs
          cases hs
          obtain ⟨ti, zv, hi, hzv, hzr, hlen, h1⟩ := zcells_spec hz
          have hzs : zv.cells.size = ti.size := by have := (hzr β).length; simp at this; omega
          have hvr : VRs β (reps z n) (Builtin.zeroCells zv.cells n).toList := zeros_VRs (hzr β) n _ rfl
          obtain ⟨w', h2, h3⟩ := wr_cells (P := P) hR hw hb hvr
          have hoff : off = ⟨b, o + k, none⟩ := by
            rcases ha with h | h
            · omega
            · exact h
          subst hoff
          refine ⟨rfl, w', .tuple #[], ?_, h3⟩
          obtain ⟨m, rfl⟩ : ∃ m, n = m + 1 := ⟨n - 1, by omega⟩
          simp only at h2
          simp [Builtin.clear_, run_underlying ht, zero_run hi hzv, h2]
  · cases hs
theorem e_cpy (hR : Rel β B0 S.h w) {t u e ty : TypeId} {size : Nat} (ht : P.underlying t = some (.slice e)) (hsz : tsize P e = some size) {vs : List AV} {d x : Value} (hv : VRs β vs [d, x]) {call : Cll} {v : AV} {S' : St} (hs : eCpy size call S vs = some (v, S')) :
    ∃ v' w', (Builtin.copy_ #[t, u] ty #[d, x]).run P w = .ok v' w' ∧ VR β v v' ∧ Stp B0 β S w β S' w' := by
  obtain ⟨p, q, rfl, hp, hq⟩ := vrs2 hv
  unfold eCpy at hs
  split at hs
  · rename_i a dl dc de b sl sc se he
    cases he
    cases hvs : rdCells S.h b (Nat.min sl dl * size) with
    | none => rw [hvs] at hs; cases hs
    | some vs =>
      rw [hvs] at hs
      simp only at hs
      have hle1 : Nat.min sl dl ≤ sl := Nat.min_le_left sl dl
      obtain ⟨l', h1, h2, h3⟩ := first_cells (P := P) (n := Nat.min sl dl) hR hq hle1 hvs
      have hf := h3 w fun _ => rfl
      have hlx : (Builtin.lenOf x).run P w = .ok sl w := by cases hq <;> simp [Builtin.lenOf]
      rw [beq_nat] at hs
      by_cases hn : Nat.min sl dl = 0
      · simp only [hn, decide_true, cond_true] at hs
        cases hs
        have : l' = [] := List.eq_nil_of_length_eq_zero (by rw [h2, hn]; simp)
        subst this
        rw [hn] at hf
        have hmin : min sl dl = 0 := hn
        cases hp with
        | sln => exact ⟨.int .i64 0, w, by simp [Builtin.copy_, run_underlying ht, hlx, sizeOf_run hsz, hf, goInt, hmin], .i _ _, Stp.refl hR⟩
        | sl => exact ⟨.int .i64 0, w, by simp [Builtin.copy_, run_underlying ht, hlx, sizeOf_run hsz, hf, goInt, hmin, storeCells], .i _ _, Stp.refl hR⟩
      · simp only [hn, decide_false, cond_false] at hs
        cases hp with
        | sln => exact absurd (Nat.min_eq_right (Nat.zero_le _)) hn
        | sl hb hl hc he hzz ha =>
          rename_i r k bb o zz c' off
          simp only at hs
          cases hw : wrCells S.h (r, k) vs with
          | none => rw [hw] at hs; cases hs
          | some h' =>
            rw [hw] at hs
            cases hs
            obtain ⟨w', h4, h5⟩ := wr_cells (P := P) hR hw hb h1
            have hmd : Nat.min sl dl ≤ dl := Nat.min_le_right sl dl
            have hoff : off = ⟨bb, o + k, none⟩ := by
              rcases ha with h | h
              · omega
              · exact h
            subst hoff
            refine ⟨.int .i64 (Nat.min sl dl : Nat), w', ?_, .i _ _, h5⟩
            simp only at h4
            have hmin : min sl dl = Nat.min sl dl := rfl
            simp [Builtin.copy_, run_underlying ht, hlx, sizeOf_run hsz, hf, goInt, h4]
  · cases hs

/-- what came of an operation that is no call -/
def Plain (P : Program) (ρ : Operand → Value) (o : Oper) (B0 : Nat) (β : Bt) (S : St) (w : World) (v : AV) (S' : St) : Prop :=
  ∃ w' γ, Stp B0 β S w γ S' w' ∧ ((∃ v', (execOp ρ o).run P w = .ok (.value v') w' ∧ VR γ v v') ∨ ((execOp ρ o).run P w = .ok .skip w' ∧ v = .bad))

theorem builtin_run {o : Oper} {args : Array Operand} {argTypes : Array TypeId} {b : Builtin} (ho : o.op = .call { callee := .builtin b, args := args, argTypes := argTypes }) (s : Sem Value)
    (h1 : ∀ consts, builtin b argTypes o.type consts (args.map ρ) = (do pure (.value (← s)))) : execOp ρ o = (do pure (.value (← s))) := by
  simp only [execOp, ho, resolve, pure_bind, invoke]
  exact h1 _
theorem two_args {args : Array Operand} {vs : List AV} {a b : AV} (hv : VRs β vs (args.toList.map ρ)) (e : vs = [a, b]) : ∃ x y, args.map ρ = #[x, y] ∧ VRs β vs [x, y] := by
  subst e
  have h0 : (args.map ρ).toList = args.toList.map ρ := by simp
  rw [← h0] at hv
  generalize hA : args.map ρ = A at hv ⊢
  generalize hl : A.toList = l at hv
  cases hv with
  | cons h1 t => cases t with
    | cons h2 t => cases t; exact ⟨_, _, by apply Array.ext'; exact hl, .cons h1 (.cons h2 .nil)⟩
theorem one_args {args : Array Operand} {vs : List AV} {a : AV} (hv : VRs β vs (args.toList.map ρ)) (e : vs = [a]) : ∃ x, args.map ρ = #[x] ∧ VRs β vs [x] := by
  subst e
  have h0 : (args.map ρ).toList = args.toList.map ρ := by simp
  rw [← h0] at hv
  generalize hA : args.map ρ = A at hv ⊢
  generalize hl : A.toList = l at hv
  cases hv with
  | cons h1 t => cases t; exact ⟨_, by apply Array.ext'; exact hl, .cons h1 .nil⟩

def AOp.isCall : AOp → Bool
  | .call _ | .callv => true
  | _ => false

theorem E_plain (hR : Rel β B0 S.h w) {o : Oper} {op : AOp} {xs : List Operand} (hc : compOp P o = some (op, xs)) (hn : op.isCall = false) {vs : List AV} (hv : VRs β vs (xs.map ρ)) {call : Cll} {v : AV} {S' : St}
    (hs : semE op call S vs = some (v, S')) (hfree : Free β S.nx S'.nx) : Plain P ρ o B0 β S w v S' := by
  have none_ : ∀ {p}, semE op = eNone → semE op call S vs = some p → False := fun h0 h1 => by rw [h0] at h1; cases h1
  unfold compOp at hc
  split at hc
  · cases hc; exact (none_ rfl hs).elim
  · cases hc; exact (none_ rfl hs).elim
  · cases hc; exact (none_ rfl hs).elim
  · rename_i e _
    cases hq : zcells P e <;> rw [hq] at hc <;> cases hc; exact (none_ rfl hs).elim
  · cases hc; exact (none_ rfl hs).elim
  · split at hc <;> cases hc; exact (none_ rfl hs).elim
  · rename_i t len parts ho
    split at hc
    · split at hc
      · rename_i s z _ _
        cases hq : Nat.ble (len * s) 16777216 <;> rw [hq] at hc <;> cases hc
        exact (none_ rfl hs).elim
      · cases hc
    · cases hc
  · rename_i t a ho
    cases hq : tshape P t <;> rw [hq] at hc <;> cases hc; exact (none_ rfl hs).elim
  · -- store
    rename_i t a x ho
    cases hsz : tsize P t with
    | none => rw [hsz] at hc; cases hc
    | some sz =>
      rw [hsz] at hc; cases hc
      obtain ⟨rfl, w', h1, h2⟩ := e_st (P := P) (call := call) hR hsz hv hs
      refine ⟨w', β, h2, .inr ⟨?_, rfl⟩⟩
      have : execOp ρ o = (do Instr.storeAt t (ρ a) (ρ x); pure .skip) := by simp only [execOp, ho]
      rw [this]
      exact run_unit h1
  · cases hc; exact (none_ rfl hs).elim
  · rename_i bo t x y yt ho
    split at hc
    · cases hc; exact (none_ rfl hs).elim
    · cases hc; exact (none_ rfl hs).elim
    · cases hq : isEq bo <;> rw [hq] at hc
      · cases hc
      · cases hce : compEq P (isLit x || isLit y) (isNeq bo) t with
        | none => rw [hce] at hc; cases hc
        | some a =>
          rw [hce] at hc
          cases hc
          obtain ⟨k, rfl⟩ := compEq_eq hce
          exact (none_ rfl hs).elim
  · cases hc; exact (none_ rfl hs).elim
  · split at hc
    · cases hc; exact (none_ rfl hs).elim
    · cases hc; exact (none_ rfl hs).elim
    · split at hc <;> cases hc <;> exact (none_ rfl hs).elim
    · cases hc
  · split at hc <;> cases hc <;> exact (none_ rfl hs).elim
  · cases hc; exact (none_ rfl hs).elim
  · cases hc; exact (none_ rfl hs).elim
  · split at hc
    · split at hc
      · rename_i n _ _
        cases hq : Nat.beq n 0 <;> rw [hq] at hc <;> cases hc
        exact (none_ rfl hs).elim
      · cases hc
    · cases hc
  · rename_i t x lo hi mx ho
    split at hc
    · rename_i e hu
      cases hq : (mx.isSome && hi.isNone) <;> rw [hq] at hc
      · cases hsz : tsize P e <;> rw [hsz] at hc <;> cases hc; exact (none_ rfl hs).elim
      · cases hc
    · cases hq : mx.isNone <;> rw [hq] at hc <;> cases hc; exact (none_ rfl hs).elim
    · cases hc
  · split at hc
    · split at hc
      · split at hc
        · rename_i s _
          cases hq : Nat.beq s 0 <;> rw [hq] at hc <;> cases hc; exact (none_ rfl hs).elim
        · cases hc
      · cases hc
    · cases hc
  · split at hc
    · split at hc
      · rename_i g _
        cases hq : tshape P g.type <;> rw [hq] at hc <;> cases hc; exact (none_ rfl hs).elim
      · cases hc
    · cases hc
  · split at hc
    · rename_i e _
      cases hq : tsize P e <;> rw [hq] at hc <;> cases hc; exact (none_ rfl hs).elim
    · rename_i n e _
      cases hq : tsize P e <;> rw [hq] at hc <;> cases hc; exact (none_ rfl hs).elim
    · cases hc
  · split at hc
    · split at hc <;> cases hc; exact (none_ rfl hs).elim
    · cases hc; exact (none_ rfl hs).elim
    · cases hc
  · split at hc
    · rename_i k e _
      cases hq : isIntT P k <;> rw [hq] at hc
      · cases hc
      · cases hz : zval P e <;> rw [hz] at hc <;> cases hc; exact (none_ rfl hs).elim
    · cases hc
  · -- mapUpdate
    rename_i t m k x ho
    split at hc
    · rename_i kt e hu
      cases hq : isIntT P kt <;> rw [hq] at hc <;> cases hc
      obtain ⟨rfl, w', h1, h2⟩ := e_mset (P := P) (call := call) hR hu hq hv hs
      refine ⟨w', β, h2, .inr ⟨?_, rfl⟩⟩
      have : execOp ρ o = (do Instr.mapUpdate t (ρ m) (ρ k) (ρ x); pure .skip) := by simp only [execOp, ho]
      rw [this]
      exact run_unit h1
    · cases hc
  · cases hc; exact (none_ rfl hs).elim
  · rename_i c ho
    split at hc
    · rename_i b hb
      obtain ⟨callee, args, argTypes⟩ := c
      simp only at hb hc
      subst hb
      have hts : ∀ l, argTypes.toList = l → argTypes = l.toArray := fun l hl => by rw [← hl]
      unfold compBuiltin at hc
      split at hc
      · split at hc <;> cases hc <;> exact (none_ rfl hs).elim
      · split at hc <;> cases hc <;> exact (none_ rfl hs).elim
      · cases hc; exact (none_ rfl hs).elim
      · cases hc; exact (none_ rfl hs).elim
      · -- append
        rename_i t u htl
        have ht := hts _ htl
        subst ht
        split at hc
        · rename_i e e' hu1 hu2
          split at hc
          · rename_i s by' zz hsz hby hz
            cases hq : (Nat.beq s 0 || Nat.beq by' 0) <;> rw [hq] at hc <;> cases hc
            simp only [Bool.or_eq_false_iff, beq_nat, decide_eq_false_iff_not] at hq
            obtain ⟨ti, zv, hi, hzv, hzr, hlen, h1⟩ := zcells_spec hz
            have hs1 : s = ti.size := by simp [tsize, hi] at hsz; exact hsz.symm
            have hs2 : by' = ti.bytes := by simp [tbytes, hi] at hby; exact hby.symm
            subst hs1; subst hs2
            have hzs : zv.cells.size = ti.size := by have := (hzr β).length; simp at this; omega
            have hvs : ∃ a b, vs = [a, b] := by
              simp only [semE] at hs
              unfold eApp at hs
              split at hs
              · exact ⟨_, _, rfl⟩
              · cases hs
            obtain ⟨a, b, hab⟩ := hvs
            obtain ⟨x, y, hxy, hv2⟩ := two_args ρ hv hab
            obtain ⟨γ, v', w', h2, h3, h4⟩ := e_app (P := P) (call := call) (ty := o.type) hR hu1 hu2 hi hzv hzs hq.1 hq.2 hv2 hs hfree
            refine ⟨w', γ, h4, .inl ⟨v', ?_, h3⟩⟩
            rw [builtin_run ρ ho (Builtin.append_ #[t, u] o.type #[x, y]) (fun _ => by rw [hxy]; rfl)]
            exact run_value h2
          · cases hc
        · cases hc
      · -- clear
        rename_i t htl
        have ht := hts _ htl
        subst ht
        split at hc
        · rename_i e hu1
          split at hc
          · rename_i z hz
            cases hc
            have hvs : ∃ a, vs = [a] := by
              simp only [semE] at hs
              unfold eClr at hs
              split at hs
              · exact ⟨_, rfl⟩
              · cases hs
            obtain ⟨a, ha⟩ := hvs
            obtain ⟨x, hx, hv2⟩ := one_args ρ hv ha
            obtain ⟨rfl, w', r, h2, h4⟩ := e_clr (P := P) (call := call) (ty := o.type) hR hu1 hz hv2 hs
            refine ⟨w', β, h4, .inl ⟨r, ?_, .bad _⟩⟩
            rw [builtin_run ρ ho (Builtin.clear_ #[t] o.type #[x]) (fun _ => by rw [hx]; rfl)]
            exact run_value h2
          · cases hc
        · cases hc
      · -- copy
        rename_i t u htl
        have ht := hts _ htl
        subst ht
        split at hc
        · rename_i e e' hu1 hu2
          split at hc
          · rename_i s hsz
            cases hc
            have hvs : ∃ a b, vs = [a, b] := by
              simp only [semE] at hs
              unfold eCpy at hs
              split at hs
              · exact ⟨_, _, rfl⟩
              · cases hs
            obtain ⟨a, b, hab⟩ := hvs
            obtain ⟨x, y, hxy, hv2⟩ := two_args ρ hv hab
            obtain ⟨v', w', h2, h3, h4⟩ := e_cpy (P := P) (call := call) (u := u) (ty := o.type) hR hu1 hsz hv2 hs
            refine ⟨w', β, h4, .inl ⟨v', ?_, h3⟩⟩
            rw [builtin_run ρ ho (Builtin.copy_ #[t, u] o.type #[x, y]) (fun _ => by rw [hxy]; rfl)]
            exact run_value h2
          · cases hc
        · cases hc
      · -- delete
        rename_i t u htl
        have ht := hts _ htl
        subst ht
        split at hc
        · rename_i k e hu1
          cases hq : isIntT P k <;> rw [hq] at hc <;> cases hc
          have hvs : ∃ a b, vs = [a, b] := by
            simp only [semE] at hs
            unfold eMdel at hs
            split at hs
            · exact ⟨_, _, rfl⟩
            · exact ⟨_, _, rfl⟩
            · cases hs
          obtain ⟨a, b, hab⟩ := hvs
          obtain ⟨x, y, hxy, hv2⟩ := two_args ρ hv hab
          obtain ⟨rfl, w', r, h2, h4⟩ := e_mdel (P := P) (call := call) (u := u) (ty := o.type) hR hu1 hq hv2 hs
          refine ⟨w', β, h4, .inl ⟨r, ?_, .bad _⟩⟩
          rw [builtin_run ρ ho (Builtin.delete_ #[t, u] o.type #[x, y]) (fun _ => by rw [hxy]; rfl)]
          exact run_value h2
        · cases hc
      · cases hc
    · cases hc; cases hn
    · rename_i x _ _
      cases hq : isTmp x <;> rw [hq] at hc <;> cases hc; cases hn
    · cases hc
  · cases hc

/-! ### calls -/
/-- names in use are used up -/
def St.wf (S : St) : Prop := ∀ n bl, S.h.get n = some bl → n < S.nx
/-- What a call of the abstract machine says of the model's. -/
def CallOk (P : Program) (B0 : Nat) (call : Cll) : Prop :=
  ∀ f vs S v S', call f vs S = some (v, S') → (∃ fn, P.funcs[f]? = some fn ∧ fn.body.isSome = true ∧ (fn.name == "runtime.NumGoroutine") = false) ∧
    ∀ β w (as : Array Value), S.wf → VRs β vs as.toList → Rel β B0 S.h w → Free β S.nx S'.nx →
      Calls P f as w fun e w' => ∃ γ v', e = .returned v' ∧ VR γ v v' ∧ Stp B0 β S w γ S' w'

theorem callFunc_run {f : FuncId} {fn : Func} (hf : P.funcs[f]? = some fn) (hb : fn.body.isSome = true) (hn : (fn.name == "runtime.NumGoroutine") = false) (as : Array Value) : (callFunc f as).run P w = .ok (.enter f as) w := by
  have hb' : fn.body.isNone = false := by cases h : fn.body <;> simp [h] at hb ⊢
  have hn' : fn.name ≠ "runtime.NumGoroutine" := by simpa using hn
  have hb2 : fn.body ≠ none := fun e => by rw [e] at hb; cases hb
  simp [callFunc, hf, hn', hb2]

theorem call_enters {o : Oper} {c : Call} (ho : o.op = .call c) {f : FuncId} (hc : c.callee = .value (.func f)) (hρ : ρ (.func f) = .func (.func f) #[] #[]) {fn : Func} (hf : P.funcs[f]? = some fn) (hb : fn.body.isSome = true)
    (hn : (fn.name == "runtime.NumGoroutine") = false) : (execOp ρ o).run P w = .ok (.enter f (c.args.map ρ)) w := by
  have h1 : execOp ρ o = (do let d ← resolve ρ c o.type; invoke d.target d.args) := by simp only [execOp, ho]
  have h2 : resolve ρ c o.type = pure { target := .fn (.func f) #[], args := c.args.map ρ } := by
    simp only [resolve, hc, hρ, Deferred.ofValue, Array.empty_append]
  rw [h1, h2]
  simp only [pure_bind, invoke, Array.append_empty]
  exact callFunc_run hf hb hn _
theorem callv_enters {o : Oper} {c : Call} (ho : o.op = .call c) {x : Operand} (hc : c.callee = .value x) {f : FuncId} {fst cap : Array Value} (hρ : ρ x = .func (.func f) fst cap) {fn : Func} (hf : P.funcs[f]? = some fn) (hb : fn.body.isSome = true)
    (hn : (fn.name == "runtime.NumGoroutine") = false) : (execOp ρ o).run P w = .ok (.enter f (fst ++ c.args.map ρ ++ cap)) w := by
  have h1 : execOp ρ o = (do let d ← resolve ρ c o.type; invoke d.target d.args) := by simp only [execOp, ho]
  have h2 : resolve ρ c o.type = pure { target := .fn (.func f) cap, args := fst ++ c.args.map ρ } := by
    simp only [resolve, hc, hρ, Deferred.ofValue]
  rw [h1, h2]
  simp only [pure_bind, invoke]
  exact callFunc_run hf hb hn _

theorem eCallv_some {call : Cll} {S : St} {l : List AV} {p : AV × St} (h : eCallv call S l = some p) : ∃ f fst cap us, l = .fn f fst cap :: us ∧ call f (fst ++ us ++ cap) S = some p := by
  cases l with
  | nil => cases h
  | cons x us => cases x with
    | fn f fst cap => exact ⟨f, fst, cap, us, rfl, h⟩
    | _ => cases h

/-- One operation: the model's weakest precondition. -/
theorem op_sound {a : Act} (hwf : S.wf) (hR : Rel β B0 S.h w) {o : Oper} {op : AOp} {xs : List Operand} (hc : compOp P o = some (op, xs)) {vs : List AV} (hv : VRs β vs (xs.map a.eval)) {call : Cll} (hcall : CallOk P B0 call) {v : AV} {S' : St}
    (hs : semOp op call S vs = some (v, S')) (hfree : Free β S.nx S'.nx) {next : Act → World → Prop} {Q : Exit → Act → World → Prop}
    (h : ∀ γ v' w', VR γ v v' → Stp B0 β S w γ S' w' → next (a.put o.dst v') w') : o.wp P a w next Q := by
  unfold Oper.wp
  have hs0 := hs
  cases hcl : op.cl
  · -- R
    simp only [semOp, hcl, opR] at hs
    cases hr : semR op S.h vs with
    | none => rw [hr] at hs; cases hs
    | some u =>
      rw [hr] at hs
      cases hs
      obtain ⟨v', h1, h2⟩ := R_sound a.eval hR hc hv hr
      rw [h1, Oper.upon_value]
      exact h β v' w h2 (Stp.refl hR)
  · -- A
    simp only [semOp, hcl, opA] at hs
    cases hr : semA op S.nx vs with
    | none => rw [hr] at hs; cases hs
    | some p =>
      obtain ⟨blk, u⟩ := p
      rw [hr] at hs
      cases hs
      obtain ⟨x, v', z, h1, h2, h3⟩ := A_sound (P := P) (w := w) a.eval hc hv hr hR.le
      rw [h1, Oper.upon_value]
      have hf0 : β S.nx = none := hfree S.nx (Nat.le_refl _) (Nat.lt_succ_self _)
      obtain ⟨h4, h5⟩ := h3 _ (upd_ext hf0) (upd_same β S.nx (w.heap.size, 0, z))
      exact h _ v' _ h4 (stp_new (x := x) hR hf0 h2 rfl rfl rfl rfl h5)
  · -- E
    simp only [semOp, hcl] at hs
    cases hic : op.isCall with
    | false =>
      obtain ⟨w', γ, h1, ⟨v', h2, h3⟩ | ⟨h2, rfl⟩⟩ := E_plain a.eval hR hc hic hv hs hfree
      · rw [h2, Oper.upon_value]; exact h γ v' w' h3 h1
      · rw [h2, Oper.upon_skip]; exact h γ undef w' (.bad _) h1
    | true =>
      have key : ∀ {c : Call} {f : FuncId} {as : Array Value} {us : List AV}, o.op = .call c → call f us S = some (v, S') → VRs β us as.toList → (∀ fn, P.funcs[f]? = some fn → fn.body.isSome = true → (fn.name == "runtime.NumGoroutine") = false → (execOp a.eval o).run P w = .ok (.enter f as) w) →
          o.upon P a next Q ((execOp a.eval o).run P w) := by
        intro c f as us ho hcl hvs hen
        obtain ⟨⟨fn, hf, hb, hn⟩, hk⟩ := hcall f us S v S' hcl
        rw [hen fn hf hb hn, Oper.upon_enter]
        refine (hk β w as hwf hvs hR hfree).mono ?_
        rintro e w' ⟨γ, v', rfl, h1, h2⟩
        exact h γ v' w' h1 h2
      have no : ∀ {q : AOp}, q.isCall = false → op = q → False := fun h1 h2 => by rw [h2, h1] at hic; cases hic
      have hcall' : ∃ c, o.op = .call c := by
        cases ho : o.op with
        | call c => exact ⟨c, rfl⟩
        | _ =>
          exfalso
          simp only [compOp, ho] at hc
          repeat' split at hc
          all_goals first
            | contradiction
            | (cases hc; simp only [AOp.isCall, Bool.false_eq_true] at hic; done)
            | (cases hc; done)
            | (rw [Option.map_eq_some_iff] at hc; obtain ⟨_, _, h1⟩ := hc; cases h1; simp only [AOp.isCall, Bool.false_eq_true] at hic; done)
            | (rw [cond_eq_ite] at hc; split at hc <;> (first | (cases hc; done) | (cases hc; simp only [AOp.isCall, Bool.false_eq_true] at hic; done) | (rw [Option.map_eq_some_iff] at hc; obtain ⟨_, h0, h1⟩ := hc; cases h1; first | (simp only [AOp.isCall, Bool.false_eq_true] at hic; done) | (obtain ⟨k, rfl⟩ := compEq_eq h0; simp only [AOp.isCall, Bool.false_eq_true] at hic; done))))
      obtain ⟨c, ho⟩ := hcall'
      simp only [compOp, ho] at hc
      split at hc
      · rename_i b hb
        exfalso
        unfold compBuiltin at hc
        repeat' split at hc
        all_goals first
          | (cases hc; simp only [AOp.isCall, Bool.false_eq_true] at hic; done)
          | (cases hc; done)
          | (rw [cond_eq_ite] at hc; split at hc <;> cases hc; simp only [AOp.isCall, Bool.false_eq_true] at hic; done)
      · rename_i f hf
        cases hc
        have hvs : VRs β vs (c.args.map a.eval).toList := by simpa using hv
        exact key ho hs hvs fun fn h1 h2 h3 => call_enters a.eval ho hf rfl h1 h2 h3
      · rename_i x _ hx
        cases hq : isTmp x <;> rw [hq] at hc <;> cases hc
        simp only [semE] at hs
        obtain ⟨f, fst, cap, vs0, rfl, hs⟩ := eCallv_some hs
        simp only [List.map_cons] at hv
        generalize hxe : a.eval x = xe at hv
        cases hv with
        | cons hv1 hv2 =>
          cases hv1 with
          | fn _ hf1 hf2 =>
            rename_i fs' cs'
            have hvs : VRs β (fst ++ vs0 ++ cap) (fs' ++ c.args.map a.eval ++ cs').toList := by
              simp only [Array.toList_append, Array.toList_map]
              exact (hf1.append hv2).append hf2
            exact key ho hs hvs fun fn h1 h2 h3 => callv_enters a.eval ho hx hxe h1 h2 h3
      · cases hc
end
end Go.AM

/- Operands, temporaries; one step; a region in its written order. -/
set_option linter.unusedVariables false
set_option linter.unusedSimpArgs false
namespace Go.AM
open Go.RowKit (Below)

/-! ### how memory changes: names are used up in order; cells that are only read stay -/
structure Gr (S S' : St) : Prop where
  nx : S.nx ≤ S'.nx
  wf : S.wf → S'.wf
  ro : ∀ n bl, S'.h.get n = some bl → bl.own = false → S.h.get n = some bl
theorem Gr.refl (S : St) : Gr S S := ⟨Nat.le_refl _, id, fun _ _ h _ => h⟩
theorem Gr.trans {S S1 S2 : St} (h : Gr S S1) (k : Gr S1 S2) : Gr S S2 := ⟨Nat.le_trans h.nx k.nx, fun w => k.wf (h.wf w), fun n bl hb ho => h.ro n bl (k.ro n bl hb ho) ho⟩
theorem Gr.old {S : St} {n : Nat} {bl0 : AB} (hg : S.h.get n = some bl0) {bl : AB} (ho : bl.own = true) : Gr S { S with h := S.h.set n (some bl) } := by
  refine ⟨Nat.le_refl _, fun w m bm hm => ?_, fun m bm hm hr => ?_⟩ <;> simp only [PM.get_set] at hm <;> split at hm
  · rename_i e; subst e; exact w _ _ hg
  · exact w _ _ hm
  · cases hm; rw [ho] at hr; cases hr
  · exact hm
theorem Gr.gone (S : St) (n : Nat) : Gr S { S with h := S.h.set n none } := by
  refine ⟨Nat.le_refl _, fun w m bm hm => ?_, fun m bm hm hr => ?_⟩ <;> simp only [PM.get_set] at hm <;> split at hm
  · cases hm
  · exact w _ _ hm
  · cases hm
  · exact hm
theorem Gr.new (S : St) {bl : AB} (ho : bl.own = true) : Gr S { h := S.h.set S.nx (some bl), nx := S.nx + 1 } := by
  refine ⟨Nat.le_succ _, fun w m bm hm => ?_, fun m bm hm hr => ?_⟩ <;> simp only [PM.get_set] at hm <;> split at hm
  · rename_i e; subst e; exact Nat.lt_succ_self _
  · exact Nat.lt_succ_of_lt (w _ _ hm)
  · cases hm; rw [ho] at hr; cases hr
  · exact hm
theorem wrCells_gr {S : St} {a : Nat × Nat} {vs : List AV} {h : PM AB} (hw : wrCells S.h a vs = some h) : Gr S { S with h := h } := by
  unfold wrCells at hw
  split at hw
  · rename_i c hg
    rw [cond_eq_ite] at hw
    split at hw
    · cases hw; exact Gr.old hg rfl
    · cases hw
  · cases hw
theorem gone_gr {S : St} {a : Option (Nat × Nat)} {ex size : Nat} {h : PM AB} (hg : gone S.h a ex size = some h) : Gr S { S with h := h } := by
  unfold gone at hg
  rw [cond_eq_ite] at hg
  split at hg
  · cases hg; exact Gr.refl S
  · rw [cond_eq_ite] at hg
    split at hg
    · split at hg
      · rw [cond_eq_ite] at hg
        split at hg
        · cases hg; exact Gr.gone S _
        · cases hg
      · cases hg
    · cases hg
theorem appV_gr {size bytes : Nat} {S : St} {a : Option (Nat × Nat)} {len cap ex n : Nat} {new : List AV} {v : AV} {S' : St} (h : appV size bytes S a len cap ex n new = some (v, S')) : Gr S S' := by
  unfold appV at h
  rw [cond_eq_ite] at h
  split at h
  · split at h
    · cases h; exact Gr.refl S
    · rw [cond_eq_ite] at h
      split at h
      · cases h; exact Gr.refl S
      · split at h
        · rename_i hw; cases h; exact wrCells_gr hw
        · cases h
  · rw [cond_eq_ite] at h
    split at h
    · split at h
      · rename_i old h1 _ hg
        cases h
        exact (gone_gr hg).trans (Gr.new { S with h := h1 } rfl)
      · cases h
    · cases h
/-- calls, too -/
def Grows (call : Cll) : Prop := ∀ f vs S v S', call f vs S = some (v, S') → Gr S S'
theorem semE_gr {o : AOp} {call : Cll} (hcall : Grows call) {S : St} {vs : List AV} {v : AV} {S' : St} (h : semE o call S vs = some (v, S')) : Gr S S' := by
  cases o <;> simp only [semE] at h <;> try (cases h; done)
  case st sz =>
    unfold eSt at h
    split at h
    · split at h
      · rw [cond_eq_ite] at h
        split at h
        · split at h
          · rename_i hw; cases h; exact wrCells_gr hw
          · cases h
        · cases h
      · cases h
    · cases h
  case mset =>
    unfold eMset at h
    split at h
    · split at h
      · rename_i hg
        split at h
        · cases h; exact Gr.old hg rfl
        · cases h
      · cases h
    · cases h
  case mdel =>
    unfold eMdel at h
    split at h
    · cases h; exact Gr.refl S
    · split at h
      · rename_i hg
        split at h
        · cases h; exact Gr.old hg rfl
        · cases h
      · cases h
    · cases h
  case app size bytes =>
    unfold eApp at h
    split at h
    · split at h
      · rw [cond_eq_ite] at h
        split at h
        · exact appV_gr h
        · cases h
      · cases h
    · cases h
  case clr z =>
    unfold eClr at h
    split at h
    · rw [cond_eq_ite] at h
      split at h
      · cases h; exact Gr.refl S
      · split at h
        · split at h
          · rename_i hw; cases h; exact wrCells_gr hw
          · cases h
        · cases h
    · cases h
  case cpy size =>
    unfold eCpy at h
    split at h
    · split at h
      · rw [cond_eq_ite] at h
        split at h
        · cases h; exact Gr.refl S
        · split at h
          · split at h
            · rename_i hw; cases h; exact wrCells_gr hw
            · cases h
          · cases h
      · cases h
    · cases h
  case call f => exact hcall _ _ _ _ _ h
  case callv =>
    obtain ⟨f, fst, cap, us, rfl, h⟩ := eCallv_some h
    exact hcall _ _ _ _ _ h
theorem semA_own {o : AOp} {nx : Nat} {vs : List AV} {blk : AB} {v : AV} (h : semA o nx vs = some (blk, v)) : blk.own = true := by
  cases o <;> simp only [semA] at h <;> try (cases h; done)
  · unfold aAlloc at h; split at h <;> cases h; rfl
  · unfold aBox at h
    split at h
    · split at h <;> cases h; rfl
    · cases h
  · unfold aBslice at h
    split at h
    · rw [cond_eq_ite] at h
      split at h <;> cases h; rfl
    · cases h
  · unfold aMksl at h
    split at h
    · rw [cond_eq_ite] at h
      split at h <;> cases h; rfl
    · cases h
  · cases h; rfl
theorem semOp_gr {o : AOp} {call : Cll} (hcall : Grows call) {S : St} {vs : List AV} {v : AV} {S' : St} (h : semOp o call S vs = some (v, S')) : Gr S S' := by
  cases hcl : o.cl <;> simp only [semOp, hcl] at h
  · unfold opR at h
    split at h <;> cases h
    exact Gr.refl S
  · unfold opA at h
    split at h
    · rename_i blk u he
      cases h
      exact Gr.new S (semA_own he)
    · cases h
  · exact semE_gr hcall h
theorem step1_gr {call : Cll} (hcall : Grows call) {o : Op1} {T T' : Tm} {S S' : St} (h : step1 call o T S = some (T', S')) : Gr S S' := by
  unfold step1 at h
  split at h
  · split at h
    · rename_i v S1 he
      cases h
      exact semOp_gr hcall he
    · cases h
  · cases h; exact Gr.refl S
  · cases h
theorem runOps_gr {call : Cll} (hcall : Grows call) : ∀ {l : List Op1} {T T' : Tm} {S S' : St}, runOps call l T S = some (T', S') → Gr S S'
  | [], T, T', S, S', h => by cases h; exact Gr.refl S
  | o :: r, T, T', S, S', h => by
    rw [runOps_cons] at h
    split at h
    · rename_i T1 S1 he
      exact (step1_gr hcall he).trans (runOps_gr hcall h)
    · cases h

/-! ### temporaries -/
/-- what the abstract machine says of a temporary -/
noncomputable def Tm.at (ps : Nat) (T : Tm) (t : Nat) : AV := (opT ps t).ev T
def dstT (ps : Nat) : Option Tmp → Dst
  | none => .no
  | some d => bif per ps d then .l d else .t d
structure TRel (β : Bt) (ps nt : Nat) (T : Tm) (a : Act) : Prop where
  sz : nt ≤ a.tmps.size
  tm : ∀ t, t < nt → VR β (T.at ps t) (a.tmps.getD t undef)
  df : a.defers = []
theorem TRel.mono {β γ : Bt} {ps nt : Nat} {T : Tm} {a : Act} (h : TRel β ps nt T a) (e : Ext β γ) : TRel γ ps nt T a := ⟨h.sz, fun t ht => (h.tm t ht).mono e, h.df⟩
theorem aget_aput (n : Nat) (v : AV) : ∀ (l : List (Nat × AV)) (m : Nat), aget (aput n v l) m = if m = n then v else aget l m
  | [], m => by
    simp only [aput_nil, aget_cons, aget_nil, beq_nat]
    by_cases h : m = n
    · subst h; simp
    · rw [if_neg h, show decide (n = m) = false from decide_eq_false (fun e => h e.symm)]; rfl
  | (k, u) :: r, m => by
    simp only [aput_cons, beq_nat]
    by_cases hk : k = n
    · subst hk
      simp only [decide_true, cond_true, aget_cons, beq_nat]
      by_cases h : m = k
      · subst h; simp
      · rw [if_neg h, show decide (k = m) = false from decide_eq_false (fun e => h e.symm)]; rfl
    · simp only [hk, decide_false, cond_false, aget_cons, beq_nat]
      by_cases h : m = n
      · subst h
        rw [if_pos rfl, show decide (k = m) = false from decide_eq_false hk, aget_aput, if_pos rfl]; rfl
      · rw [if_neg h, aget_aput, if_neg h]
theorem Tm.at_put (ps : Nat) (T : Tm) (v : AV) (d t : Nat) : (T.put v (dstT ps (some d))).at ps t = if t = d then v else T.at ps t := by
  cases hd : per ps d <;> cases ht : per ps t <;> simp only [Tm.at, opT, dstT, hd, ht, cond_true, cond_false, Tm.put, Opd.ev]
  · simp only [aget_cons, beq_nat]
    by_cases h : t = d
    · subst h; simp
    · rw [if_neg h, show decide (d = t) = false from decide_eq_false (fun e => h e.symm)]; rfl
  · rw [if_neg (fun e => by subst e; rw [hd] at ht; cases ht)]
  · rw [if_neg (fun e => by subst e; rw [hd] at ht; cases ht)]
  · exact aget_aput d v T.l t
theorem TRel.put {β : Bt} {ps nt : Nat} {T : Tm} {a : Act} (h : TRel β ps nt T a) {v : AV} {v' : Value} (hv : VR β v v') (d : Option Tmp) (hd : ∀ x, d = some x → x < nt) : TRel β ps nt (T.put v (dstT ps d)) (a.put d v') := by
  cases d with
  | none => exact h
  | some d =>
    have hd := hd d rfl
    refine ⟨by simpa [Act.put] using h.sz, fun t ht => ?_, h.df⟩
    rw [Tm.at_put]
    simp only [Act.put]
    by_cases e : t = d
    · subst e
      rw [if_pos rfl]
      have hs := h.sz
      have : (a.tmps.setIfInBounds t v').getD t undef = v' := by
        rw [Array.getD_eq_getD_getElem?, Array.getElem?_setIfInBounds_self_of_lt (by omega)]; rfl
      rw [this]; exact hv
    · rw [if_neg e]
      have : (a.tmps.setIfInBounds d v').getD t undef = a.tmps.getD t undef := by
        rw [Array.getD_eq_getD_getElem?, Array.getD_eq_getD_getElem?, Array.getElem?_setIfInBounds_ne (fun h => e h.symm)]
      rw [this]; exact h.tm t ht
theorem TRel.clear {β : Bt} {ps nt : Nat} {T : Tm} {a : Act} (h : TRel β ps nt T a) : TRel β ps nt { T with r := [] } a := by
  refine ⟨h.sz, fun t ht => ?_, h.df⟩
  have := h.tm t ht
  revert this
  unfold Tm.at opT
  cases per ps t
  · intro _; exact .bad _
  · exact id

theorem opd_ev {β : Bt} (hG : ∀ g, g < GN → β g = some (g, 0, 0)) {ps nt : Nat} {T : Tm} {a : Act} (h : TRel β ps nt T a) {x : Operand} {y : Opd} (hc : compOpd ps nt x = some y) : VR β (y.ev T) (a.eval x) := by
  cases x with
  | tmp t =>
    simp only [compOpd, blt_nat] at hc
    by_cases ht : t < nt
    · simp only [ht, decide_true, cond_true, Option.some.injEq] at hc
      subst hc
      exact h.tm t ht
    · simp [ht] at hc
  | const v =>
    simp only [compOpd, Option.map_eq_some_iff] at hc
    obtain ⟨u, hu, rfl⟩ := hc
    exact toAV_VR hu
  | global g =>
    simp only [compOpd, blt_nat] at hc
    by_cases hg : g < GN
    · simp only [hg, decide_true, cond_true, Option.some.injEq] at hc
      subst hc
      have := VR.p (k := 0) (hG g hg)
      exact this
    · simp [hg] at hc
  | func f => cases hc; exact .fn f .nil .nil
theorem opds_ev {β : Bt} (hG : ∀ g, g < GN → β g = some (g, 0, 0)) {ps nt : Nat} {T : Tm} {a : Act} (h : TRel β ps nt T a) : ∀ {xs : List Operand} {ys : List Opd}, mapO (compOpd ps nt) xs = some ys → VRs β (evs T ys) (xs.map a.eval)
  | [], ys, hc => by simp [mapO] at hc; subst hc; exact .nil
  | x :: xs, ys, hc => by
    unfold mapO at hc
    split at hc
    · rename_i y hy
      rw [Option.map_eq_some_iff] at hc
      obtain ⟨zs, hz, rfl⟩ := hc
      exact .cons (opd_ev hG h hy) (opds_ev hG h hz)
    · cases hc

theorem comp1_spec {P : Program} {ps nt : Nat} {ops : Array Oper} {o : Oper} {o1 : Op1} (h : comp1 P ps ops nt o = some o1) :
    ∃ xs, compOp P o = some (o1.op, xs) ∧ compGuard ps ops nt o.guard = some o1.gd ∧ mapO (compOpd ps nt) xs = some o1.args ∧ o1.dst = dstT ps o.dst ∧ ∀ d, o.dst = some d → d < nt := by
  unfold comp1 at h
  split at h
  · rename_i op xs gd h1 h2
    split at h
    · rename_i args h3
      split at h
      · rename_i hd
        cases h
        exact ⟨xs, h1, h2, h3, by rw [hd]; rfl, fun d hh => by rw [hd] at hh; cases hh⟩
      · rename_i d hd
        rw [blt_nat] at h
        by_cases hlt : d < nt
        · simp only [hlt, decide_true, cond_true] at h
          cases h
          exact ⟨xs, h1, h2, h3, by rw [hd]; rfl, fun d' hh => by rw [hd] at hh; cases hh; exact hlt⟩
        · simp [hlt] at h
    · cases h
  · cases h

theorem wants_spec {β : Bt} {ps nt : Nat} {T : Tm} {a : Act} (h : TRel β ps nt T a) {ops : Array Oper} {o : Oper} {gd : Option (Opd × Bool)} (hc : compGuard ps ops nt o.guard = some gd) {r : Bool} (hw : wants T gd = some r) :
    Region.wanted o (yielded ops a.tmps) = r := by
  unfold compGuard at hc
  split at hc
  · rename_i hg
    cases hc
    cases hw
    simp [Region.wanted, hg]
  · rename_i j w hg
    split at hc
    · rename_i t ht
      rw [blt_nat] at hc
      by_cases hlt : t < nt
      · simp only [hlt, decide_true, cond_true, Option.some.injEq] at hc
        subst hc
        have h1 := h.tm t hlt
        simp only [wants] at hw
        have hsz : t < a.tmps.size := Nat.lt_of_lt_of_le hlt h.sz
        have hget : a.tmps[t]? = some (a.tmps.getD t undef) := by
          rw [Array.getD_eq_getD_getElem?, Array.getElem?_eq_getElem hsz]; rfl
        have hy : yielded ops a.tmps j = match a.tmps.getD t undef with | .bool b => some b | _ => none := by
          simp only [yielded, ht, Option.bind_some, hget]
          cases a.tmps.getD t undef <;> rfl
        have h1' : VR β ((opT ps t).ev T) (a.tmps.getD t undef) := h1
        clear h1
        generalize a.tmps.getD t undef = y at h1' hy
        simp only [Region.wanted, hg, hy]
        generalize (opT ps t).ev T = x at h1' hw
        cases h1' <;> first | (cases hw; done) | (simp only [Option.some.injEq] at hw; subst hw; simp; done) | (simp only [Option.some.injEq] at hw; subst hw; rfl)
      · simp [hlt] at hc
    · cases hc

section
variable {P : Program} {β : Bt} {B0 : Nat} {S : St} {w : World} {ps nt : Nat} {ops : Array Oper}

/-- One operation of a region, wanted or not. -/
theorem step_sound {call : Cll} (hcall : CallOk P B0 call) {T : Tm} {a : Act} (hwf : S.wf) (hR : Rel β B0 S.h w) (hT : TRel β ps nt T a) {i : Nat} {o : Oper} (ho : ops[i]? = some o) {o1 : Op1} (hc : comp1 P ps ops nt o = some o1) {T' : Tm} {S' : St}
    (hs : step1 call o1 T S = some (T', S')) (hfree : Free β S.nx S'.nx) {K : Act → World → Prop} {Q : Exit → Act → World → Prop}
    (h : ∀ γ v v' w', T' = T.put v o1.dst → VR γ v v' → Stp B0 β S w γ S' w' → K (a.put o.dst v') w') : wpOp P ops Q i K a w := by
  obtain ⟨xs, h1, h2, h3, h4, h5⟩ := comp1_spec hc
  unfold wpOp
  simp only [ho]
  unfold step1 at hs
  split at hs
  · rename_i hw
    rw [wants_spec hT h2 hw, if_pos rfl]
    split at hs
    · rename_i v S1 he
      cases hs
      exact .inl (op_sound hwf hR h1 (opds_ev hR.gl.nm hT h3) hcall he hfree fun γ v' w' g1 g2 => h γ v v' w' rfl g1 g2)
    · cases hs
  · rename_i hw
    rw [wants_spec hT h2 hw, if_neg (by simp)]
    cases hs
    exact h β (.tup []) undef w rfl (.tup .nil) (Stp.refl hR)
  · cases hs

/-- A region in its written order. -/
theorem region_plain {call : Cll} (hcall : CallOk P B0 call) (hgr : Grows call) {l : List Op1} (hl : mapO (comp1 P ps ops nt) ops.toList = some l) {Q : Exit → Act → World → Prop} {T' : Tm} {S' : St} :
    ∀ (n i : Nat), i + n = ops.size → ∀ {β : Bt} {S : St} {w : World} {T : Tm} {a : Act}, S.wf → Rel β B0 S.h w → TRel β ps nt T a → runOps call (l.drop i) T S = some (T', S') → Free β S.nx S'.nx →
      (∀ γ a' w', TRel γ ps nt T' a' → Stp B0 β S w γ S' w' → Q .normal a' w') → wpOps P ops Q (List.range' i n) a w := by
  have hlen : ops.size = l.length := by have := mapO_len hl; simpa using this
  intro n
  induction n with
  | zero =>
    intro i hi β S w T a hwf hR hT hs hfree h
    rw [List.drop_of_length_le (by omega)] at hs
    cases hs
    exact h β a w hT (Stp.refl hR)
  | succ n ih =>
    intro i hi β S w T a hwf hR hT hs hfree h
    rw [List.range'_succ, wpOps_cons]
    have hi2 : i < ops.size := by omega
    have ho : ops[i]? = some ops[i] := Array.getElem?_eq_getElem hi2
    obtain ⟨o1, hc, ho1⟩ := mapO_get hl i ops[i] (by simp)
    have hd : l.drop i = o1 :: l.drop (i + 1) := by
      rw [List.drop_eq_getElem_cons (by omega)]
      congr 1
      rw [List.getElem?_eq_getElem (by omega)] at ho1
      exact Option.some.inj ho1
    rw [hd] at hs
    rw [runOps_cons] at hs
    split at hs
    · rename_i T1 S1 he
      have hn1 := (runOps_gr hgr hs).nx
      obtain ⟨_, _, _, _, h4, h5⟩ := comp1_spec hc
      refine step_sound hcall hwf hR hT ho hc he (hfree.left hn1) fun γ v v' w' hT1 g1 g2 => ?_
      subst hT1
      refine ih (i + 1) (by omega) ((step1_gr hgr he).wf hwf) g2.rel ?_ hs (hfree.right g2) fun δ a' w'' g3 g4 => h δ a' w'' g3 (g2.trans g4)
      rw [h4]
      exact (hT.mono g2.ext).put g1 _ h5
    · cases hs
end
end Go.AM

/- Code and calls: the abstract machine's run is the model's. Regions are taken as given here. -/
set_option linter.unusedVariables false
set_option linter.unusedSimpArgs false
namespace Go.AM
open Go.RowKit (Below)

/-! ### memory only grows, by code -/
def GrowsE (E : Ec) : Prop := ∀ c T S x T' S', E c T S = some (x, T', S') → Gr S S'
theorem callOf_grows {F : Nat → Option AFn} {E : Ec} (h : GrowsE E) : Grows (callOf F E) := by
  intro f vs S v S' hs
  unfold callOf at hs
  split at hs
  · cases hs
  · split at hs
    · rename_i T' S1 he
      rw [Option.map_eq_some_iff] at hs
      obtain ⟨u, _, hu⟩ := hs
      cases hu
      exact h _ _ _ _ _ _ he
    · rename_i T' S1 he
      rw [Option.map_eq_some_iff] at hs
      obtain ⟨u, _, hu⟩ := hs
      cases hu
      exact h _ _ _ _ _ _ he
    · cases hs
theorem trace_gr {call : Cll} (hcall : Grows call) : ∀ {l : List Op1} {T : Tm} {S : St} {tr : List (Tm × St)}, trace call l T S = some tr → ∀ {p : Tm × St}, lastOf tr = some p → Gr S p.2
  | [], T, S, tr, h, p, hp => by cases h; cases hp; exact Gr.refl _
  | o :: r, T, S, tr, h, p, hp => by
    unfold trace at h
    split at h
    · rename_i T1 S1 he
      rw [Option.map_eq_some_iff] at h
      obtain ⟨u, hu, rfl⟩ := h
      have h1 := step1_gr hcall he
      cases u with
      | nil =>
        exfalso
        revert hu
        cases r with
        | nil => unfold trace; intro h; cases h
        | cons o r =>
          unfold trace
          split
          · rw [Option.map_eq_some_iff]; rintro ⟨_, _, h⟩; cases h
          · intro h; cases h
      | cons y u => exact h1.trans (trace_gr hcall hu (by simpa [lastOf] using hp))
    · cases h
theorem xWords_gr {ls : List (List UInt8)} {S S' : St} {v : AV} (h : xWords ls S = some (v, S')) : Gr S S' := by
  cases h
  exact Gr.new _ rfl
theorem extSem_gr {k : Nat} {vs : List AV} {S S' : St} {v : AV} (h : extSem k vs S = some (v, S')) : Gr S S' := by
  unfold extSem at h
  split at h
  · unfold xSort at h
    split at h
    · split at h
      · split at h
        · split at h
          · cases h
          · split at h
            · rename_i hw; cases h; exact wrCells_gr hw
            · cases h
        · cases h
      · cases h
    · cases h; exact Gr.refl _
    · cases h
  · unfold xItoa at h
    split at h
    · cases hb : fits _ <;> rw [hb] at h <;> cases h; exact Gr.refl _
    · cases h
  · unfold xFields at h
    split at h
    · rw [cond_eq_ite] at h
      split at h
      · exact xWords_gr h
      · cases h
    · cases h
  · unfold xSplit at h
    split at h
    · rw [cond_eq_ite] at h
      split at h
      · exact xWords_gr h
      · cases h
    · cases h
  · unfold xCut at h
    split at h
    · rw [cond_eq_ite] at h
      split at h
      · cases h; exact Gr.refl _
      · cases h
    · cases h
  · unfold xJoin at h
    split at h
    · split at h
      · split at h
        · split at h
          · cases h
          · rw [cond_eq_ite] at h
            split at h
            · cases h; exact Gr.refl _
            · cases h
        · cases h
      · cases h
    · cases h
  · unfold xText at h
    split at h
    · rw [cond_eq_ite] at h
      split at h
      · cases h; exact Gr.refl _
      · split at h
        · split at h
          · split at h
            · rw [cond_eq_ite] at h
              split at h
              · cases h; exact Gr.refl _
              · cases h
            · cases h
          · cases h
        · cases h
    · cases h
  · unfold xAtoi at h
    split at h
    · rw [cond_eq_ite] at h
      split at h
      · cases h; exact Gr.refl _
      · cases h
    · cases h
theorem exec1_grows {F : Nat → Option AFn} {E : Ec} (h : GrowsE E) : GrowsE (exec1 F E) := by
  have hc := callOf_grows (F := F) h
  intro c T S x T' S' hs
  cases c with
  | skip => cases hs; exact Gr.refl _
  | reg ops =>
    simp only [exec1, xReg] at hs
    split at hs
    · rename_i he; cases hs; exact runOps_gr hc he
    · cases hs
  | regD ops chk =>
    simp only [exec1, xRegD] at hs
    split at hs
    · rename_i tr he
      rw [cond_eq_ite] at hs
      split at hs
      · rw [Option.map_eq_some_iff] at hs
        obtain ⟨p, hp, hq⟩ := hs
        cases hq
        exact trace_gr hc he hp
      · cases hs
    · cases hs
  | seq a b =>
    simp only [exec1, xSeq] at hs
    split at hs
    · rename_i he; exact (h _ _ _ _ _ _ he).trans (h _ _ _ _ _ _ hs)
    · exact h _ _ _ _ _ _ hs
  | cond c x y =>
    simp only [exec1, xCond] at hs
    split at hs
    · exact h _ _ _ _ _ _ hs
    · exact h _ _ _ _ _ _ hs
    · cases hs
  | block id c =>
    simp only [exec1, xBlock] at hs
    split at hs
    · rename_i he
      rw [cond_eq_ite] at hs
      split at hs <;> (cases hs; exact h _ _ _ _ _ _ he)
    · exact h _ _ _ _ _ _ hs
  | loop c =>
    simp only [exec1, xLoop] at hs
    split at hs
    · rename_i he; exact (h _ _ _ _ _ _ he).trans (h _ _ _ _ _ _ hs)
    · exact h _ _ _ _ _ _ hs
  | exit id => cases hs; exact Gr.refl _
  | ret => cases hs; exact Gr.refl _
  | ext k =>
    simp only [exec1] at hs
    split at hs
    · rename_i he; cases hs; exact extSem_gr he
    · cases hs
theorem exec_grows (F : Nat → Option AFn) : ∀ n, GrowsE (exec F n)
  | 0 => fun _ _ _ _ _ _ h => by cases h
  | n + 1 => exec1_grows (exec_grows F n)

/-! ### results -/
section
variable {P : Program} {β : Bt} {B0 : Nat} {h : PM AB} {w : World} {ps nt : Nat}

def resGet (tmps : Array Value) : ResultVar → Sem Value
  | .tmp t => pure (tmps.getD t undef)
  | .cell a t => do loadVar t (← asAddr (tmps.getD a undef))
theorem results_eq (fn : Func) (tmps : Array Value) : results fn tmps = (do let vs ← fn.results.mapM (resGet tmps); pure (if h : vs.size = 1 then vs[0] else .tuple vs)) := by
  unfold results
  congr 1

theorem resOne_run (hR : Rel β B0 h w) {T : Tm} {a : Act} (hT : TRel β ps nt T a) {r : ResultVar} {s : ResV} (hc : compRes P ps nt r = some s) {v : AV} (hv : resOne T h s = some v) :
    ∃ v', (resGet a.tmps r).run P w = .ok v' w ∧ VR β v v' := by
  cases r with
  | tmp t =>
    simp only [compRes, blt_nat] at hc
    by_cases ht : t < nt
    · simp only [ht, decide_true, cond_true, Option.some.injEq] at hc
      subst hc
      cases hv
      exact ⟨_, rfl, hT.tm t ht⟩
    · simp [ht] at hc
  | cell t ty =>
    simp only [compRes, blt_nat] at hc
    by_cases ht : t < nt
    · simp only [ht, decide_true, cond_true, Option.map_eq_some_iff] at hc
      obtain ⟨sz, hsz, rfl⟩ := hc
      simp only [resOne] at hv
      have h1 : VR β ((opT ps t).ev T) (a.tmps.getD t undef) := hT.tm t ht
      show ∃ v', (do loadVar ty (← asAddr (a.tmps.getD t undef)) : Sem Value).run P w = .ok v' w ∧ VR β v v'
      generalize a.tmps.getD t undef = y at h1 ⊢
      generalize (opT ps t).ev T = x at h1 hv
      split at hv
      · rename_i ad
        obtain ⟨v', h2, h3⟩ := g_ld (P := P) hR hsz (.cons h1 .nil) (vs := [.p (some ad)]) (v := v) hv
        cases h1
        refine ⟨v', ?_, h3⟩
        simpa [Instr.loadAt, Instr.sureAddr, asAddr] using h2
      · cases hv
    · simp [ht] at hc

theorem resL_run (hR : Rel β B0 h w) {T : Tm} {a : Act} (hT : TRel β ps nt T a) : ∀ {rs : List ResultVar} {ss : List ResV}, mapO (compRes P ps nt) rs = some ss → ∀ {vs : List AV}, resL T h ss = some vs →
    ∃ vs', (rs.mapM (resGet a.tmps)).run P w = .ok vs' w ∧ VRs β vs vs'
  | [], ss, hc, vs, hv => by simp [mapO] at hc; subst hc; cases hv; exact ⟨[], rfl, .nil⟩
  | r :: rs, ss, hc, vs, hv => by
    unfold mapO at hc
    split at hc
    · rename_i s hs
      rw [Option.map_eq_some_iff] at hc
      obtain ⟨ss', hss, rfl⟩ := hc
      simp only [resL] at hv
      split at hv
      · rename_i v hv1
        rw [Option.map_eq_some_iff] at hv
        obtain ⟨vs1, hvs, rfl⟩ := hv
        obtain ⟨v', h1, h2⟩ := resOne_run hR hT hs hv1
        obtain ⟨vs', h3, h4⟩ := resL_run hR hT hss hvs
        refine ⟨v' :: vs', ?_, .cons h2 h4⟩
        simp only [List.mapM_cons, Sem.run_bind, h1, Result.andThen_ok, h3, Sem.run_pure]
      · cases hv
    · cases hc

theorem results_sound (hR : Rel β B0 h w) {T : Tm} {a : Act} (hT : TRel β ps nt T a) {fn : Func} {ss : List ResV} (hc : mapO (compRes P ps nt) fn.results.toList = some ss) {v : AV} (hv : resV T h ss = some v) :
    ∃ v', (results fn a.tmps).run P w = .ok v' w ∧ VR β v v' := by
  unfold resV at hv
  have key : ∀ vs, resL T h ss = some vs → ∃ vs', (results fn a.tmps).run P w = .ok (if h : vs'.length = 1 then vs'[0] else .tuple vs'.toArray) w ∧ VRs β vs vs' := by
    intro vs hvs
    obtain ⟨vs', h1, h2⟩ := resL_run hR hT hc hvs
    refine ⟨vs', ?_, h2⟩
    rw [results_eq, Array.mapM_eq_mapM_toList]
    simp only [Sem.run_bind, map_eq_pure_bind, Sem.run_pure, h1, Result.andThen_ok, List.size_toArray]
    rfl
  split at hv
  · rename_i u hu
    cases hv
    obtain ⟨vs', h1, h2⟩ := key _ hu
    cases h2 with
    | cons h3 h4 => cases h4; exact ⟨_, h1, h3⟩
  · rename_i vs hne hu
    cases hv
    obtain ⟨vs', h1, h2⟩ := key _ hu
    refine ⟨_, h1, ?_⟩
    rw [dif_neg (fun e => ?_)]
    · exact .tup h2
    · have := h2.length
      rw [e] at this
      match vs, this with
      | [x], _ => exact hne x rfl
  · cases hv
end

/-! ### code -/
def exitOf : Ex → Exit
  | .norm => .normal
  | .ex id => .exit id
  | .ret => .ret

/-- what a piece of code of the abstract machine says of the model's -/
def Says (P : Program) (B0 ps nt : Nat) (c : Code) (T : Tm) (S : St) (x : Ex) (T' : Tm) (S' : St) : Prop :=
  ∀ β w a (Q : Exit → Act → World → Prop), S.wf → Rel β B0 S.h w → TRel β ps nt T a → Free β S.nx S'.nx →
    (∀ γ a' w', TRel γ ps nt T' a' → Stp B0 β S w γ S' w' → Q (exitOf x) a' w') → c.wp P Q a w

/-- Regions: what is to be shown of them. -/
def RegOk (P : Program) (B0 : Nat) (F : Nat → Option AFn) (E : Ec) : Prop :=
  ∀ ps nt id ops d c, compReg P ps nt ops d = some c → ∀ T S x T' S', exec1 F E c T S = some (x, T', S') → Says P B0 ps nt (.region id ops d) T S x T' S'

def ExecOk (P : Program) (B0 : Nat) (E : Ec) : Prop :=
  ∀ ps nt c c', compCode P ps nt c = some c' → ∀ T S x T' S', E c' T S = some (x, T', S') → Says P B0 ps nt c T S x T' S'
def LoopOk (P : Program) (B0 : Nat) (E : Ec) (n : Nat) : Prop :=
  ∀ ps nt c c', compCode P ps nt c = some c' → ∀ T S x T' S', E (.loop c') T S = some (x, T', S') →
    ∀ β w a (Q : Exit → Act → World → Prop), S.wf → Rel β B0 S.h w → TRel β ps nt T a → Free β S.nx S'.nx →
    (∀ γ a' w', TRel γ ps nt T' a' → Stp B0 β S w γ S' w' → Q (exitOf x) a' w') → Code.rounds P c Q n a w

theorem initL_get : ∀ (vs : List AV) (k t : Nat), aget (initL vs k) t = if k ≤ t then (vs[t - k]?).getD .bad else .bad
  | [], k, t => by simp [initL, aget_nil]
  | v :: vs, k, t => by
    simp only [initL, aget_cons, beq_nat]
    by_cases h : k = t
    · subst h; simp
    · simp only [h, decide_false, cond_false]
      rw [initL_get vs (k + 1) t]
      by_cases h1 : k ≤ t
      · rw [if_pos (by omega), if_pos h1, show t - k = (t - (k + 1)) + 1 by omega]; rfl
      · rw [if_neg (by omega), if_neg h1]
theorem init_TRel {β : Bt} {ps nt : Nat} {vs : List AV} {as : Array Value} (h : VRs β vs as.toList) : TRel β ps nt (initT vs) { tmps := as ++ Array.replicate (nt - as.size) undef, defers := [] } := by
  refine ⟨by simp; omega, fun t ht => ?_, rfl⟩
  unfold Tm.at opT
  cases per ps t
  · exact .bad _
  · show VR β (aget (initL vs 0) t) _
    rw [initL_get, if_pos (Nat.zero_le _)]
    cases hg : vs[t - 0]? with
    | none => exact .bad _
    | some v =>
      obtain ⟨v', h1, h2⟩ := h.get hg
      have : (as ++ Array.replicate (nt - as.size) undef).getD t undef = v' := by
        have hlt : t < as.size := by
          have := (List.getElem?_eq_some_iff.1 h1).1
          simpa using this
        rw [Array.getD_eq_getD_getElem?, Array.getElem?_append_left hlt]
        rw [Nat.sub_zero, Array.getElem?_toList] at h1
        rw [h1]; rfl
      rw [this]; exact h2

section
variable {P : Program} {B0 : Nat} {F : Nat → Option AFn}

/-- what stands for a function of which it is known that it answers true, wherever -/
def kTrue : AFn := ⟨.ret, [.tmp (.c (.b true))]⟩
/-- it answers true, wherever, and leaves all that was as it was -/
def KnownTrue (P : Program) (f : Nat) : Prop := (∃ fn, P.funcs[f]? = some fn ∧ fn.body.isSome = true ∧ (fn.name == "runtime.NumGoroutine") = false) ∧
  ∀ as w, GN ≤ w.heap.size → GW w → Calls P f as w fun e w' => e = .returned (.bool true) ∧ Below w.heap.size w w'
/-- what stands for a function of the library -/
def kExt (k : Nat) : AFn := ⟨.ext k, [.tmp (.l 0)]⟩
/-- it does what is said of it -/
def ExtOk (P : Program) (f k : Nat) : Prop := (∃ fn, P.funcs[f]? = some fn ∧ fn.body.isSome = true ∧ (fn.name == "runtime.NumGoroutine") = false) ∧
  ∀ B0 β w S vs (as : Array Value) v S', extSem k vs S = some (v, S') → S.wf → VRs β vs as.toList → Rel β B0 S.h w → Free β S.nx S'.nx →
    Calls P f as w fun e w' => ∃ γ v', e = .returned v' ∧ VR γ v v' ∧ Stp B0 β S w γ S' w'
/-- each function of the table is compiled from the program's, or known -/
def TblOk (P : Program) (F : Nat → Option AFn) : Prop := ∀ f fn, F f = some fn → (∃ ps g, P.funcs[f]? = some g ∧ compFn P ps g = some fn) ∨ (fn = kTrue ∧ KnownTrue P f) ∨ (∃ k, fn = kExt k ∧ ExtOk P f k)
def RetE (E : Ec) : Prop := (∀ T S r, E .ret T S = some r → r = (.ret, T, S)) ∧ ∀ k T S r, E (.ext k) T S = some r → ∃ v S', extSem k (T.l.map fun x => x.2) S = some (v, S') ∧ r = (.ret, { T with l := [(0, v)] }, S')
theorem exec_ret (F : Nat → Option AFn) : ∀ n, RetE (exec F n)
  | 0 => ⟨(by intro T S r h; cases h), (by intro k T S r h; cases h)⟩
  | n + 1 => by
    refine ⟨by intro T S r h; cases h; rfl, ?_⟩
    intro k T S r h
    change (match extSem k (T.l.map fun x => x.2) S with | some (v, S') => some (.ret, { T with l := [(0, v)] }, S') | none => none) = some r at h
    split at h
    · rename_i v S' he
      cases h
      exact ⟨v, S', he, rfl⟩
    · cases h
theorem initL_vals : ∀ (vs : List AV) (n : Nat), (initL vs n).map (fun x => x.2) = vs
  | [], _ => rfl
  | v :: r, n => by
    show v :: (initL r (Nat.succ n)).map _ = _
    rw [initL_vals r]
theorem stp_below {β : Bt} {S : St} {w w' : World} (hR : Rel β B0 S.h w) (hb : Below w.heap.size w w') : Stp B0 β S w β S w' := by
  have hsz := hb.size
  refine ⟨Ext.refl β, fun n h1 h2 => absurd h1 h2, ⟨fun n bl b o z hg hn => (hR.blk n bl b o z hg hn).congr (hb.block b (hR.lt hg hn)), hR.inj, ?_, hR.gl.mono (Ext.refl β) fun k hk => hb.block k (Nat.lt_of_lt_of_le hk hR.le)⟩, ⟨hb.os, hb.tape, hb.output, hb.size, fun k hk => hb.block k ?_⟩, fun b hlt _ => hb.block b hlt, fun b ho => .inr ho, fun _ _ _ => rfl, Nat.le_refl _⟩
  · have := hR.le; omega
  · have := hR.le; omega

theorem call_ok (hF : TblOk P F) {E : Ec} (hE : ExecOk P B0 E) (hret : RetE E) : CallOk P B0 (callOf F E) := by
  intro f vs S v S' hs
  unfold callOf at hs
  split at hs
  · cases hs
  · rename_i fn hf
    rcases hF f fn hf with ⟨ps, g, hg, hc⟩ | ⟨hk, hkn, hk2⟩ | ⟨k, hk, hkn, hk2⟩
    case inr.inr =>
      subst hk
      have fin : extSem k vs S = some (v, S') := by
        split at hs
        · rename_i T' S1 he
          obtain ⟨_, _, _, e2⟩ := hret.2 _ _ _ _ he
          cases e2
        · rename_i T' S1 he
          obtain ⟨v1, S2, e1, e2⟩ := hret.2 _ _ _ _ he
          cases e2
          have e3 : (initT vs).l.map (fun x => x.2) = vs := initL_vals vs 0
          rw [e3] at e1
          rw [e1]
          simp only [kExt, resV, resL, resOne, Opd.ev, Option.map_some, Option.some.injEq, Prod.mk.injEq] at hs
          have e4 : aget [((0 : Nat), v1)] 0 = v1 := rfl
          rw [← hs.1, ← hs.2]
          rfl
        · cases hs
      exact ⟨hkn, fun β w as hwf hvs hR hfree => hk2 B0 β w S vs as v S' fin hwf hvs hR hfree⟩
    case inr.inl =>
      subst hk
      have fin : v = .b true ∧ S' = S := by
        split at hs
        · rename_i T' S1 he
          cases hret.1 _ _ _ he
        · rename_i T' S1 he
          cases hret.1 _ _ _ he
          simp only [kTrue, resV, resL, resOne, Opd.ev, Option.map_some, Option.some.injEq, Prod.mk.injEq] at hs
          exact ⟨hs.1.symm, hs.2.symm⟩
        · cases hs
      obtain ⟨rfl, rfl⟩ := fin
      refine ⟨hkn, fun β w as hwf hvs hR hfree => (hk2 as w (Nat.le_trans hR.gl.le hR.le) hR.gl.gw).mono ?_⟩
      rintro e w' ⟨rfl, hb⟩
      exact ⟨β, .bool true, rfl, .b true, stp_below hR hb⟩
    unfold compFn at hc
    split at hc
    · cases hc
    · rename_i c hb
      rw [cond_eq_ite] at hc
      split at hc
      · rename_i hname
        split at hc
        · rename_i b r hcb hcr
          cases hc
          simp only at hs
          refine ⟨⟨g, hg, by rw [hb]; rfl, by simpa using hname⟩, fun β w as hwf hvs hR hfree => ?_⟩
          have fin : ∀ x T' S1, E b (initT vs) S = some (x, T', S1) → (∀ R : Exit → Act → World → Prop, True) → (exitOf x = .normal ∨ exitOf x = .ret) → (resV T' S1.h r).map (fun v => (v, S1)) = some (v, S') →
              Calls P f as w fun e w' => ∃ γ v', e = .returned v' ∧ VR γ v v' ∧ Stp B0 β S w γ S' w' := by
            intro x T' S1 he _ hx hr
            rw [Option.map_eq_some_iff] at hr
            obtain ⟨u, hu, hq⟩ := hr
            cases hq
            refine calls_of_wp hg hb (hE ps g.ntmps c b hcb _ _ _ _ _ he β w _ _ hwf hR (init_TRel hvs) hfree fun γ a' w' h1 h2 => ?_)
            obtain ⟨v', h3, h4⟩ := results_sound h2.rel h1 hcr hu
            rcases hx with hx | hx <;> rw [hx] <;> exact ⟨h1.df, v', h3, γ, v', rfl, h4, h2⟩
          split at hs
          · rename_i T' S1 he
            exact fin _ _ _ he (fun _ => trivial) (.inl rfl) hs
          · rename_i T' S1 he
            exact fin _ _ _ he (fun _ => trivial) (.inr rfl) hs
          · cases hs
        · cases hc
      · cases hc

theorem exec_ok (hreg : ∀ E, ExecOk P B0 E → GrowsE E → RetE E → RegOk P B0 F E) : ∀ n, ExecOk P B0 (exec F n) ∧ LoopOk P B0 (exec F n) n := by
  intro n
  induction n with
  | zero =>
    refine ⟨?_, ?_⟩
    · intro ps nt c c' hc T S x T' S' h; cases h
    · intro ps nt c c' hc T S x T' S' h; cases h
  | succ n ih =>
    obtain ⟨hE, hL⟩ := ih
    have hG := exec_grows F n
    have hLoop : LoopOk P B0 (exec F (n + 1)) (n + 1) := by
      intro ps nt c c' hc T S x T' S' hs β w a Q hwf hR hT hfree h
      rw [rounds_succ]
      change xLoop (exec F n) c' T S = _ at hs
      unfold xLoop at hs
      split at hs
      · rename_i T1 S1 he
        have hn := (hG _ _ _ _ _ _ hs).nx
        have hwf1 := (hG _ _ _ _ _ _ he).wf hwf
        refine hE ps nt c c' hc _ _ _ _ _ he β w a _ hwf hR hT (hfree.left hn) fun γ a' w' h1 h2 => ?_
        exact hL ps nt c c' hc _ _ _ _ _ hs γ w' a' Q hwf1 h2.rel h1 (hfree.right h2) fun δ a'' w'' h3 h4 => h δ a'' w'' h3 (h2.trans h4)
      · rename_i he
        refine hE ps nt c c' hc _ _ _ _ _ hs β w a _ hwf hR hT hfree fun γ a' w' h1 h2 => ?_
        have := h γ a' w' h1 h2
        cases x with
        | norm => exact absurd hs (he T' S')
        | ex id => exact this
        | ret => exact this
    refine ⟨?_, hLoop⟩
    intro ps nt c c' hc T S x T' S' hs
    have hreg' := hreg (exec F n) hE hG (exec_ret F n)
    change exec1 F (exec F n) c' T S = _ at hs
    intro β w a Q hwf hR hT hfree h
    cases c with
    | skip => cases hc; cases hs; exact wp_skip (h β a w hT (Stp.refl hR))
    | region id ops d => exact hreg' ps nt id ops d c' hc T S x T' S' hs β w a Q hwf hR hT hfree h
    | seq y z =>
      simp only [compCode] at hc
      split at hc
      · rename_i y' z' hy hz
        cases hc
        change xSeq (exec F n) y' z' T S = _ at hs
        unfold xSeq at hs
        refine wp_seq ?_
        split at hs
        · rename_i T1 S1 he
          have hn := (hG _ _ _ _ _ _ hs).nx
          have hwf1 := (hG _ _ _ _ _ _ he).wf hwf
          refine hE ps nt y y' hy _ _ _ _ _ he β w a _ hwf hR hT (hfree.left hn) fun γ a' w' h1 h2 => ?_
          exact hE ps nt z z' hz _ _ _ _ _ hs γ w' a' Q hwf1 h2.rel h1 (hfree.right h2) fun δ a'' w'' h3 h4 => h δ a'' w'' h3 (h2.trans h4)
        · rename_i he
          refine hE ps nt y y' hy _ _ _ _ _ hs β w a _ hwf hR hT hfree fun γ a' w' h1 h2 => ?_
          have := h γ a' w' h1 h2
          cases x with
          | norm => exact absurd hs (he T' S')
          | ex id => exact this
          | ret => exact this
      · cases hc
    | cond b y z =>
      simp only [compCode] at hc
      split at hc
      · rename_i b' y' z' hb hy hz
        cases hc
        change xCond (exec F n) b' y' z' T S = _ at hs
        unfold xCond at hs
        have hbv := opd_ev hR.gl.nm hT hb
        split at hs
        · rename_i he
          rw [he] at hbv
          have hbv' : a.eval b = .bool true := by generalize a.eval b = q at hbv; cases hbv; rfl
          exact wp_cond_true hbv' (hE ps nt y y' hy _ _ _ _ _ hs β w a Q hwf hR hT hfree h)
        · rename_i he
          rw [he] at hbv
          have hbv' : a.eval b = .bool false := by generalize a.eval b = q at hbv; cases hbv; rfl
          exact wp_cond_false hbv' (hE ps nt z z' hz _ _ _ _ _ hs β w a Q hwf hR hT hfree h)
        · cases hs
      · cases hc
    | block id y =>
      simp only [compCode, Option.map_eq_some_iff] at hc
      obtain ⟨y', hy, rfl⟩ := hc
      change xBlock (exec F n) id y' T S = _ at hs
      unfold xBlock at hs
      refine wp_block ?_
      split at hs
      · rename_i j T1 S1 he
        rw [beq_nat] at hs
        by_cases hj : j = id
        · simp only [hj, decide_true, cond_true] at hs
          cases hs
          refine hE ps nt y y' hy _ _ _ _ _ he β w a _ hwf hR hT hfree fun γ a' w' h1 h2 => ?_
          have := h γ a' w' h1 h2
          simp only [exitOf, Exit.inBlock, hj, if_true]
          exact this
        · simp only [hj, decide_false, cond_false] at hs
          cases hs
          refine hE ps nt y y' hy _ _ _ _ _ he β w a _ hwf hR hT hfree fun γ a' w' h1 h2 => ?_
          have := h γ a' w' h1 h2
          simp only [exitOf, Exit.inBlock, hj, if_false]
          exact this
      · rename_i he
        refine hE ps nt y y' hy _ _ _ _ _ hs β w a _ hwf hR hT hfree fun γ a' w' h1 h2 => ?_
        have := h γ a' w' h1 h2
        cases x with
        | norm => exact this
        | ex j => exact absurd hs (he j T' S')
        | ret => exact this
    | loop y =>
      simp only [compCode, Option.map_eq_some_iff] at hc
      obtain ⟨y', hy, rfl⟩ := hc
      exact wp_loop_rounds (n + 1) (hLoop ps nt y y' hy T S x T' S' hs β w a Q hwf hR hT hfree h)
    | exit id => cases hc; cases hs; exact wp_exit (h β a w hT (Stp.refl hR))
    | ret => cases hc; cases hs; exact wp_ret (h β a w hT (Stp.refl hR))
    | _ => cases hc
/-- the memory that is there at first: the package variables -/
noncomputable def S0 : St := ⟨.node (some (.ro (GC 0))) .nil .nil, GN⟩
def B0g : Bt := fun n => if n < GN then some (n, 0, 0) else none
theorem get_S0 {n : Nat} {bl : AB} (h : S0.h.get n = some bl) : n = 0 ∧ bl = .ro (GC 0) := by
  have e : S0.h.get n = bif Nat.beq n 0 then some (.ro (GC 0)) else bif Nat.beq (Nat.mod n 2) 1 then none else none := rfl
  rw [e] at h
  by_cases hn : n = 0
  · subst hn; cases h; exact ⟨rfl, rfl⟩
  · rw [beq_nat] at h
    simp only [hn, decide_false, cond_false] at h
    cases hb : Nat.beq (Nat.mod n 2) 1 <;> rw [hb] at h <;> cases h
theorem wf_S0 : S0.wf := fun m bl h => by
  obtain ⟨rfl, _⟩ := get_S0 h
  exact Nat.lt_succ_self 0
theorem rel_S0 {w : World} (hgn : GN ≤ w.heap.size) (hgw : GW w) : Rel B0g w.heap.size S0.h w := by
  refine ⟨?_, ?_, Nat.le_refl _, ⟨fun g hg => if_pos hg, hgn, hgw⟩⟩
  · intro n bl b o z hg hn
    obtain ⟨rfl, rfl⟩ := get_S0 hg
    have e : B0g 0 = some (0, 0, 0) := rfl
    rw [e] at hn
    cases hn
    obtain ⟨cur, t, fr, h1, h2, _⟩ := hgw 0 (Nat.lt_succ_self 0)
    exact ⟨cur, t, fr, h1, h2.mono fun _ _ h => by cases h⟩
  · intro n m bl bm b x y hg _ ho
    obtain ⟨rfl, rfl⟩ := get_S0 hg
    cases ho
theorem free_S0 {k : Nat} : Free B0g S0.nx k := fun j h1 _ => if_neg (by have : GN ≤ j := h1; omega)
/-- A body that ends with true, whatever the temporaries held. -/
theorem known_true (hm : ∀ B0 E, ExecOk P B0 E → GrowsE E → RetE E → RegOk P B0 F E) {ps f : Nat} {g : Func} {fn : AFn} (hg : P.funcs[f]? = some g) (hc : compFn P ps g = some fn) {n : Nat} {x : Ex} {T' : Tm} {S' : St}
    (he : exec F n fn.body ⟨[], []⟩ S0 = some (x, T', S')) (hx : (match x with | .ex _ => false | _ => true) = true) (hv : resV T' S'.h fn.res = some (.b true)) : KnownTrue P f := by
  unfold compFn at hc
  split at hc
  · cases hc
  · rename_i c hb
    rw [cond_eq_ite] at hc
    split at hc
    · rename_i hname
      split at hc
      · rename_i b r hcb hcr
        cases hc
        simp only at he hv
        refine ⟨⟨g, hg, by rw [hb]; rfl, by simpa using hname⟩, fun as w hgn hgw => ?_⟩
        have hR := rel_S0 hgn hgw
        refine calls_of_wp hg hb ((exec_ok (hm w.heap.size) n).1 ps g.ntmps c b hcb _ _ _ _ _ he B0g w _ _ wf_S0 hR ⟨by simp; omega, fun t ht => ?_, rfl⟩ free_S0 fun γ a' w' h1 h2 => ?_)
        · have : Tm.at ps ⟨[], []⟩ t = .bad := by unfold Tm.at opT; cases per ps t <;> rfl
          rw [this]; exact .bad _
        · obtain ⟨v', h3, h4⟩ := results_sound h2.rel h1 hcr hv
          cases h4
          cases x with
          | norm => exact ⟨h1.df, _, h3, rfl, h2.bel⟩
          | ret => exact ⟨h1.df, _, h3, rfl, h2.bel⟩
          | ex j => cases hx
      · cases hc
    · cases hc
end
end Go.AM

/- Regions whose order is open: the order facts and the states on the way. -/
set_option linter.unusedVariables false
set_option linter.unusedSimpArgs false
namespace Go.AM
open Go.RowKit (Below)

/-! ### the states on the way -/
def Way (call : Cll) (l : List Op1) (ts : Nat → Tm) (ss : Nat → St) : Prop :=
  ∀ i o, l[i]? = some o → step1 call o (ts i) (ss i) = some (ts (i + 1), ss (i + 1))

theorem lastOf_cons {x y : Tm × St} {r : List (Tm × St)} : lastOf (x :: y :: r) = lastOf (y :: r) := rfl
theorem way_of_trace {call : Cll} : ∀ {l : List Op1} {T : Tm} {S : St} {tr : List (Tm × St)}, trace call l T S = some tr →
    ∃ ts ss, ts 0 = T ∧ ss 0 = S ∧ Way call l ts ss ∧ (∀ i, i ≤ l.length → tr[i]? = some (ts i, ss i)) ∧ lastOf tr = some (ts l.length, ss l.length)
  | [], T, S, tr, h => by
    cases h
    refine ⟨fun _ => T, fun _ => S, rfl, rfl, fun i o h => by simp at h, fun i hi => ?_, rfl⟩
    have : i = 0 := by simpa using hi
    subst this; rfl
  | o :: r, T, S, tr, h => by
    unfold trace at h
    split at h
    · rename_i T1 S1 he
      rw [Option.map_eq_some_iff] at h
      obtain ⟨u, hu, rfl⟩ := h
      obtain ⟨ts, ss, h1, h2, h3, h4, h5⟩ := way_of_trace hu
      refine ⟨fun i => match i with | 0 => T | i + 1 => ts i, fun i => match i with | 0 => S | i + 1 => ss i, rfl, rfl, ?_, ?_, ?_⟩
      · intro i o' ho
        cases i with
        | zero =>
          simp only [List.getElem?_cons_zero, Option.some.injEq] at ho
          subst ho
          simp only [h1, h2]
          exact he
        | succ i => exact h3 i o' (by simpa using ho)
      · intro i hi
        cases i with
        | zero => rfl
        | succ i => simpa using h4 i (by simpa using hi)
      · have h0 := h4 0 (Nat.zero_le _)
        cases u with
        | nil => cases h0
        | cons y u => rw [lastOf_cons, h5]; rfl
    · cases h
theorem trace_of_run {call : Cll} : ∀ {l : List Op1} {T : Tm} {S : St} {p : Tm × St}, runOps call l T S = some p → ∃ tr, trace call l T S = some tr ∧ lastOf tr = some p
  | [], T, S, p, h => by cases h; exact ⟨_, rfl, rfl⟩
  | o :: r, T, S, p, h => by
    rw [runOps_cons] at h
    split at h
    · rename_i T1 S1 he
      obtain ⟨u, h1, h2⟩ := trace_of_run h
      refine ⟨(T, S) :: u, by unfold trace; rw [he]; simp only [h1, Option.map_some], ?_⟩
      cases u with
      | nil => cases h2
      | cons y u => rw [lastOf_cons, h2]
    · cases h

/-! ### what comes ahead of what -/
theorem fold_testBit (acc : List Nat) (i : Nat) : ∀ (ds : List Nat) (s : Nat), (ds.foldl (fun s e => s ||| 2 ^ e ||| acc.getD e 0) s).testBit i = true → s.testBit i = true ∨ ∃ e ∈ ds, i = e ∨ (acc.getD e 0).testBit i = true
  | [], s, h => .inl h
  | e :: ds, s, h => by
    rw [List.foldl_cons] at h
    rcases fold_testBit acc i ds _ h with h | ⟨e', he, h⟩
    · simp only [Nat.testBit_or, Bool.or_eq_true, Nat.testBit_two_pow, decide_eq_true_eq] at h
      rcases h with (h | h) | h
      · exact .inl h
      · exact .inr ⟨e, by simp, .inl h.symm⟩
      · exact .inr ⟨e, by simp, .inr h⟩
    · exact .inr ⟨e', by simp [he], h⟩
theorem befores_spec (D : Nat → List Nat) : ∀ (ds : List (List Nat)) (acc : List Nat), (∀ k x, ds[k]? = some x → D (acc.length + k) = x) →
    (∀ j i, (acc.getD j 0).testBit i = true → ∃ d ∈ D j, i = d ∨ (acc.getD d 0).testBit i = true) →
    ∀ j i, ((befores ds acc).getD j 0).testBit i = true → ∃ d ∈ D j, i = d ∨ ((befores ds acc).getD d 0).testBit i = true
  | [], acc, _, h => h
  | x :: r, acc, hD, h => by
    unfold befores
    have hx : D acc.length = x := by simpa using hD 0 x (by simp)
    have hget : ∀ d, d < acc.length → ∀ m, (acc ++ [m]).getD d 0 = acc.getD d 0 := fun d hd m => by
      rw [List.getD_eq_getElem?_getD, List.getD_eq_getElem?_getD, List.getElem?_append_left hd]
    have hno : ∀ d, ¬ d < acc.length → ∀ i, (acc.getD d 0).testBit i = true → False := fun d hd i hb => by
      rw [List.getD_eq_getElem?_getD, List.getElem?_eq_none (by omega)] at hb
      simp at hb
    have lift : ∀ m d i, (acc.getD d 0).testBit i = true → ((acc ++ [m]).getD d 0).testBit i = true := fun m d i hb => by
      by_cases hd : d < acc.length
      · rw [hget d hd]; exact hb
      · exact (hno d hd i hb).elim
    refine befores_spec D r _ (fun k y hk => ?_) (fun j i hb => ?_)
    · have := hD (k + 1) y (by simpa using hk)
      rw [← this]
      simp only [List.length_append, List.length_cons, List.length_nil]
      congr 1
      omega
    · by_cases hj : j < acc.length
      · rw [hget j hj] at hb
        obtain ⟨d, hd, h1 | h1⟩ := h j i hb
        · exact ⟨d, hd, .inl h1⟩
        · exact ⟨d, hd, .inr (lift _ d i h1)⟩
      · by_cases hj2 : j = acc.length
        · subst hj2
          rw [List.getD_eq_getElem?_getD, List.getElem?_append_right (Nat.le_refl _)] at hb
          simp only [Nat.sub_self, List.getElem?_cons_zero, Option.getD_some] at hb
          rcases fold_testBit acc i x 0 hb with h0 | ⟨e, he, h1⟩
          · simp at h0
          · rw [hx]
            refine ⟨e, he, h1.imp id (lift _ e i)⟩
        · rw [List.getD_eq_getElem?_getD, List.getElem?_eq_none (by simp; omega)] at hb
          simp at hb
def predsAt (ops : Array Oper) (j : Nat) : List Nat := ((ops.toList[j]?).map preds).getD []
theorem bef_step {ops : Array Oper} {i j : Nat} (h : bef (befores (ops.toList.map preds) []) i j = true) : ∃ d ∈ predsAt ops j, i = d ∨ bef (befores (ops.toList.map preds) []) i d = true := by
  refine befores_spec (predsAt ops) _ [] (fun k x hk => ?_) (fun j i hb => by simp at hb) j i h
  rw [List.getElem?_map] at hk
  show ((ops.toList[0 + k]?).map preds).getD [] = x
  rw [Nat.zero_add, hk]; rfl
theorem back_spec {ops : Array Oper} (h : backOk (ops.toList.map preds) = true) {j d : Nat} (hd : d ∈ predsAt ops j) : d < j := by
  unfold predsAt at hd
  cases ho : ops.toList[j]? with
  | none => rw [ho] at hd; simp at hd
  | some o =>
    rw [ho] at hd
    simp only [Option.map_some, Option.getD_some] at hd
    unfold backOk at h
    rw [List.all_eq_true] at h
    have h1 := h (preds o, j) (by rw [List.mem_zipIdx_iff_getElem?]; rw [List.getElem?_map, ho]; rfl)
    simp only [List.all_eq_true] at h1
    have := h1 d hd
    rw [blt_nat] at this
    exact of_decide_eq_true this
/-- what is closed under what must come ahead -/
theorem bef_closed {ops : Array Oper} (hb : backOk (ops.toList.map preds) = true) {X : Nat → Prop} (hX : ∀ j, X j → ∀ d ∈ predsAt ops j, X d) : ∀ (j : Nat), (∀ d ∈ predsAt ops j, X d) → ∀ i, bef (befores (ops.toList.map preds) []) i j = true → X i := by
  intro j
  induction j using Nat.strongRecOn with
  | _ j ih =>
    intro hj i h
    obtain ⟨d, hd, h1 | h1⟩ := bef_step h
    · subst h1; exact hj i hd
    · exact ih d (back_spec hb hd) (hX d (hj d hd)) i h1

theorem mem_effs {l : List Op1} {e : Nat} : e ∈ effs l ↔ ∃ o, l[e]? = some o ∧ isE o = true := by
  unfold effs
  simp only [List.mem_map, List.mem_filter, Prod.exists, List.mem_zipIdx_iff_getElem?]
  constructor
  · rintro ⟨o, i, ⟨h1, h2⟩, rfl⟩; exact ⟨o, h1, h2⟩
  · rintro ⟨o, h1, h2⟩; exact ⟨o, e, ⟨h1, h2⟩, rfl⟩
theorem temps_spec {l : List Op1} {b : List Nat} (h : tempsOk l b = true) {i j d : Nat} {o p : Op1} (hi : l[i]? = some o) (hd : o.dst.tm = some d) (hj : l[j]? = some p) (hn : d ∈ temps1 p) (hij : i ≠ j) :
    (i < j ∧ bef b i j = true) ∨ (j < i ∧ bef b j i = true) := by
  unfold tempsOk at h
  rw [List.all_eq_true] at h
  have h1 := h (o, i) (by rw [List.mem_zipIdx_iff_getElem?]; exact hi)
  simp only [hd] at h1
  rw [List.all_eq_true] at h1
  have h2 := h1 (p, j) (by rw [List.mem_zipIdx_iff_getElem?]; exact hj)
  simp only [beq_nat, Bool.or_eq_true, decide_eq_true_eq, Bool.not_eq_true', List.contains_eq_mem, decide_eq_false_iff_not] at h2
  rcases h2 with (h2 | h2) | h2
  · exact absurd h2 hij
  · exact absurd hn h2
  · rw [blt_nat] at h2
    by_cases hlt : i < j
    · simp only [hlt, decide_true, cond_true] at h2
      exact .inl ⟨hlt, h2⟩
    · simp only [hlt, decide_false, cond_false] at h2
      exact .inr ⟨by omega, h2⟩
theorem eff_spec {l : List Op1} {b : List Nat} (h : effOk l b = true) {i j : Nat} {o p : Op1} (hi : l[i]? = some o) (ho : isE o = true) (hj : l[j]? = some p) (hp : isE p = true) (hij : i < j) : bef b i j = true := by
  unfold effOk at h
  rw [List.all_eq_true] at h
  have h1 := h (o, i) (by rw [List.mem_zipIdx_iff_getElem?]; exact hi)
  simp only [ho, Bool.not_true, Bool.false_or] at h1
  rw [List.all_eq_true] at h1
  have h2 := h1 (p, j) (by rw [List.mem_zipIdx_iff_getElem?]; exact hj)
  simpa [hp, blt_nat, hij] using h2
theorem chk_mem {l : List Op1} {b : List Nat} {r p : Nat} {o : Op1} (hr : l[r]? = some o) (hm : o.op.mem = true) (hp : p = 0 ∨ ∃ e, e ∈ effs l ∧ p = e + 1) (hf : feas (effs l) b r p = true) (hw : ownW (effs l) r p = false) : (r, p) ∈ chkOf l b := by
  unfold chkOf
  simp only [List.mem_flatten, List.mem_map]
  refine ⟨_, ⟨(o, r), by rw [List.mem_zipIdx_iff_getElem?]; exact hr, rfl⟩, ?_⟩
  simp only [hm, cond_true, List.mem_map, List.mem_filter]
  refine ⟨p, ⟨?_, by simp [hf, hw]⟩, rfl⟩
  rcases hp with rfl | ⟨e, he, rfl⟩
  · simp
  · exact List.mem_cons_of_mem _ (List.mem_map.2 ⟨e, he, rfl⟩)

/-! ### operands, by the temporaries that they name -/
theorem opT_tm (ps t : Nat) : (opT ps t).tm = some t := by
  unfold opT
  cases per ps t <;> rfl
theorem dstT_tm (ps : Nat) (d : Option Tmp) : (dstT ps d).tm = d := by
  cases d with
  | none => rfl
  | some d => simp only [dstT]; cases per ps d <;> rfl
theorem opd_on {β : Bt} (hG : ∀ g, g < GN → β g = some (g, 0, 0)) {ps nt : Nat} {T : Tm} {a : Act} {x : Operand} {y : Opd} (hc : compOpd ps nt x = some y) (h : ∀ t, y.tm = some t → t < nt → VR β (T.at ps t) (a.tmps.getD t undef)) : VR β (y.ev T) (a.eval x) := by
  cases x with
  | tmp t =>
    simp only [compOpd, blt_nat] at hc
    by_cases ht : t < nt
    · simp only [ht, decide_true, cond_true, Option.some.injEq] at hc
      subst hc
      exact h t (opT_tm ps t) ht
    · simp [ht] at hc
  | const v =>
    simp only [compOpd, Option.map_eq_some_iff] at hc
    obtain ⟨u, hu, rfl⟩ := hc
    exact toAV_VR hu
  | global g =>
    simp only [compOpd, blt_nat] at hc
    by_cases hg : g < GN
    · simp only [hg, decide_true, cond_true, Option.some.injEq] at hc
      subst hc
      have := VR.p (k := 0) (hG g hg)
      exact this
    · simp [hg] at hc
  | func f => cases hc; exact .fn f .nil .nil
theorem opds_on {β : Bt} (hG : ∀ g, g < GN → β g = some (g, 0, 0)) {ps nt : Nat} {T : Tm} {a : Act} : ∀ {xs : List Operand} {ys : List Opd}, mapO (compOpd ps nt) xs = some ys → (∀ t, t ∈ ys.filterMap Opd.tm → t < nt → VR β (T.at ps t) (a.tmps.getD t undef)) → VRs β (evs T ys) (xs.map a.eval)
  | [], ys, hc, h => by simp [mapO] at hc; subst hc; exact .nil
  | x :: xs, ys, hc, h => by
    unfold mapO at hc
    split at hc
    · rename_i y hy
      rw [Option.map_eq_some_iff] at hc
      obtain ⟨zs, hz, rfl⟩ := hc
      refine .cons (opd_on hG hy fun t ht => h t ?_) (opds_on hG hz fun t ht => h t ?_)
      · rw [List.mem_filterMap]; exact ⟨y, by simp, ht⟩
      · rw [List.mem_filterMap] at ht ⊢
        obtain ⟨z, h1, h2⟩ := ht
        exact ⟨z, by simp [h1], h2⟩
    · cases hc
theorem wants_on {β : Bt} {ps nt : Nat} {T : Tm} {a : Act} (hsz : nt ≤ a.tmps.size) {ops : Array Oper} {o : Oper} {gd : Option (Opd × Bool)} (hc : compGuard ps ops nt o.guard = some gd)
    (h : ∀ t, gd.bind (·.1.tm) = some t → t < nt → VR β (T.at ps t) (a.tmps.getD t undef)) {r : Bool} (hw : wants T gd = some r) : Region.wanted o (yielded ops a.tmps) = r := by
  unfold compGuard at hc
  split at hc
  · rename_i hg
    cases hc
    cases hw
    simp [Region.wanted, hg]
  · rename_i j w hg
    split at hc
    · rename_i t ht
      rw [blt_nat] at hc
      by_cases hlt : t < nt
      · simp only [hlt, decide_true, cond_true, Option.some.injEq] at hc
        subst hc
        have h1 := h t (opT_tm ps t) hlt
        simp only [wants] at hw
        have hsz : t < a.tmps.size := Nat.lt_of_lt_of_le hlt hsz
        have hget : a.tmps[t]? = some (a.tmps.getD t undef) := by
          rw [Array.getD_eq_getD_getElem?, Array.getElem?_eq_getElem hsz]; rfl
        have hy : yielded ops a.tmps j = match a.tmps.getD t undef with | .bool b => some b | _ => none := by
          simp only [yielded, ht, Option.bind_some, hget]
          cases a.tmps.getD t undef <;> rfl
        have h1' : VR β ((opT ps t).ev T) (a.tmps.getD t undef) := h1
        clear h1
        generalize a.tmps.getD t undef = y at h1' hy
        simp only [Region.wanted, hg, hy]
        generalize (opT ps t).ev T = x at h1' hw
        cases h1' <;> first | (cases hw; done) | (simp only [Option.some.injEq] at hw; subst hw; simp; done) | (simp only [Option.some.injEq] at hw; subst hw; rfl)
      · simp [hlt] at hc
    · cases hc

theorem same1_VR {β : Bt} {x y : AV} (h : same1 x y = true) {v : Value} (hv : VR β y v) : VR β x v := by
  unfold same1 at h
  split at h
  · rw [bytesEq_eq, beq_iff_eq] at h
    rw [h]; exact hv
  · exact hv
  · exact hv
  · cases hv
  · rw [beq_iff_eq] at h
    rw [h]; exact hv
  · simp only [Bool.and_eq_true, kEq_iff, iEq_eq, beq_iff_eq] at h
    rw [h.1, h.2]; exact hv
  · exact hv
  · simp only [Bool.and_eq_true, beq_nat, decide_eq_true_eq] at h
    rw [h.1, h.2]; exact hv
  · simp only [Bool.and_eq_true, beq_nat, decide_eq_true_eq] at h
    rw [h.1.1, h.1.2, h.2]; exact hv
  · simp only [Bool.and_eq_true, beq_nat, decide_eq_true_eq] at h
    rw [h.1.1.1.1, h.1.1.1.2, h.1.1.2, h.1.2, h.2]; exact hv
  · exact hv
  · simp only [beq_nat, decide_eq_true_eq] at h
    rw [h]; exact hv
  · cases h
theorem sameL_VR {β : Bt} : ∀ {x y : List AV} {v : List Value}, sameL x y = true → VRs β y v → VRs β x v
  | [], [], v, _, hv => hv
  | a :: r, b :: q, v, h, hv => by
    simp only [sameL, Bool.and_eq_true] at h
    cases hv with
    | cons h1 h2 => exact .cons (same1_VR h.1 h1) (sameL_VR h.2 h2)
  | [], _ :: _, v, h, _ => by cases h
  | _ :: _, [], v, h, _ => by cases h
theorem sameV_VR {β : Bt} {x y : AV} (h : sameV x y = true) {v : Value} (hv : VR β y v) : VR β x v := by
  unfold sameV at h
  split at h
  · cases hv with
    | agg h1 => exact .agg (sameL_VR h h1)
  · exact same1_VR h hv

/-- what an operation that looks at no memory says does not depend on it -/
theorem semR_mem {o : AOp} (h : o.mem = false) (h1 h2 : PM AB) (vs : List AV) : semR o h1 vs = semR o h2 vs := by
  cases o <;> simp only [AOp.mem, Bool.true_eq_false] at h <;> try rfl
  rename_i ng k
  cases k <;> first | rfl | (simp only [AOp.mem, Bool.true_eq_false] at h; done) | skip
  all_goals
    simp only [semR]
    unfold rEq
    split
    · unfold eqV
      split <;> first | rfl | contradiction
    · rfl
end Go.AM

/- Regions whose order is open: what holds of memory on the way, in any order. -/
set_option linter.unusedVariables false
set_option linter.unusedSimpArgs false
namespace Go.AM
open Go.RowKit (Below)

section
variable {l : List Op1} {ss : Nat → St}

/-- how the states of the written order follow each other -/
structure Path (l : List Op1) (ss : Nat → St) : Prop where
  gr : ∀ i, i < l.length → Gr (ss i) (ss (i + 1))
  non : ∀ i o, l[i]? = some o → isE o = false → ss (i + 1) = ss i ∨ ∃ blk, blk.own = true ∧ ss (i + 1) = { h := (ss i).h.set (ss i).nx (some blk), nx := (ss i).nx + 1 }
  wf : (ss 0).wf

theorem path_of_way {call : Cll} (hgr : Grows call) {ts : Nat → Tm} (h : Way call l ts ss) (hwf : (ss 0).wf) : Path l ss := by
  refine ⟨fun i hi => step1_gr hgr (h i l[i] (List.getElem?_eq_getElem hi)), fun i o ho hE => ?_, hwf⟩
  have hs := h i o ho
  unfold step1 at hs
  split at hs
  · split at hs
    · rename_i v S1 he
      injection hs with hs
      injection hs with h1 h2
      rw [← h2]
      unfold isE at hE
      cases hcl : o.op.cl <;> simp only [hcl] at hE <;> simp only [semOp, hcl] at he
      · unfold opR at he
        split at he <;> cases he
        exact .inl rfl
      · unfold opA at he
        split at he
        · rename_i blk u hb
          cases he
          exact .inr ⟨blk, semA_own hb, rfl⟩
        · cases he
      · cases hE
    · cases hs
  · injection hs with hs
    injection hs with h1 h2
    exact .inl h2.symm
  · cases hs

variable (hp : Path l ss)
include hp
theorem Path.le {i j : Nat} (hij : i ≤ j) (hj : j ≤ l.length) : Gr (ss i) (ss j) := by
  induction j with
  | zero => have : i = 0 := by omega
            subst this; exact Gr.refl _
  | succ j ih =>
    by_cases h : i = j + 1
    · subst h; exact Gr.refl _
    · exact (ih (by omega) (by omega)).trans (hp.gr j (by omega))
theorem Path.nx {i j : Nat} (hij : i ≤ j) (hj : j ≤ l.length) : (ss i).nx ≤ (ss j).nx := (hp.le hij hj).nx
theorem Path.wfi {i : Nat} (hi : i ≤ l.length) : (ss i).wf := (hp.le (Nat.zero_le _) hi).wf hp.wf
theorem Path.keep {p q : Nat} (hpq : p ≤ q) (hq : q ≤ l.length) (hno : ∀ i o, p ≤ i → i < q → l[i]? = some o → isE o = false) {n : Nat} (hn : n < (ss p).nx) : (ss q).h.get n = (ss p).h.get n := by
  induction q with
  | zero => have : p = 0 := by omega
            subst this; rfl
  | succ q ih =>
    by_cases h : p = q + 1
    · subst h; rfl
    · have h1 := ih (by omega) (by omega) (fun i o h1 h2 => hno i o h1 (by omega))
      rw [← h1]
      have hnx := hp.nx (i := p) (j := q) (by omega) (by omega)
      rcases hp.non q l[q] (List.getElem?_eq_getElem (by omega)) (hno q _ (by omega) (by omega) (List.getElem?_eq_getElem (by omega))) with e | ⟨blk, _, e⟩
      · rw [e]
      · rw [e]
        show ((ss q).h.set (ss q).nx (some blk)).get n = _
        rw [PM.get_set, if_neg (by omega)]
omit hp

/-- What is to be seen: all that lies in memory just ahead of effect q, and the blocks that were made ahead of their time. -/
def Vw (l : List Op1) (ss : Nat → St) (q n : Nat) (bl : AB) : Prop :=
  (n < (ss q).nx ∧ (ss q).h.get n = some bl) ∨ ∃ i o, q ≤ i ∧ l[i]? = some o ∧ isE o = false ∧ (ss i).nx ≤ n ∧ n < (ss (i + 1)).nx ∧ (ss (i + 1)).h.get n = some bl

structure MInv (l : List Op1) (ss : Nat → St) (B0 : Nat) (β0 : Bt) (w0 : World) (X : Nat → Prop) (q : Nat) (β : Bt) (w : World) : Prop where
  qN : q ≤ l.length
  qE : ∀ e o, l[e]? = some o → isE o = true → (X e ↔ e < q)
  blk : ∀ n bl b o z, Vw l ss q n bl → β n = some (b, o, z) → BR β B0 w.heap b o z bl
  inj : ∀ n m bl bm b x y, Vw l ss q n bl → Vw l ss q m bm → bl.own = true → β n = some (b, x) → β m = some (b, y) → n = m
  le : B0 ≤ w.heap.size
  dom : ∀ n, β n ≠ none → β0 n ≠ none ∨ ∃ i, X i ∧ i < l.length ∧ (ss i).nx ≤ n ∧ n < (ss (i + 1)).nx
  ext : Ext β0 β
  phn : ∀ i o n, l[i]? = some o → isE o = false → ¬ X i → i < q → (ss i).nx ≤ n → n < (ss (i + 1)).nx → (ss q).h.get n = (ss (i + 1)).h.get n
  bel : Below B0 w0 w
  fr : ∀ c, c < w0.heap.size → ¬ Own β0 (ss 0).h c → w.heap[c]? = w0.heap[c]?
  src : ∀ c n bl x, Vw l ss q n bl → bl.own = true → β n = some (c, x) → w0.heap.size ≤ c ∨ Own β0 (ss 0).h c
  ph : ∀ n, n < (ss 0).nx → β0 n = none → (ss q).h.get n = (ss 0).h.get n
  gl : GOk β0 B0 w0

variable {B0 : Nat} {β0 : Bt} {w0 : World} {X : Nat → Prop} {q : Nat} {β : Bt} {w : World}

theorem MInv.lt (h : MInv l ss B0 β0 w0 X q β w) {n : Nat} {bl : AB} {b : Nat} {x : Nat × Nat} (hg : Vw l ss q n bl) (hn : β n = some (b, x)) : b < w.heap.size := (h.blk n bl b x.1 x.2 hg hn).lt
theorem MInv.low (hp : Path l ss) (h : MInv l ss B0 β0 w0 X q β w) {n : Nat} (hn : n < (ss 0).nx) (h0 : β0 n = none) : β n = none := by
  cases hb : β n with
  | none => rfl
  | some x =>
    rcases h.dom n (by rw [hb]; simp) with h1 | ⟨i, _, hi, h2, _⟩
    · exact absurd h0 h1
    · have := hp.nx (Nat.zero_le i) (by omega)
      omega
/-- names of operations that are still open are free -/
theorem MInv.open (hp : Path l ss) (h : MInv l ss B0 β0 w0 X q β w) (hfree : Free β0 (ss 0).nx (ss l.length).nx) {j n : Nat} (hj : j < l.length) (hX : ¬ X j) (h1 : (ss j).nx ≤ n) (h2 : n < (ss (j + 1)).nx) : β n = none := by
  have a1 := hp.nx (Nat.zero_le j) (by omega)
  have a2 := hp.nx (i := j + 1) (j := l.length) (by omega) (Nat.le_refl _)
  have h0 : β0 n = none := hfree n (by omega) (by omega)
  cases hb : β n with
  | none => rfl
  | some x =>
    rcases h.dom n (by rw [hb]; simp) with h3 | ⟨i, hi, hil, h3, h4⟩
    · exact absurd h0 h3
    · exfalso
      rcases Nat.lt_trichotomy i j with hlt | heq | hgt
      · have := hp.nx (i := i + 1) (j := j) (by omega) (by omega); omega
      · subst heq; exact hX hi
      · have := hp.nx (i := j + 1) (j := i) (by omega) (by omega); omega
/-- the relation to the memory at any place of the window -/
theorem MInv.rel (hp : Path l ss) (h : MInv l ss B0 β0 w0 X q β w) {p : Nat} (hpq : p ≤ q) (hno : ∀ i o, p ≤ i → i < q → l[i]? = some o → isE o = false) : Rel β B0 (ss p).h w := by
  have hv : ∀ n bl, (ss p).h.get n = some bl → Vw l ss q n bl := fun n bl hg => by
    have hn := hp.wfi (Nat.le_trans hpq h.qN) n bl hg
    refine .inl ⟨Nat.lt_of_lt_of_le hn (hp.nx hpq h.qN), ?_⟩
    rw [hp.keep hpq h.qN hno hn]
    exact hg
  exact ⟨fun n bl b o z hg => h.blk n bl b o z (hv n bl hg), fun n m bl bm b x y hn hm => h.inj n m bl bm b x y (hv n bl hn) (hv m bm hm), h.le, h.gl.mono h.ext h.bel.block⟩

theorem MInv.start (hp : Path l ss) (hR : Rel β0 B0 (ss 0).h w) (hfree : Free β0 (ss 0).nx (ss l.length).nx) {q : Nat} (hq : q ≤ l.length) (hno : ∀ i o, i < q → l[i]? = some o → isE o = false) : MInv l ss B0 β0 w (fun _ => False) q β0 w := by
  have hv : ∀ n bl x, Vw l ss q n bl → β0 n = some x → (ss 0).h.get n = some bl := by
    intro n bl x hV hb
    have hlow : n < (ss l.length).nx → n < (ss 0).nx := fun h => by
      rcases Nat.lt_or_ge n (ss 0).nx with h' | h'
      · exact h'
      · rw [hfree n h' h] at hb; cases hb
    rcases hV with ⟨h1, h2⟩ | ⟨i, o, h1, h2, h3, h4, h5, h6⟩
    · have := hlow (Nat.lt_of_lt_of_le h1 (hp.nx hq (Nat.le_refl _)))
      rw [hp.keep (Nat.zero_le q) hq (fun i o _ h => hno i o h) this] at h2
      exact h2
    · have hi : i < l.length := (List.getElem?_eq_some_iff.1 h2).1
      have := hlow (Nat.lt_of_lt_of_le h5 (hp.nx (by omega) (Nat.le_refl _)))
      have := hp.nx (Nat.zero_le i) (by omega)
      omega
  refine ⟨hq, ?_, fun n bl b o z h1 h2 => hR.blk n bl b o z (hv n bl _ h1 h2) h2, fun n m bl bm b x y h1 h2 h3 h4 h5 => hR.inj n m bl bm b x y (hv n bl _ h1 h4) (hv m bm _ h2 h5) h3 h4 h5, hR.le,
    fun n h => .inl h, Ext.refl _, ?_, Below.refl _ _, fun _ _ _ => rfl, fun c n bl x h1 h2 h3 => .inr ⟨n, bl, x, hv n bl _ h1 h3, h2, h3⟩, ?_, hR.gl⟩
  · intro e o he hE
    refine ⟨False.elim, fun h => ?_⟩
    rw [hno e o h he] at hE; cases hE
  · intro i o n hi hE _ hiq h1 h2
    exact hp.keep (by omega) hq (fun k o' hk1 hk2 => hno k o' hk2) h2
  · intro n hn _
    exact hp.keep (Nat.zero_le q) hq (fun i o _ h => hno i o h) hn

/-- an operation that leaves memory as it is -/
theorem MInv.advR (h : MInv l ss B0 β0 w0 X q β w) {j : Nat} {o : Op1} (hj : l[j]? = some o) (hE : isE o = false) : MInv l ss B0 β0 w0 (fun i => X i ∨ i = j) q β w where
  qN := h.qN
  qE := fun e o' he hE' => by
    have : e ≠ j := fun e' => by subst e'; rw [hj] at he; cases he; rw [hE] at hE'; cases hE'
    rw [← h.qE e o' he hE']
    exact ⟨fun hx => hx.resolve_right this, .inl⟩
  blk := h.blk
  inj := h.inj
  le := h.le
  dom := fun n hn => (h.dom n hn).imp id fun ⟨i, h1, h2⟩ => ⟨i, .inl h1, h2⟩
  ext := h.ext
  phn := fun i o' n h1 h2 h3 => h.phn i o' n h1 h2 fun hx => h3 (.inl hx)
  bel := h.bel
  fr := h.fr
  src := h.src
  gl := h.gl
  ph := h.ph

/-- an operation that makes a block -/
theorem MInv.advA (hp : Path l ss) (h : MInv l ss B0 β0 w0 X q β w) (hfree : Free β0 (ss 0).nx (ss l.length).nx) {j : Nat} {o : Op1} (hj : l[j]? = some o) (hE : isE o = false) (hX : ¬ X j) {bl : AB} (hs : ss (j + 1) = { h := (ss j).h.set (ss j).nx (some bl), nx := (ss j).nx + 1 })
    (ho : bl.own = true) {x : Obj} {z : Nat} (hbr : BR (upd β (ss j).nx (w.heap.size, 0, z)) B0 (w.alloc x).heap w.heap.size 0 z bl) :
    β (ss j).nx = none ∧ MInv l ss B0 β0 w0 (fun i => X i ∨ i = j) q (upd β (ss j).nx (w.heap.size, 0, z)) (w.alloc x) := by
  have hjl : j < l.length := (List.getElem?_eq_some_iff.1 hj).1
  have hnx : (ss (j + 1)).nx = (ss j).nx + 1 := by rw [hs]
  have hf0 : β (ss j).nx = none := h.open hp hfree hjl hX (Nat.le_refl _) (by omega)
  have hext := upd_ext (x := (w.heap.size, 0, z)) hf0
  have hg1 : (ss (j + 1)).h.get (ss j).nx = some bl := by rw [hs]; show ((ss j).h.set _ _).get _ = _; rw [PM.get_set, if_pos rfl]
  have hheap : (w.alloc x).heap = w.heap.push x := rfl
  have hoth : ∀ k, k < w.heap.size → (w.alloc x).heap[k]? = w.heap[k]? := fun k hk => by rw [hheap, Array.getElem?_push, if_neg (by omega)]
  have hsz : (w.alloc x).heap.size = w.heap.size + 1 := by rw [hheap]; simp
  have hvbl : ∀ bm, Vw l ss q (ss j).nx bm → bm = bl := by
    intro bm hV
    rcases hV with ⟨h1, h2⟩ | ⟨i, o', h1, h2, h3, h4, h5, h6⟩
    · have hjq : j < q := by
        rcases Nat.lt_or_ge j q with h' | h'
        · exact h'
        · have := hp.nx h' (by omega); omega
      rw [h.phn j o _ hj hE hX hjq (Nat.le_refl _) (by omega), hg1] at h2
      exact (Option.some.inj h2).symm
    · have hi : i < l.length := (List.getElem?_eq_some_iff.1 h2).1
      rcases Nat.lt_trichotomy i j with hlt | heq | hgt
      · have := hp.nx (i := i + 1) (j := j) (by omega) (by omega); omega
      · subst heq; rw [hg1] at h6; exact (Option.some.inj h6).symm
      · have := hp.nx (i := j + 1) (j := i) (by omega) (by omega); omega
  have hup : ∀ m, m ≠ (ss j).nx → upd β (ss j).nx (w.heap.size, 0, z) m = β m := fun m hm => by simp only [upd, if_neg hm]
  refine ⟨hf0, ⟨h.qN, (h.advR hj hE).qE, ?_, ?_, ?_, ?_, h.ext.trans hext, (h.advR hj hE).phn, ?_, ?_, ?_, h.ph, h.gl⟩⟩
  · intro n bm b o' z' hV hb
    by_cases hn : n = (ss j).nx
    · subst hn
      rw [upd_same] at hb
      cases hb
      rw [hvbl bm hV]
      exact hbr
    · rw [hup n hn] at hb
      exact ((h.blk n bm b o' z' hV hb).mono hext).congr (hoth b (h.lt hV hb))
  · intro n m bn bm b y y' hVn hVm hon hbn hbm
    by_cases hn : n = (ss j).nx <;> by_cases hm : m = (ss j).nx
    · rw [hn, hm]
    · subst hn
      rw [upd_same] at hbn
      rw [hup m hm] at hbm
      cases hbn
      have := h.lt hVm hbm
      omega
    · subst hm
      rw [upd_same] at hbm
      rw [hup n hn] at hbn
      cases hbm
      have := h.lt hVn hbn
      omega
    · rw [hup n hn] at hbn
      rw [hup m hm] at hbm
      exact h.inj n m bn bm b y y' hVn hVm hon hbn hbm
  · have := h.le; omega
  · intro n hn
    by_cases e : n = (ss j).nx
    · subst e; exact .inr ⟨j, .inr rfl, hjl, Nat.le_refl _, by omega⟩
    · rw [hup n e] at hn
      exact (h.dom n hn).imp id fun ⟨i, h1, h2⟩ => ⟨i, .inl h1, h2⟩
  · exact h.bel.trans ⟨rfl, rfl, rfl, by omega, fun k hk => hoth k (Nat.lt_of_lt_of_le hk h.le)⟩
  · intro c hc hn
    have := h.bel.size
    rw [hoth c (by omega), h.fr c hc hn]
  · intro c n bm y hV hon hb
    by_cases hn : n = (ss j).nx
    · subst hn; rw [upd_same] at hb; cases hb; exact .inl h.bel.size
    · rw [hup n hn] at hb; exact h.src c n bm y hV hon hb

/-- the next effect -/
theorem next_eff (l : List Op1) : ∀ (k p : Nat), p + k = l.length → ∃ q, p ≤ q ∧ q ≤ l.length ∧ (∀ i o, p ≤ i → i < q → l[i]? = some o → isE o = false) ∧ (q < l.length → ∃ o, l[q]? = some o ∧ isE o = true)
  | 0, p, h => ⟨p, Nat.le_refl _, by omega, fun i o h1 h2 _ => by omega, fun h' => by omega⟩
  | k + 1, p, h => by
    cases hE : isE (l[p]'(by omega)) with
    | true => exact ⟨p, Nat.le_refl _, by omega, fun i o h1 h2 _ => by omega, fun _ => ⟨_, List.getElem?_eq_getElem (by omega), hE⟩⟩
    | false =>
      obtain ⟨q, h1, h2, h3, h4⟩ := next_eff l k (p + 1) (by omega)
      refine ⟨q, by omega, h2, fun i o hi1 hi2 ho => ?_, h4⟩
      by_cases e : i = p
      · subst e
        rw [List.getElem?_eq_getElem (by omega)] at ho
        cases ho
        exact hE
      · exact h3 i o (by omega) hi2 ho

/-- an effect -/
theorem MInv.advE (hp : Path l ss) (h : MInv l ss B0 β0 w0 X q β w) (hfree : Free β0 (ss 0).nx (ss l.length).nx) {o : Op1} (hq : l[q]? = some o) (hE : isE o = true) {γ : Bt} {w' : World} (hst : Stp B0 β (ss q) w γ (ss (q + 1)) w')
    {r : Nat} (hr1 : q + 1 ≤ r) (hr2 : r ≤ l.length) (hno : ∀ i o, q + 1 ≤ i → i < r → l[i]? = some o → isE o = false) : MInv l ss B0 β0 w0 (fun i => X i ∨ i = q) r γ w' := by
  have hql : q < l.length := (List.getElem?_eq_some_iff.1 hq).1
  have hXq : ¬ X q := fun hx => by have := (h.qE q o hq hE).1 hx; omega
  have hwfq := hp.wfi (i := q) (by omega)
  have hwf1 := hp.wfi (i := q + 1) (by omega)
  -- a view later is the memory after the effect, or a block made ahead of its time
  have early : ∀ n bl, (∃ i o, q + 1 ≤ i ∧ l[i]? = some o ∧ isE o = false ∧ (ss i).nx ≤ n ∧ n < (ss (i + 1)).nx ∧ (ss (i + 1)).h.get n = some bl) → (ss (q + 1)).nx ≤ n ∧ Vw l ss q n bl := by
    rintro n bl ⟨i, o', h1, h2, h3, h4, h5, h6⟩
    have hi : i < l.length := (List.getElem?_eq_some_iff.1 h2).1
    have := hp.nx h1 (by omega)
    exact ⟨by omega, .inr ⟨i, o', by omega, h2, h3, h4, h5, h6⟩⟩
  have hv : ∀ n bl, Vw l ss r n bl → (n < (ss (q + 1)).nx ∧ (ss (q + 1)).h.get n = some bl) ∨ ((ss (q + 1)).nx ≤ n ∧ Vw l ss q n bl) := by
    rintro n bl (⟨h1, h2⟩ | ⟨i, o', h1, h2, h3, h4, h5, h6⟩)
    · rcases Nat.lt_or_ge n (ss (q + 1)).nx with h' | h'
      · rw [hp.keep hr1 hr2 hno h'] at h2
        exact .inl ⟨h', h2⟩
      · -- made between the two effects
        have : ∀ k, q + 1 ≤ k → k ≤ r → n < (ss k).nx → ∃ i, q + 1 ≤ i ∧ i < r ∧ (ss i).nx ≤ n ∧ n < (ss (i + 1)).nx := by
          intro k
          induction k with
          | zero => intro h1; omega
          | succ k ih =>
            intro h1 h2 h3
            by_cases e : k = q
            · subst e; omega
            · rcases Nat.lt_or_ge n (ss k).nx with h4 | h4
              · exact ih (by omega) (by omega) h4
              · exact ⟨k, by omega, by omega, h4, h3⟩
        obtain ⟨i, hi1, hi2, hi3, hi4⟩ := this r hr1 (Nat.le_refl _) h1
        refine .inr (early n bl ⟨i, l[i], hi1, List.getElem?_eq_getElem (by omega), hno i _ hi1 hi2 (List.getElem?_eq_getElem (by omega)), hi3, hi4, ?_⟩)
        rw [← hp.keep (p := i + 1) (by omega) hr2 (fun k o' hk1 hk2 => hno k o' (by omega) hk2) hi4]
        exact h2
    · exact .inr (early n bl ⟨i, o', by omega, h2, h3, h4, h5, h6⟩)
  -- names beyond the effect's own are as they were
  have hold : ∀ n x, (ss (q + 1)).nx ≤ n → γ n = some x → β n = some x := by
    intro n x hn hg
    cases hb : β n with
    | none => have := hst.dom n hb (by rw [hg]; simp); omega
    | some y => rw [hst.ext n y hb] at hg; exact hg
  have hnxq := hp.nx (i := q) (j := q + 1) (by omega) (by omega)
  have notown : ∀ n bl b x, (ss (q + 1)).nx ≤ n → Vw l ss q n bl → β n = some (b, x) → ¬ Own β (ss q).h b := by
    rintro n bl b x hn hV hb ⟨m, bm, y, hm, hom, hbm⟩
    have hmn := hwfq m bm hm
    have := h.inj m n bm bl b y x (.inl ⟨hmn, hm⟩) hV hom hbm hb
    omega
  have hheap : ∀ n bl b x, (ss (q + 1)).nx ≤ n → Vw l ss q n bl → β n = some (b, x) → w'.heap[b]? = w.heap[b]? := fun n bl b x hn hV hb => hst.fr b (h.lt hV hb) (notown n bl b x hn hV hb)
  have mix : ∀ n m bl bm b x y, (ss (q + 1)).nx ≤ n → Vw l ss q n bl → β n = some (b, x) → bl.own = true → (ss (q + 1)).h.get m = some bm → γ m = some (b, y) → False := by
    intro n m bl bm b x y hn hV hb ho hm hbm
    have hmn := hwf1 m bm hm
    cases hom : bm.own with
    | true =>
      rcases hst.src b ⟨m, bm, y, hm, hom, hbm⟩ with h1 | h1
      · have := h.lt hV hb; omega
      · exact notown n bl b x hn hV hb h1
    | false =>
      have hm' := (hp.gr q hql).ro m bm hm hom
      have hmq := hwfq m bm hm'
      have hbm' : β m = some (b, y) := by
        cases hb' : β m with
        | none => have := hst.dom m hb' (by rw [hbm]; simp); omega
        | some u => rw [hst.ext m u hb'] at hbm; exact hbm
      have := h.inj n m bl bm b x y hV (.inl ⟨hmq, hm'⟩) ho hb hbm'
      omega
  refine ⟨hr2, ?_, ?_, ?_, hst.rel.le, ?_, h.ext.trans hst.ext, ?_, h.bel.trans hst.bel, ?_, ?_, ?_, h.gl⟩
  · intro e o' he hE'
    constructor
    · rintro (hx | rfl)
      · have := (h.qE e o' he hE').1 hx; omega
      · omega
    · intro her
      rcases Nat.lt_trichotomy e q with h1 | h1 | h1
      · exact .inl ((h.qE e o' he hE').2 h1)
      · exact .inr h1
      · rw [hno e o' h1 her he] at hE'; cases hE'
  · intro n bl b o' z hV hb
    rcases hv n bl hV with ⟨h1, h2⟩ | ⟨h1, h2⟩
    · exact hst.rel.blk n bl b o' z h2 hb
    · have hb' := hold n _ h1 hb
      exact ((h.blk n bl b o' z h2 hb').mono hst.ext).congr (hheap n bl b _ h1 h2 hb')
  · intro n m bn bm b x y hVn hVm hon hbn hbm
    rcases hv n bn hVn with ⟨h1, h2⟩ | ⟨h1, h2⟩ <;> rcases hv m bm hVm with ⟨h3, h4⟩ | ⟨h3, h4⟩
    · exact hst.rel.inj n m bn bm b x y h2 h4 hon hbn hbm
    · exfalso
      have hbm' := hold m _ h3 hbm
      rcases hst.src b ⟨n, bn, x, h2, hon, hbn⟩ with h5 | h5
      · have := h.lt h4 hbm'; omega
      · exact notown m bm b y h3 h4 hbm' h5
    · exact (mix n m bn bm b x y h1 h2 (hold n _ h1 hbn) hon h4 hbm).elim
    · exact h.inj n m bn bm b x y h2 h4 hon (hold n _ h1 hbn) (hold m _ h3 hbm)
  · intro n hn
    cases hb : β n with
    | none =>
      have := hst.dom n hb hn
      exact .inr ⟨q, .inr rfl, hql, this.1, this.2⟩
    | some x => exact (h.dom n (by rw [hb]; simp)).imp id fun ⟨i, h1, h2⟩ => ⟨i, .inl h1, h2⟩
  · intro i o' n hi hiE hiX hir h1 h2
    have hil : i < l.length := (List.getElem?_eq_some_iff.1 hi).1
    have hne : i ≠ q := fun e => hiX (.inr e)
    rcases Nat.lt_or_ge i q with hlt | hge
    · have hnq : n < (ss q).nx := Nat.lt_of_lt_of_le h2 (hp.nx (by omega) (by omega))
      have hb : β n = none := h.open hp hfree hil (fun hx => hiX (.inl hx)) h1 h2
      rw [hp.keep hr1 hr2 hno (by omega), hst.ph n hnq hb]
      exact h.phn i o' n hi hiE (fun hx => hiX (.inl hx)) hlt h1 h2
    · exact hp.keep (by omega) hr2 (fun k o' hk1 hk2 => hno k o' (by omega) hk2) h2
  · intro c hc hn
    have := h.bel.size
    rw [hst.fr c (by omega) ?_, h.fr c hc hn]
    rintro ⟨m, bm, y, hm, hom, hbm⟩
    rcases h.src c m bm y (.inl ⟨hwfq m bm hm, hm⟩) hom hbm with h1 | h1
    · omega
    · exact hn h1
  · intro c n bl x hV hon hb
    rcases hv n bl hV with ⟨h1, h2⟩ | ⟨h1, h2⟩
    · rcases hst.src c ⟨n, bl, x, h2, hon, hb⟩ with h3 | ⟨m, bm, y, hm, hom, hbm⟩
      · exact .inl (Nat.le_trans h.bel.size h3)
      · exact h.src c m bm y (.inl ⟨hwfq m bm hm, hm⟩) hom hbm
    · exact h.src c n bl x h2 hon (hold n _ h1 hb)
  · intro n hn h0
    have hb := h.low hp hn h0
    have := hp.nx (Nat.zero_le q) (by omega)
    rw [hp.keep hr1 hr2 hno (by omega), hst.ph n (by omega) hb, h.ph n hn h0]

/-- all done -/
theorem MInv.done (hp : Path l ss) (h : MInv l ss B0 β0 w0 X q β w) (hfree : Free β0 (ss 0).nx (ss l.length).nx) (hq : q = l.length) : Stp B0 β0 (ss 0) w0 β (ss l.length) w := by
  subst hq
  have hv : ∀ n bl, (ss l.length).h.get n = some bl → Vw l ss l.length n bl := fun n bl hg => .inl ⟨hp.wfi (Nat.le_refl _) n bl hg, hg⟩
  refine ⟨h.ext, ?_, h.rel hp (Nat.le_refl _) (fun i o h1 h2 => by omega), h.bel, h.fr, ?_, h.ph, hp.nx (Nat.zero_le _) (Nat.le_refl _)⟩
  · intro n h0 hn
    rcases h.dom n hn with h1 | ⟨i, _, hi, h2, h3⟩
    · exact absurd h0 h1
    · have a1 := hp.nx (Nat.zero_le i) (by omega)
      have a2 := hp.nx (i := i + 1) (j := l.length) (by omega) (Nat.le_refl _)
      exact ⟨by omega, by omega⟩
  · rintro c ⟨n, bl, x, hg, ho, hb⟩
    exact h.src c n bl x (hv n bl hg) ho hb
end
end Go.AM

/- Regions whose order is open: the run, in any order; all regions; the sum: what a call of the abstract machine says of the model's. -/
set_option linter.unusedVariables false
set_option linter.unusedSimpArgs false
namespace Go.AM
open Go.RowKit (Below)

theorem step1_put {call : Cll} {o : Op1} {T T' : Tm} {S S' : St} (h : step1 call o T S = some (T', S')) : ∃ v, T' = T.put v o.dst := by
  unfold step1 at h
  split at h
  · split at h
    · cases h; exact ⟨_, rfl⟩
    · cases h
  · cases h; exact ⟨_, rfl⟩
  · cases h

section
variable {P : Program} {ps nt : Nat} {ops : Array Oper} {l : List Op1} {call : Cll} {ts : Nat → Tm} {ss : Nat → St}

/-- what holds of the temporaries -/
structure TmInv (l : List Op1) (ts : Nat → Tm) (ps nt : Nat) (X : Nat → Prop) (β : Bt) (a : Act) : Prop where
  sz : nt ≤ a.tmps.size
  df : a.defers = []
  tm : ∀ t, t < nt → ∀ j, j ≤ l.length → (∀ i o, l[i]? = some o → o.dst.tm = some t → (X i ↔ i < j)) → VR β ((ts j).at ps t) (a.tmps.getD t undef)

theorem keepT (hl : mapO (comp1 P ps ops nt) ops.toList = some l) (hw : Way call l ts ss) {t p q : Nat} (hpq : p ≤ q) (hq : q ≤ l.length) (hno : ∀ i o, p ≤ i → i < q → l[i]? = some o → o.dst.tm ≠ some t) : (ts q).at ps t = (ts p).at ps t := by
  induction q with
  | zero => have : p = 0 := by omega
            subst this; rfl
  | succ q ih =>
    by_cases h : p = q + 1
    · subst h; rfl
    · have h1 := ih (by omega) (by omega) (fun i o h1 h2 => hno i o h1 (by omega))
      rw [← h1]
      have hg : l[q]? = some l[q] := List.getElem?_eq_getElem (by omega)
      obtain ⟨v, hv⟩ := step1_put (hw q _ hg)
      have hlen := mapO_len hl
      have hoq : ops.toList[q]? = some ops.toList[q] := List.getElem?_eq_getElem (by omega)
      obtain ⟨o1, hc, ho1⟩ := mapO_get hl q _ hoq
      rw [hg] at ho1
      cases ho1
      obtain ⟨xs, _, _, _, h4, _⟩ := comp1_spec hc
      have hn := hno q _ (by omega) (by omega) hg
      rw [hv, h4]
      rw [h4, dstT_tm] at hn
      cases hd : (ops.toList[q]).dst with
      | none => rfl
      | some d =>
        rw [hd] at hn
        rw [Tm.at_put, if_neg (fun e => hn (by rw [e]))]

variable {b : List Nat}

theorem TmInv.put (hl : mapO (comp1 P ps ops nt) ops.toList = some l) (hw : Way call l ts ss) (hback : backOk (ops.toList.map preds) = true) (htemps : tempsOk l (befores (ops.toList.map preds) []) = true)
    {X : Nat → Prop} (hcl : ∀ i, X i → ∀ d ∈ predsAt ops i, X d) {β γ : Bt} {a : Act} (h : TmInv l ts ps nt X β a) (hext : Ext β γ) {j : Nat} {o1 : Op1} (hj : l[j]? = some o1) (hX : ¬ X j) {d : Option Tmp} (hd : o1.dst = dstT ps d) (hdn : ∀ x, d = some x → x < nt)
    {v : AV} {v' : Value} (hv : VR γ v v') (hts : ts (j + 1) = (ts j).put v o1.dst) : TmInv l ts ps nt (fun i => X i ∨ i = j) γ (a.put d v') := by
  have hdt : o1.dst.tm = d := by rw [hd, dstT_tm]
  refine ⟨?_, ?_, ?_⟩
  · cases d <;> simp [Act.put, h.sz]
  · cases d <;> exact h.df
  · intro t ht k hk hc
    by_cases e : d = some t
    · subst e
      have hjk : j < k := (hc j o1 hj hdt).1 (.inr rfl)
      have hno : ∀ i o, j + 1 ≤ i → i < k → l[i]? = some o → o.dst.tm ≠ some t := by
        intro i o hi1 hi2 hi hit
        have hXi : X i := ((hc i o hi hit).2 hi2).resolve_right (by omega)
        rcases temps_spec htemps hi hit hj (by unfold temps1; rw [hdt]; simp) (by omega) with ⟨h1, _⟩ | ⟨_, h2⟩
        · omega
        · exact hX (bef_closed hback hcl i (hcl i hXi) j h2)
      have hjl : j < l.length := (List.getElem?_eq_some_iff.1 hj).1
      rw [keepT hl hw hjk hk hno, hts, hd, Tm.at_put, if_pos rfl]
      have hs := h.sz
      have : (a.put (some t) v').tmps.getD t undef = v' := by
        simp only [Act.put]
        rw [Array.getD_eq_getD_getElem?, Array.getElem?_setIfInBounds_self_of_lt (by omega)]; rfl
      rw [this]
      exact hv
    · have h1 := h.tm t ht k hk (fun i o hi hit => by
        have hij : i ≠ j := fun e' => by subst e'; rw [hj] at hi; cases hi; rw [hdt] at hit; exact e hit
        rw [← hc i o hi hit]
        exact ⟨.inl, fun hx => hx.resolve_right hij⟩)
      have : (a.put d v').tmps.getD t undef = a.tmps.getD t undef := by
        cases d with
        | none => rfl
        | some d =>
          simp only [Act.put]
          rw [Array.getD_eq_getD_getElem?, Array.getD_eq_getD_getElem?, Array.getElem?_setIfInBounds_ne (fun h => e (by rw [h]))]
      rw [this]
      exact h1.mono hext

/-- the last effect ahead of q -/
theorem prev_eff (l : List Op1) : ∀ q, q ≤ l.length → ∃ p, p ≤ q ∧ (p = 0 ∨ ∃ e, e ∈ effs l ∧ p = e + 1) ∧ ∀ i o, p ≤ i → i < q → l[i]? = some o → isE o = false
  | 0, _ => ⟨0, Nat.le_refl _, .inl rfl, fun i o h1 h2 _ => by omega⟩
  | q + 1, h => by
    cases hE : isE (l[q]'(by omega)) with
    | true => exact ⟨q + 1, Nat.le_refl _, .inr ⟨q, mem_effs.2 ⟨_, List.getElem?_eq_getElem (by omega), hE⟩, rfl⟩, fun i o h1 h2 _ => by omega⟩
    | false =>
      obtain ⟨p, h1, h2, h3⟩ := prev_eff l q (by omega)
      refine ⟨p, by omega, h2, fun i o hi1 hi2 ho => ?_⟩
      by_cases e : i = q
      · subst e
        rw [List.getElem?_eq_getElem (by omega)] at ho
        cases ho
        exact hE
      · exact h3 i o hi1 (by omega) ho

/-- all that is known of a region whose order is open -/
structure Open (P : Program) (B0 ps nt : Nat) (ops : Array Oper) (l : List Op1) (call : Cll) (ts : Nat → Tm) (ss : Nat → St) (tr : List (Tm × St)) : Prop where
  hl : mapO (comp1 P ps ops nt) ops.toList = some l
  way : Way call l ts ss
  states : ∀ i, i ≤ l.length → tr[i]? = some (ts i, ss i)
  path : Path l ss
  back : backOk (ops.toList.map preds) = true
  temps : tempsOk l (befores (ops.toList.map preds) []) = true
  eff : effOk l (befores (ops.toList.map preds) []) = true
  chk : ∀ c ∈ chkOf l (befores (ops.toList.map preds) []), again l tr c = true
  call : CallOk P B0 call

variable {tr : List (Tm × St)} {B0 : Nat} {β0 : Bt} {w0 : World}

theorem any_op (H : Open P B0 ps nt ops l call ts ss tr) (hfree : Free β0 (ss 0).nx (ss l.length).nx) {X : Nat → Prop} {q : Nat} {β : Bt} {a : Act} {w : World} (hM : MInv l ss B0 β0 w0 X q β w) (hqb : q < l.length → ∃ o, l[q]? = some o ∧ isE o = true)
    (hT : TmInv l ts ps nt X β a) (hcl : ∀ i, X i → ∀ d ∈ predsAt ops i, X d) {j : Nat} (hj : j < ops.size) (hX : ¬ X j) (hpre : ∀ d ∈ predsAt ops j, X d) {K : Act → World → Prop} {Q : Exit → Act → World → Prop}
    (h : ∀ q' γ a' w', MInv l ss B0 β0 w0 (fun i => X i ∨ i = j) q' γ w' → (q' < l.length → ∃ o, l[q']? = some o ∧ isE o = true) → TmInv l ts ps nt (fun i => X i ∨ i = j) γ a' → K a' w') : wpOp P ops Q j K a w := by
  have hlen : ops.size = l.length := by simpa using mapO_len H.hl
  have hp := H.path
  have ho : ops[j]? = some ops[j] := Array.getElem?_eq_getElem hj
  obtain ⟨o1, hc, ho1⟩ := mapO_get H.hl j ops[j] (by simp)
  obtain ⟨xs, h1, h2, h3, h4, h5⟩ := comp1_spec hc
  have hstep := H.way j o1 ho1
  have rd : ∀ t, t ∈ temps1 o1 → t < nt → VR β ((ts j).at ps t) (a.tmps.getD t undef) := by
    intro t htm ht
    refine hT.tm t ht j (by omega) fun i o' hi hit => ?_
    by_cases e : i = j
    · subst e; exact ⟨fun hx => absurd hx hX, fun hx => absurd hx (Nat.lt_irrefl _)⟩
    · rcases temps_spec H.temps hi hit ho1 htm e with ⟨h6, h7⟩ | ⟨h6, h7⟩
      · exact ⟨fun _ => h6, fun _ => bef_closed H.back hcl j hpre i h7⟩
      · exact ⟨fun hx => absurd (bef_closed H.back hcl i (hcl i hx) j h7) hX, fun hx => by omega⟩
  have hvs : VRs β (evs (ts j) o1.args) (xs.map a.eval) := opds_on (hM.gl.mono hM.ext hM.bel.block).nm h3 fun t htm ht => rd t (by unfold temps1; simp only [List.mem_append]; exact .inr htm) ht
  have hwant : ∀ {r}, wants (ts j) o1.gd = some r → Region.wanted ops[j] (yielded ops a.tmps) = r := fun hw =>
    wants_on hT.sz h2 (fun t htm ht => rd t (by unfold temps1; simp only [List.mem_append]; exact .inl (.inr (by rw [htm]; simp))) ht) hw
  have fin : ∀ (v : AV) (v' : Value) (γ : Bt) (q' : Nat) (w' : World), ts (j + 1) = (ts j).put v o1.dst → VR γ v v' → Ext β γ → MInv l ss B0 β0 w0 (fun i => X i ∨ i = j) q' γ w' → (q' < l.length → ∃ o, l[q']? = some o ∧ isE o = true) → K (a.put ops[j].dst v') w' := by
    intro v v' γ q' w' g1 g2 g3 g4 g5
    exact h q' γ _ w' g4 g5 (hT.put H.hl H.way H.back H.temps hcl g3 ho1 hX h4 h5 g2 g1)
  -- effects come in their order
  have hjq : isE o1 = true → j = q := by
    intro hE
    rcases Nat.lt_trichotomy j q with hlt | heq | hgt
    · exact absurd ((hM.qE j o1 ho1 hE).2 hlt) hX
    · exact heq
    · obtain ⟨oq, hoq, hEq⟩ := hqb (by omega)
      have := bef_closed H.back hcl j hpre q (eff_spec H.eff hoq hEq ho1 hE hgt)
      have := (hM.qE q oq hoq hEq).1 this
      omega
  have effst : isE o1 = true → ∀ γ v v' w', ts (j + 1) = (ts j).put v o1.dst → VR γ v v' → Stp B0 β (ss q) w γ (ss (q + 1)) w' → K (a.put ops[j].dst v') w' := by
    intro hE γ v v' w' g1 g2 g3
    have e := hjq hE
    obtain ⟨r, hr1, hr2, hr3, hr4⟩ := next_eff l (l.length - (q + 1)) (q + 1) (by omega)
    refine fin v v' γ r w' g1 g2 g3.ext ?_ hr4
    rw [e]
    exact hM.advE hp hfree (by rw [← e]; exact ho1) hE g3 hr1 hr2 hr3
  unfold wpOp
  simp only [ho]
  unfold step1 at hstep
  split at hstep
  · rename_i hw
    rw [hwant hw, if_pos rfl]
    refine .inl ?_
    split at hstep
    · rename_i v S1 he
      injection hstep with hstep
      injection hstep with e1 e2
      subst e2
      have hts := e1.symm
      cases hcl' : o1.op.cl
      · -- reads
        have hE : isE o1 = false := by unfold isE; rw [hcl']
        simp only [semOp, hcl', opR] at he
        cases hr : semR o1.op (ss j).h (evs (ts j) o1.args) with
        | none => rw [hr] at he; cases he
        | some u =>
          rw [hr] at he
          injection he with he
          injection he with e3 e4
          subst e3
          have hread : ∃ p u', Rel β B0 (ss p).h w ∧ semR o1.op (ss p).h (evs (ts j) o1.args) = some u' ∧ ∀ x, VR β u' x → VR β u x := by
            cases hm : o1.op.mem with
            | false => exact ⟨q, u, hM.rel hp (Nat.le_refl _) (fun i o h1 h2 => by omega), by rw [← hr]; exact semR_mem hm _ _ _, fun x hx => hx⟩
            | true =>
              obtain ⟨p, hp1, hp2, hp3⟩ := prev_eff l q hM.qN
              have hpe : ∀ e, e ∈ effs l → e < q → e < p := fun e hem heq => by
                rcases Nat.lt_or_ge e p with h' | h'
                · exact h'
                · obtain ⟨oe, hoe, hEe⟩ := mem_effs.1 hem
                  rw [hp3 e oe h' heq hoe] at hEe; cases hEe
              cases how : ownW (effs l) j p with
              | true =>
                unfold ownW at how
                rw [List.all_eq_true] at how
                have how' : ∀ e, e ∈ effs l → (e < p ↔ e < j) := fun e hem => by
                  have := how e hem
                  rw [blt_nat, blt_nat, beq_iff_eq, decide_eq_decide] at this
                  exact this
                have hjq' : j ≤ q := by
                  rcases Nat.lt_or_ge q j with h' | h'
                  · obtain ⟨oq, hoq, hEq⟩ := hqb (by omega)
                    have := (how' q (mem_effs.2 ⟨oq, hoq, hEq⟩)).2 h'
                    omega
                  · exact h'
                refine ⟨j, u, hM.rel hp hjq' (fun i o hi1 hi2 hi => ?_), hr, fun x hx => hx⟩
                cases hEi : isE o with
                | false => rfl
                | true =>
                  have hem := mem_effs.2 ⟨o, hi, hEi⟩
                  have := (how' i hem).1 (hpe i hem hi2)
                  omega
              | false =>
                have hfe : feas (effs l) (befores (ops.toList.map preds) []) j p = true := by
                  unfold feas
                  rw [List.all_eq_true]
                  intro e hem
                  obtain ⟨oe, hoe, hEe⟩ := mem_effs.1 hem
                  simp only [Bool.and_eq_true, Bool.or_eq_true, Bool.not_eq_true', blt_nat, ble_nat, decide_eq_true_eq]
                  constructor
                  · cases hb1 : bef (befores (ops.toList.map preds) []) e j with
                    | false => exact .inl rfl
                    | true => exact .inr (hpe e hem ((hM.qE e oe hoe hEe).1 (bef_closed H.back hcl j hpre e hb1)))
                  · cases hb1 : bef (befores (ops.toList.map preds) []) j e with
                    | false => exact .inl rfl
                    | true =>
                      refine .inr ?_
                      rcases Nat.lt_or_ge e p with h' | h'
                      · have hXe := (hM.qE e oe hoe hEe).2 (by omega)
                        exact absurd (bef_closed H.back hcl e (hcl e hXe) j hb1) hX
                      · exact h'
                have hag := H.chk _ (chk_mem ho1 hm hp2 hfe how)
                unfold again at hag
                rw [ho1, H.states j (by omega), H.states p (by have := hM.qN; omega)] at hag
                simp only [hw, hr] at hag
                split at hag
                · rename_i u1 u' hu1 hu2
                  injection hu1 with hu1
                  subst hu1
                  exact ⟨p, u', hM.rel hp hp1 hp3, hu2, fun x hx => sameV_VR hag hx⟩
                · cases hag
          obtain ⟨p, u', g1, g2, g3⟩ := hread
          obtain ⟨v', g4, g5⟩ := R_sound a.eval g1 h1 hvs g2
          unfold Oper.wp
          rw [g4, Oper.upon_value]
          exact fin u v' β q w hts (g3 v' g5) (Ext.refl β) (hM.advR ho1 hE) hqb
      · -- makes a block
        have hE : isE o1 = false := by unfold isE; rw [hcl']
        simp only [semOp, hcl', opA] at he
        cases hr : semA o1.op (ss j).nx (evs (ts j) o1.args) with
        | none => rw [hr] at he; cases he
        | some pr =>
          obtain ⟨blk, u⟩ := pr
          rw [hr] at he
          injection he with he
          injection he with e3 e4
          subst e3
          obtain ⟨x, v', z, g1, g2, g3⟩ := A_sound (P := P) (w := w) a.eval h1 hvs hr hM.le
          unfold Oper.wp
          rw [g1, Oper.upon_value]
          have hf0 : β (ss j).nx = none := hM.open hp hfree (by omega) hX (Nat.le_refl _) (by rw [← e4]; exact Nat.lt_succ_self _)
          obtain ⟨g4, g5⟩ := g3 _ (upd_ext hf0) (upd_same β (ss j).nx (w.heap.size, 0, z))
          obtain ⟨_, g6⟩ := hM.advA hp hfree ho1 hE hX e4.symm g2 g5
          exact fin u v' _ q _ hts g4 (upd_ext hf0) g6 hqb
      · -- an effect
        have hE : isE o1 = true := by unfold isE; rw [hcl']
        have e := hjq hE
        subst e
        exact op_sound (hp.wfi (by omega)) (hM.rel hp (Nat.le_refl _) (fun i o h1 h2 => by omega)) h1 hvs H.call he
          (fun n hn1 hn2 => hM.open hp hfree (by omega) hX hn1 hn2) fun γ v' w' g1 g2 => effst hE γ v v' w' hts g1 g2
    · cases hstep
  · rename_i hw
    rw [hwant hw, if_neg (by simp)]
    injection hstep with hstep
    injection hstep with e1 e2
    cases hE : isE o1 with
    | true =>
      have e := hjq hE
      subst e
      refine effst hE β (.tup []) undef w e1.symm (.tup .nil) ?_
      rw [← e2]
      exact Stp.refl (hM.rel hp (Nat.le_refl _) (fun i o h1 h2 => by omega))
    | false => exact fin (.tup []) undef β q w e1.symm (.tup .nil) (Ext.refl β) (hM.advR ho1 hE) hqb
  · cases hstep

theorem ready_iff {listed : Array Bool} {j : Nat} : j ∈ Region.ready .any ops listed ↔ listed.getD j true = false ∧ j < ops.size ∧ ∀ d ∈ predsAt ops j, listed.getD d false = true := by
  rw [mem_ready]
  constructor
  · rintro ⟨h1, o, ho, h2⟩
    refine ⟨h1, (Array.getElem?_eq_some_iff.1 ho).1, fun d hd => ?_⟩
    unfold predsAt at hd
    rw [Array.getElem?_toList, ho] at hd
    simp only [Option.map_some, Option.getD_some, preds, List.mem_map, List.mem_filter, Array.mem_toList_iff] at hd
    obtain ⟨e, ⟨he1, he2⟩, rfl⟩ := hd
    exact h2 e he1 he2
  · rintro ⟨h1, h2, h3⟩
    refine ⟨h1, ops[j], Array.getElem?_eq_getElem h2, fun e he hb => h3 _ ?_⟩
    unfold predsAt
    rw [Array.getElem?_toList, Array.getElem?_eq_getElem h2]
    simp only [Option.map_some, Option.getD_some, preds, List.mem_map, List.mem_filter, Array.mem_toList_iff]
    exact ⟨e, ⟨he, hb⟩, rfl⟩

theorem any_go (H : Open P B0 ps nt ops l call ts ss tr) (hfree : Free β0 (ss 0).nx (ss l.length).nx) {Q : Exit → Act → World → Prop}
    (h : ∀ γ a' w', TRel γ ps nt (ts l.length) a' → Stp B0 β0 (ss 0) w0 γ (ss l.length) w' → Q .normal a' w') :
    ∀ (n : Nat) (listed : Array Bool) (L : List Nat) (X : Nat → Prop) (q : Nat) (β : Bt) (a : Act) (w : World), listed.size = ops.size → (∀ i, X i ↔ listed.getD i false = true) → L.length ≤ n → (∀ i, i < ops.size → ¬ X i → i ∈ L) →
      (∀ i, X i → ∀ d ∈ predsAt ops i, X d) → MInv l ss B0 β0 w0 X q β w → (q < l.length → ∃ o, l[q]? = some o ∧ isE o = true) → TmInv l ts ps nt X β a → wpAny P .any ops Q n listed a w := by
  have hlen : ops.size = l.length := by simpa using mapO_len H.hl
  have tf : ∀ {listed : Array Bool} {i : Nat}, i < listed.size → (listed.getD i true = false ↔ ¬ listed.getD i false = true) := by
    intro listed i hi
    rw [Array.getD_eq_getD_getElem?, Array.getD_eq_getD_getElem?, Array.getElem?_eq_getElem hi]
    simp
  have all_done : ∀ {listed : Array Bool} {X : Nat → Prop}, listed.size = ops.size → (∀ i, X i ↔ listed.getD i false = true) → Region.ready .any ops listed = [] → ∀ i, i < ops.size → X i := by
    intro listed X hsz hX hr i
    induction i using Nat.strongRecOn with
    | _ i ih =>
      intro hi
      by_cases hx : X i
      · exact hx
      · exfalso
        have : i ∈ Region.ready .any ops listed := ready_iff.2 ⟨(tf (by omega)).2 (fun e => hx ((hX i).2 e)), hi, fun d hd => (hX d).1 (ih d (back_spec H.back hd) (by have := back_spec H.back hd; omega))⟩
        rw [hr] at this
        cases this
  have done : ∀ {X : Nat → Prop} {q : Nat} {β : Bt} {a : Act} {w : World}, (∀ i, i < ops.size → X i) → MInv l ss B0 β0 w0 X q β w → (q < l.length → ∃ o, l[q]? = some o ∧ isE o = true) → TmInv l ts ps nt X β a → Q .normal a w := by
    intro X q β a w hall hM hqb hT
    have hq : q = l.length := by
      rcases Nat.lt_or_ge q l.length with h' | h'
      · obtain ⟨o, ho, hE⟩ := hqb h'
        have := (hM.qE q o ho hE).1 (hall q (by omega))
        omega
      · have := hM.qN; omega
    refine h β a w ⟨hT.sz, fun t ht => hT.tm t ht l.length (Nat.le_refl _) fun i o hi _ => ?_, hT.df⟩ (hM.done H.path hfree hq)
    have hil := (List.getElem?_eq_some_iff.1 hi).1
    exact ⟨fun _ => hil, fun _ => hall i (by omega)⟩
  intro n
  induction n with
  | zero =>
    intro listed L X q β a w hsz hX hL hmem hcl hM hqb hT
    have hL0 : L = [] := List.eq_nil_of_length_eq_zero (by omega)
    subst hL0
    have hall : ∀ i, i < ops.size → X i := fun i hi => by
      by_cases hx : X i
      · exact hx
      · cases hmem i hi hx
    refine ⟨?_, done hall hM hqb hT⟩
    cases hr : Region.ready .any ops listed with
    | nil => rfl
    | cons j r =>
      have hj : j ∈ Region.ready .any ops listed := by rw [hr]; simp
      obtain ⟨h1, h2, _⟩ := ready_iff.1 hj
      exact absurd ((hX j).1 (hall j h2)) ((tf (by omega)).1 h1)
  | succ n ih =>
    intro listed L X q β a w hsz hX hL hmem hcl hM hqb hT
    refine ⟨fun hr => done (all_done hsz hX hr) hM hqb hT, fun j hj => ?_⟩
    obtain ⟨h1, h2, h3⟩ := ready_iff.1 hj
    have hXj : ¬ X j := fun e => (tf (by omega)).1 h1 ((hX j).1 e)
    have hpre : ∀ d ∈ predsAt ops j, X d := fun d hd => (hX d).2 (h3 d hd)
    refine any_op H hfree hM hqb hT hcl h2 hXj hpre fun q' γ a' w' g1 g2 g3 => ?_
    refine ih (listed.setIfInBounds j true) (L.erase j) (fun i => X i ∨ i = j) q' γ a' w' (by simpa using hsz) (fun i => ?_) ?_ (fun i hi hx => ?_) ?_ g1 g2 g3
    · by_cases e : i = j
      · subst e
        have : (listed.setIfInBounds i true).getD i false = true := by
          rw [Array.getD_eq_getD_getElem?, Array.getElem?_setIfInBounds_self_of_lt (by omega)]; rfl
        exact ⟨fun _ => this, fun _ => .inr rfl⟩
      · rw [getD_set_ne false (fun h => e h.symm), ← hX i]
        exact ⟨fun hx => hx.resolve_right e, .inl⟩
    · rw [List.length_erase_of_mem (hmem j h2 hXj)]; omega
    · have hij : i ≠ j := fun e => hx (.inr e)
      exact (List.mem_erase_of_ne hij).2 (hmem i hi fun e => hx (.inl e))
    · rintro i (hi | rfl) d hd
      · exact .inl (hcl i hi d hd)
      · exact .inl (hpre d hd)

theorem region_any (hm : P.follows .mixedOrders = true) (hgr : Grows call) (hcall : CallOk P B0 call) (hl : mapO (comp1 P ps ops nt) ops.toList = some l) {T : Tm} {S : St} {T' : Tm} {S' : St} (htr : trace call l T S = some tr) (hlast : lastOf tr = some (T', S'))
    (hback : backOk (ops.toList.map preds) = true) (htemps : tempsOk l (befores (ops.toList.map preds) []) = true) (heff : effOk l (befores (ops.toList.map preds) []) = true)
    (hchk : ∀ c ∈ chkOf l (befores (ops.toList.map preds) []), again l tr c = true) {id : Nat} {β : Bt} {w : World} {a : Act} {Q : Exit → Act → World → Prop} (hwf : S.wf) (hR : Rel β B0 S.h w) (hT : TRel β ps nt T a) (hfree : Free β S.nx S'.nx)
    (h : ∀ γ a' w', TRel γ ps nt T' a' → Stp B0 β S w γ S' w' → Q .normal a' w') : (Code.region id ops true).wp P Q a w := by
  obtain ⟨ts, ss, rfl, rfl, h3, h4, h5⟩ := way_of_trace htr
  rw [h5] at hlast
  injection hlast with hlast
  injection hlast with e1 e2
  subst e1; subst e2
  have hp := path_of_way hgr h3 hwf
  obtain ⟨q, hq1, hq2, hq3, hq4⟩ := next_eff l l.length 0 (by omega)
  have hR1 : Rel β B0 (ss 0).h { w with drawn := w.drawn + 1 } := ⟨hR.blk, hR.inj, hR.le, hR.gl.mono (Ext.refl β) fun _ _ => rfl⟩
  refine wp_region_any hm (any_go (w0 := { w with drawn := w.drawn + 1 }) ⟨hl, h3, h4, hp, hback, htemps, heff, hchk, hcall⟩ hfree (fun γ a' w' g1 g2 => h γ a' w' g1 ⟨g2.ext, g2.dom, g2.rel, ⟨g2.bel.os, g2.bel.tape, g2.bel.output, g2.bel.size, g2.bel.block⟩, g2.fr, g2.src, g2.ph, g2.nx⟩)
    ops.size (Array.replicate ops.size false) (List.range ops.size) (fun _ => False) q β a _ (by simp) (fun i => ?_) (by simp) (fun i hi _ => by simpa using hi) (fun i hi => hi.elim) (MInv.start hp hR1 hfree hq2 (fun i o h1 h2 => hq3 i o (Nat.zero_le _) h1 h2)) hq4 ⟨hT.sz, hT.df, ?_⟩)
  · refine ⟨False.elim, fun e => ?_⟩
    rw [Array.getD_eq_getD_getElem?, Array.getElem?_replicate] at e
    split at e <;> cases e
  · intro t ht j hj hc
    rw [keepT hl h3 (Nat.zero_le j) hj fun i o h1 h2 hi hit => (hc i o hi hit).2 h2]
    exact hT.tm t ht
end

/-- all regions -/
theorem reg_ok {P : Program} {B0 : Nat} {F : Nat → Option AFn} (hm : P.follows .mixedOrders = true) (hF : TblOk P F) : ∀ E, ExecOk P B0 E → GrowsE E → RetE E → RegOk P B0 F E := by
  intro E hE hG hret ps nt id ops d c hc T S x T' S' hs β w a Q hwf hR hT hfree h
  have hcall : CallOk P B0 (callOf F E) := call_ok hF hE hret
  have hgr : Grows (callOf F E) := callOf_grows hG
  unfold compReg at hc
  split at hc
  · cases hc
  · rename_i l hl
    have hlen : ops.size = l.length := by simpa using mapO_len hl
    cases d with
    | false =>
      cases hc
      change xReg (callOf F E) l T S = _ at hs
      unfold xReg at hs
      split at hs
      · rename_i T1 S1 he
        cases hs
        refine wp_region ?_
        rw [List.range_eq_range']
        exact region_plain hcall hgr hl ops.size 0 (by omega) hwf hR hT.clear (by simpa using he) hfree h
      · cases hs
    | true =>
      simp only [cond_true] at hc
      rw [cond_eq_ite] at hc
      split at hc
      · rename_i hok
        simp only [Bool.and_eq_true] at hok
        split at hc
        · rename_i hnil
          cases hc
          change xReg (callOf F E) l T S = _ at hs
          unfold xReg at hs
          split at hs
          · rename_i T1 S1 he
            cases hs
            obtain ⟨tr, h1, h2⟩ := trace_of_run he
            exact region_any hm hgr hcall hl h1 h2 hok.1.1 hok.1.2 hok.2 (fun c hc => by rw [hnil] at hc; cases hc) hwf hR hT.clear hfree h
          · cases hs
        · cases hc
          change xRegD (callOf F E) l _ T S = _ at hs
          unfold xRegD at hs
          split at hs
          · rename_i tr htr
            rw [cond_eq_ite] at hs
            split at hs
            · rename_i hall
              rw [Option.map_eq_some_iff] at hs
              obtain ⟨⟨T1, S1⟩, h1, h2⟩ := hs
              cases h2
              exact region_any hm hgr hcall hl htr h1 hok.1.1 hok.1.2 hok.2 (fun c hc => List.all_eq_true.1 hall c hc) hwf hR hT.clear hfree h
            · cases hs
          · cases hs
      · cases hc

/-- The sum: a call of the abstract machine says what the model's does. -/
theorem acall_sound {P : Program} {B0 : Nat} {F : Nat → Option AFn} (hm : P.follows .mixedOrders = true) (hF : TblOk P F) (n : Nat) : CallOk P B0 (acall F n) :=
  call_ok hF (exec_ok (reg_ok hm hF) n).1 (exec_ret F n)
/-- A function that answers true where there is nothing in memory, does so wherever. -/
theorem known {P : Program} {F : Nat → Option AFn} (hm : P.follows .mixedOrders = true) (hF : TblOk P F) {ps f : Nat} {g : Func} {fn : AFn} (hg : P.funcs[f]? = some g) (hc : compFn P ps g = some fn) {n : Nat}
    (h : (match exec F n fn.body ⟨[], []⟩ S0 with
      | some (.norm, T', S') => (match resV T' S'.h fn.res with | some (.b true) => true | _ => false)
      | some (.ret, T', S') => (match resV T' S'.h fn.res with | some (.b true) => true | _ => false)
      | _ => false) = true) : KnownTrue P f := by
  split at h
  · rename_i T' S' he
    split at h
    · rename_i hv; exact known_true (fun _ => reg_ok hm hF) hg hc he rfl hv
    · cases h
  · rename_i T' S' he
    split at h
    · rename_i hv; exact known_true (fun _ => reg_ok hm hF) hg hc he rfl hv
    · cases h
  · cases h
end Go.AM

/- More fuel, the same answer; small laws for evaluating the abstract machine at open values. -/
set_option linter.unusedVariables false
set_option linter.unusedSimpArgs false
namespace Go.AM

def Sub (c c' : Cll) : Prop := ∀ f vs S r, c f vs S = some r → c' f vs S = some r
theorem semE_sub {c c' : Cll} (h : Sub c c') {o : AOp} {S : St} {vs : List AV} {r : AV × St} (hs : semE o c S vs = some r) : semE o c' S vs = some r := by
  cases o <;> simp only [semE] at hs ⊢ <;> try exact hs
  case call f => exact h _ _ _ _ hs
  case callv =>
    obtain ⟨f, fst, cap, us, rfl, hs⟩ := eCallv_some hs
    exact h _ _ _ _ hs
theorem semOp_sub {c c' : Cll} (h : Sub c c') {o : AOp} {S : St} {vs : List AV} {r : AV × St} (hs : semOp o c S vs = some r) : semOp o c' S vs = some r := by
  cases hcl : o.cl <;> simp only [semOp, hcl] at hs ⊢
  · exact hs
  · exact hs
  · exact semE_sub h hs
theorem step1_sub {c c' : Cll} (h : Sub c c') {o : Op1} {T : Tm} {S : St} {r : Tm × St} (hs : step1 c o T S = some r) : step1 c' o T S = some r := by
  unfold step1 at hs ⊢
  split at hs
  · split at hs
    · rename_i he
      rw [semOp_sub h he]
      exact hs
    · cases hs
  · exact hs
  · cases hs
theorem runOps_sub {c c' : Cll} (h : Sub c c') : ∀ {l : List Op1} {T : Tm} {S : St} {r : Tm × St}, runOps c l T S = some r → runOps c' l T S = some r
  | [], _, _, _, hs => hs
  | o :: l, T, S, r, hs => by
    rw [runOps_cons] at hs ⊢
    split at hs
    · rename_i he
      rw [step1_sub h he]
      exact runOps_sub h hs
    · cases hs
theorem trace_sub {c c' : Cll} (h : Sub c c') : ∀ {l : List Op1} {T : Tm} {S : St} {r : List (Tm × St)}, trace c l T S = some r → trace c' l T S = some r
  | [], _, _, _, hs => hs
  | o :: l, T, S, r, hs => by
    unfold trace at hs ⊢
    split at hs
    · rename_i he
      rw [step1_sub h he]
      rw [Option.map_eq_some_iff] at hs ⊢
      obtain ⟨u, hu, hr⟩ := hs
      exact ⟨u, trace_sub h hu, hr⟩
    · cases hs
def SubE (E E' : Ec) : Prop := ∀ c T S r, E c T S = some r → E' c T S = some r
theorem callOf_sub {F : Nat → Option AFn} {E E' : Ec} (h : SubE E E') : Sub (callOf F E) (callOf F E') := by
  intro f vs S r hs
  unfold callOf at hs ⊢
  split at hs
  · cases hs
  · rename_i fn _
    split at hs
    · rename_i he; simp only [h _ _ _ _ he]; exact hs
    · rename_i he; simp only [h _ _ _ _ he]; exact hs
    · cases hs
theorem exec1_sub {F : Nat → Option AFn} {E E' : Ec} (h : SubE E E') : SubE (exec1 F E) (exec1 F E') := by
  have hc := callOf_sub (F := F) h
  intro c T S r hs
  cases c with
  | skip => exact hs
  | reg ops =>
    simp only [exec1, xReg] at hs ⊢
    split at hs
    · rename_i he; rw [runOps_sub hc he]; exact hs
    · cases hs
  | regD ops chk =>
    simp only [exec1, xRegD] at hs ⊢
    split at hs
    · rename_i he; rw [trace_sub hc he]; exact hs
    · cases hs
  | seq a b =>
    simp only [exec1, xSeq] at hs ⊢
    split at hs
    · rename_i he; rw [h _ _ _ _ he]; exact h _ _ _ _ hs
    · rename_i hne
      rw [h _ _ _ _ hs]
      split
      · rename_i e; cases e; exact absurd hs (hne _ _)
      · rfl
  | cond c x y =>
    simp only [exec1, xCond] at hs ⊢
    split at hs
    · exact h _ _ _ _ hs
    · exact h _ _ _ _ hs
    · cases hs
  | block id c =>
    simp only [exec1, xBlock] at hs ⊢
    split at hs
    · rename_i he; rw [h _ _ _ _ he]; exact hs
    · rename_i hne
      rw [h _ _ _ _ hs]
      split
      · rename_i e; cases e; exact absurd hs (hne _ _ _)
      · rfl
  | loop c =>
    simp only [exec1, xLoop] at hs ⊢
    split at hs
    · rename_i he; rw [h _ _ _ _ he]; exact h _ _ _ _ hs
    · rename_i hne
      rw [h _ _ _ _ hs]
      split
      · rename_i e; cases e; exact absurd hs (hne _ _)
      · rfl
  | exit id => exact hs
  | ret => exact hs
  | ext k => exact hs
theorem exec_sub (F : Nat → Option AFn) : ∀ n, SubE (exec F n) (exec F (n + 1))
  | 0 => fun _ _ _ _ h => by cases h
  | n + 1 => exec1_sub (exec_sub F n)
theorem exec_le {F : Nat → Option AFn} {n m : Nat} (h : n ≤ m) : SubE (exec F n) (exec F m) := by
  induction m with
  | zero => have : n = 0 := by omega
            subst this; exact fun _ _ _ _ h => h
  | succ m ih =>
    by_cases e : n = m + 1
    · subst e; exact fun _ _ _ _ h => h
    · exact fun c T S r hs => exec_sub F m c T S r (ih (by omega) c T S r hs)
theorem acall_le {F : Nat → Option AFn} {n m : Nat} (h : n ≤ m) {f : Nat} {vs : List AV} {S : St} {r : AV × St} (hs : acall F n f vs S = some r) : acall F m f vs S = some r := callOf_sub (exec_le h) f vs S r hs

/-- A call that answers true, of a function that is called by the judge's world: what the row asks. -/
theorem calls_true {P : Program} {F : Nat → Option AFn} (hm : P.follows .mixedOrders = true) (hF : TblOk P F) {n f : Nat} {vs : List AV} {as : Array Value} {S S' : St} {w : World} {β : Bt} (h : acall F n f vs S = some (.b true, S'))
    (hwf : S.wf) (hv : VRs β vs as.toList) (hR : Rel β w.heap.size S.h w) (hfree : Free β S.nx S'.nx) :
    Calls P f as w fun e w' => e = .returned (.bool true) ∧ RowKit.Below w.heap.size w w' := by
  refine ((acall_sound hm hF n f vs S _ S' h).2 β w as hwf hv hR hfree).mono ?_
  rintro e w' ⟨γ, v', rfl, h1, h2⟩
  cases h1
  exact ⟨rfl, h2.bel⟩
theorem calls_trueG {P : Program} {F : Nat → Option AFn} (hm : P.follows .mixedOrders = true) (hF : TblOk P F) {n f : Nat} {vs : List AV} {as : Array Value} {S' : St} {w : World} (h : acall F n f vs S0 = some (.b true, S')) (hv : VRs (fun _ => none) vs as.toList) (hgn : GN ≤ w.heap.size) (hgw : GW w) :
    Calls P f as w fun e w' => e = .returned (.bool true) ∧ RowKit.Below w.heap.size w w' :=
  calls_true hm hF h wf_S0 (hv.mono fun _ _ h => by cases h) (rel_S0 hgn hgw) free_S0
/-- what a function's end makes of its body's -/
noncomputable def finish (r : List ResV) : Option (Ex × Tm × St) → Option (AV × St)
  | some (.norm, T', S') => (resV T' S'.h r).map fun v => (v, S')
  | some (.ret, T', S') => (resV T' S'.h r).map fun v => (v, S')
  | _ => none
theorem callOf_fn {F : Nat → Option AFn} {E : Ec} {f : Nat} {fn : AFn} (h : F f = some fn) (vs : List AV) (S : St) : callOf F E f vs S = finish fn.res (E fn.body (initT vs) S) := by
  simp only [callOf, h]
  generalize E fn.body (initT vs) S = r
  cases r with
  | none => rfl
  | some r => obtain ⟨x, T, S⟩ := r; cases x <;> rfl
def isT : Option (AV × St) → Bool
  | some (.b true, _) => true
  | _ => false
theorem isT_spec {o : Option (AV × St)} (h : isT o = true) : ∃ S, o = some (.b true, S) := by
  unfold isT at h
  split at h
  · exact ⟨_, rfl⟩
  · cases h
theorem wr_id {n : Int} (h1 : -9223372036854775808 ≤ n) (h2 : n < 9223372036854775808) : wr .i64 n = n := by
  have : fits n = true := by
    cases n with
    | ofNat m => simp only [fits, blt_nat]; exact decide_eq_true (Int.ofNat_lt.1 h2)
    | negSucc m => simp only [fits, blt_nat]; exact decide_eq_true (by omega)
  simp only [wr, this, cond_true]
theorem exec_succ (F : Nat → Option AFn) (n : Nat) (c : ACode) : exec F (n + 1) c = exec1 F (exec F n) c := rfl
theorem acall_def (F : Nat → Option AFn) (n : Nat) : acall F n = callOf F (exec F n) := rfl
end Go.AM

/- Logical memory: what a part of memory holds, by the name of its first block; the code's weakest preconditions over it. Plain definitions. -/
set_option linter.unusedVariables false
namespace Go.AM

abbrev Hp := Nat → Option AB
/-- what is known at a name: a block as it stands; or something that is hidden, of which the named block is the first -/
inductive LC where
  | raw (x : AB)
  | abs (P : Hp → Prop)
abbrev Lg := Nat → Option LC
def Lg.put (L : Lg) (n : Nat) (c : LC) : Lg := fun m => if m = n then some c else L m
def Lg.del (L : Lg) (n : Nat) : Lg := fun m => if m = n then none else L m
/-- M, and behind it L -/
def Lg.over (M L : Lg) : Lg := fun b => match M b with | some c => some c | none => L b
/-- L without what M speaks of -/
def Lg.minus (L M : Lg) : Lg := fun b => match M b with | some _ => none | none => L b
def Lg.nil : Lg := fun _ => none

def partOk : Option LC → Nat → Hp → Prop
  | none, _, p => ∀ b, p b = none
  | some (.raw x), r, p => p r = some x ∧ ∀ b, b ≠ r → p b = none
  | some (.abs P), r, p => P p ∧ ∃ cs, p r = some (.cells cs)
def Parts (L : Lg) (p : Nat → Hp) : Prop := (∀ r, partOk (L r) r (p r)) ∧ ∀ r s b, r ≠ s → p r b = none ∨ p s b = none
def Sat (L : Lg) (h : Hp) : Prop := ∃ p, Parts L p ∧ ∀ b x, h b = some x ↔ ∃ r, p r b = some x
def Mod (S : St) (L : Lg) : Prop := ∃ h, Sat L h ∧ ∀ b x, h b = some x → S.h.get b = some x ∧ b < S.nx

def rdL (L : Lg) (a : Nat × Nat) (sz : Option Nat) : Option AV :=
  match L a.1 with
  | some (.raw blk) => match blk.read with
    | some c => look c a.2 sz
    | none => none
  | _ => none
def rdCellsL (L : Lg) (a : Option (Nat × Nat)) (n : Nat) : Option (List AV) :=
  match a with
  | none => if n = 0 then some [] else none
  | some (r, o) => match L r with
    | some (.raw blk) => match blk.read with
      | some c => cut c o n
      | none => none
    | _ => none
def liveL (L : Lg) (r : Nat) : Bool :=
  match L r with
  | some (.raw (.cells _)) => true
  | some (.abs _) => true
  | _ => false
def wrL (L : Lg) (a : Nat × Nat) (vs : List AV) : Option Lg :=
  match L a.1 with
  | some (.raw (.cells c)) => if a.2 + vs.length ≤ c.length ∧ vs.all AV.one = true then some (L.put a.1 (.raw (.cells (splice c a.2 vs)))) else none
  | _ => none
def eqPL (L : Lg) : Option (Nat × Nat) → Option (Nat × Nat) → Option Bool
  | none, none => some true
  | none, some _ => some false
  | some _, none => some false
  | some (a, i), some (b, j) => if a = b then some (decide (i = j)) else if liveL L a = true ∧ liveL L b = true then some false else none
noncomputable def rEqL (ng : Bool) (k : EqK) (L : Lg) : List AV → Option AV
  | [.p x, .p y] => match k with
    | .ptr => (eqPL L x y).map fun r => .b (r != ng)
    | k => rEq ng k .nil [.p x, .p y]
  | vs => rEq ng k .nil vs
def rLdL (sz : Option Nat) (L : Lg) : List AV → Option AV
  | [.p (some a)] => rdL L a sz
  | _ => none
def rLkupL (z : AV) (ok : Bool) (L : Lg) : List AV → Option AV
  | [.m none, .i _ _] => some (if ok = true then .tup [z, .b false] else z)
  | [.m (some r), .i k n] => match L r with
    | some (.raw (.map es)) => match mfind k n es with
      | some (some v) => some (if ok = true then .tup [v, .b true] else v)
      | some none => some (if ok = true then .tup [z, .b false] else z)
      | none => none
    | _ => none
  | _ => none
def rMlenL (L : Lg) : List AV → Option AV
  | [.m none] => some (.i .i64 0)
  | [.m (some r)] => match L r with
    | some (.raw (.map es)) => some (.i .i64 es.length)
    | _ => none
  | _ => none
def rCvtBL (L : Lg) : List AV → Option AV
  | [.sl a n _ _] => if n = 0 then some (.s []) else match rdCellsL L a n with
    | some l => match u8s l with
      | some s => some (.s s)
      | none => none
    | none => none
  | _ => none
noncomputable def semRL : AOp → Lg → List AV → Option AV
  | .ld sz, L, vs => rLdL sz L vs
  | .lkup z ok, L, vs => rLkupL z ok L vs
  | .mlen, L, vs => rMlenL L vs
  | .cvtB, L, vs => rCvtBL L vs
  | .eq ng k, L, vs => rEqL ng k L vs
  | o, _, vs => semR o .nil vs

def retL (r : Option AV) (L : Lg) (k : AV → Lg → Prop) : Prop :=
  match r with
  | some v => k v L
  | none => False
def newL (f : Nat → List AV → Option (AB × AV)) (vs : List AV) (L : Lg) (k : AV → Lg → Prop) : Prop :=
  ∀ b, L b = none → match f b vs with
    | some (x, v) => k v (L.put b (.raw x))
    | none => False

/-- a call: from whatever is so, it ends, and what is behind is so -/
def CallL (F : Nat → Option AFn) (f : Nat) (vs : List AV) (L : Lg) (Q : AV → Lg → Prop) : Prop :=
  ∀ S, Mod S L → ∃ n v S', acall F n f vs S = some (v, S') ∧ ∃ L', Mod S' L' ∧ Q v L'

def stL (sz : Nat) (L : Lg) (k : AV → Lg → Prop) : List AV → Prop
  | [.p (some a), v] => match v.cellsOf with
    | some l => if l.length = sz then match wrL L a l with
      | some L' => k .bad L'
      | none => False
      else False
    | none => False
  | _ => False
def msetW (L : Lg) (k : AV → Lg → Prop) : List AV → Prop
  | [.m (some r), .i j n, v] => match L r with
    | some (.raw (.map es)) => match msetL j n v es with
      | some es => k .bad (L.put r (.raw (.map es)))
      | none => False
    | _ => False
  | _ => False
def mdelW (L : Lg) (k : AV → Lg → Prop) : List AV → Prop
  | [.m none, .i _ _] => k .bad L
  | [.m (some r), .i j n] => match L r with
    | some (.raw (.map es)) => match mdelL j n es with
      | some es => k .bad (L.put r (.raw (.map es)))
      | none => False
    | _ => False
  | _ => False
def goneL (L : Lg) (a : Option (Nat × Nat)) (ex size : Nat) : Option Lg :=
  if ex = 0 then some L else if ex = size then match a with
    | some (r, _) => match L r with
      | some (.raw (.cells _)) => some (L.del r)
      | _ => none
    | none => none
  else none
def appL (size bytes : Nat) (L : Lg) (a : Option (Nat × Nat)) (len cap ex n : Nat) (new : List AV) (k : AV → Lg → Prop) : Prop :=
  if len + n ≤ cap then
    match a with
    | none => k (.sl none (len + n) cap ex) L
    | some (r, o) => if n = 0 then k (.sl (some (r, o)) len cap ex) L else
      match wrL L (r, o + len * size) new with
      | some L' => k (.sl (some (r, o)) (len + n) cap ex) L'
      | none => False
  else (len + n) * bytes ≤ 70368744177664 ∧
    match rdCellsL L a (len * size), goneL L a ex size with
    | some old, some L' => ∀ b, L b = none → k (.sl (some (b, 0)) (len + n) (len + n) size) (L'.put b (.raw (.cells (old ++ new))))
    | _, _ => False
def appW (size bytes : Nat) (L : Lg) (k : AV → Lg → Prop) : List AV → Prop
  | [.sl a len cap ex, .sl b n _ _] => match rdCellsL L b (n * size) with
    | some new => new.all AV.one = true ∧ appL size bytes L a len cap ex n new k
    | none => False
  | _ => False
def clrW (z : List AV) (L : Lg) (k : AV → Lg → Prop) : List AV → Prop
  | [.sl a n _ _] => if n = 0 then k .bad L else match a with
    | some a => match wrL L a (reps z n) with
      | some L' => k .bad L'
      | none => False
    | none => False
  | _ => False
def cpyW (size : Nat) (L : Lg) (k : AV → Lg → Prop) : List AV → Prop
  | [.sl a dl _ _, .sl b sl _ _] => match rdCellsL L b (Nat.min sl dl * size) with
    | some vs => if Nat.min sl dl = 0 then k (.i .i64 0) L else match a with
      | some a => match wrL L a vs with
        | some L' => k (.i .i64 (Nat.min sl dl : Nat)) L'
        | none => False
      | none => False
    | none => False
  | _ => False
def callvW (F : Nat → Option AFn) (L : Lg) (k : AV → Lg → Prop) : List AV → Prop
  | .fn f fst cap :: vs => CallL F f (fst ++ vs ++ cap) L k
  | _ => False

noncomputable def wpOp (F : Nat → Option AFn) (o : AOp) (vs : List AV) (L : Lg) (k : AV → Lg → Prop) : Prop :=
  match o with
  | .alloc z => newL (aAlloc z) vs L k
  | .box => newL aBox vs L k
  | .bslice z len size ps => newL (aBslice z len size ps) vs L k
  | .mksl z bytes => newL (aMksl z bytes) vs L k
  | .mkmap => newL aMkmap vs L k
  | .st sz => stL sz L k vs
  | .mset => msetW L k vs
  | .mdel => mdelW L k vs
  | .app size bytes => appW size bytes L k vs
  | .clr z => clrW z L k vs
  | .cpy size => cpyW size L k vs
  | .call f => CallL F f vs L k
  | .callv => callvW F L k vs
  | o => retL (semRL o L vs) L k

/-! ### variables as functions -/
abbrev Env := Nat → AV
def Env.put (l : Env) (n : Nat) (v : AV) : Env := fun m => bif Nat.beq n m then v else l m
def Env.nil : Env := fun _ => .bad
def evO (l t : Env) : Opd → AV
  | .l n => l n
  | .t n => t n
  | .c v => v
noncomputable def evsO (l t : Env) (as : List Opd) : List AV := List.rec (motive := fun _ => List AV) [] (fun x _ ih => evO l t x :: ih) as
def putL (l : Env) (d : Dst) (v : AV) : Env := match d with
  | .l n => l.put n v
  | _ => l
def putT (t : Env) (d : Dst) (v : AV) : Env := match d with
  | .t n => t.put n v
  | _ => t
noncomputable def initE (vs : List AV) : Nat → Env := List.rec (motive := fun _ => Nat → Env) (fun _ => Env.nil) (fun v _ ih i => (ih (Nat.succ i)).put i v) vs

/-- an operation that is carried out if so -/
noncomputable def gdOp (F : Nat → Option AFn) (v : AV) (w : Bool) (o : AOp) (vs : List AV) (L : Lg) (k : AV → Lg → Prop) : Prop :=
  match v with
  | .b x => (x = w → wpOp F o vs L k) ∧ (x = (!w) → k (.tup []) L)
  | .bad => False
  | _ => k (.tup []) L
noncomputable def wpOp1 (F : Nat → Option AFn) (o : Op1) (l t : Env) (L : Lg) (k : AV → Lg → Prop) : Prop :=
  match o with
  | ⟨_, none, .mv, [x]⟩ => k (evO l t x) L
  | ⟨_, none, op, args⟩ => wpOp F op (evsO l t args) L k
  | ⟨_, some (c, w), op, args⟩ => gdOp F (evO l t c) w op (evsO l t args) L k
def condW (v : AV) (X Y : Prop) : Prop :=
  match v with
  | .b x => (x = true → X) ∧ (x = false → Y)
  | _ => False

noncomputable def wpOps (F : Nat → Option AFn) (ops : List Op1) : Env → Env → Lg → (Env → Env → Lg → Prop) → Prop :=
  List.rec (motive := fun _ => Env → Env → Lg → (Env → Env → Lg → Prop) → Prop) (fun l t L k => k l t L)
    (fun o _ ih l t L k => wpOp1 F o l t L fun v L' => ih (putL l o.dst v) (putT t o.dst v) L' k) ops

/-- what is looked at again reads the same -/
noncomputable def againV (o : AOp) (vs : List AV) (L L' : Lg) : Prop :=
  match semRL o L vs, semRL o L' vs with
  | some v, some v' => sameV v v' = true
  | _, _ => False
def againG (v : AV) (w : Bool) (P : Prop) : Prop := match v with
  | .b x => x = w → P
  | .bad => False
  | _ => True
noncomputable def againL (ops : List Op1) (tr : List (Env × Env × Lg)) (c : Nat × Nat) : Prop :=
  match ops[c.1]?, tr[c.1]?, tr[c.2]? with
  | some o, some (l, t, L), some (_, _, L') =>
    match o.gd with
    | none => againV o.op (evsO l t o.args) L L'
    | some (g, w) => againG (evO l t g) w (againV o.op (evsO l t o.args) L L')
  | _, _, _ => False
noncomputable def againA (ops : List Op1) (tr : List (Env × Env × Lg)) : List (Nat × Nat) → Prop
  | [] => True
  | c :: r => againL ops tr c ∧ againA ops tr r
noncomputable def wpOpsD (F : Nat → Option AFn) (ops : List Op1) (chk : List (Nat × Nat)) (rest : List Op1) : List (Env × Env × Lg) → Env → Env → Lg → (Env → Env → Lg → Prop) → Prop :=
  List.rec (motive := fun _ => List (Env × Env × Lg) → Env → Env → Lg → (Env → Env → Lg → Prop) → Prop) (fun tr l t L k => againA ops (tr ++ [(l, t, L)]) chk ∧ k l t L)
    (fun o _ ih tr l t L k => wpOp1 F o l t L fun v L' => ih (tr ++ [(l, t, L)]) (putL l o.dst v) (putT t o.dst v) L' k) rest

abbrev Kn := Env → Env → Lg → Prop
/-- a loop, by an invariant that has a measure -/
def loopW (B : Env → Env → Lg → (Env → Lg → Prop) → Prop) (l : Env) (L : Lg) : Prop :=
  ∃ I : Nat → Env → Lg → Prop, (∃ n, I n l L) ∧ ∀ n l t L, I n l L → B l t L (fun l L => ∃ m, m < n ∧ I m l L)
noncomputable def wp (F : Nat → Option AFn) (c : ACode) : Env → Env → Lg → Kn → (Nat → Kn) → Kn → Prop :=
  ACode.rec (motive := fun _ => Env → Env → Lg → Kn → (Nat → Kn) → Kn → Prop)
    (fun l t L k _ _ => k l t L)
    (fun ops l _ L k _ _ => wpOps F ops l Env.nil L k)
    (fun ops chk l _ L k _ _ => wpOpsD F ops chk ops [] l Env.nil L k)
    (fun _ _ a b l t L k ke kr => a l t L (fun l t L => b l t L k ke kr) ke kr)
    (fun c _ _ x y l t L k ke kr => condW (evO l t c) (x l t L k ke kr) (y l t L k ke kr))
    (fun id _ c l t L k ke kr => c l t L k (fun j l t L => bif Nat.beq j id then k l t L else ke j l t L) kr)
    (fun _ c l t L _ ke kr => loopW (fun l t L k => c l t L (fun l _ L => k l L) ke kr) l L)
    (fun id l t L _ ke _ => ke id l t L)
    (fun l t L _ _ kr => kr l t L) (fun _ _ _ _ _ _ _ => False) c

def resOneL (l t : Env) (L : Lg) : ResV → Option AV
  | .tmp x => some (evO l t x)
  | .cell x sz => match evO l t x with
    | .p (some a) => rdL L a sz
    | _ => none
def resLL (l t : Env) (L : Lg) : List ResV → Option (List AV)
  | [] => some []
  | r :: rs => match resOneL l t L r with
    | some v => (resLL l t L rs).map (v :: ·)
    | none => none
def resVL (l t : Env) (L : Lg) (rs : List ResV) : Option AV :=
  match resLL l t L rs with
  | some [v] => some v
  | some vs => some (.tup vs)
  | none => none

/-- another way to see the same memory -/
def Sees (L L' : Lg) : Prop := ∀ S, Mod S L → Mod S L'
end Go.AM

/- Logical memory: its laws. -/
set_option linter.unusedVariables false
set_option linter.unusedSimpArgs false
namespace Go.AM

@[simp] theorem Lg.put_same (L : Lg) (n : Nat) (c : LC) : (L.put n c) n = some c := by simp [Lg.put]
theorem Lg.put_ne (L : Lg) (n : Nat) (c : LC) {m : Nat} (h : m ≠ n) : (L.put n c) m = L m := by simp [Lg.put, h]
theorem Lg.put_apply (L : Lg) (n : Nat) (c : LC) (m : Nat) : (L.put n c) m = if m = n then some c else L m := rfl
theorem Lg.del_apply (L : Lg) (n : Nat) (m : Nat) : (L.del n) m = if m = n then none else L m := rfl
@[simp] theorem Lg.put_put (L : Lg) (n : Nat) (c d : LC) : (L.put n c).put n d = L.put n d := by
  funext m; simp only [Lg.put]; split <;> rfl
theorem Lg.put_comm (L : Lg) {n m : Nat} (h : n ≠ m) (c d : LC) : (L.put n c).put m d = (L.put m d).put n c := by
  funext k; simp only [Lg.put]; split <;> split <;> simp_all
@[simp] theorem Lg.put_self (L : Lg) (n : Nat) (c : LC) (h : L n = some c) : L.put n c = L := by
  funext m; simp only [Lg.put]; split <;> simp_all
@[simp] theorem Lg.del_put (L : Lg) (n : Nat) (c : LC) (h : L n = none) : (L.put n c).del n = L := by
  funext m; simp only [Lg.put, Lg.del]; split <;> simp_all
theorem Lg.del_of_none (L : Lg) (n : Nat) (h : L n = none) : L.del n = L := by
  funext m; simp only [Lg.del]; split <;> simp_all
theorem Lg.del_put_ne (L : Lg) {n m : Nat} (h : n ≠ m) (c : LC) : (L.put n c).del m = (L.del m).put n c := by
  funext k; simp only [Lg.put, Lg.del]; split <;> split <;> simp_all

theorem partOk.root {c : LC} {r : Nat} {p : Hp} (h : partOk (some c) r p) : ∃ x, p r = some x := by
  cases c with
  | raw x => exact ⟨x, h.1⟩
  | abs P => obtain ⟨_, cs, h⟩ := h; exact ⟨_, h⟩

theorem Parts.sat {L : Lg} {p : Nat → Hp} (hp : Parts L p) : ∃ h, Sat L h ∧ ∀ b x, h b = some x ↔ ∃ r, p r b = some x := by
  classical
  have hx : ∀ b, ∃ v : Option AB, ∀ x, v = some x ↔ ∃ r, p r b = some x := by
    intro b
    by_cases h : ∃ r x, p r b = some x
    · obtain ⟨r, x, h⟩ := h
      refine ⟨some x, fun y => Iff.intro (fun (e : some x = some y) => by cases e; exact ⟨r, h⟩) ?_⟩
      rintro ⟨s, hs⟩
      by_cases e : r = s
      · subst e; rw [← h]; exact hs
      · rcases hp.2 r s b e with h1 | h1 <;> simp_all
    · refine ⟨none, fun y => Iff.intro (fun e => by cases e) ?_⟩
      rintro ⟨s, hs⟩
      exact absurd ⟨s, y, hs⟩ h
  obtain ⟨h, hh⟩ := Classical.axiomOfChoice hx
  exact ⟨h, ⟨p, hp, hh⟩, hh⟩
theorem mod_iff {S : St} {L : Lg} : Mod S L ↔ ∃ p, Parts L p ∧ ∀ r b x, p r b = some x → S.h.get b = some x ∧ b < S.nx := by
  refine ⟨?_, ?_⟩
  · rintro ⟨h, ⟨p, hp, hh⟩, hs⟩
    exact ⟨p, hp, fun r b x e => hs b x ((hh b x).2 ⟨r, e⟩)⟩
  · rintro ⟨p, hp, hs⟩
    obtain ⟨h, h1, h2⟩ := hp.sat
    exact ⟨h, h1, fun b x e => by obtain ⟨r, e⟩ := (h2 b x).1 e; exact hs r b x e⟩

section
variable {S : St} {L : Lg}
theorem Mod.raw (h : Mod S L) {b : Nat} {x : AB} (e : L b = some (.raw x)) : S.h.get b = some x ∧ b < S.nx := by
  obtain ⟨p, hp, hs⟩ := mod_iff.1 h
  have := hp.1 b
  rw [e] at this
  exact hs b b x this.1
theorem Mod.root (h : Mod S L) {b : Nat} {c : LC} (e : L b = some c) : (∃ x, S.h.get b = some x) ∧ b < S.nx := by
  obtain ⟨p, hp, hs⟩ := mod_iff.1 h
  have := hp.1 b
  rw [e] at this
  obtain ⟨x, hx⟩ := this.root
  exact ⟨⟨x, (hs b b x hx).1⟩, (hs b b x hx).2⟩
theorem Mod.cells (h : Mod S L) {b : Nat} {P : Hp → Prop} (e : L b = some (.abs P)) : ∃ cs, S.h.get b = some (.cells cs) := by
  obtain ⟨p, hp, hs⟩ := mod_iff.1 h
  have := hp.1 b
  rw [e] at this
  obtain ⟨_, cs, hx⟩ := this
  exact ⟨cs, (hs b b _ hx).1⟩
theorem Mod.fresh (h : Mod S L) {b : Nat} (hb : S.nx ≤ b) : L b = none := by
  cases e : L b with
  | none => rfl
  | some c => exact absurd (h.root e).2 (by omega)
theorem Mod.sub (h : Mod S L) {L' : Lg} (e : ∀ b c, L' b = some c → L b = some c) : Mod S L' := by
  obtain ⟨p, hp, hs⟩ := mod_iff.1 h
  refine mod_iff.2 ⟨fun r b => if L' r = none then none else p r b, ⟨?_, ?_⟩, ?_⟩
  · intro r
    cases h1 : L' r with
    | none => intro b; simp [h1]
    | some c => have := hp.1 r; rw [e r c h1] at this; simpa [h1] using this
  · intro r s b hrs
    have := hp.2 r s b hrs
    simp only
    split <;> split <;> simp_all
  · intro r b x hx
    simp only at hx
    split at hx
    · cases hx
    · exact hs r b x hx
theorem Mod.put (h : Mod S L) {b : Nat} {x y : AB} (e : L b = some (.raw x)) : Mod { S with h := S.h.set b (some y) } (L.put b (.raw y)) := by
  obtain ⟨p, hp, hs⟩ := mod_iff.1 h
  have h0 := hp.1 b
  rw [e] at h0
  refine mod_iff.2 ⟨fun r c => if r = b then (if c = b then some y else none) else p r c, ⟨?_, ?_⟩, ?_⟩
  · intro r
    by_cases hr : r = b
    · subst hr
      simp only [Lg.put_same, partOk, if_true]
      exact ⟨trivial, fun c hc => by simp [hc]⟩
    · rw [Lg.put_ne _ _ _ hr]
      simp only [hr, if_false]
      exact hp.1 r
  · intro r s c hrs
    by_cases hr : r = b
    · subst hr
      have hs' : s ≠ r := fun h => hrs h.symm
      simp only [if_true, hs', if_false]
      by_cases hc : c = r
      · subst hc
        have := hp.2 c s c hrs
        rw [h0.1] at this
        simp at this
        exact .inr this
      · left; simp [hc]
    · by_cases hs' : s = b
      · subst hs'
        simp only [if_true, hr, if_false]
        by_cases hc : c = s
        · subst hc
          have := hp.2 r c c hrs
          rw [h0.1] at this
          simp at this
          exact .inl this
        · right; simp [hc]
      · simp only [hr, hs', if_false]; exact hp.2 r s c hrs
  · intro r c z hz
    simp only at hz
    simp only [PM.get_set]
    split at hz
    · split at hz
      · rename_i h2; subst h2; cases hz; exact ⟨by simp, (h.raw e).2⟩
      · cases hz
    · rename_i hr
      have hc : c ≠ b := by
        rintro rfl
        have := hp.2 r c c hr
        rw [h0.1, hz] at this
        simp at this
      simp only [hc, if_false]
      exact hs r c z hz
theorem Mod.gone (h : Mod S L) {b : Nat} {x : AB} (e : L b = some (.raw x)) : Mod { S with h := S.h.set b none } (L.del b) := by
  obtain ⟨p, hp, hs⟩ := mod_iff.1 h
  have h0 := hp.1 b
  rw [e] at h0
  refine mod_iff.2 ⟨fun r c => if r = b then none else p r c, ⟨?_, ?_⟩, ?_⟩
  · intro r
    by_cases hr : r = b
    · subst hr
      simp [Lg.del_apply, partOk]
    · simp only [Lg.del_apply, hr, if_false]
      exact hp.1 r
  · intro r s c hrs
    have := hp.2 r s c hrs
    by_cases hr : r = b <;> by_cases hs' : s = b <;> simp [hr, hs', this] <;> simp_all
  · intro r c z hz
    simp only at hz
    simp only [PM.get_set]
    split at hz
    · cases hz
    · rename_i hr
      have hc : c ≠ b := by
        rintro rfl
        have := hp.2 r c c hr
        rw [h0.1, hz] at this
        simp at this
      simp only [hc, if_false]
      exact hs r c z hz
theorem Mod.new (h : Mod S L) (y : AB) : Mod { h := S.h.set S.nx (some y), nx := S.nx + 1 } (L.put S.nx (.raw y)) := by
  have e := h.fresh (Nat.le_refl S.nx)
  obtain ⟨p, hp, hs⟩ := mod_iff.1 h
  have h0 := hp.1 S.nx
  rw [e] at h0
  refine mod_iff.2 ⟨fun r c => if r = S.nx then (if c = S.nx then some y else none) else p r c, ⟨?_, ?_⟩, ?_⟩
  · intro r
    by_cases hr : r = S.nx
    · subst hr
      simp only [Lg.put_same, partOk, if_true]
      exact ⟨trivial, fun c hc => by simp [hc]⟩
    · rw [Lg.put_ne _ _ _ hr]
      simp only [hr, if_false]
      exact hp.1 r
  · have key : ∀ r, p r S.nx = none := fun r => by
      cases hz : p r S.nx with
      | none => rfl
      | some z => exact absurd (hs r S.nx z hz).2 (by omega)
    intro r s c hrs
    by_cases hr : r = S.nx
    · have hs' : s ≠ S.nx := fun h => hrs (hr.trans h.symm)
      simp only [hr, if_true, hs', if_false]
      by_cases hc : c = S.nx
      · subst hc; exact .inr (key s)
      · left; simp [hc]
    · by_cases hs' : s = S.nx
      · simp only [hs', if_true, hr, if_false]
        by_cases hc : c = S.nx
        · subst hc; exact .inl (key r)
        · right; simp [hc]
      · simp only [hr, hs', if_false]; exact hp.2 r s c hrs
  · intro r c z hz
    simp only at hz
    simp only [PM.get_set]
    split at hz
    · split at hz
      · rename_i h2; subst h2; cases hz; exact ⟨by simp, by omega⟩
      · cases hz
    · have := hs r c z hz
      have hc : c ≠ S.nx := by omega
      simp only [hc, if_false]
      exact ⟨this.1, by omega⟩
end

@[simp] theorem Sees.refl (L : Lg) : Sees L L := fun _ h => h
theorem Sees.trans {L M N : Lg} (h : Sees L M) (k : Sees M N) : Sees L N := fun S m => k S (h S m)
theorem Sees.drop {L L' : Lg} (e : ∀ b c, L' b = some c → L b = some c) : Sees L L' := fun S h => h.sub e

/-- What is hidden: a part of what is known becomes one thing. -/
theorem Sees.fold {L M : Lg} {r : Nat} {P : Hp → Prop} (hM : ∀ b c, M b = some c → L b = some c) (hr : (∃ cs, M r = some (.raw (.cells cs))) ∨ ∃ Q, M r = some (.abs Q)) (hP : ∀ h, Sat M h → P h) :
    Sees L ((L.minus M).put r (.abs P)) := by
  classical
  intro S h
  obtain ⟨p, hp, hs⟩ := mod_iff.1 h
  have hpM : Parts M (fun b d => if M b = none then none else p b d) := by
    refine ⟨?_, ?_⟩
    · intro b
      cases h1 : M b with
      | none => intro c; simp [h1]
      | some c => have := hp.1 b; rw [hM b c h1] at this; simpa [h1] using this
    · intro b c d hbc
      have := hp.2 b c d hbc
      simp only
      split <;> split <;> simp_all
  obtain ⟨hm, hsat, hmi⟩ := hpM.sat
  have hroot : ∃ cs, hm r = some (.cells cs) := by
    have h0 := hp.1 r
    rcases hr with ⟨cs, hr⟩ | ⟨Q, hr⟩
    · rw [hM r _ hr] at h0
      exact ⟨cs, (hmi r _).2 ⟨r, by simpa [hr] using h0.1⟩⟩
    · rw [hM r _ hr] at h0
      obtain ⟨_, cs, h0⟩ := h0
      exact ⟨cs, (hmi r _).2 ⟨r, by simpa [hr] using h0⟩⟩
  have hrM : ∃ c, M r = some c := by rcases hr with ⟨cs, hr⟩ | ⟨Q, hr⟩ <;> exact ⟨_, hr⟩
  refine mod_iff.2 ⟨fun b d => if b = r then hm d else if M b = none then p b d else none, ⟨?_, ?_⟩, ?_⟩
  · intro b
    by_cases hb : b = r
    · subst hb
      simp only [Lg.put_same, if_true]
      exact ⟨hP _ hsat, hroot⟩
    · rw [Lg.put_ne _ _ _ hb]
      simp only [hb, if_false]
      cases h1 : M b with
      | some c =>
        have h2 : L.minus M b = none := by simp [Lg.minus, h1]
        rw [h2]; intro d; simp
      | none =>
        have h2 : L.minus M b = L b := by simp [Lg.minus, h1]
        rw [h2]; simpa [h1] using hp.1 b
  · have key : ∀ b d, M b = none → hm d = none ∨ p b d = none := by
      intro b d hb
      cases h1 : hm d with
      | none => exact .inl rfl
      | some x =>
        obtain ⟨s, hs'⟩ := (hmi d x).1 h1
        right
        have hsb : s ≠ b := by rintro rfl; simp [hb] at hs'
        have := hp.2 s b d hsb
        split at hs'
        · cases hs'
        · rw [hs'] at this; simpa using this
    intro b c d hbc
    by_cases hb : b = r
    · have hc : c ≠ r := fun h => hbc (hb.trans h.symm)
      simp only [hb, if_true, hc, if_false]
      split
      · exact key c d (by assumption)
      · exact .inr rfl
    · by_cases hc : c = r
      · simp only [hb, if_true, hc, if_false]
        split
        · exact (key b d (by assumption)).symm
        · exact .inl rfl
      · simp only [hb, hc, if_false]
        have := hp.2 b c d hbc
        split <;> split <;> simp_all
  · intro b d x hx
    simp only at hx
    split at hx
    · obtain ⟨s, hs'⟩ := (hmi d x).1 hx
      split at hs'
      · cases hs'
      · exact hs s d x hs'
    · split at hx
      · exact hs b d x hx
      · cases hx

/-- What was hidden is there again. -/
theorem Mod.unfold {S : St} {L : Lg} (h : Mod S L) {r : Nat} {P : Hp → Prop} (e : L r = some (.abs P)) :
    ∃ hm, P hm ∧ ∀ M, Sat M hm → Mod S (M.over (L.del r)) ∧ ∀ b c, M b = some c → b ≠ r → L b = none := by
  obtain ⟨p, hp, hs⟩ := mod_iff.1 h
  have h0 := hp.1 r
  rw [e] at h0
  refine ⟨p r, h0.1, fun M hM => ?_⟩
  obtain ⟨q, hq, hqi⟩ := hM
  have hfr : ∀ b c, M b = some c → b ≠ r → L b = none := by
    intro b c hb hbr
    have h1 := hq.1 b
    rw [hb] at h1
    obtain ⟨x, hx⟩ := h1.root
    have h2 := (hqi b x).2 ⟨b, hx⟩
    cases hL : L b with
    | none => rfl
    | some d =>
      have h3 := hp.1 b
      rw [hL] at h3
      obtain ⟨y, hy⟩ := h3.root
      have := hp.2 r b b (fun h => hbr h.symm)
      rw [h2, hy] at this
      simp at this
  refine ⟨mod_iff.2 ⟨fun b d => if M b = none then (if b = r then none else p b d) else q b d, ⟨?_, ?_⟩, ?_⟩, hfr⟩
  · intro b
    cases h1 : M b with
    | some c => simp only [Lg.over, h1]; have := hq.1 b; rw [h1] at this; simpa [h1] using this
    | none =>
      simp only [Lg.over, h1, Lg.del_apply]
      by_cases hb : b = r
      · subst hb; simp [partOk, h1]
      · simpa [hb, h1] using hp.1 b
  · have key : ∀ b c d, M b ≠ none → M c = none → c ≠ r → q b d = none ∨ p c d = none := by
      intro b c d hb hc hcr
      cases h1 : q b d with
      | none => exact .inl rfl
      | some x =>
        have h2 := (hqi d x).2 ⟨b, h1⟩
        have := hp.2 r c d (fun h => hcr h.symm)
        rw [h2] at this
        simpa using this
    intro b c d hbc
    simp only
    by_cases h1 : M b = none
    · by_cases h2 : M c = none
      · simp only [h1, h2, if_true]
        by_cases hb : b = r
        · simp [hb]
        · by_cases hc : c = r
          · simp [hc]
          · simpa [hb, hc] using hp.2 b c d hbc
      · simp only [h1, h2, if_true, if_false]
        by_cases hb : b = r
        · simp [hb]
        · simp only [hb, if_false]; exact (key c b d h2 h1 hb).symm
    · by_cases h2 : M c = none
      · simp only [h1, h2, if_true, if_false]
        by_cases hc : c = r
        · simp [hc]
        · simp only [hc, if_false]; exact key b c d h1 h2 hc
      · simp only [h1, h2, if_false]; exact hq.2 b c d hbc
  · intro b d x hx
    simp only at hx
    split at hx
    · split at hx
      · cases hx
      · exact hs b d x hx
    · exact hs r d x ((hqi d x).2 ⟨b, hx⟩)

theorem mod_nil (n : Nat) : Mod ⟨.nil, n⟩ Lg.nil := by
  refine mod_iff.2 ⟨fun _ _ => none, ⟨fun r b => rfl, fun _ _ _ _ => .inl rfl⟩, fun r b x h => by cases h⟩
end Go.AM

/- Logical memory: the weakest preconditions are sound. -/
set_option linter.unusedVariables false
set_option linter.unusedSimpArgs false
namespace Go.AM

section
variable {S : St} {L : Lg}
theorem rdL_ok (h : Mod S L) {a : Nat × Nat} {sz : Option Nat} {v : AV} (e : rdL L a sz = some v) : rdAt S.h a sz = some v := by
  unfold rdL at e
  split at e
  · rename_i blk he
    unfold rdAt
    rw [(h.raw he).1]
    exact e
  · cases e
theorem rdCellsL_ok (h : Mod S L) {a : Option (Nat × Nat)} {n : Nat} {v : List AV} (e : rdCellsL L a n = some v) : rdCells S.h a n = some v := by
  unfold rdCellsL at e
  split at e
  · unfold rdCells
    simp only [beq_nat]
    split at e
    · rename_i hn; cases e; simp [hn]
    · cases e
  · rename_i r o
    split at e
    · rename_i blk he
      unfold rdCells
      simp only [(h.raw he).1]
      exact e
    · cases e
theorem liveL_ok (h : Mod S L) {r : Nat} (e : liveL L r = true) : live S.h r = true := by
  unfold liveL at e
  split at e
  · rename_i c he; simp [live, (h.raw he).1]
  · rename_i P he; obtain ⟨cs, hc⟩ := h.cells he; simp [live, hc]
  · cases e
theorem wrL_ok (h : Mod S L) {a : Nat × Nat} {vs : List AV} {L' : Lg} (e : wrL L a vs = some L') : ∃ h', wrCells S.h a vs = some h' ∧ Mod { S with h := h' } L' := by
  unfold wrL at e
  split at e
  · rename_i c he
    split at e
    · rename_i hc
      cases e
      refine ⟨S.h.set a.1 (some (.cells (splice c a.2 vs))), ?_, h.put he⟩
      unfold wrCells
      simp only [(h.raw he).1, ble_nat, hc.1, hc.2, decide_true, Bool.and_self, cond_true]
    · cases e
  · cases e
theorem eqPL_ok (h : Mod S L) {x y : Option (Nat × Nat)} {r : Bool} (e : eqPL L x y = some r) : eqP S.h x y = some r := by
  unfold eqPL at e
  split at e
  · cases e; rfl
  · cases e; rfl
  · cases e; rfl
  · rename_i a i b j
    unfold eqP
    simp only [beq_nat]
    split at e
    · rename_i hab; simp only [hab, decide_true, cond_true]; exact e
    · rename_i hab
      split at e
      · rename_i hl
        simp only [hab, decide_false, cond_false, liveL_ok h hl.1, liveL_ok h hl.2, Bool.and_self, cond_true]
        exact e
      · cases e
theorem eqV_nil {k : EqK} {x y : AV} {h : PM AB} {r : Bool} (hk : (∀ a b, ¬(x = .p a ∧ y = .p b)) ∨ k ≠ .ptr) (e : eqV .nil k x y = some r) : eqV h k x y = some r := by
  unfold eqV at e ⊢
  split at e <;> try exact e
  all_goals (rename_i a b; exact hk.elim (fun hk => absurd ⟨rfl, rfl⟩ (hk a b)) (fun hk => absurd rfl hk))
theorem rEq_nil {ng : Bool} {k : EqK} {vs : List AV} {h : PM AB} {v : AV} (hk : (∀ a b, vs ≠ [.p a, .p b]) ∨ k ≠ .ptr) (e : rEq ng k .nil vs = some v) : rEq ng k h vs = some v := by
  unfold rEq at e ⊢
  split at e
  · rename_i x y
    rw [Option.map_eq_some_iff] at e ⊢
    obtain ⟨r, hr, e⟩ := e
    refine ⟨r, eqV_nil ?_ hr, e⟩
    rcases hk with hk | hk
    · left; rintro a b ⟨rfl, rfl⟩; exact hk a b rfl
    · exact .inr hk
  · cases e
theorem rEqL_ok (h : Mod S L) {ng : Bool} {k : EqK} {vs : List AV} {v : AV} (e : rEqL ng k L vs = some v) : rEq ng k S.h vs = some v := by
  unfold rEqL at e
  split at e
  · rename_i x y
    split at e
    · rw [Option.map_eq_some_iff] at e
      obtain ⟨r, hr, e⟩ := e
      simp only [rEq, eqV, eqPL_ok h hr, Option.map_some, e]
    · rename_i hk
      exact rEq_nil (.inr hk) e
  · rename_i hk
    exact rEq_nil (.inl fun a b => fun e => hk a b e) e
theorem rLkupL_ok (h : Mod S L) {z : AV} {ok : Bool} {vs : List AV} {v : AV} (e : rLkupL z ok L vs = some v) : rLkup z ok S.h vs = some v := by
  unfold rLkupL at e
  split at e
  · unfold rLkup; cases ok <;> simp_all
  · split at e
    · rename_i es he
      unfold rLkup
      simp only [(h.raw he).1]
      split at e
      · rename_i e1; simp only [e1]; cases ok <;> simp_all
      · rename_i e1; simp only [e1]; cases ok <;> simp_all
      · cases e
    · cases e
  · cases e
theorem rMlenL_ok (h : Mod S L) {vs : List AV} {v : AV} (e : rMlenL L vs = some v) : rMlen S.h vs = some v := by
  unfold rMlenL at e
  split at e
  · unfold rMlen; exact e
  · split at e
    · rename_i es he
      unfold rMlen
      simp only [(h.raw he).1]
      exact e
    · cases e
  · cases e
theorem rCvtBL_ok (h : Mod S L) {vs : List AV} {v : AV} (e : rCvtBL L vs = some v) : rCvtB S.h vs = some v := by
  unfold rCvtBL at e
  split at e
  · split at e
    · rename_i h0
      unfold rCvtB
      simp only [h0, beq_nat, decide_true, cond_true]
      exact e
    · rename_i h0
      split at e
      · rename_i l hl
        unfold rCvtB
        simp only [rdCellsL_ok h hl, beq_nat, h0, decide_false, cond_false]
        exact e
      · cases e
  · cases e
theorem semRL_ok (h : Mod S L) {o : AOp} {vs : List AV} {v : AV} (e : semRL o L vs = some v) : semR o S.h vs = some v := by
  cases o
  case ld sz =>
    simp only [semRL] at e
    unfold rLdL at e
    split at e
    · simp only [semR, rLd]; exact rdL_ok h e
    · cases e
  case lkup z ok => exact rLkupL_ok h e
  case mlen => exact rMlenL_ok h e
  case cvtB => exact rCvtBL_ok h e
  case eq ng k => exact rEqL_ok h e
  all_goals exact e

theorem retL_ok (h : Mod S L) {o : AOp} (ho : o.cl = .R) {vs : List AV} {k : AV → Lg → Prop} (c : Cll) (e : retL (semRL o L vs) L k) : ∃ v S', semOp o c S vs = some (v, S') ∧ ∃ L', Mod S' L' ∧ k v L' := by
  unfold retL at e
  split at e
  · rename_i v hv
    refine ⟨v, S, ?_, L, h, e⟩
    simp only [semOp, ho, opR, semRL_ok h hv]
  · exact e.elim
theorem newL_ok (h : Mod S L) {o : AOp} (ho : o.cl = .A) {vs : List AV} {k : AV → Lg → Prop} (c : Cll) (e : newL (semA o) vs L k) : ∃ v S', semOp o c S vs = some (v, S') ∧ ∃ L', Mod S' L' ∧ k v L' := by
  have e1 := e S.nx (h.fresh (Nat.le_refl _))
  split at e1
  · rename_i x v hv
    exact ⟨v, _, by simp only [semOp, ho, opA, hv], _, h.new x, e1⟩
  · exact e1.elim

theorem cellsOf_one {v : AV} {l : List AV} (h : v.cellsOf = some l) : l.all AV.one = true := by
  cases v <;> simp only [AV.cellsOf] at h
  case agg c =>
    cases hc : c.all AV.one
    · rw [hc] at h; cases h
    · rw [hc] at h; cases h; exact hc
  case tup => cases h
  case bad => cases h
  all_goals (cases h; rfl)

theorem appL_ok (h : Mod S L) {size bytes : Nat} {a : Option (Nat × Nat)} {len cap ex n : Nat} {new : List AV} {k : AV → Lg → Prop} (e : appL size bytes L a len cap ex n new k) :
    ∃ v S', appV size bytes S a len cap ex n new = some (v, S') ∧ ∃ L', Mod S' L' ∧ k v L' := by
  unfold appL at e
  unfold appV
  simp only [ble_nat, beq_nat]
  split at e
  · rename_i hle
    simp only [hle, decide_true, cond_true]
    split at e
    · exact ⟨_, _, rfl, L, h, e⟩
    · rename_i r o
      split at e
      · rename_i hn
        simp only [hn, decide_true, cond_true]
        exact ⟨_, _, rfl, L, h, e⟩
      · rename_i hn
        simp only [hn, decide_false, cond_false]
        split at e
        · rename_i L' hw
          obtain ⟨h', hw', hm⟩ := wrL_ok h hw
          simp only [hw']
          exact ⟨_, _, rfl, L', hm, e⟩
        · exact e.elim
  · rename_i hle
    obtain ⟨hb, e⟩ := e
    simp only [hle, decide_false, cond_false, hb, decide_true, cond_true]
    split at e
    · rename_i old L' ho hg
      simp only [rdCellsL_ok h ho]
      have hg' : ∃ h', gone S.h a ex size = some h' ∧ Mod { S with h := h' } L' := by
        unfold goneL at hg
        unfold gone
        simp only [beq_nat]
        split at hg
        · rename_i h0; cases hg; simp only [h0, decide_true, cond_true]; exact ⟨_, rfl, h⟩
        · rename_i h0
          simp only [h0, decide_false, cond_false]
          split at hg
          · rename_i h1
            simp only [h1, decide_true, cond_true]
            split at hg
            · rename_i r o
              split at hg
              · rename_i c hc
                cases hg
                have hl : live S.h r = true := by simp [live, (h.raw hc).1]
                simp only [hl, cond_true]
                exact ⟨_, rfl, h.gone hc⟩
              · cases hg
            · cases hg
          · cases hg
      obtain ⟨h', hg1, hm⟩ := hg'
      simp only [hg1]
      exact ⟨_, _, rfl, _, hm.new (.cells (old ++ new)), e S.nx (h.fresh (Nat.le_refl _))⟩
    · exact e.elim

theorem wpOp_ok {F : Nat → Option AFn} (h : Mod S L) {o : AOp} {vs : List AV} {k : AV → Lg → Prop} (e : wpOp F o vs L k) :
    ∃ n v S', semOp o (callOf F (exec F n)) S vs = some (v, S') ∧ ∃ L', Mod S' L' ∧ k v L' := by
  cases o
  case alloc z => exact ⟨0, newL_ok h rfl _ e⟩
  case box => exact ⟨0, newL_ok h rfl _ e⟩
  case bslice => exact ⟨0, newL_ok h rfl _ e⟩
  case mksl => exact ⟨0, newL_ok h rfl _ e⟩
  case mkmap => exact ⟨0, newL_ok h rfl _ e⟩
  case st sz =>
    simp only [wpOp] at e
    unfold stL at e
    split at e
    · rename_i a v
      split at e
      · rename_i l hl
        split at e
        · rename_i hsz
          split at e
          · rename_i L' hw
            obtain ⟨h', hw', hm⟩ := wrL_ok h hw
            refine ⟨0, .bad, { S with h := h' }, ?_, L', hm, e⟩
            simp only [semOp, AOp.cl, semE, eSt, hl, beq_nat, hsz, decide_true, cond_true, hw']
          · exact e.elim
        · exact e.elim
      · exact e.elim
    · exact e.elim
  case mset =>
    simp only [wpOp] at e
    unfold msetW at e
    split at e
    · rename_i r j n v
      split at e
      · rename_i es he
        split at e
        · rename_i es' hs
          refine ⟨0, .bad, { S with h := S.h.set r (some (.map es')) }, ?_, _, h.put he, e⟩
          simp only [semOp, AOp.cl, semE, eMset, (h.raw he).1, hs]
        · exact e.elim
      · exact e.elim
    · exact e.elim
  case mdel =>
    simp only [wpOp] at e
    unfold mdelW at e
    split at e
    · exact ⟨0, .bad, S, rfl, L, h, e⟩
    · rename_i r j n
      split at e
      · rename_i es he
        split at e
        · rename_i es' hs
          refine ⟨0, .bad, { S with h := S.h.set r (some (.map es')) }, ?_, _, h.put he, e⟩
          simp only [semOp, AOp.cl, semE, eMdel, (h.raw he).1, hs]
        · exact e.elim
      · exact e.elim
    · exact e.elim
  case app size bytes =>
    simp only [wpOp] at e
    unfold appW at e
    split at e
    · rename_i a len cap ex b n _ _
      split at e
      · rename_i new hn
        obtain ⟨v, S', h1, h2⟩ := appL_ok h e.2
        refine ⟨0, v, S', ?_, h2⟩
        simp only [semOp, AOp.cl, semE, eApp, rdCellsL_ok h hn, e.1, cond_true, h1]
      · exact e.elim
    · exact e.elim
  case clr z =>
    simp only [wpOp] at e
    unfold clrW at e
    split at e
    · rename_i a n _ _
      split at e
      · rename_i h0
        exact ⟨0, .bad, S, by simp only [semOp, AOp.cl, semE, eClr, beq_nat, h0, decide_true, cond_true], L, h, e⟩
      · rename_i h0
        split at e
        · rename_i a
          split at e
          · rename_i L' hw
            obtain ⟨h', hw', hm⟩ := wrL_ok h hw
            exact ⟨0, .bad, { S with h := h' }, by simp only [semOp, AOp.cl, semE, eClr, beq_nat, h0, decide_false, cond_false, hw'], L', hm, e⟩
          · exact e.elim
        · exact e.elim
    · exact e.elim
  case cpy size =>
    simp only [wpOp] at e
    unfold cpyW at e
    split at e
    · rename_i a dl _ _ b sl _ _
      split at e
      · rename_i vs hv
        split at e
        · rename_i h0
          have h9 := rdCellsL_ok h hv
          rw [h0] at h9
          exact ⟨0, .i .i64 0, S, by simp only [semOp, AOp.cl, semE, eCpy, beq_nat, h0, h9, decide_true, cond_true], L, h, e⟩
        · rename_i h0
          split at e
          · rename_i a
            split at e
            · rename_i L' hw
              obtain ⟨h', hw', hm⟩ := wrL_ok h hw
              exact ⟨0, .i .i64 (Nat.min sl dl : Nat), { S with h := h' }, by simp only [semOp, AOp.cl, semE, eCpy, rdCellsL_ok h hv, beq_nat, h0, decide_false, cond_false, hw']; rfl, L', hm, e⟩
            · exact e.elim
          · exact e.elim
      · exact e.elim
    · exact e.elim
  case call f =>
    obtain ⟨n, v, S', h1, h2⟩ := e S h
    exact ⟨n, v, S', h1, h2⟩
  case callv =>
    simp only [wpOp] at e
    unfold callvW at e
    split at e
    · obtain ⟨n, v, S', h1, h2⟩ := e S h
      exact ⟨n, v, S', h1, h2⟩
    · exact e.elim
  all_goals exact ⟨0, retL_ok h rfl _ e⟩
end

section
variable {F : Nat → Option AFn}
theorem cll_le {n m : Nat} (h : n ≤ m) : Sub (callOf F (exec F n)) (callOf F (exec F m)) := callOf_sub (exec_le h)
theorem aget_aputF (n : Nat) (v : AV) (l : List (Nat × AV)) : aget (aput n v l) = Env.put (aget l) n v := by
  funext m
  rw [aget_aput]
  unfold Env.put
  rw [beq_nat]
  by_cases h : m = n
  · subst h; simp
  · simp [h, Ne.symm h]
theorem aget_consF (n : Nat) (v : AV) (l : List (Nat × AV)) : aget ((n, v) :: l) = Env.put (aget l) n v := rfl
theorem evO_ok (T : Tm) (x : Opd) : evO (aget T.l) (aget T.r) x = x.ev T := by cases x <;> rfl
theorem evsO_ok (T : Tm) : ∀ (as : List Opd), evsO (aget T.l) (aget T.r) as = evs T as
  | [] => rfl
  | x :: r => by
    show evO _ _ x :: evsO _ _ r = x.ev T :: evs T r
    rw [evO_ok, evsO_ok T r]
theorem putL_ok (T : Tm) (d : Dst) (v : AV) : putL (aget T.l) d v = aget (T.put v d).l := by cases d <;> simp [putL, Tm.put, aget_aputF]
theorem putT_ok (T : Tm) (d : Dst) (v : AV) : putT (aget T.r) d v = aget (T.put v d).r := by cases d <;> simp [putT, Tm.put, aget_consF]
theorem initE_ok : ∀ (vs : List AV) (i : Nat), initE vs i = aget (initL vs i)
  | [], _ => rfl
  | v :: r, i => by
    show (initE r (Nat.succ i)).put i v = _
    rw [initE_ok r]
    rfl
theorem wpOp1_ok {S : St} {L : Lg} (h : Mod S L) {o : Op1} {T : Tm} {k : AV → Lg → Prop} (e : wpOp1 F o (aget T.l) (aget T.r) L k) :
    ∃ n v S', step1 (callOf F (exec F n)) o T S = some (T.put v o.dst, S') ∧ ∃ L', Mod S' L' ∧ k v L' := by
  unfold wpOp1 at e
  split at e
  · rename_i d x
    rw [evO_ok] at e
    exact ⟨0, x.ev T, S, by simp only [step1, wants, semOp, AOp.cl, opR, semR, rMv, evs_cons, evs_nil], L, h, e⟩
  · rename_i d op args _
    rw [evsO_ok] at e
    obtain ⟨n, v, S', h1, h2⟩ := wpOp_ok h e
    exact ⟨n, v, S', by simp only [step1, wants, h1], h2⟩
  · rename_i d c w op args
    rw [evO_ok, evsO_ok] at e
    unfold gdOp at e
    split at e
    · rename_i x hx
      by_cases hxw : x = w
      · obtain ⟨n, v, S', h1, h2⟩ := wpOp_ok h (e.1 hxw)
        exact ⟨n, v, S', by simp only [step1, wants, hx, hxw, beq_self_eq_true, h1], h2⟩
      · have hb : (x == w) = false := by simpa using hxw
        exact ⟨0, .tup [], S, by simp only [step1, wants, hx, hb], L, h, e.2 (by cases x <;> cases w <;> simp_all)⟩
    · exact e.elim
    · rename_i h1 h2
      refine ⟨0, .tup [], S, ?_, L, h, e⟩
      have : wants T (some (c, w)) = some false := by
        unfold wants
        simp only
      simp only [step1, this]
theorem step1_sub' {n m : Nat} (h : n ≤ m) {o : Op1} {T : Tm} {S : St} {r : Tm × St} (hs : step1 (callOf F (exec F n)) o T S = some r) : step1 (callOf F (exec F m)) o T S = some r := step1_sub (cll_le h) hs
theorem wpOps_ok : ∀ {ops : List Op1} {T : Tm} {S : St} {L : Lg} {k : Env → Env → Lg → Prop}, Mod S L → wpOps F ops (aget T.l) (aget T.r) L k →
    ∃ n T' S', runOps (callOf F (exec F n)) ops T S = some (T', S') ∧ ∃ L', Mod S' L' ∧ k (aget T'.l) (aget T'.r) L'
  | [], T, S, L, k, h, e => ⟨0, T, S, rfl, L, h, e⟩
  | o :: r, T, S, L, k, h, e => by
    have e' : wpOp1 F o (aget T.l) (aget T.r) L (fun v L' => wpOps F r (putL (aget T.l) o.dst v) (putT (aget T.r) o.dst v) L' k) := e
    obtain ⟨n, v, S', h1, L', h2, h3⟩ := wpOp1_ok h e'
    rw [putL_ok, putT_ok] at h3
    obtain ⟨m, T'', S'', h4, h5⟩ := wpOps_ok h2 h3
    refine ⟨max n m, T'', S'', ?_, h5⟩
    rw [runOps_cons, step1_sub' (Nat.le_max_left n m) h1]
    exact runOps_sub (cll_le (Nat.le_max_right n m)) h4

/-- the way so far, and what is known of it -/
def HistR (tr : List (Env × Env × Lg)) (hs : List (Tm × St)) : Prop := tr.length = hs.length ∧ ∀ (i : Nat) l t L, tr[i]? = some (l, t, L) → ∃ T S, hs[i]? = some (T, S) ∧ l = aget T.l ∧ t = aget T.r ∧ Mod S L
theorem HistR.snoc {tr : List (Env × Env × Lg)} {hs : List (Tm × St)} (h : HistR tr hs) {T : Tm} {L : Lg} {S : St} (m : Mod S L) : HistR (tr ++ [(aget T.l, aget T.r, L)]) (hs ++ [(T, S)]) := by
  refine ⟨by simp [h.1], fun i l t L' e => ?_⟩
  rw [List.getElem?_append] at e ⊢
  rw [← h.1]
  split at e
  · rename_i hi
    simp only [hi, if_true]
    exact h.2 i l t L' e
  · rename_i hi
    simp only [hi, if_false]
    cases hj : i - tr.length with
    | zero => rw [hj] at e; simp at e; obtain ⟨rfl, rfl, rfl⟩ := e; exact ⟨T, S, by simp, rfl, rfl, m⟩
    | succ j => rw [hj] at e; simp at e
theorem againV_ok {o : AOp} {vs : List AV} {L L' : Lg} {S S' : St} (h : Mod S L) (h' : Mod S' L') (e : againV o vs L L') : ∃ v v', semR o S.h vs = some v ∧ semR o S'.h vs = some v' ∧ sameV v v' = true := by
  unfold againV at e
  split at e
  · rename_i v v' h1 h2; exact ⟨v, v', semRL_ok h h1, semRL_ok h' h2, e⟩
  · exact e.elim
theorem againL_ok {ops : List Op1} {tr : List (Env × Env × Lg)} {hs : List (Tm × St)} (h : HistR tr hs) {c : Nat × Nat} (e : againL ops tr c) : again ops hs c = true := by
  unfold againL at e
  split at e
  · rename_i o l t L l' t' L' h1 h2 h3
    obtain ⟨T, S, h4, rfl, rfl, m⟩ := h.2 _ _ _ _ h2
    obtain ⟨T', S', h5, _, _, m'⟩ := h.2 _ _ _ _ h3
    rw [evsO_ok] at e
    unfold again
    simp only [h1, h4, h5]
    split at e
    · rename_i hg
      obtain ⟨v, v', e1, e2, e3⟩ := againV_ok m m' e
      simp only [hg, wants, e1, e2, e3]
    · rename_i g w hg
      rw [evO_ok] at e
      simp only [hg, wants]
      unfold againG at e
      split at e
      · rename_i x hx
        simp only [hx]
        by_cases hxw : x = w
        · obtain ⟨v, v', e1, e2, e3⟩ := againV_ok m m' (e hxw)
          simp only [hxw, beq_self_eq_true, e1, e2, e3]
        · have hb : (x == w) = false := by simpa using hxw
          simp only [hb]
      · exact e.elim
      · rename_i a1 a2
        generalize hz : g.ev T = z at *
        cases z <;> first | rfl | (exfalso; first | exact a1 _ rfl | exact a2 rfl)
  · exact e.elim
theorem againA_ok {ops : List Op1} {tr : List (Env × Env × Lg)} {hs : List (Tm × St)} (h : HistR tr hs) : ∀ {chk : List (Nat × Nat)}, againA ops tr chk → ∀ c, c ∈ chk → again ops hs c = true
  | [], _, c, hc => by cases hc
  | d :: r, e, c, hc => by
    rcases List.mem_cons.1 hc with rfl | hc
    · exact againL_ok h e.1
    · exact againA_ok h e.2 c hc
theorem wpOpsD_ok {ops : List Op1} {chk : List (Nat × Nat)} : ∀ {rest : List Op1} {tr : List (Env × Env × Lg)} {hs : List (Tm × St)} {T : Tm} {S : St} {L : Lg} {k : Kn}, HistR tr hs → Mod S L → wpOpsD F ops chk rest tr (aget T.l) (aget T.r) L k →
    ∃ n t, trace (callOf F (exec F n)) rest T S = some t ∧ (∀ c, c ∈ chk → again ops (hs ++ t) c = true) ∧ ∃ T' S', lastOf t = some (T', S') ∧ ∃ L', Mod S' L' ∧ k (aget T'.l) (aget T'.r) L'
  | [], tr, hs, T, S, L, k, hh, h, e => ⟨0, [(T, S)], rfl, againA_ok (hh.snoc h) e.1, T, S, rfl, L, h, e.2⟩
  | o :: r, tr, hs, T, S, L, k, hh, h, e => by
    have e' : wpOp1 F o (aget T.l) (aget T.r) L (fun v L' => wpOpsD F ops chk r (tr ++ [(aget T.l, aget T.r, L)]) (putL (aget T.l) o.dst v) (putT (aget T.r) o.dst v) L' k) := e
    obtain ⟨n, v, S', h1, L', h2, h3⟩ := wpOp1_ok h e'
    rw [putL_ok, putT_ok] at h3
    obtain ⟨m, t, h4, h5, h6⟩ := wpOpsD_ok (hh.snoc h) h2 h3
    obtain ⟨T'', S'', h7, h8⟩ := h6
    refine ⟨max n m, (T, S) :: t, ?_, ?_, T'', S'', ?_, h8⟩
    · unfold trace
      rw [step1_sub' (Nat.le_max_left n m) h1]
      simp only [trace_sub (cll_le (Nat.le_max_right n m)) h4, Option.map_some]
    · intro c hc; have := h5 c hc; rwa [List.append_assoc] at this
    · cases t with
      | nil => cases h7
      | cons a q => exact h7

theorem wpq_seq (F : Nat → Option AFn) (a b : ACode) (l t : Env) (L : Lg) (k : Kn) (ke : Nat → Kn) (kr : Kn) : wp F (.seq a b) l t L k ke kr = wp F a l t L (fun l t L => wp F b l t L k ke kr) ke kr := rfl
theorem wpq_cond (F : Nat → Option AFn) (c : Opd) (x y : ACode) (l t : Env) (L : Lg) (k : Kn) (ke : Nat → Kn) (kr : Kn) : wp F (.cond c x y) l t L k ke kr = condW (evO l t c) (wp F x l t L k ke kr) (wp F y l t L k ke kr) := rfl
theorem wpq_block (F : Nat → Option AFn) (id : Nat) (c : ACode) (l t : Env) (L : Lg) (k : Kn) (ke : Nat → Kn) (kr : Kn) : wp F (.block id c) l t L k ke kr = wp F c l t L k (fun j l t L => bif Nat.beq j id then k l t L else ke j l t L) kr := rfl
theorem wpq_loop (F : Nat → Option AFn) (c : ACode) (l t : Env) (L : Lg) (k : Kn) (ke : Nat → Kn) (kr : Kn) : wp F (.loop c) l t L k ke kr = loopW (fun l t L k => wp F c l t L (fun l _ L => k l L) ke kr) l L := rfl
/-- how code ends, and what is so behind it -/
def Ends (F : Nat → Option AFn) (c : ACode) (T : Tm) (S : St) (k : Kn) (ke : Nat → Kn) (kr : Kn) : Prop :=
  ∃ n x T' S', exec F n c T S = some (x, T', S') ∧ ∃ L', Mod S' L' ∧ match x with
    | .norm => k (aget T'.l) (aget T'.r) L'
    | .ex j => ke j (aget T'.l) (aget T'.r) L'
    | .ret => kr (aget T'.l) (aget T'.r) L'
theorem wp_ok : ∀ (c : ACode) {T : Tm} {S : St} {L : Lg} {k : Kn} {ke : Nat → Kn} {kr : Kn}, Mod S L → wp F c (aget T.l) (aget T.r) L k ke kr → Ends F c T S k ke kr
  | .skip, T, S, L, k, ke, kr, h, e => ⟨1, .norm, T, S, rfl, L, h, e⟩
  | .exit id, T, S, L, k, ke, kr, h, e => ⟨1, .ex id, T, S, rfl, L, h, e⟩
  | .ret, T, S, L, k, ke, kr, h, e => ⟨1, .ret, T, S, rfl, L, h, e⟩
  | .ext j, T, S, L, k, ke, kr, h, e => False.elim e
  | .reg ops, T, S, L, k, ke, kr, h, e => by
    obtain ⟨n, T', S', h1, L', h2, h3⟩ := wpOps_ok (T := { T with r := [] }) h e
    exact ⟨n + 1, .norm, T', S', by simp only [exec_succ, exec1, xReg, h1], L', h2, h3⟩
  | .regD ops chk, T, S, L, k, ke, kr, h, e => by
    obtain ⟨n, t, h1, h2, T', S', h3, L', h4, h5⟩ := wpOpsD_ok (T := { T with r := [] }) (hs := []) (tr := []) ⟨rfl, fun i l t L h => by simp at h⟩ h e
    refine ⟨n + 1, .norm, T', S', ?_, L', h4, h5⟩
    have : chk.all (again ops t) = true := List.all_eq_true.2 h2
    simp only [exec_succ, exec1, xRegD, h1, this, cond_true, h3, Option.map_some]
  | .seq a b, T, S, L, k, ke, kr, h, e => by
    have e' : wp F a (aget T.l) (aget T.r) L (fun l t L => wp F b l t L k ke kr) ke kr := e
    obtain ⟨n, x, T', S', h1, L', h2, h3⟩ := wp_ok a h e'
    cases x with
    | norm =>
      obtain ⟨m, y, T'', S'', h4, h5⟩ := wp_ok b h2 h3
      refine ⟨max n m + 1, y, T'', S'', ?_, h5⟩
      simp only [exec_succ, exec1, xSeq, exec_le (Nat.le_max_left n m) _ _ _ _ h1, exec_le (Nat.le_max_right n m) _ _ _ _ h4]
    | ex j => exact ⟨n + 1, .ex j, T', S', by simp only [exec_succ, exec1, xSeq, h1], L', h2, h3⟩
    | ret => exact ⟨n + 1, .ret, T', S', by simp only [exec_succ, exec1, xSeq, h1], L', h2, h3⟩
  | .cond c x y, T, S, L, k, ke, kr, h, e => by
    have e' : condW (evO (aget T.l) (aget T.r) c) (wp F x (aget T.l) (aget T.r) L k ke kr) (wp F y (aget T.l) (aget T.r) L k ke kr) := e
    rw [evO_ok] at e'
    unfold condW at e'
    split at e'
    · rename_i b hb
      cases b with
      | true =>
        obtain ⟨n, z, T', S', h1, h2⟩ := wp_ok x h (e'.1 rfl)
        exact ⟨n + 1, z, T', S', by simp only [exec_succ, exec1, xCond, hb, h1], h2⟩
      | false =>
        obtain ⟨n, z, T', S', h1, h2⟩ := wp_ok y h (e'.2 rfl)
        exact ⟨n + 1, z, T', S', by simp only [exec_succ, exec1, xCond, hb, h1], h2⟩
    · exact e'.elim
  | .block id c, T, S, L, k, ke, kr, h, e => by
    have e' : wp F c (aget T.l) (aget T.r) L k (fun j l t L => bif Nat.beq j id then k l t L else ke j l t L) kr := e
    obtain ⟨n, x, T', S', h1, L', h2, h3⟩ := wp_ok c h e'
    cases x with
    | norm => exact ⟨n + 1, .norm, T', S', by simp only [exec_succ, exec1, xBlock, h1], L', h2, h3⟩
    | ret => exact ⟨n + 1, .ret, T', S', by simp only [exec_succ, exec1, xBlock, h1], L', h2, h3⟩
    | ex j =>
      simp only [beq_nat] at h3
      by_cases hj : j = id
      · simp only [hj, decide_true, cond_true] at h3
        exact ⟨n + 1, .norm, T', S', by simp only [exec_succ, exec1, xBlock, h1, beq_nat, hj, decide_true, cond_true], L', h2, h3⟩
      · simp only [hj, decide_false, cond_false] at h3
        exact ⟨n + 1, .ex j, T', S', by simp only [exec_succ, exec1, xBlock, h1, beq_nat, hj, decide_false, cond_false], L', h2, h3⟩
  | .loop c, T, S, L, k, ke, kr, h, e => by
    obtain ⟨I, ⟨n, hn⟩, hI⟩ := e
    have key : ∀ n, ∀ T S L, Mod S L → I n (aget T.l) L → Ends F (.loop c) T S k ke kr := by
      intro n
      induction n using Nat.strongRecOn with
      | ind n ih =>
        intro T S L h hn
        have e' : wp F c (aget T.l) (aget T.r) L (fun l _ L => ∃ m, m < n ∧ I m l L) ke kr := hI n _ (aget T.r) L hn
        obtain ⟨a, x, T', S', h1, L', h2, h3⟩ := wp_ok c h e'
        cases x with
        | norm =>
          obtain ⟨m, hm, h3⟩ := h3
          obtain ⟨b, y, T'', S'', h4, h5⟩ := ih m hm T' S' L' h2 h3
          refine ⟨max a b + 1, y, T'', S'', ?_, h5⟩
          simp only [exec_succ, exec1, xLoop, exec_le (Nat.le_max_left a b) _ _ _ _ h1, exec_le (Nat.le_max_right a b) _ _ _ _ h4]
        | ex j => exact ⟨a + 1, .ex j, T', S', by simp only [exec_succ, exec1, xLoop, h1], L', h2, h3⟩
        | ret => exact ⟨a + 1, .ret, T', S', by simp only [exec_succ, exec1, xLoop, h1], L', h2, h3⟩
    exact key n T S L h hn

theorem resOneL_ok {T : Tm} {S : St} {L : Lg} (h : Mod S L) {r : ResV} {v : AV} (e : resOneL (aget T.l) (aget T.r) L r = some v) : resOne T S.h r = some v := by
  cases r with
  | tmp t => simp only [resOneL, evO_ok] at e; exact e
  | cell t sz =>
    simp only [resOneL, evO_ok] at e
    unfold resOne
    simp only at e ⊢
    split at e
    · rename_i a ha; simp only [ha]; exact rdL_ok h e
    · cases e
theorem resLL_ok {T : Tm} {S : St} {L : Lg} (h : Mod S L) : ∀ {rs : List ResV} {l : List AV}, resLL (aget T.l) (aget T.r) L rs = some l → resL T S.h rs = some l
  | [], l, e => e
  | r :: rs, l, e => by
    unfold resLL at e
    unfold resL
    split at e
    · rename_i v hv
      simp only [resOneL_ok h hv]
      rw [Option.map_eq_some_iff] at e ⊢
      obtain ⟨u, hu, e⟩ := e
      exact ⟨u, resLL_ok h hu, e⟩
    · cases e
theorem resVL_ok {T : Tm} {S : St} {L : Lg} (h : Mod S L) {rs : List ResV} {v : AV} (e : resVL (aget T.l) (aget T.r) L rs = some v) : resV T S.h rs = some v := by
  unfold resVL at e
  unfold resV
  cases hl : resLL (aget T.l) (aget T.r) L rs with
  | none => rw [hl] at e; cases e
  | some l =>
    rw [hl] at e
    rw [resLL_ok h hl]
    match l with
    | [] => exact e
    | [x] => exact e
    | x :: y :: z => exact e

/-- what is so behind a function's body -/
def fin1 (v : Option AV) (Q : AV → Lg → Prop) (L : Lg) : Prop := match v with
  | some v => ∃ L', Sees L L' ∧ Q v L'
  | none => False
def fin (rs : List ResV) (Q : AV → Lg → Prop) : Kn := fun l t L => fin1 (resVL l t L rs) Q L
theorem CallL.of_wp {f : Nat} {fn : AFn} (hf : F f = some fn) {vs : List AV} {L : Lg} {Q : AV → Lg → Prop}
    (e : wp F fn.body (initE vs 0) Env.nil L (fin fn.res Q) (fun _ _ _ _ => False) (fin fn.res Q)) : CallL F f vs L Q := by
  intro S h
  rw [initE_ok] at e
  obtain ⟨n, x, T', S', h1, L', h2, h3⟩ := wp_ok (T := initT vs) fn.body h e
  have key : fin fn.res Q (aget T'.l) (aget T'.r) L' → ∃ v L'', resV T' S'.h fn.res = some v ∧ Mod S' L'' ∧ Q v L'' := by
    intro h3
    unfold fin fin1 at h3
    split at h3
    · rename_i v hv
      obtain ⟨L'', hs, hq⟩ := h3
      exact ⟨v, L'', resVL_ok h2 hv, hs _ h2, hq⟩
    · exact h3.elim
  cases x with
  | norm =>
    obtain ⟨v, L'', h4, h5, h6⟩ := key h3
    exact ⟨n, v, S', by simp only [acall_def, callOf, hf, h1, h4, Option.map_some], L'', h5, h6⟩
  | ret =>
    obtain ⟨v, L'', h4, h5, h6⟩ := key h3
    exact ⟨n, v, S', by simp only [acall_def, callOf, hf, h1, h4, Option.map_some], L'', h5, h6⟩
  | ex j => exact h3.elim
theorem CallL.mono {f : Nat} {vs : List AV} {L : Lg} {Q Q' : AV → Lg → Prop} (h : CallL F f vs L Q) (hq : ∀ v L, Q v L → Q' v L) : CallL F f vs L Q' := by
  intro S m
  obtain ⟨n, v, S', h1, L', h2, h3⟩ := h S m
  exact ⟨n, v, S', h1, L', h2, hq _ _ h3⟩
theorem CallL.sees {f : Nat} {vs : List AV} {L : Lg} {Q Q' : AV → Lg → Prop} (h : CallL F f vs L Q) (hq : ∀ v L, Q v L → ∃ L', Sees L L' ∧ Q' v L') : CallL F f vs L Q' := by
  intro S m
  obtain ⟨n, v, S', h1, L', h2, h3⟩ := h S m
  obtain ⟨L'', h4, h5⟩ := hq _ _ h3
  exact ⟨n, v, S', h1, L'', h4 _ h2, h5⟩
theorem CallL.pre {f : Nat} {vs : List AV} {L L' : Lg} {Q : AV → Lg → Prop} (hs : Sees L L') (h : CallL F f vs L' Q) : CallL F f vs L Q := fun S m => h S (hs S m)
/-- What is hidden at a name is opened ahead of a call. -/
theorem CallL.unfold {f : Nat} {vs : List AV} {L : Lg} {Q : AV → Lg → Prop} {r : Nat} {P : Hp → Prop} (e : L r = some (.abs P))
    (h : ∀ hm, P hm → ∃ M, Sat M hm ∧ ((∀ b c, M b = some c → b ≠ r → L b = none) → CallL F f vs (M.over (L.del r)) Q)) : CallL F f vs L Q := by
  intro S m
  obtain ⟨hm, hP, hM⟩ := m.unfold e
  obtain ⟨M, hs, hc⟩ := h hm hP
  obtain ⟨m1, hf⟩ := hM M hs
  exact hc hf S m1
theorem mod_S0 : Mod S0 Lg.nil := by
  refine mod_iff.2 ⟨fun _ _ => none, ⟨fun r b => rfl, fun _ _ _ _ => .inl rfl⟩, fun r b x h => by cases h⟩
/-- A law that answers true. -/
theorem true_of_callLG {f : Nat} {vs : List AV} (h : CallL F f vs Lg.nil fun v _ => v = .b true) : ∃ m S, acall F m f vs S0 = some (.b true, S) := by
  obtain ⟨n, v, S', h1, L', h2, rfl⟩ := h _ mod_S0
  exact ⟨n, S', h1⟩
/-- A law that answers true. -/
theorem true_of_callL {f : Nat} {vs : List AV} (h : CallL F f vs Lg.nil fun v _ => v = .b true) : ∃ m S, acall F m f vs ⟨.nil, 0⟩ = some (.b true, S) := by
  obtain ⟨n, v, S', h1, L', h2, rfl⟩ := h _ (mod_nil 0)
  exact ⟨n, S', h1⟩
end
end Go.AM

/- Logical memory: the rules as rewriting laws. -/
set_option linter.unusedVariables false
set_option linter.unusedSimpArgs false
namespace Go.AM

theorem by_def {α : Type} {a b : α} (h : a = b) : a = b := h
/-! ### only what stands first is looked at -/
def mark {α : Type} (x : α) : α := if 0 = 0 then x else x
@[simp] theorem mark_eq {α : Type} (x : α) : mark x = x := by simp [mark]
@[congr] theorem wpOp_congr {F o vs vs' L k} (h : mark vs = vs') : wpOp F o vs L k = wpOp F o vs' L k := by rw [← h, mark_eq]
@[congr] theorem gdOp_congr {F v v' w o vs L k} (h : mark v = v') : gdOp F v w o vs L k = gdOp F v' w o vs L k := by rw [← h, mark_eq]
@[congr] theorem condW_congr {v v' X Y} (h : mark v = v') : condW v X Y = condW v' X Y := by rw [← h, mark_eq]
@[congr] theorem retL_congr {r r' L k} (h : mark r = r') : retL r L k = retL r' L k := by rw [← h, mark_eq]
@[congr] theorem newL_congr {f vs vs' L k} (h : mark vs = vs') : newL f vs L k = newL f vs' L k := by rw [← h, mark_eq]
@[congr] theorem CallL_congr {F f vs vs' L Q} (h : mark vs = vs') : CallL F f vs L Q = CallL F f vs' L Q := by rw [← h, mark_eq]
@[congr] theorem stL_congr {sz L k vs vs'} (h : mark vs = vs') : stL sz L k vs = stL sz L k vs' := by rw [← h, mark_eq]
@[congr] theorem msetW_congr {L k vs vs'} (h : mark vs = vs') : msetW L k vs = msetW L k vs' := by rw [← h, mark_eq]
@[congr] theorem mdelW_congr {L k vs vs'} (h : mark vs = vs') : mdelW L k vs = mdelW L k vs' := by rw [← h, mark_eq]
@[congr] theorem appW_congr {s b L k vs vs'} (h : mark vs = vs') : appW s b L k vs = appW s b L k vs' := by rw [← h, mark_eq]
@[congr] theorem clrW_congr {z L k vs vs'} (h : mark vs = vs') : clrW z L k vs = clrW z L k vs' := by rw [← h, mark_eq]
@[congr] theorem cpyW_congr {s L k vs vs'} (h : mark vs = vs') : cpyW s L k vs = cpyW s L k vs' := by rw [← h, mark_eq]

@[simp] theorem Env.put_apply (l : Env) (n : Nat) (v : AV) (m : Nat) : (l.put n v) m = if n = m then v else l m := by
  unfold Env.put; rw [beq_nat]; by_cases h : n = m <;> simp [h]

/-! ### code -/
section
variable (F : Nat → Option AFn)
theorem gdOp_bool (x w : Bool) (o vs L k) : gdOp F (.b x) w o vs L k = ((x = w → wpOp F o vs L k) ∧ (x = (!w) → k (.tup []) L)) := by_def rfl
@[simp] theorem gdOp_same (w : Bool) (o vs L k) : gdOp F (.b w) w o vs L k = wpOp F o vs L k := by simp [gdOp_bool]
@[simp] theorem gdOp_tf (o vs L k) : gdOp F (.b true) false o vs L k = k (.tup []) L := by simp [gdOp_bool]
@[simp] theorem gdOp_ft (o vs L k) : gdOp F (.b false) true o vs L k = k (.tup []) L := by simp [gdOp_bool]
@[simp] theorem gdOp_dt (p : Prop) [Decidable p] (o vs L k) : gdOp F (.b (decide p)) true o vs L k = ((p → wpOp F o vs L k) ∧ (¬p → k (.tup []) L)) := by simp [gdOp_bool]
@[simp] theorem gdOp_df (p : Prop) [Decidable p] (o vs L k) : gdOp F (.b (decide p)) false o vs L k = ((¬p → wpOp F o vs L k) ∧ (p → k (.tup []) L)) := by simp [gdOp_bool]
@[simp] theorem gdOp_tup (l w o vs L k) : gdOp F (.tup l) w o vs L k = k (.tup []) L := by_def rfl
theorem condW_bool (x : Bool) (X Y : Prop) : condW (.b x) X Y = ((x = true → X) ∧ (x = false → Y)) := by_def rfl
@[simp] theorem condW_t (X Y : Prop) : condW (.b true) X Y = X := by simp [condW_bool]
@[simp] theorem condW_f (X Y : Prop) : condW (.b false) X Y = Y := by simp [condW_bool]
@[simp] theorem condW_d (p : Prop) [Decidable p] (X Y : Prop) : condW (.b (decide p)) X Y = ((p → X) ∧ (¬p → Y)) := by simp [condW_bool]

@[simp] theorem condW_nd (p : Prop) [Decidable p] (X Y : Prop) : condW (.b (!decide p)) X Y = ((¬p → X) ∧ (p → Y)) := by simp [condW_bool]
@[simp] theorem gdOp_ndt (p : Prop) [Decidable p] (o vs L k) : gdOp F (.b (!decide p)) true o vs L k = ((¬p → wpOp F o vs L k) ∧ (p → k (.tup []) L)) := by simp [gdOp_bool]
@[simp] theorem gdOp_ndf (p : Prop) [Decidable p] (o vs L k) : gdOp F (.b (!decide p)) false o vs L k = ((p → wpOp F o vs L k) ∧ (¬p → k (.tup []) L)) := by simp [gdOp_bool]

/-! ### operations -/
variable (L : Lg) (k : AV → Lg → Prop)
@[simp] theorem wp_mv (x : AV) : wpOp F .mv [x] L k = k x L := by_def rfl
theorem wp_pick (c : Bool) (x y : AV) : wpOp F .pick [.b c, x, y] L k = k (bif c then x else y) L := by_def rfl
@[simp] theorem wp_pick_t (x y : AV) : wpOp F .pick [.b true, x, y] L k = k x L := by_def rfl
@[simp] theorem wp_pick_f (x y : AV) : wpOp F .pick [.b false, x, y] L k = k y L := by_def rfl
@[simp] theorem wp_pick_and (c d : Bool) : wpOp F .pick [.b c, .b d, .b false] L k = k (.b (c && d)) L := by rw [wp_pick]; cases c <;> rfl
@[simp] theorem wp_pick_or (c d : Bool) : wpOp F .pick [.b c, .b true, .b d] L k = k (.b (c || d)) L := by rw [wp_pick]; cases c <;> rfl
@[simp] theorem wp_build (z ps vs) : wpOp F (.build z ps) vs L k = retL ((fillP z ps vs).map .agg) L k := by_def rfl
@[simp] theorem retL_some (v) : retL (some v) L k = k v L := by_def rfl
@[simp] theorem wp_nilchk_p (a) : wpOp F .nilchk [.p (some a)] L k = k (.p (some a)) L := by_def rfl
@[simp] theorem wp_nilchk_f (f a b) : wpOp F .nilchk [.fn f a b] L k = k (.fn f a b) L := by_def rfl
@[simp] theorem wp_add (a b : Int) (j) : wpOp F (.bin .add) [.i j a, .i j b] L k = k (.i j (wr j (a + b))) L := by
  have : kEq j j = true := by cases j <;> rfl
  simp [wpOp, semRL, semR, rBin, isSh, this, binI]
@[simp] theorem wp_sub (a b : Int) (j) : wpOp F (.bin .sub) [.i j a, .i j b] L k = k (.i j (wr j (a - b))) L := by
  have : kEq j j = true := by cases j <;> rfl
  simp [wpOp, semRL, semR, rBin, isSh, this, binI]
@[simp] theorem wp_mul (a b : Int) (j) : wpOp F (.bin .mul) [.i j a, .i j b] L k = k (.i j (wr j (a * b))) L := by
  have : kEq j j = true := by cases j <;> rfl
  simp [wpOp, semRL, semR, rBin, isSh, this, binI]
theorem beq_dec (a b : Int) : (a == b) = decide (a = b) := by rw [Bool.eq_iff_iff]; simp
theorem wp_quo (a b : Int) (j) (h : b ≠ 0) : wpOp F (.bin .quo) [.i j a, .i j b] L k = k (.i j (wr j (a.tdiv b))) L := by
  have : kEq j j = true := by cases j <;> rfl
  simp [wpOp, semRL, semR, rBin, isSh, this, binI, iEq_eq, beq_dec, h]
theorem wp_rem (a b : Int) (j) (h : b ≠ 0) : wpOp F (.bin .rem) [.i j a, .i j b] L k = k (.i j (a.tmod b)) L := by
  have : kEq j j = true := by cases j <;> rfl
  simp [wpOp, semRL, semR, rBin, isSh, this, binI, iEq_eq, beq_dec, h]
@[simp] theorem wp_eql (a b : Int) (j) : wpOp F (.bin .eql) [.i j a, .i j b] L k = k (.b (decide (a = b))) L := by
  have : kEq j j = true := by cases j <;> rfl
  simp [wpOp, semRL, semR, rBin, isSh, this, binI, iEq_eq, beq_dec]
@[simp] theorem wp_neq (a b : Int) (j) : wpOp F (.bin .neq) [.i j a, .i j b] L k = k (.b (decide (a ≠ b))) L := by
  have : kEq j j = true := by cases j <;> rfl
  simp [wpOp, semRL, semR, rBin, isSh, this, binI, iEq_eq, beq_dec]
@[simp] theorem wp_lss (a b : Int) (j) : wpOp F (.bin .lss) [.i j a, .i j b] L k = k (.b (decide (a < b))) L := by
  have : kEq j j = true := by cases j <;> rfl
  simp [wpOp, semRL, semR, rBin, isSh, this, binI, iLt_eq]
@[simp] theorem wp_leq (a b : Int) (j) : wpOp F (.bin .leq) [.i j a, .i j b] L k = k (.b (decide (a ≤ b))) L := by
  have : kEq j j = true := by cases j <;> rfl
  simp [wpOp, semRL, semR, rBin, isSh, this, binI, iLt_eq, ← Int.not_lt]
@[simp] theorem wp_gtr (a b : Int) (j) : wpOp F (.bin .gtr) [.i j a, .i j b] L k = k (.b (decide (b < a))) L := by
  have : kEq j j = true := by cases j <;> rfl
  simp [wpOp, semRL, semR, rBin, isSh, this, binI, iLt_eq]
@[simp] theorem wp_geq (a b : Int) (j) : wpOp F (.bin .geq) [.i j a, .i j b] L k = k (.b (decide (b ≤ a))) L := by
  have : kEq j j = true := by cases j <;> rfl
  simp [wpOp, semRL, semR, rBin, isSh, this, binI, iLt_eq, ← Int.not_lt]
theorem wp_binO (o a b j) (ho : isSh o = false) : wpOp F (.bin o) [.i j a, .i j b] L k = retL (binI o j a b) L k := by
  have : kEq j j = true := by cases j <;> rfl
  simp [wpOp, semRL, semR, rBin, ho, this]
theorem wp_sh (o a b i j) (ho : isSh o = true) : wpOp F (.bin o) [.i i a, .i j b] L k = retL (shI o i a b) L k := by
  simp [wpOp, semRL, semR, rBin, ho]
@[simp] theorem wp_sbin (o x y) : wpOp F (.sbin o) [.s x, .s y] L k = retL (binS o x y) L k := by_def rfl
@[simp] theorem wp_eqb (ng : Bool) (x y : Bool) : wpOp F (.eq ng .bool) [.b x, .b y] L k = k (.b ((x == y) != ng)) L := by_def rfl
theorem wp_eqp (ng : Bool) (x y) : wpOp F (.eq ng .ptr) [.p x, .p y] L k = retL ((eqPL L x y).map fun r => .b (r != ng)) L k := by_def rfl
@[simp] theorem wp_eqp_nn (ng : Bool) : wpOp F (.eq ng .ptr) [.p none, .p none] L k = k (.b (!ng)) L := by cases ng <;> rfl
@[simp] theorem wp_eqp_sn (ng : Bool) (a) : wpOp F (.eq ng .ptr) [.p (some a), .p none] L k = k (.b ng) L := by cases ng <;> rfl
@[simp] theorem wp_eqp_ns (ng : Bool) (a) : wpOp F (.eq ng .ptr) [.p none, .p (some a)] L k = k (.b ng) L := by cases ng <;> rfl
@[simp] theorem wp_eqsl_n (ng : Bool) (a b c) : wpOp F (.eq ng .slnil) [.sl none a b c, .sl none 0 0 0] L k = k (.b (!ng)) L := by cases ng <;> rfl
@[simp] theorem wp_eqsl_s (ng : Bool) (r a b c) : wpOp F (.eq ng .slnil) [.sl (some r) a b c, .sl none 0 0 0] L k = k (.b ng) L := by cases ng <;> rfl
@[simp] theorem wp_eqif_nn (ng : Bool) : wpOp F (.eq ng .ifcn) [.nili, .nili] L k = k (.b (!ng)) L := by cases ng <;> rfl
@[simp] theorem wp_eqif_sn (ng : Bool) (t v) : wpOp F (.eq ng .ifcn) [.ifc t v, .nili] L k = k (.b ng) L := by cases ng <;> rfl
@[simp] theorem wp_eqif_s (ng : Bool) (t v) : wpOp F (.eq ng .ifc) [.ifc t v, .nili] L k = k (.b ng) L := by cases ng <;> rfl
@[simp] theorem wp_eqm_n (ng : Bool) : wpOp F (.eq ng .mapnil) [.m none, .m none] L k = k (.b (!ng)) L := by cases ng <;> rfl
@[simp] theorem wp_eqm_s (ng : Bool) (r) : wpOp F (.eq ng .mapnil) [.m (some r), .m none] L k = k (.b ng) L := by cases ng <;> rfl
theorem wp_eqagg (ng : Bool) (fs x y) : wpOp F (.eq ng (.agg fs)) [.agg x, .agg y] L k = retL ((eqAt x y fs).map fun r => .b (r != ng)) L k := by_def rfl
@[simp] theorem wp_not (x : Bool) : wpOp F (.un .not) [.b x] L k = k (.b (!x)) L := by_def rfl
@[simp] theorem wp_neg (n : Int) (j) : wpOp F (.un .neg) [.i j n] L k = k (.i j (wr j (0 - n))) L := by_def rfl
@[simp] theorem wp_cvtI (n : Int) (i j) : wpOp F (.cvtI j) [.i i n] L k = k (.i j (wr j n)) L := by_def rfl
@[simp] theorem wp_cvtS (x) : wpOp F .cvtS [.s x] L k = k (.s x) L := by_def rfl
@[simp] theorem wp_mkif (t x) : wpOp F (.mkif t) [x] L k = k (.ifc t x) L := by_def rfl
@[simp] theorem wp_mkfn (f n vs) : wpOp F (.mkfn f n) vs L k = k (.fn f (vs.take n) (vs.drop n)) L := by_def rfl
@[simp] theorem wp_slc (s lo hi mx vs) : wpOp F (.slc s lo hi mx) vs L k = retL (slcV s lo hi mx vs) L k := by_def rfl
@[simp] theorem wp_slcS (lo hi vs) : wpOp F (.slcS lo hi) vs L k = retL (slcSV lo hi vs) L k := by_def rfl
@[simp] theorem wp_fad (off n o) : wpOp F (.fad off) [.p (some (n, o))] L k = k (.p (some (n, o + off))) L := by_def rfl
@[simp] theorem wp_fld (off sz l) : wpOp F (.fld off sz) [.agg l] L k = retL (look l off sz) L k := by_def rfl
theorem rIad_eq (s n o len c e : Nat) (i) (x : Int) (h0 : 0 ≤ x) (h1 : x < len) (h : PM AB) : rIad s h [.sl (some (n, o)) len c e, .i i x] = some (.p (some (n, o + x.toNat * s))) := by
  obtain ⟨m, rfl⟩ := Int.eq_ofNat_of_zero_le h0
  have : Nat.blt m len = true := by rw [blt_nat]; simp; omega
  show (bif Nat.blt m len then _ else _) = _
  rw [this]; rfl
theorem wp_iad (s n o len c e : Nat) (i) (x : Int) (h0 : 0 ≤ x) (h1 : x < len) : wpOp F (.iad s) [.sl (some (n, o)) len c e, .i i x] L k = k (.p (some (n, o + x.toNat * s))) L := by
  simp [wpOp, semRL, semR, rIad_eq s n o len c e i x h0 h1]
theorem wp_iadA (len s n o : Nat) (i) (x : Int) (h0 : 0 ≤ x) (h1 : x < len) : wpOp F (.iadA len s) [.p (some (n, o)), .i i x] L k = k (.p (some (n, o + x.toNat * s))) L := by
  obtain ⟨m, rfl⟩ := Int.eq_ofNat_of_zero_le h0
  have : Nat.blt m len = true := by rw [blt_nat]; simp; omega
  show retL (bif Nat.blt m len then _ else _) L k = _
  rw [this]; rfl
theorem wp_ixS (x : List UInt8) (i) (n : Int) (h0 : 0 ≤ n) (h1 : n < x.length) : wpOp F .ixS [.s x, .i i n] L k = k (.i .u8 (x[n.toNat]'(by omega)).toNat) L := by
  obtain ⟨m, rfl⟩ := Int.eq_ofNat_of_zero_le h0
  show retL ((x[m]?).map _) L k = _
  rw [List.getElem?_eq_getElem (by simpa using h1)]; rfl
@[simp] theorem wp_ext (n l) : wpOp F (.ext n) [.tup l] L k = retL l[n]? L k := by_def rfl
@[simp] theorem wp_lenSl (a n c e) : wpOp F .lenSl [.sl a n c e] L k = k (.i .i64 n) L := by_def rfl
@[simp] theorem wp_lenS (x) : wpOp F .lenS [.s x] L k = k (.i .i64 x.length) L := by_def rfl
@[simp] theorem wp_lenC (n x) : wpOp F (.lenC n) [x] L k = k (.i .i64 n) L := by_def rfl
@[simp] theorem wp_min2 (a b : Int) (j) : wpOp F .min [.i j a, .i j b] L k = k (.i j (min a b)) L := by
  have : kEq j j = true := by cases j <;> rfl
  simp only [wpOp, semRL, semR, rMin, minL, this, cond_true, retL, iLt_eq]
  congr 2
  by_cases h : b < a
  · simp [h]; omega
  · simp [h]; omega
@[simp] theorem wp_max2 (a b : Int) (j) : wpOp F .max [.i j a, .i j b] L k = k (.i j (max a b)) L := by
  have : kEq j j = true := by cases j <;> rfl
  simp only [wpOp, semRL, semR, rMax, minL, this, cond_true, retL, iLt_eq]
  congr 2
  by_cases h : a < b
  · simp [h]; omega
  · simp [h]; omega
@[simp] theorem wp_max3 (a b c : Int) (j) : wpOp F .max [.i j a, .i j b, .i j c] L k = k (.i j (max (max a b) c)) L := by
  have : kEq j j = true := by cases j <;> rfl
  simp only [wpOp, semRL, semR, rMax, minL, this, cond_true, retL, iLt_eq]
  congr 2
  by_cases h : a < b
  · simp only [h, decide_true, cond_true]
    by_cases h2 : b < c
    · simp [h2]; omega
    · simp [h2]; omega
  · simp only [h, decide_false, cond_false]
    by_cases h2 : a < c
    · simp [h2]; omega
    · simp [h2]; omega
theorem wp_cvtB (vs) : wpOp F .cvtB vs L k = retL (rCvtBL L vs) L k := by_def rfl
@[simp] theorem wp_ld (sz a) : wpOp F (.ld sz) [.p (some a)] L k = retL (rdL L a sz) L k := by_def rfl
@[simp] theorem wp_lkup (z ok vs) : wpOp F (.lkup z ok) vs L k = retL (rLkupL z ok L vs) L k := by_def rfl
@[simp] theorem wp_mlen (vs) : wpOp F .mlen vs L k = retL (rMlenL L vs) L k := by_def rfl
@[simp] theorem wp_alloc (z) : wpOp F (.alloc z) [] L k = ∀ b, L b = none → k (.p (some (b, 0))) (L.put b (.raw (.cells z))) := by_def rfl
@[simp] theorem wp_bslice (z len size ps vs) : wpOp F (.bslice z len size ps) vs L k = newL (aBslice z len size ps) vs L k := by_def rfl
@[simp] theorem wp_box (v) : wpOp F .box [v] L k = newL aBox [v] L k := by_def rfl
@[simp] theorem wp_mkmap : wpOp F .mkmap [] L k = ∀ b, L b = none → k (.m (some b)) (L.put b (.raw (.map []))) := by_def rfl
theorem wp_mksl (z bytes i j) (l c : Nat) (h : l ≤ c) (h2 : c * bytes ≤ 70368744177664) : wpOp F (.mksl z bytes) [.i i l, .i j c] L k = ∀ b, L b = none → k (.sl (some (b, 0)) l c 0) (L.put b (.raw (.cells (reps z c)))) := by
  have e : ∀ b, aMksl z bytes b [.i i l, .i j c] = some (.cells (reps z c), .sl (some (b, 0)) l c 0) := by
    intro b
    show (bif Nat.ble l c && Nat.ble (c * bytes) 70368744177664 then _ else _) = _
    simp [ble_nat, h, h2]
  simp [wpOp, newL, e]
@[simp] theorem wp_st (sz a v) : wpOp F (.st sz) [.p (some a), v] L k = stL sz L k [.p (some a), v] := by_def rfl
@[simp] theorem wp_mset (vs) : wpOp F .mset vs L k = msetW L k vs := by_def rfl
@[simp] theorem wp_mdel (vs) : wpOp F .mdel vs L k = mdelW L k vs := by_def rfl
@[simp] theorem wp_app (s b vs) : wpOp F (.app s b) vs L k = appW s b L k vs := by_def rfl
@[simp] theorem wp_clr (z vs) : wpOp F (.clr z) vs L k = clrW z L k vs := by_def rfl
@[simp] theorem wp_cpy (s vs) : wpOp F (.cpy s) vs L k = cpyW s L k vs := by_def rfl
@[simp] theorem wp_call (f vs) : wpOp F (.call f) vs L k = CallL F f vs L k := by_def rfl
@[simp] theorem wp_callv (f fst cap vs) : wpOp F .callv (.fn f fst cap :: vs) L k = CallL F f (fst ++ vs ++ cap) L k := by_def rfl
end

@[simp] theorem fin1_some (v : AV) (Q : AV → Lg → Prop) (L : Lg) : fin1 (some v) Q L = ∃ L', Sees L L' ∧ Q v L' := by_def rfl

/-! ### cells -/
@[simp] theorem splice_nil (c : List AV) (n : Nat) : splice c n [] = c := by simp [splice]
@[simp] theorem cellsOf_b (x) : (AV.b x).cellsOf = some [.b x] := by_def rfl
@[simp] theorem cellsOf_i (j x) : (AV.i j x).cellsOf = some [.i j x] := by_def rfl
@[simp] theorem cellsOf_s (x) : (AV.s x).cellsOf = some [.s x] := by_def rfl
@[simp] theorem cellsOf_p (x) : (AV.p x).cellsOf = some [.p x] := by_def rfl
@[simp] theorem cellsOf_m (x) : (AV.m x).cellsOf = some [.m x] := by_def rfl
@[simp] theorem cellsOf_sl (a b c d) : (AV.sl a b c d).cellsOf = some [.sl a b c d] := by_def rfl
@[simp] theorem cellsOf_fn (a b c) : (AV.fn a b c).cellsOf = some [.fn a b c] := by_def rfl
@[simp] theorem cellsOf_ifc (a b) : (AV.ifc a b).cellsOf = some [.ifc a b] := by_def rfl
@[simp] theorem cellsOf_nili : (AV.nili).cellsOf = some [.nili] := by_def rfl
@[simp] theorem cellsOf_nilf : (AV.nilf).cellsOf = some [.nilf] := by_def rfl
theorem cellsOf_agg (l : List AV) (h : l.all AV.one = true) : (AV.agg l).cellsOf = some l := by simp [AV.cellsOf, h]
@[simp] theorem one_b (x) : (AV.b x).one = true := by_def rfl
@[simp] theorem one_i (j x) : (AV.i j x).one = true := by_def rfl
@[simp] theorem one_s (x) : (AV.s x).one = true := by_def rfl
@[simp] theorem one_p (x) : (AV.p x).one = true := by_def rfl
@[simp] theorem one_m (x) : (AV.m x).one = true := by_def rfl
@[simp] theorem one_sl (a b c d) : (AV.sl a b c d).one = true := by_def rfl
@[simp] theorem one_fn (a b c) : (AV.fn a b c).one = true := by_def rfl
/-! ### for what is printed -/
abbrev TF := Nat → Option AFn
abbrev TN := Nat → Nat
abbrev TQ := AV → Lg → Prop
abbrev TK := Env → Lg → Prop
def nE : Nat → Kn := fun _ _ _ _ => False
section
variable {F : TF} {l t : Env} {L : Lg} {k : Kn} {ke : Nat → Kn} {kr : Kn} {Z : Prop}
theorem wpS {a b : ACode} {G : Kn} (h : ∀ l t L, wp F b l t L k ke kr = G l t L) (e : wp F a l t L G ke kr = Z) : wp F (.seq a b) l t L k ke kr = Z := by
  rw [← e, wpq_seq]
  exact congrArg (fun X : Kn => wp F a l t L X ke kr) (funext fun l => funext fun t => funext fun L => h l t L)
theorem wpC {c : Opd} {x y : ACode} {X Y : Prop} (hx : wp F x l t L k ke kr = X) (hy : wp F y l t L k ke kr = Y) (e : condW (evO l t c) X Y = Z) : wp F (.cond c x y) l t L k ke kr = Z := by
  rw [← e, wpq_cond, hx, hy]
theorem wpB {i : Nat} {c : ACode} (h : wp F c l t L k (fun j l t L => bif Nat.beq j i then k l t L else ke j l t L) kr = Z) : wp F (.block i c) l t L k ke kr = Z := h
theorem wpL {c : ACode} {B : Env → Env → Lg → TK → Prop} (h : ∀ l t L (k : TK), wp F c l t L (fun l _ L => k l L) ke kr = B l t L k) (e : loopW B l L = Z) : wp F (.loop c) l t L k ke kr = Z := by
  rw [← e, wpq_loop]
  exact congrArg (fun B => loopW B l L) (funext fun l => funext fun t => funext fun L => funext fun k => h l t L k)
end
end Go.AM

/- The code of functions, with names for their numbers, and what is left of its weakest preconditions. PRINTED by our printgen.py. -/
set_option linter.unusedVariables false
set_option maxRecDepth 100000
namespace Go.AM
end Go.AM

/- The code of functions, with names for their numbers, and what is left of its weakest preconditions. PRINTED by our printgen.py. -/
set_option linter.unusedVariables false
set_option maxRecDepth 100000
namespace Go.AM
end Go.AM

/- The code of functions, with names for their numbers, and what is left of its weakest preconditions. PRINTED by our printgen.py. -/
set_option linter.unusedVariables false
set_option maxRecDepth 100000
namespace Go.AM
end Go.AM

/- The code of functions, with names for their numbers, and what is left of its weakest preconditions. PRINTED by our printgen.py. -/
set_option linter.unusedVariables false
set_option maxRecDepth 100000
namespace Go.AM
end Go.AM
