/- Code and calls: the abstract machine's run is the model's. Regions are taken as given here. -/
import Derived.Test.YtjmnmaaipcbmnaaGreatAmN
import Derived.LoopN
set_option linter.unusedVariables false
set_option linter.unusedSimpArgs false
namespace Go.AM
open Go.RowKit (Below)

/-! ### memory only grows, by code -/
def GrowsE (E : Ec) : Prop := ∀ c T S x T' S', E c T S = some (x, T', S') → Gr S S'
theorem callOf_grows {F : Nat → Option AFn} {E : Ec} (h : GrowsE E) : Grows (callOf F E) := by
  intro f vs S v S' hs
  unfold callOf at hs
  split at hs
  · cases hs
  · split at hs
    · rename_i T' S1 he
      rw [Option.map_eq_some_iff] at hs
      obtain ⟨u, _, hu⟩ := hs
      cases hu
      exact h _ _ _ _ _ _ he
    · rename_i T' S1 he
      rw [Option.map_eq_some_iff] at hs
      obtain ⟨u, _, hu⟩ := hs
      cases hu
      exact h _ _ _ _ _ _ he
    · cases hs
theorem trace_gr {call : Cll} (hcall : Grows call) : ∀ {l : List Op1} {T : Tm} {S : St} {tr : List (Tm × St)}, trace call l T S = some tr → ∀ {p : Tm × St}, lastOf tr = some p → Gr S p.2
  | [], T, S, tr, h, p, hp => by cases h; cases hp; exact Gr.refl _
  | o :: r, T, S, tr, h, p, hp => by
    unfold trace at h
    split at h
    · rename_i T1 S1 he
      rw [Option.map_eq_some_iff] at h
      obtain ⟨u, hu, rfl⟩ := h
      have h1 := step1_gr hcall he
      cases u with
      | nil =>
        exfalso
        revert hu
        cases r with
        | nil => unfold trace; intro h; cases h
        | cons o r =>
          unfold trace
          split
          · rw [Option.map_eq_some_iff]; rintro ⟨_, _, h⟩; cases h
          · intro h; cases h
      | cons y u => exact h1.trans (trace_gr hcall hu (by simpa [lastOf] using hp))
    · cases h
theorem exec1_grows {F : Nat → Option AFn} {E : Ec} (h : GrowsE E) : GrowsE (exec1 F E) := by
  have hc := callOf_grows (F := F) h
  intro c T S x T' S' hs
  cases c with
  | skip => cases hs; exact Gr.refl _
  | reg ops =>
    simp only [exec1, xReg] at hs
    split at hs
    · rename_i he; cases hs; exact runOps_gr hc he
    · cases hs
  | regD ops chk =>
    simp only [exec1, xRegD] at hs
    split at hs
    · rename_i tr he
      rw [cond_eq_ite] at hs
      split at hs
      · rw [Option.map_eq_some_iff] at hs
        obtain ⟨p, hp, hq⟩ := hs
        cases hq
        exact trace_gr hc he hp
      · cases hs
    · cases hs
  | seq a b =>
    simp only [exec1, xSeq] at hs
    split at hs
    · rename_i he; exact (h _ _ _ _ _ _ he).trans (h _ _ _ _ _ _ hs)
    · exact h _ _ _ _ _ _ hs
  | cond c x y =>
    simp only [exec1, xCond] at hs
    split at hs
    · exact h _ _ _ _ _ _ hs
    · exact h _ _ _ _ _ _ hs
    · cases hs
  | block id c =>
    simp only [exec1, xBlock] at hs
    split at hs
    · rename_i he
      rw [cond_eq_ite] at hs
      split at hs <;> (cases hs; exact h _ _ _ _ _ _ he)
    · exact h _ _ _ _ _ _ hs
  | loop c =>
    simp only [exec1, xLoop] at hs
    split at hs
    · rename_i he; exact (h _ _ _ _ _ _ he).trans (h _ _ _ _ _ _ hs)
    · exact h _ _ _ _ _ _ hs
  | exit id => cases hs; exact Gr.refl _
  | ret => cases hs; exact Gr.refl _
theorem exec_grows (F : Nat → Option AFn) : ∀ n, GrowsE (exec F n)
  | 0 => fun _ _ _ _ _ _ h => by cases h
  | n + 1 => exec1_grows (exec_grows F n)

/-! ### results -/
section
variable {P : Program} {β : Bt} {B0 : Nat} {h : PM AB} {w : World} {ps nt : Nat}

def resGet (tmps : Array Value) : ResultVar → Sem Value
  | .tmp t => pure (tmps.getD t undef)
  | .cell a t => do loadVar t (← asAddr (tmps.getD a undef))
theorem results_eq (fn : Func) (tmps : Array Value) : results fn tmps = (do let vs ← fn.results.mapM (resGet tmps); pure (if h : vs.size = 1 then vs[0] else .tuple vs)) := by
  unfold results
  congr 1

theorem resOne_run (hR : Rel β B0 h w) {T : Tm} {a : Act} (hT : TRel β ps nt T a) {r : ResultVar} {s : ResV} (hc : compRes P ps nt r = some s) {v : AV} (hv : resOne T h s = some v) :
    ∃ v', (resGet a.tmps r).run P w = .ok v' w ∧ VR β v v' := by
  cases r with
  | tmp t =>
    simp only [compRes, blt_nat] at hc
    by_cases ht : t < nt
    · simp only [ht, decide_true, cond_true, Option.some.injEq] at hc
      subst hc
      cases hv
      exact ⟨_, rfl, hT.tm t ht⟩
    · simp [ht] at hc
  | cell t ty =>
    simp only [compRes, blt_nat] at hc
    by_cases ht : t < nt
    · simp only [ht, decide_true, cond_true, Option.map_eq_some_iff] at hc
      obtain ⟨sz, hsz, rfl⟩ := hc
      simp only [resOne] at hv
      have h1 : VR β ((opT ps t).ev T) (a.tmps.getD t undef) := hT.tm t ht
      show ∃ v', (do loadVar ty (← asAddr (a.tmps.getD t undef)) : Sem Value).run P w = .ok v' w ∧ VR β v v'
      generalize a.tmps.getD t undef = y at h1 ⊢
      generalize (opT ps t).ev T = x at h1 hv
      split at hv
      · rename_i ad
        obtain ⟨v', h2, h3⟩ := g_ld (P := P) hR hsz (.cons h1 .nil) (vs := [.p (some ad)]) (v := v) hv
        cases h1
        refine ⟨v', ?_, h3⟩
        simpa [Instr.loadAt, Instr.sureAddr, asAddr] using h2
      · cases hv
    · simp [ht] at hc

theorem resL_run (hR : Rel β B0 h w) {T : Tm} {a : Act} (hT : TRel β ps nt T a) : ∀ {rs : List ResultVar} {ss : List ResV}, mapO (compRes P ps nt) rs = some ss → ∀ {vs : List AV}, resL T h ss = some vs →
    ∃ vs', (rs.mapM (resGet a.tmps)).run P w = .ok vs' w ∧ VRs β vs vs'
  | [], ss, hc, vs, hv => by simp [mapO] at hc; subst hc; cases hv; exact ⟨[], rfl, .nil⟩
  | r :: rs, ss, hc, vs, hv => by
    unfold mapO at hc
    split at hc
    · rename_i s hs
      rw [Option.map_eq_some_iff] at hc
      obtain ⟨ss', hss, rfl⟩ := hc
      simp only [resL] at hv
      split at hv
      · rename_i v hv1
        rw [Option.map_eq_some_iff] at hv
        obtain ⟨vs1, hvs, rfl⟩ := hv
        obtain ⟨v', h1, h2⟩ := resOne_run hR hT hs hv1
        obtain ⟨vs', h3, h4⟩ := resL_run hR hT hss hvs
        refine ⟨v' :: vs', ?_, .cons h2 h4⟩
        simp only [List.mapM_cons, Sem.run_bind, h1, Result.andThen_ok, h3, Sem.run_pure]
      · cases hv
    · cases hc

theorem results_sound (hR : Rel β B0 h w) {T : Tm} {a : Act} (hT : TRel β ps nt T a) {fn : Func} {ss : List ResV} (hc : mapO (compRes P ps nt) fn.results.toList = some ss) {v : AV} (hv : resV T h ss = some v) :
    ∃ v', (results fn a.tmps).run P w = .ok v' w ∧ VR β v v' := by
  unfold resV at hv
  have key : ∀ vs, resL T h ss = some vs → ∃ vs', (results fn a.tmps).run P w = .ok (if h : vs'.length = 1 then vs'[0] else .tuple vs'.toArray) w ∧ VRs β vs vs' := by
    intro vs hvs
    obtain ⟨vs', h1, h2⟩ := resL_run hR hT hc hvs
    refine ⟨vs', ?_, h2⟩
    rw [results_eq, Array.mapM_eq_mapM_toList]
    simp only [Sem.run_bind, map_eq_pure_bind, Sem.run_pure, h1, Result.andThen_ok, List.size_toArray]
    rfl
  split at hv
  · rename_i u hu
    cases hv
    obtain ⟨vs', h1, h2⟩ := key _ hu
    cases h2 with
    | cons h3 h4 => cases h4; exact ⟨_, h1, h3⟩
  · rename_i vs hne hu
    cases hv
    obtain ⟨vs', h1, h2⟩ := key _ hu
    refine ⟨_, h1, ?_⟩
    rw [dif_neg (fun e => ?_)]
    · exact .tup h2
    · have := h2.length
      rw [e] at this
      match vs, this with
      | [x], _ => exact hne x rfl
  · cases hv
end

/-! ### code -/
def exitOf : Ex → Exit
  | .norm => .normal
  | .ex id => .exit id
  | .ret => .ret

/-- what a piece of code of the abstract machine says of the model's -/
def Says (P : Program) (B0 ps nt : Nat) (c : Code) (T : Tm) (S : St) (x : Ex) (T' : Tm) (S' : St) : Prop :=
  ∀ β w a (Q : Exit → Act → World → Prop), S.wf → Rel β B0 S.h w → TRel β ps nt T a → Free β S.nx S'.nx →
    (∀ γ a' w', TRel γ ps nt T' a' → Stp B0 β S w γ S' w' → Q (exitOf x) a' w') → c.wp P Q a w

/-- Regions: what is to be shown of them. -/
def RegOk (P : Program) (B0 : Nat) (F : Nat → Option AFn) (E : Ec) : Prop :=
  ∀ ps nt id ops d c, compReg P ps nt ops d = some c → ∀ T S x T' S', exec1 F E c T S = some (x, T', S') → Says P B0 ps nt (.region id ops d) T S x T' S'

def ExecOk (P : Program) (B0 : Nat) (E : Ec) : Prop :=
  ∀ ps nt c c', compCode P ps nt c = some c' → ∀ T S x T' S', E c' T S = some (x, T', S') → Says P B0 ps nt c T S x T' S'
def LoopOk (P : Program) (B0 : Nat) (E : Ec) (n : Nat) : Prop :=
  ∀ ps nt c c', compCode P ps nt c = some c' → ∀ T S x T' S', E (.loop c') T S = some (x, T', S') →
    ∀ β w a (Q : Exit → Act → World → Prop), S.wf → Rel β B0 S.h w → TRel β ps nt T a → Free β S.nx S'.nx →
    (∀ γ a' w', TRel γ ps nt T' a' → Stp B0 β S w γ S' w' → Q (exitOf x) a' w') → Code.rounds P c Q n a w

theorem initL_get : ∀ (vs : List AV) (k t : Nat), aget (initL vs k) t = if k ≤ t then (vs[t - k]?).getD .bad else .bad
  | [], k, t => by simp [initL, aget_nil]
  | v :: vs, k, t => by
    simp only [initL, aget_cons, beq_nat]
    by_cases h : k = t
    · subst h; simp
    · simp only [h, decide_false, cond_false]
      rw [initL_get vs (k + 1) t]
      by_cases h1 : k ≤ t
      · rw [if_pos (by omega), if_pos h1, show t - k = (t - (k + 1)) + 1 by omega]; rfl
      · rw [if_neg (by omega), if_neg h1]
theorem init_TRel {β : Bt} {ps nt : Nat} {vs : List AV} {as : Array Value} (h : VRs β vs as.toList) : TRel β ps nt (initT vs) { tmps := as ++ Array.replicate (nt - as.size) undef, defers := [] } := by
  refine ⟨by simp; omega, fun t ht => ?_, rfl⟩
  unfold Tm.at opT
  cases per ps t
  · exact .bad _
  · show VR β (aget (initL vs 0) t) _
    rw [initL_get, if_pos (Nat.zero_le _)]
    cases hg : vs[t - 0]? with
    | none => exact .bad _
    | some v =>
      obtain ⟨v', h1, h2⟩ := h.get hg
      have : (as ++ Array.replicate (nt - as.size) undef).getD t undef = v' := by
        have hlt : t < as.size := by
          have := (List.getElem?_eq_some_iff.1 h1).1
          simpa using this
        rw [Array.getD_eq_getD_getElem?, Array.getElem?_append_left hlt]
        rw [Nat.sub_zero, Array.getElem?_toList] at h1
        rw [h1]; rfl
      rw [this]; exact h2

section
variable {P : Program} {B0 : Nat} {F : Nat → Option AFn}

/-- what stands for a function of which it is known that it answers true, wherever -/
def kTrue : AFn := ⟨.ret, [.tmp (.c (.b true))]⟩
/-- it answers true, wherever, and leaves all that was as it was -/
def KnownTrue (P : Program) (f : Nat) : Prop := (∃ fn, P.funcs[f]? = some fn ∧ fn.body.isSome = true ∧ (fn.name == "runtime.NumGoroutine") = false) ∧
  ∀ as w, Calls P f as w fun e w' => e = .returned (.bool true) ∧ Below w.heap.size w w'
/-- each function of the table is compiled from the program's, or known -/
def TblOk (P : Program) (F : Nat → Option AFn) : Prop := ∀ f fn, F f = some fn → (∃ ps g, P.funcs[f]? = some g ∧ compFn P ps g = some fn) ∨ (fn = kTrue ∧ KnownTrue P f)
def RetE (E : Ec) : Prop := ∀ T S r, E .ret T S = some r → r = (.ret, T, S)
theorem exec_ret (F : Nat → Option AFn) : ∀ n, RetE (exec F n)
  | 0 => by intro T S r h; cases h
  | n + 1 => by intro T S r h; cases h; rfl
theorem stp_below {β : Bt} {S : St} {w w' : World} (hR : Rel β B0 S.h w) (hb : Below w.heap.size w w') : Stp B0 β S w β S w' := by
  have hsz := hb.size
  refine ⟨Ext.refl β, fun n h1 h2 => absurd h1 h2, ⟨fun n bl b o z hg hn => (hR.blk n bl b o z hg hn).congr (hb.block b (hR.lt n b _ hn)), hR.inj, fun n b x hn => ?_, ?_⟩, ⟨hb.os, hb.tape, hb.output, hb.size, fun k hk => hb.block k ?_⟩, fun b hlt _ => hb.block b hlt, fun b ho => .inr ho, fun _ _ _ => rfl, Nat.le_refl _⟩
  · have := hR.lt n b x hn; omega
  · have := hR.le; omega
  · have := hR.le; omega

theorem call_ok (hF : TblOk P F) {E : Ec} (hE : ExecOk P B0 E) (hret : RetE E) : CallOk P B0 (callOf F E) := by
  intro f vs S v S' hs
  unfold callOf at hs
  split at hs
  · cases hs
  · rename_i fn hf
    rcases hF f fn hf with ⟨ps, g, hg, hc⟩ | ⟨hk, hkn, hk2⟩
    case inr =>
      subst hk
      have fin : v = .b true ∧ S' = S := by
        split at hs
        · rename_i T' S1 he
          cases hret _ _ _ he
        · rename_i T' S1 he
          cases hret _ _ _ he
          simp only [kTrue, resV, resL, resOne, Opd.ev, Option.map_some, Option.some.injEq, Prod.mk.injEq] at hs
          exact ⟨hs.1.symm, hs.2.symm⟩
        · cases hs
      obtain ⟨rfl, rfl⟩ := fin
      refine ⟨hkn, fun β w as hwf hvs hR hfree => (hk2 as w).mono ?_⟩
      rintro e w' ⟨rfl, hb⟩
      exact ⟨β, .bool true, rfl, .b true, stp_below hR hb⟩
    unfold compFn at hc
    split at hc
    · cases hc
    · rename_i c hb
      rw [cond_eq_ite] at hc
      split at hc
      · rename_i hname
        split at hc
        · rename_i b r hcb hcr
          cases hc
          simp only at hs
          refine ⟨⟨g, hg, by rw [hb]; rfl, by simpa using hname⟩, fun β w as hwf hvs hR hfree => ?_⟩
          have fin : ∀ x T' S1, E b (initT vs) S = some (x, T', S1) → (∀ R : Exit → Act → World → Prop, True) → (exitOf x = .normal ∨ exitOf x = .ret) → (resV T' S1.h r).map (fun v => (v, S1)) = some (v, S') →
              Calls P f as w fun e w' => ∃ γ v', e = .returned v' ∧ VR γ v v' ∧ Stp B0 β S w γ S' w' := by
            intro x T' S1 he _ hx hr
            rw [Option.map_eq_some_iff] at hr
            obtain ⟨u, hu, hq⟩ := hr
            cases hq
            refine calls_of_wp hg hb (hE ps g.ntmps c b hcb _ _ _ _ _ he β w _ _ hwf hR (init_TRel hvs) hfree fun γ a' w' h1 h2 => ?_)
            obtain ⟨v', h3, h4⟩ := results_sound h2.rel h1 hcr hu
            rcases hx with hx | hx <;> rw [hx] <;> exact ⟨h1.df, v', h3, γ, v', rfl, h4, h2⟩
          split at hs
          · rename_i T' S1 he
            exact fin _ _ _ he (fun _ => trivial) (.inl rfl) hs
          · rename_i T' S1 he
            exact fin _ _ _ he (fun _ => trivial) (.inr rfl) hs
          · cases hs
        · cases hc
      · cases hc

theorem exec_ok (hreg : ∀ E, ExecOk P B0 E → GrowsE E → RetE E → RegOk P B0 F E) : ∀ n, ExecOk P B0 (exec F n) ∧ LoopOk P B0 (exec F n) n := by
  intro n
  induction n with
  | zero =>
    refine ⟨?_, ?_⟩
    · intro ps nt c c' hc T S x T' S' h; cases h
    · intro ps nt c c' hc T S x T' S' h; cases h
  | succ n ih =>
    obtain ⟨hE, hL⟩ := ih
    have hG := exec_grows F n
    have hLoop : LoopOk P B0 (exec F (n + 1)) (n + 1) := by
      intro ps nt c c' hc T S x T' S' hs β w a Q hwf hR hT hfree h
      rw [rounds_succ]
      change xLoop (exec F n) c' T S = _ at hs
      unfold xLoop at hs
      split at hs
      · rename_i T1 S1 he
        have hn := (hG _ _ _ _ _ _ hs).nx
        have hwf1 := (hG _ _ _ _ _ _ he).wf hwf
        refine hE ps nt c c' hc _ _ _ _ _ he β w a _ hwf hR hT (hfree.left hn) fun γ a' w' h1 h2 => ?_
        exact hL ps nt c c' hc _ _ _ _ _ hs γ w' a' Q hwf1 h2.rel h1 (hfree.right h2) fun δ a'' w'' h3 h4 => h δ a'' w'' h3 (h2.trans h4)
      · rename_i he
        refine hE ps nt c c' hc _ _ _ _ _ hs β w a _ hwf hR hT hfree fun γ a' w' h1 h2 => ?_
        have := h γ a' w' h1 h2
        cases x with
        | norm => exact absurd hs (he T' S')
        | ex id => exact this
        | ret => exact this
    refine ⟨?_, hLoop⟩
    intro ps nt c c' hc T S x T' S' hs
    have hreg' := hreg (exec F n) hE hG (exec_ret F n)
    change exec1 F (exec F n) c' T S = _ at hs
    intro β w a Q hwf hR hT hfree h
    cases c with
    | skip => cases hc; cases hs; exact wp_skip (h β a w hT (Stp.refl hR))
    | region id ops d => exact hreg' ps nt id ops d c' hc T S x T' S' hs β w a Q hwf hR hT hfree h
    | seq y z =>
      simp only [compCode] at hc
      split at hc
      · rename_i y' z' hy hz
        cases hc
        change xSeq (exec F n) y' z' T S = _ at hs
        unfold xSeq at hs
        refine wp_seq ?_
        split at hs
        · rename_i T1 S1 he
          have hn := (hG _ _ _ _ _ _ hs).nx
          have hwf1 := (hG _ _ _ _ _ _ he).wf hwf
          refine hE ps nt y y' hy _ _ _ _ _ he β w a _ hwf hR hT (hfree.left hn) fun γ a' w' h1 h2 => ?_
          exact hE ps nt z z' hz _ _ _ _ _ hs γ w' a' Q hwf1 h2.rel h1 (hfree.right h2) fun δ a'' w'' h3 h4 => h δ a'' w'' h3 (h2.trans h4)
        · rename_i he
          refine hE ps nt y y' hy _ _ _ _ _ hs β w a _ hwf hR hT hfree fun γ a' w' h1 h2 => ?_
          have := h γ a' w' h1 h2
          cases x with
          | norm => exact absurd hs (he T' S')
          | ex id => exact this
          | ret => exact this
      · cases hc
    | cond b y z =>
      simp only [compCode] at hc
      split at hc
      · rename_i b' y' z' hb hy hz
        cases hc
        change xCond (exec F n) b' y' z' T S = _ at hs
        unfold xCond at hs
        have hbv := opd_ev hT hb
        split at hs
        · rename_i he
          rw [he] at hbv
          have hbv' : a.eval b = .bool true := by generalize a.eval b = q at hbv; cases hbv; rfl
          exact wp_cond_true hbv' (hE ps nt y y' hy _ _ _ _ _ hs β w a Q hwf hR hT hfree h)
        · rename_i he
          rw [he] at hbv
          have hbv' : a.eval b = .bool false := by generalize a.eval b = q at hbv; cases hbv; rfl
          exact wp_cond_false hbv' (hE ps nt z z' hz _ _ _ _ _ hs β w a Q hwf hR hT hfree h)
        · cases hs
      · cases hc
    | block id y =>
      simp only [compCode, Option.map_eq_some_iff] at hc
      obtain ⟨y', hy, rfl⟩ := hc
      change xBlock (exec F n) id y' T S = _ at hs
      unfold xBlock at hs
      refine wp_block ?_
      split at hs
      · rename_i j T1 S1 he
        rw [beq_nat] at hs
        by_cases hj : j = id
        · simp only [hj, decide_true, cond_true] at hs
          cases hs
          refine hE ps nt y y' hy _ _ _ _ _ he β w a _ hwf hR hT hfree fun γ a' w' h1 h2 => ?_
          have := h γ a' w' h1 h2
          simp only [exitOf, Exit.inBlock, hj, if_true]
          exact this
        · simp only [hj, decide_false, cond_false] at hs
          cases hs
          refine hE ps nt y y' hy _ _ _ _ _ he β w a _ hwf hR hT hfree fun γ a' w' h1 h2 => ?_
          have := h γ a' w' h1 h2
          simp only [exitOf, Exit.inBlock, hj, if_false]
          exact this
      · rename_i he
        refine hE ps nt y y' hy _ _ _ _ _ hs β w a _ hwf hR hT hfree fun γ a' w' h1 h2 => ?_
        have := h γ a' w' h1 h2
        cases x with
        | norm => exact this
        | ex j => exact absurd hs (he j T' S')
        | ret => exact this
    | loop y =>
      simp only [compCode, Option.map_eq_some_iff] at hc
      obtain ⟨y', hy, rfl⟩ := hc
      exact wp_loop_rounds (n + 1) (hLoop ps nt y y' hy T S x T' S' hs β w a Q hwf hR hT hfree h)
    | exit id => cases hc; cases hs; exact wp_exit (h β a w hT (Stp.refl hR))
    | ret => cases hc; cases hs; exact wp_ret (h β a w hT (Stp.refl hR))
    | _ => cases hc
/-- A body that ends with true, whatever the temporaries held. -/
theorem known_true (hm : ∀ B0 E, ExecOk P B0 E → GrowsE E → RetE E → RegOk P B0 F E) {ps f : Nat} {g : Func} {fn : AFn} (hg : P.funcs[f]? = some g) (hc : compFn P ps g = some fn) {n : Nat} {x : Ex} {T' : Tm} {S' : St}
    (he : exec F n fn.body ⟨[], []⟩ ⟨.nil, 0⟩ = some (x, T', S')) (hx : (match x with | .ex _ => false | _ => true) = true) (hv : resV T' S'.h fn.res = some (.b true)) : KnownTrue P f := by
  unfold compFn at hc
  split at hc
  · cases hc
  · rename_i c hb
    rw [cond_eq_ite] at hc
    split at hc
    · rename_i hname
      split at hc
      · rename_i b r hcb hcr
        cases hc
        simp only at he hv
        refine ⟨⟨g, hg, by rw [hb]; rfl, by simpa using hname⟩, fun as w => ?_⟩
        have hR : Rel (fun _ => none) w.heap.size (PM.nil : PM AB) w := by
          refine ⟨?_, ?_, ?_, Nat.le_refl _⟩
          · intro n bl b o z h; cases h
          · intro n m bl bm b x y h; cases h
          · intro n b x h; cases h
        refine calls_of_wp hg hb ((exec_ok (hm w.heap.size) n).1 ps g.ntmps c b hcb _ _ _ _ _ he (fun _ => none) w _ _ (fun m bl h => by cases h) hR ⟨by simp; omega, fun t ht => ?_, rfl⟩ (fun _ _ _ => rfl) fun γ a' w' h1 h2 => ?_)
        · have : Tm.at ps ⟨[], []⟩ t = .bad := by unfold Tm.at opT; cases per ps t <;> rfl
          rw [this]; exact .bad _
        · obtain ⟨v', h3, h4⟩ := results_sound h2.rel h1 hcr hv
          cases h4
          cases x with
          | norm => exact ⟨h1.df, _, h3, rfl, h2.bel⟩
          | ret => exact ⟨h1.df, _, h3, rfl, h2.bel⟩
          | ex j => cases hx
      · cases hc
    · cases hc
end
end Go.AM
