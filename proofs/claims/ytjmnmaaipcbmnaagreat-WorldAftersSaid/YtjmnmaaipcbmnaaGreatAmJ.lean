/- All operations that leave memory as it is. -/
import Derived.Test.YtjmnmaaipcbmnaaGreatAmI
set_option linter.unusedVariables false
set_option linter.unusedSimpArgs false
namespace Go.AM

/-- The operation carried out gives v', and the world is as it was. -/
def RunsTo (P : Program) (ρ : Operand → Value) (o : Oper) (w : World) (β : Bt) (v : AV) : Prop := ∃ v', (execOp ρ o).run P w = .ok (.value v') w ∧ VR β v v'

section
variable {P : Program} {β : Bt} {B0 : Nat} {h : PM AB} {w : World} (ρ : Operand → Value)
theorem runs_v {o : Oper} {s : Sem Value} {v : AV} (he : execOp ρ o = (do pure (.value (← s)))) (hs : ∃ v', s.run P w = .ok v' w ∧ VR β v v') : RunsTo P ρ o w β v := by
  obtain ⟨v', h1, h2⟩ := hs
  exact ⟨v', by rw [he]; simp [h1], h2⟩

theorem semR_none {op : AOp} {vs : List AV} {v : AV} (h0 : semR op = rNone) (hs : semR op h vs = some v) : False := by
  rw [h0] at hs
  simp [rNone] at hs

theorem builtin_sound (hR : Rel β B0 h w) {o : Oper} {c : Call} {b : Builtin} (ho : o.op = .call c) (hb : c.callee = .builtin b) {op : AOp} {xs : List Operand} (hc : compBuiltin P b c.argTypes c.args = some (op, xs))
    {vs : List AV} (hv : VRs β vs (xs.map ρ)) {v : AV} (hs : semR op h vs = some v) : RunsTo P ρ o w β v := by
  obtain ⟨callee, args, argTypes⟩ := c
  simp only at hb hc
  subst hb
  have hx : ∀ (s : Sem Value), (∀ consts, builtin b argTypes o.type consts (args.map ρ) = (do pure (.value (← s)))) → execOp ρ o = (do pure (.value (← s))) := by
    intro s h1
    simp only [execOp, ho, resolve, pure_bind, invoke]
    exact h1 _
  have hts : ∀ l, argTypes.toList = l → argTypes = l.toArray := fun l hl => by rw [← hl]
  have hargs : xs = args.toList → VRs β vs (args.map ρ).toList := fun e => by subst e; simpa using hv
  have hone : ∀ {a : AV}, xs = args.toList → vs = [a] → ∃ x, args.map ρ = #[x] ∧ VRs β vs [x] := by
    intro a e e2
    have h1 := hargs e
    have h2 := h1.length
    rw [e2] at h2
    obtain ⟨x, hx⟩ : ∃ x, (args.map ρ).toList = [x] := by
      cases hl : (args.map ρ).toList with
      | nil => rw [hl] at h2; simp at h2
      | cons x r => cases r with
        | nil => exact ⟨x, rfl⟩
        | cons y r => rw [hl] at h2; simp at h2
    refine ⟨x, ?_, by rw [← hx]; exact h1⟩
    apply Array.ext'
    exact hx
  have sing : ∀ (f : PM AB → List AV → Option AV), (∀ vs v, f h vs = some v → ∃ a, vs = [a]) → semR op = f → xs = args.toList → ∃ x, args.map ρ = #[x] ∧ VRs β vs [x] := by
    intro f hf he hxs
    rw [he] at hs
    obtain ⟨a, ha⟩ := hf _ _ hs
    exact hone hxs ha
  unfold compBuiltin at hc
  split at hc
  · -- len
    rename_i t htl
    have ht := hts _ htl
    subst ht
    split at hc
    · rename_i hu
      cases hc
      obtain ⟨x, h1, h2⟩ := sing rLenS (fun vs v h => by unfold rLenS at h; split at h <;> first | exact ⟨_, rfl⟩ | cases h) rfl rfl
      exact runs_v ρ (hx _ fun _ => by rw [h1]; rfl) (g_lenS (h := h) hu h2 hs)
    · rename_i e hu
      cases hc
      obtain ⟨x, h1, h2⟩ := sing rLenSl (fun vs v h => by unfold rLenSl at h; split at h <;> first | exact ⟨_, rfl⟩ | cases h) rfl rfl
      exact runs_v ρ (hx _ fun _ => by rw [h1]; rfl) (g_lenSl (h := h) hu h2 hs)
    · rename_i e f hu
      cases hc
      obtain ⟨x, h1, h2⟩ := sing rMlen (fun vs v h => by unfold rMlen at h; split at h <;> first | exact ⟨_, rfl⟩ | cases h) rfl rfl
      exact runs_v ρ (hx _ fun _ => by rw [h1]; rfl) (g_mlen hR hu h2 hs)
    · rename_i n e hu
      cases hc
      obtain ⟨x, h1, h2⟩ := sing (rLenC n) (fun vs v h => by unfold rLenC at h; split at h <;> first | exact ⟨_, rfl⟩ | cases h) rfl rfl
      exact runs_v ρ (hx _ fun _ => by rw [h1]; rfl) (g_lenC (h := h) hu h2 hs)
    · cases hc
  · rename_i t htl
    have ht := hts _ htl
    subst ht
    split at hc
    · rename_i e hu
      cases hc
      obtain ⟨x, h1, h2⟩ := sing rCapSl (fun vs v h => by unfold rCapSl at h; split at h <;> first | exact ⟨_, rfl⟩ | cases h) rfl rfl
      exact runs_v ρ (hx _ fun _ => by rw [h1]; rfl) (g_capSl (h := h) hu h2 hs)
    · cases hc
  · cases hc
    exact runs_v ρ (hx _ fun _ => rfl) (g_min (h := h) (hargs rfl) hs)
  · cases hc
    exact runs_v ρ (hx _ fun _ => rfl) (g_max (h := h) (hargs rfl) hs)
  · split at hc
    · split at hc
      · rename_i s by' _ _ _ _
        cases hq : (Nat.beq s 0 || Nat.beq by' 0) <;> rw [hq] at hc <;> cases hc
        exact (semR_none rfl hs).elim
      · cases hc
    · cases hc
  · split at hc
    · split at hc
      · cases hc; exact (semR_none rfl hs).elim
      · cases hc
    · cases hc
  · split at hc
    · split at hc
      · cases hc; exact (semR_none rfl hs).elim
      · cases hc
    · cases hc
  · split at hc
    · rename_i k e _
      cases hq : isIntT P k <;> rw [hq] at hc <;> cases hc
      exact (semR_none rfl hs).elim
    · cases hc
  · cases hc

theorem toList3 (x : Operand) (lo hi mx : Option Operand) : ([x] ++ lo.toList ++ hi.toList ++ mx.toList).map ρ = ρ x :: ((lo.toList.map ρ) ++ ((hi.toList.map ρ) ++ ((mx.toList.map ρ) ++ []))) := by
  simp
theorem toList2 (x : Operand) (lo hi : Option Operand) : ([x] ++ lo.toList ++ hi.toList).map ρ = ρ x :: ((lo.toList.map ρ) ++ ((hi.toList.map ρ) ++ [])) := by
  simp
theorem compEq_eq {ng : Bool} {t : TypeId} {op : AOp} (h : compEq P ng t = some op) : ∃ k, op = .eq ng k := by
  unfold compEq at h
  split at h <;> first | (cases h; exact ⟨_, rfl⟩) | (cases h; done) | skip
  · split at h
    · rename_i s _
      cases hq : Nat.beq s 0 <;> rw [hq] at h <;> cases h
      exact ⟨_, rfl⟩
    · cases h
  · rename_i fs _
    cases hq : P.stoodInHeld t <;> rw [hq] at h
    · cases hf : scalFields P fs.toList with
      | none => rw [hf] at h; cases h
      | some l => rw [hf] at h; cases h; exact ⟨_, rfl⟩
    · cases h

theorem R_sound (hR : Rel β B0 h w) {o : Oper} {op : AOp} {xs : List Operand} (hc : compOp P o = some (op, xs)) {vs : List AV} (hv : VRs β vs (xs.map ρ)) {v : AV} (hs : semR op h vs = some v) : RunsTo P ρ o w β v := by
  unfold compOp at hc
  split at hc
  · rename_i x ho
    cases hc
    obtain ⟨p, rfl, hp⟩ := vrs1 hv
    cases hs
    exact ⟨ρ x, by simp [execOp, ho], hp⟩
  · rename_i x ho
    cases hc
    obtain ⟨p, rfl, hp⟩ := vrs1 hv
    cases hs
    exact ⟨ρ x, by simp [execOp, ho], hp⟩
  · rename_i c a b ho
    cases hc
    obtain ⟨v', h1, h2⟩ := g_pick (P := P) (w := w) (h := h) hv hs
    exact ⟨v', by simp only [execOp, ho]; exact h1, h2⟩
  · rename_i e ho
    cases hz : zcells P e with
    | none => rw [hz] at hc; cases hc
    | some z => rw [hz] at hc; cases hc; exact (semR_none rfl hs).elim
  · cases hc; exact (semR_none rfl hs).elim
  · rename_i t parts ho
    split at hc
    · rename_i z ps hz hp
      cases hc
      exact runs_v ρ (by simp only [execOp, ho]) (g_build ρ (h := h) hz hp (by rw [List.map_map] at hv; exact hv) hs)
    · cases hc
  · rename_i t len parts ho
    split at hc
    · split at hc
      · rename_i s z _ _
        cases hq : Nat.ble (len * s) 16777216 <;> rw [hq] at hc <;> cases hc
        exact (semR_none rfl hs).elim
      · cases hc
    · cases hc
  · rename_i t a ho
    cases hsh : tshape P t with
    | none => rw [hsh] at hc; cases hc
    | some sh =>
      rw [hsh] at hc
      cases hc
      exact runs_v ρ (by simp only [execOp, ho]) (g_ld (h := h) hR hsh hv hs)
  · rename_i t a x ho
    cases hsz : tsize P t with
    | none => rw [hsz] at hc; cases hc
    | some sz => rw [hsz] at hc; cases hc; exact (semR_none rfl hs).elim
  · rename_i x ho
    cases hc
    exact g_nil ρ (h := h) o ho rfl hv hs
  · rename_i bo t x y yt ho
    split at hc
    · cases hc
      exact runs_v ρ (by simp only [execOp, ho]) (g_bin (h := h) t x y hv hs)
    · cases hc
      exact runs_v ρ (by simp only [execOp, ho]) (g_sbin (h := h) t x y hv hs)
    · cases hq : isEq bo <;> rw [hq] at hc
      · cases hc
      · cases hce : compEq P (isNeq bo) t with
        | none => rw [hce] at hc; cases hc
        | some a =>
          rw [hce] at hc
          cases hc
          obtain ⟨k, rfl⟩ := compEq_eq hce
          exact runs_v ρ (by simp only [execOp, ho]) (g_eq (h := h) hR hq x y hce hv hs)
  · rename_i uo t x ho
    cases hc
    exact runs_v ρ (by simp only [execOp, ho]) (g_un (h := h) hv hs)
  · rename_i a b x ho
    split at hc
    · rename_i k1 k2 h1 h2
      cases hc
      exact runs_v ρ (by simp only [execOp, ho]) (g_cvtI (h := h) h1 h2 hv hs)
    · rename_i h1 h2
      cases hc
      exact runs_v ρ (by simp only [execOp, ho]) (g_cvtS (h := h) h1 h2 hv hs)
    · rename_i e h1 h2
      split at hc
      · rename_i he
        cases hc
        exact runs_v ρ (by simp only [execOp, ho]) (g_cvtB (h := h) hR h1 he h2 hv hs)
      · cases hc
    · cases hc
  · rename_i t x ho
    split at hc
    · cases hc
    · rename_i d hd hu
      cases hc
      exact runs_v ρ (by simp only [execOp, ho]) (g_mkif (h := h) hu (fun ms e => hd ms (by rw [e])) hv hs)
    · cases hc
  · rename_i f fst cap ho
    cases hc
    exact runs_v ρ (by simp only [execOp, ho]) (g_mkfn ρ (h := h) hv hs)
  · cases hc; exact (semR_none rfl hs).elim
  · split at hc
    · split at hc
      · rename_i n _ _
        cases hq : Nat.beq n 0 <;> rw [hq] at hc <;> cases hc
        exact (semR_none rfl hs).elim
      · cases hc
    · cases hc
  · rename_i t x lo hi mx ho
    split at hc
    · rename_i e hu
      cases hq : (mx.isSome && hi.isNone) <;> rw [hq] at hc
      · cases hsz : tsize P e with
        | none => rw [hsz] at hc; cases hc
        | some s =>
          rw [hsz] at hc
          cases hc
          refine runs_v ρ (by simp only [execOp, ho]) (g_slc ρ (h := h) (x := x) hu hsz (fun hm => ?_) (by rw [toList3] at hv; exact hv) hs)
          cases hi with
          | none => simp [hm] at hq
          | some y => rfl
      · cases hc
    · rename_i hu
      cases hq : mx.isNone <;> rw [hq] at hc
      · cases hc
      · cases hc
        have : mx = none := by cases mx <;> simp at hq ⊢
        subst this
        exact runs_v ρ (by simp only [execOp, ho]; rfl) (g_slcS ρ (h := h) hu (by rw [toList2] at hv; exact hv) hs)
    · cases hc
  · rename_i t x f ho
    split at hc
    · rename_i fs hu
      split at hc
      · rename_i g hf
        split at hc
        · rename_i s hsz
          rw [beq_nat] at hc
          by_cases h0 : s = 0
          · simp [h0] at hc
          · simp only [h0, decide_false, cond_false] at hc
            cases hc
            exact runs_v ρ (by simp only [execOp, ho]) (g_fad (h := h) hu hf hsz h0 hv hs)
        · cases hc
      · cases hc
    · cases hc
  · rename_i t x f ho
    split at hc
    · rename_i fs hu
      split at hc
      · rename_i g hf
        cases hsh : tshape P g.type with
        | none => rw [hsh] at hc; cases hc
        | some sh =>
          rw [hsh] at hc
          cases hc
          exact runs_v ρ (by simp only [execOp, ho]) (g_fld (h := h) hu hf hsh hv hs)
      · cases hc
    · cases hc
  · rename_i t x i ho
    split at hc
    · rename_i e hu
      cases hsz : tsize P e with
      | none => rw [hsz] at hc; cases hc
      | some s =>
        rw [hsz] at hc
        cases hc
        exact runs_v ρ (by simp only [execOp, ho]) (g_iad (h := h) hu hsz hv hs)
    · rename_i n e hu
      cases hsz : tsize P e with
      | none => rw [hsz] at hc; cases hc
      | some s =>
        rw [hsz] at hc
        cases hc
        exact runs_v ρ (by simp only [execOp, ho]) (g_iadA (h := h) hu hsz hv hs)
    · cases hc
  · rename_i t x i ho
    split at hc
    · rename_i n e hu
      split at hc
      · rename_i sh s hsh hsz
        cases hc
        exact runs_v ρ (by simp only [execOp, ho]) (g_ixA (h := h) hu hsh hsz hv hs)
      · cases hc
    · rename_i hu
      cases hc
      exact runs_v ρ (by simp only [execOp, ho]) (g_ixS (h := h) hu hv hs)
    · cases hc
  · rename_i t x i ok ho
    split at hc
    · rename_i k e hu
      cases hq : isIntT P k <;> rw [hq] at hc
      · cases hc
      · cases hz : zval P e with
        | none => rw [hz] at hc; cases hc
        | some z =>
          rw [hz] at hc
          cases hc
          exact runs_v ρ (by simp only [execOp, ho]) (g_lkup (h := h) hR hu hq hz hv hs)
    · cases hc
  · split at hc
    · rename_i kt e hu
      cases hq : isIntT P kt <;> rw [hq] at hc <;> cases hc
      exact (semR_none rfl hs).elim
    · cases hc
  · rename_i t k ho
    cases hc
    exact runs_v ρ (by simp only [execOp, ho]) (g_ext (h := h) hv hs)
  · rename_i c ho
    split at hc
    · rename_i b hb
      exact builtin_sound ρ hR ho hb hc hv hs
    · cases hc; exact (semR_none rfl hs).elim
    · rename_i x _ _
      cases hq : isTmp x <;> rw [hq] at hc <;> cases hc
      exact (semR_none rfl hs).elim
    · cases hc
  · cases hc
end
end Go.AM
