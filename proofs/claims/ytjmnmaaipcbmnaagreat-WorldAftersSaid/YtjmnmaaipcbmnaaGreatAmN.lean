/- Operands, temporaries; one step; a region in its written order. -/
import Derived.Test.YtjmnmaaipcbmnaaGreatAmM
set_option linter.unusedVariables false
set_option linter.unusedSimpArgs false
namespace Go.AM
open Go.RowKit (Below)

/-! ### how memory changes: names are used up in order; cells that are only read stay -/
structure Gr (S S' : St) : Prop where
  nx : S.nx ≤ S'.nx
  wf : S.wf → S'.wf
  ro : ∀ n bl, S'.h.get n = some bl → bl.own = false → S.h.get n = some bl
theorem Gr.refl (S : St) : Gr S S := ⟨Nat.le_refl _, id, fun _ _ h _ => h⟩
theorem Gr.trans {S S1 S2 : St} (h : Gr S S1) (k : Gr S1 S2) : Gr S S2 := ⟨Nat.le_trans h.nx k.nx, fun w => k.wf (h.wf w), fun n bl hb ho => h.ro n bl (k.ro n bl hb ho) ho⟩
theorem Gr.old {S : St} {n : Nat} {bl0 : AB} (hg : S.h.get n = some bl0) {bl : AB} (ho : bl.own = true) : Gr S { S with h := S.h.set n (some bl) } := by
  refine ⟨Nat.le_refl _, fun w m bm hm => ?_, fun m bm hm hr => ?_⟩ <;> simp only [PM.get_set] at hm <;> split at hm
  · rename_i e; subst e; exact w _ _ hg
  · exact w _ _ hm
  · cases hm; rw [ho] at hr; cases hr
  · exact hm
theorem Gr.gone (S : St) (n : Nat) : Gr S { S with h := S.h.set n none } := by
  refine ⟨Nat.le_refl _, fun w m bm hm => ?_, fun m bm hm hr => ?_⟩ <;> simp only [PM.get_set] at hm <;> split at hm
  · cases hm
  · exact w _ _ hm
  · cases hm
  · exact hm
theorem Gr.new (S : St) {bl : AB} (ho : bl.own = true) : Gr S { h := S.h.set S.nx (some bl), nx := S.nx + 1 } := by
  refine ⟨Nat.le_succ _, fun w m bm hm => ?_, fun m bm hm hr => ?_⟩ <;> simp only [PM.get_set] at hm <;> split at hm
  · rename_i e; subst e; exact Nat.lt_succ_self _
  · exact Nat.lt_succ_of_lt (w _ _ hm)
  · cases hm; rw [ho] at hr; cases hr
  · exact hm
theorem wrCells_gr {S : St} {a : Nat × Nat} {vs : List AV} {h : PM AB} (hw : wrCells S.h a vs = some h) : Gr S { S with h := h } := by
  unfold wrCells at hw
  split at hw
  · rename_i c hg
    rw [cond_eq_ite] at hw
    split at hw
    · cases hw; exact Gr.old hg rfl
    · cases hw
  · cases hw
theorem gone_gr {S : St} {a : Option (Nat × Nat)} {ex size : Nat} {h : PM AB} (hg : gone S.h a ex size = some h) : Gr S { S with h := h } := by
  unfold gone at hg
  rw [cond_eq_ite] at hg
  split at hg
  · cases hg; exact Gr.refl S
  · rw [cond_eq_ite] at hg
    split at hg
    · split at hg
      · rw [cond_eq_ite] at hg
        split at hg
        · cases hg; exact Gr.gone S _
        · cases hg
      · cases hg
    · cases hg
theorem appV_gr {size bytes : Nat} {S : St} {a : Option (Nat × Nat)} {len cap ex n : Nat} {new : List AV} {v : AV} {S' : St} (h : appV size bytes S a len cap ex n new = some (v, S')) : Gr S S' := by
  unfold appV at h
  rw [cond_eq_ite] at h
  split at h
  · split at h
    · cases h; exact Gr.refl S
    · rw [cond_eq_ite] at h
      split at h
      · cases h; exact Gr.refl S
      · split at h
        · rename_i hw; cases h; exact wrCells_gr hw
        · cases h
  · rw [cond_eq_ite] at h
    split at h
    · split at h
      · rename_i old h1 _ hg
        cases h
        exact (gone_gr hg).trans (Gr.new { S with h := h1 } rfl)
      · cases h
    · cases h
/-- calls, too -/
def Grows (call : Cll) : Prop := ∀ f vs S v S', call f vs S = some (v, S') → Gr S S'
theorem semE_gr {o : AOp} {call : Cll} (hcall : Grows call) {S : St} {vs : List AV} {v : AV} {S' : St} (h : semE o call S vs = some (v, S')) : Gr S S' := by
  cases o <;> simp only [semE] at h <;> try (cases h; done)
  case st sz =>
    unfold eSt at h
    split at h
    · split at h
      · rw [cond_eq_ite] at h
        split at h
        · split at h
          · rename_i hw; cases h; exact wrCells_gr hw
          · cases h
        · cases h
      · cases h
    · cases h
  case mset =>
    unfold eMset at h
    split at h
    · split at h
      · rename_i hg
        split at h
        · cases h; exact Gr.old hg rfl
        · cases h
      · cases h
    · cases h
  case mdel =>
    unfold eMdel at h
    split at h
    · cases h; exact Gr.refl S
    · split at h
      · rename_i hg
        split at h
        · cases h; exact Gr.old hg rfl
        · cases h
      · cases h
    · cases h
  case app size bytes =>
    unfold eApp at h
    split at h
    · split at h
      · rw [cond_eq_ite] at h
        split at h
        · exact appV_gr h
        · cases h
      · cases h
    · cases h
  case clr z =>
    unfold eClr at h
    split at h
    · rw [cond_eq_ite] at h
      split at h
      · cases h; exact Gr.refl S
      · split at h
        · split at h
          · rename_i hw; cases h; exact wrCells_gr hw
          · cases h
        · cases h
    · cases h
  case cpy size =>
    unfold eCpy at h
    split at h
    · split at h
      · rw [cond_eq_ite] at h
        split at h
        · cases h; exact Gr.refl S
        · split at h
          · split at h
            · rename_i hw; cases h; exact wrCells_gr hw
            · cases h
          · cases h
      · cases h
    · cases h
  case call f => exact hcall _ _ _ _ _ h
  case callv =>
    obtain ⟨f, fst, cap, us, rfl, h⟩ := eCallv_some h
    exact hcall _ _ _ _ _ h
theorem semA_own {o : AOp} {nx : Nat} {vs : List AV} {blk : AB} {v : AV} (h : semA o nx vs = some (blk, v)) : blk.own = true := by
  cases o <;> simp only [semA] at h <;> try (cases h; done)
  · unfold aAlloc at h; split at h <;> cases h; rfl
  · unfold aBox at h
    split at h
    · split at h <;> cases h; rfl
    · cases h
  · unfold aBslice at h
    split at h
    · rw [cond_eq_ite] at h
      split at h <;> cases h; rfl
    · cases h
  · unfold aMksl at h
    split at h
    · rw [cond_eq_ite] at h
      split at h <;> cases h; rfl
    · cases h
  · cases h; rfl
theorem semOp_gr {o : AOp} {call : Cll} (hcall : Grows call) {S : St} {vs : List AV} {v : AV} {S' : St} (h : semOp o call S vs = some (v, S')) : Gr S S' := by
  cases hcl : o.cl <;> simp only [semOp, hcl] at h
  · unfold opR at h
    split at h <;> cases h
    exact Gr.refl S
  · unfold opA at h
    split at h
    · rename_i blk u he
      cases h
      exact Gr.new S (semA_own he)
    · cases h
  · exact semE_gr hcall h
theorem step1_gr {call : Cll} (hcall : Grows call) {o : Op1} {T T' : Tm} {S S' : St} (h : step1 call o T S = some (T', S')) : Gr S S' := by
  unfold step1 at h
  split at h
  · split at h
    · rename_i v S1 he
      cases h
      exact semOp_gr hcall he
    · cases h
  · cases h; exact Gr.refl S
  · cases h
theorem runOps_gr {call : Cll} (hcall : Grows call) : ∀ {l : List Op1} {T T' : Tm} {S S' : St}, runOps call l T S = some (T', S') → Gr S S'
  | [], T, T', S, S', h => by cases h; exact Gr.refl S
  | o :: r, T, T', S, S', h => by
    rw [runOps_cons] at h
    split at h
    · rename_i T1 S1 he
      exact (step1_gr hcall he).trans (runOps_gr hcall h)
    · cases h

/-! ### temporaries -/
/-- what the abstract machine says of a temporary -/
noncomputable def Tm.at (ps : Nat) (T : Tm) (t : Nat) : AV := (opT ps t).ev T
def dstT (ps : Nat) : Option Tmp → Dst
  | none => .no
  | some d => bif per ps d then .l d else .t d
structure TRel (β : Bt) (ps nt : Nat) (T : Tm) (a : Act) : Prop where
  sz : nt ≤ a.tmps.size
  tm : ∀ t, t < nt → VR β (T.at ps t) (a.tmps.getD t undef)
  df : a.defers = []
theorem TRel.mono {β γ : Bt} {ps nt : Nat} {T : Tm} {a : Act} (h : TRel β ps nt T a) (e : Ext β γ) : TRel γ ps nt T a := ⟨h.sz, fun t ht => (h.tm t ht).mono e, h.df⟩
theorem aget_aput (n : Nat) (v : AV) : ∀ (l : List (Nat × AV)) (m : Nat), aget (aput n v l) m = if m = n then v else aget l m
  | [], m => by
    simp only [aput_nil, aget_cons, aget_nil, beq_nat]
    by_cases h : m = n
    · subst h; simp
    · rw [if_neg h, show decide (n = m) = false from decide_eq_false (fun e => h e.symm)]; rfl
  | (k, u) :: r, m => by
    simp only [aput_cons, beq_nat]
    by_cases hk : k = n
    · subst hk
      simp only [decide_true, cond_true, aget_cons, beq_nat]
      by_cases h : m = k
      · subst h; simp
      · rw [if_neg h, show decide (k = m) = false from decide_eq_false (fun e => h e.symm)]; rfl
    · simp only [hk, decide_false, cond_false, aget_cons, beq_nat]
      by_cases h : m = n
      · subst h
        rw [if_pos rfl, show decide (k = m) = false from decide_eq_false hk, aget_aput, if_pos rfl]; rfl
      · rw [if_neg h, aget_aput, if_neg h]
theorem Tm.at_put (ps : Nat) (T : Tm) (v : AV) (d t : Nat) : (T.put v (dstT ps (some d))).at ps t = if t = d then v else T.at ps t := by
  cases hd : per ps d <;> cases ht : per ps t <;> simp only [Tm.at, opT, dstT, hd, ht, cond_true, cond_false, Tm.put, Opd.ev]
  · simp only [aget_cons, beq_nat]
    by_cases h : t = d
    · subst h; simp
    · rw [if_neg h, show decide (d = t) = false from decide_eq_false (fun e => h e.symm)]; rfl
  · rw [if_neg (fun e => by subst e; rw [hd] at ht; cases ht)]
  · rw [if_neg (fun e => by subst e; rw [hd] at ht; cases ht)]
  · exact aget_aput d v T.l t
theorem TRel.put {β : Bt} {ps nt : Nat} {T : Tm} {a : Act} (h : TRel β ps nt T a) {v : AV} {v' : Value} (hv : VR β v v') (d : Option Tmp) (hd : ∀ x, d = some x → x < nt) : TRel β ps nt (T.put v (dstT ps d)) (a.put d v') := by
  cases d with
  | none => exact h
  | some d =>
    have hd := hd d rfl
    refine ⟨by simpa [Act.put] using h.sz, fun t ht => ?_, h.df⟩
    rw [Tm.at_put]
    simp only [Act.put]
    by_cases e : t = d
    · subst e
      rw [if_pos rfl]
      have hs := h.sz
      have : (a.tmps.setIfInBounds t v').getD t undef = v' := by
        rw [Array.getD_eq_getD_getElem?, Array.getElem?_setIfInBounds_self_of_lt (by omega)]; rfl
      rw [this]; exact hv
    · rw [if_neg e]
      have : (a.tmps.setIfInBounds d v').getD t undef = a.tmps.getD t undef := by
        rw [Array.getD_eq_getD_getElem?, Array.getD_eq_getD_getElem?, Array.getElem?_setIfInBounds_ne (fun h => e h.symm)]
      rw [this]; exact h.tm t ht
theorem TRel.clear {β : Bt} {ps nt : Nat} {T : Tm} {a : Act} (h : TRel β ps nt T a) : TRel β ps nt { T with r := [] } a := by
  refine ⟨h.sz, fun t ht => ?_, h.df⟩
  have := h.tm t ht
  revert this
  unfold Tm.at opT
  cases per ps t
  · intro _; exact .bad _
  · exact id

theorem opd_ev {β : Bt} {ps nt : Nat} {T : Tm} {a : Act} (h : TRel β ps nt T a) {x : Operand} {y : Opd} (hc : compOpd ps nt x = some y) : VR β (y.ev T) (a.eval x) := by
  cases x with
  | tmp t =>
    simp only [compOpd, blt_nat] at hc
    by_cases ht : t < nt
    · simp only [ht, decide_true, cond_true, Option.some.injEq] at hc
      subst hc
      exact h.tm t ht
    · simp [ht] at hc
  | const v =>
    simp only [compOpd, Option.map_eq_some_iff] at hc
    obtain ⟨u, hu, rfl⟩ := hc
    exact toAV_VR hu
  | global g => cases hc
  | func f => cases hc; exact .fn f .nil .nil
theorem opds_ev {β : Bt} {ps nt : Nat} {T : Tm} {a : Act} (h : TRel β ps nt T a) : ∀ {xs : List Operand} {ys : List Opd}, mapO (compOpd ps nt) xs = some ys → VRs β (evs T ys) (xs.map a.eval)
  | [], ys, hc => by simp [mapO] at hc; subst hc; exact .nil
  | x :: xs, ys, hc => by
    unfold mapO at hc
    split at hc
    · rename_i y hy
      rw [Option.map_eq_some_iff] at hc
      obtain ⟨zs, hz, rfl⟩ := hc
      exact .cons (opd_ev h hy) (opds_ev h hz)
    · cases hc

theorem comp1_spec {P : Program} {ps nt : Nat} {ops : Array Oper} {o : Oper} {o1 : Op1} (h : comp1 P ps ops nt o = some o1) :
    ∃ xs, compOp P o = some (o1.op, xs) ∧ compGuard ps ops nt o.guard = some o1.gd ∧ mapO (compOpd ps nt) xs = some o1.args ∧ o1.dst = dstT ps o.dst ∧ ∀ d, o.dst = some d → d < nt := by
  unfold comp1 at h
  split at h
  · rename_i op xs gd h1 h2
    split at h
    · rename_i args h3
      split at h
      · rename_i hd
        cases h
        exact ⟨xs, h1, h2, h3, by rw [hd]; rfl, fun d hh => by rw [hd] at hh; cases hh⟩
      · rename_i d hd
        rw [blt_nat] at h
        by_cases hlt : d < nt
        · simp only [hlt, decide_true, cond_true] at h
          cases h
          exact ⟨xs, h1, h2, h3, by rw [hd]; rfl, fun d' hh => by rw [hd] at hh; cases hh; exact hlt⟩
        · simp [hlt] at h
    · cases h
  · cases h

theorem wants_spec {β : Bt} {ps nt : Nat} {T : Tm} {a : Act} (h : TRel β ps nt T a) {ops : Array Oper} {o : Oper} {gd : Option (Opd × Bool)} (hc : compGuard ps ops nt o.guard = some gd) {r : Bool} (hw : wants T gd = some r) :
    Region.wanted o (yielded ops a.tmps) = r := by
  unfold compGuard at hc
  split at hc
  · rename_i hg
    cases hc
    cases hw
    simp [Region.wanted, hg]
  · rename_i j w hg
    split at hc
    · rename_i t ht
      rw [blt_nat] at hc
      by_cases hlt : t < nt
      · simp only [hlt, decide_true, cond_true, Option.some.injEq] at hc
        subst hc
        have h1 := h.tm t hlt
        simp only [wants] at hw
        have hsz : t < a.tmps.size := Nat.lt_of_lt_of_le hlt h.sz
        have hget : a.tmps[t]? = some (a.tmps.getD t undef) := by
          rw [Array.getD_eq_getD_getElem?, Array.getElem?_eq_getElem hsz]; rfl
        have hy : yielded ops a.tmps j = match a.tmps.getD t undef with | .bool b => some b | _ => none := by
          simp only [yielded, ht, Option.bind_some, hget]
          cases a.tmps.getD t undef <;> rfl
        have h1' : VR β ((opT ps t).ev T) (a.tmps.getD t undef) := h1
        clear h1
        generalize a.tmps.getD t undef = y at h1' hy
        simp only [Region.wanted, hg, hy]
        generalize (opT ps t).ev T = x at h1' hw
        cases h1' <;> first | (cases hw; done) | (simp only [Option.some.injEq] at hw; subst hw; simp; done) | (simp only [Option.some.injEq] at hw; subst hw; rfl)
      · simp [hlt] at hc
    · cases hc

section
variable {P : Program} {β : Bt} {B0 : Nat} {S : St} {w : World} {ps nt : Nat} {ops : Array Oper}

/-- One operation of a region, wanted or not. -/
theorem step_sound {call : Cll} (hcall : CallOk P B0 call) {T : Tm} {a : Act} (hwf : S.wf) (hR : Rel β B0 S.h w) (hT : TRel β ps nt T a) {i : Nat} {o : Oper} (ho : ops[i]? = some o) {o1 : Op1} (hc : comp1 P ps ops nt o = some o1) {T' : Tm} {S' : St}
    (hs : step1 call o1 T S = some (T', S')) (hfree : Free β S.nx S'.nx) {K : Act → World → Prop} {Q : Exit → Act → World → Prop}
    (h : ∀ γ v v' w', T' = T.put v o1.dst → VR γ v v' → Stp B0 β S w γ S' w' → K (a.put o.dst v') w') : wpOp P ops Q i K a w := by
  obtain ⟨xs, h1, h2, h3, h4, h5⟩ := comp1_spec hc
  unfold wpOp
  simp only [ho]
  unfold step1 at hs
  split at hs
  · rename_i hw
    rw [wants_spec hT h2 hw, if_pos rfl]
    split at hs
    · rename_i v S1 he
      cases hs
      exact .inl (op_sound hwf hR h1 (opds_ev hT h3) hcall he hfree fun γ v' w' g1 g2 => h γ v v' w' rfl g1 g2)
    · cases hs
  · rename_i hw
    rw [wants_spec hT h2 hw, if_neg (by simp)]
    cases hs
    exact h β (.tup []) undef w rfl (.tup .nil) (Stp.refl hR)
  · cases hs

/-- A region in its written order. -/
theorem region_plain {call : Cll} (hcall : CallOk P B0 call) (hgr : Grows call) {l : List Op1} (hl : mapO (comp1 P ps ops nt) ops.toList = some l) {Q : Exit → Act → World → Prop} {T' : Tm} {S' : St} :
    ∀ (n i : Nat), i + n = ops.size → ∀ {β : Bt} {S : St} {w : World} {T : Tm} {a : Act}, S.wf → Rel β B0 S.h w → TRel β ps nt T a → runOps call (l.drop i) T S = some (T', S') → Free β S.nx S'.nx →
      (∀ γ a' w', TRel γ ps nt T' a' → Stp B0 β S w γ S' w' → Q .normal a' w') → wpOps P ops Q (List.range' i n) a w := by
  have hlen : ops.size = l.length := by have := mapO_len hl; simpa using this
  intro n
  induction n with
  | zero =>
    intro i hi β S w T a hwf hR hT hs hfree h
    rw [List.drop_of_length_le (by omega)] at hs
    cases hs
    exact h β a w hT (Stp.refl hR)
  | succ n ih =>
    intro i hi β S w T a hwf hR hT hs hfree h
    rw [List.range'_succ, wpOps_cons]
    have hi2 : i < ops.size := by omega
    have ho : ops[i]? = some ops[i] := Array.getElem?_eq_getElem hi2
    obtain ⟨o1, hc, ho1⟩ := mapO_get hl i ops[i] (by simp)
    have hd : l.drop i = o1 :: l.drop (i + 1) := by
      rw [List.drop_eq_getElem_cons (by omega)]
      congr 1
      rw [List.getElem?_eq_getElem (by omega)] at ho1
      exact Option.some.inj ho1
    rw [hd] at hs
    rw [runOps_cons] at hs
    split at hs
    · rename_i T1 S1 he
      have hn1 := (runOps_gr hgr hs).nx
      obtain ⟨_, _, _, _, h4, h5⟩ := comp1_spec hc
      refine step_sound hcall hwf hR hT ho hc he (hfree.left hn1) fun γ v v' w' hT1 g1 g2 => ?_
      subst hT1
      refine ih (i + 1) (by omega) ((step1_gr hgr he).wf hwf) g2.rel ?_ hs (hfree.right g2) fun δ a' w'' g3 g4 => h δ a' w'' g3 (g2.trans g4)
      rw [h4]
      exact (hT.mono g2.ext).put g1 _ h5
    · cases hs
end
end Go.AM
