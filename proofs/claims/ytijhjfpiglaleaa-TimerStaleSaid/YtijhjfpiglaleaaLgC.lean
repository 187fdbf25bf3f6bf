/- Logical memory: the weakest preconditions are sound. -/
import Derived.Test.YtijhjfpiglaleaaLgB
set_option linter.unusedVariables false
set_option linter.unusedSimpArgs false
namespace Go.AM

section
variable {S : St} {L : Lg}
theorem rdL_ok (h : Mod S L) {a : Nat × Nat} {sz : Option Nat} {v : AV} (e : rdL L a sz = some v) : rdAt S.h a sz = some v := by
  unfold rdL at e
  split at e
  · rename_i blk he
    unfold rdAt
    rw [(h.raw he).1]
    exact e
  · cases e
theorem rdCellsL_ok (h : Mod S L) {a : Option (Nat × Nat)} {n : Nat} {v : List AV} (e : rdCellsL L a n = some v) : rdCells S.h a n = some v := by
  unfold rdCellsL at e
  split at e
  · unfold rdCells
    simp only [beq_nat]
    split at e
    · rename_i hn; cases e; simp [hn]
    · cases e
  · rename_i r o
    split at e
    · rename_i blk he
      unfold rdCells
      simp only [(h.raw he).1]
      exact e
    · cases e
theorem liveL_ok (h : Mod S L) {r : Nat} (e : liveL L r = true) : live S.h r = true := by
  unfold liveL at e
  split at e
  · rename_i c he; simp [live, (h.raw he).1]
  · rename_i P he; obtain ⟨cs, hc⟩ := h.cells he; simp [live, hc]
  · cases e
theorem wrL_ok (h : Mod S L) {a : Nat × Nat} {vs : List AV} {L' : Lg} (e : wrL L a vs = some L') : ∃ h', wrCells S.h a vs = some h' ∧ Mod { S with h := h' } L' := by
  unfold wrL at e
  split at e
  · rename_i c he
    split at e
    · rename_i hc
      cases e
      refine ⟨S.h.set a.1 (some (.cells (splice c a.2 vs))), ?_, h.put he⟩
      unfold wrCells
      simp only [(h.raw he).1, ble_nat, hc.1, hc.2, decide_true, Bool.and_self, cond_true]
    · cases e
  · cases e
theorem eqPL_ok (h : Mod S L) {x y : Option (Nat × Nat)} {r : Bool} (e : eqPL L x y = some r) : eqP S.h x y = some r := by
  unfold eqPL at e
  split at e
  · cases e; rfl
  · cases e; rfl
  · cases e; rfl
  · rename_i a i b j
    unfold eqP
    simp only [beq_nat]
    split at e
    · rename_i hab; simp only [hab, decide_true, cond_true]; exact e
    · rename_i hab
      split at e
      · rename_i hl
        simp only [hab, decide_false, cond_false, liveL_ok h hl.1, liveL_ok h hl.2, Bool.and_self, cond_true]
        exact e
      · cases e
theorem eqV_nil {k : EqK} {x y : AV} {h : PM AB} {r : Bool} (hk : (∀ a b, ¬(x = .p a ∧ y = .p b)) ∨ k ≠ .ptr) (e : eqV .nil k x y = some r) : eqV h k x y = some r := by
  unfold eqV at e ⊢
  split at e <;> try exact e
  all_goals (rename_i a b; exact hk.elim (fun hk => absurd ⟨rfl, rfl⟩ (hk a b)) (fun hk => absurd rfl hk))
theorem rEq_nil {ng : Bool} {k : EqK} {vs : List AV} {h : PM AB} {v : AV} (hk : (∀ a b, vs ≠ [.p a, .p b]) ∨ k ≠ .ptr) (e : rEq ng k .nil vs = some v) : rEq ng k h vs = some v := by
  unfold rEq at e ⊢
  split at e
  · rename_i x y
    rw [Option.map_eq_some_iff] at e ⊢
    obtain ⟨r, hr, e⟩ := e
    refine ⟨r, eqV_nil ?_ hr, e⟩
    rcases hk with hk | hk
    · left; rintro a b ⟨rfl, rfl⟩; exact hk a b rfl
    · exact .inr hk
  · cases e
theorem rEqL_ok (h : Mod S L) {ng : Bool} {k : EqK} {vs : List AV} {v : AV} (e : rEqL ng k L vs = some v) : rEq ng k S.h vs = some v := by
  unfold rEqL at e
  split at e
  · rename_i x y
    split at e
    · rw [Option.map_eq_some_iff] at e
      obtain ⟨r, hr, e⟩ := e
      simp only [rEq, eqV, eqPL_ok h hr, Option.map_some, e]
    · rename_i hk
      exact rEq_nil (.inr hk) e
  · rename_i hk
    exact rEq_nil (.inl fun a b => fun e => hk a b e) e
theorem rLkupL_ok (h : Mod S L) {z : AV} {ok : Bool} {vs : List AV} {v : AV} (e : rLkupL z ok L vs = some v) : rLkup z ok S.h vs = some v := by
  unfold rLkupL at e
  split at e
  · unfold rLkup; cases ok <;> simp_all
  · split at e
    · rename_i es he
      unfold rLkup
      simp only [(h.raw he).1]
      split at e
      · rename_i e1; simp only [e1]; cases ok <;> simp_all
      · rename_i e1; simp only [e1]; cases ok <;> simp_all
      · cases e
    · cases e
  · cases e
theorem rMlenL_ok (h : Mod S L) {vs : List AV} {v : AV} (e : rMlenL L vs = some v) : rMlen S.h vs = some v := by
  unfold rMlenL at e
  split at e
  · unfold rMlen; exact e
  · split at e
    · rename_i es he
      unfold rMlen
      simp only [(h.raw he).1]
      exact e
    · cases e
  · cases e
theorem semRL_ok (h : Mod S L) {o : AOp} {vs : List AV} {v : AV} (e : semRL o L vs = some v) : semR o S.h vs = some v := by
  cases o
  case ld sz =>
    simp only [semRL] at e
    unfold rLdL at e
    split at e
    · simp only [semR, rLd]; exact rdL_ok h e
    · cases e
  case lkup z ok => exact rLkupL_ok h e
  case mlen => exact rMlenL_ok h e
  case eq ng k => exact rEqL_ok h e
  all_goals exact e

theorem retL_ok (h : Mod S L) {o : AOp} (ho : o.cl = .R) {vs : List AV} {k : AV → Lg → Prop} (c : Cll) (e : retL (semRL o L vs) L k) : ∃ v S', semOp o c S vs = some (v, S') ∧ ∃ L', Mod S' L' ∧ k v L' := by
  unfold retL at e
  split at e
  · rename_i v hv
    refine ⟨v, S, ?_, L, h, e⟩
    simp only [semOp, ho, opR, semRL_ok h hv]
  · exact e.elim
theorem newL_ok (h : Mod S L) {o : AOp} (ho : o.cl = .A) {vs : List AV} {k : AV → Lg → Prop} (c : Cll) (e : newL (semA o) vs L k) : ∃ v S', semOp o c S vs = some (v, S') ∧ ∃ L', Mod S' L' ∧ k v L' := by
  have e1 := e S.nx (h.fresh (Nat.le_refl _))
  split at e1
  · rename_i x v hv
    exact ⟨v, _, by simp only [semOp, ho, opA, hv], _, h.new x, e1⟩
  · exact e1.elim

theorem cellsOf_one {v : AV} {l : List AV} (h : v.cellsOf = some l) : l.all AV.one = true := by
  cases v <;> simp only [AV.cellsOf] at h
  case agg c =>
    cases hc : c.all AV.one
    · rw [hc] at h; cases h
    · rw [hc] at h; cases h; exact hc
  case tup => cases h
  case bad => cases h
  all_goals (cases h; rfl)

theorem appL_ok (h : Mod S L) {size bytes : Nat} {a : Option (Nat × Nat)} {len cap ex n : Nat} {new : List AV} {k : AV → Lg → Prop} (e : appL size bytes L a len cap ex n new k) :
    ∃ v S', appV size bytes S a len cap ex n new = some (v, S') ∧ ∃ L', Mod S' L' ∧ k v L' := by
  unfold appL at e
  unfold appV
  simp only [ble_nat, beq_nat]
  split at e
  · rename_i hle
    simp only [hle, decide_true, cond_true]
    split at e
    · exact ⟨_, _, rfl, L, h, e⟩
    · rename_i r o
      split at e
      · rename_i hn
        simp only [hn, decide_true, cond_true]
        exact ⟨_, _, rfl, L, h, e⟩
      · rename_i hn
        simp only [hn, decide_false, cond_false]
        split at e
        · rename_i L' hw
          obtain ⟨h', hw', hm⟩ := wrL_ok h hw
          simp only [hw']
          exact ⟨_, _, rfl, L', hm, e⟩
        · exact e.elim
  · rename_i hle
    obtain ⟨hb, e⟩ := e
    simp only [hle, decide_false, cond_false, hb, decide_true, cond_true]
    split at e
    · rename_i old L' ho hg
      simp only [rdCellsL_ok h ho]
      have hg' : ∃ h', gone S.h a ex size = some h' ∧ Mod { S with h := h' } L' := by
        unfold goneL at hg
        unfold gone
        simp only [beq_nat]
        split at hg
        · rename_i h0; cases hg; simp only [h0, decide_true, cond_true]; exact ⟨_, rfl, h⟩
        · rename_i h0
          simp only [h0, decide_false, cond_false]
          split at hg
          · rename_i h1
            simp only [h1, decide_true, cond_true]
            split at hg
            · rename_i r o
              split at hg
              · rename_i c hc
                cases hg
                have hl : live S.h r = true := by simp [live, (h.raw hc).1]
                simp only [hl, cond_true]
                exact ⟨_, rfl, h.gone hc⟩
              · cases hg
            · cases hg
          · cases hg
      obtain ⟨h', hg1, hm⟩ := hg'
      simp only [hg1]
      exact ⟨_, _, rfl, _, hm.new (.cells (old ++ new)), e S.nx (h.fresh (Nat.le_refl _))⟩
    · exact e.elim

theorem wpOp_ok {F : Nat → Option AFn} (h : Mod S L) {o : AOp} {vs : List AV} {k : AV → Lg → Prop} (e : wpOp F o vs L k) :
    ∃ n v S', semOp o (callOf F (exec F n)) S vs = some (v, S') ∧ ∃ L', Mod S' L' ∧ k v L' := by
  cases o
  case alloc z => exact ⟨0, newL_ok h rfl _ e⟩
  case box => exact ⟨0, newL_ok h rfl _ e⟩
  case bslice => exact ⟨0, newL_ok h rfl _ e⟩
  case mksl => exact ⟨0, newL_ok h rfl _ e⟩
  case mkmap => exact ⟨0, newL_ok h rfl _ e⟩
  case st sz =>
    simp only [wpOp] at e
    unfold stL at e
    split at e
    · rename_i a v
      split at e
      · rename_i l hl
        split at e
        · rename_i hsz
          split at e
          · rename_i L' hw
            obtain ⟨h', hw', hm⟩ := wrL_ok h hw
            refine ⟨0, .bad, { S with h := h' }, ?_, L', hm, e⟩
            simp only [semOp, AOp.cl, semE, eSt, hl, beq_nat, hsz, decide_true, cond_true, hw']
          · exact e.elim
        · exact e.elim
      · exact e.elim
    · exact e.elim
  case mset =>
    simp only [wpOp] at e
    unfold msetW at e
    split at e
    · rename_i r j n v
      split at e
      · rename_i es he
        split at e
        · rename_i es' hs
          refine ⟨0, .bad, { S with h := S.h.set r (some (.map es')) }, ?_, _, h.put he, e⟩
          simp only [semOp, AOp.cl, semE, eMset, (h.raw he).1, hs]
        · exact e.elim
      · exact e.elim
    · exact e.elim
  case mdel =>
    simp only [wpOp] at e
    unfold mdelW at e
    split at e
    · exact ⟨0, .bad, S, rfl, L, h, e⟩
    · rename_i r j n
      split at e
      · rename_i es he
        split at e
        · rename_i es' hs
          refine ⟨0, .bad, { S with h := S.h.set r (some (.map es')) }, ?_, _, h.put he, e⟩
          simp only [semOp, AOp.cl, semE, eMdel, (h.raw he).1, hs]
        · exact e.elim
      · exact e.elim
    · exact e.elim
  case app size bytes =>
    simp only [wpOp] at e
    unfold appW at e
    split at e
    · rename_i a len cap ex b n _ _
      split at e
      · rename_i new hn
        obtain ⟨v, S', h1, h2⟩ := appL_ok h e.2
        refine ⟨0, v, S', ?_, h2⟩
        simp only [semOp, AOp.cl, semE, eApp, rdCellsL_ok h hn, e.1, cond_true, h1]
      · exact e.elim
    · exact e.elim
  case clr z =>
    simp only [wpOp] at e
    unfold clrW at e
    split at e
    · rename_i a n _ _
      split at e
      · rename_i h0
        exact ⟨0, .bad, S, by simp only [semOp, AOp.cl, semE, eClr, beq_nat, h0, decide_true, cond_true], L, h, e⟩
      · rename_i h0
        split at e
        · rename_i a
          split at e
          · rename_i L' hw
            obtain ⟨h', hw', hm⟩ := wrL_ok h hw
            exact ⟨0, .bad, { S with h := h' }, by simp only [semOp, AOp.cl, semE, eClr, beq_nat, h0, decide_false, cond_false, hw'], L', hm, e⟩
          · exact e.elim
        · exact e.elim
    · exact e.elim
  case cpy size =>
    simp only [wpOp] at e
    unfold cpyW at e
    split at e
    · rename_i a dl _ _ b sl _ _
      split at e
      · rename_i vs hv
        split at e
        · rename_i h0
          have h9 := rdCellsL_ok h hv
          rw [h0] at h9
          exact ⟨0, .i .i64 0, S, by simp only [semOp, AOp.cl, semE, eCpy, beq_nat, h0, h9, decide_true, cond_true], L, h, e⟩
        · rename_i h0
          split at e
          · rename_i a
            split at e
            · rename_i L' hw
              obtain ⟨h', hw', hm⟩ := wrL_ok h hw
              exact ⟨0, .i .i64 (Nat.min sl dl : Nat), { S with h := h' }, by simp only [semOp, AOp.cl, semE, eCpy, rdCellsL_ok h hv, beq_nat, h0, decide_false, cond_false, hw']; rfl, L', hm, e⟩
            · exact e.elim
          · exact e.elim
      · exact e.elim
    · exact e.elim
  case call f =>
    obtain ⟨n, v, S', h1, h2⟩ := e S h
    exact ⟨n, v, S', h1, h2⟩
  case callv =>
    simp only [wpOp] at e
    unfold callvW at e
    split at e
    · obtain ⟨n, v, S', h1, h2⟩ := e S h
      exact ⟨n, v, S', h1, h2⟩
    · exact e.elim
  all_goals exact ⟨0, retL_ok h rfl _ e⟩
end

section
variable {F : Nat → Option AFn}
theorem cll_le {n m : Nat} (h : n ≤ m) : Sub (callOf F (exec F n)) (callOf F (exec F m)) := callOf_sub (exec_le h)
theorem aget_aputF (n : Nat) (v : AV) (l : List (Nat × AV)) : aget (aput n v l) = Env.put (aget l) n v := by
  funext m
  rw [aget_aput]
  unfold Env.put
  rw [beq_nat]
  by_cases h : m = n
  · subst h; simp
  · simp [h, Ne.symm h]
theorem aget_consF (n : Nat) (v : AV) (l : List (Nat × AV)) : aget ((n, v) :: l) = Env.put (aget l) n v := rfl
theorem evO_ok (T : Tm) (x : Opd) : evO (aget T.l) (aget T.r) x = x.ev T := by cases x <;> rfl
theorem evsO_ok (T : Tm) : ∀ (as : List Opd), evsO (aget T.l) (aget T.r) as = evs T as
  | [] => rfl
  | x :: r => by
    show evO _ _ x :: evsO _ _ r = x.ev T :: evs T r
    rw [evO_ok, evsO_ok T r]
theorem putL_ok (T : Tm) (d : Dst) (v : AV) : putL (aget T.l) d v = aget (T.put v d).l := by cases d <;> simp [putL, Tm.put, aget_aputF]
theorem putT_ok (T : Tm) (d : Dst) (v : AV) : putT (aget T.r) d v = aget (T.put v d).r := by cases d <;> simp [putT, Tm.put, aget_consF]
theorem initE_ok : ∀ (vs : List AV) (i : Nat), initE vs i = aget (initL vs i)
  | [], _ => rfl
  | v :: r, i => by
    show (initE r (Nat.succ i)).put i v = _
    rw [initE_ok r]
    rfl
theorem wpOp1_ok {S : St} {L : Lg} (h : Mod S L) {o : Op1} {T : Tm} {k : AV → Lg → Prop} (e : wpOp1 F o (aget T.l) (aget T.r) L k) :
    ∃ n v S', step1 (callOf F (exec F n)) o T S = some (T.put v o.dst, S') ∧ ∃ L', Mod S' L' ∧ k v L' := by
  unfold wpOp1 at e
  split at e
  · rename_i d x
    rw [evO_ok] at e
    exact ⟨0, x.ev T, S, by simp only [step1, wants, semOp, AOp.cl, opR, semR, rMv, evs_cons, evs_nil], L, h, e⟩
  · rename_i d op args _
    rw [evsO_ok] at e
    obtain ⟨n, v, S', h1, h2⟩ := wpOp_ok h e
    exact ⟨n, v, S', by simp only [step1, wants, h1], h2⟩
  · rename_i d c w op args
    rw [evO_ok, evsO_ok] at e
    unfold gdOp at e
    split at e
    · rename_i x hx
      by_cases hxw : x = w
      · obtain ⟨n, v, S', h1, h2⟩ := wpOp_ok h (e.1 hxw)
        exact ⟨n, v, S', by simp only [step1, wants, hx, hxw, beq_self_eq_true, h1], h2⟩
      · have hb : (x == w) = false := by simpa using hxw
        exact ⟨0, .tup [], S, by simp only [step1, wants, hx, hb], L, h, e.2 (by cases x <;> cases w <;> simp_all)⟩
    · exact e.elim
    · rename_i h1 h2
      refine ⟨0, .tup [], S, ?_, L, h, e⟩
      have : wants T (some (c, w)) = some false := by
        unfold wants
        simp only
      simp only [step1, this]
theorem step1_sub' {n m : Nat} (h : n ≤ m) {o : Op1} {T : Tm} {S : St} {r : Tm × St} (hs : step1 (callOf F (exec F n)) o T S = some r) : step1 (callOf F (exec F m)) o T S = some r := step1_sub (cll_le h) hs
theorem wpOps_ok : ∀ {ops : List Op1} {T : Tm} {S : St} {L : Lg} {k : Env → Env → Lg → Prop}, Mod S L → wpOps F ops (aget T.l) (aget T.r) L k →
    ∃ n T' S', runOps (callOf F (exec F n)) ops T S = some (T', S') ∧ ∃ L', Mod S' L' ∧ k (aget T'.l) (aget T'.r) L'
  | [], T, S, L, k, h, e => ⟨0, T, S, rfl, L, h, e⟩
  | o :: r, T, S, L, k, h, e => by
    have e' : wpOp1 F o (aget T.l) (aget T.r) L (fun v L' => wpOps F r (putL (aget T.l) o.dst v) (putT (aget T.r) o.dst v) L' k) := e
    obtain ⟨n, v, S', h1, L', h2, h3⟩ := wpOp1_ok h e'
    rw [putL_ok, putT_ok] at h3
    obtain ⟨m, T'', S'', h4, h5⟩ := wpOps_ok h2 h3
    refine ⟨max n m, T'', S'', ?_, h5⟩
    rw [runOps_cons, step1_sub' (Nat.le_max_left n m) h1]
    exact runOps_sub (cll_le (Nat.le_max_right n m)) h4

/-- the way so far, and what is known of it -/
def HistR (tr : List (Env × Env × Lg)) (hs : List (Tm × St)) : Prop := tr.length = hs.length ∧ ∀ (i : Nat) l t L, tr[i]? = some (l, t, L) → ∃ T S, hs[i]? = some (T, S) ∧ l = aget T.l ∧ t = aget T.r ∧ Mod S L
theorem HistR.snoc {tr : List (Env × Env × Lg)} {hs : List (Tm × St)} (h : HistR tr hs) {T : Tm} {L : Lg} {S : St} (m : Mod S L) : HistR (tr ++ [(aget T.l, aget T.r, L)]) (hs ++ [(T, S)]) := by
  refine ⟨by simp [h.1], fun i l t L' e => ?_⟩
  rw [List.getElem?_append] at e ⊢
  rw [← h.1]
  split at e
  · rename_i hi
    simp only [hi, if_true]
    exact h.2 i l t L' e
  · rename_i hi
    simp only [hi, if_false]
    cases hj : i - tr.length with
    | zero => rw [hj] at e; simp at e; obtain ⟨rfl, rfl, rfl⟩ := e; exact ⟨T, S, by simp, rfl, rfl, m⟩
    | succ j => rw [hj] at e; simp at e
theorem againV_ok {o : AOp} {vs : List AV} {L L' : Lg} {S S' : St} (h : Mod S L) (h' : Mod S' L') (e : againV o vs L L') : ∃ v v', semR o S.h vs = some v ∧ semR o S'.h vs = some v' ∧ sameV v v' = true := by
  unfold againV at e
  split at e
  · rename_i v v' h1 h2; exact ⟨v, v', semRL_ok h h1, semRL_ok h' h2, e⟩
  · exact e.elim
theorem againL_ok {ops : List Op1} {tr : List (Env × Env × Lg)} {hs : List (Tm × St)} (h : HistR tr hs) {c : Nat × Nat} (e : againL ops tr c) : again ops hs c = true := by
  unfold againL at e
  split at e
  · rename_i o l t L l' t' L' h1 h2 h3
    obtain ⟨T, S, h4, rfl, rfl, m⟩ := h.2 _ _ _ _ h2
    obtain ⟨T', S', h5, _, _, m'⟩ := h.2 _ _ _ _ h3
    rw [evsO_ok] at e
    unfold again
    simp only [h1, h4, h5]
    split at e
    · rename_i hg
      obtain ⟨v, v', e1, e2, e3⟩ := againV_ok m m' e
      simp only [hg, wants, e1, e2, e3]
    · rename_i g w hg
      rw [evO_ok] at e
      simp only [hg, wants]
      unfold againG at e
      split at e
      · rename_i x hx
        simp only [hx]
        by_cases hxw : x = w
        · obtain ⟨v, v', e1, e2, e3⟩ := againV_ok m m' (e hxw)
          simp only [hxw, beq_self_eq_true, e1, e2, e3]
        · have hb : (x == w) = false := by simpa using hxw
          simp only [hb]
      · exact e.elim
      · rename_i a1 a2
        generalize hz : g.ev T = z at *
        cases z <;> first | rfl | (exfalso; first | exact a1 _ rfl | exact a2 rfl)
  · exact e.elim
theorem againA_ok {ops : List Op1} {tr : List (Env × Env × Lg)} {hs : List (Tm × St)} (h : HistR tr hs) : ∀ {chk : List (Nat × Nat)}, againA ops tr chk → ∀ c, c ∈ chk → again ops hs c = true
  | [], _, c, hc => by cases hc
  | d :: r, e, c, hc => by
    rcases List.mem_cons.1 hc with rfl | hc
    · exact againL_ok h e.1
    · exact againA_ok h e.2 c hc
theorem wpOpsD_ok {ops : List Op1} {chk : List (Nat × Nat)} : ∀ {rest : List Op1} {tr : List (Env × Env × Lg)} {hs : List (Tm × St)} {T : Tm} {S : St} {L : Lg} {k : Kn}, HistR tr hs → Mod S L → wpOpsD F ops chk rest tr (aget T.l) (aget T.r) L k →
    ∃ n t, trace (callOf F (exec F n)) rest T S = some t ∧ (∀ c, c ∈ chk → again ops (hs ++ t) c = true) ∧ ∃ T' S', lastOf t = some (T', S') ∧ ∃ L', Mod S' L' ∧ k (aget T'.l) (aget T'.r) L'
  | [], tr, hs, T, S, L, k, hh, h, e => ⟨0, [(T, S)], rfl, againA_ok (hh.snoc h) e.1, T, S, rfl, L, h, e.2⟩
  | o :: r, tr, hs, T, S, L, k, hh, h, e => by
    have e' : wpOp1 F o (aget T.l) (aget T.r) L (fun v L' => wpOpsD F ops chk r (tr ++ [(aget T.l, aget T.r, L)]) (putL (aget T.l) o.dst v) (putT (aget T.r) o.dst v) L' k) := e
    obtain ⟨n, v, S', h1, L', h2, h3⟩ := wpOp1_ok h e'
    rw [putL_ok, putT_ok] at h3
    obtain ⟨m, t, h4, h5, h6⟩ := wpOpsD_ok (hh.snoc h) h2 h3
    obtain ⟨T'', S'', h7, h8⟩ := h6
    refine ⟨max n m, (T, S) :: t, ?_, ?_, T'', S'', ?_, h8⟩
    · unfold trace
      rw [step1_sub' (Nat.le_max_left n m) h1]
      simp only [trace_sub (cll_le (Nat.le_max_right n m)) h4, Option.map_some]
    · intro c hc; have := h5 c hc; rwa [List.append_assoc] at this
    · cases t with
      | nil => cases h7
      | cons a q => exact h7

theorem wpq_seq (F : Nat → Option AFn) (a b : ACode) (l t : Env) (L : Lg) (k : Kn) (ke : Nat → Kn) (kr : Kn) : wp F (.seq a b) l t L k ke kr = wp F a l t L (fun l t L => wp F b l t L k ke kr) ke kr := rfl
theorem wpq_cond (F : Nat → Option AFn) (c : Opd) (x y : ACode) (l t : Env) (L : Lg) (k : Kn) (ke : Nat → Kn) (kr : Kn) : wp F (.cond c x y) l t L k ke kr = condW (evO l t c) (wp F x l t L k ke kr) (wp F y l t L k ke kr) := rfl
theorem wpq_block (F : Nat → Option AFn) (id : Nat) (c : ACode) (l t : Env) (L : Lg) (k : Kn) (ke : Nat → Kn) (kr : Kn) : wp F (.block id c) l t L k ke kr = wp F c l t L k (fun j l t L => bif Nat.beq j id then k l t L else ke j l t L) kr := rfl
theorem wpq_loop (F : Nat → Option AFn) (c : ACode) (l t : Env) (L : Lg) (k : Kn) (ke : Nat → Kn) (kr : Kn) : wp F (.loop c) l t L k ke kr = loopW (fun l t L k => wp F c l t L (fun l _ L => k l L) ke kr) l L := rfl
/-- how code ends, and what is so behind it -/
def Ends (F : Nat → Option AFn) (c : ACode) (T : Tm) (S : St) (k : Kn) (ke : Nat → Kn) (kr : Kn) : Prop :=
  ∃ n x T' S', exec F n c T S = some (x, T', S') ∧ ∃ L', Mod S' L' ∧ match x with
    | .norm => k (aget T'.l) (aget T'.r) L'
    | .ex j => ke j (aget T'.l) (aget T'.r) L'
    | .ret => kr (aget T'.l) (aget T'.r) L'
theorem wp_ok : ∀ (c : ACode) {T : Tm} {S : St} {L : Lg} {k : Kn} {ke : Nat → Kn} {kr : Kn}, Mod S L → wp F c (aget T.l) (aget T.r) L k ke kr → Ends F c T S k ke kr
  | .skip, T, S, L, k, ke, kr, h, e => ⟨1, .norm, T, S, rfl, L, h, e⟩
  | .exit id, T, S, L, k, ke, kr, h, e => ⟨1, .ex id, T, S, rfl, L, h, e⟩
  | .ret, T, S, L, k, ke, kr, h, e => ⟨1, .ret, T, S, rfl, L, h, e⟩
  | .reg ops, T, S, L, k, ke, kr, h, e => by
    obtain ⟨n, T', S', h1, L', h2, h3⟩ := wpOps_ok (T := { T with r := [] }) h e
    exact ⟨n + 1, .norm, T', S', by simp only [exec_succ, exec1, xReg, h1], L', h2, h3⟩
  | .regD ops chk, T, S, L, k, ke, kr, h, e => by
    obtain ⟨n, t, h1, h2, T', S', h3, L', h4, h5⟩ := wpOpsD_ok (T := { T with r := [] }) (hs := []) (tr := []) ⟨rfl, fun i l t L h => by simp at h⟩ h e
    refine ⟨n + 1, .norm, T', S', ?_, L', h4, h5⟩
    have : chk.all (again ops t) = true := List.all_eq_true.2 h2
    simp only [exec_succ, exec1, xRegD, h1, this, cond_true, h3, Option.map_some]
  | .seq a b, T, S, L, k, ke, kr, h, e => by
    have e' : wp F a (aget T.l) (aget T.r) L (fun l t L => wp F b l t L k ke kr) ke kr := e
    obtain ⟨n, x, T', S', h1, L', h2, h3⟩ := wp_ok a h e'
    cases x with
    | norm =>
      obtain ⟨m, y, T'', S'', h4, h5⟩ := wp_ok b h2 h3
      refine ⟨max n m + 1, y, T'', S'', ?_, h5⟩
      simp only [exec_succ, exec1, xSeq, exec_le (Nat.le_max_left n m) _ _ _ _ h1, exec_le (Nat.le_max_right n m) _ _ _ _ h4]
    | ex j => exact ⟨n + 1, .ex j, T', S', by simp only [exec_succ, exec1, xSeq, h1], L', h2, h3⟩
    | ret => exact ⟨n + 1, .ret, T', S', by simp only [exec_succ, exec1, xSeq, h1], L', h2, h3⟩
  | .cond c x y, T, S, L, k, ke, kr, h, e => by
    have e' : condW (evO (aget T.l) (aget T.r) c) (wp F x (aget T.l) (aget T.r) L k ke kr) (wp F y (aget T.l) (aget T.r) L k ke kr) := e
    rw [evO_ok] at e'
    unfold condW at e'
    split at e'
    · rename_i b hb
      cases b with
      | true =>
        obtain ⟨n, z, T', S', h1, h2⟩ := wp_ok x h (e'.1 rfl)
        exact ⟨n + 1, z, T', S', by simp only [exec_succ, exec1, xCond, hb, h1], h2⟩
      | false =>
        obtain ⟨n, z, T', S', h1, h2⟩ := wp_ok y h (e'.2 rfl)
        exact ⟨n + 1, z, T', S', by simp only [exec_succ, exec1, xCond, hb, h1], h2⟩
    · exact e'.elim
  | .block id c, T, S, L, k, ke, kr, h, e => by
    have e' : wp F c (aget T.l) (aget T.r) L k (fun j l t L => bif Nat.beq j id then k l t L else ke j l t L) kr := e
    obtain ⟨n, x, T', S', h1, L', h2, h3⟩ := wp_ok c h e'
    cases x with
    | norm => exact ⟨n + 1, .norm, T', S', by simp only [exec_succ, exec1, xBlock, h1], L', h2, h3⟩
    | ret => exact ⟨n + 1, .ret, T', S', by simp only [exec_succ, exec1, xBlock, h1], L', h2, h3⟩
    | ex j =>
      simp only [beq_nat] at h3
      by_cases hj : j = id
      · simp only [hj, decide_true, cond_true] at h3
        exact ⟨n + 1, .norm, T', S', by simp only [exec_succ, exec1, xBlock, h1, beq_nat, hj, decide_true, cond_true], L', h2, h3⟩
      · simp only [hj, decide_false, cond_false] at h3
        exact ⟨n + 1, .ex j, T', S', by simp only [exec_succ, exec1, xBlock, h1, beq_nat, hj, decide_false, cond_false], L', h2, h3⟩
  | .loop c, T, S, L, k, ke, kr, h, e => by
    obtain ⟨I, ⟨n, hn⟩, hI⟩ := e
    have key : ∀ n, ∀ T S L, Mod S L → I n (aget T.l) L → Ends F (.loop c) T S k ke kr := by
      intro n
      induction n using Nat.strongRecOn with
      | ind n ih =>
        intro T S L h hn
        have e' : wp F c (aget T.l) (aget T.r) L (fun l _ L => ∃ m, m < n ∧ I m l L) ke kr := hI n _ (aget T.r) L hn
        obtain ⟨a, x, T', S', h1, L', h2, h3⟩ := wp_ok c h e'
        cases x with
        | norm =>
          obtain ⟨m, hm, h3⟩ := h3
          obtain ⟨b, y, T'', S'', h4, h5⟩ := ih m hm T' S' L' h2 h3
          refine ⟨max a b + 1, y, T'', S'', ?_, h5⟩
          simp only [exec_succ, exec1, xLoop, exec_le (Nat.le_max_left a b) _ _ _ _ h1, exec_le (Nat.le_max_right a b) _ _ _ _ h4]
        | ex j => exact ⟨a + 1, .ex j, T', S', by simp only [exec_succ, exec1, xLoop, h1], L', h2, h3⟩
        | ret => exact ⟨a + 1, .ret, T', S', by simp only [exec_succ, exec1, xLoop, h1], L', h2, h3⟩
    exact key n T S L h hn

theorem resOneL_ok {T : Tm} {S : St} {L : Lg} (h : Mod S L) {r : ResV} {v : AV} (e : resOneL (aget T.l) (aget T.r) L r = some v) : resOne T S.h r = some v := by
  cases r with
  | tmp t => simp only [resOneL, evO_ok] at e; exact e
  | cell t sz =>
    simp only [resOneL, evO_ok] at e
    unfold resOne
    simp only at e ⊢
    split at e
    · rename_i a ha; simp only [ha]; exact rdL_ok h e
    · cases e
theorem resLL_ok {T : Tm} {S : St} {L : Lg} (h : Mod S L) : ∀ {rs : List ResV} {l : List AV}, resLL (aget T.l) (aget T.r) L rs = some l → resL T S.h rs = some l
  | [], l, e => e
  | r :: rs, l, e => by
    unfold resLL at e
    unfold resL
    split at e
    · rename_i v hv
      simp only [resOneL_ok h hv]
      rw [Option.map_eq_some_iff] at e ⊢
      obtain ⟨u, hu, e⟩ := e
      exact ⟨u, resLL_ok h hu, e⟩
    · cases e
theorem resVL_ok {T : Tm} {S : St} {L : Lg} (h : Mod S L) {rs : List ResV} {v : AV} (e : resVL (aget T.l) (aget T.r) L rs = some v) : resV T S.h rs = some v := by
  unfold resVL at e
  unfold resV
  cases hl : resLL (aget T.l) (aget T.r) L rs with
  | none => rw [hl] at e; cases e
  | some l =>
    rw [hl] at e
    rw [resLL_ok h hl]
    match l with
    | [] => exact e
    | [x] => exact e
    | x :: y :: z => exact e

/-- what is so behind a function's body -/
def fin1 (v : Option AV) (Q : AV → Lg → Prop) (L : Lg) : Prop := match v with
  | some v => ∃ L', Sees L L' ∧ Q v L'
  | none => False
def fin (rs : List ResV) (Q : AV → Lg → Prop) : Kn := fun l t L => fin1 (resVL l t L rs) Q L
theorem CallL.of_wp {f : Nat} {fn : AFn} (hf : F f = some fn) {vs : List AV} {L : Lg} {Q : AV → Lg → Prop}
    (e : wp F fn.body (initE vs 0) Env.nil L (fin fn.res Q) (fun _ _ _ _ => False) (fin fn.res Q)) : CallL F f vs L Q := by
  intro S h
  rw [initE_ok] at e
  obtain ⟨n, x, T', S', h1, L', h2, h3⟩ := wp_ok (T := initT vs) fn.body h e
  have key : fin fn.res Q (aget T'.l) (aget T'.r) L' → ∃ v L'', resV T' S'.h fn.res = some v ∧ Mod S' L'' ∧ Q v L'' := by
    intro h3
    unfold fin fin1 at h3
    split at h3
    · rename_i v hv
      obtain ⟨L'', hs, hq⟩ := h3
      exact ⟨v, L'', resVL_ok h2 hv, hs _ h2, hq⟩
    · exact h3.elim
  cases x with
  | norm =>
    obtain ⟨v, L'', h4, h5, h6⟩ := key h3
    exact ⟨n, v, S', by simp only [acall_def, callOf, hf, h1, h4, Option.map_some], L'', h5, h6⟩
  | ret =>
    obtain ⟨v, L'', h4, h5, h6⟩ := key h3
    exact ⟨n, v, S', by simp only [acall_def, callOf, hf, h1, h4, Option.map_some], L'', h5, h6⟩
  | ex j => exact h3.elim
theorem CallL.mono {f : Nat} {vs : List AV} {L : Lg} {Q Q' : AV → Lg → Prop} (h : CallL F f vs L Q) (hq : ∀ v L, Q v L → Q' v L) : CallL F f vs L Q' := by
  intro S m
  obtain ⟨n, v, S', h1, L', h2, h3⟩ := h S m
  exact ⟨n, v, S', h1, L', h2, hq _ _ h3⟩
theorem CallL.sees {f : Nat} {vs : List AV} {L : Lg} {Q Q' : AV → Lg → Prop} (h : CallL F f vs L Q) (hq : ∀ v L, Q v L → ∃ L', Sees L L' ∧ Q' v L') : CallL F f vs L Q' := by
  intro S m
  obtain ⟨n, v, S', h1, L', h2, h3⟩ := h S m
  obtain ⟨L'', h4, h5⟩ := hq _ _ h3
  exact ⟨n, v, S', h1, L'', h4 _ h2, h5⟩
theorem CallL.pre {f : Nat} {vs : List AV} {L L' : Lg} {Q : AV → Lg → Prop} (hs : Sees L L') (h : CallL F f vs L' Q) : CallL F f vs L Q := fun S m => h S (hs S m)
/-- What is hidden at a name is opened ahead of a call. -/
theorem CallL.unfold {f : Nat} {vs : List AV} {L : Lg} {Q : AV → Lg → Prop} {r : Nat} {P : Hp → Prop} (e : L r = some (.abs P))
    (h : ∀ hm, P hm → ∃ M, Sat M hm ∧ ((∀ b c, M b = some c → b ≠ r → L b = none) → CallL F f vs (M.over (L.del r)) Q)) : CallL F f vs L Q := by
  intro S m
  obtain ⟨hm, hP, hM⟩ := m.unfold e
  obtain ⟨M, hs, hc⟩ := h hm hP
  obtain ⟨m1, hf⟩ := hM M hs
  exact hc hf S m1
/-- A law that answers true. -/
theorem true_of_callL {f : Nat} {vs : List AV} (h : CallL F f vs Lg.nil fun v _ => v = .b true) : ∃ m S, acall F m f vs ⟨.nil, 0⟩ = some (.b true, S) := by
  obtain ⟨n, v, S', h1, L', h2, rfl⟩ := h _ (mod_nil 0)
  exact ⟨n, S', h1⟩
end
end Go.AM
