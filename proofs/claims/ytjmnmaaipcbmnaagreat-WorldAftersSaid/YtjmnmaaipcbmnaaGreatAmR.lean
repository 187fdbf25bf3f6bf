/- Regions whose order is open: the run, in any order; all regions; the sum: what a call of the abstract machine says of the model's. -/
import Derived.Test.YtjmnmaaipcbmnaaGreatAmQ
set_option linter.unusedVariables false
set_option linter.unusedSimpArgs false
namespace Go.AM
open Go.RowKit (Below)

theorem step1_put {call : Cll} {o : Op1} {T T' : Tm} {S S' : St} (h : step1 call o T S = some (T', S')) : ∃ v, T' = T.put v o.dst := by
  unfold step1 at h
  split at h
  · split at h
    · cases h; exact ⟨_, rfl⟩
    · cases h
  · cases h; exact ⟨_, rfl⟩
  · cases h

section
variable {P : Program} {ps nt : Nat} {ops : Array Oper} {l : List Op1} {call : Cll} {ts : Nat → Tm} {ss : Nat → St}

/-- what holds of the temporaries -/
structure TmInv (l : List Op1) (ts : Nat → Tm) (ps nt : Nat) (X : Nat → Prop) (β : Bt) (a : Act) : Prop where
  sz : nt ≤ a.tmps.size
  df : a.defers = []
  tm : ∀ t, t < nt → ∀ j, j ≤ l.length → (∀ i o, l[i]? = some o → o.dst.tm = some t → (X i ↔ i < j)) → VR β ((ts j).at ps t) (a.tmps.getD t undef)

theorem keepT (hl : mapO (comp1 P ps ops nt) ops.toList = some l) (hw : Way call l ts ss) {t p q : Nat} (hpq : p ≤ q) (hq : q ≤ l.length) (hno : ∀ i o, p ≤ i → i < q → l[i]? = some o → o.dst.tm ≠ some t) : (ts q).at ps t = (ts p).at ps t := by
  induction q with
  | zero => have : p = 0 := by omega
            subst this; rfl
  | succ q ih =>
    by_cases h : p = q + 1
    · subst h; rfl
    · have h1 := ih (by omega) (by omega) (fun i o h1 h2 => hno i o h1 (by omega))
      rw [← h1]
      have hg : l[q]? = some l[q] := List.getElem?_eq_getElem (by omega)
      obtain ⟨v, hv⟩ := step1_put (hw q _ hg)
      have hlen := mapO_len hl
      have hoq : ops.toList[q]? = some ops.toList[q] := List.getElem?_eq_getElem (by omega)
      obtain ⟨o1, hc, ho1⟩ := mapO_get hl q _ hoq
      rw [hg] at ho1
      cases ho1
      obtain ⟨xs, _, _, _, h4, _⟩ := comp1_spec hc
      have hn := hno q _ (by omega) (by omega) hg
      rw [hv, h4]
      rw [h4, dstT_tm] at hn
      cases hd : (ops.toList[q]).dst with
      | none => rfl
      | some d =>
        rw [hd] at hn
        rw [Tm.at_put, if_neg (fun e => hn (by rw [e]))]

variable {b : List Nat}

theorem TmInv.put (hl : mapO (comp1 P ps ops nt) ops.toList = some l) (hw : Way call l ts ss) (hback : backOk (ops.toList.map preds) = true) (htemps : tempsOk l (befores (ops.toList.map preds) []) = true)
    {X : Nat → Prop} (hcl : ∀ i, X i → ∀ d ∈ predsAt ops i, X d) {β γ : Bt} {a : Act} (h : TmInv l ts ps nt X β a) (hext : Ext β γ) {j : Nat} {o1 : Op1} (hj : l[j]? = some o1) (hX : ¬ X j) {d : Option Tmp} (hd : o1.dst = dstT ps d) (hdn : ∀ x, d = some x → x < nt)
    {v : AV} {v' : Value} (hv : VR γ v v') (hts : ts (j + 1) = (ts j).put v o1.dst) : TmInv l ts ps nt (fun i => X i ∨ i = j) γ (a.put d v') := by
  have hdt : o1.dst.tm = d := by rw [hd, dstT_tm]
  refine ⟨?_, ?_, ?_⟩
  · cases d <;> simp [Act.put, h.sz]
  · cases d <;> exact h.df
  · intro t ht k hk hc
    by_cases e : d = some t
    · subst e
      have hjk : j < k := (hc j o1 hj hdt).1 (.inr rfl)
      have hno : ∀ i o, j + 1 ≤ i → i < k → l[i]? = some o → o.dst.tm ≠ some t := by
        intro i o hi1 hi2 hi hit
        have hXi : X i := ((hc i o hi hit).2 hi2).resolve_right (by omega)
        rcases temps_spec htemps hi hit hj (by unfold temps1; rw [hdt]; simp) (by omega) with ⟨h1, _⟩ | ⟨_, h2⟩
        · omega
        · exact hX (bef_closed hback hcl i (hcl i hXi) j h2)
      have hjl : j < l.length := (List.getElem?_eq_some_iff.1 hj).1
      rw [keepT hl hw hjk hk hno, hts, hd, Tm.at_put, if_pos rfl]
      have hs := h.sz
      have : (a.put (some t) v').tmps.getD t undef = v' := by
        simp only [Act.put]
        rw [Array.getD_eq_getD_getElem?, Array.getElem?_setIfInBounds_self_of_lt (by omega)]; rfl
      rw [this]
      exact hv
    · have h1 := h.tm t ht k hk (fun i o hi hit => by
        have hij : i ≠ j := fun e' => by subst e'; rw [hj] at hi; cases hi; rw [hdt] at hit; exact e hit
        rw [← hc i o hi hit]
        exact ⟨.inl, fun hx => hx.resolve_right hij⟩)
      have : (a.put d v').tmps.getD t undef = a.tmps.getD t undef := by
        cases d with
        | none => rfl
        | some d =>
          simp only [Act.put]
          rw [Array.getD_eq_getD_getElem?, Array.getD_eq_getD_getElem?, Array.getElem?_setIfInBounds_ne (fun h => e (by rw [h]))]
      rw [this]
      exact h1.mono hext

/-- the last effect ahead of q -/
theorem prev_eff (l : List Op1) : ∀ q, q ≤ l.length → ∃ p, p ≤ q ∧ (p = 0 ∨ ∃ e, e ∈ effs l ∧ p = e + 1) ∧ ∀ i o, p ≤ i → i < q → l[i]? = some o → isE o = false
  | 0, _ => ⟨0, Nat.le_refl _, .inl rfl, fun i o h1 h2 _ => by omega⟩
  | q + 1, h => by
    cases hE : isE (l[q]'(by omega)) with
    | true => exact ⟨q + 1, Nat.le_refl _, .inr ⟨q, mem_effs.2 ⟨_, List.getElem?_eq_getElem (by omega), hE⟩, rfl⟩, fun i o h1 h2 _ => by omega⟩
    | false =>
      obtain ⟨p, h1, h2, h3⟩ := prev_eff l q (by omega)
      refine ⟨p, by omega, h2, fun i o hi1 hi2 ho => ?_⟩
      by_cases e : i = q
      · subst e
        rw [List.getElem?_eq_getElem (by omega)] at ho
        cases ho
        exact hE
      · exact h3 i o hi1 (by omega) ho

/-- all that is known of a region whose order is open -/
structure Open (P : Program) (B0 ps nt : Nat) (ops : Array Oper) (l : List Op1) (call : Cll) (ts : Nat → Tm) (ss : Nat → St) (tr : List (Tm × St)) : Prop where
  hl : mapO (comp1 P ps ops nt) ops.toList = some l
  way : Way call l ts ss
  states : ∀ i, i ≤ l.length → tr[i]? = some (ts i, ss i)
  path : Path l ss
  back : backOk (ops.toList.map preds) = true
  temps : tempsOk l (befores (ops.toList.map preds) []) = true
  eff : effOk l (befores (ops.toList.map preds) []) = true
  chk : ∀ c ∈ chkOf l (befores (ops.toList.map preds) []), again l tr c = true
  call : CallOk P B0 call

variable {tr : List (Tm × St)} {B0 : Nat} {β0 : Bt} {w0 : World}

theorem any_op (H : Open P B0 ps nt ops l call ts ss tr) (hfree : Free β0 (ss 0).nx (ss l.length).nx) {X : Nat → Prop} {q : Nat} {β : Bt} {a : Act} {w : World} (hM : MInv l ss B0 β0 w0 X q β w) (hqb : q < l.length → ∃ o, l[q]? = some o ∧ isE o = true)
    (hT : TmInv l ts ps nt X β a) (hcl : ∀ i, X i → ∀ d ∈ predsAt ops i, X d) {j : Nat} (hj : j < ops.size) (hX : ¬ X j) (hpre : ∀ d ∈ predsAt ops j, X d) {K : Act → World → Prop} {Q : Exit → Act → World → Prop}
    (h : ∀ q' γ a' w', MInv l ss B0 β0 w0 (fun i => X i ∨ i = j) q' γ w' → (q' < l.length → ∃ o, l[q']? = some o ∧ isE o = true) → TmInv l ts ps nt (fun i => X i ∨ i = j) γ a' → K a' w') : wpOp P ops Q j K a w := by
  have hlen : ops.size = l.length := by simpa using mapO_len H.hl
  have hp := H.path
  have ho : ops[j]? = some ops[j] := Array.getElem?_eq_getElem hj
  obtain ⟨o1, hc, ho1⟩ := mapO_get H.hl j ops[j] (by simp)
  obtain ⟨xs, h1, h2, h3, h4, h5⟩ := comp1_spec hc
  have hstep := H.way j o1 ho1
  have rd : ∀ t, t ∈ temps1 o1 → t < nt → VR β ((ts j).at ps t) (a.tmps.getD t undef) := by
    intro t htm ht
    refine hT.tm t ht j (by omega) fun i o' hi hit => ?_
    by_cases e : i = j
    · subst e; exact ⟨fun hx => absurd hx hX, fun hx => absurd hx (Nat.lt_irrefl _)⟩
    · rcases temps_spec H.temps hi hit ho1 htm e with ⟨h6, h7⟩ | ⟨h6, h7⟩
      · exact ⟨fun _ => h6, fun _ => bef_closed H.back hcl j hpre i h7⟩
      · exact ⟨fun hx => absurd (bef_closed H.back hcl i (hcl i hx) j h7) hX, fun hx => by omega⟩
  have hvs : VRs β (evs (ts j) o1.args) (xs.map a.eval) := opds_on h3 fun t htm ht => rd t (by unfold temps1; simp only [List.mem_append]; exact .inr htm) ht
  have hwant : ∀ {r}, wants (ts j) o1.gd = some r → Region.wanted ops[j] (yielded ops a.tmps) = r := fun hw =>
    wants_on hT.sz h2 (fun t htm ht => rd t (by unfold temps1; simp only [List.mem_append]; exact .inl (.inr (by rw [htm]; simp))) ht) hw
  have fin : ∀ (v : AV) (v' : Value) (γ : Bt) (q' : Nat) (w' : World), ts (j + 1) = (ts j).put v o1.dst → VR γ v v' → Ext β γ → MInv l ss B0 β0 w0 (fun i => X i ∨ i = j) q' γ w' → (q' < l.length → ∃ o, l[q']? = some o ∧ isE o = true) → K (a.put ops[j].dst v') w' := by
    intro v v' γ q' w' g1 g2 g3 g4 g5
    exact h q' γ _ w' g4 g5 (hT.put H.hl H.way H.back H.temps hcl g3 ho1 hX h4 h5 g2 g1)
  -- effects come in their order
  have hjq : isE o1 = true → j = q := by
    intro hE
    rcases Nat.lt_trichotomy j q with hlt | heq | hgt
    · exact absurd ((hM.qE j o1 ho1 hE).2 hlt) hX
    · exact heq
    · obtain ⟨oq, hoq, hEq⟩ := hqb (by omega)
      have := bef_closed H.back hcl j hpre q (eff_spec H.eff hoq hEq ho1 hE hgt)
      have := (hM.qE q oq hoq hEq).1 this
      omega
  have effst : isE o1 = true → ∀ γ v v' w', ts (j + 1) = (ts j).put v o1.dst → VR γ v v' → Stp B0 β (ss q) w γ (ss (q + 1)) w' → K (a.put ops[j].dst v') w' := by
    intro hE γ v v' w' g1 g2 g3
    have e := hjq hE
    obtain ⟨r, hr1, hr2, hr3, hr4⟩ := next_eff l (l.length - (q + 1)) (q + 1) (by omega)
    refine fin v v' γ r w' g1 g2 g3.ext ?_ hr4
    rw [e]
    exact hM.advE hp hfree (by rw [← e]; exact ho1) hE g3 hr1 hr2 hr3
  unfold wpOp
  simp only [ho]
  unfold step1 at hstep
  split at hstep
  · rename_i hw
    rw [hwant hw, if_pos rfl]
    refine .inl ?_
    split at hstep
    · rename_i v S1 he
      injection hstep with hstep
      injection hstep with e1 e2
      subst e2
      have hts := e1.symm
      cases hcl' : o1.op.cl
      · -- reads
        have hE : isE o1 = false := by unfold isE; rw [hcl']
        simp only [semOp, hcl', opR] at he
        cases hr : semR o1.op (ss j).h (evs (ts j) o1.args) with
        | none => rw [hr] at he; cases he
        | some u =>
          rw [hr] at he
          injection he with he
          injection he with e3 e4
          subst e3
          have hread : ∃ p u', Rel β B0 (ss p).h w ∧ semR o1.op (ss p).h (evs (ts j) o1.args) = some u' ∧ ∀ x, VR β u' x → VR β u x := by
            cases hm : o1.op.mem with
            | false => exact ⟨q, u, hM.rel hp (Nat.le_refl _) (fun i o h1 h2 => by omega), by rw [← hr]; exact semR_mem hm _ _ _, fun x hx => hx⟩
            | true =>
              obtain ⟨p, hp1, hp2, hp3⟩ := prev_eff l q hM.qN
              have hpe : ∀ e, e ∈ effs l → e < q → e < p := fun e hem heq => by
                rcases Nat.lt_or_ge e p with h' | h'
                · exact h'
                · obtain ⟨oe, hoe, hEe⟩ := mem_effs.1 hem
                  rw [hp3 e oe h' heq hoe] at hEe; cases hEe
              cases how : ownW (effs l) j p with
              | true =>
                unfold ownW at how
                rw [List.all_eq_true] at how
                have how' : ∀ e, e ∈ effs l → (e < p ↔ e < j) := fun e hem => by
                  have := how e hem
                  rw [blt_nat, blt_nat, beq_iff_eq, decide_eq_decide] at this
                  exact this
                have hjq' : j ≤ q := by
                  rcases Nat.lt_or_ge q j with h' | h'
                  · obtain ⟨oq, hoq, hEq⟩ := hqb (by omega)
                    have := (how' q (mem_effs.2 ⟨oq, hoq, hEq⟩)).2 h'
                    omega
                  · exact h'
                refine ⟨j, u, hM.rel hp hjq' (fun i o hi1 hi2 hi => ?_), hr, fun x hx => hx⟩
                cases hEi : isE o with
                | false => rfl
                | true =>
                  have hem := mem_effs.2 ⟨o, hi, hEi⟩
                  have := (how' i hem).1 (hpe i hem hi2)
                  omega
              | false =>
                have hfe : feas (effs l) (befores (ops.toList.map preds) []) j p = true := by
                  unfold feas
                  rw [List.all_eq_true]
                  intro e hem
                  obtain ⟨oe, hoe, hEe⟩ := mem_effs.1 hem
                  simp only [Bool.and_eq_true, Bool.or_eq_true, Bool.not_eq_true', blt_nat, ble_nat, decide_eq_true_eq]
                  constructor
                  · cases hb1 : bef (befores (ops.toList.map preds) []) e j with
                    | false => exact .inl rfl
                    | true => exact .inr (hpe e hem ((hM.qE e oe hoe hEe).1 (bef_closed H.back hcl j hpre e hb1)))
                  · cases hb1 : bef (befores (ops.toList.map preds) []) j e with
                    | false => exact .inl rfl
                    | true =>
                      refine .inr ?_
                      rcases Nat.lt_or_ge e p with h' | h'
                      · have hXe := (hM.qE e oe hoe hEe).2 (by omega)
                        exact absurd (bef_closed H.back hcl e (hcl e hXe) j hb1) hX
                      · exact h'
                have hag := H.chk _ (chk_mem ho1 hm hp2 hfe how)
                unfold again at hag
                rw [ho1, H.states j (by omega), H.states p (by have := hM.qN; omega)] at hag
                simp only [hw, hr] at hag
                split at hag
                · rename_i u1 u' hu1 hu2
                  injection hu1 with hu1
                  subst hu1
                  exact ⟨p, u', hM.rel hp hp1 hp3, hu2, fun x hx => sameV_VR hag hx⟩
                · cases hag
          obtain ⟨p, u', g1, g2, g3⟩ := hread
          obtain ⟨v', g4, g5⟩ := R_sound a.eval g1 h1 hvs g2
          unfold Oper.wp
          rw [g4, Oper.upon_value]
          exact fin u v' β q w hts (g3 v' g5) (Ext.refl β) (hM.advR ho1 hE) hqb
      · -- makes a block
        have hE : isE o1 = false := by unfold isE; rw [hcl']
        simp only [semOp, hcl', opA] at he
        cases hr : semA o1.op (ss j).nx (evs (ts j) o1.args) with
        | none => rw [hr] at he; cases he
        | some pr =>
          obtain ⟨blk, u⟩ := pr
          rw [hr] at he
          injection he with he
          injection he with e3 e4
          subst e3
          obtain ⟨x, v', z, g1, g2, g3⟩ := A_sound (P := P) (w := w) a.eval h1 hvs hr hM.le
          unfold Oper.wp
          rw [g1, Oper.upon_value]
          have hf0 : β (ss j).nx = none := hM.open hp hfree (by omega) hX (Nat.le_refl _) (by rw [← e4]; exact Nat.lt_succ_self _)
          obtain ⟨g4, g5⟩ := g3 _ (upd_ext hf0) (upd_same β (ss j).nx (w.heap.size, 0, z))
          obtain ⟨_, g6⟩ := hM.advA hp hfree ho1 hE hX e4.symm g2 g5
          exact fin u v' _ q _ hts g4 (upd_ext hf0) g6 hqb
      · -- an effect
        have hE : isE o1 = true := by unfold isE; rw [hcl']
        have e := hjq hE
        subst e
        exact op_sound (hp.wfi (by omega)) (hM.rel hp (Nat.le_refl _) (fun i o h1 h2 => by omega)) h1 hvs H.call he
          (fun n hn1 hn2 => hM.open hp hfree (by omega) hX hn1 hn2) fun γ v' w' g1 g2 => effst hE γ v v' w' hts g1 g2
    · cases hstep
  · rename_i hw
    rw [hwant hw, if_neg (by simp)]
    injection hstep with hstep
    injection hstep with e1 e2
    cases hE : isE o1 with
    | true =>
      have e := hjq hE
      subst e
      refine effst hE β (.tup []) undef w e1.symm (.tup .nil) ?_
      rw [← e2]
      exact Stp.refl (hM.rel hp (Nat.le_refl _) (fun i o h1 h2 => by omega))
    | false => exact fin (.tup []) undef β q w e1.symm (.tup .nil) (Ext.refl β) (hM.advR ho1 hE) hqb
  · cases hstep

theorem ready_iff {listed : Array Bool} {j : Nat} : j ∈ Region.ready .any ops listed ↔ listed.getD j true = false ∧ j < ops.size ∧ ∀ d ∈ predsAt ops j, listed.getD d false = true := by
  rw [mem_ready]
  constructor
  · rintro ⟨h1, o, ho, h2⟩
    refine ⟨h1, (Array.getElem?_eq_some_iff.1 ho).1, fun d hd => ?_⟩
    unfold predsAt at hd
    rw [Array.getElem?_toList, ho] at hd
    simp only [Option.map_some, Option.getD_some, preds, List.mem_map, List.mem_filter, Array.mem_toList_iff] at hd
    obtain ⟨e, ⟨he1, he2⟩, rfl⟩ := hd
    exact h2 e he1 he2
  · rintro ⟨h1, h2, h3⟩
    refine ⟨h1, ops[j], Array.getElem?_eq_getElem h2, fun e he hb => h3 _ ?_⟩
    unfold predsAt
    rw [Array.getElem?_toList, Array.getElem?_eq_getElem h2]
    simp only [Option.map_some, Option.getD_some, preds, List.mem_map, List.mem_filter, Array.mem_toList_iff]
    exact ⟨e, ⟨he, hb⟩, rfl⟩

theorem any_go (H : Open P B0 ps nt ops l call ts ss tr) (hfree : Free β0 (ss 0).nx (ss l.length).nx) {Q : Exit → Act → World → Prop}
    (h : ∀ γ a' w', TRel γ ps nt (ts l.length) a' → Stp B0 β0 (ss 0) w0 γ (ss l.length) w' → Q .normal a' w') :
    ∀ (n : Nat) (listed : Array Bool) (L : List Nat) (X : Nat → Prop) (q : Nat) (β : Bt) (a : Act) (w : World), listed.size = ops.size → (∀ i, X i ↔ listed.getD i false = true) → L.length ≤ n → (∀ i, i < ops.size → ¬ X i → i ∈ L) →
      (∀ i, X i → ∀ d ∈ predsAt ops i, X d) → MInv l ss B0 β0 w0 X q β w → (q < l.length → ∃ o, l[q]? = some o ∧ isE o = true) → TmInv l ts ps nt X β a → wpAny P .any ops Q n listed a w := by
  have hlen : ops.size = l.length := by simpa using mapO_len H.hl
  have tf : ∀ {listed : Array Bool} {i : Nat}, i < listed.size → (listed.getD i true = false ↔ ¬ listed.getD i false = true) := by
    intro listed i hi
    rw [Array.getD_eq_getD_getElem?, Array.getD_eq_getD_getElem?, Array.getElem?_eq_getElem hi]
    simp
  have all_done : ∀ {listed : Array Bool} {X : Nat → Prop}, listed.size = ops.size → (∀ i, X i ↔ listed.getD i false = true) → Region.ready .any ops listed = [] → ∀ i, i < ops.size → X i := by
    intro listed X hsz hX hr i
    induction i using Nat.strongRecOn with
    | _ i ih =>
      intro hi
      by_cases hx : X i
      · exact hx
      · exfalso
        have : i ∈ Region.ready .any ops listed := ready_iff.2 ⟨(tf (by omega)).2 (fun e => hx ((hX i).2 e)), hi, fun d hd => (hX d).1 (ih d (back_spec H.back hd) (by have := back_spec H.back hd; omega))⟩
        rw [hr] at this
        cases this
  have done : ∀ {X : Nat → Prop} {q : Nat} {β : Bt} {a : Act} {w : World}, (∀ i, i < ops.size → X i) → MInv l ss B0 β0 w0 X q β w → (q < l.length → ∃ o, l[q]? = some o ∧ isE o = true) → TmInv l ts ps nt X β a → Q .normal a w := by
    intro X q β a w hall hM hqb hT
    have hq : q = l.length := by
      rcases Nat.lt_or_ge q l.length with h' | h'
      · obtain ⟨o, ho, hE⟩ := hqb h'
        have := (hM.qE q o ho hE).1 (hall q (by omega))
        omega
      · have := hM.qN; omega
    refine h β a w ⟨hT.sz, fun t ht => hT.tm t ht l.length (Nat.le_refl _) fun i o hi _ => ?_, hT.df⟩ (hM.done H.path hfree hq)
    have hil := (List.getElem?_eq_some_iff.1 hi).1
    exact ⟨fun _ => hil, fun _ => hall i (by omega)⟩
  intro n
  induction n with
  | zero =>
    intro listed L X q β a w hsz hX hL hmem hcl hM hqb hT
    have hL0 : L = [] := List.eq_nil_of_length_eq_zero (by omega)
    subst hL0
    have hall : ∀ i, i < ops.size → X i := fun i hi => by
      by_cases hx : X i
      · exact hx
      · cases hmem i hi hx
    refine ⟨?_, done hall hM hqb hT⟩
    cases hr : Region.ready .any ops listed with
    | nil => rfl
    | cons j r =>
      have hj : j ∈ Region.ready .any ops listed := by rw [hr]; simp
      obtain ⟨h1, h2, _⟩ := ready_iff.1 hj
      exact absurd ((hX j).1 (hall j h2)) ((tf (by omega)).1 h1)
  | succ n ih =>
    intro listed L X q β a w hsz hX hL hmem hcl hM hqb hT
    refine ⟨fun hr => done (all_done hsz hX hr) hM hqb hT, fun j hj => ?_⟩
    obtain ⟨h1, h2, h3⟩ := ready_iff.1 hj
    have hXj : ¬ X j := fun e => (tf (by omega)).1 h1 ((hX j).1 e)
    have hpre : ∀ d ∈ predsAt ops j, X d := fun d hd => (hX d).2 (h3 d hd)
    refine any_op H hfree hM hqb hT hcl h2 hXj hpre fun q' γ a' w' g1 g2 g3 => ?_
    refine ih (listed.setIfInBounds j true) (L.erase j) (fun i => X i ∨ i = j) q' γ a' w' (by simpa using hsz) (fun i => ?_) ?_ (fun i hi hx => ?_) ?_ g1 g2 g3
    · by_cases e : i = j
      · subst e
        have : (listed.setIfInBounds i true).getD i false = true := by
          rw [Array.getD_eq_getD_getElem?, Array.getElem?_setIfInBounds_self_of_lt (by omega)]; rfl
        exact ⟨fun _ => this, fun _ => .inr rfl⟩
      · rw [getD_set_ne false (fun h => e h.symm), ← hX i]
        exact ⟨fun hx => hx.resolve_right e, .inl⟩
    · rw [List.length_erase_of_mem (hmem j h2 hXj)]; omega
    · have hij : i ≠ j := fun e => hx (.inr e)
      exact (List.mem_erase_of_ne hij).2 (hmem i hi fun e => hx (.inl e))
    · rintro i (hi | rfl) d hd
      · exact .inl (hcl i hi d hd)
      · exact .inl (hpre d hd)

theorem region_any (hm : P.follows .mixedOrders = true) (hgr : Grows call) (hcall : CallOk P B0 call) (hl : mapO (comp1 P ps ops nt) ops.toList = some l) {T : Tm} {S : St} {T' : Tm} {S' : St} (htr : trace call l T S = some tr) (hlast : lastOf tr = some (T', S'))
    (hback : backOk (ops.toList.map preds) = true) (htemps : tempsOk l (befores (ops.toList.map preds) []) = true) (heff : effOk l (befores (ops.toList.map preds) []) = true)
    (hchk : ∀ c ∈ chkOf l (befores (ops.toList.map preds) []), again l tr c = true) {id : Nat} {β : Bt} {w : World} {a : Act} {Q : Exit → Act → World → Prop} (hwf : S.wf) (hR : Rel β B0 S.h w) (hT : TRel β ps nt T a) (hfree : Free β S.nx S'.nx)
    (h : ∀ γ a' w', TRel γ ps nt T' a' → Stp B0 β S w γ S' w' → Q .normal a' w') : (Code.region id ops true).wp P Q a w := by
  obtain ⟨ts, ss, rfl, rfl, h3, h4, h5⟩ := way_of_trace htr
  rw [h5] at hlast
  injection hlast with hlast
  injection hlast with e1 e2
  subst e1; subst e2
  have hp := path_of_way hgr h3 hwf
  obtain ⟨q, hq1, hq2, hq3, hq4⟩ := next_eff l l.length 0 (by omega)
  have hR1 : Rel β B0 (ss 0).h { w with drawn := w.drawn + 1 } := ⟨hR.blk, hR.inj, hR.lt, hR.le⟩
  refine wp_region_any hm (any_go (w0 := { w with drawn := w.drawn + 1 }) ⟨hl, h3, h4, hp, hback, htemps, heff, hchk, hcall⟩ hfree (fun γ a' w' g1 g2 => h γ a' w' g1 ⟨g2.ext, g2.dom, g2.rel, ⟨g2.bel.os, g2.bel.tape, g2.bel.output, g2.bel.size, g2.bel.block⟩, g2.fr, g2.src, g2.ph, g2.nx⟩)
    ops.size (Array.replicate ops.size false) (List.range ops.size) (fun _ => False) q β a _ (by simp) (fun i => ?_) (by simp) (fun i hi _ => by simpa using hi) (fun i hi => hi.elim) (MInv.start hp hR1 hfree hq2 (fun i o h1 h2 => hq3 i o (Nat.zero_le _) h1 h2)) hq4 ⟨hT.sz, hT.df, ?_⟩)
  · refine ⟨False.elim, fun e => ?_⟩
    rw [Array.getD_eq_getD_getElem?, Array.getElem?_replicate] at e
    split at e <;> cases e
  · intro t ht j hj hc
    rw [keepT hl h3 (Nat.zero_le j) hj fun i o h1 h2 hi hit => (hc i o hi hit).2 h2]
    exact hT.tm t ht
end

/-- all regions -/
theorem reg_ok {P : Program} {B0 : Nat} {F : Nat → Option AFn} (hm : P.follows .mixedOrders = true) (hF : TblOk P F) : ∀ E, ExecOk P B0 E → GrowsE E → RetE E → RegOk P B0 F E := by
  intro E hE hG hret ps nt id ops d c hc T S x T' S' hs β w a Q hwf hR hT hfree h
  have hcall : CallOk P B0 (callOf F E) := call_ok hF hE hret
  have hgr : Grows (callOf F E) := callOf_grows hG
  unfold compReg at hc
  split at hc
  · cases hc
  · rename_i l hl
    have hlen : ops.size = l.length := by simpa using mapO_len hl
    cases d with
    | false =>
      cases hc
      change xReg (callOf F E) l T S = _ at hs
      unfold xReg at hs
      split at hs
      · rename_i T1 S1 he
        cases hs
        refine wp_region ?_
        rw [List.range_eq_range']
        exact region_plain hcall hgr hl ops.size 0 (by omega) hwf hR hT.clear (by simpa using he) hfree h
      · cases hs
    | true =>
      simp only [cond_true] at hc
      rw [cond_eq_ite] at hc
      split at hc
      · rename_i hok
        simp only [Bool.and_eq_true] at hok
        split at hc
        · rename_i hnil
          cases hc
          change xReg (callOf F E) l T S = _ at hs
          unfold xReg at hs
          split at hs
          · rename_i T1 S1 he
            cases hs
            obtain ⟨tr, h1, h2⟩ := trace_of_run he
            exact region_any hm hgr hcall hl h1 h2 hok.1.1 hok.1.2 hok.2 (fun c hc => by rw [hnil] at hc; cases hc) hwf hR hT.clear hfree h
          · cases hs
        · cases hc
          change xRegD (callOf F E) l _ T S = _ at hs
          unfold xRegD at hs
          split at hs
          · rename_i tr htr
            rw [cond_eq_ite] at hs
            split at hs
            · rename_i hall
              rw [Option.map_eq_some_iff] at hs
              obtain ⟨⟨T1, S1⟩, h1, h2⟩ := hs
              cases h2
              exact region_any hm hgr hcall hl htr h1 hok.1.1 hok.1.2 hok.2 (fun c hc => List.all_eq_true.1 hall c hc) hwf hR hT.clear hfree h
            · cases hs
          · cases hs
      · cases hc

/-- The sum: a call of the abstract machine says what the model's does. -/
theorem acall_sound {P : Program} {B0 : Nat} {F : Nat → Option AFn} (hm : P.follows .mixedOrders = true) (hF : TblOk P F) (n : Nat) : CallOk P B0 (acall F n) :=
  call_ok hF (exec_ok (reg_ok hm hF) n).1 (exec_ret F n)
/-- A function that answers true where there is nothing in memory, does so wherever. -/
theorem known {P : Program} {F : Nat → Option AFn} (hm : P.follows .mixedOrders = true) (hF : TblOk P F) {ps f : Nat} {g : Func} {fn : AFn} (hg : P.funcs[f]? = some g) (hc : compFn P ps g = some fn) {n : Nat}
    (h : (match exec F n fn.body ⟨[], []⟩ ⟨.nil, 0⟩ with
      | some (.norm, T', S') => (match resV T' S'.h fn.res with | some (.b true) => true | _ => false)
      | some (.ret, T', S') => (match resV T' S'.h fn.res with | some (.b true) => true | _ => false)
      | _ => false) = true) : KnownTrue P f := by
  split at h
  · rename_i T' S' he
    split at h
    · rename_i hv; exact known_true (fun _ => reg_ok hm hF) hg hc he rfl hv
    · cases h
  · rename_i T' S' he
    split at h
    · rename_i hv; exact known_true (fun _ => reg_ok hm hF) hg hc he rfl hv
    · cases h
  · cases h
end Go.AM
