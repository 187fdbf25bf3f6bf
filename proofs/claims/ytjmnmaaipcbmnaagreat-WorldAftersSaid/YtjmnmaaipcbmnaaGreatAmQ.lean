/- Regions whose order is open: what holds of memory on the way, in any order. -/
import Derived.Test.YtjmnmaaipcbmnaaGreatAmP
set_option linter.unusedVariables false
set_option linter.unusedSimpArgs false
namespace Go.AM
open Go.RowKit (Below)

section
variable {l : List Op1} {ss : Nat → St}

/-- how the states of the written order follow each other -/
structure Path (l : List Op1) (ss : Nat → St) : Prop where
  gr : ∀ i, i < l.length → Gr (ss i) (ss (i + 1))
  non : ∀ i o, l[i]? = some o → isE o = false → ss (i + 1) = ss i ∨ ∃ blk, blk.own = true ∧ ss (i + 1) = { h := (ss i).h.set (ss i).nx (some blk), nx := (ss i).nx + 1 }
  wf : (ss 0).wf

theorem path_of_way {call : Cll} (hgr : Grows call) {ts : Nat → Tm} (h : Way call l ts ss) (hwf : (ss 0).wf) : Path l ss := by
  refine ⟨fun i hi => step1_gr hgr (h i l[i] (List.getElem?_eq_getElem hi)), fun i o ho hE => ?_, hwf⟩
  have hs := h i o ho
  unfold step1 at hs
  split at hs
  · split at hs
    · rename_i v S1 he
      injection hs with hs
      injection hs with h1 h2
      rw [← h2]
      unfold isE at hE
      cases hcl : o.op.cl <;> simp only [hcl] at hE <;> simp only [semOp, hcl] at he
      · unfold opR at he
        split at he <;> cases he
        exact .inl rfl
      · unfold opA at he
        split at he
        · rename_i blk u hb
          cases he
          exact .inr ⟨blk, semA_own hb, rfl⟩
        · cases he
      · cases hE
    · cases hs
  · injection hs with hs
    injection hs with h1 h2
    exact .inl h2.symm
  · cases hs

variable (hp : Path l ss)
include hp
theorem Path.le {i j : Nat} (hij : i ≤ j) (hj : j ≤ l.length) : Gr (ss i) (ss j) := by
  induction j with
  | zero => have : i = 0 := by omega
            subst this; exact Gr.refl _
  | succ j ih =>
    by_cases h : i = j + 1
    · subst h; exact Gr.refl _
    · exact (ih (by omega) (by omega)).trans (hp.gr j (by omega))
theorem Path.nx {i j : Nat} (hij : i ≤ j) (hj : j ≤ l.length) : (ss i).nx ≤ (ss j).nx := (hp.le hij hj).nx
theorem Path.wfi {i : Nat} (hi : i ≤ l.length) : (ss i).wf := (hp.le (Nat.zero_le _) hi).wf hp.wf
theorem Path.keep {p q : Nat} (hpq : p ≤ q) (hq : q ≤ l.length) (hno : ∀ i o, p ≤ i → i < q → l[i]? = some o → isE o = false) {n : Nat} (hn : n < (ss p).nx) : (ss q).h.get n = (ss p).h.get n := by
  induction q with
  | zero => have : p = 0 := by omega
            subst this; rfl
  | succ q ih =>
    by_cases h : p = q + 1
    · subst h; rfl
    · have h1 := ih (by omega) (by omega) (fun i o h1 h2 => hno i o h1 (by omega))
      rw [← h1]
      have hnx := hp.nx (i := p) (j := q) (by omega) (by omega)
      rcases hp.non q l[q] (List.getElem?_eq_getElem (by omega)) (hno q _ (by omega) (by omega) (List.getElem?_eq_getElem (by omega))) with e | ⟨blk, _, e⟩
      · rw [e]
      · rw [e]
        show ((ss q).h.set (ss q).nx (some blk)).get n = _
        rw [PM.get_set, if_neg (by omega)]
omit hp

/-- What is to be seen: all that lies in memory just ahead of effect q, and the blocks that were made ahead of their time. -/
def Vw (l : List Op1) (ss : Nat → St) (q n : Nat) (bl : AB) : Prop :=
  (n < (ss q).nx ∧ (ss q).h.get n = some bl) ∨ ∃ i o, q ≤ i ∧ l[i]? = some o ∧ isE o = false ∧ (ss i).nx ≤ n ∧ n < (ss (i + 1)).nx ∧ (ss (i + 1)).h.get n = some bl

structure MInv (l : List Op1) (ss : Nat → St) (B0 : Nat) (β0 : Bt) (w0 : World) (X : Nat → Prop) (q : Nat) (β : Bt) (w : World) : Prop where
  qN : q ≤ l.length
  qE : ∀ e o, l[e]? = some o → isE o = true → (X e ↔ e < q)
  blk : ∀ n bl b o z, Vw l ss q n bl → β n = some (b, o, z) → BR β B0 w.heap b o z bl
  inj : ∀ n m bl bm b x y, Vw l ss q n bl → Vw l ss q m bm → bl.own = true → β n = some (b, x) → β m = some (b, y) → n = m
  lt : ∀ n b x, β n = some (b, x) → b < w.heap.size
  le : B0 ≤ w.heap.size
  dom : ∀ n, β n ≠ none → β0 n ≠ none ∨ ∃ i, X i ∧ i < l.length ∧ (ss i).nx ≤ n ∧ n < (ss (i + 1)).nx
  ext : Ext β0 β
  phn : ∀ i o n, l[i]? = some o → isE o = false → ¬ X i → i < q → (ss i).nx ≤ n → n < (ss (i + 1)).nx → (ss q).h.get n = (ss (i + 1)).h.get n
  bel : Below B0 w0 w
  fr : ∀ c, c < w0.heap.size → ¬ Own β0 (ss 0).h c → w.heap[c]? = w0.heap[c]?
  src : ∀ c n bl x, Vw l ss q n bl → bl.own = true → β n = some (c, x) → w0.heap.size ≤ c ∨ Own β0 (ss 0).h c
  ph : ∀ n, n < (ss 0).nx → β0 n = none → (ss q).h.get n = (ss 0).h.get n

variable {B0 : Nat} {β0 : Bt} {w0 : World} {X : Nat → Prop} {q : Nat} {β : Bt} {w : World}

theorem MInv.low (hp : Path l ss) (h : MInv l ss B0 β0 w0 X q β w) {n : Nat} (hn : n < (ss 0).nx) (h0 : β0 n = none) : β n = none := by
  cases hb : β n with
  | none => rfl
  | some x =>
    rcases h.dom n (by rw [hb]; simp) with h1 | ⟨i, _, hi, h2, _⟩
    · exact absurd h0 h1
    · have := hp.nx (Nat.zero_le i) (by omega)
      omega
/-- names of operations that are still open are free -/
theorem MInv.open (hp : Path l ss) (h : MInv l ss B0 β0 w0 X q β w) (hfree : Free β0 (ss 0).nx (ss l.length).nx) {j n : Nat} (hj : j < l.length) (hX : ¬ X j) (h1 : (ss j).nx ≤ n) (h2 : n < (ss (j + 1)).nx) : β n = none := by
  have a1 := hp.nx (Nat.zero_le j) (by omega)
  have a2 := hp.nx (i := j + 1) (j := l.length) (by omega) (Nat.le_refl _)
  have h0 : β0 n = none := hfree n (by omega) (by omega)
  cases hb : β n with
  | none => rfl
  | some x =>
    rcases h.dom n (by rw [hb]; simp) with h3 | ⟨i, hi, hil, h3, h4⟩
    · exact absurd h0 h3
    · exfalso
      rcases Nat.lt_trichotomy i j with hlt | heq | hgt
      · have := hp.nx (i := i + 1) (j := j) (by omega) (by omega); omega
      · subst heq; exact hX hi
      · have := hp.nx (i := j + 1) (j := i) (by omega) (by omega); omega
/-- the relation to the memory at any place of the window -/
theorem MInv.rel (hp : Path l ss) (h : MInv l ss B0 β0 w0 X q β w) {p : Nat} (hpq : p ≤ q) (hno : ∀ i o, p ≤ i → i < q → l[i]? = some o → isE o = false) : Rel β B0 (ss p).h w := by
  have hv : ∀ n bl, (ss p).h.get n = some bl → Vw l ss q n bl := fun n bl hg => by
    have hn := hp.wfi (Nat.le_trans hpq h.qN) n bl hg
    refine .inl ⟨Nat.lt_of_lt_of_le hn (hp.nx hpq h.qN), ?_⟩
    rw [hp.keep hpq h.qN hno hn]
    exact hg
  exact ⟨fun n bl b o z hg => h.blk n bl b o z (hv n bl hg), fun n m bl bm b x y hn hm => h.inj n m bl bm b x y (hv n bl hn) (hv m bm hm), h.lt, h.le⟩

theorem MInv.start (hp : Path l ss) (hR : Rel β0 B0 (ss 0).h w) (hfree : Free β0 (ss 0).nx (ss l.length).nx) {q : Nat} (hq : q ≤ l.length) (hno : ∀ i o, i < q → l[i]? = some o → isE o = false) : MInv l ss B0 β0 w (fun _ => False) q β0 w := by
  have hv : ∀ n bl x, Vw l ss q n bl → β0 n = some x → (ss 0).h.get n = some bl := by
    intro n bl x hV hb
    have hlow : n < (ss l.length).nx → n < (ss 0).nx := fun h => by
      rcases Nat.lt_or_ge n (ss 0).nx with h' | h'
      · exact h'
      · rw [hfree n h' h] at hb; cases hb
    rcases hV with ⟨h1, h2⟩ | ⟨i, o, h1, h2, h3, h4, h5, h6⟩
    · have := hlow (Nat.lt_of_lt_of_le h1 (hp.nx hq (Nat.le_refl _)))
      rw [hp.keep (Nat.zero_le q) hq (fun i o _ h => hno i o h) this] at h2
      exact h2
    · have hi : i < l.length := (List.getElem?_eq_some_iff.1 h2).1
      have := hlow (Nat.lt_of_lt_of_le h5 (hp.nx (by omega) (Nat.le_refl _)))
      have := hp.nx (Nat.zero_le i) (by omega)
      omega
  refine ⟨hq, ?_, fun n bl b o z h1 h2 => hR.blk n bl b o z (hv n bl _ h1 h2) h2, fun n m bl bm b x y h1 h2 h3 h4 h5 => hR.inj n m bl bm b x y (hv n bl _ h1 h4) (hv m bm _ h2 h5) h3 h4 h5, hR.lt, hR.le,
    fun n h => .inl h, Ext.refl _, ?_, Below.refl _ _, fun _ _ _ => rfl, fun c n bl x h1 h2 h3 => .inr ⟨n, bl, x, hv n bl _ h1 h3, h2, h3⟩, ?_⟩
  · intro e o he hE
    refine ⟨False.elim, fun h => ?_⟩
    rw [hno e o h he] at hE; cases hE
  · intro i o n hi hE _ hiq h1 h2
    exact hp.keep (by omega) hq (fun k o' hk1 hk2 => hno k o' hk2) h2
  · intro n hn _
    exact hp.keep (Nat.zero_le q) hq (fun i o _ h => hno i o h) hn

/-- an operation that leaves memory as it is -/
theorem MInv.advR (h : MInv l ss B0 β0 w0 X q β w) {j : Nat} {o : Op1} (hj : l[j]? = some o) (hE : isE o = false) : MInv l ss B0 β0 w0 (fun i => X i ∨ i = j) q β w where
  qN := h.qN
  qE := fun e o' he hE' => by
    have : e ≠ j := fun e' => by subst e'; rw [hj] at he; cases he; rw [hE] at hE'; cases hE'
    rw [← h.qE e o' he hE']
    exact ⟨fun hx => hx.resolve_right this, .inl⟩
  blk := h.blk
  inj := h.inj
  lt := h.lt
  le := h.le
  dom := fun n hn => (h.dom n hn).imp id fun ⟨i, h1, h2⟩ => ⟨i, .inl h1, h2⟩
  ext := h.ext
  phn := fun i o' n h1 h2 h3 => h.phn i o' n h1 h2 fun hx => h3 (.inl hx)
  bel := h.bel
  fr := h.fr
  src := h.src
  ph := h.ph

/-- an operation that makes a block -/
theorem MInv.advA (hp : Path l ss) (h : MInv l ss B0 β0 w0 X q β w) (hfree : Free β0 (ss 0).nx (ss l.length).nx) {j : Nat} {o : Op1} (hj : l[j]? = some o) (hE : isE o = false) (hX : ¬ X j) {bl : AB} (hs : ss (j + 1) = { h := (ss j).h.set (ss j).nx (some bl), nx := (ss j).nx + 1 })
    (ho : bl.own = true) {x : Obj} {z : Nat} (hbr : BR (upd β (ss j).nx (w.heap.size, 0, z)) B0 (w.alloc x).heap w.heap.size 0 z bl) :
    β (ss j).nx = none ∧ MInv l ss B0 β0 w0 (fun i => X i ∨ i = j) q (upd β (ss j).nx (w.heap.size, 0, z)) (w.alloc x) := by
  have hjl : j < l.length := (List.getElem?_eq_some_iff.1 hj).1
  have hnx : (ss (j + 1)).nx = (ss j).nx + 1 := by rw [hs]
  have hf0 : β (ss j).nx = none := h.open hp hfree hjl hX (Nat.le_refl _) (by omega)
  have hext := upd_ext (x := (w.heap.size, 0, z)) hf0
  have hg1 : (ss (j + 1)).h.get (ss j).nx = some bl := by rw [hs]; show ((ss j).h.set _ _).get _ = _; rw [PM.get_set, if_pos rfl]
  have hheap : (w.alloc x).heap = w.heap.push x := rfl
  have hoth : ∀ k, k < w.heap.size → (w.alloc x).heap[k]? = w.heap[k]? := fun k hk => by rw [hheap, Array.getElem?_push, if_neg (by omega)]
  have hsz : (w.alloc x).heap.size = w.heap.size + 1 := by rw [hheap]; simp
  have hvbl : ∀ bm, Vw l ss q (ss j).nx bm → bm = bl := by
    intro bm hV
    rcases hV with ⟨h1, h2⟩ | ⟨i, o', h1, h2, h3, h4, h5, h6⟩
    · have hjq : j < q := by
        rcases Nat.lt_or_ge j q with h' | h'
        · exact h'
        · have := hp.nx h' (by omega); omega
      rw [h.phn j o _ hj hE hX hjq (Nat.le_refl _) (by omega), hg1] at h2
      exact (Option.some.inj h2).symm
    · have hi : i < l.length := (List.getElem?_eq_some_iff.1 h2).1
      rcases Nat.lt_trichotomy i j with hlt | heq | hgt
      · have := hp.nx (i := i + 1) (j := j) (by omega) (by omega); omega
      · subst heq; rw [hg1] at h6; exact (Option.some.inj h6).symm
      · have := hp.nx (i := j + 1) (j := i) (by omega) (by omega); omega
  have hup : ∀ m, m ≠ (ss j).nx → upd β (ss j).nx (w.heap.size, 0, z) m = β m := fun m hm => by simp only [upd, if_neg hm]
  refine ⟨hf0, ⟨h.qN, (h.advR hj hE).qE, ?_, ?_, ?_, ?_, ?_, h.ext.trans hext, (h.advR hj hE).phn, ?_, ?_, ?_, h.ph⟩⟩
  · intro n bm b o' z' hV hb
    by_cases hn : n = (ss j).nx
    · subst hn
      rw [upd_same] at hb
      cases hb
      rw [hvbl bm hV]
      exact hbr
    · rw [hup n hn] at hb
      exact ((h.blk n bm b o' z' hV hb).mono hext).congr (hoth b (h.lt n b _ hb))
  · intro n m bn bm b y y' hVn hVm hon hbn hbm
    by_cases hn : n = (ss j).nx <;> by_cases hm : m = (ss j).nx
    · rw [hn, hm]
    · subst hn
      rw [upd_same] at hbn
      rw [hup m hm] at hbm
      cases hbn
      have := h.lt m _ _ hbm
      omega
    · subst hm
      rw [upd_same] at hbm
      rw [hup n hn] at hbn
      cases hbm
      have := h.lt n _ _ hbn
      omega
    · rw [hup n hn] at hbn
      rw [hup m hm] at hbm
      exact h.inj n m bn bm b y y' hVn hVm hon hbn hbm
  · intro n b y hb
    by_cases hn : n = (ss j).nx
    · subst hn; rw [upd_same] at hb; cases hb; omega
    · rw [hup n hn] at hb; have := h.lt n b y hb; omega
  · have := h.le; omega
  · intro n hn
    by_cases e : n = (ss j).nx
    · subst e; exact .inr ⟨j, .inr rfl, hjl, Nat.le_refl _, by omega⟩
    · rw [hup n e] at hn
      exact (h.dom n hn).imp id fun ⟨i, h1, h2⟩ => ⟨i, .inl h1, h2⟩
  · exact h.bel.trans ⟨rfl, rfl, rfl, by omega, fun k hk => hoth k (Nat.lt_of_lt_of_le hk h.le)⟩
  · intro c hc hn
    have := h.bel.size
    rw [hoth c (by omega), h.fr c hc hn]
  · intro c n bm y hV hon hb
    by_cases hn : n = (ss j).nx
    · subst hn; rw [upd_same] at hb; cases hb; exact .inl h.bel.size
    · rw [hup n hn] at hb; exact h.src c n bm y hV hon hb

/-- the next effect -/
theorem next_eff (l : List Op1) : ∀ (k p : Nat), p + k = l.length → ∃ q, p ≤ q ∧ q ≤ l.length ∧ (∀ i o, p ≤ i → i < q → l[i]? = some o → isE o = false) ∧ (q < l.length → ∃ o, l[q]? = some o ∧ isE o = true)
  | 0, p, h => ⟨p, Nat.le_refl _, by omega, fun i o h1 h2 _ => by omega, fun h' => by omega⟩
  | k + 1, p, h => by
    cases hE : isE (l[p]'(by omega)) with
    | true => exact ⟨p, Nat.le_refl _, by omega, fun i o h1 h2 _ => by omega, fun _ => ⟨_, List.getElem?_eq_getElem (by omega), hE⟩⟩
    | false =>
      obtain ⟨q, h1, h2, h3, h4⟩ := next_eff l k (p + 1) (by omega)
      refine ⟨q, by omega, h2, fun i o hi1 hi2 ho => ?_, h4⟩
      by_cases e : i = p
      · subst e
        rw [List.getElem?_eq_getElem (by omega)] at ho
        cases ho
        exact hE
      · exact h3 i o (by omega) hi2 ho

/-- an effect -/
theorem MInv.advE (hp : Path l ss) (h : MInv l ss B0 β0 w0 X q β w) (hfree : Free β0 (ss 0).nx (ss l.length).nx) {o : Op1} (hq : l[q]? = some o) (hE : isE o = true) {γ : Bt} {w' : World} (hst : Stp B0 β (ss q) w γ (ss (q + 1)) w')
    {r : Nat} (hr1 : q + 1 ≤ r) (hr2 : r ≤ l.length) (hno : ∀ i o, q + 1 ≤ i → i < r → l[i]? = some o → isE o = false) : MInv l ss B0 β0 w0 (fun i => X i ∨ i = q) r γ w' := by
  have hql : q < l.length := (List.getElem?_eq_some_iff.1 hq).1
  have hXq : ¬ X q := fun hx => by have := (h.qE q o hq hE).1 hx; omega
  have hwfq := hp.wfi (i := q) (by omega)
  have hwf1 := hp.wfi (i := q + 1) (by omega)
  -- a view later is the memory after the effect, or a block made ahead of its time
  have early : ∀ n bl, (∃ i o, q + 1 ≤ i ∧ l[i]? = some o ∧ isE o = false ∧ (ss i).nx ≤ n ∧ n < (ss (i + 1)).nx ∧ (ss (i + 1)).h.get n = some bl) → (ss (q + 1)).nx ≤ n ∧ Vw l ss q n bl := by
    rintro n bl ⟨i, o', h1, h2, h3, h4, h5, h6⟩
    have hi : i < l.length := (List.getElem?_eq_some_iff.1 h2).1
    have := hp.nx h1 (by omega)
    exact ⟨by omega, .inr ⟨i, o', by omega, h2, h3, h4, h5, h6⟩⟩
  have hv : ∀ n bl, Vw l ss r n bl → (n < (ss (q + 1)).nx ∧ (ss (q + 1)).h.get n = some bl) ∨ ((ss (q + 1)).nx ≤ n ∧ Vw l ss q n bl) := by
    rintro n bl (⟨h1, h2⟩ | ⟨i, o', h1, h2, h3, h4, h5, h6⟩)
    · rcases Nat.lt_or_ge n (ss (q + 1)).nx with h' | h'
      · rw [hp.keep hr1 hr2 hno h'] at h2
        exact .inl ⟨h', h2⟩
      · -- made between the two effects
        have : ∀ k, q + 1 ≤ k → k ≤ r → n < (ss k).nx → ∃ i, q + 1 ≤ i ∧ i < r ∧ (ss i).nx ≤ n ∧ n < (ss (i + 1)).nx := by
          intro k
          induction k with
          | zero => intro h1; omega
          | succ k ih =>
            intro h1 h2 h3
            by_cases e : k = q
            · subst e; omega
            · rcases Nat.lt_or_ge n (ss k).nx with h4 | h4
              · exact ih (by omega) (by omega) h4
              · exact ⟨k, by omega, by omega, h4, h3⟩
        obtain ⟨i, hi1, hi2, hi3, hi4⟩ := this r hr1 (Nat.le_refl _) h1
        refine .inr (early n bl ⟨i, l[i], hi1, List.getElem?_eq_getElem (by omega), hno i _ hi1 hi2 (List.getElem?_eq_getElem (by omega)), hi3, hi4, ?_⟩)
        rw [← hp.keep (p := i + 1) (by omega) hr2 (fun k o' hk1 hk2 => hno k o' (by omega) hk2) hi4]
        exact h2
    · exact .inr (early n bl ⟨i, o', by omega, h2, h3, h4, h5, h6⟩)
  -- names beyond the effect's own are as they were
  have hold : ∀ n x, (ss (q + 1)).nx ≤ n → γ n = some x → β n = some x := by
    intro n x hn hg
    cases hb : β n with
    | none => have := hst.dom n hb (by rw [hg]; simp); omega
    | some y => rw [hst.ext n y hb] at hg; exact hg
  have hnxq := hp.nx (i := q) (j := q + 1) (by omega) (by omega)
  have notown : ∀ n bl b x, (ss (q + 1)).nx ≤ n → Vw l ss q n bl → β n = some (b, x) → ¬ Own β (ss q).h b := by
    rintro n bl b x hn hV hb ⟨m, bm, y, hm, hom, hbm⟩
    have hmn := hwfq m bm hm
    have := h.inj m n bm bl b y x (.inl ⟨hmn, hm⟩) hV hom hbm hb
    omega
  have hheap : ∀ n bl b x, (ss (q + 1)).nx ≤ n → Vw l ss q n bl → β n = some (b, x) → w'.heap[b]? = w.heap[b]? := fun n bl b x hn hV hb => hst.fr b (h.lt n b x hb) (notown n bl b x hn hV hb)
  have mix : ∀ n m bl bm b x y, (ss (q + 1)).nx ≤ n → Vw l ss q n bl → β n = some (b, x) → bl.own = true → (ss (q + 1)).h.get m = some bm → γ m = some (b, y) → False := by
    intro n m bl bm b x y hn hV hb ho hm hbm
    have hmn := hwf1 m bm hm
    cases hom : bm.own with
    | true =>
      rcases hst.src b ⟨m, bm, y, hm, hom, hbm⟩ with h1 | h1
      · have := h.lt n b x hb; omega
      · exact notown n bl b x hn hV hb h1
    | false =>
      have hm' := (hp.gr q hql).ro m bm hm hom
      have hmq := hwfq m bm hm'
      have hbm' : β m = some (b, y) := by
        cases hb' : β m with
        | none => have := hst.dom m hb' (by rw [hbm]; simp); omega
        | some u => rw [hst.ext m u hb'] at hbm; exact hbm
      have := h.inj n m bl bm b x y hV (.inl ⟨hmq, hm'⟩) ho hb hbm'
      omega
  refine ⟨hr2, ?_, ?_, ?_, hst.rel.lt, hst.rel.le, ?_, h.ext.trans hst.ext, ?_, h.bel.trans hst.bel, ?_, ?_, ?_⟩
  · intro e o' he hE'
    constructor
    · rintro (hx | rfl)
      · have := (h.qE e o' he hE').1 hx; omega
      · omega
    · intro her
      rcases Nat.lt_trichotomy e q with h1 | h1 | h1
      · exact .inl ((h.qE e o' he hE').2 h1)
      · exact .inr h1
      · rw [hno e o' h1 her he] at hE'; cases hE'
  · intro n bl b o' z hV hb
    rcases hv n bl hV with ⟨h1, h2⟩ | ⟨h1, h2⟩
    · exact hst.rel.blk n bl b o' z h2 hb
    · have hb' := hold n _ h1 hb
      exact ((h.blk n bl b o' z h2 hb').mono hst.ext).congr (hheap n bl b _ h1 h2 hb')
  · intro n m bn bm b x y hVn hVm hon hbn hbm
    rcases hv n bn hVn with ⟨h1, h2⟩ | ⟨h1, h2⟩ <;> rcases hv m bm hVm with ⟨h3, h4⟩ | ⟨h3, h4⟩
    · exact hst.rel.inj n m bn bm b x y h2 h4 hon hbn hbm
    · exfalso
      have hbm' := hold m _ h3 hbm
      rcases hst.src b ⟨n, bn, x, h2, hon, hbn⟩ with h5 | h5
      · have := h.lt m b y hbm'; omega
      · exact notown m bm b y h3 h4 hbm' h5
    · exact (mix n m bn bm b x y h1 h2 (hold n _ h1 hbn) hon h4 hbm).elim
    · exact h.inj n m bn bm b x y h2 h4 hon (hold n _ h1 hbn) (hold m _ h3 hbm)
  · intro n hn
    cases hb : β n with
    | none =>
      have := hst.dom n hb hn
      exact .inr ⟨q, .inr rfl, hql, this.1, this.2⟩
    | some x => exact (h.dom n (by rw [hb]; simp)).imp id fun ⟨i, h1, h2⟩ => ⟨i, .inl h1, h2⟩
  · intro i o' n hi hiE hiX hir h1 h2
    have hil : i < l.length := (List.getElem?_eq_some_iff.1 hi).1
    have hne : i ≠ q := fun e => hiX (.inr e)
    rcases Nat.lt_or_ge i q with hlt | hge
    · have hnq : n < (ss q).nx := Nat.lt_of_lt_of_le h2 (hp.nx (by omega) (by omega))
      have hb : β n = none := h.open hp hfree hil (fun hx => hiX (.inl hx)) h1 h2
      rw [hp.keep hr1 hr2 hno (by omega), hst.ph n hnq hb]
      exact h.phn i o' n hi hiE (fun hx => hiX (.inl hx)) hlt h1 h2
    · exact hp.keep (by omega) hr2 (fun k o' hk1 hk2 => hno k o' (by omega) hk2) h2
  · intro c hc hn
    have := h.bel.size
    rw [hst.fr c (by omega) ?_, h.fr c hc hn]
    rintro ⟨m, bm, y, hm, hom, hbm⟩
    rcases h.src c m bm y (.inl ⟨hwfq m bm hm, hm⟩) hom hbm with h1 | h1
    · omega
    · exact hn h1
  · intro c n bl x hV hon hb
    rcases hv n bl hV with ⟨h1, h2⟩ | ⟨h1, h2⟩
    · rcases hst.src c ⟨n, bl, x, h2, hon, hb⟩ with h3 | ⟨m, bm, y, hm, hom, hbm⟩
      · exact .inl (Nat.le_trans h.bel.size h3)
      · exact h.src c m bm y (.inl ⟨hwfq m bm hm, hm⟩) hom hbm
    · exact h.src c n bl x h2 hon (hold n _ h1 hb)
  · intro n hn h0
    have hb := h.low hp hn h0
    have := hp.nx (Nat.zero_le q) (by omega)
    rw [hp.keep hr1 hr2 hno (by omega), hst.ph n (by omega) hb, h.ph n hn h0]

/-- all done -/
theorem MInv.done (hp : Path l ss) (h : MInv l ss B0 β0 w0 X q β w) (hfree : Free β0 (ss 0).nx (ss l.length).nx) (hq : q = l.length) : Stp B0 β0 (ss 0) w0 β (ss l.length) w := by
  subst hq
  have hv : ∀ n bl, (ss l.length).h.get n = some bl → Vw l ss l.length n bl := fun n bl hg => .inl ⟨hp.wfi (Nat.le_refl _) n bl hg, hg⟩
  refine ⟨h.ext, ?_, h.rel hp (Nat.le_refl _) (fun i o h1 h2 => by omega), h.bel, h.fr, ?_, h.ph, hp.nx (Nat.zero_le _) (Nat.le_refl _)⟩
  · intro n h0 hn
    rcases h.dom n hn with h1 | ⟨i, _, hi, h2, h3⟩
    · exact absurd h0 h1
    · have a1 := hp.nx (Nat.zero_le i) (by omega)
      have a2 := hp.nx (i := i + 1) (j := l.length) (by omega) (Nat.le_refl _)
      exact ⟨by omega, by omega⟩
  · rintro c ⟨n, bl, x, hg, ho, hb⟩
    exact h.src c n bl x (hv n bl hg) ho hb
end
end Go.AM
