/- The texts LibCtxN, LibCtxO, LibCtxP, LibLaw, LibTimerD, LawTimerP, LawTimerX, LibCtxQ, LibCtxR, LawCtxTimers of a proof of CtxTimers, merged. -/
import Derived.Test.YtddabelahpdekaaCtxTimersG5
/- ctx: what is so of contexts; what is made, and who is cancelled; in plain Lean. -/
set_option linter.unusedVariables false
set_option linter.unusedSimpArgs false
namespace Go.AM
structure WF (S : CX) : Prop where
  tr : TreeOk S.σ.tree
  sz : S.σ.ones.length ≤ 64 ∧ S.σ.afts.length ≤ 64
  len : S.σ.tree.length = S.σ.ones.length + S.σ.afts.length
  who1 : ∀ (i : Nat) (x : One), S.σ.ones[i]? = some x → ∃ k : Nat, x.node = (k : Int) ∧ k < S.σ.tree.length ∧ S.σ.who k = some (i : Int)
  who2 : ∀ (j : Nat) (x : Aft), S.σ.afts[j]? = some x → ∃ k : Nat, x.node = (k : Int) ∧ k < S.σ.tree.length ∧ S.σ.who k = some (-(j : Int) - 1) ∧ kidsOf S.σ.tree (k : Int) = []
  cover : ∀ k : Nat, k < S.σ.tree.length → (∃ (i : Nat) (x : One), S.σ.who k = some (i : Int) ∧ S.σ.ones[i]? = some x ∧ x.node = (k : Int)) ∨ (∃ (j : Nat) (x : Aft), S.σ.who k = some (-(j : Int) - 1) ∧ S.σ.afts[j]? = some x ∧ x.node = (k : Int))
  live : ∀ (i k : Nat) (x : One) (n : Nd), S.σ.ones[i]? = some x → x.node = (k : Int) → S.σ.tree[k]? = some n → (n.linked = true ↔ x.free = false ∧ x.err = 0)
  chs : ∀ x ∈ S.σ.ones, ∀ a, x.c = some a → (S.χ a).recvs.length + (S.χ a).sends.length ≤ 1000000
  tms : ∀ x ∈ S.σ.ones, ∀ s o, S.σ.t = some s → S.τ.one x.timer = some o → o.c = none
  tlen : S.τ.x.l.length ≤ 1000000
/-- a context that is not over -/
theorem WF.liveAt {S : CX} (h : WF S) {i k : Nat} {x : One} (hx : S.σ.ones[i]? = some x) (hk : x.node = (k : Int)) (hf : x.free = false) (he : x.err = 0) (n : Nat) : ∀ j ∈ pre S.σ.tree n k, LiveAt S.σ.tree S j := by
  intro j hj
  have hk2 := h.who1 i x hx
  obtain ⟨k', e1, e2, e3⟩ := hk2
  have : k' = k := by omega
  subst this
  have hjl := (pre_ge h.tr _ _ _ hj).2 e2
  have hlk : j = k' ∨ ∃ m, S.σ.tree[j]? = some m ∧ m.linked = true := by
    by_cases e : j = k'
    · exact .inl e
    · obtain ⟨m, hm⟩ := pre_up n k' j hj e
      rcases hm with ⟨h1, h2, _⟩ | hm
      · exact .inr ⟨m, h1, h2⟩
      · exact hm.elim
  rcases h.cover j hjl with ⟨i2, x2, c1, c2, c3⟩ | ⟨j2, x2, c1, c2, c3⟩
  · have hfe : x2.free = false ∧ x2.err = 0 := by
      rcases hlk with rfl | ⟨m, m1, m2⟩
      · rw [e3] at c1
        have : i = i2 := by simp at c1; omega
        subst this
        rw [hx] at c2; cases c2
        exact ⟨hf, he⟩
      · exact (h.live i2 j x2 m c2 c3 m1).1 m2
    have hmem := List.mem_of_getElem? c2
    exact .inl ⟨i2, x2, c1, c2, c3, hfe.1, hfe.2, h.chs x2 hmem, h.tms x2 hmem⟩
  · have hj2 : j2 < S.σ.afts.length := (List.getElem?_eq_some_iff.1 c2).1
    obtain ⟨k3, d1, d2, d3, d4⟩ := h.who2 j2 x2 c2
    have : k3 = j := by omega
    subst this
    exact .inr ⟨j2, x2, c1, by have := h.sz.2; omega, c2, c3, d4⟩
theorem WF.cancelP {S : CX} (h : WF S) {i k : Nat} {x : One} (hx : S.σ.ones[i]? = some x) (hk : x.node = (k : Int)) (hf : x.free = false) (he : x.err = 0) (err cause : Int) :
    S.cancelP 200 i err cause = some (walked S.σ.tree err cause (fun _ => false) (pre S.σ.tree 200 k) (S, [], [])) := by
  obtain ⟨k', e1, e2, e3⟩ := h.who1 i x hx
  have : k' = k := by omega
  subst this
  have := h.len
  have := h.sz
  exact cancel_walk h.tr 200 k' _ S i err cause (by omega) e2 (killT_none _ (fun _ => rfl)).symm (fun _ _ => rfl) (h.liveAt hx hk hf he 200) e3 h.tlen
theorem CX.cancelP_dead {S : CX} {i : Nat} {x : One} (hx : S.σ.ones[i]? = some x) (he : x.free = true ∨ x.err ≠ 0) (n : Nat) (err cause : Int) : S.cancelP (n + 1) i err cause = some (S, [], []) := by
  unfold CX.cancelP
  rw [if_pos (by omega)]
  simp only [Int.toNat_natCast, hx]
  rw [if_pos he]
/-! ### what hits make of each -/
structure Whos (S : CX) : Prop where
  w1 : ∀ (i : Nat) (x : One), S.σ.ones[i]? = some x → ∃ k : Nat, x.node = (k : Int) ∧ S.σ.who k = some (i : Int)
  w2 : ∀ (j : Nat) (x : Aft), S.σ.afts[j]? = some x → ∃ k : Nat, x.node = (k : Int) ∧ S.σ.who k = some (-(j : Int) - 1)
theorem WF.whos {S : CX} (h : WF S) : Whos S := ⟨fun i x hx => by obtain ⟨k, h1, _, h3⟩ := h.who1 i x hx; exact ⟨k, h1, h3⟩, fun i x hx => by obtain ⟨k, h1, _, h3, _⟩ := h.who2 i x hx; exact ⟨k, h1, h3⟩⟩
def inL (l : List Nat) (n : Int) : Bool := l.any fun i => decide (n = (i : Int))
theorem hitL_ones (err cause : Int) {acc : CRes} {j : Nat} {T : List Nd} (hw : Whos acc.1) (hj : LiveAt T acc.1 j) :
    (∀ w : Nat, (hitL err cause acc j).1.σ.ones[w]? = (acc.1.σ.ones[w]?).map fun (x : One) => if x.node = (j : Int) then { x with err := err, cause := cause } else x) ∧
    (∀ w : Nat, (hitL err cause acc j).1.σ.afts[w]? = (acc.1.σ.afts[w]?).map fun (x : Aft) => if x.node = (j : Int) then { x with over := true } else x) := by
  rcases hj with ⟨w0, x0, q1, q2, q3, _⟩ | ⟨k0, x0, q1, q5, q2, q3, _⟩
  · have hnn : ¬ ((w0 : Int) < 0) := by omega
    have e : hitL err cause acc j = ((((acc.1.setOne w0 { x0 with err := err, cause := cause }).endT x0.c).1.stopT x0.timer), acc.2.1 ++ [⟨w0, err, cause, ((acc.1.setOne w0 { x0 with err := err, cause := cause }).endT x0.c).2⟩], acc.2.2) := by
      unfold hitL
      simp only [q1, Option.getD_some, hnn, if_false, Int.toNat_natCast, q2]
    rw [e]
    simp only
    rw [(stopT_facts _ _).1, (endT_facts _ _).1]
    refine ⟨fun w => ?_, fun w => ?_⟩
    · show (acc.1.σ.ones.set w0 _)[w]? = _
      by_cases hww : w0 = w
      · subst hww
        have hl : w0 < acc.1.σ.ones.length := (List.getElem?_eq_some_iff.1 q2).1
        rw [List.getElem?_set_self hl, q2]; simp [q3]
      · rw [List.getElem?_set_ne hww]
        cases hx : acc.1.σ.ones[w]? with
        | none => rfl
        | some y =>
          have : y.node ≠ (j : Int) := by
            intro h9
            obtain ⟨k, h1, h2⟩ := hw.w1 w y hx
            have : k = j := by omega
            subst this
            rw [q1] at h2; simp at h2; omega
          simp [this]
    · show acc.1.σ.afts[w]? = _
      cases hx : acc.1.σ.afts[w]? with
      | none => rfl
      | some y =>
        have : y.node ≠ (j : Int) := by
          intro h9
          obtain ⟨k, h1, h2⟩ := hw.w2 w y hx
          have : k = j := by omega
          subst this
          rw [q1] at h2; simp at h2; omega
        simp [this]
  · have hneg : (-(k0 : Int) - 1) < 0 := by omega
    have hk : (-(-(k0 : Int) - 1) - 1) = (k0 : Int) := by omega
    have e : hitL err cause acc j = ({ acc.1 with σ := { acc.1.σ with afts := acc.1.σ.afts.set k0 { x0 with over := true } } }, acc.2.1, acc.2.2 ++ [((k0 : Int), x0.prog)]) := by
      unfold hitL
      simp only [q1, Option.getD_some, hneg, if_true, hk, Int.toNat_natCast, q2]
    rw [e]
    refine ⟨fun w => ?_, fun w => ?_⟩
    · show acc.1.σ.ones[w]? = _
      cases hx : acc.1.σ.ones[w]? with
      | none => rfl
      | some y =>
        have : y.node ≠ (j : Int) := by
          intro h9
          obtain ⟨k, h1, h2⟩ := hw.w1 w y hx
          have : k = j := by omega
          subst this
          rw [q1] at h2; simp at h2; omega
        simp [this]
    · show (acc.1.σ.afts.set k0 _)[w]? = _
      by_cases hww : k0 = w
      · subst hww
        have hl : k0 < acc.1.σ.afts.length := (List.getElem?_eq_some_iff.1 q2).1
        rw [List.getElem?_set_self hl, q2]; simp [q3]
      · rw [List.getElem?_set_ne hww]
        cases hx : acc.1.σ.afts[w]? with
        | none => rfl
        | some y =>
          have : y.node ≠ (j : Int) := by
            intro h9
            obtain ⟨k, h1, h2⟩ := hw.w2 w y hx
            have : k = j := by omega
            subst this
            rw [q1] at h2; simp at h2; omega
          simp [this]
theorem Whos.hit {T : List Nd} (err cause : Int) {acc : CRes} {j : Nat} (hw : Whos acc.1) (hj : LiveAt T acc.1 j) : Whos (hitL err cause acc j).1 := by
  have hk := hitL_keeps err cause acc j
  obtain ⟨h1, h2⟩ := hitL_ones err cause hw hj
  refine ⟨fun i x hx => ?_, fun i x hx => ?_⟩
  · rw [h1] at hx
    cases e : acc.1.σ.ones[i]? with
    | none => rw [e] at hx; cases hx
    | some y =>
      rw [e] at hx
      obtain ⟨k, k1, k2⟩ := hw.w1 i y e
      simp at hx; subst hx
      exact ⟨k, by split <;> exact k1, by rw [hk.1]; exact k2⟩
  · rw [h2] at hx
    cases e : acc.1.σ.afts[i]? with
    | none => rw [e] at hx; cases hx
    | some y =>
      rw [e] at hx
      obtain ⟨k, k1, k2⟩ := hw.w2 i y e
      simp at hx; subst hx
      exact ⟨k, by split <;> exact k1, by rw [hk.1]; exact k2⟩
theorem hits_ones {T : List Nd} (err cause : Int) : ∀ (l : List Nat) (acc : CRes), Whos acc.1 → (∀ i ∈ l, LiveAt T acc.1 i) → l.Nodup →
    (∀ w : Nat, (l.foldl (hitL err cause) acc).1.σ.ones[w]? = (acc.1.σ.ones[w]?).map fun (x : One) => if inL l x.node = true then { x with err := err, cause := cause } else x) ∧
    (∀ w : Nat, (l.foldl (hitL err cause) acc).1.σ.afts[w]? = (acc.1.σ.afts[w]?).map fun (x : Aft) => if inL l x.node = true then { x with over := true } else x) ∧
    (l.foldl (hitL err cause) acc).1.σ.t = acc.1.σ.t ∧ (l.foldl (hitL err cause) acc).1.τ.ones = acc.1.τ.ones ∧
    (∀ b n, (acc.1.χ b).recvs.length + (acc.1.χ b).sends.length ≤ n → ((l.foldl (hitL err cause) acc).1.χ b).recvs.length + ((l.foldl (hitL err cause) acc).1.χ b).sends.length ≤ n)
  | [], acc, _, _, _ => by simp [inL]
  | a :: r, acc, hw, h, hn => by
    have ha := h a (by simp)
    have hn' := List.nodup_cons.1 hn
    have hk := hitL_keeps err cause acc a
    obtain ⟨o1, o2⟩ := hitL_ones err cause hw ha
    obtain ⟨i1, i2, i3, i4, i5⟩ := hits_ones (T := T) err cause r (hitL err cause acc a) (hw.hit err cause ha) (fun i hi => (h i (by simp [hi])).hit err cause ha (by rintro rfl; exact hn'.1 hi)) hn'.2
    simp only [List.foldl_cons]
    refine ⟨fun w => ?_, fun w => ?_, i3.trans hk.2.2.1, i4.trans hk.2.2.2.1, fun b n hb => i5 b n (hk.2.2.2.2.2.1 b n hb)⟩
    · rw [i1, o1]
      cases acc.1.σ.ones[w]? with
      | none => rfl
      | some x =>
        simp only [Option.map_some, inL, List.any_cons]
        by_cases e : x.node = (a : Int)
        · simp only [e, if_true, decide_true, Bool.true_or]
          split <;> rfl
        · simp [e]
    · rw [i2, o2]
      cases acc.1.σ.afts[w]? with
      | none => rfl
      | some x =>
        simp only [Option.map_some, inL, List.any_cons]
        by_cases e : x.node = (a : Int)
        · simp only [e, if_true, decide_true, Bool.true_or]
          split <;> rfl
        · simp [e]
theorem inL_nat {l : List Nat} {n : Int} {k : Nat} (h : n = (k : Int)) : inL l n = decide (k ∈ l) := by
  subst h
  unfold inL
  rw [Bool.eq_iff_iff]
  simp only [List.any_eq_true, decide_eq_true_eq]
  constructor
  · rintro ⟨x, h1, h2⟩
    have : k = x := by omega
    rw [this]; exact h1
  · exact fun h1 => ⟨k, h1, rfl⟩
/-- what a walk leaves is as it should be -/
theorem WF.walk {S : CX} (h : WF S) {i k : Nat} {x : One} (hx : S.σ.ones[i]? = some x) (hk : x.node = (k : Int)) (hf : x.free = false) (he : x.err = 0) {err cause : Int} (herr : err ≠ 0) {r : CRes}
    (hr : walked S.σ.tree err cause (fun _ => false) (pre S.σ.tree 200 k) (S, [], []) = r) : WF r.1 ∧ r.1.σ.who = S.σ.who ∧ r.1.σ.t = S.σ.t ∧ r.1.τ.ones = S.τ.ones ∧
    r.1.σ.tree = killT S.σ.tree (fun j => decide (j ∈ pre S.σ.tree 200 k)) ∧
    (∀ w : Nat, r.1.σ.ones[w]? = (S.σ.ones[w]?).map fun (x : One) => if inL (pre S.σ.tree 200 k) x.node = true then { x with err := err, cause := cause } else x) ∧
    (∀ w : Nat, r.1.σ.afts[w]? = (S.σ.afts[w]?).map fun (x : Aft) => if inL (pre S.σ.tree 200 k) x.node = true then { x with over := true } else x) := by
  have hl := h.liveAt hx hk hf he 200
  have hnd := pre_nodup h.tr 200 k
  obtain ⟨i1, i2, i3, i4, i5⟩ := hits_ones (T := S.σ.tree) err cause (pre S.σ.tree 200 k) (S, [], []) h.whos hl hnd
  obtain ⟨k1, k2, k3, k4, k5, k6⟩ := hits_keep (T := S.σ.tree) err cause (pre S.σ.tree 200 k) (S, [], []) hl hnd
  have hrt : r.1.σ.tree = killT S.σ.tree (fun j => decide (j ∈ pre S.σ.tree 200 k)) := by rw [← hr]; show killT _ _ = _; simp
  have hro : r.1.σ.ones = ((pre S.σ.tree 200 k).foldl (hitL err cause) (S, [], [])).1.σ.ones := by rw [← hr]; rfl
  have hra : r.1.σ.afts = ((pre S.σ.tree 200 k).foldl (hitL err cause) (S, [], [])).1.σ.afts := by rw [← hr]; rfl
  have hrw : r.1.σ.who = S.σ.who := by rw [← k1, ← hr]; rfl
  have hrtt : r.1.σ.t = S.σ.t := by rw [← i3, ← hr]; rfl
  have hrτ : r.1.τ = ((pre S.σ.tree 200 k).foldl (hitL err cause) (S, [], [])).1.τ := by rw [← hr]; rfl
  have hrχ : r.1.χ = ((pre S.σ.tree 200 k).foldl (hitL err cause) (S, [], [])).1.χ := by rw [← hr]; rfl
  rw [← hro] at i1
  rw [← hra] at i2
  rw [← hrτ] at i4 k3
  rw [← hrχ] at i5
  simp only at i1 i2 i4 k3 i5
  have hlo : r.1.σ.ones.length = S.σ.ones.length := by
    rcases Nat.lt_trichotomy r.1.σ.ones.length S.σ.ones.length with h9 | h9 | h9
    · have := i1 r.1.σ.ones.length
      rw [List.getElem?_eq_none (Nat.le_refl _), List.getElem?_eq_getElem h9] at this; cases this
    · exact h9
    · have := i1 S.σ.ones.length
      rw [List.getElem?_eq_getElem h9, List.getElem?_eq_none (Nat.le_refl _)] at this; cases this
  have hla : r.1.σ.afts.length = S.σ.afts.length := by
    rcases Nat.lt_trichotomy r.1.σ.afts.length S.σ.afts.length with h9 | h9 | h9
    · have := i2 r.1.σ.afts.length
      rw [List.getElem?_eq_none (Nat.le_refl _), List.getElem?_eq_getElem h9] at this; cases this
    · exact h9
    · have := i2 S.σ.afts.length
      rw [List.getElem?_eq_getElem h9, List.getElem?_eq_none (Nat.le_refl _)] at this; cases this
  have hlt : r.1.σ.tree.length = S.σ.tree.length := by rw [hrt, killT_length]
  have back : ∀ (w : Nat) (y : One), r.1.σ.ones[w]? = some y → ∃ x, S.σ.ones[w]? = some x ∧ y = if inL (pre S.σ.tree 200 k) x.node = true then { x with err := err, cause := cause } else x := by
    intro w y hy
    rw [i1] at hy
    cases e : S.σ.ones[w]? with
    | none => rw [e] at hy; cases hy
    | some x => rw [e] at hy; simp at hy; exact ⟨x, rfl, hy.symm⟩
  have backA : ∀ (w : Nat) (y : Aft), r.1.σ.afts[w]? = some y → ∃ x, S.σ.afts[w]? = some x ∧ y = if inL (pre S.σ.tree 200 k) x.node = true then { x with over := true } else x := by
    intro w y hy
    rw [i2] at hy
    cases e : S.σ.afts[w]? with
    | none => rw [e] at hy; cases hy
    | some x => rw [e] at hy; simp at hy; exact ⟨x, rfl, hy.symm⟩
  refine ⟨⟨by rw [hrt]; exact h.tr.kill _, by rw [hlo, hla]; exact h.sz, by rw [hlt, hlo, hla]; exact h.len, ?_, ?_, ?_, ?_, ?_, ?_, Nat.le_trans k3 h.tlen⟩, hrw, hrtt, i4, hrt, i1, i2⟩
  · intro w y hy
    obtain ⟨x, hx, rfl⟩ := back w y hy
    obtain ⟨k, h1, h2, h3⟩ := h.who1 w x hx
    exact ⟨k, by split <;> exact h1, by rw [hlt]; exact h2, by rw [hrw]; exact h3⟩
  · intro w y hy
    obtain ⟨x, hx, rfl⟩ := backA w y hy
    obtain ⟨k, h1, h2, h3, h4⟩ := h.who2 w x hx
    exact ⟨k, by split <;> exact h1, by rw [hlt]; exact h2, by rw [hrw]; exact h3, by rw [hrt, kidsOf_kill, h4]; rfl⟩
  · intro j hj
    rw [hlt] at hj
    rcases h.cover j hj with ⟨w, x, c1, c2, c3⟩ | ⟨w, x, c1, c2, c3⟩
    · exact .inl ⟨w, _, by rw [hrw]; exact c1, by rw [i1, c2, Option.map_some], by split <;> exact c3⟩
    · exact .inr ⟨w, _, by rw [hrw]; exact c1, by rw [i2, c2, Option.map_some], by split <;> exact c3⟩
  · intro w j y n hy hn ht
    obtain ⟨x, hx, rfl⟩ := back w y hy
    have hxj : x.node = (j : Int) := by split at hn <;> exact hn
    rw [hrt, killT_get] at ht
    cases e : S.σ.tree[j]? with
    | none => rw [e] at ht; cases ht
    | some m =>
      rw [e] at ht; simp at ht; subst ht
      have := h.live w j x m hx hxj e
      rw [inL_nat hxj]
      by_cases hm : j ∈ pre S.σ.tree 200 k
      · simp [hm, herr]
      · simp [hm, this]
  · intro y hy a ha
    obtain ⟨w, hw⟩ := List.mem_iff_getElem?.1 hy
    obtain ⟨x, hx, rfl⟩ := back w y hw
    have : x.c = some a := by split at ha <;> exact ha
    exact i5 a _ (h.chs x (List.mem_of_getElem? hx) a this)
  · intro y hy s o hs ho
    obtain ⟨w, hw⟩ := List.mem_iff_getElem?.1 hy
    obtain ⟨x, hx, rfl⟩ := back w y hw
    refine h.tms x (List.mem_of_getElem? hx) s o (by rw [← hrtt]; exact hs) ?_
    rw [← one_eq i4]
    split at ho <;> exact ho
end Go.AM


/- ctx: what is made is as it should be; in plain Lean. -/
set_option linter.unusedVariables false
set_option linter.unusedSimpArgs false
namespace Go.AM
theorem Added.back {ns ms : List Nd} {parent : Int} {lk : Bool} (h : Added ns parent lk ms) {j : Nat} {m : Nd} (hm : ms[j]? = some m) : (j < ns.length ∧ ∃ n, ns[j]? = some n ∧ m.parent = n.parent ∧ m.linked = n.linked) ∨ (j = ns.length ∧ m.parent = parent ∧ m.linked = lk) := by
  have hj : j < ms.length := (List.getElem?_eq_some_iff.1 hm).1
  rw [h.len] at hj
  by_cases e : j < ns.length
  · obtain ⟨m', h1, h2, h3⟩ := h.old j _ (List.getElem?_eq_getElem e)
    rw [hm] at h1; cases h1
    exact .inl ⟨e, _, List.getElem?_eq_getElem e, h2, h3⟩
  · have : j = ns.length := by omega
    subst this
    obtain ⟨m', h1, h2, h3⟩ := h.new
    rw [hm] at h1; cases h1
    exact .inr ⟨rfl, h2, h3⟩
theorem Added.kids {ns ms : List Nd} {parent : Int} {lk : Bool} (h : Added ns parent lk ms) {k : Int} (hk : kidsOf ns k = []) (hp : parent ≠ k ∨ lk = false) : kidsOf ms k = [] := by
  rw [List.eq_nil_iff_forall_not_mem]
  intro i hi
  obtain ⟨m, h1, h2, h3⟩ := kidsOf_mem.1 hi
  rcases h.back h1 with ⟨_, n, e1, e2, e3⟩ | ⟨_, e2, e3⟩
  · have : i ∈ kidsOf ns k := kidsOf_mem.2 ⟨n, e1, by rw [← e3]; exact h2, by rw [← e2]; exact h3⟩
    rw [hk] at this; cases this
  · rcases hp with hp | hp
    · exact hp (by rw [← e2]; exact h3)
    · rw [h2] at e3; rw [hp] at e3; cases e3
theorem WF.node {S : CX} (h : WF S) {p : Nat} {up : One} (hup : S.σ.ones[p]? = some up) : hasT S.σ.tree up.node = true ∧ up.node ≠ -1 := by
  obtain ⟨k, h1, h2, _⟩ := h.who1 p up hup
  refine ⟨?_, by omega⟩
  simp [hasT, h1]; omega
theorem WF.not_aft {S : CX} (h : WF S) {p j : Nat} {up : One} {x : Aft} (hup : S.σ.ones[p]? = some up) (hx : S.σ.afts[j]? = some x) : up.node ≠ x.node := by
  intro e
  obtain ⟨k, h1, h2, h3⟩ := h.who1 p up hup
  obtain ⟨k', g1, g2, g3, _⟩ := h.who2 j x hx
  have : k = k' := by omega
  subst this
  rw [h3] at g3; simp at g3; omega
/-- a context more -/
theorem WF.add {S : CX} (h : WF S) {p : Nat} {up o : One} {χ' : Nat → Ch} (hup : S.σ.ones[p]? = some up) (hlen : S.σ.ones.length < 64) (ho : o.err = 0)
    (hχ : ∀ a n, (S.χ a).recvs.length + (S.χ a).sends.length ≤ n → (χ' a).recvs.length + (χ' a).sends.length ≤ n) (hc : ∀ a, o.c = some a → (χ' a).recvs.length + (χ' a).sends.length ≤ 1000000) :
    WF ({ S with σ := S.σ.add o up.node, χ := χ' } : CX) ∧ (S.σ.add o up.node).ones = S.σ.ones ++ [{ o with node := S.σ.tree.length, timer := -1 }] ∧ Added S.σ.tree up.node (!o.free) (S.σ.add o up.node).tree ∧ (S.σ.add o up.node).who = updI S.σ.who S.σ.tree.length (some (S.σ.ones.length : Int)) := by
  have hn := h.node hup
  have hlt : S.σ.tree.length < 1000 := by have := h.len; have := h.sz; omega
  obtain ⟨ms, e, had⟩ := treeAdd_ok (linked := !o.free) h.tr hlt (.inr hn.1)
  have hlk : ((!o.free) && decide (up.node ≠ -1)) = !o.free := by simp [hn.2]
  rw [hlk] at had
  have eo : (S.σ.add o up.node).ones = S.σ.ones ++ [{ o with node := S.σ.tree.length, timer := -1 }] := by simp [Cs.add, e]
  have et : (S.σ.add o up.node).tree = ms := by simp [Cs.add, e]
  have ew : (S.σ.add o up.node).who = updI S.σ.who S.σ.tree.length (some (S.σ.ones.length : Int)) := by simp [Cs.add, e]
  have ea : (S.σ.add o up.node).afts = S.σ.afts := rfl
  have oback : ∀ (w : Nat) (x : One), (S.σ.add o up.node).ones[w]? = some x → (w < S.σ.ones.length ∧ S.σ.ones[w]? = some x) ∨ (w = S.σ.ones.length ∧ x = { o with node := S.σ.tree.length, timer := -1 }) := by
    intro w x hx
    rw [eo] at hx
    by_cases hw : w < S.σ.ones.length
    · rw [List.getElem?_append_left hw] at hx; exact .inl ⟨hw, hx⟩
    · rw [List.getElem?_append_right (by omega)] at hx
      have hz : w - S.σ.ones.length = 0 := by
        rcases Nat.eq_zero_or_pos (w - S.σ.ones.length) with h9 | h9
        · exact h9
        · rw [List.getElem?_eq_none (by simp; omega)] at hx; cases hx
      rw [hz] at hx; simp at hx
      exact .inr ⟨by omega, hx.symm⟩
  have ofwd : ∀ (w : Nat) (x : One), S.σ.ones[w]? = some x → (S.σ.add o up.node).ones[w]? = some x := by
    intro w x hx
    have hw : w < S.σ.ones.length := (List.getElem?_eq_some_iff.1 hx).1
    rw [eo, List.getElem?_append_left hw]; exact hx
  have who_old : ∀ k : Nat, k < S.σ.tree.length → (S.σ.add o up.node).who k = S.σ.who k := by
    intro k hk
    rw [ew]; unfold updI
    rw [if_neg (by omega)]
  refine ⟨⟨by rw [et]; exact had.ok, ⟨by rw [eo]; simp; omega, h.sz.2⟩, ?_, ?_, ?_, ?_, ?_, ?_, ?_, h.tlen⟩, eo, by rw [et]; exact had, ew⟩
  · show (S.σ.add o up.node).tree.length = (S.σ.add o up.node).ones.length + S.σ.afts.length
    rw [et, had.len, eo, h.len]; simp; omega
  · intro w x hx
    show ∃ k, _ ∧ k < (S.σ.add o up.node).tree.length ∧ (S.σ.add o up.node).who k = _
    rw [et, had.len]
    rcases oback w x hx with ⟨_, h1⟩ | ⟨rfl, rfl⟩
    · obtain ⟨k, k1, k2, k3⟩ := h.who1 w x h1
      exact ⟨k, k1, by omega, by rw [who_old k k2]; exact k3⟩
    · exact ⟨S.σ.tree.length, rfl, by omega, by rw [ew]; simp [updI]⟩
  · intro w x hx
    show ∃ k, _ ∧ k < (S.σ.add o up.node).tree.length ∧ (S.σ.add o up.node).who k = _ ∧ kidsOf (S.σ.add o up.node).tree k = []
    rw [et, had.len]
    obtain ⟨k, k1, k2, k3, k4⟩ := h.who2 w x hx
    refine ⟨k, k1, by omega, by rw [who_old k k2]; exact k3, had.kids k4 (.inl ?_)⟩
    have := h.not_aft hup hx
    omega
  · intro k hk
    have hk' : k < (S.σ.add o up.node).tree.length := hk
    rw [et, had.len] at hk'
    by_cases e1 : k < S.σ.tree.length
    · rcases h.cover k e1 with ⟨w, x, c1, c2, c3⟩ | ⟨w, x, c1, c2, c3⟩
      · exact .inl ⟨w, x, by show (S.σ.add o up.node).who k = _; rw [who_old k e1]; exact c1, ofwd w x c2, c3⟩
      · exact .inr ⟨w, x, by show (S.σ.add o up.node).who k = _; rw [who_old k e1]; exact c1, c2, c3⟩
    · have : k = S.σ.tree.length := by omega
      subst this
      refine .inl ⟨S.σ.ones.length, { o with node := S.σ.tree.length, timer := -1 }, ?_, ?_, rfl⟩
      · show (S.σ.add o up.node).who _ = _
        rw [ew]; simp [updI]
      · show (S.σ.add o up.node).ones[_]? = _
        rw [eo]; simp
  · intro w k x n hx hk hn2
    have hn2' : ms[k]? = some n := by rw [← et]; exact hn2
    rcases had.back hn2' with ⟨b1, m, b2, b3, b4⟩ | ⟨b1, b3, b4⟩
    · rcases oback w x hx with ⟨_, h1⟩ | ⟨rfl, rfl⟩
      · rw [b4]; exact h.live w k x m h1 hk b2
      · simp at hk; omega
    · rcases oback w x hx with ⟨_, h1⟩ | ⟨rfl, rfl⟩
      · obtain ⟨k2, k3, k4, _⟩ := h.who1 w x h1
        omega
      · rw [b4]; simp [ho]
  · intro x hx a ha
    obtain ⟨w, hw⟩ := List.mem_iff_getElem?.1 hx
    rcases oback w x hw with ⟨_, h1⟩ | ⟨rfl, rfl⟩
    · exact hχ a _ (h.chs x (List.mem_of_getElem? h1) a ha)
    · exact hc a ha
  · intro x hx s o2 hs ho2
    obtain ⟨w, hw⟩ := List.mem_iff_getElem?.1 hx
    rcases oback w x hw with ⟨_, h1⟩ | ⟨rfl, rfl⟩
    · exact h.tms x (List.mem_of_getElem? h1) s o2 hs ho2
    · simp [Tms.one, Tms.has] at ho2
theorem updC_sizes (χ : Nat → Ch) (a b n : Nat) (h : (χ b).recvs.length + (χ b).sends.length ≤ n) : (updC χ a .sg b).recvs.length + (updC χ a .sg b).sends.length ≤ n := by
  unfold updC
  split
  · simp [Ch.sg]
  · exact h
theorem WF.room {S : CX} (h : WF S) {p : Nat} {up : One} (hup : S.σ.ones[p]? = some up) (hlen : S.σ.ones.length < 64) : S.σ.room p = 0 := by
  have hp : p < S.σ.ones.length := (List.getElem?_eq_some_iff.1 hup).1
  have : S.σ.has p = true := by simp [Cs.has]; omega
  simp [Cs.room, this]; omega
theorem WF.okAdd {S : CX} (h : WF S) : S.okAdd = true := by
  have := h.sz
  simp [CX.okAdd, h.tr.kok]; omega
/-- a context of one that is not done -/
theorem WF.cancelsP {S : CX} (h : WF S) {p : Nat} {up : One} (hup : S.σ.ones[p]? = some up) (hlen : S.σ.ones.length < 64) (he : up.err = 0) (a : Nat) :
    S.cancelsP p a = some (S.addS { One.zero with when := up.when, has := up.has } up.node a, (S.σ.ones.length : Int), [], 0) ∧ WF (S.addS { One.zero with when := up.when, has := up.has } up.node a) := by
  have hw := h.add (o := { ({ One.zero with when := up.when, has := up.has } : One) with c := some a }) (χ' := updC S.χ a .sg) hup hlen rfl (fun b n hb => updC_sizes _ _ _ _ hb) (fun b hb => by simp at hb; subst hb; simp [updC, Ch.sg])
  refine ⟨?_, hw.1⟩
  unfold CX.cancelsP
  rw [if_neg (by simp [h.room hup hlen]), if_pos h.okAdd]
  simp only [Int.toNat_natCast, hup]
  have hp : p < S.σ.ones.length := (List.getElem?_eq_some_iff.1 hup).1
  have hb : (S.addS { One.zero with when := up.when, has := up.has } up.node a).beginP S.σ.ones.length p = some (S.addS { One.zero with when := up.when, has := up.has } up.node a, []) := by
    unfold CX.beginP
    rw [if_pos (by omega)]
    have : (S.addS { One.zero with when := up.when, has := up.has } up.node a).σ.ones[((p : Int)).toNat]? = some up := by
      show (S.σ.add _ _).ones[_]? = _
      rw [hw.2.1, Int.toNat_natCast, List.getElem?_append_left hp]; exact hup
    rw [this]
    simp only
    rw [if_pos he]
  rw [hb]
theorem wf_new (t : Option Nat) (τ : Tms) (χ : Nat → Ch) (hτ : τ.x.l.length ≤ 1000000) : WF ⟨Cs.new t, τ, χ⟩ := by
  have e : treeAdd [] (-1) false = ([⟨-1, false, []⟩], 0, 0) := by simp [treeAdd]
  have ew : (Cs.new t).who = updI (fun _ => none) 0 (some 0) := by simp [Cs.new, Cs.add, One.zero, e]
  have eo : (Cs.new t).ones = [{ One.zero with free := true, timer := -1 }] := by simp [Cs.new, Cs.add, One.zero, e]
  have et : (Cs.new t).tree = [⟨-1, false, []⟩] := by simp [Cs.new, Cs.add, One.zero, e]
  have ea : (Cs.new t).afts = [] := rfl
  refine ⟨⟨by rw [et]; simp, ?_, ?_⟩, by simp [eo, ea], by simp [et, eo, ea], ?_, ?_, ?_, ?_, ?_, ?_, hτ⟩
  · intro k n hn
    simp only [et] at hn ⊢
    cases k with
    | zero => simp at hn; subst hn; rfl
    | succ k => simp at hn
  · intro k n hn hl
    simp only [et] at hn
    cases k with
    | zero => simp at hn; subst hn; cases hl
    | succ k => simp at hn
  · intro i x hx
    simp only [eo] at hx
    cases i with
    | zero => simp at hx; subst hx; exact ⟨0, rfl, by simp [et], by simp [ew, updI]⟩
    | succ k => simp at hx
  · intro i x hx; simp only [ea] at hx; simp at hx
  · intro k hk
    simp only [et] at hk
    simp at hk; subst hk
    exact .inl ⟨0, { One.zero with free := true, timer := -1 }, by simp [ew, updI], by simp [eo], rfl⟩
  · intro i k x n hx hk hn
    simp only [eo] at hx
    simp only [et] at hn
    cases i with
    | zero =>
      simp at hx; subst hx
      cases k with
      | zero => simp at hn; subst hn; simp
      | succ k => simp at hn
    | succ k => simp at hx
  · intro x hx a ha
    simp only [eo] at hx
    simp at hx; subst hx; simp [One.zero] at ha
  · intro x hx s o hs ho
    simp only [eo] at hx
    simp at hx; subst hx
    simp [Tms.one, Tms.has] at ho
end Go.AM


/- ctx: what a walk tells; what laws keep of memory. -/
set_option linter.unusedVariables false
set_option linter.unusedSimpArgs false
namespace Go.AM
def chW (S : CX) : Option Nat → List Wk
  | none => []
  | some a => (S.χ a).endS.2
def lapOf (S : CX) (err cause : Int) (j : Nat) : Option Lap :=
  let w := (S.σ.who j).getD 0
  if w < 0 then none else (S.σ.ones[w.toNat]?).map fun x => ⟨w, err, cause, chW S x.c⟩
def stOf (S : CX) (j : Nat) : Option (Int × Int) :=
  let w := (S.σ.who j).getD 0
  if w < 0 then (S.σ.afts[(-w - 1).toNat]?).map fun x => (-w - 1, x.prog) else none
theorem hitL_res (err cause : Int) (acc : CRes) (j : Nat) : (hitL err cause acc j).2.1 = acc.2.1 ++ (lapOf acc.1 err cause j).toList ∧ (hitL err cause acc j).2.2 = acc.2.2 ++ (stOf acc.1 j).toList := by
  unfold hitL lapOf stOf
  simp only
  split
  · rename_i h
    split
    · rename_i x hx; rw [hx]; simp
    · rename_i hx; rw [hx]; simp
  · rename_i h
    split
    · rename_i x hx
      have e : ((acc.1.setOne ((acc.1.σ.who j).getD 0).toNat { x with err := err, cause := cause }).endT x.c).2 = chW acc.1 x.c := by cases x.c <;> rfl
      simp [hx, e]
    · rename_i hx; simp [hx]
/-! ### what laws keep of memory -/
section
variable {c : Nat} {S S' : CX} {L L2 : Lg}
theorem CDone.raw (h : CDone c S S' L L2) (e : L c = some (.abs (CtxP c S.σ))) (ho : OutC c S L) {r : Nat} {x : AB} (hr : L r = some (.raw x)) : L2 r = some (.raw x) := by
  rw [h.fr r (by rw [hr]; simp) (by rintro rfl; rw [hr] at e; cases e) (fun h9 => by have := (ho.tms r h9).2; rw [hr] at this; cases this) (fun o h8 h9 => by have := (ho.chs o h8 r h9).2.2; rw [hr] at this; cases this)]
  exact hr
/-- all raw blocks are kept -/
def RawK (L L2 : Lg) : Prop := ∀ r x, L r = some (.raw x) → L2 r = some (.raw x)
theorem CDone.rawK (h : CDone c S S' L L2) (e : L c = some (.abs (CtxP c S.σ))) (ho : OutC c S L) : RawK L L2 := fun r x hr => h.raw e ho hr
theorem RawK.refl (L : Lg) : RawK L L := fun _ _ h => h
theorem RawK.trans {L3 : Lg} (h : RawK L L2) (k : RawK L2 L3) : RawK L L3 := fun r x hr => k r x (h r x hr)
theorem RawK.osl (h : RawK L L2) {v : AV} {cs : List AV} {n size : Nat} (o : OSl L v cs n size) : OSl L2 v cs n size := o.mono fun b hb => by rw [o.block hb]; exact h _ _ (o.block hb)
theorem RawK.slK (h : RawK L L2) {v : AV} {ws : List Wk} (o : SlK L v ws) : SlK L2 v ws := o.mono fun b hb => by
  rcases o with ⟨_, rfl⟩ | ⟨b', ex, rfl, h2⟩
  · cases hb
  · simp [slB] at hb; subst hb; rw [h2]; exact h _ _ h2
theorem RawK.put (L : Lg) {b : Nat} (hb : L b = none) (d : LC) : RawK L (L.put b d) := fun r x hr => by
  rw [Lg.put_ne _ _ _ (by rintro rfl; rw [hb] at hr; cases hr)]; exact hr
end
/-- what is known to answer true -/
theorem known2_spec {F : Nat → Option AFn} {f : Nat} (h : F f = some kTrue) (L : Lg) : CallL F f [] L fun v L' => v = .b true ∧ L' = L := by
  apply CallL.of_wp h
  show fin _ _ _ _ _
  exact ⟨L, Sees.refl _, rfl, rfl⟩
/-- a row of slices, read -/
theorem ResP.get {L0 K : Lg} {v1 v2 : AV} {ps : List (Lap × AV)} {sts : List (Int × Int)} {F : Nat → Option AFn} (h : ResP L0 K v1 v2 ps sts) {i : Nat} {p : Lap × AV} (hi : ps[i]? = some p) : ∃ b, K b = some (.raw (.cells (flatc lapc ps))) ∧
    (∀ (X : Lg) (k : AV → Lg → Prop), wpOp F (.iad 4) [v1, .i .i64 i] X k = k (.p (some (b, i * 4))) X) ∧ (∀ X : Lg, X b = K b → ∀ j, j < 4 → rdL X (b, i * 4 + j) none = (lapc p)[j]?) := by
  have hl : i < ps.length := (List.getElem?_eq_some_iff.1 hi).1
  obtain ⟨b, h1, h2, h3, h4⟩ := h.o1.iad (F := F) (x := (i : Int)) (by omega) (by omega)
  refine ⟨b, h2, fun X k => by simpa using h4 X k .i64, fun X hX j hj => ?_⟩
  rw [rdL_cell (by rw [hX]; exact h2), flatc_get (k := 4) (fun _ => rfl) ps i j p hi hj]
end Go.AM


/- what laws do with slices of their own. -/
set_option linter.unusedVariables false
set_option linter.unusedSimpArgs false
namespace Go.AM
variable {N : Nat → Nat} {F : Nat → Option AFn}
/-- all that was is there, but one block -/
def KeepE (o : Option Nat) (K K1 : Lg) : Prop := ∀ r d, K r = some d → o ≠ some r → K1 r = some d
theorem push1 {K : Lg} {v x z : AV} {cs : List AV} {n bytes : Nat} (h : OSl K v cs n 1) (hx : x.cellsOf = some [x]) (hb : bytes ≤ 1000) (hn : n ≤ 1000000) {k : AV → Lg → Prop}
    (hk : ∀ (v' : AV) (K1 : Lg), OSl K1 v' (cs ++ [x]) (n + 1) 1 → KeepE (slB v) K K1 → (∀ b, slB v' = some b → K b = none) → k v' K1) :
    wpOp F (.bslice [z] 1 1 [0]) [x] K fun s L => wpOp F (.app 1 bytes) [v, s] L k := by
  have hone : x.one = true := by have := cellsOf_one hx; simpa using this
  rw [wp_bslice, newL_bslice (c := [x]) _ _ (by simp [reps, fillP, splice, ble_nat, beq_nat, hx]) (by simp [hone])]
  intro b1 hb1
  rw [wp_app]
  have g1 : (K.put b1 (.raw (.cells [x]))) b1 = some (.raw (.cells [x])) := Lg.put_same _ _ _
  have h1 : OSl (K.put b1 (.raw (.cells [x]))) v cs n 1 := h.mono fun b hbb => Lg.put_ne _ _ _ (by rintro rfl; have := h.block hbb; rw [hb1] at this; cases this)
  refine h1.app (m := 1) (by omega) rfl (by omega) (new := [x]) (by simp [rdCellsL, AB.read, cut, ble_nat]) rfl (by simp [hone]) (by have : (n + 1) * bytes ≤ 1000001 * 1000 := Nat.mul_le_mul (by omega) hb; omega) ?_
  intro b2 K1 g hO
  have f2 : b2 ≠ b1 ∧ K b2 = none := by
    have := g.fresh
    have n1 : b2 ≠ b1 := by rintro rfl; rw [Lg.put_same] at this; cases this
    rw [Lg.put_ne _ _ _ n1] at this
    exact ⟨n1, this⟩
  refine hk _ _ hO ?_ ?_
  · intro r d hr hne
    have r1 : r ≠ b1 := by rintro rfl; rw [hb1] at hr; cases hr
    have r2 : r ≠ b2 := by rintro rfl; rw [f2.2] at hr; cases hr
    rw [g.same r r2 hne, Lg.put_ne _ _ _ r1]; exact hr
  · intro b hbb; simp [slB] at hbb; subst hbb; exact f2.2
theorem KeepE.osl {o : Option Nat} {K K1 : Lg} (h : KeepE o K K1) {v : AV} {cs : List AV} {n size : Nat} (s : OSl K v cs n size) (hn : ∀ b, slB v = some b → o ≠ some b) : OSl K1 v cs n size := s.mono fun b hb => by rw [s.block hb]; exact h b _ (s.block hb) (hn b hb)
theorem KeepE.argSl {o : Option Nat} {K K1 : Lg} (h : KeepE o K K1) {v : AV} {cs : List AV} {n size : Nat} (s : ArgSl K v cs n size) (hn : ∀ b, o = some b → ∃ cs, K b = some (.raw (.cells cs))) : ArgSl K1 v cs n size := by
  obtain ⟨h1, h2 | ⟨b, cap, h2, h3⟩⟩ := s
  · exact ⟨h1, .inl h2⟩
  · refine ⟨h1, .inr ⟨b, cap, h2, h b _ h3 ?_⟩⟩
    intro h9
    obtain ⟨cs, h4⟩ := hn b h9
    rw [h3] at h4; cases h4
theorem RawK.argSl {K K1 : Lg} (h : RawK K K1) {v : AV} {cs : List AV} {n size : Nat} (s : ArgSl K v cs n size) : ArgSl K1 v cs n size := by
  obtain ⟨h1, h2 | ⟨b, cap, h2, h3⟩⟩ := s
  · exact ⟨h1, .inl h2⟩
  · exact ⟨h1, .inr ⟨b, cap, h2, h b _ h3⟩⟩
theorem KeepE.outC {o : Option Nat} {K K1 : Lg} (h : KeepE o K K1) (hn : ∀ b, o = some b → ∃ x, K b = some (.raw x)) {c : Nat} {S : CX} (e : K c = some (.abs (CtxP c S.σ))) (ho : OutC c S K) : K1 c = some (.abs (CtxP c S.σ)) ∧ OutC c S K1 := by
  have key : ∀ r P, K r = some (.abs P) → K1 r = some (.abs P) := fun r P hr => h r _ hr (by intro h9; obtain ⟨x, h8⟩ := hn r h9; rw [hr] at h8; cases h8)
  exact ⟨key _ _ e, fun s hs => ⟨(ho.tms s hs).1, key _ _ (ho.tms s hs).2⟩, fun o1 h1 a h2 => ⟨(ho.chs o1 h1 a h2).1, (ho.chs o1 h1 a h2).2.1, key _ _ (ho.chs o1 h1 a h2).2.2⟩⟩
theorem OSl.rawB {K : Lg} {v : AV} {cs : List AV} {n size : Nat} (h : OSl K v cs n size) : ∀ b, slB v = some b → ∃ x, K b = some (.raw x) := fun b hb => ⟨_, h.block hb⟩
theorem OSl.cellsB {K : Lg} {v : AV} {cs : List AV} {n size : Nat} (h : OSl K v cs n size) : ∀ b, slB v = some b → ∃ cs, K b = some (.raw (.cells cs)) := fun b hb => ⟨_, h.block hb⟩
/-- one of a slice of one's own -/
theorem OSl.at1 {K : Lg} {v : AV} {cs : List AV} {n : Nat} (h : OSl K v cs n 1) {i : Nat} (hi : i < n) : ∃ b, (∀ (X : Lg) (k : AV → Lg → Prop), wpOp F (.iad 1) [v, .i .i64 i] X k = k (.p (some (b, i))) X) ∧ rdL K (b, i) none = cs[i]? := by
  obtain ⟨b, h1, h2, h3, h4⟩ := h.iad (F := F) (x := (i : Int)) (by omega) (by omega)
  exact ⟨b, fun X k => by simpa using h4 X k .i64, by rw [rdL_cell h2]⟩
theorem ArgSl.at1 {K : Lg} {v : AV} {cs : List AV} {n : Nat} (h : ArgSl K v cs n 1) {i : Nat} (hi : i < n) : ∃ b, (∀ (X : Lg) (k : AV → Lg → Prop), wpOp F (.iad 1) [v, .i .i64 i] X k = k (.p (some (b, i))) X) ∧ rdL K (b, i) none = cs[i]? := by
  obtain ⟨b, cap, rfl, h2⟩ := h.get hi
  refine ⟨b, fun X k => ?_, by rw [rdL_ro h2]⟩
  rw [wp_iad F X k 1 b 0 n cap 0 .i64 i (by omega) (by omega)]
  simp
end Go.AM


/- timer: Reset, Fire. -/
set_option linter.unusedVariables false
set_option linter.unusedSimpArgs false
namespace Go.AM
variable {N : Nat → Nat} {F : Nat → Option AFn}
section
variable {L K : Lg} {s t : Nat} {σ : Tms}
theorem Ext2.both {A B : Lg} (h : Ext2 A B) (r : Nat) (d : LC) : Ext2 (A.put r d) (B.put r d) := by
  intro b c e
  rw [Lg.put_apply] at e ⊢
  split
  · rename_i h9; rw [if_pos h9] at e; exact e
  · rename_i h9; rw [if_neg h9] at e; exact h b c e
theorem Ext2.bothC {A B : Lg} (h : Ext2 A B) (c : Option Nat) (y : Ch) : Ext2 (A.putC c y) (B.putC c y) := by
  cases c with
  | none => exact h
  | some c => exact h.both c _
theorem hasC_ext {A B : Lg} (h : Ext2 A B) {c : Option Nat} {x : Ch} (hc : A.hasC s c x) : B.hasC s c x := fun a ha => ⟨(hc a ha).1, h _ _ (hc a ha).2⟩
theorem putC_none {A : Lg} {c : Option Nat} {x y : Ch} {r : Nat} (hc : A.hasC s c x) (hr : A r = none) : (A.putC c y) r = none := by
  cases c with
  | none => exact hr
  | some c =>
    simp only [Lg.putC]
    rw [Lg.put_ne]
    · exact hr
    · rintro rfl; rw [(hc r rfl).2] at hr; cases hr
def putsC (c : Option Nat) (x : Ch) (now : Int) : Ch × List Wk × Bool := match c with
  | none => (x, [], false)
  | some _ => x.put now
theorem putC_spec (hf : H_chanq_Chan_Put N F) {c : Option Nat} {x : Ch} (h : L.hasC s c x) (now : Int) : CallL F (N k_chanq_Chan_Put) [ptr c, .i .i64 now] L fun v L' => ∃ sl, v = .tup [sl, .b (putsC c x now).2.2] ∧
    FreshSl (L.putC c (putsC c x now).1) sl (wkcells (putsC c x now).2.1) (putsC c x now).2.1.length 5 L' := by
  cases c with
  | none =>
    refine (putNil_spec hf now).mono ?_
    rintro _ _ ⟨rfl, rfl⟩
    exact ⟨_, rfl, .inl ⟨rfl, rfl, rfl, rfl⟩⟩
  | some c => exact put_spec hf (h c rfl).2 now
def firedAV (id kind when now data : Int) (sl : AV) (kept : Bool) : AV := .agg [.i .i64 id, .i .i64 kind, .i .i64 when, .i .i64 now, .i .i64 data, sl, .b kept]
theorem fire_none (hf : H_timer_Set_Fire N F) (e : L s = some (.abs (SetP s σ))) (hs : σ.x.l.Pairwise It.lt) (hl : σ.x.l.length < 1000000) (hq : 0 ≤ σ.x.seq ∧ σ.x.seq < 4611686018427387904) (now : Int) (hk : (σ.x.take now).2.2 = false) :
    CallL F (N k_timer_Set_Fire) [.p (some (s, 0)), .i .i64 now] L fun v L' => v = .tup [firedAV 0 0 0 0 0 (.sl none 0 0 0) false, .b false] ∧ L' = L := by
  refine CallL.opq ?_
  intro Q hQ
  apply CallL.openS e
  intro t K op
  have hb := op.back e
  have tk : σ.x.take now = (σ.x, (0, 0, 0), false) := by
    unfold Xs.take at hk ⊢
    split
    · rfl
    · rename_i h; simp only [h] at hk
      split
      · rfl
      · rename_i h2; rw [if_neg h2] at hk; simp at hk
  apply r_timer_Set_Fire hf.code
  unfold D_timer_Set_Fire_1 D_timer_Set_Fire_2 D_timer_Set_Fire_3
  simp
  intro a4 h4
  have e1 : Ext2 K (K.put a4 (.raw (.cells [.i .i64 0, .i .i64 0, .i .i64 0, .i .i64 0, .i .i64 0, .sl none 0 0 0, .b false]))) := (Ext2.refl K).put h4 _
  obtain ⟨sv, h1, h2, h3, h5, h6, h7⟩ := op
  simp [rdL, AB.read, look, e1 _ _ h1]
  refine (xtake_spec hf.expire_Timers_Take (e1 _ _ h2) hs hl hq now).mono ?_
  rintro _ K2 ⟨rfl, rfl⟩
  rw [tk]
  simp only [retDue]
  rw [Lg.put_self _ t _ (e1 _ _ h2)]
  simp
  intro a6 h6'
  rw [stL_cells (Lg.put_same _ _ _) (by simp) (by simp) (by simp)]
  simp [splice]
  unfold D_timer_Set_Fire_4
  have n64 : a6 ≠ a4 := by rintro rfl; simp at h6'
  simp [fillP, splice, ble_nat, beq_nat]
  rw [stL_cells (c := [.i .i64 0, .i .i64 0, .i .i64 0, .i .i64 0, .i .i64 0, .sl none 0 0 0, .b false]) (by rw [Lg.put_ne _ _ _ (Ne.symm n64), Lg.put_same]) (by simp) (by simp) (by simp)]
  rw [res_cell_tmp _ _ (Lg.put_same _ _ _) (by simp [splice])]
  simp [splice]
  refine ⟨L, Sees.trans (Ext2.sees ?_) hb, hQ _ _ ⟨rfl, rfl⟩⟩
  have h6k : K a6 = none := by rw [Lg.put_ne _ _ _ n64] at h6'; exact h6'
  exact ((((Ext2.refl K).put h4 _).put h6k _).put h4 _)
theorem splice_3 (z1 z2 z3 a b c : AV) : splice [z1, z2, z3] 0 [a, b, c] = [a, b, c] := rfl
theorem splice_7 (z1 z2 z3 z4 z5 z6 z7 a b c d e f g : AV) : splice [z1, z2, z3, z4, z5, z6, z7] 0 [a, b, c, d, e, f, g] = [a, b, c, d, e, f, g] := rfl
theorem fire_spec (hf : H_timer_Set_Fire N F) (e : L s = some (.abs (SetP s σ))) (hs : σ.x.l.Pairwise It.lt) (hl : σ.x.l.length < 1000000) (hq : 0 ≤ σ.x.seq ∧ σ.x.seq < 4611686018427387904) (now : Int) {x' : Xs} {id when : Int} (tk : σ.x.take now = (x', (id, when, now), true))
    {o : On} (ho : σ.one id = some o) {x : Ch} (hc : L.hasC s o.c x) :
    CallL F (N k_timer_Set_Fire) [.p (some (s, 0)), .i .i64 now] L fun v L' => ∃ sl, v = .tup [firedAV id o.kind when now o.data sl (putsC o.c x now).2.2, .b true] ∧
      FreshSl ((L.put s (.abs (SetP s { σ with x := x' }))).putC o.c (putsC o.c x now).1) sl (wkcells (putsC o.c x now).2.1) (putsC o.c x now).2.1.length 5 L' := by
  refine CallL.opq ?_
  intro Q hQ
  obtain ⟨i, rfl, hi, hg0, hh⟩ := on_get ho
  apply CallL.openS e
  intro t K op
  apply r_timer_Set_Fire hf.code
  unfold D_timer_Set_Fire_1 D_timer_Set_Fire_2 D_timer_Set_Fire_3
  simp
  intro a4 h4
  have e1 : Ext2 K (K.put a4 (.raw (.cells [.i .i64 0, .i .i64 0, .i .i64 0, .i .i64 0, .i .i64 0, .sl none 0 0 0, .b false]))) := (Ext2.refl K).put h4 _
  have oX := op.setX x'
  have op' := op
  obtain ⟨sv, h1, h2, h3, h5, h6, h7⟩ := op'
  simp [rdL, AB.read, look, e1 _ _ h1]
  refine (xtake_spec hf.expire_Timers_Take (e1 _ _ h2) hs hl hq now).mono ?_
  rintro _ K2 ⟨rfl, rfl⟩
  rw [tk]
  simp only [retDue]
  have nt4 : t ≠ a4 := by rintro rfl; rw [h2] at h4; cases h4
  obtain ⟨K2, hK2⟩ : ∃ K2, K2 = (K.put a4 (.raw (.cells [.i .i64 0, .i .i64 0, .i .i64 0, .i .i64 0, .i .i64 0, .sl none 0 0 0, .b false]))).put t (.abs (TmP t x')) := ⟨_, rfl⟩
  rw [← hK2]
  have E2 : Ext2 (K.put t (.abs (TmP t x'))) K2 := by rw [hK2]; exact e1.both _ _
  have r4 : K2 a4 = some (.raw (.cells [.i .i64 0, .i .i64 0, .i .i64 0, .i .i64 0, .i .i64 0, .sl none 0 0 0, .b false])) := by rw [hK2, Lg.put_ne _ _ _ (Ne.symm nt4), Lg.put_same]
  have b4 : (K.put t (.abs (TmP t x'))) a4 = none := by rw [Lg.put_ne _ _ _ (Ne.symm nt4)]; exact h4
  simp
  intro a6 h6'
  rw [stL_cells (Lg.put_same _ _ _) (by simp) (by simp) (by simp), Lg.put_put, splice_3]
  obtain ⟨K3, hK3⟩ : ∃ K3, K3 = K2.put a6 (.raw (.cells [.i .i64 i, .i .i64 when, .i .i64 now])) := ⟨_, rfl⟩
  rw [← hK3]
  have E3 : Ext2 K2 K3 := by rw [hK3]; exact (Ext2.refl _).put h6' _
  have r6 : K3 a6 = some (.raw (.cells [.i .i64 i, .i .i64 when, .i .i64 now])) := by rw [hK3, Lg.put_same]
  unfold D_timer_Set_Fire_4
  simp
  unfold D_timer_Set_Fire_5
  obtain ⟨sv', g1, g2, g3, g4, g5, g6⟩ := oX
  rcases g5 with ⟨q1, rfl⟩ | ⟨b, rfl, a2, a3, aa4, a5, aa6⟩
  · rw [show ({ σ with x := x' } : Tms).ones = σ.ones from rfl] at q1; rw [q1] at hi; simp at hi
  have ei : (i : Int) < (σ.ones.length : Int) := by omega
  have k3s := E3 _ _ (E2 _ _ g1)
  have k3b := E3 _ _ (E2 _ _ a2)
  have gat := ocells_at σ.ones i o hg0
  have f1 : rdL K3 (b, i * 4) (some 4) = some (.agg o.cells) := by rw [rdL_cells k3b (by exact gat.2)]; rw [show (ocells ({ σ with x := x' } : Tms).ones) = ocells σ.ones from rfl, gat.1]
  have f2 : rdL K3 (s, 0) none = some (.sl (some (b, 0)) σ.ones.length σ.ones.length 4) := by rw [rdL_cell k3s]; rfl
  have f3 : rdL K3 (a6, 0) none = some (.i .i64 i) := by rw [rdL_cell r6]; rfl
  simp [f1, f2, f3, wp_iad _ _ _ 4 b 0 σ.ones.length σ.ones.length 4 .i64 (i : Int) (Int.natCast_nonneg _) ei]
  intro a8 h8
  rw [stL_cells (Lg.put_same _ _ _) o.cells_one (by simp [On.cells]) (by simp)]
  have n68 : a6 ≠ a8 := by rintro rfl; rw [r6] at h8; cases h8
  obtain ⟨K4, hK4⟩ : ∃ K4, K4 = K3.put a8 (.raw (.cells o.cells)) := ⟨_, rfl⟩
  have E4 : Ext2 K3 K4 := by rw [hK4]; exact (Ext2.refl _).put h8 _
  have r8 : K4 a8 = some (.raw (.cells o.cells)) := by rw [hK4, Lg.put_same]
  have r64 := E4 _ _ r6
  have spl : splice [AV.i .i64 0, .i .i64 0, .p none, .i .i64 0] 0 o.cells = o.cells := by simp [splice, On.cells]
  rw [spl, Lg.put_put, ← hK4]
  simp [rdL, AB.read, look, r64, r8, On.cells, fillP, splice, ble_nat, beq_nat]
  intro a21 h21
  rw [stL_cells (Lg.put_same _ _ _) (by simp) (by simp) (by simp), Lg.put_put, splice_7]
  obtain ⟨K5, hK5⟩ : ∃ K5, K5 = K4.put a21 (.raw (.cells [.i .i64 i, .i .i64 o.kind, .i .i64 when, .i .i64 now, .i .i64 o.data, .sl none 0 0 0, .b false])) := ⟨_, rfl⟩
  rw [← hK5]
  have E5 : Ext2 K4 K5 := by rw [hK5]; exact (Ext2.refl _).put h21 _
  have r21 : K5 a21 = some (.raw (.cells [.i .i64 i, .i .i64 o.kind, .i .i64 when, .i .i64 now, .i .i64 o.data, .sl none 0 0 0, .b false])) := by rw [hK5, Lg.put_same]
  have r85 := E5 _ _ r8
  simp [rdL, AB.read, look, r85, On.cells]
  have E25 : Ext2 (K.put t (.abs (TmP t x'))) K5 := ((E2.trans E3).trans E4).trans E5
  have hcK : (K.put t (.abs (TmP t x'))).hasC s o.c x := fun c hoc => ⟨(hc c hoc).1, g6 _ _ (hc c hoc).1 (hc c hoc).2⟩
  have hc5 : K5.hasC s o.c x := hasC_ext E25 hcK
  have n21 : (K.put t (.abs (TmP t x'))) a21 = none := ((E2.trans E3).trans E4).none h21
  refine (putC_spec hf.chanq_Chan_Put hc5 now).mono ?_
  rintro _ K6 ⟨sl, rfl, hfr⟩
  obtain ⟨y, hy⟩ : ∃ y, y = (putsC o.c x now) := ⟨_, rfl⟩
  rw [← hy] at hfr
  rw [← hy]
  rw [← hy] at hQ
  have oX2 : SOpen (L.putC o.c y.1) s { σ with x := x' } t ((K.put t (.abs (TmP t x'))).putC o.c y.1) := by
    cases hoc : o.c with
    | none => exact op.setX x'
    | some c => exact (op.setX x').putOld (hc c hoc).1 (hc c hoc).2 _
  have comm : ∀ d, (L.putC o.c y.1).put s d = (L.put s d).putC o.c y.1 := by
    intro d
    cases hoc : o.c with
    | none => rfl
    | some c => simp only [Lg.putC]; rw [Lg.put_comm _ (hc c hoc).1]
  have E6 : Ext2 ((K.put t (.abs (TmP t x'))).putC o.c y.1) (K5.putC o.c y.1) := E25.bothC _ _
  have c4 : ((K.put t (.abs (TmP t x'))).putC o.c y.1) a4 = none := putC_none hcK b4
  have c21 : ((K.put t (.abs (TmP t x'))).putC o.c y.1) a21 = none := putC_none hcK n21
  have r4K : K5 a4 = some (.raw (.cells [.i .i64 0, .i .i64 0, .i .i64 0, .i .i64 0, .i .i64 0, .sl none 0 0 0, .b false])) := E5 _ _ (E4 _ _ (E3 _ _ r4))
  have n4c : ∀ c, o.c = some c → a4 ≠ c := fun c hoc h => by rw [← h] at hoc; have := (hcK a4 hoc).2; rw [b4] at this; cases this
  have n21c : ∀ c, o.c = some c → a21 ≠ c := fun c hoc h => by rw [← h] at hoc; have := (hcK a21 hoc).2; rw [n21] at this; cases this
  have getC : ∀ r d, (∀ c, o.c = some c → r ≠ c) → K5 r = some d → (K5.putC o.c y.1) r = some d := by
    intro r d h1 h2
    cases hoc : o.c with
    | none => exact h2
    | some c => simp only [Lg.putC]; rw [Lg.put_ne _ _ _ (h1 c hoc)]; exact h2
  have q4 := getC _ _ n4c r4K
  have q21 := getC _ _ n21c r21
  have n421 : a4 ≠ a21 := by rintro rfl; rw [E4 _ _ (E3 _ _ r4)] at h21; cases h21
  have fin : ∀ (B : Lg), Ext2 B K6 → B a4 = none → B a21 = none → K6 a4 = some (.raw (.cells [.i .i64 0, .i .i64 0, .i .i64 0, .i .i64 0, .i .i64 0, .sl none 0 0 0, .b false])) → K6 a21 = some (.raw (.cells [.i .i64 i, .i .i64 o.kind, .i .i64 when, .i .i64 now, .i .i64 o.data, .sl none 0 0 0, .b false])) → sl.one = true → sl.cellsOf = some [sl] → (∀ K7, Ext2 B K7 → ∃ L', Sees K7 L' ∧ FreshSl ((L.putC o.c y.1).put s (.abs (SetP s { σ with x := x' }))) sl (wkcells y.2.1) y.2.1.length 5 L') → 
      wpOp F (.ext 0) [.tup [sl, .b y.2.2]] K6 fun v26 L26 => wpOp F (.ext 1) [.tup [sl, .b y.2.2]] L26 fun v27 L27 => wpOp F (.fad 5) [.p (some (a21, 0))] L27 fun v28 L28 => wpOp F (.st 1) [v28, v26] L28 fun _ L29 =>
        wpOp F (.fad 6) [.p (some (a21, 0))] L29 fun v30 L30 => wpOp F (.st 1) [v30, v27] L30 fun _ L31 => wpOp F (.ld (some 7)) [.p (some (a21, 0))] L31 fun v32 L32 => wpOp F (.st 7) [.p (some (a4, 0)), v32] L32 fun _ L33 =>
        fin1 (resVL Env.nil Env.nil L33 [.cell (.c (.p (some (a4, 0)))) (some 7), .tmp (.c (.b true))]) Q L33 := by
    intro B hB b4 b21 k4 k21 hone hco hfin
    simp
    rw [stL_cell k21 (by simp) hco]
    simp
    rw [stL_cell (Lg.put_same _ _ _) (by simp) rfl, Lg.put_put]
    simp
    rw [rdL_cells (Lg.put_same _ _ _) (by simp)]
    simp
    rw [stL_cells (c := [.i .i64 0, .i .i64 0, .i .i64 0, .i .i64 0, .i .i64 0, .sl none 0 0 0, .b false]) (by rw [Lg.put_ne _ _ _ n421]; exact k4) (by simp [hone]) (by simp) (by simp), splice_7]
    rw [res_cell_tmp _ _ (Lg.put_same _ _ _) (by simp)]
    simp
    obtain ⟨L', g1, g2⟩ := hfin _ ((hB.put b21 _).put b4 _)
    refine ⟨_, g1, hQ _ _ ⟨sl, rfl, ?_⟩⟩
    rw [← comm]
    exact g2
  rcases hfr with ⟨z1, z2, rfl, rfl⟩ | ⟨bs, ex, z1, z2, rfl, z3, rfl⟩
  · refine fin _ E6 c4 c21 q4 q21 rfl rfl ?_
    intro K7 hK7
    exact ⟨_, (Ext2.sees hK7).trans oX2.shut, .inl ⟨z1, z2, rfl, rfl⟩⟩
  · have nb4 : a4 ≠ bs := by rintro rfl; rw [q4] at z1; cases z1
    have nb21 : a21 ≠ bs := by rintro rfl; rw [q21] at z1; cases z1
    have zz := E6.none z1
    refine fin _ (E6.both bs _) (by rw [Lg.put_ne _ _ _ nb4]; exact c4) (by rw [Lg.put_ne _ _ _ nb21]; exact c21) (by rw [Lg.put_ne _ _ _ nb4]; exact q4) (by rw [Lg.put_ne _ _ _ nb21]; exact q21) rfl rfl ?_
    intro K7 hK7
    have o9 := oX2.onto zz (.raw (.cells (wkcells y.2.1)))
    have ne := oX2.ne zz
    refine ⟨_, (Ext2.sees hK7).trans o9.shut, .inr ⟨bs, ex, ?_, z2, rfl, z3, ?_⟩⟩
    · rw [Lg.put_ne _ _ _ ne.1]; exact ne.2
    · rw [Lg.put_comm _ ne.1]
end
end Go.AM


/- one timer: what its acts make of it; in plain Lean. -/
set_option linter.unusedVariables false
set_option linter.unusedSimpArgs false
namespace Go.AM

theorem held_id {t : Int} (h : -4611686018427387904 ≤ t) (k : t ≤ 4611686018427387904) : held t = t := by unfold held; omega
theorem clockAdd_id {t d : Int} (h : 0 ≤ t) (k : 0 ≤ d) (b : t + d ≤ 4611686018427387904) : clockAdd t d = t + d := by
  unfold clockAdd
  rw [held_id (t := t) (by omega) (by omega), held_id (t := d) (by omega) (by omega), held_id (by omega) (by omega)]
/-- one timer that is armed -/
structure Sg (σ : Tms) (k dat : Int) (c : Option Nat) (g due q p : Int) : Prop where
  ones : σ.ones = [⟨k, dat, c, g⟩]
  l : σ.x.l = [⟨0, due, q⟩]
  seq : σ.x.seq = q
  pf : σ.x.pf 0 = some p
/-- one timer that is not -/
structure Idl (σ : Tms) (k dat : Int) (c : Option Nat) (g q : Int) : Prop where
  ones : σ.ones = [⟨k, dat, c, g⟩]
  l : σ.x.l = []
  seq : σ.x.seq = q
def Tms.nil : Tms := ⟨[], ⟨[], 0, fun _ => none⟩, 0⟩
theorem badT_ok {a b : Int} (h1 : 0 ≤ a) (h2 : 0 ≤ b) (h3 : a ≤ 4611686018427387904) (h4 : b ≤ 4611686018427387904) : badT a b = false := by
  simp [badT]; omega
section
variable {σ : Tms} {k dat g due q p : Int} {c : Option Nat}
theorem Sg.sorted (h : Sg σ k dat c g due q p) : σ.x.l.Pairwise It.lt := by rw [h.l]; simp
theorem Idl.sorted (h : Idl σ k dat c g q) : σ.x.l.Pairwise It.lt := by rw [h.l]; simp
theorem Sg.one (h : Sg σ k dat c g due q p) : σ.one 0 = some ⟨k, dat, c, g⟩ := by simp [Tms.one, Tms.has, h.ones]
theorem Idl.one (h : Idl σ k dat c g q) : σ.one 0 = some ⟨k, dat, c, g⟩ := by simp [Tms.one, Tms.has, h.ones]
theorem Sg.len (h : Sg σ k dat c g due q p) : σ.x.l.length < 1000000 := by rw [h.l]; simp
theorem Idl.len (h : Idl σ k dat c g q) : σ.x.l.length < 1000000 := by rw [h.l]; simp
theorem Sg.stop (h : Sg σ k dat c g due q p) : Idl { σ with x := σ.x.stop 0 } k dat c g q := ⟨h.ones, by simp [Xs.stop, h.l, rmId], h.seq⟩
theorem Idl.stop (h : Idl σ k dat c g q) : Idl { σ with x := σ.x.stop 0 } k dat c g q := ⟨h.ones, by simp [Xs.stop, h.l, rmId], h.seq⟩
theorem Sg.next (h : Sg σ k dat c g due q p) : σ.x.next = (due, true) := by simp [Xs.next, h.l]
end
end Go.AM


/- sets of timers whatever: what is kept; in plain Lean. -/
set_option linter.unusedVariables false
set_option linter.unusedSimpArgs false
namespace Go.AM
/-- what is so of what will be due -/
structure XG (x : Xs) (K : Int) : Prop where
  sorted : x.l.Pairwise It.lt
  nd : (x.l.map It.id).Nodup
  below : ∀ y ∈ x.l, y.s ≤ x.seq
  pos : 0 ≤ x.seq
  seq : x.seq ≤ K
  len : (x.l.length : Int) ≤ K
  per : ∀ y ∈ x.l, ∃ p, x.pf y.id = some p ∧ 0 ≤ p ∧ p ≤ 4611686018427387904
  time : ∀ y ∈ x.l, 0 ≤ y.w ∧ y.w ≤ 4611686018427387904
theorem rmId_mem {id : Int} {l : List It} {y : It} : y ∈ rmId id l ↔ y ∈ l ∧ y.id ≠ id := by simp [rmId]
theorem XG.mono {x : Xs} {K K' : Int} (h : XG x K) (hk : K ≤ K') : XG x K' := ⟨h.sorted, h.nd, h.below, h.pos, Int.le_trans h.seq hk, Int.le_trans h.len hk, h.per, h.time⟩
theorem XG.stop {x : Xs} {K : Int} (h : XG x K) (id : Int) : XG (x.stop id) K := by
  have sub : (rmId id x.l).Sublist x.l := List.filter_sublist
  refine ⟨h.sorted.sublist sub, h.nd.sublist (sub.map _), ?_, h.pos, h.seq, ?_, ?_, ?_⟩
  · intro y hy; exact h.below y (rmId_mem.1 hy).1
  · have h1 := sub.length_le
    have h2 := h.len
    have h3 : ((rmId id x.l).length : Int) ≤ (x.l.length : Int) := by omega
    exact Int.le_trans h3 h2
  · intro y hy
    have hy' := rmId_mem.1 hy
    obtain ⟨p, h1, h2⟩ := h.per y hy'.1
    have hn : ¬ id = y.id := fun h9 => hy'.2 h9.symm
    exact ⟨p, by simp [Xs.stop, updI, hn, hy'.2, h1], h2⟩
  · intro y hy; exact h.time y (rmId_mem.1 hy).1
theorem stop_mem {x : Xs} {id : Int} {y : It} : y ∈ (x.stop id).l ↔ y ∈ x.l ∧ y.id ≠ id := rmId_mem
theorem ins_mem {x y : It} {l : List It} : y ∈ ins x l ↔ y = x ∨ y ∈ l := by rw [(ins_perm x l).mem_iff]; simp
theorem XG.arm {x : Xs} {K : Int} (h : XG x K) (id when p : Int) (h1 : 0 ≤ when) (h2 : 0 ≤ p) (h3 : when ≤ 4611686018427387904) (h4 : p ≤ 4611686018427387904) :
    XG (x.arm id when p).1 (K + 1) ∧ (∀ y, y ∈ (x.arm id when p).1.l ↔ y = ⟨id, when, x.seq + 1⟩ ∨ (y ∈ x.l ∧ y.id ≠ id)) ∧ (x.arm id when p).1.pf id = some p ∧ (∀ j, j ≠ id → (x.arm id when p).1.pf j = x.pf j) ∧ (x.arm id when p).1.seq = x.seq + 1 := by
  have hb := badT_ok h1 h2 h3 h4
  have e : (x.arm id when p).1 = x.armed id when p := by simp [Xs.arm, hb]
  rw [e]
  have mem : ∀ y, y ∈ (x.armed id when p).l ↔ y = ⟨id, when, x.seq + 1⟩ ∨ (y ∈ x.l ∧ y.id ≠ id) := by
    intro y
    simp only [Xs.armed]
    rw [ins_mem, rmId_mem]
  have hs := h.stop id
  refine ⟨⟨?_, ?_, ?_, ?_, ?_, ?_, ?_, ?_⟩, mem, by simp [Xs.armed, updI], ?_, rfl⟩
  · refine ins_sorted hs.sorted ?_
    intro y hy
    have := h.below y (rmId_mem.1 hy).1
    simp; omega
  · simp only [Xs.armed]
    rw [((ins_perm _ _).map It.id).nodup_iff]
    simp only [List.map_cons, List.nodup_cons]
    refine ⟨?_, hs.nd⟩
    intro h9
    obtain ⟨y, hy, hyi⟩ := List.mem_map.1 h9
    exact (rmId_mem.1 hy).2 hyi
  · intro y hy
    rcases (mem y).1 hy with rfl | ⟨h5, _⟩
    · simp [Xs.armed]
    · have := h.below y h5; simp [Xs.armed]; omega
  · have := h.pos; simp [Xs.armed]; omega
  · have := h.seq; simp [Xs.armed]; omega
  · have h5 := hs.len
    simp only [Xs.armed, (ins_perm _ _).length_eq, List.length_cons]
    simp only [Xs.stop] at h5
    omega
  · intro y hy
    rcases (mem y).1 hy with rfl | ⟨h5, h6⟩
    · exact ⟨p, by simp [Xs.armed, updI], h2, h4⟩
    · obtain ⟨q, h7, h8⟩ := h.per y h5
      have hn : ¬ id = y.id := fun h9 => h6 h9.symm
      exact ⟨q, by simp [Xs.armed, updI, hn, h6, h7], h8⟩
  · intro y hy
    rcases (mem y).1 hy with rfl | ⟨h5, h6⟩
    · exact ⟨h1, h3⟩
    · exact h.time y h5
  · intro j hj
    have hn : ¬ id = j := fun h9 => hj h9.symm
    simp [Xs.armed, updI, hn, hj]
/-- what is due is taken: or nothing is -/
theorem XG.take {x : Xs} {K : Int} (h : XG x K) {now : Int} (hn : 0 ≤ now) (hb : now ≤ 2305843009213693952) (hp : ∀ y ∈ x.l, ∀ p, x.pf y.id = some p → p ≤ 2305843009213693952) :
    ((∀ y ∈ x.l, now < y.w) ∧ x.take now = (x, (0, 0, 0), false)) ∨
    ∃ (x' : Xs) (y : It), y ∈ x.l ∧ y.w ≤ now ∧ (∀ z ∈ x.l, ¬ z.lt y) ∧ x.take now = (x', (y.id, y.w, now), true) ∧ XG x' (K + 1) ∧ (∀ j, j ≠ y.id → x'.pf j = x.pf j) ∧ 
      ((x.pf y.id = some 0 ∧ ∀ z, z ∈ x'.l ↔ z ∈ x.l ∧ z.id ≠ y.id) ∨
       ∃ p, 0 < p ∧ x.pf y.id = some p ∧ x'.pf y.id = some p ∧ ∀ z, z ∈ x'.l ↔ (z = ⟨y.id, now + (p - (now - y.w) % p), x.seq + 1⟩ ∨ (z ∈ x.l ∧ z.id ≠ y.id))) := by
  cases hl : x.l with
  | nil => left; simp [Xs.take, hl]
  | cons y r =>
    have hs := h.sorted
    rw [hl, List.pairwise_cons] at hs
    have hy : y ∈ x.l := by rw [hl]; simp
    obtain ⟨t0, t1⟩ := h.time y hy
    by_cases hw : now < y.w
    · left
      refine ⟨?_, by simp [Xs.take, hl, hw]⟩
      intro z hz
      rcases List.mem_cons.1 hz with rfl | hz
      · exact hw
      · have := hs.1 z hz
        unfold It.lt at this
        omega
    · right
      obtain ⟨p, hp1, hp2, hp3⟩ := h.per y hy
      have hp4 := hp y hy p hp1
      have c1 : ¬ (now < 0 ∨ now < y.w) := by omega
      have hmin : ∀ z ∈ y :: r, ¬ z.lt y := by
        intro z hz
        rcases List.mem_cons.1 hz with rfl | hz
        · exact It.lt_irrefl _
        · exact It.lt_asymm (hs.1 z hz)
      by_cases hp0 : p = 0
      · subst hp0
        refine ⟨x.stop y.id, y, by simp, by omega, hmin, by simp [Xs.take, hl, c1, hp1, clockNext], (h.stop y.id).mono (by omega), ?_, .inl ⟨hp1, fun z => ?_⟩⟩
        · intro j hj
          have hn : ¬ y.id = j := fun h9 => hj h9.symm
          simp [Xs.stop, updI, hn, hj]
        · rw [stop_mem, hl]
      · have hpp : 0 < p := by omega
        have m0 := Int.emod_nonneg (now - y.w) (show p ≠ 0 by omega)
        have m1 := Int.emod_lt_of_pos (now - y.w) hpp
        have c2 : ¬ (p < 1 ∨ min y.w now < 0 ∨ 4611686018427387904 < max y.w (max p now)) := by omega
        have c3 : ¬ now < y.w := by omega
        have e1 : (now - y.w).tmod p = (now - y.w) % p := Int.tmod_eq_emod_of_nonneg (by omega)
        have e2 : clockNext y.w p now = (now + (p - (now - y.w) % p), 0) := by
          simp only [clockNext, if_neg c2, if_neg c3, e1]
          rw [clockAdd_id (by omega) (by omega) (by omega)]
        have e3 : now < now + (p - (now - y.w) % p) := by omega
        obtain ⟨a1, a2, a3, a4, a5⟩ := (h.stop y.id).arm y.id (now + (p - (now - y.w) % p)) p (by omega) (by omega) (by omega) (by omega)
        refine ⟨((x.stop y.id).arm y.id (now + (p - (now - y.w) % p)) p).1, y, by simp, by omega, hmin, ?_, a1, ?_, .inr ⟨p, hpp, hp1, a3, fun z => ?_⟩⟩
        · simp [Xs.take, hl, c1, hp1, e2, e3]
        · intro j hj
          have hn : ¬ y.id = j := fun h9 => hj h9.symm
          rw [a4 j hj]
          simp [Xs.stop, updI, hn, hj]
        · rw [a2, stop_mem, hl]
          constructor
          · rintro (h1 | ⟨⟨h1, h2⟩, h3⟩)
            · exact .inl h1
            · exact .inr ⟨h1, h2⟩
          · rintro (h1 | ⟨h1, h2⟩)
            · exact .inl h1
            · exact .inr ⟨⟨h1, h2⟩, h2⟩
end Go.AM


/- ctx: the timers of contexts; in plain Lean. -/
set_option linter.unusedVariables false
set_option linter.unusedSimpArgs false
namespace Go.AM
theorem hitL_tau {T : List Nd} (err cause : Int) {acc : CRes} {j : Nat} {K : Int} {s : Nat} (hw : Whos acc.1) (hj : LiveAt T acc.1 j) (ht : acc.1.σ.t = some s) (hx : XG acc.1.τ.x K) (ho : ∀ y ∈ acc.1.τ.x.l, ∃ o, acc.1.τ.one y.id = some o) :
    XG (hitL err cause acc j).1.τ.x K ∧ (hitL err cause acc j).1.τ.named = acc.1.τ.named ∧
    (∀ y, y ∈ (hitL err cause acc j).1.τ.x.l ↔ y ∈ acc.1.τ.x.l ∧ ∀ (w : Nat) (x : One), acc.1.σ.ones[w]? = some x → x.node = (j : Int) → x.timer ≠ y.id) ∧
    (∀ y ∈ (hitL err cause acc j).1.τ.x.l, (hitL err cause acc j).1.τ.x.pf y.id = acc.1.τ.x.pf y.id) := by
  rcases hj with ⟨w0, x0, q1, q2, q3, _⟩ | ⟨k0, x0, q1, q5, q2, q3, _⟩
  · have hnn : ¬ ((w0 : Int) < 0) := by omega
    have e : hitL err cause acc j = ((((acc.1.setOne w0 { x0 with err := err, cause := cause }).endT x0.c).1.stopT x0.timer), acc.2.1 ++ [⟨w0, err, cause, ((acc.1.setOne w0 { x0 with err := err, cause := cause }).endT x0.c).2⟩], acc.2.2) := by
      unfold hitL
      simp only [q1, Option.getD_some, hnn, if_false, Int.toNat_natCast, q2]
    have uniq : ∀ (w : Nat) (x : One), acc.1.σ.ones[w]? = some x → x.node = (j : Int) → x = x0 := by
      intro w x hx h9
      obtain ⟨k, h1, h2⟩ := hw.w1 w x hx
      have : k = j := by omega
      subst this
      rw [q1] at h2
      have : w0 = w := by simp at h2; omega
      subst this
      rw [q2] at hx; cases hx; rfl
    have hf := endT_facts (acc.1.setOne w0 { x0 with err := err, cause := cause }) x0.c
    rw [e]
    simp only
    generalize hS1 : ((acc.1.setOne w0 { x0 with err := err, cause := cause }).endT x0.c).1 = S1 at hf
    have e1 : S1.σ.t = some s := by rw [hf.1]; exact ht
    have e2 : S1.τ = acc.1.τ := by rw [hf.2.1]; rfl
    unfold CX.stopT
    rw [e1, e2]
    simp only
    cases ho2 : acc.1.τ.one x0.timer with
    | none =>
      simp only [e2]
      refine ⟨hx, by trivial, fun y => ⟨fun hy => ⟨hy, fun w x h1 h2 h3 => ?_⟩, fun hy => hy.1⟩, fun y _ => by trivial⟩
      have := uniq w x h1 h2
      subst this
      obtain ⟨o, ho3⟩ := ho y hy
      rw [← h3, ho2] at ho3; cases ho3
    | some o =>
      refine ⟨hx.stop _, rfl, fun y => ?_, fun y hy => ?_⟩
      · rw [stop_mem]
        constructor
        · rintro ⟨h1, h2⟩
          exact ⟨h1, fun w x h3 h4 h5 => by have := uniq w x h3 h4; subst this; exact h2 h5.symm⟩
        · rintro ⟨h1, h2⟩
          exact ⟨h1, fun h3 => h2 w0 x0 q2 (by omega) h3.symm⟩
      · have := (stop_mem.1 hy).2
        have hn : ¬ x0.timer = y.id := fun h9 => this h9.symm
        simp [Xs.stop, updI, hn]
  · have hneg : (-(k0 : Int) - 1) < 0 := by omega
    have hk : (-(-(k0 : Int) - 1) - 1) = (k0 : Int) := by omega
    have e : hitL err cause acc j = ({ acc.1 with σ := { acc.1.σ with afts := acc.1.σ.afts.set k0 { x0 with over := true } } }, acc.2.1, acc.2.2 ++ [((k0 : Int), x0.prog)]) := by
      unfold hitL
      simp only [q1, Option.getD_some, hneg, if_true, hk, Int.toNat_natCast, q2]
    rw [e]
    refine ⟨hx, rfl, fun y => ⟨fun hy => ⟨hy, fun w x h1 h2 h3 => ?_⟩, fun hy => hy.1⟩, fun y _ => rfl⟩
    obtain ⟨k, h4, h5⟩ := hw.w1 w x h1
    have : k = j := by omega
    subst this
    rw [q1] at h5; simp at h5; omega
theorem hits_tau {T : List Nd} (err cause : Int) {K : Int} {s : Nat} : ∀ (l : List Nat) (acc : CRes), Whos acc.1 → (∀ i ∈ l, LiveAt T acc.1 i) → l.Nodup → acc.1.σ.t = some s → XG acc.1.τ.x K → (∀ y ∈ acc.1.τ.x.l, ∃ o, acc.1.τ.one y.id = some o) →
    XG (l.foldl (hitL err cause) acc).1.τ.x K ∧ (l.foldl (hitL err cause) acc).1.τ.named = acc.1.τ.named ∧
    (∀ y, y ∈ (l.foldl (hitL err cause) acc).1.τ.x.l ↔ y ∈ acc.1.τ.x.l ∧ ∀ (w : Nat) (x : One), acc.1.σ.ones[w]? = some x → inL l x.node = true → x.timer ≠ y.id) ∧
    (∀ y ∈ (l.foldl (hitL err cause) acc).1.τ.x.l, (l.foldl (hitL err cause) acc).1.τ.x.pf y.id = acc.1.τ.x.pf y.id)
  | [], acc, _, _, _, _, hx, _ => by simp [inL, hx]
  | a :: r, acc, hw, h, hn, ht, hx, ho => by
    have ha := h a (by simp)
    have hn' := List.nodup_cons.1 hn
    have hk := hitL_keeps err cause acc a
    obtain ⟨o1, _⟩ := hitL_ones err cause hw ha
    obtain ⟨t1, t2, t3, t4⟩ := hitL_tau err cause hw ha ht hx ho
    have ho' : ∀ y ∈ (hitL err cause acc a).1.τ.x.l, ∃ o, (hitL err cause acc a).1.τ.one y.id = some o := fun y hy => by
      rw [one_eq hk.2.2.2.1]; exact ho y ((t3 y).1 hy).1
    obtain ⟨i1, i2, i3, i4⟩ := hits_tau (T := T) err cause r (hitL err cause acc a) (hw.hit err cause ha) (fun i hi => (h i (by simp [hi])).hit err cause ha (by rintro rfl; exact hn'.1 hi)) hn'.2 (by rw [hk.2.2.1]; exact ht) t1 ho'
    simp only [List.foldl_cons]
    refine ⟨i1, i2.trans t2, fun y => ?_, fun y hy => ?_⟩
    · rw [i3, t3]
      constructor
      · rintro ⟨⟨h1, h2⟩, h3⟩
        refine ⟨h1, fun w x hx hin => ?_⟩
        simp only [inL, List.any_cons, Bool.or_eq_true, decide_eq_true_eq] at hin
        rcases hin with hin | hin
        · exact h2 w x hx hin
        · have := h3 w (if x.node = (a : Int) then { x with err := err, cause := cause } else x) (by rw [o1, hx]; rfl) (by split <;> exact hin)
          split at this <;> exact this
      · rintro ⟨h1, h2⟩
        refine ⟨⟨h1, fun w x hx hn => h2 w x hx (by simp [inL, hn])⟩, fun w x hx hin => ?_⟩
        rw [o1] at hx
        cases e : acc.1.σ.ones[w]? with
        | none => rw [e] at hx; cases hx
        | some z =>
          rw [e] at hx; simp at hx; subst hx
          have hin' : inL r z.node = true := by split at hin <;> exact hin
          have := h2 w z e (by simp only [inL, List.any_cons] at hin' ⊢; rw [hin']; simp)
          split <;> exact this
    · rw [i4 y hy]
      exact t4 y ((i3 y).1 hy).1
/-- contexts' deadlines are timers, and there are no others; ex: whose timer may be gone -/
structure TW (S : CX) (s : Nat) (K : Int) (ex : Nat → Prop) : Prop where
  t : S.σ.t = some s
  xg : XG S.τ.x K
  named : 0 ≤ S.τ.named ∧ S.τ.named ≤ 64
  pf : ∀ y ∈ S.τ.x.l, S.τ.x.pf y.id = some 0
  ones : ∀ (k : Nat) (o : On), S.τ.ones[k]? = some o → o.kind = 4 ∧ o.c = none ∧ ∃ (j : Nat) (x : One), o.data = (j : Int) ∧ S.σ.ones[j]? = some x ∧ x.timer = (k : Int) ∧ x.own = true
  item : ∀ y ∈ S.τ.x.l, ∃ (k j : Nat) (x : One) (o : On), y.id = (k : Int) ∧ S.σ.ones[j]? = some x ∧ x.timer = (k : Int) ∧ x.own = true ∧ x.err = 0 ∧ x.when = y.w ∧ S.τ.ones[k]? = some o ∧ o.data = (j : Int)
  own : ∀ (j : Nat) (x : One), S.σ.ones[j]? = some x → x.own = true → x.err = 0 → ¬ ex j → ∃ y ∈ S.τ.x.l, y.id = x.timer ∧ y.w = x.when
  tim : ∀ (j : Nat) (x : One), S.σ.ones[j]? = some x → (x.own = false → x.timer = -1) ∧ (x.own = true → ∃ (k : Nat) (o : On), x.timer = (k : Int) ∧ S.τ.ones[k]? = some o ∧ o.data = (j : Int))
  cnt : S.τ.ones.length ≤ 64
theorem tms_one {τ : Tms} {k : Nat} {o : On} (h : τ.ones[k]? = some o) : τ.one (k : Int) = some o := by
  have hk : k < τ.ones.length := (List.getElem?_eq_some_iff.1 h).1
  have hh : τ.has (k : Int) = true := by unfold Tms.has; simp; omega
  simp only [Tms.one, hh, if_true, Int.toNat_natCast, h]
/-- a timer is one context's -/
theorem TW.inj {S : CX} {s : Nat} {K : Int} {ex : Nat → Prop} (h : TW S s K ex) {i j k : Nat} {x y : One} (hx : S.σ.ones[i]? = some x) (hy : S.σ.ones[j]? = some y) (h1 : x.timer = (k : Int)) (h2 : y.timer = (k : Int)) : i = j := by
  have own : ∀ (j : Nat) (x : One), S.σ.ones[j]? = some x → x.timer = (k : Int) → ∃ o, S.τ.ones[k]? = some o ∧ o.data = (j : Int) := by
    intro j x hx hk
    obtain ⟨a, b⟩ := h.tim j x hx
    cases ho : x.own
    · have := a ho; omega
    · obtain ⟨k', o, e1, e2, e3⟩ := b ho
      have : k' = k := by omega
      subst this
      exact ⟨o, e2, e3⟩
  obtain ⟨o, e1, e2⟩ := own i x hx h1
  obtain ⟨o', e3, e4⟩ := own j y hy h2
  rw [e1] at e3; cases e3
  omega
theorem TW.fine {S : CX} {s : Nat} {K : Int} {ex : Nat → Prop} (h : TW S s K ex) (hK : K ≤ 100000) : S.τ.fineB = true := by
  have h1 := h.xg.pos
  have h2 := h.xg.seq
  have h3 := h.xg.len
  have h4 := h.named
  have h5 := h.cnt
  unfold Tms.fineB
  simp
  omega
/-- what a walk does to timers -/
theorem TW.walk {S : CX} {s : Nat} {K : Int} {ex : Nat → Prop} (h : TW S s K ex) (hw : WF S) {i k : Nat} {x : One} (hx : S.σ.ones[i]? = some x) (hk : x.node = (k : Int)) (hf : x.free = false) (he : x.err = 0) {err cause : Int} (herr : err ≠ 0) {r : CRes}
    (hr : walked S.σ.tree err cause (fun _ => false) (pre S.σ.tree 200 k) (S, [], []) = r) (hex : ∀ j, ex j → j = i) : TW r.1 s K (fun _ => False) ∧ r.1.τ.ones = S.τ.ones ∧
    (∀ y, y ∈ r.1.τ.x.l ↔ y ∈ S.τ.x.l ∧ ∀ (w : Nat) (x : One), S.σ.ones[w]? = some x → inL (pre S.σ.tree 200 k) x.node = true → x.timer ≠ y.id) := by
  obtain ⟨w1, w2, w3, w4, w5, w6, w7⟩ := hw.walk hx hk hf he herr hr
  have hl := hw.liveAt hx hk hf he 200
  have hnd := pre_nodup hw.tr 200 k
  have hone : ∀ y ∈ S.τ.x.l, ∃ o, S.τ.one y.id = some o := fun y hy => by
    obtain ⟨k, j, x, o, e1, _, _, _, _, _, e7, _⟩ := h.item y hy
    exact ⟨o, by rw [e1]; exact tms_one e7⟩
  obtain ⟨t1, t2, t3, t4⟩ := hits_tau (T := S.σ.tree) err cause (pre S.σ.tree 200 k) (S, [], []) hw.whos hl hnd h.t h.xg hone
  have hrτ : r.1.τ = ((pre S.σ.tree 200 k).foldl (hitL err cause) (S, [], [])).1.τ := by rw [← hr]; rfl
  rw [← hrτ] at t1 t2 t3 t4
  simp only at t2 t3 t4
  have hki : inL (pre S.σ.tree 200 k) x.node = true := by
    rw [inL_nat hk, decide_eq_true_eq]
    show k ∈ k :: (kidsOf S.σ.tree (k : Int)).flatMap (pre S.σ.tree 199)
    simp
  have back : ∀ (w : Nat) (y : One), r.1.σ.ones[w]? = some y → ∃ z, S.σ.ones[w]? = some z ∧ y = if inL (pre S.σ.tree 200 k) z.node = true then { z with err := err, cause := cause } else z := by
    intro w y hy
    rw [w6] at hy
    cases e : S.σ.ones[w]? with
    | none => rw [e] at hy; cases hy
    | some x => rw [e] at hy; simp at hy; exact ⟨x, rfl, hy.symm⟩
  refine ⟨⟨w3.trans h.t, t1, by rw [t2]; exact h.named, fun y hy => by rw [t4 y hy]; exact h.pf y ((t3 y).1 hy).1, ?_, ?_, ?_, ?_, by rw [w4]; exact h.cnt⟩, w4, t3⟩
  · intro q o ho
    rw [w4] at ho
    obtain ⟨a1, a2, j, z, a3, a4, a5, a6⟩ := h.ones q o ho
    refine ⟨a1, a2, j, _, a3, by rw [w6, a4]; rfl, ?_, ?_⟩
    · simp only; split <;> exact a5
    · simp only; split <;> exact a6
  · intro y hy
    obtain ⟨hy1, hy2⟩ := (t3 y).1 hy
    obtain ⟨q, j, z, o, e1, e2, e3, e4, e5, e6, e7, e8⟩ := h.item y hy1
    have hni : ¬ inL (pre S.σ.tree 200 k) z.node = true := fun h9 => hy2 j z e2 h9 (by rw [e3, e1])
    exact ⟨q, j, z, o, e1, by rw [w6, e2, Option.map_some, if_neg hni], e3, e4, e5, e6, by rw [w4]; exact e7, e8⟩
  · intro j y hy ho he2 _
    obtain ⟨z, hz, rfl⟩ := back j y hy
    by_cases hin : inL (pre S.σ.tree 200 k) z.node = true
    · rw [if_pos hin] at he2; exact absurd he2 herr
    · rw [if_neg hin] at ho he2 ⊢
      have hnex : ¬ ex j := fun h9 => by
        have := hex j h9
        subst this
        rw [hx] at hz; cases hz
        exact hin hki
      obtain ⟨y, hy1, hy2, hy3⟩ := h.own j z hz ho he2 hnex
      refine ⟨y, (t3 y).2 ⟨hy1, fun w x2 hw2 hin2 h9 => ?_⟩, hy2, hy3⟩
      obtain ⟨q, _, _, o, e1, _⟩ := h.item y hy1
      have := h.inj hw2 hz (k := q) (by rw [h9, e1]) (by rw [← hy2, e1])
      subst this
      rw [hz] at hw2; cases hw2
      exact hin hin2
  · intro j y hy
    obtain ⟨z, hz, rfl⟩ := back j y hy
    have := h.tim j z hz
    rw [w4]
    split <;> exact this
/-- a timer has come: it is taken -/
theorem TW.fire {S : CX} {s : Nat} {K : Int} (h : TW S s K (fun _ => False)) {now : Int} (h0 : 0 ≤ now) (h1 : now ≤ 1000000) :
    ((∀ y ∈ S.τ.x.l, now < y.w) ∧ S.τ.x.take now = (S.τ.x, (0, 0, 0), false)) ∨
    ∃ (x' : Xs) (y : It) (k j : Nat) (x : One) (o : On), y ∈ S.τ.x.l ∧ y.w ≤ now ∧ (∀ z ∈ S.τ.x.l, ¬ z.lt y) ∧ S.τ.x.take now = (x', ((k : Int), y.w, now), true) ∧ y.id = (k : Int) ∧ S.σ.ones[j]? = some x ∧ x.own = true ∧ x.err = 0 ∧ x.when = y.w ∧ x.timer = (k : Int) ∧
      S.τ.one (k : Int) = some o ∧ o.kind = 4 ∧ o.c = none ∧ o.data = (j : Int) ∧ TW ({ S with τ := { S.τ with x := x' } } : CX) s (K + 1) (fun i => i = j) ∧ (∀ z, z ∈ x'.l ↔ z ∈ S.τ.x.l ∧ z.id ≠ y.id) := by
  rcases h.xg.take h0 (by omega) (fun y hy p hp => by rw [h.pf y hy] at hp; cases hp; omega) with h2 | ⟨x', y, hy, hw, hmin, htk, hxg, hpf, hd⟩
  · exact .inl h2
  · right
    rcases hd with ⟨_, hmem⟩ | ⟨p, hp, hp2, _⟩
    · obtain ⟨k, j, x, o, e1, e2, e3, e4, e5, e6, e7, e8⟩ := h.item y hy
      have hon := h.ones k o e7
      refine ⟨x', y, k, j, x, o, hy, hw, hmin, by rw [htk, e1], e1, e2, e4, e5, e6, e3, tms_one e7, hon.1, hon.2.1, e8, ⟨h.t, hxg, h.named, ?_, h.ones, ?_, ?_, h.tim, h.cnt⟩, hmem⟩
      · intro z hz
        have hz' := (hmem z).1 hz
        show x'.pf z.id = some 0
        rw [hpf z.id hz'.2]; exact h.pf z hz'.1
      · intro z hz
        exact h.item z ((hmem z).1 hz).1
      · intro j2 z hz ho he hex
        obtain ⟨y2, g1, g2, g3⟩ := h.own j2 z hz ho he (fun h => h)
        refine ⟨y2, (hmem y2).2 ⟨g1, fun h9 => hex ?_⟩, g2, g3⟩
        exact h.inj hz e2 (k := k) (by rw [← g2, h9, e1]) e3
    · rw [h.pf y hy] at hp2; cases hp2; omega
/-- a context more without a timer -/
theorem TW.add {S : CX} {s : Nat} {K : Int} (h : TW S s K (fun _ => False)) {o : One} {p : Int} {χ' : Nat → Ch} (he : (S.σ.add o p).ones = S.σ.ones ++ [{ o with node := S.σ.tree.length, timer := -1 }]) (ho : o.own = false) : TW ({ S with σ := S.σ.add o p, χ := χ' } : CX) s K (fun _ => False) := by
  have fwd : ∀ (j : Nat) (x : One), S.σ.ones[j]? = some x → (S.σ.add o p).ones[j]? = some x := fun j x hx => by
    rw [he, List.getElem?_append_left (List.getElem?_eq_some_iff.1 hx).1]; exact hx
  have back : ∀ (j : Nat) (x : One), (S.σ.add o p).ones[j]? = some x → S.σ.ones[j]? = some x ∨ (x.own = false ∧ x.timer = -1) := by
    intro j x hx
    rw [he] at hx
    by_cases hj : j < S.σ.ones.length
    · rw [List.getElem?_append_left hj] at hx; exact .inl hx
    · rw [List.getElem?_append_right (by omega)] at hx
      have hz : j - S.σ.ones.length = 0 := by
        rcases Nat.eq_zero_or_pos (j - S.σ.ones.length) with h9 | h9
        · exact h9
        · rw [List.getElem?_eq_none (by simp; omega)] at hx; cases hx
      rw [hz] at hx; simp at hx; subst hx
      exact .inr ⟨ho, rfl⟩
  refine ⟨h.t, h.xg, h.named, h.pf, ?_, ?_, ?_, ?_, h.cnt⟩
  · intro k q hq
    obtain ⟨a1, a2, j, x, a3, a4, a5⟩ := h.ones k q hq
    exact ⟨a1, a2, j, x, a3, fwd j x a4, a5⟩
  · intro y hy
    obtain ⟨k, j, x, q, e1, e2, e3⟩ := h.item y hy
    exact ⟨k, j, x, q, e1, fwd j x e2, e3⟩
  · intro j x hx h1 h2 h3
    rcases back j x hx with h4 | ⟨h4, _⟩
    · exact h.own j x h4 h1 h2 h3
    · rw [h1] at h4; cases h4
  · intro j x hx
    rcases back j x hx with h4 | ⟨h4, h5⟩
    · exact h.tim j x h4
    · exact ⟨fun _ => h5, fun h6 => by rw [h4] at h6; cases h6⟩
end Go.AM


/- ctx: a deadline with a timer of its own; in plain Lean. -/
set_option linter.unusedVariables false
set_option linter.unusedSimpArgs false
namespace Go.AM
theorem setT_get {S : CX} {i : Nat} {o : One} {k : Int} (hi : S.σ.ones[i]? = some o) (w : Nat) : (S.setOne i { o with timer := k }).σ.ones[w]? = (S.σ.ones[w]?).map fun (x : One) => if w = i then { x with timer := k } else x := by
  show (S.σ.ones.set i _)[w]? = _
  have hl : i < S.σ.ones.length := (List.getElem?_eq_some_iff.1 hi).1
  by_cases e : i = w
  · subst e; rw [List.getElem?_set_self hl, hi]; simp
  · rw [List.getElem?_set_ne e]
    cases S.σ.ones[w]? with
    | none => rfl
    | some x => simp [Ne.symm e]
theorem WF.setT {S : CX} (h : WF S) {i : Nat} {o : One} {k : Int} {τ' : Tms} (hi : S.σ.ones[i]? = some o) (hl : τ'.x.l.length ≤ 1000000) (ht : ∀ (q : Nat) (p : On), τ'.ones[q]? = some p → p.c = none) : WF ({ S.setOne i { o with timer := k } with τ := τ' } : CX) := by
  have back : ∀ (w : Nat) (y : One), (S.setOne i { o with timer := k }).σ.ones[w]? = some y → ∃ z, S.σ.ones[w]? = some z ∧ y.node = z.node ∧ y.free = z.free ∧ y.err = z.err ∧ y.c = z.c := by
    intro w y hy
    rw [setT_get hi] at hy
    cases e : S.σ.ones[w]? with
    | none => rw [e] at hy; cases hy
    | some z =>
      rw [e] at hy; simp at hy
      refine ⟨z, rfl, ?_⟩
      subst hy
      split <;> exact ⟨rfl, rfl, rfl, rfl⟩
  have hlen : (S.setOne i { o with timer := k }).σ.ones.length = S.σ.ones.length := by simp [CX.setOne]
  refine ⟨h.tr, ⟨by show (S.setOne i { o with timer := k }).σ.ones.length ≤ 64; rw [hlen]; exact h.sz.1, h.sz.2⟩, ?_, ?_, h.who2, ?_, ?_, ?_, ?_, hl⟩
  · show S.σ.tree.length = (S.setOne i { o with timer := k }).σ.ones.length + S.σ.afts.length
    rw [hlen]; exact h.len
  · intro w y hy
    obtain ⟨z, hz, e1, _⟩ := back w y hy
    rw [e1]; exact h.who1 w z hz
  · intro q hq
    rcases h.cover q hq with ⟨w, x, c1, c2, c3⟩ | hh
    · refine .inl ⟨w, _, c1, by rw [setT_get hi, c2]; rfl, ?_⟩
      simp only; split <;> exact c3
    · exact .inr hh
  · intro w q y n hy hq hn
    obtain ⟨z, hz, e1, e2, e3, _⟩ := back w y hy
    rw [e2, e3]
    exact h.live w q z n hz (by rw [← e1]; exact hq) hn
  · intro y hy a ha
    obtain ⟨w, hw⟩ := List.mem_iff_getElem?.1 hy
    obtain ⟨z, hz, _, _, _, e4⟩ := back w y hw
    exact h.chs z (List.mem_of_getElem? hz) a (by rw [← e4]; exact ha)
  · intro y hy s p hs hp
    unfold Tms.one at hp
    split at hp
    · exact ht _ p hp
    · cases hp
theorem heldM_id {t : Int} (h0 : 0 ≤ t) (h1 : t ≤ 1000000) : max (clockAdd t 0) 0 = t := by
  rw [clockAdd_id (by omega) (by omega) (by omega)]; omega
theorem WF.deadlineT {S : CX} (h : WF S) {s : Nat} {K : Int} (hT : TW S s K (fun _ => False)) (hK : K ≤ 100000) (hc : S.τ.ones.length < 64) {p : Nat} {up : One} (hup : S.σ.ones[p]? = some up) (hlen : S.σ.ones.length < 64) (he : up.err = 0) {when now : Int} (h0 : 0 ≤ when) (h1 : when ≤ 1000000) (hn : now < when) (hh : ¬ (up.has = true ∧ up.when ≤ when)) (a : Nat) :
    ∃ S2 : CX, S.deadlineP p when now a = some (S2, (S.σ.ones.length : Int), [], 0) ∧ WF S2 ∧ TW S2 s (K + 1) (fun _ => False) ∧ S2.σ.ones = S.σ.ones ++ [{ ({ One.zero with when := when, has := true, own := true, c := some a } : One) with node := S.σ.tree.length, timer := S.τ.ones.length }] ∧ S2.σ.afts = S.σ.afts ∧ S2.σ.t = S.σ.t ∧ S2.χ = updC S.χ a .sg ∧ S2.τ.ones.length = S.τ.ones.length + 1 ∧
      Added S.σ.tree up.node true S2.σ.tree ∧ (∀ y, y ∈ S2.τ.x.l ↔ y = ⟨S.τ.ones.length, when, S.τ.x.seq + 1⟩ ∨ y ∈ S.τ.x.l) := by
  have hw := h.add (o := { ({ One.zero with when := when, has := true, own := true } : One) with c := some a }) (χ' := updC S.χ a .sg) hup hlen rfl (fun b n hb => updC_sizes _ _ _ _ hb) (fun b hb => by simp at hb; subst hb; simp [updC, Ch.sg])
  have hS1 : S.addS { One.zero with when := when, has := true, own := true } up.node a = ({ S with σ := S.σ.add { ({ One.zero with when := when, has := true, own := true } : One) with c := some a } up.node, χ := updC S.χ a .sg } : CX) := rfl
  rw [← hS1] at hw
  generalize hS1' : S.addS { One.zero with when := when, has := true, own := true } up.node a = S1 at hw
  have e1t : S1.σ.t = some s := by rw [← hS1']; exact hT.t
  have e1τ : S1.τ = S.τ := by rw [← hS1']; rfl
  have e1o : S1.σ.ones = S.σ.ones ++ [{ ({ One.zero with when := when, has := true, own := true, c := some a } : One) with node := S.σ.tree.length, timer := -1 }] := by rw [← hS1']; exact hw.2.1
  have e1tr : Added S.σ.tree up.node true S1.σ.tree := by rw [← hS1']; exact hw.2.2.1
  have e1χ : S1.χ = updC S.χ a .sg := by rw [← hS1']; rfl
  have e1a : S1.σ.afts = S.σ.afts := by rw [← hS1']; rfl
  have hid : S1.σ.ones[S.σ.ones.length]? = some { ({ One.zero with when := when, has := true, own := true, c := some a } : One) with node := S.σ.tree.length, timer := -1 } := by
    rw [e1o, List.getElem?_append_right (Nat.le_refl _)]; simp
  have hp : p < S.σ.ones.length := (List.getElem?_eq_some_iff.1 hup).1
  have hb : S1.beginP S.σ.ones.length p = some (S1, []) := by
    unfold CX.beginP
    rw [if_pos (by omega)]
    have : S1.σ.ones[((p : Int)).toNat]? = some up := by
      rw [e1o, Int.toNat_natCast, List.getElem?_append_left hp]; exact hup
    rw [this]
    simp only
    rw [if_pos he]
  -- the timer
  obtain ⟨k, hk⟩ : ∃ k, k = S.τ.ones.length := ⟨_, rfl⟩
  obtain ⟨g1, g2, g3, g4, g5⟩ := hT.xg.arm (k : Int) when 0 h0 (by omega) (by omega) (by omega)
  obtain ⟨w, hwd⟩ : ∃ w : On, w = ⟨4, (S.σ.ones.length : Int), none, 0⟩ := ⟨_, rfl⟩
  obtain ⟨τ', hτ'⟩ : ∃ τ' : Tms, τ' = { S.τ with ones := S.τ.ones ++ [{ w with gen := 1 }], x := (S.τ.x.arm (k : Int) when 0).1 } := ⟨_, rfl⟩
  have hmk : S.τ.make w 0 when = (τ', (k : Int), 0) := by
    unfold Tms.make
    have b0 : badN 0 = false := rfl
    rw [if_neg (by rw [hwd]; simp [b0]), if_neg (by rw [hwd]; simp)]
    rw [hτ', ← hk]
    unfold Tms.armed
    have c1 : clockAdd 0 (max when 0) = when := by rw [show max when 0 = when by omega, clockAdd_id (by omega) (by omega) (by omega)]; omega
    have c4 : (S.τ.ones ++ [(⟨4, (S.σ.ones.length : Int), none, 0⟩ : On)]).set k ⟨4, (S.σ.ones.length : Int), none, 0 + 1⟩ = S.τ.ones ++ [⟨4, (S.σ.ones.length : Int), none, 1⟩] := by
      rw [hk, List.set_append_right _ _ (Nat.le_refl _)]; simp
    simp only [c1, hwd, c4]
    simp
  obtain ⟨S2, hS2⟩ : ∃ S2 : CX, S2 = { ({ S1 with τ := τ' } : CX).setOne S.σ.ones.length { ({ ({ One.zero with when := when, has := true, own := true, c := some a } : One) with node := S.σ.tree.length, timer := -1 } : One) with timer := (k : Int) } with τ := τ' } := ⟨_, rfl⟩
  have harm : S1.armP S.σ.ones.length when = some S2 := by
    unfold CX.armP
    rw [e1t, e1τ]
    simp only
    rw [if_pos (hT.fine hK), ← hwd, hmk]
    simp only [if_true]
    rw [hid, hS2]
  have hmem2 : ∀ y, y ∈ τ'.x.l ↔ y = ⟨S.τ.ones.length, when, S.τ.x.seq + 1⟩ ∨ y ∈ S.τ.x.l := by
    intro y
    rw [hτ']
    show y ∈ (S.τ.x.arm (k : Int) when 0).1.l ↔ _
    rw [g2, ← hk]
    constructor
    · rintro (h9 | ⟨h9, _⟩)
      · exact .inl h9
      · exact .inr h9
    · rintro (h9 | h9)
      · exact .inl h9
      · refine .inr ⟨h9, ?_⟩
        obtain ⟨q, _, _, o, e1, _, _, _, _, _, e7, _⟩ := hT.item y h9
        have : q < S.τ.ones.length := (List.getElem?_eq_some_iff.1 e7).1
        rw [e1]; omega
  have hτl : τ'.x.l.length ≤ 1000000 := by
    have := g1.len
    have h8 : τ'.x = (S.τ.x.arm (k : Int) when 0).1 := by rw [hτ']
    rw [h8]; omega
  have hτo : ∀ (q : Nat) (o : On), τ'.ones[q]? = some o → (q < S.τ.ones.length ∧ S.τ.ones[q]? = some o) ∨ (q = k ∧ o = { w with gen := 1 }) := by
    intro q o ho
    rw [hτ'] at ho
    have ho' : (S.τ.ones ++ [{ w with gen := 1 }])[q]? = some o := ho
    by_cases hq : q < S.τ.ones.length
    · rw [List.getElem?_append_left hq] at ho'; exact .inl ⟨hq, ho'⟩
    · rw [List.getElem?_append_right (by omega)] at ho'
      have hz : q - S.τ.ones.length = 0 := by
        rcases Nat.eq_zero_or_pos (q - S.τ.ones.length) with h9 | h9
        · exact h9
        · rw [List.getElem?_eq_none (by simp; omega)] at ho'; cases ho'
      rw [hz] at ho'; simp at ho'
      exact .inr ⟨by omega, ho'.symm⟩
  have hτf : ∀ (q : Nat) (o : On), S.τ.ones[q]? = some o → τ'.ones[q]? = some o := by
    intro q o ho
    rw [hτ']
    show (S.τ.ones ++ [{ w with gen := 1 }])[q]? = _
    rw [List.getElem?_append_left (List.getElem?_eq_some_iff.1 ho).1]; exact ho
  have hτk : τ'.ones[k]? = some { w with gen := 1 } := by
    rw [hτ']
    show (S.τ.ones ++ [{ w with gen := 1 }])[k]? = _
    rw [hk, List.getElem?_append_right (Nat.le_refl _)]; simp
  have e2o : S2.σ.ones = S.σ.ones ++ [{ ({ One.zero with when := when, has := true, own := true, c := some a } : One) with node := S.σ.tree.length, timer := (k : Int) }] := by
    rw [hS2]
    show S1.σ.ones.set _ _ = _
    rw [e1o, List.set_append_right _ _ (Nat.le_refl _)]; simp
  have e2τ : S2.τ = τ' := by rw [hS2]
  have hnew : S2.σ.ones[S.σ.ones.length]? = some { ({ One.zero with when := when, has := true, own := true, c := some a } : One) with node := S.σ.tree.length, timer := (k : Int) } := by
    rw [e2o, List.getElem?_append_right (Nat.le_refl _)]; simp
  have hfwd : ∀ (j : Nat) (x : One), S.σ.ones[j]? = some x → S2.σ.ones[j]? = some x := fun j x hx => by
    rw [e2o, List.getElem?_append_left (List.getElem?_eq_some_iff.1 hx).1]; exact hx
  have hback : ∀ (j : Nat) (x : One), S2.σ.ones[j]? = some x → S.σ.ones[j]? = some x ∨ (j = S.σ.ones.length ∧ x = { ({ One.zero with when := when, has := true, own := true, c := some a } : One) with node := S.σ.tree.length, timer := (k : Int) }) := by
    intro j x hx
    rw [e2o] at hx
    by_cases hj : j < S.σ.ones.length
    · rw [List.getElem?_append_left hj] at hx; exact .inl hx
    · rw [List.getElem?_append_right (by omega)] at hx
      have hz : j - S.σ.ones.length = 0 := by
        rcases Nat.eq_zero_or_pos (j - S.σ.ones.length) with h9 | h9
        · exact h9
        · rw [List.getElem?_eq_none (by simp; omega)] at hx; cases hx
      rw [hz] at hx; simp at hx
      exact .inr ⟨by omega, hx.symm⟩
  refine ⟨S2, ?_, ?_, ?_, by rw [e2o, hk], by rw [hS2]; exact e1a, by rw [hS2]; show S1.σ.t = _; rw [e1t, hT.t], by rw [hS2]; exact e1χ, by rw [e2τ, hτ']; simp, by rw [hS2]; exact e1tr, by rw [e2τ]; exact hmem2⟩
  · unfold CX.deadlineP
    rw [if_neg (by simp [h.room hup hlen])]
    simp only [Int.toNat_natCast, hup, heldM_id h0 h1]
    rw [if_neg hh, if_pos h.okAdd, hS1', hb]
    simp only [List.length_nil, Nat.lt_irrefl, if_false]
    rw [if_neg (by omega), harm]
  · have hw1 : WF S1 := by
      exact hw.1
    have hid' : S1.σ.ones[S.σ.ones.length]? = some { ({ One.zero with when := when, has := true, own := true, c := some a } : One) with node := S.σ.tree.length, timer := -1 } := hid
    have := hw1.setT (k := (k : Int)) (τ' := τ') hid' hτl (fun q o ho => by
      rcases hτo q o ho with ⟨_, h9⟩ | ⟨_, h9⟩
      · exact (hT.ones q o h9).2.1
      · rw [h9, hwd])
    rw [hS2]; exact this
  · refine ⟨by rw [hS2]; show S1.σ.t = _; exact e1t, by rw [e2τ, hτ']; exact g1, by rw [e2τ, hτ']; exact hT.named, ?_, ?_, ?_, ?_, ?_, by rw [e2τ, hτ']; simp; omega⟩
    · intro y hy
      rw [e2τ] at hy ⊢
      rw [hτ']
      show (S.τ.x.arm (k : Int) when 0).1.pf y.id = some 0
      rcases (hmem2 y).1 hy with rfl | hy'
      · rw [← hk]; exact g3
      · rw [g4]; exact hT.pf y hy'
        obtain ⟨q, _, _, o, e1, _, _, _, _, _, e7, _⟩ := hT.item y hy'
        have : q < S.τ.ones.length := (List.getElem?_eq_some_iff.1 e7).1
        rw [e1]; omega
    · intro q o ho
      rw [e2τ] at ho
      rcases hτo q o ho with ⟨_, h9⟩ | ⟨rfl, h9⟩
      · obtain ⟨a1, a2, j, x, a3, a4, a5⟩ := hT.ones q o h9
        exact ⟨a1, a2, j, x, a3, hfwd j x a4, a5⟩
      · rw [h9, hwd]
        exact ⟨rfl, rfl, S.σ.ones.length, _, rfl, hnew, rfl, rfl⟩
    · intro y hy
      rw [e2τ] at hy
      rcases (hmem2 y).1 hy with rfl | hy'
      · exact ⟨k, S.σ.ones.length, _, _, by rw [hk], hnew, rfl, rfl, rfl, rfl, by rw [e2τ]; exact hτk, by rw [hwd]⟩
      · obtain ⟨q, j, x, o, e1, e2, e3, e4, e5, e6, e7, e8⟩ := hT.item y hy'
        exact ⟨q, j, x, o, e1, hfwd j x e2, e3, e4, e5, e6, by rw [e2τ]; exact hτf q o e7, e8⟩
    · intro j x hx h2 h3 _
      rw [e2τ]
      rcases hback j x hx with h4 | ⟨_, rfl⟩
      · obtain ⟨y, y1, y2, y3⟩ := hT.own j x h4 h2 h3 (fun h => h)
        exact ⟨y, (hmem2 y).2 (.inr y1), y2, y3⟩
      · exact ⟨_, (hmem2 _).2 (.inl rfl), by simp [hk], rfl⟩
    · intro j x hx
      rw [e2τ]
      rcases hback j x hx with h4 | ⟨h4, rfl⟩
      · obtain ⟨a1, a2⟩ := hT.tim j x h4
        refine ⟨a1, fun ho => ?_⟩
        obtain ⟨q, o, b1, b2, b3⟩ := a2 ho
        exact ⟨q, o, b1, hτf q o b2, b3⟩
      · exact ⟨fun h9 => (by cases h9), fun _ => ⟨k, _, rfl, hτk, by rw [hwd, h4]⟩⟩
end Go.AM


/- CtxTimers. -/
set_option linter.unusedVariables false
set_option linter.unusedSimpArgs false
namespace Go.AM
variable {N : Nat → Nat} {F : Nat → Option AFn}
/-- one of a slice of one's own is set -/
theorem OSl.set1 {K : Lg} {v x : AV} {cs : List AV} {n : Nat} (h : OSl K v cs n 1) {i : Nat} (hi : i < n) (hx : x.cellsOf = some [x]) : ∃ b, slB v = some b ∧ (∀ (X : Lg) (k : AV → Lg → Prop), wpOp F (.iad 1) [v, .i .i64 i] X k = k (.p (some (b, i))) X) ∧
    (∀ k : AV → Lg → Prop, k .bad (K.put b (.raw (.cells (cs.set i x)))) → stL 1 K k [.p (some (b, i)), x]) ∧ OSl (K.put b (.raw (.cells (cs.set i x)))) v (cs.set i x) n 1 ∧ (∃ cs, K b = some (.raw (.cells cs))) := by
  obtain ⟨b, h1, h2, h3, h4⟩ := h.iad (F := F) (x := (i : Int)) (by omega) (by omega)
  refine ⟨b, h1, fun X k => by simpa using h4 X k .i64, fun k hk => ?_, ?_, ⟨_, h2⟩⟩
  · rw [stL_cell h2 (by omega) hx]; exact hk
  · rcases h with ⟨e1, _, e3⟩ | ⟨b', ex, g1, g2, g3, g4, g5⟩
    · omega
    · rw [g2] at h1; simp [slB] at h1; subst h1
      exact .inr ⟨b', ex, g1, g2, g3, Lg.put_same _ _ _, by simpa using g5⟩
theorem keepPut {K : Lg} {b : Nat} (d : LC) : KeepE (some b) K (K.put b d) := fun r e hr hne => by
  rw [Lg.put_ne]; exact hr
  rintro rfl; exact hne rfl
theorem eqbb (F : Nat → Option AFn) (x : Bool) (L : Lg) (k : AV → Lg → Prop) : wpOp F (.eq true .bool) [.b x, .b x] L k = k (.b false) L := by simp
/-- contexts in a star, each with a deadline of its own; due: those that are not over -/
structure Star (S : CX) (due : List Int) : Prop where
  wf : WF S
  len : S.σ.ones.length = due.length + 1
  afts : S.σ.afts = []
  bg : ∃ x, S.σ.ones[0]? = some x ∧ x.node = 0 ∧ x.err = 0 ∧ x.has = false ∧ x.own = false
  each : ∀ (j : Nat) (x : One), S.σ.ones[j + 1]? = some x → x.node = (j : Int) + 1 ∧ x.free = false ∧ ∃ d, due[j]? = some d ∧ (x.err = 0 ↔ 0 < d) ∧ (0 < d → x.when = d)
  par : ∀ (j : Nat) (q : Nd), S.σ.tree[j + 1]? = some q → q.parent = 0
  le : ∀ d ∈ due, d ≤ 100
theorem Star.pre {S : CX} {due : List Int} (h : Star S due) (j : Nat) : pre S.σ.tree 200 (j + 1) = [j + 1] := by
  have : kidsOf S.σ.tree ((j + 1 : Nat) : Int) = [] := by
    rw [List.eq_nil_iff_forall_not_mem]
    intro i hi
    obtain ⟨q, h1, h2, h3⟩ := kidsOf_mem.1 hi
    cases i with
    | zero =>
      have := h.wf.tr.par 0 q h1 h2
      omega
    | succ i =>
      have := h.par i q h1
      omega
  show (j + 1) :: (kidsOf S.σ.tree ((j + 1 : Nat) : Int)).flatMap (Go.AM.pre S.σ.tree 199) = _
  rw [this]; rfl
theorem Star.cancel {S : CX} {due : List Int} (h : Star S due) {s : Nat} {K : Int} {ex : Nat → Prop} (hT : TW S s K ex) {j : Nat} {d : Int} (hj : due[j]? = some d) (hd : 0 < d) (hex : ∀ i, ex i → i = j + 1) {err cause z : Int} (herr : err ≠ 0) (hz : z ≤ 0) :
    ∃ r : CRes, S.cancelP 200 ((j + 1 : Nat) : Int) err cause = some r ∧ Star r.1 (due.set j z) ∧ TW r.1 s K (fun _ => False) ∧ r.1.τ.ones = S.τ.ones ∧ r.1.σ.t = S.σ.t ∧ ∃ lp, r.2.1 = [lp] ∧ lp.err = err := by
  have hjl : j < due.length := (List.getElem?_eq_some_iff.1 hj).1
  have hx : S.σ.ones[j + 1]? = some (S.σ.ones[j + 1]'(by rw [h.len]; omega)) := List.getElem?_eq_getElem _
  generalize (S.σ.ones[j + 1]'(by rw [h.len]; omega)) = x at hx
  obtain ⟨xn, xf, d', e1, e2, e3⟩ := h.each j x hx
  rw [hj] at e1; cases e1
  have hxe := e2.2 hd
  have hxn : x.node = ((j + 1 : Nat) : Int) := by omega
  have hc := h.wf.cancelP hx hxn xf hxe err cause
  rw [h.pre j] at hc
  refine ⟨_, hc, ?_⟩
  obtain ⟨w1, w2, w3, w4, w5, w6, w7⟩ := h.wf.walk hx hxn xf hxe herr (r := walked S.σ.tree err cause (fun _ => false) [j + 1] (S, [], [])) (by rw [h.pre j])
  obtain ⟨t1, t2, _⟩ := hT.walk h.wf hx hxn xf hxe herr (r := walked S.σ.tree err cause (fun _ => false) [j + 1] (S, [], [])) (by rw [h.pre j]) hex
  rw [h.pre j] at w5 w6 w7
  have hlap : (walked S.σ.tree err cause (fun _ => false) [j + 1] (S, [], [])).2.1 = (lapOf S err cause (j + 1)).toList := by
    have := (hitL_res err cause (S, [], []) (j + 1)).1
    show (hitL err cause (S, [], []) (j + 1)).2.1 = _
    rw [this]; rfl
  generalize walked S.σ.tree err cause (fun _ => false) [j + 1] (S, [], []) = r at *
  have hin : ∀ y : One, inL [j + 1] y.node = decide (y.node = ((j + 1 : Nat) : Int)) := fun y => by simp [inL]
  have hafts : r.1.σ.afts = [] := by
    cases e : r.1.σ.afts with
    | nil => rfl
    | cons a t => have := w7 0; rw [e, h.afts] at this; simp at this
  have hlen : r.1.σ.ones.length = S.σ.ones.length := by
    have a1 := w1.len
    rw [w5, killT_length, h.wf.len, h.afts, hafts] at a1
    simp at a1; omega
  refine ⟨⟨w1, by rw [hlen, h.len]; simp, hafts, ?_, ?_, ?_, ?_⟩, t1, t2, w3, ?_⟩
  · obtain ⟨y, y1, y2, y3⟩ := h.bg
    refine ⟨y, ?_, y2, y3⟩
    rw [w6, y1, Option.map_some, hin]
    have : ¬ y.node = ((j + 1 : Nat) : Int) := by omega
    rw [decide_eq_false this]; rfl
  · intro i y hy
    rw [w6] at hy
    cases e : S.σ.ones[i + 1]? with
    | none => rw [e] at hy; cases hy
    | some q =>
      rw [e] at hy; simp only [Option.map_some] at hy
      obtain ⟨qn, qf, dq, q1, q2, q3⟩ := h.each i q e
      rw [hin] at hy
      by_cases hij : i = j
      · subst hij
        have hqn : q.node = ((i + 1 : Nat) : Int) := by omega
        simp only [hqn, decide_true, if_true, Option.some.injEq] at hy
        subst hy
        refine ⟨by simp only; omega, qf, z, by rw [List.getElem?_set_self hjl], ?_, fun h9 => by omega⟩
        simp [herr]; omega
      · have hqn : ¬ q.node = ((j + 1 : Nat) : Int) := by omega
        simp only [hqn, decide_false, Option.some.injEq] at hy
        simp at hy; subst hy
        exact ⟨qn, qf, dq, by rw [List.getElem?_set_ne (Ne.symm hij)]; exact q1, q2, q3⟩
  · intro i q hq
    rw [w5, killT_get] at hq
    cases e : S.σ.tree[i + 1]? with
    | none => rw [e] at hq; cases hq
    | some q' => rw [e] at hq; simp at hq; subst hq; exact h.par i q' e
  · intro e he
    rcases List.mem_or_eq_of_mem_set he with h1 | rfl
    · exact h.le e h1
    · omega
  · obtain ⟨k', q1, _, q2⟩ := h.wf.who1 (j + 1) x hx
    have : k' = j + 1 := by omega
    subst this
    have hl : lapOf S err cause (j + 1) = some ⟨((j + 1 : Nat) : Int), err, cause, chW S x.c⟩ := by
      unfold lapOf
      have hnn : ¬ (((j + 1 : Nat) : Int) < 0) := by omega
      simp only [q2, Option.getD_some, hnn, if_false, Int.toNat_natCast, hx, Option.map_some]
    rw [hlap, hl]
    exact ⟨_, rfl, rfl⟩
/-- whoever is over is not cancelled -/
theorem Star.dead {S : CX} {due : List Int} (h : Star S due) {j : Nat} {d : Int} (hj : due[j]? = some d) (hd : ¬ 0 < d) (err cause : Int) : S.cancelP 200 ((j + 1 : Nat) : Int) err cause = some (S, [], []) := by
  have hjl : j < due.length := (List.getElem?_eq_some_iff.1 hj).1
  have hx : S.σ.ones[j + 1]? = some (S.σ.ones[j + 1]'(by rw [h.len]; omega)) := List.getElem?_eq_getElem _
  obtain ⟨xn, xf, d', e1, e2, e3⟩ := h.each j _ hx
  rw [hj] at e1; cases e1
  exact CX.cancelP_dead (n := 199) hx (.inr fun h9 => hd (e2.1 h9)) err cause
theorem Star.set {S : CX} {due : List Int} (h : Star S due) {j : Nat} {d z : Int} (hj : due[j]? = some d) (hd : ¬ 0 < d) (hz : z ≤ 0) : Star S (due.set j z) := by
  have hjl : j < due.length := (List.getElem?_eq_some_iff.1 hj).1
  refine ⟨h.wf, by simp [h.len], h.afts, h.bg, ?_, h.par, ?_⟩
  · intro i x hx
    obtain ⟨xn, xf, d', e1, e2, e3⟩ := h.each i x hx
    by_cases hij : i = j
    · subst hij
      rw [hj] at e1; cases e1
      exact ⟨xn, xf, z, by rw [List.getElem?_set_self hjl], by rw [e2]; omega, fun h9 => by omega⟩
    · exact ⟨xn, xf, d', by rw [List.getElem?_set_ne (Ne.symm hij)]; exact e1, e2, e3⟩
  · intro e he
    rcases List.mem_or_eq_of_mem_set he with h1 | rfl
    · exact h.le e h1
    · omega
def posN (due : List Int) : Nat := due.countP fun d => decide (0 < d)
theorem posN_set {due : List Int} {j : Nat} {d z : Int} (hj : due[j]? = some d) (hd : 0 < d) (hz : z ≤ 0) : posN (due.set j z) + 1 = posN due := by
  induction due generalizing j with
  | nil => simp at hj
  | cons a r ih =>
    cases j with
    | zero =>
      simp at hj; subst hj
      have : ¬ 0 < z := by omega
      simp [posN, List.countP_cons, hd, this]
    | succ j =>
      simp at hj
      have := ih hj
      simp only [posN, List.set_cons_succ, List.countP_cons] at this ⊢
      omega
/-- who is due is set, and whoever is set is due -/
theorem Star.items {S : CX} {due : List Int} (h : Star S due) {s : Nat} {K : Int} (hT : TW S s K (fun _ => False)) (ho : ∀ (j : Nat) (x : One), S.σ.ones[j + 1]? = some x → x.own = true) :
    (∀ y ∈ S.τ.x.l, ∃ (j : Nat) (d : Int), due[j]? = some d ∧ 0 < d ∧ d = y.w) ∧ (∀ (j : Nat) (d : Int), due[j]? = some d → 0 < d → ∃ y ∈ S.τ.x.l, y.w = d) := by
  refine ⟨fun y hy => ?_, fun j d hj hd => ?_⟩
  · obtain ⟨k, j, x, o, e1, e2, e3, e4, e5, e6, _⟩ := hT.item y hy
    cases j with
    | zero =>
      obtain ⟨z, z1, _, _, _, z5⟩ := h.bg
      rw [e2] at z1; cases z1
      rw [e4] at z5; cases z5
    | succ j =>
      obtain ⟨_, _, d, d1, d2, d3⟩ := h.each j x e2
      have := d2.1 e5
      exact ⟨j, d, d1, this, by rw [← d3 this, e6]⟩
  · have hjl : j < due.length := (List.getElem?_eq_some_iff.1 hj).1
    have hx : S.σ.ones[j + 1]? = some (S.σ.ones[j + 1]'(by rw [h.len]; omega)) := List.getElem?_eq_getElem _
    obtain ⟨_, _, d', e1, e2, e3⟩ := h.each j _ hx
    rw [hj] at e1; cases e1
    obtain ⟨y, y1, y2, y3⟩ := hT.own (j + 1) _ hx (ho j _ hx) (e2.2 hd) (fun h => h)
    exact ⟨y, y1, by rw [y3, e3 hd]⟩
theorem posN_zero {due : List Int} : posN due = 0 ↔ ∀ (j : Nat) (d : Int), due[j]? = some d → ¬ 0 < d := by
  unfold posN
  rw [List.countP_eq_zero]
  constructor
  · intro h j d hj
    simpa using h d (List.mem_of_getElem? hj)
  · intro h d hd
    obtain ⟨j, hj⟩ := List.mem_iff_getElem?.1 hd
    simpa using h j d hj
/-- one more in the star -/
theorem Star.more {S S2 : CX} {due : List Int} (h : Star S due) {up o : One} (hup : S.σ.ones[0]? = some up) (hw : WF S2) (he : S2.σ.ones = S.σ.ones ++ [o]) (ha : S2.σ.afts = S.σ.afts) (hadd : Added S.σ.tree up.node true S2.σ.tree)
    (hn : o.node = (S.σ.tree.length : Int)) (hf : o.free = false) (hoe : o.err = 0) (hd : 0 < o.when) (hd2 : o.when ≤ 100) : Star S2 (due ++ [o.when]) := by
  have hl : S.σ.tree.length = due.length + 1 := by rw [h.wf.len, h.len, h.afts]; simp
  obtain ⟨bg, b1, b2, b3⟩ := h.bg
  rw [hup] at b1; cases b1
  refine ⟨hw, by rw [he]; simp [h.len], by rw [ha]; exact h.afts, ⟨up, by rw [he, List.getElem?_append_left (by rw [h.len]; omega)]; exact hup, b2, b3⟩, ?_, ?_, ?_⟩
  · intro j x hx
    rw [he] at hx
    by_cases hj : j < due.length
    · rw [List.getElem?_append_left (by rw [h.len]; omega)] at hx
      obtain ⟨xn, xf, d, e1, e2⟩ := h.each j x hx
      exact ⟨xn, xf, d, by rw [List.getElem?_append_left hj]; exact e1, e2⟩
    · rw [List.getElem?_append_right (by rw [h.len]; omega), h.len] at hx
      have hz : j + 1 - (due.length + 1) = 0 := by
        rcases Nat.eq_zero_or_pos (j + 1 - (due.length + 1)) with h9 | h9
        · exact h9
        · rw [List.getElem?_eq_none (by simp; omega)] at hx; cases hx
      rw [hz] at hx; simp at hx; subst hx
      have hjd : j = due.length := by omega
      subst hjd
      refine ⟨by rw [hn, hl]; omega, hf, o.when, by rw [List.getElem?_append_right (Nat.le_refl _)]; simp, ?_, fun _ => rfl⟩
      simp [hoe, hd]
  · intro j q hq
    rcases hadd.back hq with ⟨_, q', a1, a2, _⟩ | ⟨a1, a2, _⟩
    · rw [a2]; exact h.par j q' a1
    · rw [a2]; exact b2
  · intro d hd3
    rcases List.mem_append.1 hd3 with h1 | h1
    · exact h.le d h1
    · simp at h1; subst h1; exact hd2
theorem star_new (s : Nat) (χ : Nat → Ch) : Star ⟨Cs.new (some s), ⟨[], ⟨[], 0, fun _ => none⟩, 0⟩, χ⟩ [] ∧ TW ⟨Cs.new (some s), ⟨[], ⟨[], 0, fun _ => none⟩, 0⟩, χ⟩ s 0 (fun _ => False) := by
  have e : treeAdd [] (-1) false = ([⟨-1, false, []⟩], 0, 0) := by simp [treeAdd]
  have eo : (Cs.new (some s)).ones = [{ One.zero with free := true, timer := -1 }] := by simp [Cs.new, Cs.add, One.zero, e]
  have et : (Cs.new (some s)).tree = [⟨-1, false, []⟩] := by simp [Cs.new, Cs.add, One.zero, e]
  refine ⟨⟨wf_new _ _ _ (by simp), by simp [eo], rfl, ⟨_, by rw [eo]; rfl, rfl, rfl, rfl, rfl⟩, ?_, ?_, by simp⟩, ⟨rfl, ⟨by simp, by simp, by simp, by simp, by simp, by simp, by simp, by simp⟩, by simp, by simp, fun k o h => by simp at h, fun y h => by simp at h, ?_, ?_, by simp⟩⟩
  · intro j x hx; simp only [eo] at hx; simp at hx
  · intro j q hq; simp only [et] at hq; simp at hq
  · intro j x hx ho
    simp only [eo] at hx
    cases j with
    | zero => simp at hx; subst hx; cases ho
    | succ j => simp at hx
  · intro j x hx
    simp only [eo] at hx
    cases j with
    | zero => simp at hx; subst hx; exact ⟨fun _ => rfl, fun h => by cases h⟩
    | succ j => simp at hx
structure TiI (c s : Nat) (S : CX) (due : List Int) (v7 : AV) (K : Lg) (KT : Int) : Prop where
  st : Star S due
  tw : TW S s KT (fun _ => False)
  ow : ∀ (j : Nat) (x : One), S.σ.ones[j + 1]? = some x → x.own = true
  own : K c = some (.abs (CtxP c S.σ))
  out : OutC c S K
  s7 : OSl K v7 (icl due) due.length 1
theorem icl_set (l : List Int) (i : Nat) (x : Int) : (icl l).set i (.i .i64 x) = icl (l.set i x) := by simp [icl, List.map_set]
theorem cancel_own {S : CX} {due : List Int} (h : Star S due) {j : Nat} {d : Int} (hj : due[j]? = some d) (hd : 0 < d) {err cause : Int} (herr : err ≠ 0) {r : CRes} (hr : S.cancelP 200 ((j + 1 : Nat) : Int) err cause = some r) (ho : ∀ (i : Nat) (x : One), S.σ.ones[i + 1]? = some x → x.own = true) : ∀ (i : Nat) (x : One), r.1.σ.ones[i + 1]? = some x → x.own = true := by
  have hjl : j < due.length := (List.getElem?_eq_some_iff.1 hj).1
  have hx : S.σ.ones[j + 1]? = some (S.σ.ones[j + 1]'(by rw [h.len]; omega)) := List.getElem?_eq_getElem _
  generalize (S.σ.ones[j + 1]'(by rw [h.len]; omega)) = x at hx
  obtain ⟨xn, xf, d', e1, e2, e3⟩ := h.each j x hx
  rw [hj] at e1; cases e1
  have hxe := e2.2 hd
  have hxn : x.node = ((j + 1 : Nat) : Int) := by omega
  have hc := h.wf.cancelP hx hxn xf hxe err cause
  rw [hc] at hr
  cases hr
  obtain ⟨_, _, _, _, _, w6, _⟩ := h.wf.walk hx hxn xf hxe herr (r := walked S.σ.tree err cause (fun _ => false) (pre S.σ.tree 200 (j + 1)) (S, [], [])) rfl
  intro i y hy
  rw [w6] at hy
  cases e : S.σ.ones[i + 1]? with
  | none => rw [e] at hy; cases hy
  | some q =>
    rw [e] at hy; simp only [Option.map_some, Option.some.injEq] at hy
    have := ho i q e
    rw [← hy]; split <;> exact this
theorem ctxTimers_law {L0 : Lg} (code : F (N k_tarpaulinlaw15_CtxTimers) = some (c_tarpaulinlaw15_CtxTimers N)) (aw : F (N k_tarpaulinlaw15_awake) = some kTrue) (h0 : H_timer_New N F) (h1 : H_ctx_New N F) (h2 : H_tarpaulinalike_Round N F) (h3 : H_ctx_Set_Deadline N F) (h4 : H_ctx_Set_Cancel N F) (h5 : H_timer_Set_Next N F) (h6 : H_timer_Set_Fire N F) (h7 : H_ctx_Set_Lapse N F)
    (ls : List Int) (x0 : AV) (s0 : ArgSl L0 x0 (icl ls) ls.length 1) (os : List Int) (x1 : AV) (s1 : ArgSl L0 x1 (icl os) os.length 1) : CallL F (N k_tarpaulinlaw15_CtxTimers) [x0, x1] L0 fun v _ => v = .b true := by
  refine CallL.opq ?_
  intro Q hQ
  have fin : ∀ L, fin1 (some (.b true)) Q L := fun L => ⟨L, Sees.refl _, hQ _ _ rfl⟩
  have awk : ∀ L, CallL F (N k_tarpaulinlaw15_awake) [] L fun v17 L17 => fin1 (some v17) Q L17 := by
    intro L
    refine (known2_spec aw _).mono ?_
    rintro _ _ ⟨rfl, rfl⟩
    exact fin _
  apply r_tarpaulinlaw15_CtxTimers code
  unfold D_tarpaulinlaw15_CtxTimers_1 D_tarpaulinlaw15_CtxTimers_2
  by_cases g1 : 30 < ls.length
  · have : (30 : Int) < (ls.length : Int) := by omega
    simpa [initE, s0.len, s1.len, this] using awk _
  have g1' : ¬ (30 : Int) < (ls.length : Int) := by omega
  by_cases g2 : 30 < os.length
  · have : (30 : Int) < (os.length : Int) := by omega
    simpa [initE, s0.len, s1.len, g1', this] using awk _
  have g2' : ¬ (30 : Int) < (os.length : Int) := by omega
  simp [initE, s0.len, s1.len, g1', g2']
  first | refine ⟨fun h9 => absurd h9 (by omega), fun _ => ?_⟩ | skip
  unfold D_tarpaulinlaw15_CtxTimers_3
  refine (tnew_spec h0).mono ?_
  rintro _ _ ⟨s, hs, rfl, rfl⟩
  unfold D_tarpaulinlaw15_CtxTimers_4
  simp only [Env.put_apply]
  simp
  have hpt : AV.p (some (s, 0)) = ptr (some s) := rfl
  rw [hpt]
  refine (ctxNew_spec h1 _ (some s)).mono ?_
  rintro _ L1 ⟨c, hc, rfl, hL1⟩
  have hsc : s ≠ c := by rintro rfl; rw [Lg.put_same] at hc; cases hc
  have keep0 : RawK L0 L1 := by
    rw [hL1]; exact (RawK.put L0 hs _).trans (RawK.put _ hc _)
  have hown1 : L1 c = some (.abs (CtxP c (Cs.new (some s)))) := by rw [hL1, Lg.put_same]
  have hout1 : OutC c ⟨Cs.new (some s), ⟨[], ⟨[], 0, fun _ => none⟩, 0⟩, fun _ => Ch.sg⟩ L1 := by
    refine ⟨fun s' hs' => ?_, ?_⟩
    · have : (some s : Option Nat) = some s' := hs'
      cases this
      exact ⟨hsc, by rw [hL1, Lg.put_ne _ _ _ hsc, Lg.put_same]⟩
    · intro o ho a ha
      have : o ∈ ([{ One.zero with free := true, timer := -1 }] : List One) := ho
      simp at this; subst this; cases ha
  have a0 := keep0.argSl s0
  have a1 := keep0.argSl s1
  clear hL1 keep0 hc hs
  unfold D_tarpaulinlaw15_CtxTimers_5
  simp [ptr]
  unfold D_tarpaulinlaw15_CtxTimers_6 D_tarpaulinlaw15_CtxTimers_34 D_tarpaulinlaw15_CtxTimers_36
  obtain ⟨I, hI⟩ : ∃ I : Nat → Env → Lg → Prop, I = fun m E K => ∃ (i : Nat) (S : CX) (due : List Int), m + i = ls.length ∧ due.length = i ∧ TiI c s S due (E 7) K i ∧ S.τ.ones.length ≤ i ∧ ArgSl K x0 (icl ls) ls.length 1 ∧ ArgSl K x1 (icl os) os.length 1 ∧ E 0 = x0 ∧ E 1 = x1 ∧ E 5 = .p (some (s, 0)) ∧ E 6 = .p (some (c, 0)) ∧ E 8 = .i .i64 i := ⟨_, rfl⟩
  refine loopW_intro I ls.length ?_ ?_
  · rw [hI]
    refine ⟨0, _, [], by omega, rfl, ⟨(star_new s (fun _ => Ch.sg)).1, (star_new s (fun _ => Ch.sg)).2, ?_, hown1, hout1, by simpa [icl] using OSl.nil _ 1⟩, by simp, a0, a1, by simp, by simp, by simp, by simp, by simp⟩
    intro j x hx
    have hx' : ([{ One.zero with free := true, timer := -1 }] : List One)[j + 1]? = some x := hx
    simp at hx'
  intro m E t K hi
  rw [hI] at hi
  obtain ⟨i, S, due, hm, hdl, w, htl, b0, b1, e0, e1, e5, e6, e8⟩ := hi
  have hSl : S.σ.ones.length = i + 1 := by rw [w.st.len, hdl]
  unfold D_tarpaulinlaw15_CtxTimers_37
  rw [e0, e8]
  simp only [mark_eq, b0.len, wp_lss, condW_d]
  refine ⟨fun hlt => ?_, fun hnl => ?_⟩
  · have hil : i < ls.length := by omega
    unfold D_tarpaulinlaw15_CtxTimers_38
    rw [e0, e8, e6]
    obtain ⟨q0, f0, f1⟩ := b0.at1 (F := F) hil
    have hg : (icl ls)[i]? = some (.i .i64 ls[i]) := by simp [icl, hil]
    rw [hg] at f1
    simp only [mark_eq, f0, wp_ld, f1, retL_some]
    refine (round_spec h2 _ 100 (by omega) (by omega) _).mono ?_
    rintro _ K' ⟨rfl, rfl⟩
    have hk0 := Int.emod_nonneg ls[i] (by omega : (100 : Int) ≠ 0)
    have hk1 := Int.emod_lt_of_pos ls[i] (by omega : (0 : Int) < 100)
    generalize ls[i] % 100 = k0 at hk0 hk1
    have wk : wr .i64 (1 + k0) = 1 + k0 := wr_id (by omega) (by omega)
    have w1 : wr .i64 ((i : Int) + 1) = (i : Int) + 1 := wr_id (by omega) (by omega)
    simp only [mark_eq, wp_add, wk]
    obtain ⟨k, hk⟩ : ∃ k, k = 1 + k0 := ⟨_, rfl⟩
    rw [← hk]
    obtain ⟨bg, hbg, hbn, hbe, hbh, hbo⟩ := w.st.bg
    have hlen64 : S.σ.ones.length < 64 := by omega
    have hdlp := fun a => w.st.wf.deadlineT w.tw (by omega) (by omega) hbg hlen64 hbe (when := k) (by omega) (by omega) (now := 0) (by omega) (by simp [hbh]) a
    refine (deadline_spec h3 (S := S) (parent := 0) (fun a _ => by obtain ⟨S2, h, _⟩ := hdlp a; exact ⟨_, h⟩) w.own w.out).mono ?_
    rintro _ L2 ⟨a, r, v1, v2, sts, haK, hr, rfl, hd, hres⟩
    obtain ⟨S2, z1, z2, z3, z4, z5, z6, z7, z8, z9, z10⟩ := hdlp a
    simp only [Int.natCast_zero] at z1
    rw [z1] at hr
    cases hr
    have hd : CDone c S S2 K' L2 := hd
    have hraw := hd.rawK w.own w.out
    have u7 := hraw.osl w.s7
    have c0 := hraw.argSl b0
    have c1 := hraw.argSl b1
    have hSi : (S.σ.ones.length : Int) = (i : Int) + 1 := by omega
    simp only [mark_eq, wp_ext, List.getElem?_cons_zero, List.getElem?_cons_succ, retL_some, wp_neq, ne_eq, not_true_eq_false, decide_false, gdOp_same, wp_mv, wp_add, w1, hSi, wp_pick_f, hres.len1, List.length_nil, Int.natCast_zero, condW_f]
    refine push1 u7 rfl (by omega) (by omega) ?_
    intro v22 K3 o3 kp3 fr3
    have x1' := kp3.outC u7.rawB hd.own hd.out
    simp only [mark_eq, wp_add, w1]
    rw [hI]
    have hst := w.st.more (o := { ({ One.zero with when := k, has := true, own := true, c := some a } : One) with node := S.σ.tree.length, timer := S.τ.ones.length }) hbg z2 z4 z5 z9 rfl rfl rfl (by show 0 < k; omega) (by show k ≤ 100; omega)
    refine ⟨m - 1, by omega, i + 1, S2, due ++ [k], by omega, by simp [hdl], ⟨hst, ⟨z3.t, z3.xg.mono (by omega), z3.named, z3.pf, z3.ones, z3.item, z3.own, z3.tim, z3.cnt⟩, ?_, x1'.1, x1'.2, ?_⟩, by omega, kp3.argSl c0 u7.cellsB, kp3.argSl c1 u7.cellsB, by simp [e0], by simp [e1], by simp [e5], by simp [e6], by simp⟩
    · intro j x hx
      rw [z4] at hx
      by_cases hj : j + 1 < S.σ.ones.length
      · rw [List.getElem?_append_left hj] at hx; exact w.ow j x hx
      · rw [List.getElem?_append_right (by omega)] at hx
        have hz : j + 1 - S.σ.ones.length = 0 := by
          rcases Nat.eq_zero_or_pos (j + 1 - S.σ.ones.length) with h9 | h9
          · exact h9
          · rw [List.getElem?_eq_none (by simp; omega)] at hx; cases hx
        rw [hz] at hx; simp at hx; subst hx; rfl
    · have wk2 : wr .i64 k = k := by rw [hk]; exact wk
      simpa [icl_snoc, wk2] using o3
  · have hid : i = ls.length := by omega
    clear hI hnl hm I e8 b0 e0
    have htw : TW S s 30 (fun _ => False) := ⟨w.tw.t, w.tw.xg.mono (by omega), w.tw.named, w.tw.pf, w.tw.ones, w.tw.item, w.tw.own, w.tw.tim, w.tw.cnt⟩
    have hdl30 : due.length ≤ 30 := by omega
    replace w : TiI c s S due (E 7) K 30 := ⟨w.st, htw, w.ow, w.own, w.out, w.s7⟩
    clear hid hSl htl htw hdl
    unfold D_tarpaulinlaw15_CtxTimers_29 D_tarpaulinlaw15_CtxTimers_31
    generalize hE0 : Env.put E 13 (.i .i64 0) = E0
    have d1 : E0 1 = x1 := by rw [← hE0]; simpa using e1
    have d5 : E0 5 = .p (some (s, 0)) := by rw [← hE0]; simpa using e5
    have d6 : E0 6 = .p (some (c, 0)) := by rw [← hE0]; simpa using e6
    have d7 : E0 7 = E 7 := by rw [← hE0]; simp
    have d13 : E0 13 = .i .i64 (0 : Nat) := by rw [← hE0]; simp
    clear hE0 e1 e5 e6
    obtain ⟨I, hI⟩ : ∃ I : Nat → Env → Lg → Prop, I = fun m E K => ∃ (q : Nat) (S : CX) (due : List Int), m + q = os.length ∧ due.length ≤ 30 ∧ TiI c s S due (E 7) K 30 ∧ ArgSl K x1 (icl os) os.length 1 ∧ E 1 = x1 ∧ E 5 = .p (some (s, 0)) ∧ E 6 = .p (some (c, 0)) ∧ E 13 = .i .i64 q := ⟨_, rfl⟩
    refine loopW_intro I os.length ?_ ?_
    · rw [hI]; exact ⟨0, S, due, by omega, hdl30, by rw [d7]; exact w, b1, d1, d5, d6, d13⟩
    clear d1 d5 d6 d7 d13 E0 b1 w hdl30
    clear S due K E
    intro m E t' K hi
    rw [hI] at hi
    obtain ⟨q, S, due, hm, hdl, w, b1, e1, e5, e6, e13⟩ := hi
    -- the rest, from whatever state
    have rest : ∀ (E' : Env), E' 5 = .p (some (s, 0)) → E' 6 = .p (some (c, 0)) → E' 7 = E 7 → D_tarpaulinlaw15_CtxTimers_9 F N Q E' K := by
      intro E' y5 y6 y7
      clear hI hm I b1 e1 e5 e6 e13
      unfold D_tarpaulinlaw15_CtxTimers_9 D_tarpaulinlaw15_CtxTimers_25 D_tarpaulinlaw15_CtxTimers_27
      generalize hE0 : Env.put (Env.put (Env.put E' 18 (.i .i64 0)) 19 (.i .i64 0)) 20 (.i .i64 0) = E0
      have d5 : E0 5 = .p (some (s, 0)) := by rw [← hE0]; simpa using y5
      have d6 : E0 6 = .p (some (c, 0)) := by rw [← hE0]; simpa using y6
      have d7 : E0 7 = E 7 := by rw [← hE0]; simpa using y7
      have d18 : E0 18 = .i .i64 0 := by rw [← hE0]; simp
      have d19 : E0 19 = .i .i64 (0 : Nat) := by rw [← hE0]; simp
      have d20 : E0 20 = .i .i64 (0 : Nat) := by rw [← hE0]; simp
      clear hE0 y5 y6 y7
      generalize E 7 = v7 at w d7
      obtain ⟨I, hI⟩ : ∃ I : Nat → Env → Lg → Prop, I = fun m E K' => ∃ (i : Nat) (least : Int), m + i = due.length ∧ K' = K ∧ ((posN (due.take i) = 0 ∧ least = 0) ∨ (0 < posN (due.take i) ∧ (∃ j, j < i ∧ due[j]? = some least) ∧ 0 < least ∧ ∀ (j : Nat) (d : Int), j < i → due[j]? = some d → 0 < d → least ≤ d)) ∧ E 5 = .p (some (s, 0)) ∧ E 6 = .p (some (c, 0)) ∧ E 7 = v7 ∧ E 18 = .i .i64 least ∧ E 19 = .i .i64 (posN (due.take i)) ∧ E 20 = .i .i64 i := ⟨_, rfl⟩
      refine loopW_intro I due.length ?_ ?_
      · rw [hI]; exact ⟨0, 0, by omega, rfl, .inl ⟨rfl, rfl⟩, d5, d6, d7, d18, by simpa [posN] using d19, d20⟩
      clear d5 d6 d7 d18 d19 d20 E0 E'
      intro m E t2 K' hi
      rw [hI] at hi
      obtain ⟨i, least, hm, rfl, hl, e5, e6, e7, e18, e19, e20⟩ := hi
      have hcnt : posN (due.take i) ≤ due.length := by
        have h1 := List.countP_le_length (p := fun d : Int => decide (0 < d)) (l := due.take i)
        have h2 : (due.take i).length ≤ due.length := by simp; omega
        exact Nat.le_trans h1 h2
      unfold D_tarpaulinlaw15_CtxTimers_28
      rw [e7, e20]
      simp only [mark_eq, w.s7.len, wp_lss, condW_d]
      refine ⟨fun hlt => ?_, fun hnl => ?_⟩
      · have hi : i < due.length := by omega
        have w20 : wr .i64 ((i : Int) + 1) = ((i + 1 : Nat) : Int) := by rw [wr_id (by omega) (by omega)]; omega
        obtain ⟨qb, f0, f1⟩ := w.s7.at1 (F := F) hi
        have hdi : due[i]? = some due[i] := List.getElem?_eq_getElem hi
        generalize due[i] = d at hdi
        have hg : (icl due)[i]? = some (.i .i64 d) := by simp [icl, hdi]
        rw [hg] at f1
        have htk : due.take (i + 1) = due.take i ++ [d] := by rw [List.take_add_one, hdi]; rfl
        have hpn : posN (due.take (i + 1)) = posN (due.take i) + if 0 < d then 1 else 0 := by
          rw [htk]; unfold posN; rw [List.countP_append]
          by_cases h9 : 0 < d <;> simp [h9]
        simp only [mark_eq, f0, wp_ld, f1, retL_some, wp_gtr, condW_d]
        refine ⟨fun hp => ?_, fun hp => ?_⟩
        · have w19 : wr .i64 ((posN (due.take i) : Int) + 1) = (posN (due.take (i + 1)) : Int) := by rw [wr_id (by omega) (by omega), hpn, if_pos hp]; omega
          rw [e18, e19]
          simp only [mark_eq, wp_add, w19, wp_eql]
          rcases hl with ⟨l1, rfl⟩ | ⟨l1, ⟨j, j1, j2⟩, l3, l4⟩
          · simp [f0, f1, w20]
            rw [hI]
            refine ⟨m - 1, by omega, i + 1, d, by omega, rfl, .inr ⟨by rw [hpn, if_pos hp]; omega, ⟨i, by omega, hdi⟩, hp, ?_⟩, by simp [e5], by simp [e6], by simp [e7], by simp, by simp [w19], by simp⟩
            intro j e hj he hep
            by_cases hji : j = i
            · subst hji; rw [hdi] at he; cases he; exact Int.le_refl _
            · exfalso
              refine posN_zero.1 l1 j e ?_ hep
              rw [List.getElem?_take, if_pos (by omega)]; exact he
          · have hn0 : ¬ least = 0 := by omega
            by_cases hdl2 : d < least
            · simp [hn0, hdl2, f0, f1, w20]
              rw [hI]
              refine ⟨m - 1, by omega, i + 1, d, by omega, rfl, .inr ⟨by rw [hpn, if_pos hp]; omega, ⟨i, by omega, hdi⟩, hp, ?_⟩, by simp [e5], by simp [e6], by simp [e7], by simp, by simp [w19], by simp⟩
              intro j e hj he hep
              by_cases hji : j = i
              · subst hji; rw [hdi] at he; cases he; exact Int.le_refl _
              · have := l4 j e (by omega) he hep
                omega
            · simp [hn0, hdl2, f0, f1, w20]
              rw [hI]
              refine ⟨m - 1, by omega, i + 1, least, by omega, rfl, .inr ⟨by rw [hpn, if_pos hp]; omega, ⟨j, by omega, j2⟩, l3, ?_⟩, by simp [e5], by simp [e6], by simp [e7], by simp [e18], by simp [w19], by simp⟩
              intro j e hj he hep
              by_cases hji : j = i
              · subst hji; rw [hdi] at he; cases he; omega
              · exact l4 j e (by omega) he hep
        · simp only [mark_eq, wp_add, w20]
          rw [hI]
          have hpn' : posN (due.take (i + 1)) = posN (due.take i) := by rw [hpn, if_neg (by omega)]; rfl
          refine ⟨m - 1, by omega, i + 1, least, by omega, rfl, ?_, by simp [e5], by simp [e6], by simp [e7], by simp [e18], by simp [e19, hpn'], by simp⟩
          rw [hpn']
          rcases hl with ⟨l1, rfl⟩ | ⟨l1, ⟨j, j1, j2⟩, l3, l4⟩
          · exact .inl ⟨l1, rfl⟩
          · refine .inr ⟨l1, ⟨j, by omega, j2⟩, l3, ?_⟩
            intro j e hj he hep
            by_cases hji : j = i
            · subst hji; rw [hdi] at he; cases he; omega
            · exact l4 j e (by omega) he hep
      · have hi : i = due.length := by omega
        subst hi
        rw [List.take_length] at hl e19 hcnt
        clear hI hm hnl I
        have hts := w.out.tms s w.tw.t
        obtain ⟨it1, it2⟩ := w.st.items w.tw w.ow
        unfold D_tarpaulinlaw15_CtxTimers_11
        rw [e5]
        refine (tnext_spec h5 hts.2 w.tw.xg.sorted).mono ?_
        rintro _ K2 ⟨rfl, rfl⟩
        simp only [mark_eq, wp_ext, List.getElem?_cons_zero, List.getElem?_cons_succ, retL_some]
        -- the least is what is due next
        have hnext : (posN due = 0 ∧ S.τ.x.next = (0, false)) ∨ (0 < posN due ∧ S.τ.x.next = (least, true)) := by
          rcases hl with ⟨l1, rfl⟩ | ⟨l1, ⟨j, j1, j2⟩, l3, l4⟩
          · left
            refine ⟨l1, ?_⟩
            cases hxl : S.τ.x.l with
            | nil => simp [Xs.next, hxl]
            | cons y r =>
              obtain ⟨j, d, d1, d2, _⟩ := it1 y (by rw [hxl]; simp)
              exact absurd d2 (posN_zero.1 l1 j d d1)
          · right
            refine ⟨l1, ?_⟩
            obtain ⟨y2, y3, y4⟩ := it2 j least j2 l3
            cases hxl : S.τ.x.l with
            | nil => rw [hxl] at y3; simp at y3
            | cons y r =>
              obtain ⟨j', d, d1, d2, d3⟩ := it1 y (by rw [hxl]; simp)
              have hle := l4 j' d (List.getElem?_eq_some_iff.1 d1).1 d1 d2
              have hso := w.tw.xg.sorted
              rw [hxl, List.pairwise_cons] at hso
              rw [hxl] at y3
              have hyw : y.w = least := by
                rcases List.mem_cons.1 y3 with rfl | y3
                · exact y4
                · have := hso.1 y2 y3
                  unfold It.lt at this
                  omega
              simp [Xs.next, hxl, hyw]
        unfold D_tarpaulinlaw15_CtxTimers_12
        simp only [Env.put_apply]
        have fire : ∀ E2 : Env, E2 5 = .p (some (s, 0)) → E2 6 = .p (some (c, 0)) → E2 7 = v7 → E2 19 = .i .i64 (posN due) → D_tarpaulinlaw15_CtxTimers_15 F N Q E2 K2 := by
          intro E2 y5 y6 y7 y19
          unfold D_tarpaulinlaw15_CtxTimers_15 D_tarpaulinlaw15_CtxTimers_17
          obtain ⟨nn, hnn⟩ : ∃ nn, nn = posN due := ⟨_, rfl⟩
          rw [← hnn] at y19
          obtain ⟨I, hI⟩ : ∃ I : Nat → Env → Lg → Prop, I = fun m E K => ∃ (i : Nat) (S : CX) (due : List Int), m + i = nn ∧ posN due = m ∧ due.length ≤ 30 ∧ TiI c s S due v7 K (30 + i : Nat) ∧ E 5 = .p (some (s, 0)) ∧ E 6 = .p (some (c, 0)) ∧ E 7 = v7 ∧ E 19 = .i .i64 nn ∧ E 23 = .i .i64 i := ⟨_, rfl⟩
          refine loopW_intro I nn ?_ ?_
          · rw [hI]; exact ⟨0, S, due, by omega, by omega, hdl, w, by simp [y5], by simp [y6], by simp [y7], by simp [y19], by simp⟩
          clear y5 y6 y7 y19 hnext it1 it2 hts hl e5 e6 e7 e18 e19 e20 w
          have hnn30 : nn ≤ 30 := by omega
          clear hcnt hnn hdl least
          clear S due E K2
          intro m E t2 K hi
          rw [hI] at hi
          obtain ⟨i, S, due, hm, hpm, hdl, w, e5, e6, e7, e19, e23⟩ := hi
          have hts := w.out.tms s w.tw.t
          obtain ⟨it1, it2⟩ := w.st.items w.tw w.ow
          have hxl : (S.τ.x.l.length : Int) ≤ ((30 + i : Nat) : Int) := w.tw.xg.len
          have hxs : S.τ.x.seq ≤ ((30 + i : Nat) : Int) := w.tw.xg.seq
          have hxp := w.tw.xg.pos
          unfold D_tarpaulinlaw15_CtxTimers_18
          rw [e19, e23]
          simp only [mark_eq, wp_lss, condW_d]
          have hf := w.tw.fire (now := 200) (by omega) (by omega)
          refine ⟨fun hlt => ?_, fun hnl => ?_⟩
          · have hmp : 0 < m := by omega
            rcases hf with ⟨hnone, _⟩ | ⟨x', y, k, j0, x, o, hy, hw, hmin, htk, hyk, hx, hxo, hxe, hxw, hxt, ho, hok, hoc, hod, htw, hmem⟩
            · exfalso
              have hz : posN due = 0 := posN_zero.2 fun j d hj hd => by
                obtain ⟨y, y1, y2⟩ := it2 j d hj hd
                have := hnone y y1
                have := w.st.le d (List.mem_of_getElem? hj)
                omega
              omega
            cases j0 with
            | zero =>
              exfalso
              obtain ⟨z, z1, _, _, _, z5⟩ := w.st.bg
              rw [hx] at z1; cases z1
              rw [hxo] at z5; cases z5
            | succ j =>
            obtain ⟨_, _, d, dj, d2, d3⟩ := w.st.each j x hx
            have hd : 0 < d := d2.1 hxe
            have hdw : d = y.w := by rw [← d3 hd, hxw]
            have hjl : j < due.length := (List.getElem?_eq_some_iff.1 dj).1
            obtain ⟨S1, hS1⟩ : ∃ S1 : CX, S1 = { S with τ := { S.τ with x := x' } } := ⟨_, rfl⟩
            have hst1 : Star S1 due := by
              rw [hS1]
              refine ⟨⟨w.st.wf.tr, w.st.wf.sz, w.st.wf.len, w.st.wf.who1, w.st.wf.who2, w.st.wf.cover, w.st.wf.live, w.st.wf.chs, w.st.wf.tms, ?_⟩, w.st.len, w.st.afts, w.st.bg, w.st.each, w.st.par, w.st.le⟩
              have : (x'.l.length : Int) ≤ ((30 + i : Nat) : Int) + 1 := htw.xg.len
              show x'.l.length ≤ 1000000
              omega
            have htw1 : TW S1 s (((30 + i : Nat) : Int) + 1) (fun i => i = j + 1) := by rw [hS1]; exact htw
            obtain ⟨r, r1, r2, r3, r4, r5, lp, r6, r7⟩ := hst1.cancel htw1 dj hd (fun i hi => hi) (err := 2) (cause := 2) (z := -1) (by omega) (by omega)
            have hlx : S1.lapseX ((j + 1 : Nat) : Int) = some (r.1, r.2.1, r.2.2, 0) := by
              have hh : S1.σ.has ((j + 1 : Nat) : Int) = true := by unfold Cs.has; rw [hst1.len]; simp; omega
              have hx1 : S1.σ.ones[j + 1]? = some x := by rw [hS1]; exact hx
              unfold CX.lapseX
              rw [if_neg (by rw [hh]; simp)]
              simp only [Int.toNat_natCast, hx1, hxo, r1]
              rfl
            unfold D_tarpaulinlaw15_CtxTimers_22
            rw [e5]
            refine (fire_spec h6 hts.2 w.tw.xg.sorted (by omega) ⟨hxp, by omega⟩ 200 htk ho (x := Ch.sg) (fun a h => by rw [hoc] at h; cases h)).mono ?_
            rintro v K1 ⟨sl, rfl, hfs⟩
            have hpc : (putsC o.c Ch.sg 200).2.2 = false := by rw [hoc]; rfl
            rw [hpc]
            rw [hoc] at hfs
            simp only [putsC, Lg.putC, wkcells, List.length_nil] at hfs
            rcases hfs with ⟨_, _, rfl, rfl⟩ | ⟨_, _, _, h8, _⟩
            case inr => omega
            have hraw1 : RawK K (K.put s (.abs (SetP s { S.τ with x := x' }))) := fun r x hr => by
              rw [Lg.put_ne]; exact hr
              rintro rfl; rw [hts.2] at hr; cases hr
            have hown1 : (K.put s (.abs (SetP s { S.τ with x := x' }))) c = some (.abs (CtxP c S1.σ)) := by rw [Lg.put_ne _ _ _ (Ne.symm hts.1), hS1]; exact w.own
            have hout1 : OutC c S1 (K.put s (.abs (SetP s { S.τ with x := x' }))) := by
              rw [hS1]
              refine ⟨fun s' hs' => ?_, fun o1 ho1 a ha => ?_⟩
              · have : s' = s := by have h8 : S.σ.t = some s' := hs'; rw [w.tw.t] at h8; cases h8; rfl
                subst this
                exact ⟨hts.1, Lg.put_same _ _ _⟩
              · have := w.out.chs o1 ho1 a ha
                refine ⟨this.1, this.2.1, ?_⟩
                rw [Lg.put_ne]; exact this.2.2
                rintro rfl; exact this.2.1 w.tw.t
            have t7' := hraw1.osl w.s7
            generalize K.put s (.abs (SetP s { S.τ with x := x' })) = K2 at hown1 hout1 t7'
            simp [firedAV]
            intro b hb
            rw [stL_cells (n := 7) (Lg.put_same _ _ _) (by simp) rfl (by simp), Lg.put_put, splice_7]
            have kp : KeepE none K2 (K2.put b (.raw (.cells [.i .i64 k, .i .i64 o.kind, .i .i64 y.w, .i .i64 200, .i .i64 o.data, .sl none 0 0 0, .b false]))) := fun r d hr _ => by
              rw [Lg.put_ne]; exact hr
              rintro rfl; rw [hb] at hr; cases hr
            have hx1 := kp.outC (fun b h => by cases h) hown1 hout1
            have t7'' := kp.osl t7' (fun b _ h => by cases h)
            have hb7 : slB v7 ≠ some b := fun h9 => by have := t7'.block h9; rw [hb] at this; cases this
            have hbb : (K2.put b (.raw (.cells [.i .i64 k, .i .i64 o.kind, .i .i64 y.w, .i .i64 200, .i .i64 o.data, .sl none 0 0 0, .b false]))) b = some (.raw (.cells [.i .i64 k, .i .i64 o.kind, .i .i64 y.w, .i .i64 200, .i .i64 o.data, .sl none 0 0 0, .b false])) := Lg.put_same _ _ _
            generalize K2.put b (.raw (.cells [.i .i64 k, .i .i64 o.kind, .i .i64 y.w, .i .i64 200, .i .i64 o.data, .sl none 0 0 0, .b false])) = K3 at hx1 t7'' hbb
            have q4 : rdL K3 (b, 4) none = some (.i .i64 ((j + 1 : Nat) : Int)) := by rw [rdL_cell hbb, hod]; rfl
            have q2 : rdL K3 (b, 2) none = some (.i .i64 y.w) := by rw [rdL_cell hbb]; rfl
            obtain ⟨qb, f0, f1⟩ := t7''.at1 (F := F) hjl
            have hg : (icl due)[j]? = some (.i .i64 d) := by simp [icl, dj]
            rw [hg] at f1
            have wj : wr .i64 (((j + 1 : Nat) : Int) - 1) = (j : Int) := by rw [wr_id (by omega) (by omega)]; omega
            unfold D_tarpaulinlaw15_CtxTimers_23
            simp only [Env.put_apply]
            have cj1 : ¬ (((j + 1 : Nat) : Int) < 1) := by omega
            have cj2 : ¬ ((due.length : Int) < ((j + 1 : Nat) : Int)) := by omega
            simp only [if_true, if_false, reduceIte, Nat.reduceEqDiff, mark_eq, wp_not, Bool.not_true, gdOp_same, wp_fad, Nat.zero_add, wp_ld, q4, retL_some, wp_lss, cj1, decide_false, wp_pick_f, e7, wp_mv, t7''.len, wp_gtr, cj2, wp_sub, wj, f0, f1, q2, wp_neq, hdw, ne_eq, not_true_eq_false, condW_f]
            unfold D_tarpaulinlaw15_CtxTimers_24
            simp only [Env.put_apply]
            simp only [if_true, if_false, reduceIte, Nat.reduceEqDiff, mark_eq, wp_fad, Nat.zero_add, wp_ld, q4, retL_some, e6]
            refine (lapseX_spec h7 hlx hx1.1 hx1.2).mono ?_
            rintro _ K4 ⟨v1, v2, rfl, hd4, hres⟩
            have hd4 : CDone c S1 r.1 K3 K4 := hd4
            have hraw4 := hd4.rawK hx1.1 hx1.2
            have hb4 := hraw4 b _ hbb
            have t74 := hraw4.osl t7''
            have q44 : rdL K4 (b, 4) none = some (.i .i64 ((j + 1 : Nat) : Int)) := by rw [rdL_cell hb4, hod]; rfl
            obtain ⟨ps, hps, hresP⟩ := hres
            simp only at hps hresP
            rw [r6] at hps
            have hpl : ps.length = 1 := by have := congrArg List.length hps; simpa using this
            obtain ⟨p0, rfl⟩ := List.length_eq_one_iff.1 hpl
            simp at hps
            obtain ⟨bb, g1b, g2b, g3b⟩ := hresP.get (F := F) (i := 0) (p := p0) rfl
            have c1 := g3b K4 rfl 1 (by omega)
            simp only [lapc, List.getElem?_cons_zero, List.getElem?_cons_succ, Nat.zero_mul, Nat.zero_add, hps, r7] at c1
            have g2b' : ∀ (X : Lg) (kk : AV → Lg → Prop), wpOp F (.iad 4) [v1, .i .i64 0] X kk = kk (.p (some (bb, 0))) X := fun X kk => by simpa using g2b X kk
            obtain ⟨b7, s1b, s2b, s3b, s4b, s5b⟩ := t74.set1 (F := F) (x := .i .i64 (-1)) hjl rfl
            simp only [if_true, if_false, reduceIte, Nat.reduceEqDiff, mark_eq, wp_ext, List.getElem?_cons_zero, List.getElem?_cons_succ, retL_some, wp_neq, ne_eq, not_true_eq_false, decide_false, gdOp_same, wp_mv, hresP.o1.len, List.length_singleton, Int.natCast_one, wp_pick_f, g2b', wp_fad, Nat.zero_add, wp_ld, c1, condW_f, q44, wp_sub, wj, e7, s2b, wp_st]
            refine s3b _ ?_
            unfold D_tarpaulinlaw15_CtxTimers_20
            simp only [Env.put_apply]
            have w23 : wr .i64 ((i : Int) + 1) = ((i + 1 : Nat) : Int) := by rw [wr_id (by omega) (by omega)]; omega
            simp only [if_true, if_false, reduceIte, Nat.reduceEqDiff, mark_eq, e23, wp_add, w23]
            rw [hI]
            have kp5 := keepPut (K := K4) (b := b7) (.raw (.cells ((icl due).set j (.i .i64 (-1)))))
            have x5 := kp5.outC (fun q hq => by cases hq; obtain ⟨cs, h8⟩ := s5b; exact ⟨_, h8⟩) hd4.own hd4.out
            have hps1 := posN_set dj hd (z := -1) (by omega)
            have how := cancel_own hst1 dj hd (by omega) r1 (by rw [hS1]; exact w.ow)
            refine ⟨m - 1, by omega, i + 1, r.1, due.set j (-1), by omega, by omega, by simpa using hdl, ⟨r2, ⟨r3.t, r3.xg.mono (by omega), r3.named, r3.pf, r3.ones, r3.item, r3.own, r3.tim, r3.cnt⟩, how, x5.1, x5.2, ?_⟩, by simp [e5], by simp [e6], by simp [e7], by simp [e19], by simp⟩
            rw [icl_set] at s4b ⊢
            simpa using s4b
          · have hz : posN due = 0 := by omega
            have hempty : S.τ.x.l = [] := by
              cases hl : S.τ.x.l with
              | nil => rfl
              | cons y r =>
                obtain ⟨j, d, d1, d2, _⟩ := it1 y (by rw [hl]; simp)
                exact absurd d2 (posN_zero.1 hz j d d1)
            unfold D_tarpaulinlaw15_CtxTimers_14
            rw [e5]
            refine (fire_none h6 hts.2 w.tw.xg.sorted (by omega) ⟨hxp, by omega⟩ 200 (by simp [Xs.take, hempty])).mono ?_
            rintro _ K1 ⟨rfl, rfl⟩
            simp [firedAV]
            intro b hb
            rw [stL_cells (n := 7) (Lg.put_same _ _ _) (by simp) rfl (by simp)]
            simp
            refine (known2_spec aw _).mono ?_
            rintro _ _ ⟨rfl, rfl⟩
            simpa using fin _
        rcases hnext with ⟨n1, n2⟩ | ⟨n1, n2⟩
        · have n3 : ¬ ((posN due : Int) > 0) := by omega
          simp [n2, e19, n1]
          exact fire _ (by simp [e5]) (by simp [e6]) (by simp [e7]) (by simp [e19, n1])
        · have n3 : (0 : Int) < (posN due : Int) := by omega
          have n4 : ¬ posN due = 0 := by omega
          simp [n2, e19, n1, n4, e18]
          exact fire _ (by simp [e5]) (by simp [e6]) (by simp [e7]) (by simp [e19])
    unfold D_tarpaulinlaw15_CtxTimers_32
    rw [e1, e13]
    simp only [mark_eq, b1.len, wp_lss]
    by_cases hq : q < os.length
    case neg =>
      have : ¬ ((q : Int) < (os.length : Int)) := by omega
      simp [this, w.s7.len]
      exact rest _ e5 e6 rfl
    have hq' : ((q : Int) < (os.length : Int)) := by omega
    by_cases hd0 : due.length = 0
    · have : ¬ ((0 : Int) < (due.length : Int)) := by omega
      simp [hq', this, w.s7.len]
      first | exact rest _ e5 e6 rfl | (refine ⟨fun h => absurd h (by omega), fun _ => rest _ e5 e6 rfl⟩) | (refine ⟨fun h => absurd (List.length_eq_zero_iff.1 hd0) h, fun _ => rest _ e5 e6 rfl⟩)
    have hdp : ((0 : Int) < (due.length : Int)) := by omega
    have hdn : due ≠ [] := by rintro rfl; simp at hd0
    simp [hq', hdp, w.s7.len, hdn]
    first | (refine ⟨fun _ => ?_, fun h => absurd h (by omega)⟩) | intro _ | skip
    unfold D_tarpaulinlaw15_CtxTimers_33
    rw [e1, e13]
    obtain ⟨q0, f0, f1⟩ := b1.at1 (F := F) hq
    have hg : (icl os)[q]? = some (.i .i64 os[q]) := by simp [icl, hq]
    rw [hg] at f1
    simp only [mark_eq, f0, wp_ld, f1, retL_some, w.s7.len]
    refine (round_spec h2 _ (due.length : Int) hdp (by omega) _).mono ?_
    rintro _ K' ⟨rfl, rfl⟩
    have hk0 := Int.emod_nonneg os[q] (by omega : (due.length : Int) ≠ 0)
    have hk1 := Int.emod_lt_of_pos os[q] hdp
    obtain ⟨j, hj⟩ := Int.eq_ofNat_of_zero_le hk0
    rw [hj] at hk1 ⊢
    have hjl : j < due.length := by omega
    have wj : wr .i64 ((j : Int) + 1) = ((j + 1 : Nat) : Int) := by rw [wr_id (by omega) (by omega)]; omega
    have w13 : wr .i64 ((q : Int) + 1) = ((q + 1 : Nat) : Int) := by rw [wr_id (by omega) (by omega)]; omega
    simp only [mark_eq, wp_add, wj, e6]
    have dj : due[j]? = some due[j] := List.getElem?_eq_getElem hjl
    generalize due[j] = d at dj
    have hx : S.σ.ones[j + 1]? = some (S.σ.ones[j + 1]'(by rw [w.st.len]; omega)) := List.getElem?_eq_getElem _
    generalize (S.σ.ones[j + 1]'(by rw [w.st.len]; omega)) = x at hx
    obtain ⟨_, hxf, _⟩ := w.st.each j x hx
    have hh : S.σ.has ((j + 1 : Nat) : Int) = true := by unfold Cs.has; rw [w.st.len]; simp; omega
    -- what comes of the cancelling
    have hcan : ∃ (r : CRes), S.cancelX ((j + 1 : Nat) : Int) 0 = some (r.1, r.2.1, r.2.2, 0) ∧ Star r.1 (due.set j 0) ∧ TW r.1 s 30 (fun _ => False) ∧ (∀ (i : Nat) (x : One), r.1.σ.ones[i + 1]? = some x → x.own = true) ∧ (decide ((r.2.1.length : Int) = 1) = decide (0 < d)) := by
      have hX : ∀ r, S.cancelP 200 ((j + 1 : Nat) : Int) 1 1 = some r → S.cancelX ((j + 1 : Nat) : Int) 0 = some (r.1, r.2.1, r.2.2, 0) := by
        intro r hr
        unfold CX.cancelX
        rw [if_neg (by rw [hh]; simp)]
        simp only [Int.toNat_natCast, hx, hxf]
        have : (if (0 : Int) < 1 then (1 : Int) else 0) = 1 := rfl
        rw [this, hr]; rfl
      by_cases hd : 0 < d
      · obtain ⟨r, r1, r2, r3, r4, r5, lp, r6, r7⟩ := w.st.cancel w.tw dj hd (fun i hi => hi.elim) (err := 1) (cause := 1) (z := 0) (by omega) (by omega)
        exact ⟨r, hX r r1, r2, r3, cancel_own w.st dj hd (by omega) r1 w.ow, by rw [r6]; simp [hd]⟩
      · have r1 := w.st.dead dj hd 1 1
        exact ⟨_, hX _ r1, w.st.set dj hd (by omega), w.tw, w.ow, by simp [hd]⟩
    obtain ⟨r, r1, r2, r3, r4, r5⟩ := hcan
    refine (cancelX_spec h4 r1 w.own w.out).mono ?_
    rintro _ K4 ⟨v1, v2, rfl, hd4, hres⟩
    have hd4 : CDone c S r.1 K' K4 := hd4
    have hraw4 := hd4.rawK w.own w.out
    have t74 := hraw4.osl w.s7
    obtain ⟨qb, f2, f3⟩ := t74.at1 (F := F) hjl
    have hg2 : (icl due)[j]? = some (.i .i64 d) := by simp [icl, dj]
    rw [hg2] at f3
    obtain ⟨b7, s1b, s2b, s3b, s4b, s5b⟩ := t74.set1 (F := F) (x := .i .i64 0) hjl rfl
    have hqb : b7 = qb := by
      have z1 := f2 K4 (fun v _ => v = .p (some (qb, j)))
      have z2 := s2b K4 (fun v _ => v = .p (some (qb, j)))
      rw [z1] at z2
      simp at z2
      exact z2
    subst b7
    have hlen1 := fun X k => hres.len1 (F := F) X k
    simp only at hlen1
    simp only [mark_eq, wp_ext, List.getElem?_cons_zero, List.getElem?_cons_succ, retL_some, wp_neq, ne_eq, not_true_eq_false, decide_false, gdOp_same, wp_mv, hlen1, wp_eql, f2, wp_ld, f3, wp_gtr, r5, eqbb, wp_pick_f, condW_f, s2b, wp_st]
    refine s3b _ ?_
    simp only [mark_eq, wp_add, w13]
    rw [hI]
    have kp5 := keepPut (K := K4) (b := qb) (.raw (.cells ((icl due).set j (.i .i64 0))))
    have x5 := kp5.outC (fun q hq => by cases hq; obtain ⟨cs, h8⟩ := s5b; exact ⟨_, h8⟩) hd4.own hd4.out
    refine ⟨m - 1, by omega, q + 1, r.1, due.set j 0, by omega, by simpa using hdl, ⟨r2, r3, r4, x5.1, x5.2, ?_⟩, kp5.argSl (hraw4.argSl b1) (fun q hq => by cases hq; exact s5b), by simp [e1], by simp [e5], by simp [e6], by simp⟩
    rw [icl_set] at s4b ⊢
    simpa using s4b
end Go.AM

