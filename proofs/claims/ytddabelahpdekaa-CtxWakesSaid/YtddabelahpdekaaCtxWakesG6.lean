/- The texts LibCtxN, LibCtxO, LibCtxP, LawCtxRow, LawCtxWakes of a proof of CtxWakes, merged. -/
import Derived.Test.YtddabelahpdekaaCtxWakesG5
/- ctx: what is so of contexts; what is made, and who is cancelled; in plain Lean. -/
set_option linter.unusedVariables false
set_option linter.unusedSimpArgs false
namespace Go.AM
structure WF (S : CX) : Prop where
  tr : TreeOk S.σ.tree
  sz : S.σ.ones.length ≤ 64 ∧ S.σ.afts.length ≤ 64
  len : S.σ.tree.length = S.σ.ones.length + S.σ.afts.length
  who1 : ∀ (i : Nat) (x : One), S.σ.ones[i]? = some x → ∃ k : Nat, x.node = (k : Int) ∧ k < S.σ.tree.length ∧ S.σ.who k = some (i : Int)
  who2 : ∀ (j : Nat) (x : Aft), S.σ.afts[j]? = some x → ∃ k : Nat, x.node = (k : Int) ∧ k < S.σ.tree.length ∧ S.σ.who k = some (-(j : Int) - 1) ∧ kidsOf S.σ.tree (k : Int) = []
  cover : ∀ k : Nat, k < S.σ.tree.length → (∃ (i : Nat) (x : One), S.σ.who k = some (i : Int) ∧ S.σ.ones[i]? = some x ∧ x.node = (k : Int)) ∨ (∃ (j : Nat) (x : Aft), S.σ.who k = some (-(j : Int) - 1) ∧ S.σ.afts[j]? = some x ∧ x.node = (k : Int))
  live : ∀ (i k : Nat) (x : One) (n : Nd), S.σ.ones[i]? = some x → x.node = (k : Int) → S.σ.tree[k]? = some n → (n.linked = true ↔ x.free = false ∧ x.err = 0)
  chs : ∀ x ∈ S.σ.ones, ∀ a, x.c = some a → (S.χ a).recvs.length + (S.χ a).sends.length ≤ 1000000
  tms : ∀ x ∈ S.σ.ones, ∀ s o, S.σ.t = some s → S.τ.one x.timer = some o → o.c = none
  tlen : S.τ.x.l.length ≤ 1000000
/-- a context that is not over -/
theorem WF.liveAt {S : CX} (h : WF S) {i k : Nat} {x : One} (hx : S.σ.ones[i]? = some x) (hk : x.node = (k : Int)) (hf : x.free = false) (he : x.err = 0) (n : Nat) : ∀ j ∈ pre S.σ.tree n k, LiveAt S.σ.tree S j := by
  intro j hj
  have hk2 := h.who1 i x hx
  obtain ⟨k', e1, e2, e3⟩ := hk2
  have : k' = k := by omega
  subst this
  have hjl := (pre_ge h.tr _ _ _ hj).2 e2
  have hlk : j = k' ∨ ∃ m, S.σ.tree[j]? = some m ∧ m.linked = true := by
    by_cases e : j = k'
    · exact .inl e
    · obtain ⟨m, hm⟩ := pre_up n k' j hj e
      rcases hm with ⟨h1, h2, _⟩ | hm
      · exact .inr ⟨m, h1, h2⟩
      · exact hm.elim
  rcases h.cover j hjl with ⟨i2, x2, c1, c2, c3⟩ | ⟨j2, x2, c1, c2, c3⟩
  · have hfe : x2.free = false ∧ x2.err = 0 := by
      rcases hlk with rfl | ⟨m, m1, m2⟩
      · rw [e3] at c1
        have : i = i2 := by simp at c1; omega
        subst this
        rw [hx] at c2; cases c2
        exact ⟨hf, he⟩
      · exact (h.live i2 j x2 m c2 c3 m1).1 m2
    have hmem := List.mem_of_getElem? c2
    exact .inl ⟨i2, x2, c1, c2, c3, hfe.1, hfe.2, h.chs x2 hmem, h.tms x2 hmem⟩
  · have hj2 : j2 < S.σ.afts.length := (List.getElem?_eq_some_iff.1 c2).1
    obtain ⟨k3, d1, d2, d3, d4⟩ := h.who2 j2 x2 c2
    have : k3 = j := by omega
    subst this
    exact .inr ⟨j2, x2, c1, by have := h.sz.2; omega, c2, c3, d4⟩
theorem WF.cancelP {S : CX} (h : WF S) {i k : Nat} {x : One} (hx : S.σ.ones[i]? = some x) (hk : x.node = (k : Int)) (hf : x.free = false) (he : x.err = 0) (err cause : Int) :
    S.cancelP 200 i err cause = some (walked S.σ.tree err cause (fun _ => false) (pre S.σ.tree 200 k) (S, [], [])) := by
  obtain ⟨k', e1, e2, e3⟩ := h.who1 i x hx
  have : k' = k := by omega
  subst this
  have := h.len
  have := h.sz
  exact cancel_walk h.tr 200 k' _ S i err cause (by omega) e2 (killT_none _ (fun _ => rfl)).symm (fun _ _ => rfl) (h.liveAt hx hk hf he 200) e3 h.tlen
/-! ### what hits make of each -/
structure Whos (S : CX) : Prop where
  w1 : ∀ (i : Nat) (x : One), S.σ.ones[i]? = some x → ∃ k : Nat, x.node = (k : Int) ∧ S.σ.who k = some (i : Int)
  w2 : ∀ (j : Nat) (x : Aft), S.σ.afts[j]? = some x → ∃ k : Nat, x.node = (k : Int) ∧ S.σ.who k = some (-(j : Int) - 1)
theorem WF.whos {S : CX} (h : WF S) : Whos S := ⟨fun i x hx => by obtain ⟨k, h1, _, h3⟩ := h.who1 i x hx; exact ⟨k, h1, h3⟩, fun i x hx => by obtain ⟨k, h1, _, h3, _⟩ := h.who2 i x hx; exact ⟨k, h1, h3⟩⟩
def inL (l : List Nat) (n : Int) : Bool := l.any fun i => decide (n = (i : Int))
theorem hitL_ones (err cause : Int) {acc : CRes} {j : Nat} {T : List Nd} (hw : Whos acc.1) (hj : LiveAt T acc.1 j) :
    (∀ w : Nat, (hitL err cause acc j).1.σ.ones[w]? = (acc.1.σ.ones[w]?).map fun (x : One) => if x.node = (j : Int) then { x with err := err, cause := cause } else x) ∧
    (∀ w : Nat, (hitL err cause acc j).1.σ.afts[w]? = (acc.1.σ.afts[w]?).map fun (x : Aft) => if x.node = (j : Int) then { x with over := true } else x) := by
  rcases hj with ⟨w0, x0, q1, q2, q3, _⟩ | ⟨k0, x0, q1, q5, q2, q3, _⟩
  · have hnn : ¬ ((w0 : Int) < 0) := by omega
    have e : hitL err cause acc j = ((((acc.1.setOne w0 { x0 with err := err, cause := cause }).endT x0.c).1.stopT x0.timer), acc.2.1 ++ [⟨w0, err, cause, ((acc.1.setOne w0 { x0 with err := err, cause := cause }).endT x0.c).2⟩], acc.2.2) := by
      unfold hitL
      simp only [q1, Option.getD_some, hnn, if_false, Int.toNat_natCast, q2]
    rw [e]
    simp only
    rw [(stopT_facts _ _).1, (endT_facts _ _).1]
    refine ⟨fun w => ?_, fun w => ?_⟩
    · show (acc.1.σ.ones.set w0 _)[w]? = _
      by_cases hww : w0 = w
      · subst hww
        have hl : w0 < acc.1.σ.ones.length := (List.getElem?_eq_some_iff.1 q2).1
        rw [List.getElem?_set_self hl, q2]; simp [q3]
      · rw [List.getElem?_set_ne hww]
        cases hx : acc.1.σ.ones[w]? with
        | none => rfl
        | some y =>
          have : y.node ≠ (j : Int) := by
            intro h9
            obtain ⟨k, h1, h2⟩ := hw.w1 w y hx
            have : k = j := by omega
            subst this
            rw [q1] at h2; simp at h2; omega
          simp [this]
    · show acc.1.σ.afts[w]? = _
      cases hx : acc.1.σ.afts[w]? with
      | none => rfl
      | some y =>
        have : y.node ≠ (j : Int) := by
          intro h9
          obtain ⟨k, h1, h2⟩ := hw.w2 w y hx
          have : k = j := by omega
          subst this
          rw [q1] at h2; simp at h2; omega
        simp [this]
  · have hneg : (-(k0 : Int) - 1) < 0 := by omega
    have hk : (-(-(k0 : Int) - 1) - 1) = (k0 : Int) := by omega
    have e : hitL err cause acc j = ({ acc.1 with σ := { acc.1.σ with afts := acc.1.σ.afts.set k0 { x0 with over := true } } }, acc.2.1, acc.2.2 ++ [((k0 : Int), x0.prog)]) := by
      unfold hitL
      simp only [q1, Option.getD_some, hneg, if_true, hk, Int.toNat_natCast, q2]
    rw [e]
    refine ⟨fun w => ?_, fun w => ?_⟩
    · show acc.1.σ.ones[w]? = _
      cases hx : acc.1.σ.ones[w]? with
      | none => rfl
      | some y =>
        have : y.node ≠ (j : Int) := by
          intro h9
          obtain ⟨k, h1, h2⟩ := hw.w1 w y hx
          have : k = j := by omega
          subst this
          rw [q1] at h2; simp at h2; omega
        simp [this]
    · show (acc.1.σ.afts.set k0 _)[w]? = _
      by_cases hww : k0 = w
      · subst hww
        have hl : k0 < acc.1.σ.afts.length := (List.getElem?_eq_some_iff.1 q2).1
        rw [List.getElem?_set_self hl, q2]; simp [q3]
      · rw [List.getElem?_set_ne hww]
        cases hx : acc.1.σ.afts[w]? with
        | none => rfl
        | some y =>
          have : y.node ≠ (j : Int) := by
            intro h9
            obtain ⟨k, h1, h2⟩ := hw.w2 w y hx
            have : k = j := by omega
            subst this
            rw [q1] at h2; simp at h2; omega
          simp [this]
theorem Whos.hit {T : List Nd} (err cause : Int) {acc : CRes} {j : Nat} (hw : Whos acc.1) (hj : LiveAt T acc.1 j) : Whos (hitL err cause acc j).1 := by
  have hk := hitL_keeps err cause acc j
  obtain ⟨h1, h2⟩ := hitL_ones err cause hw hj
  refine ⟨fun i x hx => ?_, fun i x hx => ?_⟩
  · rw [h1] at hx
    cases e : acc.1.σ.ones[i]? with
    | none => rw [e] at hx; cases hx
    | some y =>
      rw [e] at hx
      obtain ⟨k, k1, k2⟩ := hw.w1 i y e
      simp at hx; subst hx
      exact ⟨k, by split <;> exact k1, by rw [hk.1]; exact k2⟩
  · rw [h2] at hx
    cases e : acc.1.σ.afts[i]? with
    | none => rw [e] at hx; cases hx
    | some y =>
      rw [e] at hx
      obtain ⟨k, k1, k2⟩ := hw.w2 i y e
      simp at hx; subst hx
      exact ⟨k, by split <;> exact k1, by rw [hk.1]; exact k2⟩
theorem hits_ones {T : List Nd} (err cause : Int) : ∀ (l : List Nat) (acc : CRes), Whos acc.1 → (∀ i ∈ l, LiveAt T acc.1 i) → l.Nodup →
    (∀ w : Nat, (l.foldl (hitL err cause) acc).1.σ.ones[w]? = (acc.1.σ.ones[w]?).map fun (x : One) => if inL l x.node = true then { x with err := err, cause := cause } else x) ∧
    (∀ w : Nat, (l.foldl (hitL err cause) acc).1.σ.afts[w]? = (acc.1.σ.afts[w]?).map fun (x : Aft) => if inL l x.node = true then { x with over := true } else x) ∧
    (l.foldl (hitL err cause) acc).1.σ.t = acc.1.σ.t ∧ (l.foldl (hitL err cause) acc).1.τ.ones = acc.1.τ.ones ∧
    (∀ b n, (acc.1.χ b).recvs.length + (acc.1.χ b).sends.length ≤ n → ((l.foldl (hitL err cause) acc).1.χ b).recvs.length + ((l.foldl (hitL err cause) acc).1.χ b).sends.length ≤ n)
  | [], acc, _, _, _ => by simp [inL]
  | a :: r, acc, hw, h, hn => by
    have ha := h a (by simp)
    have hn' := List.nodup_cons.1 hn
    have hk := hitL_keeps err cause acc a
    obtain ⟨o1, o2⟩ := hitL_ones err cause hw ha
    obtain ⟨i1, i2, i3, i4, i5⟩ := hits_ones (T := T) err cause r (hitL err cause acc a) (hw.hit err cause ha) (fun i hi => (h i (by simp [hi])).hit err cause ha (by rintro rfl; exact hn'.1 hi)) hn'.2
    simp only [List.foldl_cons]
    refine ⟨fun w => ?_, fun w => ?_, i3.trans hk.2.2.1, i4.trans hk.2.2.2.1, fun b n hb => i5 b n (hk.2.2.2.2.2.1 b n hb)⟩
    · rw [i1, o1]
      cases acc.1.σ.ones[w]? with
      | none => rfl
      | some x =>
        simp only [Option.map_some, inL, List.any_cons]
        by_cases e : x.node = (a : Int)
        · simp only [e, if_true, decide_true, Bool.true_or]
          split <;> rfl
        · simp [e]
    · rw [i2, o2]
      cases acc.1.σ.afts[w]? with
      | none => rfl
      | some x =>
        simp only [Option.map_some, inL, List.any_cons]
        by_cases e : x.node = (a : Int)
        · simp only [e, if_true, decide_true, Bool.true_or]
          split <;> rfl
        · simp [e]
theorem inL_nat {l : List Nat} {n : Int} {k : Nat} (h : n = (k : Int)) : inL l n = decide (k ∈ l) := by
  subst h
  unfold inL
  rw [Bool.eq_iff_iff]
  simp only [List.any_eq_true, decide_eq_true_eq]
  constructor
  · rintro ⟨x, h1, h2⟩
    have : k = x := by omega
    rw [this]; exact h1
  · exact fun h1 => ⟨k, h1, rfl⟩
/-- what a walk leaves is as it should be -/
theorem WF.walk {S : CX} (h : WF S) {i k : Nat} {x : One} (hx : S.σ.ones[i]? = some x) (hk : x.node = (k : Int)) (hf : x.free = false) (he : x.err = 0) {err cause : Int} (herr : err ≠ 0) {r : CRes}
    (hr : walked S.σ.tree err cause (fun _ => false) (pre S.σ.tree 200 k) (S, [], []) = r) : WF r.1 ∧ r.1.σ.who = S.σ.who ∧ r.1.σ.t = S.σ.t ∧ r.1.τ.ones = S.τ.ones ∧
    r.1.σ.tree = killT S.σ.tree (fun j => decide (j ∈ pre S.σ.tree 200 k)) ∧
    (∀ w : Nat, r.1.σ.ones[w]? = (S.σ.ones[w]?).map fun (x : One) => if inL (pre S.σ.tree 200 k) x.node = true then { x with err := err, cause := cause } else x) ∧
    (∀ w : Nat, r.1.σ.afts[w]? = (S.σ.afts[w]?).map fun (x : Aft) => if inL (pre S.σ.tree 200 k) x.node = true then { x with over := true } else x) := by
  have hl := h.liveAt hx hk hf he 200
  have hnd := pre_nodup h.tr 200 k
  obtain ⟨i1, i2, i3, i4, i5⟩ := hits_ones (T := S.σ.tree) err cause (pre S.σ.tree 200 k) (S, [], []) h.whos hl hnd
  obtain ⟨k1, k2, k3, k4, k5, k6⟩ := hits_keep (T := S.σ.tree) err cause (pre S.σ.tree 200 k) (S, [], []) hl hnd
  have hrt : r.1.σ.tree = killT S.σ.tree (fun j => decide (j ∈ pre S.σ.tree 200 k)) := by rw [← hr]; show killT _ _ = _; simp
  have hro : r.1.σ.ones = ((pre S.σ.tree 200 k).foldl (hitL err cause) (S, [], [])).1.σ.ones := by rw [← hr]; rfl
  have hra : r.1.σ.afts = ((pre S.σ.tree 200 k).foldl (hitL err cause) (S, [], [])).1.σ.afts := by rw [← hr]; rfl
  have hrw : r.1.σ.who = S.σ.who := by rw [← k1, ← hr]; rfl
  have hrtt : r.1.σ.t = S.σ.t := by rw [← i3, ← hr]; rfl
  have hrτ : r.1.τ = ((pre S.σ.tree 200 k).foldl (hitL err cause) (S, [], [])).1.τ := by rw [← hr]; rfl
  have hrχ : r.1.χ = ((pre S.σ.tree 200 k).foldl (hitL err cause) (S, [], [])).1.χ := by rw [← hr]; rfl
  rw [← hro] at i1
  rw [← hra] at i2
  rw [← hrτ] at i4 k3
  rw [← hrχ] at i5
  simp only at i1 i2 i4 k3 i5
  have hlo : r.1.σ.ones.length = S.σ.ones.length := by
    rcases Nat.lt_trichotomy r.1.σ.ones.length S.σ.ones.length with h9 | h9 | h9
    · have := i1 r.1.σ.ones.length
      rw [List.getElem?_eq_none (Nat.le_refl _), List.getElem?_eq_getElem h9] at this; cases this
    · exact h9
    · have := i1 S.σ.ones.length
      rw [List.getElem?_eq_getElem h9, List.getElem?_eq_none (Nat.le_refl _)] at this; cases this
  have hla : r.1.σ.afts.length = S.σ.afts.length := by
    rcases Nat.lt_trichotomy r.1.σ.afts.length S.σ.afts.length with h9 | h9 | h9
    · have := i2 r.1.σ.afts.length
      rw [List.getElem?_eq_none (Nat.le_refl _), List.getElem?_eq_getElem h9] at this; cases this
    · exact h9
    · have := i2 S.σ.afts.length
      rw [List.getElem?_eq_getElem h9, List.getElem?_eq_none (Nat.le_refl _)] at this; cases this
  have hlt : r.1.σ.tree.length = S.σ.tree.length := by rw [hrt, killT_length]
  have back : ∀ (w : Nat) (y : One), r.1.σ.ones[w]? = some y → ∃ x, S.σ.ones[w]? = some x ∧ y = if inL (pre S.σ.tree 200 k) x.node = true then { x with err := err, cause := cause } else x := by
    intro w y hy
    rw [i1] at hy
    cases e : S.σ.ones[w]? with
    | none => rw [e] at hy; cases hy
    | some x => rw [e] at hy; simp at hy; exact ⟨x, rfl, hy.symm⟩
  have backA : ∀ (w : Nat) (y : Aft), r.1.σ.afts[w]? = some y → ∃ x, S.σ.afts[w]? = some x ∧ y = if inL (pre S.σ.tree 200 k) x.node = true then { x with over := true } else x := by
    intro w y hy
    rw [i2] at hy
    cases e : S.σ.afts[w]? with
    | none => rw [e] at hy; cases hy
    | some x => rw [e] at hy; simp at hy; exact ⟨x, rfl, hy.symm⟩
  refine ⟨⟨by rw [hrt]; exact h.tr.kill _, by rw [hlo, hla]; exact h.sz, by rw [hlt, hlo, hla]; exact h.len, ?_, ?_, ?_, ?_, ?_, ?_, Nat.le_trans k3 h.tlen⟩, hrw, hrtt, i4, hrt, i1, i2⟩
  · intro w y hy
    obtain ⟨x, hx, rfl⟩ := back w y hy
    obtain ⟨k, h1, h2, h3⟩ := h.who1 w x hx
    exact ⟨k, by split <;> exact h1, by rw [hlt]; exact h2, by rw [hrw]; exact h3⟩
  · intro w y hy
    obtain ⟨x, hx, rfl⟩ := backA w y hy
    obtain ⟨k, h1, h2, h3, h4⟩ := h.who2 w x hx
    exact ⟨k, by split <;> exact h1, by rw [hlt]; exact h2, by rw [hrw]; exact h3, by rw [hrt, kidsOf_kill, h4]; rfl⟩
  · intro j hj
    rw [hlt] at hj
    rcases h.cover j hj with ⟨w, x, c1, c2, c3⟩ | ⟨w, x, c1, c2, c3⟩
    · exact .inl ⟨w, _, by rw [hrw]; exact c1, by rw [i1, c2, Option.map_some], by split <;> exact c3⟩
    · exact .inr ⟨w, _, by rw [hrw]; exact c1, by rw [i2, c2, Option.map_some], by split <;> exact c3⟩
  · intro w j y n hy hn ht
    obtain ⟨x, hx, rfl⟩ := back w y hy
    have hxj : x.node = (j : Int) := by split at hn <;> exact hn
    rw [hrt, killT_get] at ht
    cases e : S.σ.tree[j]? with
    | none => rw [e] at ht; cases ht
    | some m =>
      rw [e] at ht; simp at ht; subst ht
      have := h.live w j x m hx hxj e
      rw [inL_nat hxj]
      by_cases hm : j ∈ pre S.σ.tree 200 k
      · simp [hm, herr]
      · simp [hm, this]
  · intro y hy a ha
    obtain ⟨w, hw⟩ := List.mem_iff_getElem?.1 hy
    obtain ⟨x, hx, rfl⟩ := back w y hw
    have : x.c = some a := by split at ha <;> exact ha
    exact i5 a _ (h.chs x (List.mem_of_getElem? hx) a this)
  · intro y hy s o hs ho
    obtain ⟨w, hw⟩ := List.mem_iff_getElem?.1 hy
    obtain ⟨x, hx, rfl⟩ := back w y hw
    refine h.tms x (List.mem_of_getElem? hx) s o (by rw [← hrtt]; exact hs) ?_
    rw [← one_eq i4]
    split at ho <;> exact ho
end Go.AM


/- ctx: what is made is as it should be; in plain Lean. -/
set_option linter.unusedVariables false
set_option linter.unusedSimpArgs false
namespace Go.AM
theorem Added.back {ns ms : List Nd} {parent : Int} {lk : Bool} (h : Added ns parent lk ms) {j : Nat} {m : Nd} (hm : ms[j]? = some m) : (j < ns.length ∧ ∃ n, ns[j]? = some n ∧ m.parent = n.parent ∧ m.linked = n.linked) ∨ (j = ns.length ∧ m.parent = parent ∧ m.linked = lk) := by
  have hj : j < ms.length := (List.getElem?_eq_some_iff.1 hm).1
  rw [h.len] at hj
  by_cases e : j < ns.length
  · obtain ⟨m', h1, h2, h3⟩ := h.old j _ (List.getElem?_eq_getElem e)
    rw [hm] at h1; cases h1
    exact .inl ⟨e, _, List.getElem?_eq_getElem e, h2, h3⟩
  · have : j = ns.length := by omega
    subst this
    obtain ⟨m', h1, h2, h3⟩ := h.new
    rw [hm] at h1; cases h1
    exact .inr ⟨rfl, h2, h3⟩
theorem Added.kids {ns ms : List Nd} {parent : Int} {lk : Bool} (h : Added ns parent lk ms) {k : Int} (hk : kidsOf ns k = []) (hp : parent ≠ k ∨ lk = false) : kidsOf ms k = [] := by
  rw [List.eq_nil_iff_forall_not_mem]
  intro i hi
  obtain ⟨m, h1, h2, h3⟩ := kidsOf_mem.1 hi
  rcases h.back h1 with ⟨_, n, e1, e2, e3⟩ | ⟨_, e2, e3⟩
  · have : i ∈ kidsOf ns k := kidsOf_mem.2 ⟨n, e1, by rw [← e3]; exact h2, by rw [← e2]; exact h3⟩
    rw [hk] at this; cases this
  · rcases hp with hp | hp
    · exact hp (by rw [← e2]; exact h3)
    · rw [h2] at e3; rw [hp] at e3; cases e3
theorem WF.node {S : CX} (h : WF S) {p : Nat} {up : One} (hup : S.σ.ones[p]? = some up) : hasT S.σ.tree up.node = true ∧ up.node ≠ -1 := by
  obtain ⟨k, h1, h2, _⟩ := h.who1 p up hup
  refine ⟨?_, by omega⟩
  simp [hasT, h1]; omega
theorem WF.not_aft {S : CX} (h : WF S) {p j : Nat} {up : One} {x : Aft} (hup : S.σ.ones[p]? = some up) (hx : S.σ.afts[j]? = some x) : up.node ≠ x.node := by
  intro e
  obtain ⟨k, h1, h2, h3⟩ := h.who1 p up hup
  obtain ⟨k', g1, g2, g3, _⟩ := h.who2 j x hx
  have : k = k' := by omega
  subst this
  rw [h3] at g3; simp at g3; omega
/-- a context more -/
theorem WF.add {S : CX} (h : WF S) {p : Nat} {up o : One} {χ' : Nat → Ch} (hup : S.σ.ones[p]? = some up) (hlen : S.σ.ones.length < 64) (ho : o.err = 0)
    (hχ : ∀ a n, (S.χ a).recvs.length + (S.χ a).sends.length ≤ n → (χ' a).recvs.length + (χ' a).sends.length ≤ n) (hc : ∀ a, o.c = some a → (χ' a).recvs.length + (χ' a).sends.length ≤ 1000000) :
    WF ({ S with σ := S.σ.add o up.node, χ := χ' } : CX) ∧ (S.σ.add o up.node).ones = S.σ.ones ++ [{ o with node := S.σ.tree.length, timer := -1 }] ∧ Added S.σ.tree up.node (!o.free) (S.σ.add o up.node).tree ∧ (S.σ.add o up.node).who = updI S.σ.who S.σ.tree.length (some (S.σ.ones.length : Int)) := by
  have hn := h.node hup
  have hlt : S.σ.tree.length < 1000 := by have := h.len; have := h.sz; omega
  obtain ⟨ms, e, had⟩ := treeAdd_ok (linked := !o.free) h.tr hlt (.inr hn.1)
  have hlk : ((!o.free) && decide (up.node ≠ -1)) = !o.free := by simp [hn.2]
  rw [hlk] at had
  have eo : (S.σ.add o up.node).ones = S.σ.ones ++ [{ o with node := S.σ.tree.length, timer := -1 }] := by simp [Cs.add, e]
  have et : (S.σ.add o up.node).tree = ms := by simp [Cs.add, e]
  have ew : (S.σ.add o up.node).who = updI S.σ.who S.σ.tree.length (some (S.σ.ones.length : Int)) := by simp [Cs.add, e]
  have ea : (S.σ.add o up.node).afts = S.σ.afts := rfl
  have oback : ∀ (w : Nat) (x : One), (S.σ.add o up.node).ones[w]? = some x → (w < S.σ.ones.length ∧ S.σ.ones[w]? = some x) ∨ (w = S.σ.ones.length ∧ x = { o with node := S.σ.tree.length, timer := -1 }) := by
    intro w x hx
    rw [eo] at hx
    by_cases hw : w < S.σ.ones.length
    · rw [List.getElem?_append_left hw] at hx; exact .inl ⟨hw, hx⟩
    · rw [List.getElem?_append_right (by omega)] at hx
      have hz : w - S.σ.ones.length = 0 := by
        rcases Nat.eq_zero_or_pos (w - S.σ.ones.length) with h9 | h9
        · exact h9
        · rw [List.getElem?_eq_none (by simp; omega)] at hx; cases hx
      rw [hz] at hx; simp at hx
      exact .inr ⟨by omega, hx.symm⟩
  have ofwd : ∀ (w : Nat) (x : One), S.σ.ones[w]? = some x → (S.σ.add o up.node).ones[w]? = some x := by
    intro w x hx
    have hw : w < S.σ.ones.length := (List.getElem?_eq_some_iff.1 hx).1
    rw [eo, List.getElem?_append_left hw]; exact hx
  have who_old : ∀ k : Nat, k < S.σ.tree.length → (S.σ.add o up.node).who k = S.σ.who k := by
    intro k hk
    rw [ew]; unfold updI
    rw [if_neg (by omega)]
  refine ⟨⟨by rw [et]; exact had.ok, ⟨by rw [eo]; simp; omega, h.sz.2⟩, ?_, ?_, ?_, ?_, ?_, ?_, ?_, h.tlen⟩, eo, by rw [et]; exact had, ew⟩
  · show (S.σ.add o up.node).tree.length = (S.σ.add o up.node).ones.length + S.σ.afts.length
    rw [et, had.len, eo, h.len]; simp; omega
  · intro w x hx
    show ∃ k, _ ∧ k < (S.σ.add o up.node).tree.length ∧ (S.σ.add o up.node).who k = _
    rw [et, had.len]
    rcases oback w x hx with ⟨_, h1⟩ | ⟨rfl, rfl⟩
    · obtain ⟨k, k1, k2, k3⟩ := h.who1 w x h1
      exact ⟨k, k1, by omega, by rw [who_old k k2]; exact k3⟩
    · exact ⟨S.σ.tree.length, rfl, by omega, by rw [ew]; simp [updI]⟩
  · intro w x hx
    show ∃ k, _ ∧ k < (S.σ.add o up.node).tree.length ∧ (S.σ.add o up.node).who k = _ ∧ kidsOf (S.σ.add o up.node).tree k = []
    rw [et, had.len]
    obtain ⟨k, k1, k2, k3, k4⟩ := h.who2 w x hx
    refine ⟨k, k1, by omega, by rw [who_old k k2]; exact k3, had.kids k4 (.inl ?_)⟩
    have := h.not_aft hup hx
    omega
  · intro k hk
    have hk' : k < (S.σ.add o up.node).tree.length := hk
    rw [et, had.len] at hk'
    by_cases e1 : k < S.σ.tree.length
    · rcases h.cover k e1 with ⟨w, x, c1, c2, c3⟩ | ⟨w, x, c1, c2, c3⟩
      · exact .inl ⟨w, x, by show (S.σ.add o up.node).who k = _; rw [who_old k e1]; exact c1, ofwd w x c2, c3⟩
      · exact .inr ⟨w, x, by show (S.σ.add o up.node).who k = _; rw [who_old k e1]; exact c1, c2, c3⟩
    · have : k = S.σ.tree.length := by omega
      subst this
      refine .inl ⟨S.σ.ones.length, { o with node := S.σ.tree.length, timer := -1 }, ?_, ?_, rfl⟩
      · show (S.σ.add o up.node).who _ = _
        rw [ew]; simp [updI]
      · show (S.σ.add o up.node).ones[_]? = _
        rw [eo]; simp
  · intro w k x n hx hk hn2
    have hn2' : ms[k]? = some n := by rw [← et]; exact hn2
    rcases had.back hn2' with ⟨b1, m, b2, b3, b4⟩ | ⟨b1, b3, b4⟩
    · rcases oback w x hx with ⟨_, h1⟩ | ⟨rfl, rfl⟩
      · rw [b4]; exact h.live w k x m h1 hk b2
      · simp at hk; omega
    · rcases oback w x hx with ⟨_, h1⟩ | ⟨rfl, rfl⟩
      · obtain ⟨k2, k3, k4, _⟩ := h.who1 w x h1
        omega
      · rw [b4]; simp [ho]
  · intro x hx a ha
    obtain ⟨w, hw⟩ := List.mem_iff_getElem?.1 hx
    rcases oback w x hw with ⟨_, h1⟩ | ⟨rfl, rfl⟩
    · exact hχ a _ (h.chs x (List.mem_of_getElem? h1) a ha)
    · exact hc a ha
  · intro x hx s o2 hs ho2
    obtain ⟨w, hw⟩ := List.mem_iff_getElem?.1 hx
    rcases oback w x hw with ⟨_, h1⟩ | ⟨rfl, rfl⟩
    · exact h.tms x (List.mem_of_getElem? h1) s o2 hs ho2
    · simp [Tms.one, Tms.has] at ho2
theorem updC_sizes (χ : Nat → Ch) (a b n : Nat) (h : (χ b).recvs.length + (χ b).sends.length ≤ n) : (updC χ a .sg b).recvs.length + (updC χ a .sg b).sends.length ≤ n := by
  unfold updC
  split
  · simp [Ch.sg]
  · exact h
theorem WF.room {S : CX} (h : WF S) {p : Nat} {up : One} (hup : S.σ.ones[p]? = some up) (hlen : S.σ.ones.length < 64) : S.σ.room p = 0 := by
  have hp : p < S.σ.ones.length := (List.getElem?_eq_some_iff.1 hup).1
  have : S.σ.has p = true := by simp [Cs.has]; omega
  simp [Cs.room, this]; omega
theorem WF.okAdd {S : CX} (h : WF S) : S.okAdd = true := by
  have := h.sz
  simp [CX.okAdd, h.tr.kok]; omega
/-- a context of one that is not done -/
theorem WF.cancelsP {S : CX} (h : WF S) {p : Nat} {up : One} (hup : S.σ.ones[p]? = some up) (hlen : S.σ.ones.length < 64) (he : up.err = 0) (a : Nat) :
    S.cancelsP p a = some (S.addS { One.zero with when := up.when, has := up.has } up.node a, (S.σ.ones.length : Int), [], 0) ∧ WF (S.addS { One.zero with when := up.when, has := up.has } up.node a) := by
  have hw := h.add (o := { ({ One.zero with when := up.when, has := up.has } : One) with c := some a }) (χ' := updC S.χ a .sg) hup hlen rfl (fun b n hb => updC_sizes _ _ _ _ hb) (fun b hb => by simp at hb; subst hb; simp [updC, Ch.sg])
  refine ⟨?_, hw.1⟩
  unfold CX.cancelsP
  rw [if_neg (by simp [h.room hup hlen]), if_pos h.okAdd]
  simp only [Int.toNat_natCast, hup]
  have hp : p < S.σ.ones.length := (List.getElem?_eq_some_iff.1 hup).1
  have hb : (S.addS { One.zero with when := up.when, has := up.has } up.node a).beginP S.σ.ones.length p = some (S.addS { One.zero with when := up.when, has := up.has } up.node a, []) := by
    unfold CX.beginP
    rw [if_pos (by omega)]
    have : (S.addS { One.zero with when := up.when, has := up.has } up.node a).σ.ones[((p : Int)).toNat]? = some up := by
      show (S.σ.add _ _).ones[_]? = _
      rw [hw.2.1, Int.toNat_natCast, List.getElem?_append_left hp]; exact hup
    rw [this]
    simp only
    rw [if_pos he]
  rw [hb]
theorem wf_new (t : Option Nat) (τ : Tms) (χ : Nat → Ch) (hτ : τ.x.l.length ≤ 1000000) : WF ⟨Cs.new t, τ, χ⟩ := by
  have e : treeAdd [] (-1) false = ([⟨-1, false, []⟩], 0, 0) := by simp [treeAdd]
  have ew : (Cs.new t).who = updI (fun _ => none) 0 (some 0) := by simp [Cs.new, Cs.add, One.zero, e]
  have eo : (Cs.new t).ones = [{ One.zero with free := true, timer := -1 }] := by simp [Cs.new, Cs.add, One.zero, e]
  have et : (Cs.new t).tree = [⟨-1, false, []⟩] := by simp [Cs.new, Cs.add, One.zero, e]
  have ea : (Cs.new t).afts = [] := rfl
  refine ⟨⟨by rw [et]; simp, ?_, ?_⟩, by simp [eo, ea], by simp [et, eo, ea], ?_, ?_, ?_, ?_, ?_, ?_, hτ⟩
  · intro k n hn
    simp only [et] at hn ⊢
    cases k with
    | zero => simp at hn; subst hn; rfl
    | succ k => simp at hn
  · intro k n hn hl
    simp only [et] at hn
    cases k with
    | zero => simp at hn; subst hn; cases hl
    | succ k => simp at hn
  · intro i x hx
    simp only [eo] at hx
    cases i with
    | zero => simp at hx; subst hx; exact ⟨0, rfl, by simp [et], by simp [ew, updI]⟩
    | succ k => simp at hx
  · intro i x hx; simp only [ea] at hx; simp at hx
  · intro k hk
    simp only [et] at hk
    simp at hk; subst hk
    exact .inl ⟨0, { One.zero with free := true, timer := -1 }, by simp [ew, updI], by simp [eo], rfl⟩
  · intro i k x n hx hk hn
    simp only [eo] at hx
    simp only [et] at hn
    cases i with
    | zero =>
      simp at hx; subst hx
      cases k with
      | zero => simp at hn; subst hn; simp
      | succ k => simp at hn
    | succ k => simp at hx
  · intro x hx a ha
    simp only [eo] at hx
    simp at hx; subst hx; simp [One.zero] at ha
  · intro x hx s o hs ho
    simp only [eo] at hx
    simp at hx; subst hx
    simp [Tms.one, Tms.has] at ho
end Go.AM


/- ctx: what a walk tells; what laws keep of memory. -/
set_option linter.unusedVariables false
set_option linter.unusedSimpArgs false
namespace Go.AM
theorem filterMap_congr' {α β : Type} {f g : α → Option β} : ∀ (l : List α), (∀ x ∈ l, f x = g x) → l.filterMap f = l.filterMap g
  | [], _ => rfl
  | a :: r, h => by rw [List.filterMap_cons, List.filterMap_cons, h a (by simp), filterMap_congr' r fun x hx => h x (by simp [hx])]
/-- each context has its own channel -/
def Chans (S : CX) : Prop := ∀ (i j : Nat) (x y : One) (a : Nat), S.σ.ones[i]? = some x → S.σ.ones[j]? = some y → x.c = some a → y.c = some a → i = j
def chW (S : CX) : Option Nat → List Wk
  | none => []
  | some a => (S.χ a).endS.2
def lapOf (S : CX) (err cause : Int) (j : Nat) : Option Lap :=
  let w := (S.σ.who j).getD 0
  if w < 0 then none else (S.σ.ones[w.toNat]?).map fun x => ⟨w, err, cause, chW S x.c⟩
def stOf (S : CX) (j : Nat) : Option (Int × Int) :=
  let w := (S.σ.who j).getD 0
  if w < 0 then (S.σ.afts[(-w - 1).toNat]?).map fun x => (-w - 1, x.prog) else none
theorem hitL_res (err cause : Int) (acc : CRes) (j : Nat) : (hitL err cause acc j).2.1 = acc.2.1 ++ (lapOf acc.1 err cause j).toList ∧ (hitL err cause acc j).2.2 = acc.2.2 ++ (stOf acc.1 j).toList := by
  unfold hitL lapOf stOf
  simp only
  split
  · rename_i h
    split
    · rename_i x hx; rw [hx]; simp
    · rename_i hx; rw [hx]; simp
  · rename_i h
    split
    · rename_i x hx
      have e : ((acc.1.setOne ((acc.1.σ.who j).getD 0).toNat { x with err := err, cause := cause }).endT x.c).2 = chW acc.1 x.c := by cases x.c <;> rfl
      simp [hx, e]
    · rename_i hx; simp [hx]
/-- the channel of a context is not touched by another's hit -/
theorem hitL_chi {T : List Nd} (err cause : Int) {acc : CRes} {j a : Nat} (hj : LiveAt T acc.1 j) (h : ∀ (i : Nat) (x : One), acc.1.σ.who j = some (i : Int) → acc.1.σ.ones[i]? = some x → x.c ≠ some a) : (hitL err cause acc j).1.χ a = acc.1.χ a := by
  rcases hj with ⟨w, x, q1, q2, _⟩ | ⟨k, x, q1, q5, q2, _⟩
  · have hnn : ¬ ((w : Int) < 0) := by omega
    unfold hitL
    simp only [q1, Option.getD_some, hnn, if_false, Int.toNat_natCast, q2]
    rw [(stopT_facts _ _).2.1]
    have := h w x q1 q2
    cases hc : x.c with
    | none => rfl
    | some b =>
      rw [hc] at this
      have hab : a ≠ b := fun h9 => this (by rw [h9])
      simp [CX.endT, updC, hab, CX.setOne]
  · have hneg : (-(k : Int) - 1) < 0 := by omega
    have hk : (-(-(k : Int) - 1) - 1) = (k : Int) := by omega
    unfold hitL
    simp only [q1, Option.getD_some, hneg, if_true, hk, Int.toNat_natCast, q2]
theorem hits_chi {T : List Nd} (err cause : Int) (a : Nat) : ∀ (l : List Nat) (acc : CRes), Whos acc.1 → (∀ i ∈ l, LiveAt T acc.1 i) → l.Nodup → (∀ j ∈ l, ∀ (i : Nat) (x : One), acc.1.σ.who j = some (i : Int) → acc.1.σ.ones[i]? = some x → x.c ≠ some a) → (l.foldl (hitL err cause) acc).1.χ a = acc.1.χ a
  | [], _, _, _, _, _ => rfl
  | b :: r, acc, hw, h, hn, hc => by
    have hb := h b (by simp)
    have hn' := List.nodup_cons.1 hn
    have hk := hitL_keeps err cause acc b
    obtain ⟨o1, _⟩ := hitL_ones err cause hw hb
    simp only [List.foldl_cons]
    rw [hits_chi err cause a r (hitL err cause acc b) (hw.hit err cause hb) (fun i hi => (h i (by simp [hi])).hit err cause hb (by rintro rfl; exact hn'.1 hi)) hn'.2 ?_]
    · exact hitL_chi err cause hb (hc b (by simp))
    · intro j hj i x h1 h2
      rw [hk.1] at h1
      rw [o1] at h2
      cases e : acc.1.σ.ones[i]? with
      | none => rw [e] at h2; cases h2
      | some y =>
        rw [e] at h2; simp at h2; subst h2
        have := hc j (by simp [hj]) i y h1 e
        split <;> exact this
theorem hits_res {T : List Nd} (err cause : Int) : ∀ (l : List Nat) (acc : CRes), Whos acc.1 → (∀ i ∈ l, LiveAt T acc.1 i) → l.Nodup → Chans acc.1 →
    (l.foldl (hitL err cause) acc).2.1 = acc.2.1 ++ l.filterMap (lapOf acc.1 err cause) ∧ (l.foldl (hitL err cause) acc).2.2 = acc.2.2 ++ l.filterMap (stOf acc.1)
  | [], acc, _, _, _, _ => by simp
  | a :: r, acc, hw, h, hn, hch => by
    have ha := h a (by simp)
    have hn' := List.nodup_cons.1 hn
    have hk := hitL_keeps err cause acc a
    obtain ⟨o1, o2⟩ := hitL_ones err cause hw ha
    have hch' : Chans (hitL err cause acc a).1 := by
      intro i j x y b hx hy h1 h2
      rw [o1] at hx hy
      cases e1 : acc.1.σ.ones[i]? with
      | none => rw [e1] at hx; cases hx
      | some x' =>
        cases e2 : acc.1.σ.ones[j]? with
        | none => rw [e2] at hy; cases hy
        | some y' =>
          rw [e1] at hx; rw [e2] at hy
          simp at hx hy; subst hx; subst hy
          refine hch i j x' y' b e1 e2 ?_ ?_
          · split at h1 <;> exact h1
          · split at h2 <;> exact h2
    obtain ⟨i1, i2⟩ := hits_res (T := T) err cause r (hitL err cause acc a) (hw.hit err cause ha) (fun i hi => (h i (by simp [hi])).hit err cause ha (by rintro rfl; exact hn'.1 hi)) hn'.2 hch'
    obtain ⟨r1, r2⟩ := hitL_res err cause acc a
    simp only [List.foldl_cons]
    have c1 : r.filterMap (lapOf (hitL err cause acc a).1 err cause) = r.filterMap (lapOf acc.1 err cause) := by
      apply filterMap_congr'
      intro j hj
      have hja : j ≠ a := by rintro rfl; exact hn'.1 hj
      have hLj := h j (by simp [hj])
      unfold lapOf
      simp only [hk.1]
      split
      · rfl
      · rename_i hneg
        rw [o1]
        rcases hLj with ⟨w, x, q1, q2, q3, _⟩ | ⟨k, x, q1, _⟩
        · simp only [q1, Option.getD_some, Int.toNat_natCast, q2, Option.map_some]
          have hna : ¬ x.node = (a : Int) := by omega
          simp only [hna, if_false]
          congr 2
          cases hc : x.c with
          | none => rfl
          | some b =>
            simp only [chW]
            rw [hitL_chi err cause ha]
            intro i y h1 h2 h3
            have := hch w i x y b q2 h2 hc h3
            subst this
            rw [q2] at h2; cases h2
            obtain ⟨k', e1, e2⟩ := hw.w1 w x q2
            have : k' = j := by omega
            subst this
            rcases ha with ⟨w', x', p1, p2, p3, _⟩ | ⟨_, _, p1, _⟩
            · rw [h1] at p1
              have : w = w' := by simp at p1; omega
              subst this
              rw [q2] at p2; cases p2
              omega
            · rw [h1] at p1; simp at p1; omega
        · rw [q1] at hneg; simp at hneg; omega
    have c2 : r.filterMap (stOf (hitL err cause acc a).1) = r.filterMap (stOf acc.1) := by
      apply filterMap_congr'
      intro j hj
      unfold stOf
      simp only [hk.1]
      split
      · rw [o2]
        cases acc.1.σ.afts[(-(acc.1.σ.who j).getD 0 - 1).toNat]? with
        | none => rfl
        | some x => simp only [Option.map_some]; split <;> rfl
      · rfl
    rw [i1, i2, r1, r2, c1, c2]
    refine ⟨?_, ?_⟩
    · rw [List.filterMap_cons]
      cases lapOf acc.1 err cause a <;> simp
    · rw [List.filterMap_cons]
      cases stOf acc.1 a <;> simp
/-! ### what laws keep of memory -/
section
variable {c : Nat} {S S' : CX} {L L2 : Lg}
theorem CDone.raw (h : CDone c S S' L L2) (e : L c = some (.abs (CtxP c S.σ))) (ho : OutC c S L) {r : Nat} {x : AB} (hr : L r = some (.raw x)) : L2 r = some (.raw x) := by
  rw [h.fr r (by rw [hr]; simp) (by rintro rfl; rw [hr] at e; cases e) (fun h9 => by have := (ho.tms r h9).2; rw [hr] at this; cases this) (fun o h8 h9 => by have := (ho.chs o h8 r h9).2.2; rw [hr] at this; cases this)]
  exact hr
/-- all raw blocks are kept -/
def RawK (L L2 : Lg) : Prop := ∀ r x, L r = some (.raw x) → L2 r = some (.raw x)
theorem RawK.refl (L : Lg) : RawK L L := fun _ _ h => h
theorem RawK.trans {L3 : Lg} (h : RawK L L2) (k : RawK L2 L3) : RawK L L3 := fun r x hr => k r x (h r x hr)
theorem RawK.osl (h : RawK L L2) {v : AV} {cs : List AV} {n size : Nat} (o : OSl L v cs n size) : OSl L2 v cs n size := o.mono fun b hb => by rw [o.block hb]; exact h _ _ (o.block hb)
theorem RawK.slK (h : RawK L L2) {v : AV} {ws : List Wk} (o : SlK L v ws) : SlK L2 v ws := o.mono fun b hb => by
  rcases o with ⟨_, rfl⟩ | ⟨b', ex, rfl, h2⟩
  · cases hb
  · simp [slB] at hb; subst hb; rw [h2]; exact h _ _ h2
theorem RawK.put (L : Lg) {b : Nat} (hb : L b = none) (d : LC) : RawK L (L.put b d) := fun r x hr => by
  rw [Lg.put_ne _ _ _ (by rintro rfl; rw [hb] at hr; cases hr)]; exact hr
end
/-- what is known to answer true -/
theorem known2_spec {F : Nat → Option AFn} {f : Nat} (h : F f = some kTrue) (L : Lg) : CallL F f [] L fun v L' => v = .b true ∧ L' = L := by
  apply CallL.of_wp h
  show fin _ _ _ _ _
  exact ⟨L, Sees.refl _, rfl, rfl⟩
theorem OutC.chan {c : Nat} {S : CX} {L : Lg} (ho : OutC c S L) {a : Nat} (hm : ∃ o ∈ S.σ.ones, o.c = some a) (y : Ch) : OutC c ({ S with χ := updC S.χ a y } : CX) (L.put a (.abs (ChanP a y))) := by
  obtain ⟨o1, h1, h2⟩ := hm
  have hs := ho.chs o1 h1 a h2
  refine ⟨fun s ht => ?_, fun o2 ho2 a2 ha2 => ?_⟩
  · have := ho.tms s ht
    refine ⟨this.1, ?_⟩
    rw [Lg.put_ne]; exact this.2
    rintro rfl; exact hs.2.1 ht
  · have := ho.chs o2 ho2 a2 ha2
    refine ⟨this.1, this.2.1, ?_⟩
    by_cases e : a2 = a
    · subst e; rw [Lg.put_same]; simp [updC]
    · rw [Lg.put_ne _ _ _ e]; simp [updC, e, this.2.2]
/-- a row of slices, read -/
theorem ResP.get {L0 K : Lg} {v1 v2 : AV} {ps : List (Lap × AV)} {sts : List (Int × Int)} {F : Nat → Option AFn} (h : ResP L0 K v1 v2 ps sts) {i : Nat} {p : Lap × AV} (hi : ps[i]? = some p) : ∃ b, K b = some (.raw (.cells (flatc lapc ps))) ∧
    (∀ (X : Lg) (k : AV → Lg → Prop), wpOp F (.iad 4) [v1, .i .i64 i] X k = k (.p (some (b, i * 4))) X) ∧ (∀ X : Lg, X b = K b → ∀ j, j < 4 → rdL X (b, i * 4 + j) none = (lapc p)[j]?) := by
  have hl : i < ps.length := (List.getElem?_eq_some_iff.1 hi).1
  obtain ⟨b, h1, h2, h3, h4⟩ := h.o1.iad (F := F) (x := (i : Int)) (by omega) (by omega)
  refine ⟨b, h2, fun X k => by simpa using h4 X k .i64, fun X hX j hj => ?_⟩
  rw [rdL_cell (by rw [hX]; exact h2), flatc_get (k := 4) (fun _ => rfl) ps i j p hi hj]
end Go.AM


/- contexts in a row: each hangs on the one ahead; in plain Lean. -/
set_option linter.unusedVariables false
set_option linter.unusedSimpArgs false
namespace Go.AM
/-- contexts in a row; those up to m are not over -/
structure Row (S : CX) (n m : Nat) : Prop where
  wf : WF S
  len : S.σ.ones.length = n + 1
  afts : S.σ.afts = []
  bg : ∃ x, S.σ.ones[0]? = some x ∧ x.node = 0 ∧ x.free = true ∧ x.err = 0 ∧ x.c = none ∧ x.has = false
  each : ∀ j, 1 ≤ j → j ≤ n → ∃ x, S.σ.ones[j]? = some x ∧ x.node = (j : Int) ∧ x.free = false ∧ (x.err = 0 ↔ j ≤ m)
  par : ∀ (j : Nat) (q : Nd), S.σ.tree[j]? = some q → q.parent = (j : Int) - 1
  mn : m ≤ n
theorem Row.linked {S : CX} {n m : Nat} (h : Row S n m) {j : Nat} {q : Nd} (hq : S.σ.tree[j]? = some q) : q.linked = true ↔ 1 ≤ j ∧ j ≤ m := by
  have hj : j < S.σ.tree.length := (List.getElem?_eq_some_iff.1 hq).1
  have hl : S.σ.tree.length = n + 1 := by rw [h.wf.len, h.len, h.afts]; simp
  by_cases j0 : j = 0
  · subst j0
    obtain ⟨x, h1, h2, h3, _⟩ := h.bg
    have := h.wf.live 0 0 x q h1 (by simpa using h2) hq
    rw [this, h3]; simp
  · obtain ⟨x, h1, h2, h3, h4⟩ := h.each j (by omega) (by omega)
    have := h.wf.live j j x q h1 h2 hq
    rw [this, h3, h4]; simp; omega
theorem single {l : List Nat} {a : Nat} (hn : l.Nodup) (h : ∀ x, x ∈ l ↔ x = a) : l = [a] := by
  cases l with
  | nil => have := (h a).2 rfl; simp at this
  | cons b r =>
    have hb := (h b).1 (by simp)
    subst hb
    cases r with
    | nil => rfl
    | cons d t =>
      have hd := (h d).1 (by simp)
      subst hd
      simp at hn
theorem Row.kids {S : CX} {n m : Nat} (h : Row S n m) (j : Nat) : kidsOf S.σ.tree (j : Int) = if j < m then [j + 1] else [] := by
  have hl : S.σ.tree.length = n + 1 := by rw [h.wf.len, h.len, h.afts]; simp
  have mem : ∀ i, i ∈ kidsOf S.σ.tree (j : Int) ↔ i = j + 1 ∧ j < m := by
    intro i
    rw [kidsOf_mem]
    constructor
    · rintro ⟨q, h1, h2, h3⟩
      have h4 := (h.linked h1).1 h2
      have h5 := h.par i q h1
      omega
    · rintro ⟨rfl, h1⟩
      have := h.mn
      have hlt : j + 1 < S.σ.tree.length := by omega
      have hq := List.getElem?_eq_getElem hlt
      exact ⟨_, hq, (h.linked hq).2 (by omega), by have := h.par _ _ hq; omega⟩
  split
  · rename_i hj
    refine single (kidsOf_nodup _ _) fun i => ?_
    rw [mem]; simp [hj]
  · rename_i hj
    rw [List.eq_nil_iff_forall_not_mem]
    intro i hi
    exact hj ((mem i).1 hi).2
theorem Row.pre {S : CX} {n m : Nat} (h : Row S n m) : ∀ (f k : Nat), k ≤ m → m < k + f → pre S.σ.tree f k = List.range' k (m + 1 - k)
  | 0, k, h1, h2 => by omega
  | f + 1, k, h1, h2 => by
    simp only [Go.AM.pre]
    rw [h.kids k]
    by_cases hk : k < m
    · rw [if_pos hk]
      simp only [List.flatMap_cons, List.flatMap_nil, List.append_nil]
      rw [h.pre f (k + 1) (by omega) (by omega), show m + 1 - k = (m + 1 - (k + 1)) + 1 by omega, List.range'_succ]
    · rw [if_neg hk]
      have : m + 1 - k = 1 := by omega
      rw [this]; rfl
/-- one of a row is cancelled -/
theorem Row.cancel {S : CX} {n m : Nat} (h : Row S n m) {k : Nat} (h1 : 1 ≤ k) (h2 : k ≤ m) {err cause : Int} (herr : err ≠ 0) : ∃ r : CRes, S.cancelP 200 k err cause = some r ∧ r = walked S.σ.tree err cause (fun _ => false) (List.range' k (m + 1 - k)) (S, [], []) ∧ Row r.1 n (k - 1) ∧ r.1.σ.t = S.σ.t ∧ r.1.τ.ones = S.τ.ones ∧
    (∀ (w : Nat) (x : One), S.σ.ones[w]? = some x → r.1.σ.ones[w]? = some (if k ≤ w ∧ w ≤ m then { x with err := err, cause := cause } else x)) := by
  obtain ⟨x, hx, hn, hf, he⟩ := h.each k h1 (by have := h.mn; omega)
  have hm : n < 64 := by have := h.wf.sz; have := h.len; omega
  have hpre := h.pre 200 k h2 (by have := h.mn; omega)
  have hc := h.wf.cancelP hx hn hf (he.2 h2) err cause
  rw [hpre] at hc
  refine ⟨_, hc, rfl, ?_⟩
  obtain ⟨w1, w2, w3, w4, w5, w6, w7⟩ := h.wf.walk hx hn hf (he.2 h2) herr (r := walked S.σ.tree err cause (fun _ => false) (List.range' k (m + 1 - k)) (S, [], [])) (by rw [hpre])
  rw [hpre] at w5 w6 w7
  generalize hr : walked S.σ.tree err cause (fun _ => false) (List.range' k (m + 1 - k)) (S, [], []) = r at *
  have hin : ∀ (j : Nat) (x : One), x.node = (j : Int) → (inL (List.range' k (m + 1 - k)) x.node = true ↔ k ≤ j ∧ j ≤ m) := by
    intro j x hx
    rw [inL_nat hx, decide_eq_true_eq, List.mem_range'_1]; omega
  have hnode : ∀ (w : Nat) (x : One), S.σ.ones[w]? = some x → x.node = (w : Int) := by
    intro w x hx
    by_cases w0 : w = 0
    · subst w0
      obtain ⟨y, e1, e2, _⟩ := h.bg
      rw [e1] at hx; cases hx; simpa using e2
    · have hw : w < S.σ.ones.length := (List.getElem?_eq_some_iff.1 hx).1
      rw [h.len] at hw
      obtain ⟨y, e1, e2, _⟩ := h.each w (by omega) (by omega)
      rw [e1] at hx; cases hx; exact e2
  have key : ∀ (w : Nat) (x : One), S.σ.ones[w]? = some x → r.1.σ.ones[w]? = some (if k ≤ w ∧ w ≤ m then { x with err := err, cause := cause } else x) := by
    intro w x hx
    rw [w6, hx, Option.map_some]
    have := hin w x (hnode w x hx)
    by_cases hh : k ≤ w ∧ w ≤ m
    · rw [if_pos (this.2 hh), if_pos hh]
    · rw [if_neg (fun h9 => hh (this.1 h9)), if_neg hh]
  have hlen : r.1.σ.ones.length = n + 1 := by
    have e1 := w1.len
    rw [w5, killT_length, h.wf.len, h.len, h.afts] at e1
    have e2 : r.1.σ.afts = [] := by
      cases e : r.1.σ.afts with
      | nil => rfl
      | cons a t => have := w7 0; rw [e, h.afts] at this; simp at this
    rw [e2] at e1; simp at e1; omega
  have hafts : r.1.σ.afts = [] := by
    cases e : r.1.σ.afts with
    | nil => rfl
    | cons a t => have := w7 0; rw [e, h.afts] at this; simp at this
  refine ⟨⟨w1, hlen, hafts, ?_, ?_, ?_, by have := h.mn; omega⟩, w3, w4, key⟩
  · obtain ⟨y, e1, e2, e3, e4, e5⟩ := h.bg
    refine ⟨y, ?_, e2, e3, e4, e5⟩
    rw [key 0 y e1, if_neg (by omega)]
  · intro j hj1 hj2
    obtain ⟨y, e1, e2, e3, e4⟩ := h.each j hj1 hj2
    refine ⟨_, key j y e1, ?_⟩
    by_cases hh : k ≤ j ∧ j ≤ m
    · rw [if_pos hh]
      refine ⟨e2, e3, ?_⟩
      simp [herr]; omega
    · rw [if_neg hh]
      refine ⟨e2, e3, ?_⟩
      rw [e4]; omega
  · intro j q hq
    rw [w5, killT_get] at hq
    cases e : S.σ.tree[j]? with
    | none => rw [e] at hq; cases hq
    | some q' =>
      rw [e] at hq; simp at hq; subst hq
      exact h.par j q' e
/-- one more in a row -/
theorem Row.more {S : CX} {n : Nat} (h : Row S n n) (hn : n < 63) {o : One} {χ' : Nat → Ch} {up : One} (hup : S.σ.ones[n]? = some up) (ho : o.err = 0) (hf : o.free = false)
    (hw : WF ({ S with σ := S.σ.add o up.node, χ := χ' } : CX)) (ha : Added S.σ.tree up.node (!o.free) (S.σ.add o up.node).tree) (he : (S.σ.add o up.node).ones = S.σ.ones ++ [{ o with node := S.σ.tree.length, timer := -1 }]) :
    Row ({ S with σ := S.σ.add o up.node, χ := χ' } : CX) (n + 1) (n + 1) := by
  have hl : S.σ.tree.length = n + 1 := by rw [h.wf.len, h.len, h.afts]; simp
  have hupn : up.node = (n : Int) := by
    by_cases n0 : n = 0
    · subst n0
      obtain ⟨y, e1, e2, _⟩ := h.bg
      rw [e1] at hup; cases hup; simpa using e2
    · obtain ⟨y, e1, e2, _⟩ := h.each n (by omega) (by omega)
      rw [e1] at hup; cases hup; exact e2
  refine ⟨hw, ?_, h.afts, ?_, ?_, ?_, Nat.le_refl _⟩
  · show (S.σ.add o up.node).ones.length = _
    rw [he]; simp [h.len]
  · obtain ⟨y, e1, e2, e3, e4, e5⟩ := h.bg
    refine ⟨y, ?_, e2, e3, e4, e5⟩
    show (S.σ.add o up.node).ones[0]? = _
    rw [he, List.getElem?_append_left (by rw [h.len]; omega)]; exact e1
  · intro j h1 h2
    show ∃ x, (S.σ.add o up.node).ones[j]? = some x ∧ _
    rw [he]
    by_cases hj : j ≤ n
    · obtain ⟨y, e1, e2, e3, e4⟩ := h.each j h1 hj
      refine ⟨y, by rw [List.getElem?_append_left (by rw [h.len]; omega)]; exact e1, e2, e3, ?_⟩
      rw [e4]; omega
    · have : j = n + 1 := by omega
      subst this
      refine ⟨{ o with node := S.σ.tree.length, timer := -1 }, ?_, by simp [hl], hf, ?_⟩
      · rw [List.getElem?_append_right (by rw [h.len]; omega), h.len]; simp
      · simp [ho]
  · intro j q hq
    have hq' : (S.σ.add o up.node).tree[j]? = some q := hq
    rcases ha.back hq' with ⟨_, q', e1, e2, _⟩ | ⟨e1, e2, _⟩
    · rw [e2]; exact h.par j q' e1
    · rw [e2, hupn, e1, hl]; omega
theorem row_new (t : Option Nat) (τ : Tms) (χ : Nat → Ch) (hτ : τ.x.l.length ≤ 1000000) : Row ⟨Cs.new t, τ, χ⟩ 0 0 := by
  have e : treeAdd [] (-1) false = ([⟨-1, false, []⟩], 0, 0) := by simp [treeAdd]
  have eo : (Cs.new t).ones = [{ One.zero with free := true, timer := -1 }] := by simp [Cs.new, Cs.add, One.zero, e]
  have et : (Cs.new t).tree = [⟨-1, false, []⟩] := by simp [Cs.new, Cs.add, One.zero, e]
  refine ⟨wf_new t τ χ hτ, by simp [eo], rfl, ⟨_, by rw [eo]; rfl, rfl, rfl, rfl, rfl, rfl⟩, fun j h1 h2 => by omega, ?_, Nat.le_refl _⟩
  intro j q hq
  simp only [et] at hq
  cases j with
  | zero => simp at hq; subst hq; rfl
  | succ j => simp at hq
end Go.AM


/- CtxWakes. -/
set_option linter.unusedVariables false
set_option linter.unusedSimpArgs false
namespace Go.AM
variable {N : Nat → Nat} {F : Nat → Option AFn}
/-- the channel of one for whom a task waits -/
def wch (j : Nat) : Ch := { Ch.sg with recvs := [⟨9 + (j : Int), 0, 0⟩] }
structure WkI (c : Nat) (S : CX) (n m : Nat) (K : Lg) : Prop where
  row : Row S n m
  t : S.σ.t = none
  own : K c = some (.abs (CtxP c S.σ))
  out : OutC c S K
  chn : Chans S
  each : ∀ (j : Nat) (x : One), 1 ≤ j → S.σ.ones[j]? = some x → x.has = false ∧ ∃ a, x.c = some a ∧ (j ≤ m → S.χ a = wch j)
theorem WkI.lap {c : Nat} {S : CX} {n : Nat} {K : Lg} (h : WkI c S n n K) {k : Nat} (h1 : 1 ≤ k) (h2 : k ≤ n) (err cause : Int) :
    (walked S.σ.tree err cause (fun _ => false) (List.range' k (n + 1 - k)) (S, [], [])).2.1 = (List.range' k (n + 1 - k)).map fun (j : Nat) => (⟨(j : Int), err, cause, [⟨9 + (j : Int), 0, 0, false, false⟩]⟩ : Lap) := by
  obtain ⟨x, hx, hn, hf, he⟩ := h.row.each k h1 h2
  have hpre := h.row.pre 200 k h2 (by have := h.row.wf.sz; have := h.row.len; omega)
  have hl := h.row.wf.liveAt hx hn hf (he.2 h2) 200
  have hnd := pre_nodup h.row.wf.tr 200 k
  rw [hpre] at hl hnd
  obtain ⟨r1, _⟩ := hits_res (T := S.σ.tree) err cause (List.range' k (n + 1 - k)) (S, [], []) h.row.wf.whos hl hnd h.chn
  show (List.foldl (hitL err cause) (S, [], []) (List.range' k (n + 1 - k))).2.1 = _
  rw [r1, List.nil_append]
  have : ∀ l : List Nat, (∀ j ∈ l, 1 ≤ j ∧ j ≤ n) → l.filterMap (lapOf S err cause) = l.map fun (j : Nat) => (⟨(j : Int), err, cause, [⟨9 + (j : Int), 0, 0, false, false⟩]⟩ : Lap) := by
    intro l
    induction l with
    | nil => intro _; rfl
    | cons j r ih =>
      intro hj
      have hjj := hj j (by simp)
      obtain ⟨y, hy, hyn, _⟩ := h.row.each j hjj.1 hjj.2
      obtain ⟨_, a, ha, hch⟩ := h.each j y hjj.1 hy
      obtain ⟨k', e1, _, e2⟩ := h.row.wf.who1 j y hy
      have : k' = j := by omega
      subst this
      have hlap : lapOf S err cause k' = some ⟨(k' : Int), err, cause, [⟨9 + (k' : Int), 0, 0, false, false⟩]⟩ := by
        unfold lapOf
        have hnn : ¬ ((k' : Int) < 0) := by omega
        simp only [e2, Option.getD_some, hnn, if_false, Int.toNat_natCast, hy, Option.map_some, ha, chW, hch hjj.2]
        rfl
      rw [List.filterMap_cons, hlap, List.map_cons, ih fun x hx => hj x (by simp [hx])]
  refine this _ fun j hj => ?_
  rw [List.mem_range'_1] at hj; omega
theorem ctxWakes_law (code : F (N k_tarpaulinlaw15_CtxWakes) = some (c_tarpaulinlaw15_CtxWakes N)) (aw : F (N k_tarpaulinlaw15_awake) = some kTrue) (h1 : H_ctx_New N F) (h2 : H_ctx_Set_Cancels N F) (h3 : H_ctx_Set_Done N F) (h4 : H_chanq_Chan_Wait N F) (h5 : H_tarpaulinalike_Round N F) (h6 : H_ctx_Set_Cancel N F) (h7 : H_chanq_Chan_Closed N F) (h8 : H_chanq_Chan_Waiting N F)
    (depth at_ cause : Int) : CallL F (N k_tarpaulinlaw15_CtxWakes) [.i .i64 depth, .i .i64 at_, .i .i64 cause] Lg.nil fun v _ => v = .b true := by
  refine CallL.opq ?_
  intro Q hQ
  have fin : ∀ L, fin1 (some (.b true)) Q L := fun L => ⟨L, Sees.refl _, hQ _ _ rfl⟩
  have awk : ∀ L, CallL F (N k_tarpaulinlaw15_awake) [] L fun v17 L17 => fin1 (some v17) Q L17 := by
    intro L
    refine (known2_spec aw _).mono ?_
    rintro _ _ ⟨rfl, rfl⟩
    exact fin _
  apply r_tarpaulinlaw15_CtxWakes code
  unfold D_tarpaulinlaw15_CtxWakes_1 D_tarpaulinlaw15_CtxWakes_2
  by_cases g1 : depth < 1
  · simpa [initE, g1] using awk _
  by_cases g2 : 12 < depth
  · simpa [initE, g1, g2] using awk _
  obtain ⟨d, rfl⟩ := Int.eq_ofNat_of_zero_le (by omega : 0 ≤ depth)
  have gd : (d : Int) ≠ 0 := by omega
  simp [initE, g1, g2]
  first | refine ⟨fun h9 => absurd h9 (by omega), fun _ => ?_⟩ | skip
  unfold D_tarpaulinlaw15_CtxWakes_3
  refine (ctxNew_spec h1 Lg.nil none).mono ?_
  rintro _ _ ⟨c, hc, rfl, rfl⟩
  unfold D_tarpaulinlaw15_CtxWakes_4
  simp
  unfold D_tarpaulinlaw15_CtxWakes_5 D_tarpaulinlaw15_CtxWakes_26 D_tarpaulinlaw15_CtxWakes_28
  obtain ⟨I, hI⟩ : ∃ I : Nat → Env → Lg → Prop, I = fun m E K => ∃ (i : Nat) (S : CX), m + i = d ∧ WkI c S i i K ∧ E 0 = .i .i64 d ∧ E 1 = .i .i64 at_ ∧ E 2 = .i .i64 cause ∧ E 7 = .p (some (c, 0)) ∧ E 8 = .i .i64 i ∧ E 9 = .i .i64 i := ⟨_, rfl⟩
  refine loopW_intro I d ?_ ?_
  · rw [hI]
    refine ⟨0, ⟨Cs.new none, ⟨[], ⟨[], 0, fun _ => none⟩, 0⟩, fun _ => Ch.sg⟩, by omega, ⟨row_new _ _ _ (by simp), rfl, Lg.put_same _ _ _, ⟨fun s hs => (by cases hs), ?_⟩, ?_, ?_⟩, by simp, by simp, by simp, by simp, by simp, by simp⟩
    · intro o ho a ha
      have : o ∈ ([{ One.zero with free := true, timer := -1 }] : List One) := ho
      simp at this; subst this; cases ha
    · intro i j x y a hx hy h1 h2
      have hx' : ([{ One.zero with free := true, timer := -1 }] : List One)[i]? = some x := hx
      cases i with
      | zero => simp at hx'; subst hx'; cases h1
      | succ i => simp at hx'
    · intro j x hj hx
      have hx' : ([{ One.zero with free := true, timer := -1 }] : List One)[j]? = some x := hx
      cases j with
      | zero => omega
      | succ i => simp at hx'
  intro m E t K hi
  rw [hI] at hi
  obtain ⟨i, S, hm, w, e0, e1, e2, e7, e8, e9⟩ := hi
  unfold D_tarpaulinlaw15_CtxWakes_29
  rw [e9, e0]
  simp only [mark_eq, wp_lss, condW_d]
  refine ⟨fun hlt => ?_, fun hnl => ?_⟩
  · have hid : i < d := by omega
    unfold D_tarpaulinlaw15_CtxWakes_33
    rw [e7, e8]
    have hil : i < S.σ.ones.length := by rw [w.row.len]; omega
    have hup : S.σ.ones[i]? = some S.σ.ones[i] := List.getElem?_eq_getElem hil
    generalize hupd : S.σ.ones[i] = up at hup
    have herr : up.err = 0 := by
      by_cases i0 : i = 0
      · subst i0; obtain ⟨y, q1, q2, q3, q4, _⟩ := w.row.bg; rw [hup] at q1; cases q1; exact q4
      · obtain ⟨y, q1, _, _, q4⟩ := w.row.each i (by omega) (by omega); rw [hup] at q1; cases q1; exact q4.2 (Nat.le_refl _)
    have hlen64 : S.σ.ones.length < 64 := by rw [w.row.len]; omega
    have hcp := fun a => w.row.wf.cancelsP hup hlen64 herr a
    refine (cancels_spec h2 (S := S) (fun a _ => ⟨_, (hcp a).1⟩) w.own w.out).mono ?_
    rintro _ L2 ⟨a, r, v1, v2, sts, haK, hr, rfl, hdone, hres⟩
    rw [(hcp a).1] at hr
    cases hr
    have haK' := haK (w.row.wf.room hup hlen64)
    simp only [mark_eq, wp_ext, List.getElem?_cons_zero, List.getElem?_cons_succ, retL_some]
    unfold D_tarpaulinlaw15_CtxWakes_34
    simp only [Env.put_apply]
    simp [e7]
    have hlo : (S.addS { One.zero with when := up.when, has := up.has } up.node a).σ.ones = S.σ.ones ++ [{ ({ ({ One.zero with when := up.when, has := up.has } : One) with c := some a } : One) with node := S.σ.tree.length, timer := -1 }] := by
      have := (w.row.wf.add (o := { ({ One.zero with when := up.when, has := up.has } : One) with c := some a }) (χ' := updC S.χ a .sg) hup hlen64 rfl (fun b n hb => updC_sizes _ _ _ _ hb) (fun b hb => by simp at hb; subst hb; simp [updC, Ch.sg])).2.1
      exact this
    generalize hS1 : S.addS { One.zero with when := up.when, has := up.has } up.node a = S1 at hdone hlo hcp
    have hone : S1.σ.one (S.σ.ones.length : Int) = some { ({ ({ One.zero with when := up.when, has := up.has } : One) with c := some a } : One) with node := S.σ.tree.length, timer := -1 } := by
      have hh : S1.σ.has (S.σ.ones.length : Int) = true := by unfold Cs.has; rw [hlo]; simp; omega
      simp only [Cs.one, hh, if_true, Int.toNat_natCast]
      rw [hlo]; simp
    have hhas : S1.σ.has (S.σ.ones.length : Int) = true := by unfold Cs.has; rw [hlo]; simp; omega
    refine (ctxDone_spec h3 hdone.own _).mono ?_
    rintro _ K' ⟨rfl, rfl⟩
    rw [hone, hhas]
    have hli : (S.σ.ones.length : Int) = (i : Int) + 1 := by rw [w.row.len]; omega
    have w1 : wr .i64 ((i : Int) + 1) = (i : Int) + 1 := wr_id (by omega) (by omega)
    have w2 : wr .i64 (10 + (i : Int)) = 10 + (i : Int) := wr_id (by omega) (by omega)
    simp [hli, w1, w2, e9, ptr]
    have hmem : ∃ o ∈ S1.σ.ones, o.c = some a := ⟨_, by rw [hlo]; simp; exact .inr rfl, rfl⟩
    have hach : K' a = some (.abs (ChanP a Ch.sg)) := by
      obtain ⟨o, ho, hoc⟩ := hmem
      have := (hdone.out.chs o ho a hoc).2.2
      rw [this, ← hS1]; simp [CX.addS, updC]
    simp [fillP, splice, ble_nat, beq_nat, AV.cellsOf]
    have hagg : AV.agg [.i .i64 (10 + (i : Int)), .i .i64 0, .i .i64 0] = (⟨10 + (i : Int), 0, 0⟩ : Wt).av := rfl
    rw [hagg]
    refine (wait_spec h4 hach ⟨10 + (i : Int), 0, 0⟩ false (by simp [Ch.wait, Ch.sg]) (by simp [Ch.wait, Ch.sg])).mono ?_
    rintro _ L3 ⟨rfl, rfl⟩
    have hwt : Ch.sg.waits ⟨10 + (i : Int), 0, 0⟩ false = (wch (i + 1), 0) := by
      have : (9 : Int) + ((i + 1 : Nat) : Int) = 10 + (i : Int) := by omega
      simp [Ch.waits, Ch.sg, Ch.mute, Ch.free, Ch.wait, wch]; omega
    rw [hwt]
    simp
    unfold D_tarpaulinlaw15_CtxWakes_31
    simp only [Env.put_apply]
    simp [e9, w1]
    rw [hI]
    have hχ : ∀ (b n : Nat), (S.χ b).recvs.length + (S.χ b).sends.length ≤ n → (updC S.χ a (wch (i + 1)) b).recvs.length + (updC S.χ a (wch (i + 1)) b).sends.length ≤ n ∨ b = a := by
      intro b n hb
      by_cases e : b = a
      · exact .inr e
      · left; simpa [updC, e] using hb
    have hadd := w.row.wf.add (o := { ({ One.zero with when := up.when, has := up.has } : One) with c := some a }) (χ' := updC S.χ a .sg) hup hlen64 rfl (fun b n hb => updC_sizes _ _ _ _ hb) (fun b hb => by simp at hb; subst hb; simp [updC, Ch.sg])
    have hrow := w.row.more (by omega) hup rfl rfl hadd.1 hadd.2.2.1 hadd.2.1
    have hS1' : S1 = { S with σ := S.σ.add { ({ One.zero with when := up.when, has := up.has } : One) with c := some a } up.node, χ := updC S.χ a .sg } := by rw [← hS1]; rfl
    rw [← hS1'] at hrow
    have hnew : ∀ (j : Nat) (x : One) (b : Nat), S.σ.ones[j]? = some x → x.c = some b → b ≠ a := by
      rintro j x b hx hb rfl
      have := (w.out.chs x (List.mem_of_getElem? hx) b hb).2.2
      rw [haK'] at this; cases this
    have hget : ∀ (j : Nat) (x : One), S1.σ.ones[j]? = some x → (j ≤ i ∧ S.σ.ones[j]? = some x) ∨ (j = i + 1 ∧ x = { ({ ({ One.zero with when := up.when, has := up.has } : One) with c := some a } : One) with node := S.σ.tree.length, timer := -1 }) := by
      intro j x hx
      rw [hlo] at hx
      by_cases hj : j < S.σ.ones.length
      · rw [List.getElem?_append_left hj] at hx; rw [w.row.len] at hj; exact .inl ⟨by omega, hx⟩
      · rw [List.getElem?_append_right (by omega)] at hx
        have hz : j - S.σ.ones.length = 0 := by
          rcases Nat.eq_zero_or_pos (j - S.σ.ones.length) with h9 | h9
          · exact h9
          · rw [List.getElem?_eq_none (by simp; omega)] at hx; cases hx
        rw [hz] at hx; simp at hx
        exact .inr ⟨by rw [w.row.len] at hz hj; omega, hx.symm⟩
    refine ⟨m - 1, by omega, i + 1, { S1 with χ := updC S1.χ a (wch (i + 1)) }, by omega, ⟨?_, ?_, ?_, hdone.out.chan hmem _, ?_, ?_⟩, by simp [e0], by simp [e1], by simp [e2], by simp [e7], by simp [hli], by simp⟩
    · refine ⟨⟨hrow.wf.tr, hrow.wf.sz, hrow.wf.len, hrow.wf.who1, hrow.wf.who2, hrow.wf.cover, hrow.wf.live, ?_, hrow.wf.tms, hrow.wf.tlen⟩, hrow.len, hrow.afts, hrow.bg, hrow.each, hrow.par, hrow.mn⟩
      intro x hx b hb
      by_cases e : b = a
      · subst e; simp [updC, wch, Ch.sg]
      · simpa [updC, e] using hrow.wf.chs x hx b hb
    · show S1.σ.t = none
      rw [hS1']; exact w.t
    · rw [Lg.put_ne]; exact hdone.own
      rintro rfl; rw [hdone.own] at hach; simp [CtxP] at hach
      exact absurd hach (by intro h9; obtain ⟨o, ho, hoc⟩ := hmem; exact (hdone.out.chs o ho _ hoc).1 rfl)
    · intro j1 j2 x y b hx hy hb1 hb2
      rcases hget j1 x hx with ⟨_, k1⟩ | ⟨k1, rfl⟩ <;> rcases hget j2 y hy with ⟨_, k2⟩ | ⟨k2, rfl⟩
      · exact w.chn j1 j2 x y b k1 k2 hb1 hb2
      · simp at hb2; exact absurd hb2.symm (hnew j1 x b k1 hb1)
      · simp at hb1; exact absurd hb1.symm (hnew j2 y b k2 hb2)
      · omega
    · intro j x hj hx
      rcases hget j x hx with ⟨k0, k1⟩ | ⟨k1, rfl⟩
      · obtain ⟨q1, b, q2, q3⟩ := w.each j x hj k1
        have hba := hnew j x b k1 q2
        refine ⟨q1, b, q2, fun _ => ?_⟩
        have : S1.χ b = S.χ b := by rw [hS1']; simp [updC, hba]
        simp [updC, hba, this, q3 (by omega)]
      · refine ⟨?_, a, rfl, fun _ => by subst k1; simp [updC]⟩
        by_cases i0 : i = 0
        · subst i0
          obtain ⟨y, q1, _, _, _, _, q6⟩ := w.row.bg
          rw [hup] at q1; cases q1; exact q6
        · exact (w.each i up (by omega) hup).1
  · have hid : i = d := by omega
    subst hid
    clear hI hnl hm I
    unfold D_tarpaulinlaw15_CtxWakes_7
    rw [e1, e0]
    have hd0 : (0 : Int) < (i : Int) := by omega
    refine (round_spec h5 at_ i hd0 (by omega) _).mono ?_
    rintro _ K' ⟨rfl, rfl⟩
    have hq0 := Int.emod_nonneg at_ (by omega : (i : Int) ≠ 0)
    have hq1 := Int.emod_lt_of_pos at_ hd0
    obtain ⟨q, hq⟩ := Int.eq_ofNat_of_zero_le hq0
    rw [hq] at hq1 ⊢
    have w1 : wr .i64 (1 + (q : Int)) = ((q + 1 : Nat) : Int) := by rw [wr_id (by omega) (by omega)]; omega
    simp only [mark_eq, wp_add, w1]
    have hk1 : 1 ≤ q + 1 := by omega
    have hk2 : q + 1 ≤ i := by omega
    obtain ⟨k, hk⟩ : ∃ k, k = q + 1 := ⟨_, rfl⟩
    rw [← hk] at hk1 hk2 ⊢
    unfold D_tarpaulinlaw15_CtxWakes_8
    simp only [Env.put_apply]
    simp [e7, e2]
    obtain ⟨cs, hcs⟩ : ∃ cs, cs = max cause 1 := ⟨_, rfl⟩
    obtain ⟨r, hr1, hr2, hr3, hr4, hr5, hr6⟩ := w.row.cancel hk1 hk2 (err := 1) (cause := cs) (by omega)
    obtain ⟨x, hx, hxn, hxf, hxe⟩ := w.row.each k hk1 hk2
    have hhask : S.σ.has k = true := by unfold Cs.has; rw [w.row.len]; simp; omega
    have hcx : S.cancelX k cause = some (r.1, r.2.1, r.2.2, 0) := by
      unfold CX.cancelX
      rw [if_neg (by simp [hhask])]
      simp only [Int.toNat_natCast, hx, hxf]
      have : (if cause < 1 then 1 else cause) = cs := by rw [hcs]; split <;> omega
      rw [this, hr1]; rfl
    refine (cancelX_spec h6 hcx w.own w.out).mono ?_
    rintro _ K2 ⟨v1, v2, rfl, hdone, ps, hps, hres⟩
    have hlap := w.lap hk1 hk2 1 cs
    rw [← hr2] at hlap
    simp only at hps hres
    rw [hlap] at hps
    have hpl : ps.length = i + 1 - k := by have := congrArg List.length hps; simpa using this
    simp only [mark_eq, wp_ext, List.getElem?_cons_zero, List.getElem?_cons_succ, retL_some]
    unfold D_tarpaulinlaw15_CtxWakes_9
    have wS : wr .i64 ((i : Int) - (k : Int)) = (i : Int) - (k : Int) := wr_id (by omega) (by omega)
    have wS2 : wr .i64 ((i : Int) - (k : Int) + 1) = (i : Int) - (k : Int) + 1 := wr_id (by omega) (by omega)
    have hne : (ps.length : Int) = (i : Int) - (k : Int) + 1 := by omega
    simp [hres.o1.len, e0, wS, wS2, hne]
    unfold D_tarpaulinlaw15_CtxWakes_17 D_tarpaulinlaw15_CtxWakes_19
    generalize hE0 : (Env.put (Env.put (Env.put (Env.put E 15 (.i .i64 k)) 16 v1) 18 (.i .i64 0)) 19 (.i .i64 0)) = E0
    have f2 : E0 2 = .i .i64 cause := by rw [← hE0]; simpa using e2
    have f7 : E0 7 = .p (some (c, 0)) := by rw [← hE0]; simpa using e7
    have f15 : E0 15 = .i .i64 k := by rw [← hE0]; simp
    have f16 : E0 16 = v1 := by rw [← hE0]; simp
    have f19 : E0 19 = .i .i64 (0 : Nat) := by rw [← hE0]; simp
    clear hE0
    obtain ⟨I, hI⟩ : ∃ I : Nat → Env → Lg → Prop, I = fun m E K => ∃ j : Nat, m + j = ps.length ∧ K = K2 ∧ E 2 = .i .i64 cause ∧ E 7 = .p (some (c, 0)) ∧ E 15 = .i .i64 k ∧ E 16 = v1 ∧ E 19 = .i .i64 j := ⟨_, rfl⟩
    refine loopW_intro I ps.length ?_ ?_
    · rw [hI]; exact ⟨0, by omega, rfl, f2, f7, f15, f16, f19⟩
    intro m E t K hi
    rw [hI] at hi
    obtain ⟨j, hm, rfl, b2, b7, b15, b16, b19⟩ := hi
    unfold D_tarpaulinlaw15_CtxWakes_20
    rw [b16, b19]
    simp only [mark_eq, hres.o1.len, wp_lss, condW_d]
    refine ⟨fun hlt => ?_, fun hnl => ?_⟩
    · have hj : j < ps.length := by omega
      have hp : ps[j]? = some ps[j] := List.getElem?_eq_getElem hj
      have hp1 : (ps[j]).1 = ⟨((k + j : Nat) : Int), 1, cs, [⟨9 + ((k + j : Nat) : Int), 0, 0, false, false⟩]⟩ := by
        have := congrArg (fun l => l[j]?) hps
        simp only [List.getElem?_map, hp, Option.map_some] at this
        rw [List.getElem?_range' (by omega)] at this
        simp at this
        rw [this]; simp
      generalize ps[j] = p at hp hp1
      obtain ⟨b, q1, q2, q3⟩ := hres.get (F := F) hp
      have hin := (hres.ins p (List.mem_of_getElem? hp)).1
      have c0 := q3 K rfl 0 (by omega)
      have c1 := q3 K rfl 1 (by omega)
      have c2 := q3 K rfl 2 (by omega)
      have c3 := q3 K rfl 3 (by omega)
      simp only [lapc, hp1, List.getElem?_cons_zero, List.getElem?_cons_succ, Nat.add_zero] at c0 c1 c2 c3
      rw [hp1] at hin
      simp only at hin
      rcases hin with ⟨h9, _⟩ | ⟨b', ex', hs1, hs2⟩
      · cases h9
      simp only [List.length_singleton] at hs1
      unfold D_tarpaulinlaw15_CtxWakes_24
      rw [b16, b19, b15, b2]
      have wj : wr .i64 ((k : Int) + (j : Int)) = (k : Int) + (j : Int) := wr_id (by omega) (by omega)
      have w9 : wr .i64 (9 + (k : Int)) = 9 + (k : Int) := wr_id (by omega) (by omega)
      have w9j : wr .i64 (9 + (k : Int) + (j : Int)) = 9 + (k : Int) + (j : Int) := wr_id (by omega) (by omega)
      have e5 : wpOp F (.iad 5) [.sl (some (b', 0)) 1 1 ex', .i .i64 0] = fun (L : Lg) (k : AV → Lg → Prop) => k (.p (some (b', 0))) L := by
        funext L k
        have := wp_iad F L k 5 b' 0 1 1 ex' .i64 0 (by omega) (by omega)
        simpa using this
      have rk : rdL K (b', 0) (some 5) = some (.agg [.i .i64 (9 + ((k : Int) + (j : Int))), .i .i64 0, .i .i64 0, .b false, .b false]) := by
        rw [rdL_cells hs2 (by simp [wkcells, Wk.cells])]
        simp [wkcells, Wk.cells]
      rw [show (9 : Int) + ((k : Int) + (j : Int)) = 9 + (k : Int) + (j : Int) by omega] at rk
      have he : ∀ n : Int, eqAt [.i .i64 n, .i .i64 0, .i .i64 0, .b false, .b false] [.i .i64 n, .i .i64 0, .i .i64 0, .b false, .b false] [(0, 1), (1, 1), (2, 1), (3, 0), (4, 0)] = some true := by
        intro n
        simp [eqAt, eqOne, iEq_eq]
      simp [q2, c0, c1, c2, c3, wj, hs1, e5, rk, w9, w9j, fillP, splice, ble_nat, beq_nat, AV.cellsOf, wp_eqagg, he, ← hcs]
      unfold D_tarpaulinlaw15_CtxWakes_25
      simp
      unfold D_tarpaulinlaw15_CtxWakes_22
      have w19 : wr .i64 ((j : Int) + 1) = ((j + 1 : Nat) : Int) := by rw [wr_id (by omega) (by omega)]; omega
      simp only [mark_eq, b19, wp_add, w19]
      rw [hI]
      exact ⟨m - 1, by omega, j + 1, by omega, rfl, by simp [b2], by simp [b7], by simp [b15], by simp [b16], by simp⟩
    · clear hI hm hnl I
      unfold D_tarpaulinlaw15_CtxWakes_13 D_tarpaulinlaw15_CtxWakes_15
      generalize hE0 : Env.put E 20 (.i .i64 1) = E0
      have d7 : E0 7 = .p (some (c, 0)) := by rw [← hE0]; simpa using b7
      have d15 : E0 15 = .i .i64 k := by rw [← hE0]; simpa using b15
      have d20 : E0 20 = .i .i64 (1 : Nat) := by rw [← hE0]; simp
      clear hE0 f2 f7 f15 f16 f19
      obtain ⟨I, hI⟩ : ∃ I : Nat → Env → Lg → Prop, I = fun m E K => ∃ j : Nat, m + j = k ∧ 1 ≤ j ∧ K c = some (.abs (CtxP c r.1.σ)) ∧ OutC c r.1 K ∧ E 7 = .p (some (c, 0)) ∧ E 15 = .i .i64 k ∧ E 20 = .i .i64 j := ⟨_, rfl⟩
      refine loopW_intro I (k - 1) ?_ ?_
      · rw [hI]; exact ⟨1, by omega, Nat.le_refl _, hdone.own, hdone.out, d7, d15, d20⟩
      clear hdone hres d7 d15 d20 E0 b2 b7 b15 b16 b19
      intro m E t K hi
      rw [hI] at hi
      obtain ⟨j, hm, hj1, hown, hout, x7, x15, x20⟩ := hi
      unfold D_tarpaulinlaw15_CtxWakes_16
      rw [x7, x15, x20]
      simp only [mark_eq, wp_lss, condW_d]
      refine ⟨fun hlt => ?_, fun hnl => ?_⟩
      · have hjk : j < k := by omega
        obtain ⟨y, hy, hyn, _⟩ := w.row.each j hj1 (by omega)
        obtain ⟨_, a, ha, hch⟩ := w.each j y hj1 hy
        have hy' : r.1.σ.ones[j]? = some y := by rw [hr6 j y hy, if_neg (by omega)]
        have hhasj : r.1.σ.has (j : Int) = true := by unfold Cs.has; rw [hr3.len]; simp; omega
        have honej : r.1.σ.one (j : Int) = some y := by simp only [Cs.one, hhasj, if_true, Int.toNat_natCast]; exact hy'
        have hχ : r.1.χ a = wch j := by
          rw [← hch (by omega), hr2]
          show (List.foldl (hitL 1 cs) (S, [], []) (List.range' k (i + 1 - k))).1.χ a = _
          have hpre := w.row.pre 200 k hk2 (by omega)
          have hl := w.row.wf.liveAt hx hxn hxf (hxe.2 hk2) 200
          have hnd := pre_nodup w.row.wf.tr 200 k
          rw [hpre] at hl hnd
          refine hits_chi (T := S.σ.tree) 1 cs a _ (S, [], []) w.row.wf.whos hl hnd ?_
          intro j2 hj2 i2 z hz1 hz2 hz3
          have := w.chn j i2 y z a hy hz2 ha hz3
          subst this
          rw [List.mem_range'_1] at hj2
          obtain ⟨k', p1, _, p2⟩ := w.row.wf.who1 j y hy
          obtain ⟨z', p3, p4, _⟩ := w.row.each j2 (by omega) (by omega)
          obtain ⟨k3, p5, _, p6⟩ := w.row.wf.who1 j2 z' p3
          have : k3 = j2 := by omega
          subst this
          rw [hz1] at p6; simp at p6; omega
        have hKa : K a = some (.abs (ChanP a (wch j))) := by
          have := (hout.chs y (List.mem_of_getElem? hy') a ha).2.2
          rw [this, hχ]
        refine (ctxDone_spec h3 hown _).mono ?_
        rintro _ K' ⟨rfl, rfl⟩
        rw [honej, hhasj]
        simp [ha, ptr]
        refine (chClosed_spec h7 hKa).mono ?_
        rintro _ K3 ⟨rfl, rfl⟩
        have hcl : (wch j).closed = false := rfl
        simp [hcl]
        refine (waiting_spec h8 hKa false).mono ?_
        intro v K4 hv
        have hw1 : (wch j).wait false = [⟨9 + (j : Int), 0, 0⟩] := rfl
        rw [hw1] at hv
        rcases hv with ⟨h9, _⟩ | ⟨b, ex, hb, _, rfl, _, rfl⟩
        · simp at h9
        · have w20 : wr .i64 ((j : Int) + 1) = ((j + 1 : Nat) : Int) := by rw [wr_id (by omega) (by omega)]; omega
          simp [w20]
          rw [hI]
          refine ⟨m - 1, by omega, j + 1, by omega, by omega, ?_, hout.put hb _, by simp [x7], by simp [x15], by simp⟩
          rw [Lg.put_ne]; exact hown
          rintro rfl; rw [hb] at hown; cases hown
      · unfold D_tarpaulinlaw15_CtxWakes_12
        exact awk _
end Go.AM

