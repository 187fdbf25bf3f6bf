/- The texts LibCtxL, LibCtxM, LibCtxN, LibCtxO, LibCtxP, LibLaw, LawCtxForest, LawCtxFalls of a proof of CtxFalls, merged. -/
import Derived.Test.YtddabelahpdekaaCtxFallsG4
/- ctx: what cancel does, as a walk down the tree; in plain Lean. -/
set_option linter.unusedVariables false
set_option linter.unusedSimpArgs false
namespace Go.AM
theorem pre_up {ns : List Nd} : ∀ (f k i : Nat), i ∈ pre ns f k → i ≠ k → ∃ n, ns[i]? = some n ∧ n.linked = true ∧ n.parent.toNat ∈ pre ns f k ∧ 0 ≤ n.parent ∨ False
  | 0, k, i, h, _ => by simp [pre] at h
  | f + 1, k, i, h, hik => by
    have h' := h
    simp only [pre, List.mem_cons, List.mem_flatMap] at h
    rcases h with h | ⟨j, hj, hi⟩
    · exact absurd h hik
    · by_cases e : i = j
      · subst e
        obtain ⟨n, h1, h2, h3⟩ := kidsOf_mem.1 hj
        exact ⟨n, .inl ⟨h1, h2, by rw [h3]; simp [pre], by omega⟩⟩
      · obtain ⟨n, h1⟩ := pre_up f j i hi e
        rcases h1 with ⟨h1, h2, h3, h4⟩ | h1
        · refine ⟨n, .inl ⟨h1, h2, ?_, h4⟩⟩
          simp only [pre, List.mem_cons, List.mem_flatMap]
          exact .inr ⟨j, hj, h3⟩
        · exact h1.elim
theorem pre_apart {ns : List Nd} (ht : TreeOk ns) {k j1 j2 : Nat} (h1 : j1 ∈ kidsOf ns (k : Int)) (h2 : j2 ∈ kidsOf ns (k : Int)) (hlt : j1 < j2) (f g : Nat) : ∀ i, i ∈ pre ns f j1 → i ∈ pre ns g j2 → False := by
  intro i
  induction i using Nat.strongRecOn with
  | ind i ih =>
    intro hi1 hi2
    have hg := (pre_ge ht _ _ _ hi2).1
    obtain ⟨n, hn⟩ := pre_up f j1 i hi1 (by omega)
    rcases hn with ⟨n1, n2, n3, n4⟩ | hn
    case inr => exact hn
    by_cases e : i = j2
    · subst e
      obtain ⟨m, m1, m2, m3⟩ := kidsOf_mem.1 h2
      rw [n1] at m1; cases m1
      rw [m3] at n3
      have := (pre_ge ht _ _ _ n3).1
      have := kidsOf_lt ht h1
      simp at *
      omega
    · obtain ⟨m, hm⟩ := pre_up g j2 i hi2 e
      rcases hm with ⟨m1, m2, m3, m4⟩ | hm
      case inr => exact hm
      rw [n1] at m1; cases m1
      have := ht.par i n n1 n2
      exact ih n.parent.toNat (by omega) n3 m3
theorem pre_nodup {ns : List Nd} (ht : TreeOk ns) : ∀ (f k : Nat), (pre ns f k).Nodup
  | 0, _ => by simp [pre]
  | f + 1, k => by
    simp only [pre, List.nodup_cons]
    refine ⟨?_, ?_⟩
    · intro h
      obtain ⟨j, hj, hk⟩ := List.mem_flatMap.1 h
      have h1 := kidsOf_lt ht hj
      have h2 := (pre_ge ht _ _ _ hk).1
      omega
    · unfold List.Nodup
      rw [List.pairwise_flatMap]
      refine ⟨fun j hj => pre_nodup ht f j, ?_⟩
      have hs : (kidsOf ns (k : Int)).Pairwise (fun a b => a < b) := List.Pairwise.sublist List.filter_sublist List.pairwise_lt_range
      refine hs.imp_of_mem ?_
      intro a b ha hb hab x hx y hy e
      subst e
      exact pre_apart ht ha hb hab _ _ x hx hy
theorem nodup_len : ∀ (n : Nat) (l : List Nat), l.Nodup → (∀ x ∈ l, x < n) → l.length ≤ n
  | 0, l, _, h => by
    cases l with
    | nil => simp
    | cons a r => have := h a (by simp); omega
  | n + 1, l, hn, h => by
    have h1 : (l.filter fun x => decide (x ≠ n)).length ≤ n := by
      refine nodup_len n _ (hn.sublist List.filter_sublist) ?_
      intro x hx
      simp at hx
      have := h x hx.1
      omega
    have h2 : l.length ≤ (l.filter fun x => decide (x ≠ n)).length + 1 := by
      by_cases hm : n ∈ l
      · have := List.nodup_iff_count.1 hn n
        have h3 : (l.filter fun x => decide (x ≠ n)).length + l.count n = l.length := by
          rw [← List.countP_eq_length_filter, List.count_eq_countP]
          have := List.length_eq_countP_add_countP (fun x => decide (x ≠ n)) (l := l)
          rw [this]
          congr 1
          apply List.countP_congr
          intro x _
          simp
        omega
      · have : (l.filter fun x => decide (x ≠ n)) = l := List.filter_eq_self.2 fun x hx => by simp; rintro rfl; exact hm hx
        rw [this]; omega
    omega
theorem pre_len {ns : List Nd} (ht : TreeOk ns) (f : Nat) {k : Nat} (hk : k < ns.length) : (pre ns f k).length ≤ ns.length :=
  nodup_len _ _ (pre_nodup ht f k) fun x hx => (pre_ge ht _ _ _ hx).2 hk
/-! ### one is hit -/
def CX.endT (S : CX) : Option Nat → CX × List Wk
  | none => (S, [])
  | some a => ({ S with χ := updC S.χ a (S.χ a).endS.1 }, (S.χ a).endS.2)
def CX.stopT (S : CX) (id : Int) : CX := match S.σ.t with
  | none => S
  | some _ => match S.τ.one id with
    | none => S
    | some _ => { S with τ := { S.τ with x := S.τ.x.stop id } }
def hitL (err cause : Int) (acc : CRes) (node : Nat) : CRes :=
  let w := (acc.1.σ.who node).getD 0
  if w < 0 then match acc.1.σ.afts[(-w - 1).toNat]? with
    | some x => ({ acc.1 with σ := { acc.1.σ with afts := acc.1.σ.afts.set (-w - 1).toNat { x with over := true } } }, acc.2.1, acc.2.2 ++ [(-w - 1, x.prog)])
    | none => acc
  else match acc.1.σ.ones[w.toNat]? with
    | some x =>
      let r := (acc.1.setOne w.toNat { x with err := err, cause := cause }).endT x.c
      (r.1.stopT x.timer, acc.2.1 ++ [⟨w, err, cause, r.2⟩], acc.2.2)
    | none => acc
theorem endT_tree (S : CX) (a : Option Nat) (ns : List Nd) : (S.setTree ns).endT a = ((S.endT a).1.setTree ns, (S.endT a).2) := by cases a <;> rfl
theorem stopT_tree (S : CX) (id : Int) (ns : List Nd) : (S.setTree ns).stopT id = (S.stopT id).setTree ns := by
  have e1 : (S.setTree ns).σ.t = S.σ.t := rfl
  have e2 : (S.setTree ns).τ = S.τ := rfl
  unfold CX.stopT
  rw [e1, e2]
  cases S.σ.t with
  | none => rfl
  | some s => simp only []; cases S.τ.one id <;> rfl
theorem hitL_tree (err cause : Int) (S : CX) (out : List Lap) (sts : List (Int × Int)) (node : Nat) (ns : List Nd) :
    hitL err cause (S.setTree ns, out, sts) node = ((hitL err cause (S, out, sts) node).1.setTree ns, (hitL err cause (S, out, sts) node).2) := by
  have e1 : (S.setTree ns).σ.who = S.σ.who := rfl
  have e2 : (S.setTree ns).σ.afts = S.σ.afts := rfl
  have e3 : (S.setTree ns).σ.ones = S.σ.ones := rfl
  unfold hitL
  simp only [e1, e2, e3]
  split
  · split <;> rfl
  · split
    · rename_i x hx
      have e4 : ∀ i o, (S.setTree ns).setOne i o = (S.setOne i o).setTree ns := fun _ _ => rfl
      rw [e4, endT_tree]
      simp only [stopT_tree]
    · rfl
theorem hits_tree (err cause : Int) (ns : List Nd) : ∀ (l : List Nat) (S : CX) (out : List Lap) (sts : List (Int × Int)), l.foldl (hitL err cause) (S.setTree ns, out, sts) = ((l.foldl (hitL err cause) (S, out, sts)).1.setTree ns, (l.foldl (hitL err cause) (S, out, sts)).2)
  | [], _, _, _ => rfl
  | a :: r, S, out, sts => by
    simp only [List.foldl_cons]
    rw [hitL_tree]
    generalize hitL err cause (S, out, sts) a = x
    obtain ⟨x1, x2, x3⟩ := x
    exact hits_tree err cause ns r x1 x2 x3
theorem hitL_out (err cause : Int) (S : CX) (out : List Lap) (sts : List (Int × Int)) (node : Nat) :
    hitL err cause (S, out, sts) node = ((hitL err cause (S, [], []) node).1, out ++ (hitL err cause (S, [], []) node).2.1, sts ++ (hitL err cause (S, [], []) node).2.2) := by
  unfold hitL
  simp only
  split
  · split <;> simp
  · split <;> simp
theorem hits_out (err cause : Int) : ∀ (l : List Nat) (S : CX) (out : List Lap) (sts : List (Int × Int)), l.foldl (hitL err cause) (S, out, sts) = ((l.foldl (hitL err cause) (S, [], [])).1, out ++ (l.foldl (hitL err cause) (S, [], [])).2.1, sts ++ (l.foldl (hitL err cause) (S, [], [])).2.2)
  | [], _, _, _ => by simp
  | a :: r, S, out, sts => by
    simp only [List.foldl_cons]
    rw [hitL_out]
    generalize hitL err cause (S, [], []) a = x
    obtain ⟨x1, x2, x3⟩ := x
    simp only
    rw [hits_out err cause r x1 (out ++ x2), hits_out err cause r x1 x2]
    simp
/-- one that may be hit -/
def LiveAt (T : List Nd) (S : CX) (i : Nat) : Prop :=
  (∃ (w : Nat) (x : One), S.σ.who i = some (w : Int) ∧ S.σ.ones[w]? = some x ∧ x.node = i ∧ x.free = false ∧ x.err = 0 ∧ (∀ a, x.c = some a → (S.χ a).recvs.length + (S.χ a).sends.length ≤ 1000000) ∧ (∀ s o, S.σ.t = some s → S.τ.one x.timer = some o → o.c = none)) ∨
  (∃ (k : Nat) (x : Aft), S.σ.who i = some (-(k : Int) - 1) ∧ k ≤ 1000 ∧ S.σ.afts[k]? = some x ∧ x.node = i ∧ kidsOf T (i : Int) = [])
theorem rmId_len (id : Int) (l : List It) : (rmId id l).length ≤ l.length := List.length_filter_le _ _
theorem stopT_len (S : CX) (id : Int) : (S.stopT id).τ.x.l.length ≤ S.τ.x.l.length := by
  unfold CX.stopT
  cases S.σ.t with
  | none => exact Nat.le_refl _
  | some s =>
    simp only []
    cases S.τ.one id with
    | none => exact Nat.le_refl _
    | some o => exact rmId_len _ _
theorem stopT_facts (S : CX) (id : Int) : (S.stopT id).σ = S.σ ∧ (S.stopT id).χ = S.χ ∧ (S.stopT id).τ.ones = S.τ.ones := by
  unfold CX.stopT
  cases S.σ.t with
  | none => exact ⟨rfl, rfl, rfl⟩
  | some s =>
    simp only []
    cases S.τ.one id <;> exact ⟨rfl, rfl, rfl⟩
theorem endT_facts (S : CX) (a : Option Nat) : (S.endT a).1.σ = S.σ ∧ (S.endT a).1.τ = S.τ ∧ ∀ b n, (S.χ b).recvs.length + (S.χ b).sends.length ≤ n → ((S.endT a).1.χ b).recvs.length + ((S.endT a).1.χ b).sends.length ≤ n := by
  cases a with
  | none => exact ⟨rfl, rfl, fun _ _ h => h⟩
  | some a =>
    refine ⟨rfl, rfl, fun b n h => ?_⟩
    simp only [CX.endT, updC]
    split
    · rename_i e; subst e
      unfold Ch.endS
      split
      · simp [Ch.ended]
      · exact h
    · exact h
/-- what a hit keeps -/
theorem hitL_keeps (err cause : Int) (acc : CRes) (i : Nat) : (hitL err cause acc i).1.σ.who = acc.1.σ.who ∧ (hitL err cause acc i).1.σ.tree = acc.1.σ.tree ∧ (hitL err cause acc i).1.σ.t = acc.1.σ.t ∧ (hitL err cause acc i).1.τ.ones = acc.1.τ.ones ∧ (hitL err cause acc i).1.τ.x.l.length ≤ acc.1.τ.x.l.length ∧
    (∀ b n, (acc.1.χ b).recvs.length + (acc.1.χ b).sends.length ≤ n → ((hitL err cause acc i).1.χ b).recvs.length + ((hitL err cause acc i).1.χ b).sends.length ≤ n) ∧ (hitL err cause acc i).2.1.length ≤ acc.2.1.length + 1 ∧ (hitL err cause acc i).2.2.length ≤ acc.2.2.length + 1 := by
  unfold hitL
  simp only
  split
  · split <;> simp
  · split
    · rename_i x hx
      have h1 := stopT_facts ((acc.1.setOne ((acc.1.σ.who i).getD 0).toNat { x with err := err, cause := cause }).endT x.c).1 x.timer
      have h2 := endT_facts (acc.1.setOne ((acc.1.σ.who i).getD 0).toNat { x with err := err, cause := cause }) x.c
      have h3 := stopT_len ((acc.1.setOne ((acc.1.σ.who i).getD 0).toNat { x with err := err, cause := cause }).endT x.c).1 x.timer
      simp only
      rw [h1.1, h1.2.1, h1.2.2, h2.1]
      rw [h2.2.1] at h3
      refine ⟨rfl, rfl, rfl, by rw [h2.2.1]; rfl, h3, ?_, by simp, by simp⟩
      intro b n hb
      exact h2.2.2 b n hb
    · simp
theorem one_eq {τ τ' : Tms} (h : τ'.ones = τ.ones) (id : Int) : τ'.one id = τ.one id := by
  unfold Tms.one Tms.has; rw [h]
theorem LiveAt.hit {T : List Nd} {acc : CRes} {i j : Nat} (err cause : Int) (h : LiveAt T acc.1 i) (hj : LiveAt T acc.1 j) (hij : i ≠ j) : LiveAt T (hitL err cause acc j).1 i := by
  have hk := hitL_keeps err cause acc j
  have hones : ∀ (w : Nat) (x : One), acc.1.σ.ones[w]? = some x → x.node = i → (hitL err cause acc j).1.σ.ones[w]? = some x := by
    intro w x hx hn
    unfold hitL
    simp only
    split
    · split <;> exact hx
    · rename_i hneg
      split
      · rename_i y hy
        simp only
        rw [(stopT_facts _ _).1, (endT_facts _ _).1]
        show (acc.1.σ.ones.set _ _)[w]? = _
        rw [List.getElem?_set_ne]
        · exact hx
        · intro e
          rcases hj with ⟨w2, y2, q1, q2, q3, _⟩ | ⟨k2, y2, q1, _⟩
          · rw [q1] at e hy
            simp at e hy
            rw [q2] at hy; cases hy
            subst e
            rw [q2] at hx; cases hx
            omega
          · rw [q1] at hneg; simp at hneg; omega
      · exact hx
  have hafts : ∀ (k : Nat) (x : Aft), acc.1.σ.afts[k]? = some x → x.node = i → (hitL err cause acc j).1.σ.afts[k]? = some x := by
    intro w x hx hn
    unfold hitL
    simp only
    split
    · rename_i hneg
      split
      · rename_i y hy
        show (acc.1.σ.afts.set _ _)[w]? = _
        rw [List.getElem?_set_ne]
        · exact hx
        · intro e
          rcases hj with ⟨w2, y2, q1, _⟩ | ⟨k2, y2, q1, q5, q2, q3, _⟩
          · rw [q1] at hneg; simp at hneg; omega
          · rw [q1] at e hy
            have e2 : (-(-(k2 : Int) - 1) - 1).toNat = k2 := by omega
            simp only [Option.getD_some, e2] at e hy
            rw [q2] at hy; cases hy
            subst e
            rw [q2] at hx; cases hx
            omega
      · exact hx
    · split
      · simp only
        rw [(stopT_facts _ _).1, (endT_facts _ _).1]
        exact hx
      · exact hx
  rcases h with ⟨w, x, h1, h2, h3, h4, h5, h6, h7⟩ | ⟨k, x, h1, h2, h3, h4, h5⟩
  · exact .inl ⟨w, x, by rw [hk.1]; exact h1, hones w x h2 h3, h3, h4, h5, fun a ha => hk.2.2.2.2.2.1 a _ (h6 a ha), fun s o hs ho => h7 s o (by rw [← hk.2.2.1]; exact hs) (by rw [← one_eq hk.2.2.2.1]; exact ho)⟩
  · exact .inr ⟨k, x, by rw [hk.1]; exact h1, h2, hafts k x h3 h4, h4, h5⟩
theorem LiveAt.tree {T : List Nd} {S : CX} {i : Nat} (h : LiveAt T S i) (ns : List Nd) : LiveAt T (S.setTree ns) i := h
/-- what hits keep -/
theorem hits_keep {T : List Nd} (err cause : Int) : ∀ (l : List Nat) (acc : CRes), (∀ i ∈ l, LiveAt T acc.1 i) → l.Nodup → let r := l.foldl (hitL err cause) acc
    r.1.σ.who = acc.1.σ.who ∧ r.1.σ.tree = acc.1.σ.tree ∧ r.1.τ.x.l.length ≤ acc.1.τ.x.l.length ∧ r.2.1.length ≤ acc.2.1.length + l.length ∧ r.2.2.length ≤ acc.2.2.length + l.length ∧ ∀ i, LiveAt T acc.1 i → i ∉ l → LiveAt T r.1 i
  | [], acc, _, _ => by simp
  | a :: r, acc, h, hn => by
    have hk := hitL_keeps err cause acc a
    have ha := h a (by simp)
    have hn' := List.nodup_cons.1 hn
    obtain ⟨i1, i2, i3, i4, i5, i6⟩ := hits_keep err cause r (hitL err cause acc a) (fun i hi => (h i (by simp [hi])).hit err cause ha (by rintro rfl; exact hn'.1 hi)) hn'.2
    simp only [List.foldl_cons, List.length_cons]
    refine ⟨i1.trans hk.1, i2.trans hk.2.1, Nat.le_trans i3 hk.2.2.2.2.1, by have := hk.2.2.2.2.2.2.1; omega, by have := hk.2.2.2.2.2.2.2; omega, ?_⟩
    intro i hi hil
    simp at hil
    exact i6 i (hi.hit err cause ha hil.1) hil.2
end Go.AM


/- ctx: cancel is a walk. -/
set_option linter.unusedVariables false
set_option linter.unusedSimpArgs false
namespace Go.AM
/-- what a walk that hits all makes, and what is taken out -/
def walked (T : List Nd) (err cause : Int) (A : Nat → Bool) (l : List Nat) (acc : CRes) : CRes :=
  ((l.foldl (hitL err cause) acc).1.setTree (killT T fun i => A i || decide (i ∈ l)), (l.foldl (hitL err cause) acc).2)
def CancelWalk (T : List Nd) (n : Nat) : Prop := ∀ (k : Nat) (A : Nat → Bool) (S : CX) (id : Nat) (err cause : Int), T.length < k + n → k < T.length → S.σ.tree = killT T A → (∀ i ∈ pre T n k, A i = false) → (∀ i ∈ pre T n k, LiveAt T S i) → S.σ.who k = some (id : Int) → S.τ.x.l.length ≤ 1000000 →
  S.cancelP n id err cause = some (walked T err cause A (pre T n k) (S, [], []))
theorem startP_walk {T : List Nd} (ht : TreeOk T) {S : CX} {A : Nat → Bool} {j k : Nat} {x : Aft} (hS : S.σ.tree = killT T A) (hj : j < T.length) (h1 : S.σ.who j = some (-(k : Int) - 1)) (h3 : S.σ.afts[k]? = some x) (h4 : x.node = j) (err cause : Int) (out : List Lap) (sts : List (Int × Int)) :
    ∃ σ', S.σ.startP k = some (σ', ((k : Int), x.prog)) ∧ ({ S with σ := σ' } : CX) = (hitL err cause (S, out, sts) j).1.setTree (killT T fun i => A i || decide (i = j)) ∧ (hitL err cause (S, out, sts) j).2 = (out, sts ++ [((k : Int), x.prog)]) := by
  have hdet := detP_ok (ht.kill A) (i := j) (by rw [killT_length]; exact hj)
  rw [killT_killT] at hdet
  have hneg : (-(k : Int) - 1) < 0 := by omega
  have hk : (-(-(k : Int) - 1) - 1) = (k : Int) := by omega
  refine ⟨{ S.σ with afts := S.σ.afts.set k { x with over := true }, tree := killT T fun i => A i || decide (i = j) }, ?_, ?_, ?_⟩
  · unfold Cs.startP
    rw [if_pos (by omega)]
    simp only [Int.toNat_natCast, h3, h4, hS, hdet]
  · unfold hitL
    simp only [h1, Option.getD_some, hneg, if_true, hk, Int.toNat_natCast, h3]
    rfl
  · unfold hitL
    simp only [h1, Option.getD_some, hneg, if_true, hk, Int.toNat_natCast, h3]
theorem kids_walk {T : List Nd} (ht : TreeOk T) {n : Nat} (ih : CancelWalk T n) (err cause : Int) (k : Nat) : ∀ (js : List Nat) (S : CX) (A : Nat → Bool) (out : List Lap) (sts : List (Int × Int)), js.Pairwise (fun a b => a < b) → (∀ j ∈ js, j ∈ kidsOf T (k : Int)) → T.length < k + n + 1 → S.σ.tree = killT T A → (∀ j ∈ js, ∀ i ∈ pre T n j, A i = false) → (∀ j ∈ js, ∀ i ∈ pre T n j, LiveAt T S i) → S.τ.x.l.length ≤ 1000000 →
    out.length + js.length * T.length ≤ 1000000 → sts.length + js.length * T.length ≤ 1000000 →
    (js.map fun (i : Nat) => (i : Int)).foldlM (stepP (CX.cancelP n) err cause) (S, out, sts) = some (walked T err cause A (js.flatMap (pre T n)) (S, out, sts))
  | [], S, A, out, sts, _, _, _, hS, _, _, _, _, _ => by
    simp only [List.map_nil, List.foldlM_nil, List.flatMap_nil, walked, List.foldl_nil]
    have : (killT T fun i => A i || decide (i ∈ ([] : List Nat))) = S.σ.tree := by rw [hS]; congr 1; funext i; simp
    rw [this]; rfl
  | j :: r, S, A, out, sts, hp, hk, hn, hS, hA, hL, hτ, ho, hs => by
    have hjk := kidsOf_lt ht (hk j (by simp))
    have hpw := List.pairwise_cons.1 hp
    have hlenj : (pre T n j).length ≤ T.length := pre_len ht n hjk.2
    have hn0 : n ≠ 0 := by rintro rfl; omega
    have hLj := hL j (by simp)
    have hAj := hA j (by simp)
    have hself : j ∈ pre T n j := by cases n with | zero => exact absurd rfl hn0 | succ m => simp [pre]
    simp only [List.length_cons, Nat.add_mul, Nat.one_mul] at ho hs
    simp only [List.map_cons, List.foldlM_cons]
    -- one step is the walk below j
    have key : stepP (CX.cancelP n) err cause (S, out, sts) j = some (walked T err cause A (pre T n j) (S, out, sts)) := by
      rcases hLj j hself with ⟨w, x, h1, h2, h3, h4, h5, h6, h7⟩ | ⟨q, x, h1, h2, h3, h4, h5⟩
      · have hc := ih j A S w err cause (by omega) hjk.2 hS hAj hLj h1 hτ
        have hnn : ¬ ((w : Int) < 0) := by omega
        unfold stepP
        simp only [h1, Option.getD_some, hnn, if_false, hc, walked]
        have hkeep := hits_keep err cause (pre T n j) (S, [], []) hLj (pre_nodup ht n j)
        simp only [List.length_nil, Nat.zero_add] at hkeep
        obtain ⟨_, _, _, b4, b5, _⟩ := hkeep
        rw [if_pos ⟨Nat.le_trans (Nat.add_le_add_left b4 _) (by omega), Nat.le_trans (Nat.add_le_add_left b5 _) (by omega)⟩]
        rw [hits_out err cause (pre T n j) S out sts]
      · obtain ⟨σ', e1, e2, e3⟩ := startP_walk ht (S := S) (A := A) hS hjk.2 h1 h3 h4 err cause out sts
        have hneg : (-(q : Int) - 1) < 0 := by omega
        have hkk : (-(-(q : Int) - 1) - 1) = (q : Int) := by omega
        have hpj : pre T n j = [j] := by
          cases n with
          | zero => exact absurd rfl hn0
          | succ m => simp [pre, h5]
        unfold stepP
        simp only [h1, Option.getD_some, hneg, if_true, hkk, e1]
        rw [if_pos ⟨by omega, by omega⟩]
        simp only [walked, hpj, List.foldl_cons, List.foldl_nil, List.mem_singleton]
        rw [e2, e3]
    rw [key]
    show List.foldlM _ _ _ = _
    have hkeep := hits_keep err cause (pre T n j) (S, out, sts) hLj (pre_nodup ht n j)
    simp only at hkeep
    obtain ⟨k1, k2, k3, k4, k5, k6⟩ := hkeep
    have hap : ∀ j' ∈ r, ∀ i ∈ pre T n j', i ∉ pre T n j := fun j' hj' i hi h9 => pre_apart ht (hk j (by simp)) (hk j' (by simp [hj'])) (hpw.1 j' hj') n n i h9 hi
    generalize hX : (pre T n j).foldl (hitL err cause) (S, out, sts) = X at k1 k2 k3 k4 k5 k6
    have hw : walked T err cause A (pre T n j) (S, out, sts) = (X.1.setTree (killT T fun i => A i || decide (i ∈ pre T n j)), X.2.1, X.2.2) := by simp only [walked, hX]
    rw [hw]
    rw [kids_walk ht ih err cause k r (X.1.setTree (killT T fun i => A i || decide (i ∈ pre T n j))) (fun i => A i || decide (i ∈ pre T n j)) X.2.1 X.2.2 hpw.2 (fun j' hj' => hk j' (by simp [hj'])) hn rfl ?_ ?_ ?_ ?_ ?_]
    · simp only [walked, List.flatMap_cons, List.foldl_append, hX]
      rw [hits_tree]
      obtain ⟨X1, X2, X3⟩ := X
      simp only
      have hA3 : (fun i => A i || decide (i ∈ pre T n j) || decide (i ∈ r.flatMap (pre T n))) = fun i => A i || decide (i ∈ pre T n j ++ r.flatMap (pre T n)) := by
        funext i; simp [Bool.or_assoc]
      rw [hA3]
      rfl
    · intro j' hj' i hi
      have h1 := hA j' (by simp [hj']) i hi
      have h2 := hap j' hj' i hi
      simp [h1, h2]
    · intro j' hj' i hi
      exact (k6 i (hL j' (by simp [hj']) i hi) (hap j' hj' i hi)).tree _
    · exact Nat.le_trans k3 hτ
    · omega
    · omega
theorem cancel_walk {T : List Nd} (ht : TreeOk T) : ∀ n, CancelWalk T n
  | 0 => by intro k A S id err cause h1 h2; omega
  | n + 1 => by
    intro k A S id err cause h1 h2 hS hA hL hw hτ
    have ih := cancel_walk ht n
    have hself : k ∈ pre T (n + 1) k := by simp [pre]
    have hkid : ∀ j ∈ kidsOf T (k : Int), ∀ i ∈ pre T n j, i ∈ pre T (n + 1) k ∧ i ≠ k := fun j hj i hi => by
      have h3 := kidsOf_lt ht hj
      have h4 := (pre_ge ht _ _ _ hi).1
      refine ⟨?_, by omega⟩
      simp only [pre, List.mem_cons, List.mem_flatMap]
      exact .inr ⟨j, hj, hi⟩
    rcases hL k hself with ⟨w, x, q1, q2, q3, q4, q5, q6, q7⟩ | ⟨q, x, q1, _⟩
    case inr => rw [hw] at q1; simp at q1; omega
    rw [hw] at q1
    have hwi : w = id := by simp at q1; omega
    subst hwi
    unfold CX.cancelP
    rw [if_pos (by omega)]
    simp only [Int.toNat_natCast, q2]
    rw [if_neg (by simp [q4, q5])]
    have hend : (S.setOne w { x with err := err, cause := cause }).endP x.c = some ((S.setOne w { x with err := err, cause := cause }).endT x.c) := by
      unfold CX.endP CX.endT
      cases hc : x.c with
      | none => rfl
      | some a => exact if_pos (q6 a hc)
    rw [hend]
    generalize hS1 : (S.setOne w { x with err := err, cause := cause }).endT x.c = S1
    have hf1 := endT_facts (S.setOne w { x with err := err, cause := cause }) x.c
    rw [hS1] at hf1
    obtain ⟨S1, ws⟩ := S1
    simp only at hf1 ⊢
    have hstop : S1.stopP x.timer = some (S1.stopT x.timer) := by
      have e1 : S1.σ.t = S.σ.t := by rw [hf1.1]; rfl
      have e2 : S1.τ = S.τ := by rw [hf1.2.1]; rfl
      unfold CX.stopP CX.stopT
      rw [e1, e2]
      cases hs : S.σ.t with
      | none => rfl
      | some s =>
        simp only []
        cases ho : S.τ.one x.timer with
        | none => rfl
        | some o => exact if_pos ⟨q7 s o hs ho, hτ⟩
    rw [hstop]
    have hhit : hitL err cause (S, [], []) k = (S1.stopT x.timer, [⟨w, err, cause, ws⟩], []) := by
      have hnn : ¬ ((w : Int) < 0) := by omega
      unfold hitL
      simp only [hw, Option.getD_some, hnn, if_false, Int.toNat_natCast, q2, hS1, List.nil_append]
    generalize hS2 : S1.stopT x.timer = S2 at hhit
    have htree2 : S2.σ.tree = killT T A := by
      have := hitL_keeps err cause (S, [], []) k
      rw [hhit] at this
      exact this.2.1.trans hS
    have hτ2 : S2.τ.x.l.length ≤ 1000000 := by
      have := hitL_keeps err cause (S, [], []) k
      rw [hhit] at this
      exact Nat.le_trans this.2.2.2.2.1 hτ
    have hkf : (kidsOf T (k : Int)).filter (fun i => !A i) = kidsOf T (k : Int) := by
      apply List.filter_eq_self.2
      intro j hj
      have hn0 : n ≠ 0 := by rintro rfl; have := kidsOf_lt ht hj; omega
      have := hA j ((hkid j hj j (by cases n with | zero => exact absurd rfl hn0 | succ m => simp [pre])).1)
      simp [this]
    have hkids : kidsT S2.σ.tree x.node = (kidsOf T (k : Int)).map fun (i : Nat) => (i : Int) := by
      rw [htree2, q3, (ht.kill A).kidsT (by rw [killT_length]; exact h2), kidsOf_kill, hkf]
    have hlenk : (kidsOf T (k : Int)).length ≤ 1000 := Nat.le_trans (kidsOf_length _ _) ht.len
    have hTl := ht.len
    simp only
    rw [hkids, if_pos ⟨by rw [htree2]; exact (ht.kill A).kok, by simp; omega⟩]
    have hpw : (kidsOf T (k : Int)).Pairwise (fun a b => a < b) := List.Pairwise.sublist List.filter_sublist List.pairwise_lt_range
    have hmul : (kidsOf T (k : Int)).length * T.length ≤ 999000 := by
      rcases Nat.eq_zero_or_pos (kidsOf T (k : Int)).length with h | h
      · rw [h]; omega
      · have a1 : (kidsOf T (k : Int)).length ≤ 999 := by
          have h5 : ∀ i ∈ kidsOf T (k : Int), i ≠ k ∧ i < T.length := fun i hi => by have := kidsOf_lt ht hi; omega
          have h6 : (k :: kidsOf T (k : Int)).length ≤ T.length := nodup_len _ _ (List.nodup_cons.2 ⟨fun h => (h5 k h).1 rfl, kidsOf_nodup _ _⟩) (fun i hi => by
            rcases List.mem_cons.1 hi with rfl | hi
            · exact h2
            · exact (h5 i hi).2)
          simp at h6; omega
        exact Nat.le_trans (Nat.mul_le_mul a1 hTl) (by omega)
    rw [kids_walk ht ih err cause k _ S2 A _ _ hpw (fun j hj => hj) (by omega) htree2 (fun j hj i hi => hA i (hkid j hj i hi).1) ?_ hτ2 (by simp; omega) (by simp; omega)]
    · simp only [walked]
      have hX2 : ∀ Z : CX, detP (Z.setTree (killT T fun i => A i || decide (i ∈ (kidsOf T (k : Int)).flatMap (pre T n)))).σ.tree x.node = some (killT T fun i => A i || decide (i ∈ pre T (n + 1) k)) := by
        intro Z
        show detP (killT T _) x.node = _
        rw [q3, detP_ok (ht.kill _) (by rw [killT_length]; exact h2), killT_killT]
        congr 2
        funext i
        simp only [pre, List.mem_cons, List.mem_flatMap]
        by_cases hik : i = k <;> simp [hik]
      rw [hX2]
      simp only [pre, List.foldl_cons, hhit]
      rfl
    · intro j hj i hi
      have h3 := hkid j hj i hi
      have := (hL i h3.1).hit err cause (hL k hself) h3.2 (acc := (S, [], []))
      rw [hhit] at this
      exact this
end Go.AM


/- ctx: what is so of contexts; what is made, and who is cancelled; in plain Lean. -/
set_option linter.unusedVariables false
set_option linter.unusedSimpArgs false
namespace Go.AM
structure WF (S : CX) : Prop where
  tr : TreeOk S.σ.tree
  sz : S.σ.ones.length ≤ 64 ∧ S.σ.afts.length ≤ 64
  len : S.σ.tree.length = S.σ.ones.length + S.σ.afts.length
  who1 : ∀ (i : Nat) (x : One), S.σ.ones[i]? = some x → ∃ k : Nat, x.node = (k : Int) ∧ k < S.σ.tree.length ∧ S.σ.who k = some (i : Int)
  who2 : ∀ (j : Nat) (x : Aft), S.σ.afts[j]? = some x → ∃ k : Nat, x.node = (k : Int) ∧ k < S.σ.tree.length ∧ S.σ.who k = some (-(j : Int) - 1) ∧ kidsOf S.σ.tree (k : Int) = []
  cover : ∀ k : Nat, k < S.σ.tree.length → (∃ (i : Nat) (x : One), S.σ.who k = some (i : Int) ∧ S.σ.ones[i]? = some x ∧ x.node = (k : Int)) ∨ (∃ (j : Nat) (x : Aft), S.σ.who k = some (-(j : Int) - 1) ∧ S.σ.afts[j]? = some x ∧ x.node = (k : Int))
  live : ∀ (i k : Nat) (x : One) (n : Nd), S.σ.ones[i]? = some x → x.node = (k : Int) → S.σ.tree[k]? = some n → (n.linked = true ↔ x.free = false ∧ x.err = 0)
  chs : ∀ x ∈ S.σ.ones, ∀ a, x.c = some a → (S.χ a).recvs.length + (S.χ a).sends.length ≤ 1000000
  tms : ∀ x ∈ S.σ.ones, ∀ s o, S.σ.t = some s → S.τ.one x.timer = some o → o.c = none
  tlen : S.τ.x.l.length ≤ 1000000
/-- a context that is not over -/
theorem WF.liveAt {S : CX} (h : WF S) {i k : Nat} {x : One} (hx : S.σ.ones[i]? = some x) (hk : x.node = (k : Int)) (hf : x.free = false) (he : x.err = 0) (n : Nat) : ∀ j ∈ pre S.σ.tree n k, LiveAt S.σ.tree S j := by
  intro j hj
  have hk2 := h.who1 i x hx
  obtain ⟨k', e1, e2, e3⟩ := hk2
  have : k' = k := by omega
  subst this
  have hjl := (pre_ge h.tr _ _ _ hj).2 e2
  have hlk : j = k' ∨ ∃ m, S.σ.tree[j]? = some m ∧ m.linked = true := by
    by_cases e : j = k'
    · exact .inl e
    · obtain ⟨m, hm⟩ := pre_up n k' j hj e
      rcases hm with ⟨h1, h2, _⟩ | hm
      · exact .inr ⟨m, h1, h2⟩
      · exact hm.elim
  rcases h.cover j hjl with ⟨i2, x2, c1, c2, c3⟩ | ⟨j2, x2, c1, c2, c3⟩
  · have hfe : x2.free = false ∧ x2.err = 0 := by
      rcases hlk with rfl | ⟨m, m1, m2⟩
      · rw [e3] at c1
        have : i = i2 := by simp at c1; omega
        subst this
        rw [hx] at c2; cases c2
        exact ⟨hf, he⟩
      · exact (h.live i2 j x2 m c2 c3 m1).1 m2
    have hmem := List.mem_of_getElem? c2
    exact .inl ⟨i2, x2, c1, c2, c3, hfe.1, hfe.2, h.chs x2 hmem, h.tms x2 hmem⟩
  · have hj2 : j2 < S.σ.afts.length := (List.getElem?_eq_some_iff.1 c2).1
    obtain ⟨k3, d1, d2, d3, d4⟩ := h.who2 j2 x2 c2
    have : k3 = j := by omega
    subst this
    exact .inr ⟨j2, x2, c1, by have := h.sz.2; omega, c2, c3, d4⟩
theorem WF.cancelP {S : CX} (h : WF S) {i k : Nat} {x : One} (hx : S.σ.ones[i]? = some x) (hk : x.node = (k : Int)) (hf : x.free = false) (he : x.err = 0) (err cause : Int) :
    S.cancelP 200 i err cause = some (walked S.σ.tree err cause (fun _ => false) (pre S.σ.tree 200 k) (S, [], [])) := by
  obtain ⟨k', e1, e2, e3⟩ := h.who1 i x hx
  have : k' = k := by omega
  subst this
  have := h.len
  have := h.sz
  exact cancel_walk h.tr 200 k' _ S i err cause (by omega) e2 (killT_none _ (fun _ => rfl)).symm (fun _ _ => rfl) (h.liveAt hx hk hf he 200) e3 h.tlen
theorem CX.cancelP_dead {S : CX} {i : Nat} {x : One} (hx : S.σ.ones[i]? = some x) (he : x.free = true ∨ x.err ≠ 0) (n : Nat) (err cause : Int) : S.cancelP (n + 1) i err cause = some (S, [], []) := by
  unfold CX.cancelP
  rw [if_pos (by omega)]
  simp only [Int.toNat_natCast, hx]
  rw [if_pos he]
/-! ### what hits make of each -/
structure Whos (S : CX) : Prop where
  w1 : ∀ (i : Nat) (x : One), S.σ.ones[i]? = some x → ∃ k : Nat, x.node = (k : Int) ∧ S.σ.who k = some (i : Int)
  w2 : ∀ (j : Nat) (x : Aft), S.σ.afts[j]? = some x → ∃ k : Nat, x.node = (k : Int) ∧ S.σ.who k = some (-(j : Int) - 1)
theorem WF.whos {S : CX} (h : WF S) : Whos S := ⟨fun i x hx => by obtain ⟨k, h1, _, h3⟩ := h.who1 i x hx; exact ⟨k, h1, h3⟩, fun i x hx => by obtain ⟨k, h1, _, h3, _⟩ := h.who2 i x hx; exact ⟨k, h1, h3⟩⟩
def inL (l : List Nat) (n : Int) : Bool := l.any fun i => decide (n = (i : Int))
theorem hitL_ones (err cause : Int) {acc : CRes} {j : Nat} {T : List Nd} (hw : Whos acc.1) (hj : LiveAt T acc.1 j) :
    (∀ w : Nat, (hitL err cause acc j).1.σ.ones[w]? = (acc.1.σ.ones[w]?).map fun (x : One) => if x.node = (j : Int) then { x with err := err, cause := cause } else x) ∧
    (∀ w : Nat, (hitL err cause acc j).1.σ.afts[w]? = (acc.1.σ.afts[w]?).map fun (x : Aft) => if x.node = (j : Int) then { x with over := true } else x) := by
  rcases hj with ⟨w0, x0, q1, q2, q3, _⟩ | ⟨k0, x0, q1, q5, q2, q3, _⟩
  · have hnn : ¬ ((w0 : Int) < 0) := by omega
    have e : hitL err cause acc j = ((((acc.1.setOne w0 { x0 with err := err, cause := cause }).endT x0.c).1.stopT x0.timer), acc.2.1 ++ [⟨w0, err, cause, ((acc.1.setOne w0 { x0 with err := err, cause := cause }).endT x0.c).2⟩], acc.2.2) := by
      unfold hitL
      simp only [q1, Option.getD_some, hnn, if_false, Int.toNat_natCast, q2]
    rw [e]
    simp only
    rw [(stopT_facts _ _).1, (endT_facts _ _).1]
    refine ⟨fun w => ?_, fun w => ?_⟩
    · show (acc.1.σ.ones.set w0 _)[w]? = _
      by_cases hww : w0 = w
      · subst hww
        have hl : w0 < acc.1.σ.ones.length := (List.getElem?_eq_some_iff.1 q2).1
        rw [List.getElem?_set_self hl, q2]; simp [q3]
      · rw [List.getElem?_set_ne hww]
        cases hx : acc.1.σ.ones[w]? with
        | none => rfl
        | some y =>
          have : y.node ≠ (j : Int) := by
            intro h9
            obtain ⟨k, h1, h2⟩ := hw.w1 w y hx
            have : k = j := by omega
            subst this
            rw [q1] at h2; simp at h2; omega
          simp [this]
    · show acc.1.σ.afts[w]? = _
      cases hx : acc.1.σ.afts[w]? with
      | none => rfl
      | some y =>
        have : y.node ≠ (j : Int) := by
          intro h9
          obtain ⟨k, h1, h2⟩ := hw.w2 w y hx
          have : k = j := by omega
          subst this
          rw [q1] at h2; simp at h2; omega
        simp [this]
  · have hneg : (-(k0 : Int) - 1) < 0 := by omega
    have hk : (-(-(k0 : Int) - 1) - 1) = (k0 : Int) := by omega
    have e : hitL err cause acc j = ({ acc.1 with σ := { acc.1.σ with afts := acc.1.σ.afts.set k0 { x0 with over := true } } }, acc.2.1, acc.2.2 ++ [((k0 : Int), x0.prog)]) := by
      unfold hitL
      simp only [q1, Option.getD_some, hneg, if_true, hk, Int.toNat_natCast, q2]
    rw [e]
    refine ⟨fun w => ?_, fun w => ?_⟩
    · show acc.1.σ.ones[w]? = _
      cases hx : acc.1.σ.ones[w]? with
      | none => rfl
      | some y =>
        have : y.node ≠ (j : Int) := by
          intro h9
          obtain ⟨k, h1, h2⟩ := hw.w1 w y hx
          have : k = j := by omega
          subst this
          rw [q1] at h2; simp at h2; omega
        simp [this]
    · show (acc.1.σ.afts.set k0 _)[w]? = _
      by_cases hww : k0 = w
      · subst hww
        have hl : k0 < acc.1.σ.afts.length := (List.getElem?_eq_some_iff.1 q2).1
        rw [List.getElem?_set_self hl, q2]; simp [q3]
      · rw [List.getElem?_set_ne hww]
        cases hx : acc.1.σ.afts[w]? with
        | none => rfl
        | some y =>
          have : y.node ≠ (j : Int) := by
            intro h9
            obtain ⟨k, h1, h2⟩ := hw.w2 w y hx
            have : k = j := by omega
            subst this
            rw [q1] at h2; simp at h2; omega
          simp [this]
theorem Whos.hit {T : List Nd} (err cause : Int) {acc : CRes} {j : Nat} (hw : Whos acc.1) (hj : LiveAt T acc.1 j) : Whos (hitL err cause acc j).1 := by
  have hk := hitL_keeps err cause acc j
  obtain ⟨h1, h2⟩ := hitL_ones err cause hw hj
  refine ⟨fun i x hx => ?_, fun i x hx => ?_⟩
  · rw [h1] at hx
    cases e : acc.1.σ.ones[i]? with
    | none => rw [e] at hx; cases hx
    | some y =>
      rw [e] at hx
      obtain ⟨k, k1, k2⟩ := hw.w1 i y e
      simp at hx; subst hx
      exact ⟨k, by split <;> exact k1, by rw [hk.1]; exact k2⟩
  · rw [h2] at hx
    cases e : acc.1.σ.afts[i]? with
    | none => rw [e] at hx; cases hx
    | some y =>
      rw [e] at hx
      obtain ⟨k, k1, k2⟩ := hw.w2 i y e
      simp at hx; subst hx
      exact ⟨k, by split <;> exact k1, by rw [hk.1]; exact k2⟩
theorem hits_ones {T : List Nd} (err cause : Int) : ∀ (l : List Nat) (acc : CRes), Whos acc.1 → (∀ i ∈ l, LiveAt T acc.1 i) → l.Nodup →
    (∀ w : Nat, (l.foldl (hitL err cause) acc).1.σ.ones[w]? = (acc.1.σ.ones[w]?).map fun (x : One) => if inL l x.node = true then { x with err := err, cause := cause } else x) ∧
    (∀ w : Nat, (l.foldl (hitL err cause) acc).1.σ.afts[w]? = (acc.1.σ.afts[w]?).map fun (x : Aft) => if inL l x.node = true then { x with over := true } else x) ∧
    (l.foldl (hitL err cause) acc).1.σ.t = acc.1.σ.t ∧ (l.foldl (hitL err cause) acc).1.τ.ones = acc.1.τ.ones ∧
    (∀ b n, (acc.1.χ b).recvs.length + (acc.1.χ b).sends.length ≤ n → ((l.foldl (hitL err cause) acc).1.χ b).recvs.length + ((l.foldl (hitL err cause) acc).1.χ b).sends.length ≤ n)
  | [], acc, _, _, _ => by simp [inL]
  | a :: r, acc, hw, h, hn => by
    have ha := h a (by simp)
    have hn' := List.nodup_cons.1 hn
    have hk := hitL_keeps err cause acc a
    obtain ⟨o1, o2⟩ := hitL_ones err cause hw ha
    obtain ⟨i1, i2, i3, i4, i5⟩ := hits_ones (T := T) err cause r (hitL err cause acc a) (hw.hit err cause ha) (fun i hi => (h i (by simp [hi])).hit err cause ha (by rintro rfl; exact hn'.1 hi)) hn'.2
    simp only [List.foldl_cons]
    refine ⟨fun w => ?_, fun w => ?_, i3.trans hk.2.2.1, i4.trans hk.2.2.2.1, fun b n hb => i5 b n (hk.2.2.2.2.2.1 b n hb)⟩
    · rw [i1, o1]
      cases acc.1.σ.ones[w]? with
      | none => rfl
      | some x =>
        simp only [Option.map_some, inL, List.any_cons]
        by_cases e : x.node = (a : Int)
        · simp only [e, if_true, decide_true, Bool.true_or]
          split <;> rfl
        · simp [e]
    · rw [i2, o2]
      cases acc.1.σ.afts[w]? with
      | none => rfl
      | some x =>
        simp only [Option.map_some, inL, List.any_cons]
        by_cases e : x.node = (a : Int)
        · simp only [e, if_true, decide_true, Bool.true_or]
          split <;> rfl
        · simp [e]
theorem inL_nat {l : List Nat} {n : Int} {k : Nat} (h : n = (k : Int)) : inL l n = decide (k ∈ l) := by
  subst h
  unfold inL
  rw [Bool.eq_iff_iff]
  simp only [List.any_eq_true, decide_eq_true_eq]
  constructor
  · rintro ⟨x, h1, h2⟩
    have : k = x := by omega
    rw [this]; exact h1
  · exact fun h1 => ⟨k, h1, rfl⟩
/-- what a walk leaves is as it should be -/
theorem WF.walk {S : CX} (h : WF S) {i k : Nat} {x : One} (hx : S.σ.ones[i]? = some x) (hk : x.node = (k : Int)) (hf : x.free = false) (he : x.err = 0) {err cause : Int} (herr : err ≠ 0) {r : CRes}
    (hr : walked S.σ.tree err cause (fun _ => false) (pre S.σ.tree 200 k) (S, [], []) = r) : WF r.1 ∧ r.1.σ.who = S.σ.who ∧ r.1.σ.t = S.σ.t ∧ r.1.τ.ones = S.τ.ones ∧
    r.1.σ.tree = killT S.σ.tree (fun j => decide (j ∈ pre S.σ.tree 200 k)) ∧
    (∀ w : Nat, r.1.σ.ones[w]? = (S.σ.ones[w]?).map fun (x : One) => if inL (pre S.σ.tree 200 k) x.node = true then { x with err := err, cause := cause } else x) ∧
    (∀ w : Nat, r.1.σ.afts[w]? = (S.σ.afts[w]?).map fun (x : Aft) => if inL (pre S.σ.tree 200 k) x.node = true then { x with over := true } else x) := by
  have hl := h.liveAt hx hk hf he 200
  have hnd := pre_nodup h.tr 200 k
  obtain ⟨i1, i2, i3, i4, i5⟩ := hits_ones (T := S.σ.tree) err cause (pre S.σ.tree 200 k) (S, [], []) h.whos hl hnd
  obtain ⟨k1, k2, k3, k4, k5, k6⟩ := hits_keep (T := S.σ.tree) err cause (pre S.σ.tree 200 k) (S, [], []) hl hnd
  have hrt : r.1.σ.tree = killT S.σ.tree (fun j => decide (j ∈ pre S.σ.tree 200 k)) := by rw [← hr]; show killT _ _ = _; simp
  have hro : r.1.σ.ones = ((pre S.σ.tree 200 k).foldl (hitL err cause) (S, [], [])).1.σ.ones := by rw [← hr]; rfl
  have hra : r.1.σ.afts = ((pre S.σ.tree 200 k).foldl (hitL err cause) (S, [], [])).1.σ.afts := by rw [← hr]; rfl
  have hrw : r.1.σ.who = S.σ.who := by rw [← k1, ← hr]; rfl
  have hrtt : r.1.σ.t = S.σ.t := by rw [← i3, ← hr]; rfl
  have hrτ : r.1.τ = ((pre S.σ.tree 200 k).foldl (hitL err cause) (S, [], [])).1.τ := by rw [← hr]; rfl
  have hrχ : r.1.χ = ((pre S.σ.tree 200 k).foldl (hitL err cause) (S, [], [])).1.χ := by rw [← hr]; rfl
  rw [← hro] at i1
  rw [← hra] at i2
  rw [← hrτ] at i4 k3
  rw [← hrχ] at i5
  simp only at i1 i2 i4 k3 i5
  have hlo : r.1.σ.ones.length = S.σ.ones.length := by
    rcases Nat.lt_trichotomy r.1.σ.ones.length S.σ.ones.length with h9 | h9 | h9
    · have := i1 r.1.σ.ones.length
      rw [List.getElem?_eq_none (Nat.le_refl _), List.getElem?_eq_getElem h9] at this; cases this
    · exact h9
    · have := i1 S.σ.ones.length
      rw [List.getElem?_eq_getElem h9, List.getElem?_eq_none (Nat.le_refl _)] at this; cases this
  have hla : r.1.σ.afts.length = S.σ.afts.length := by
    rcases Nat.lt_trichotomy r.1.σ.afts.length S.σ.afts.length with h9 | h9 | h9
    · have := i2 r.1.σ.afts.length
      rw [List.getElem?_eq_none (Nat.le_refl _), List.getElem?_eq_getElem h9] at this; cases this
    · exact h9
    · have := i2 S.σ.afts.length
      rw [List.getElem?_eq_getElem h9, List.getElem?_eq_none (Nat.le_refl _)] at this; cases this
  have hlt : r.1.σ.tree.length = S.σ.tree.length := by rw [hrt, killT_length]
  have back : ∀ (w : Nat) (y : One), r.1.σ.ones[w]? = some y → ∃ x, S.σ.ones[w]? = some x ∧ y = if inL (pre S.σ.tree 200 k) x.node = true then { x with err := err, cause := cause } else x := by
    intro w y hy
    rw [i1] at hy
    cases e : S.σ.ones[w]? with
    | none => rw [e] at hy; cases hy
    | some x => rw [e] at hy; simp at hy; exact ⟨x, rfl, hy.symm⟩
  have backA : ∀ (w : Nat) (y : Aft), r.1.σ.afts[w]? = some y → ∃ x, S.σ.afts[w]? = some x ∧ y = if inL (pre S.σ.tree 200 k) x.node = true then { x with over := true } else x := by
    intro w y hy
    rw [i2] at hy
    cases e : S.σ.afts[w]? with
    | none => rw [e] at hy; cases hy
    | some x => rw [e] at hy; simp at hy; exact ⟨x, rfl, hy.symm⟩
  refine ⟨⟨by rw [hrt]; exact h.tr.kill _, by rw [hlo, hla]; exact h.sz, by rw [hlt, hlo, hla]; exact h.len, ?_, ?_, ?_, ?_, ?_, ?_, Nat.le_trans k3 h.tlen⟩, hrw, hrtt, i4, hrt, i1, i2⟩
  · intro w y hy
    obtain ⟨x, hx, rfl⟩ := back w y hy
    obtain ⟨k, h1, h2, h3⟩ := h.who1 w x hx
    exact ⟨k, by split <;> exact h1, by rw [hlt]; exact h2, by rw [hrw]; exact h3⟩
  · intro w y hy
    obtain ⟨x, hx, rfl⟩ := backA w y hy
    obtain ⟨k, h1, h2, h3, h4⟩ := h.who2 w x hx
    exact ⟨k, by split <;> exact h1, by rw [hlt]; exact h2, by rw [hrw]; exact h3, by rw [hrt, kidsOf_kill, h4]; rfl⟩
  · intro j hj
    rw [hlt] at hj
    rcases h.cover j hj with ⟨w, x, c1, c2, c3⟩ | ⟨w, x, c1, c2, c3⟩
    · exact .inl ⟨w, _, by rw [hrw]; exact c1, by rw [i1, c2, Option.map_some], by split <;> exact c3⟩
    · exact .inr ⟨w, _, by rw [hrw]; exact c1, by rw [i2, c2, Option.map_some], by split <;> exact c3⟩
  · intro w j y n hy hn ht
    obtain ⟨x, hx, rfl⟩ := back w y hy
    have hxj : x.node = (j : Int) := by split at hn <;> exact hn
    rw [hrt, killT_get] at ht
    cases e : S.σ.tree[j]? with
    | none => rw [e] at ht; cases ht
    | some m =>
      rw [e] at ht; simp at ht; subst ht
      have := h.live w j x m hx hxj e
      rw [inL_nat hxj]
      by_cases hm : j ∈ pre S.σ.tree 200 k
      · simp [hm, herr]
      · simp [hm, this]
  · intro y hy a ha
    obtain ⟨w, hw⟩ := List.mem_iff_getElem?.1 hy
    obtain ⟨x, hx, rfl⟩ := back w y hw
    have : x.c = some a := by split at ha <;> exact ha
    exact i5 a _ (h.chs x (List.mem_of_getElem? hx) a this)
  · intro y hy s o hs ho
    obtain ⟨w, hw⟩ := List.mem_iff_getElem?.1 hy
    obtain ⟨x, hx, rfl⟩ := back w y hw
    refine h.tms x (List.mem_of_getElem? hx) s o (by rw [← hrtt]; exact hs) ?_
    rw [← one_eq i4]
    split at ho <;> exact ho
end Go.AM


/- ctx: what is made is as it should be; in plain Lean. -/
set_option linter.unusedVariables false
set_option linter.unusedSimpArgs false
namespace Go.AM
theorem Added.back {ns ms : List Nd} {parent : Int} {lk : Bool} (h : Added ns parent lk ms) {j : Nat} {m : Nd} (hm : ms[j]? = some m) : (j < ns.length ∧ ∃ n, ns[j]? = some n ∧ m.parent = n.parent ∧ m.linked = n.linked) ∨ (j = ns.length ∧ m.parent = parent ∧ m.linked = lk) := by
  have hj : j < ms.length := (List.getElem?_eq_some_iff.1 hm).1
  rw [h.len] at hj
  by_cases e : j < ns.length
  · obtain ⟨m', h1, h2, h3⟩ := h.old j _ (List.getElem?_eq_getElem e)
    rw [hm] at h1; cases h1
    exact .inl ⟨e, _, List.getElem?_eq_getElem e, h2, h3⟩
  · have : j = ns.length := by omega
    subst this
    obtain ⟨m', h1, h2, h3⟩ := h.new
    rw [hm] at h1; cases h1
    exact .inr ⟨rfl, h2, h3⟩
theorem Added.kids {ns ms : List Nd} {parent : Int} {lk : Bool} (h : Added ns parent lk ms) {k : Int} (hk : kidsOf ns k = []) (hp : parent ≠ k ∨ lk = false) : kidsOf ms k = [] := by
  rw [List.eq_nil_iff_forall_not_mem]
  intro i hi
  obtain ⟨m, h1, h2, h3⟩ := kidsOf_mem.1 hi
  rcases h.back h1 with ⟨_, n, e1, e2, e3⟩ | ⟨_, e2, e3⟩
  · have : i ∈ kidsOf ns k := kidsOf_mem.2 ⟨n, e1, by rw [← e3]; exact h2, by rw [← e2]; exact h3⟩
    rw [hk] at this; cases this
  · rcases hp with hp | hp
    · exact hp (by rw [← e2]; exact h3)
    · rw [h2] at e3; rw [hp] at e3; cases e3
theorem WF.node {S : CX} (h : WF S) {p : Nat} {up : One} (hup : S.σ.ones[p]? = some up) : hasT S.σ.tree up.node = true ∧ up.node ≠ -1 := by
  obtain ⟨k, h1, h2, _⟩ := h.who1 p up hup
  refine ⟨?_, by omega⟩
  simp [hasT, h1]; omega
theorem WF.not_aft {S : CX} (h : WF S) {p j : Nat} {up : One} {x : Aft} (hup : S.σ.ones[p]? = some up) (hx : S.σ.afts[j]? = some x) : up.node ≠ x.node := by
  intro e
  obtain ⟨k, h1, h2, h3⟩ := h.who1 p up hup
  obtain ⟨k', g1, g2, g3, _⟩ := h.who2 j x hx
  have : k = k' := by omega
  subst this
  rw [h3] at g3; simp at g3; omega
/-- a context more -/
theorem WF.add {S : CX} (h : WF S) {p : Nat} {up o : One} {χ' : Nat → Ch} (hup : S.σ.ones[p]? = some up) (hlen : S.σ.ones.length < 64) (ho : o.err = 0)
    (hχ : ∀ a n, (S.χ a).recvs.length + (S.χ a).sends.length ≤ n → (χ' a).recvs.length + (χ' a).sends.length ≤ n) (hc : ∀ a, o.c = some a → (χ' a).recvs.length + (χ' a).sends.length ≤ 1000000) :
    WF ({ S with σ := S.σ.add o up.node, χ := χ' } : CX) ∧ (S.σ.add o up.node).ones = S.σ.ones ++ [{ o with node := S.σ.tree.length, timer := -1 }] ∧ Added S.σ.tree up.node (!o.free) (S.σ.add o up.node).tree ∧ (S.σ.add o up.node).who = updI S.σ.who S.σ.tree.length (some (S.σ.ones.length : Int)) := by
  have hn := h.node hup
  have hlt : S.σ.tree.length < 1000 := by have := h.len; have := h.sz; omega
  obtain ⟨ms, e, had⟩ := treeAdd_ok (linked := !o.free) h.tr hlt (.inr hn.1)
  have hlk : ((!o.free) && decide (up.node ≠ -1)) = !o.free := by simp [hn.2]
  rw [hlk] at had
  have eo : (S.σ.add o up.node).ones = S.σ.ones ++ [{ o with node := S.σ.tree.length, timer := -1 }] := by simp [Cs.add, e]
  have et : (S.σ.add o up.node).tree = ms := by simp [Cs.add, e]
  have ew : (S.σ.add o up.node).who = updI S.σ.who S.σ.tree.length (some (S.σ.ones.length : Int)) := by simp [Cs.add, e]
  have ea : (S.σ.add o up.node).afts = S.σ.afts := rfl
  have oback : ∀ (w : Nat) (x : One), (S.σ.add o up.node).ones[w]? = some x → (w < S.σ.ones.length ∧ S.σ.ones[w]? = some x) ∨ (w = S.σ.ones.length ∧ x = { o with node := S.σ.tree.length, timer := -1 }) := by
    intro w x hx
    rw [eo] at hx
    by_cases hw : w < S.σ.ones.length
    · rw [List.getElem?_append_left hw] at hx; exact .inl ⟨hw, hx⟩
    · rw [List.getElem?_append_right (by omega)] at hx
      have hz : w - S.σ.ones.length = 0 := by
        rcases Nat.eq_zero_or_pos (w - S.σ.ones.length) with h9 | h9
        · exact h9
        · rw [List.getElem?_eq_none (by simp; omega)] at hx; cases hx
      rw [hz] at hx; simp at hx
      exact .inr ⟨by omega, hx.symm⟩
  have ofwd : ∀ (w : Nat) (x : One), S.σ.ones[w]? = some x → (S.σ.add o up.node).ones[w]? = some x := by
    intro w x hx
    have hw : w < S.σ.ones.length := (List.getElem?_eq_some_iff.1 hx).1
    rw [eo, List.getElem?_append_left hw]; exact hx
  have who_old : ∀ k : Nat, k < S.σ.tree.length → (S.σ.add o up.node).who k = S.σ.who k := by
    intro k hk
    rw [ew]; unfold updI
    rw [if_neg (by omega)]
  refine ⟨⟨by rw [et]; exact had.ok, ⟨by rw [eo]; simp; omega, h.sz.2⟩, ?_, ?_, ?_, ?_, ?_, ?_, ?_, h.tlen⟩, eo, by rw [et]; exact had, ew⟩
  · show (S.σ.add o up.node).tree.length = (S.σ.add o up.node).ones.length + S.σ.afts.length
    rw [et, had.len, eo, h.len]; simp; omega
  · intro w x hx
    show ∃ k, _ ∧ k < (S.σ.add o up.node).tree.length ∧ (S.σ.add o up.node).who k = _
    rw [et, had.len]
    rcases oback w x hx with ⟨_, h1⟩ | ⟨rfl, rfl⟩
    · obtain ⟨k, k1, k2, k3⟩ := h.who1 w x h1
      exact ⟨k, k1, by omega, by rw [who_old k k2]; exact k3⟩
    · exact ⟨S.σ.tree.length, rfl, by omega, by rw [ew]; simp [updI]⟩
  · intro w x hx
    show ∃ k, _ ∧ k < (S.σ.add o up.node).tree.length ∧ (S.σ.add o up.node).who k = _ ∧ kidsOf (S.σ.add o up.node).tree k = []
    rw [et, had.len]
    obtain ⟨k, k1, k2, k3, k4⟩ := h.who2 w x hx
    refine ⟨k, k1, by omega, by rw [who_old k k2]; exact k3, had.kids k4 (.inl ?_)⟩
    have := h.not_aft hup hx
    omega
  · intro k hk
    have hk' : k < (S.σ.add o up.node).tree.length := hk
    rw [et, had.len] at hk'
    by_cases e1 : k < S.σ.tree.length
    · rcases h.cover k e1 with ⟨w, x, c1, c2, c3⟩ | ⟨w, x, c1, c2, c3⟩
      · exact .inl ⟨w, x, by show (S.σ.add o up.node).who k = _; rw [who_old k e1]; exact c1, ofwd w x c2, c3⟩
      · exact .inr ⟨w, x, by show (S.σ.add o up.node).who k = _; rw [who_old k e1]; exact c1, c2, c3⟩
    · have : k = S.σ.tree.length := by omega
      subst this
      refine .inl ⟨S.σ.ones.length, { o with node := S.σ.tree.length, timer := -1 }, ?_, ?_, rfl⟩
      · show (S.σ.add o up.node).who _ = _
        rw [ew]; simp [updI]
      · show (S.σ.add o up.node).ones[_]? = _
        rw [eo]; simp
  · intro w k x n hx hk hn2
    have hn2' : ms[k]? = some n := by rw [← et]; exact hn2
    rcases had.back hn2' with ⟨b1, m, b2, b3, b4⟩ | ⟨b1, b3, b4⟩
    · rcases oback w x hx with ⟨_, h1⟩ | ⟨rfl, rfl⟩
      · rw [b4]; exact h.live w k x m h1 hk b2
      · simp at hk; omega
    · rcases oback w x hx with ⟨_, h1⟩ | ⟨rfl, rfl⟩
      · obtain ⟨k2, k3, k4, _⟩ := h.who1 w x h1
        omega
      · rw [b4]; simp [ho]
  · intro x hx a ha
    obtain ⟨w, hw⟩ := List.mem_iff_getElem?.1 hx
    rcases oback w x hw with ⟨_, h1⟩ | ⟨rfl, rfl⟩
    · exact hχ a _ (h.chs x (List.mem_of_getElem? h1) a ha)
    · exact hc a ha
  · intro x hx s o2 hs ho2
    obtain ⟨w, hw⟩ := List.mem_iff_getElem?.1 hx
    rcases oback w x hw with ⟨_, h1⟩ | ⟨rfl, rfl⟩
    · exact h.tms x (List.mem_of_getElem? h1) s o2 hs ho2
    · simp [Tms.one, Tms.has] at ho2
theorem updC_sizes (χ : Nat → Ch) (a b n : Nat) (h : (χ b).recvs.length + (χ b).sends.length ≤ n) : (updC χ a .sg b).recvs.length + (updC χ a .sg b).sends.length ≤ n := by
  unfold updC
  split
  · simp [Ch.sg]
  · exact h
theorem WF.room {S : CX} (h : WF S) {p : Nat} {up : One} (hup : S.σ.ones[p]? = some up) (hlen : S.σ.ones.length < 64) : S.σ.room p = 0 := by
  have hp : p < S.σ.ones.length := (List.getElem?_eq_some_iff.1 hup).1
  have : S.σ.has p = true := by simp [Cs.has]; omega
  simp [Cs.room, this]; omega
theorem WF.okAdd {S : CX} (h : WF S) : S.okAdd = true := by
  have := h.sz
  simp [CX.okAdd, h.tr.kok]; omega
/-- a context of one that is not done -/
theorem WF.cancelsP {S : CX} (h : WF S) {p : Nat} {up : One} (hup : S.σ.ones[p]? = some up) (hlen : S.σ.ones.length < 64) (he : up.err = 0) (a : Nat) :
    S.cancelsP p a = some (S.addS { One.zero with when := up.when, has := up.has } up.node a, (S.σ.ones.length : Int), [], 0) ∧ WF (S.addS { One.zero with when := up.when, has := up.has } up.node a) := by
  have hw := h.add (o := { ({ One.zero with when := up.when, has := up.has } : One) with c := some a }) (χ' := updC S.χ a .sg) hup hlen rfl (fun b n hb => updC_sizes _ _ _ _ hb) (fun b hb => by simp at hb; subst hb; simp [updC, Ch.sg])
  refine ⟨?_, hw.1⟩
  unfold CX.cancelsP
  rw [if_neg (by simp [h.room hup hlen]), if_pos h.okAdd]
  simp only [Int.toNat_natCast, hup]
  have hp : p < S.σ.ones.length := (List.getElem?_eq_some_iff.1 hup).1
  have hb : (S.addS { One.zero with when := up.when, has := up.has } up.node a).beginP S.σ.ones.length p = some (S.addS { One.zero with when := up.when, has := up.has } up.node a, []) := by
    unfold CX.beginP
    rw [if_pos (by omega)]
    have : (S.addS { One.zero with when := up.when, has := up.has } up.node a).σ.ones[((p : Int)).toNat]? = some up := by
      show (S.σ.add _ _).ones[_]? = _
      rw [hw.2.1, Int.toNat_natCast, List.getElem?_append_left hp]; exact hup
    rw [this]
    simp only
    rw [if_pos he]
  rw [hb]
theorem WF.withoutP {S : CX} (h : WF S) {p : Nat} {up : One} (hup : S.σ.ones[p]? = some up) (hlen : S.σ.ones.length < 64) :
    S.withoutP p = some (S.addP { One.zero with free := true } up.node, (S.σ.ones.length : Int), 0) ∧ WF (S.addP { One.zero with free := true } up.node) := by
  have hw := h.add (o := { One.zero with free := true }) (χ' := S.χ) hup hlen rfl (fun b n hb => hb) (fun b hb => by simp [One.zero] at hb)
  refine ⟨?_, hw.1⟩
  unfold CX.withoutP
  rw [if_neg (by simp [h.room hup hlen]), if_pos h.okAdd]
  simp only [Int.toNat_natCast, hup]
theorem wf_new (t : Option Nat) (τ : Tms) (χ : Nat → Ch) (hτ : τ.x.l.length ≤ 1000000) : WF ⟨Cs.new t, τ, χ⟩ := by
  have e : treeAdd [] (-1) false = ([⟨-1, false, []⟩], 0, 0) := by simp [treeAdd]
  have ew : (Cs.new t).who = updI (fun _ => none) 0 (some 0) := by simp [Cs.new, Cs.add, One.zero, e]
  have eo : (Cs.new t).ones = [{ One.zero with free := true, timer := -1 }] := by simp [Cs.new, Cs.add, One.zero, e]
  have et : (Cs.new t).tree = [⟨-1, false, []⟩] := by simp [Cs.new, Cs.add, One.zero, e]
  have ea : (Cs.new t).afts = [] := rfl
  refine ⟨⟨by rw [et]; simp, ?_, ?_⟩, by simp [eo, ea], by simp [et, eo, ea], ?_, ?_, ?_, ?_, ?_, ?_, hτ⟩
  · intro k n hn
    simp only [et] at hn ⊢
    cases k with
    | zero => simp at hn; subst hn; rfl
    | succ k => simp at hn
  · intro k n hn hl
    simp only [et] at hn
    cases k with
    | zero => simp at hn; subst hn; cases hl
    | succ k => simp at hn
  · intro i x hx
    simp only [eo] at hx
    cases i with
    | zero => simp at hx; subst hx; exact ⟨0, rfl, by simp [et], by simp [ew, updI]⟩
    | succ k => simp at hx
  · intro i x hx; simp only [ea] at hx; simp at hx
  · intro k hk
    simp only [et] at hk
    simp at hk; subst hk
    exact .inl ⟨0, { One.zero with free := true, timer := -1 }, by simp [ew, updI], by simp [eo], rfl⟩
  · intro i k x n hx hk hn
    simp only [eo] at hx
    simp only [et] at hn
    cases i with
    | zero =>
      simp at hx; subst hx
      cases k with
      | zero => simp at hn; subst hn; simp
      | succ k => simp at hn
    | succ k => simp at hx
  · intro x hx a ha
    simp only [eo] at hx
    simp at hx; subst hx; simp [One.zero] at ha
  · intro x hx s o hs ho
    simp only [eo] at hx
    simp at hx; subst hx
    simp [Tms.one, Tms.has] at ho
end Go.AM


/- ctx: what a walk tells; what laws keep of memory. -/
set_option linter.unusedVariables false
set_option linter.unusedSimpArgs false
namespace Go.AM
theorem filterMap_congr' {α β : Type} {f g : α → Option β} : ∀ (l : List α), (∀ x ∈ l, f x = g x) → l.filterMap f = l.filterMap g
  | [], _ => rfl
  | a :: r, h => by rw [List.filterMap_cons, List.filterMap_cons, h a (by simp), filterMap_congr' r fun x hx => h x (by simp [hx])]
/-- each context has its own channel -/
def Chans (S : CX) : Prop := ∀ (i j : Nat) (x y : One) (a : Nat), S.σ.ones[i]? = some x → S.σ.ones[j]? = some y → x.c = some a → y.c = some a → i = j
def chW (S : CX) : Option Nat → List Wk
  | none => []
  | some a => (S.χ a).endS.2
def lapOf (S : CX) (err cause : Int) (j : Nat) : Option Lap :=
  let w := (S.σ.who j).getD 0
  if w < 0 then none else (S.σ.ones[w.toNat]?).map fun x => ⟨w, err, cause, chW S x.c⟩
def stOf (S : CX) (j : Nat) : Option (Int × Int) :=
  let w := (S.σ.who j).getD 0
  if w < 0 then (S.σ.afts[(-w - 1).toNat]?).map fun x => (-w - 1, x.prog) else none
theorem hitL_res (err cause : Int) (acc : CRes) (j : Nat) : (hitL err cause acc j).2.1 = acc.2.1 ++ (lapOf acc.1 err cause j).toList ∧ (hitL err cause acc j).2.2 = acc.2.2 ++ (stOf acc.1 j).toList := by
  unfold hitL lapOf stOf
  simp only
  split
  · rename_i h
    split
    · rename_i x hx; rw [hx]; simp
    · rename_i hx; rw [hx]; simp
  · rename_i h
    split
    · rename_i x hx
      have e : ((acc.1.setOne ((acc.1.σ.who j).getD 0).toNat { x with err := err, cause := cause }).endT x.c).2 = chW acc.1 x.c := by cases x.c <;> rfl
      simp [hx, e]
    · rename_i hx; simp [hx]
/-- the channel of a context is not touched by another's hit -/
theorem hitL_chi {T : List Nd} (err cause : Int) {acc : CRes} {j a : Nat} (hj : LiveAt T acc.1 j) (h : ∀ (i : Nat) (x : One), acc.1.σ.who j = some (i : Int) → acc.1.σ.ones[i]? = some x → x.c ≠ some a) : (hitL err cause acc j).1.χ a = acc.1.χ a := by
  rcases hj with ⟨w, x, q1, q2, _⟩ | ⟨k, x, q1, q5, q2, _⟩
  · have hnn : ¬ ((w : Int) < 0) := by omega
    unfold hitL
    simp only [q1, Option.getD_some, hnn, if_false, Int.toNat_natCast, q2]
    rw [(stopT_facts _ _).2.1]
    have := h w x q1 q2
    cases hc : x.c with
    | none => rfl
    | some b =>
      rw [hc] at this
      have hab : a ≠ b := fun h9 => this (by rw [h9])
      simp [CX.endT, updC, hab, CX.setOne]
  · have hneg : (-(k : Int) - 1) < 0 := by omega
    have hk : (-(-(k : Int) - 1) - 1) = (k : Int) := by omega
    unfold hitL
    simp only [q1, Option.getD_some, hneg, if_true, hk, Int.toNat_natCast, q2]
theorem hits_res {T : List Nd} (err cause : Int) : ∀ (l : List Nat) (acc : CRes), Whos acc.1 → (∀ i ∈ l, LiveAt T acc.1 i) → l.Nodup → Chans acc.1 →
    (l.foldl (hitL err cause) acc).2.1 = acc.2.1 ++ l.filterMap (lapOf acc.1 err cause) ∧ (l.foldl (hitL err cause) acc).2.2 = acc.2.2 ++ l.filterMap (stOf acc.1)
  | [], acc, _, _, _, _ => by simp
  | a :: r, acc, hw, h, hn, hch => by
    have ha := h a (by simp)
    have hn' := List.nodup_cons.1 hn
    have hk := hitL_keeps err cause acc a
    obtain ⟨o1, o2⟩ := hitL_ones err cause hw ha
    have hch' : Chans (hitL err cause acc a).1 := by
      intro i j x y b hx hy h1 h2
      rw [o1] at hx hy
      cases e1 : acc.1.σ.ones[i]? with
      | none => rw [e1] at hx; cases hx
      | some x' =>
        cases e2 : acc.1.σ.ones[j]? with
        | none => rw [e2] at hy; cases hy
        | some y' =>
          rw [e1] at hx; rw [e2] at hy
          simp at hx hy; subst hx; subst hy
          refine hch i j x' y' b e1 e2 ?_ ?_
          · split at h1 <;> exact h1
          · split at h2 <;> exact h2
    obtain ⟨i1, i2⟩ := hits_res (T := T) err cause r (hitL err cause acc a) (hw.hit err cause ha) (fun i hi => (h i (by simp [hi])).hit err cause ha (by rintro rfl; exact hn'.1 hi)) hn'.2 hch'
    obtain ⟨r1, r2⟩ := hitL_res err cause acc a
    simp only [List.foldl_cons]
    have c1 : r.filterMap (lapOf (hitL err cause acc a).1 err cause) = r.filterMap (lapOf acc.1 err cause) := by
      apply filterMap_congr'
      intro j hj
      have hja : j ≠ a := by rintro rfl; exact hn'.1 hj
      have hLj := h j (by simp [hj])
      unfold lapOf
      simp only [hk.1]
      split
      · rfl
      · rename_i hneg
        rw [o1]
        rcases hLj with ⟨w, x, q1, q2, q3, _⟩ | ⟨k, x, q1, _⟩
        · simp only [q1, Option.getD_some, Int.toNat_natCast, q2, Option.map_some]
          have hna : ¬ x.node = (a : Int) := by omega
          simp only [hna, if_false]
          congr 2
          cases hc : x.c with
          | none => rfl
          | some b =>
            simp only [chW]
            rw [hitL_chi err cause ha]
            intro i y h1 h2 h3
            have := hch w i x y b q2 h2 hc h3
            subst this
            rw [q2] at h2; cases h2
            obtain ⟨k', e1, e2⟩ := hw.w1 w x q2
            have : k' = j := by omega
            subst this
            rcases ha with ⟨w', x', p1, p2, p3, _⟩ | ⟨_, _, p1, _⟩
            · rw [h1] at p1
              have : w = w' := by simp at p1; omega
              subst this
              rw [q2] at p2; cases p2
              omega
            · rw [h1] at p1; simp at p1; omega
        · rw [q1] at hneg; simp at hneg; omega
    have c2 : r.filterMap (stOf (hitL err cause acc a).1) = r.filterMap (stOf acc.1) := by
      apply filterMap_congr'
      intro j hj
      unfold stOf
      simp only [hk.1]
      split
      · rw [o2]
        cases acc.1.σ.afts[(-(acc.1.σ.who j).getD 0 - 1).toNat]? with
        | none => rfl
        | some x => simp only [Option.map_some]; split <;> rfl
      · rfl
    rw [i1, i2, r1, r2, c1, c2]
    refine ⟨?_, ?_⟩
    · rw [List.filterMap_cons]
      cases lapOf acc.1 err cause a <;> simp
    · rw [List.filterMap_cons]
      cases stOf acc.1 a <;> simp
/-! ### what laws keep of memory -/
section
variable {c : Nat} {S S' : CX} {L L2 : Lg}
theorem CDone.raw (h : CDone c S S' L L2) (e : L c = some (.abs (CtxP c S.σ))) (ho : OutC c S L) {r : Nat} {x : AB} (hr : L r = some (.raw x)) : L2 r = some (.raw x) := by
  rw [h.fr r (by rw [hr]; simp) (by rintro rfl; rw [hr] at e; cases e) (fun h9 => by have := (ho.tms r h9).2; rw [hr] at this; cases this) (fun o h8 h9 => by have := (ho.chs o h8 r h9).2.2; rw [hr] at this; cases this)]
  exact hr
/-- all raw blocks are kept -/
def RawK (L L2 : Lg) : Prop := ∀ r x, L r = some (.raw x) → L2 r = some (.raw x)
theorem CDone.rawK (h : CDone c S S' L L2) (e : L c = some (.abs (CtxP c S.σ))) (ho : OutC c S L) : RawK L L2 := fun r x hr => h.raw e ho hr
theorem RawK.refl (L : Lg) : RawK L L := fun _ _ h => h
theorem RawK.trans {L3 : Lg} (h : RawK L L2) (k : RawK L2 L3) : RawK L L3 := fun r x hr => k r x (h r x hr)
theorem RawK.osl (h : RawK L L2) {v : AV} {cs : List AV} {n size : Nat} (o : OSl L v cs n size) : OSl L2 v cs n size := o.mono fun b hb => by rw [o.block hb]; exact h _ _ (o.block hb)
theorem RawK.slK (h : RawK L L2) {v : AV} {ws : List Wk} (o : SlK L v ws) : SlK L2 v ws := o.mono fun b hb => by
  rcases o with ⟨_, rfl⟩ | ⟨b', ex, rfl, h2⟩
  · cases hb
  · simp [slB] at hb; subst hb; rw [h2]; exact h _ _ h2
theorem RawK.put (L : Lg) {b : Nat} (hb : L b = none) (d : LC) : RawK L (L.put b d) := fun r x hr => by
  rw [Lg.put_ne _ _ _ (by rintro rfl; rw [hb] at hr; cases hr)]; exact hr
end
/-- what is known to answer true -/
theorem known2_spec {F : Nat → Option AFn} {f : Nat} (h : F f = some kTrue) (L : Lg) : CallL F f [] L fun v L' => v = .b true ∧ L' = L := by
  apply CallL.of_wp h
  show fin _ _ _ _ _
  exact ⟨L, Sees.refl _, rfl, rfl⟩
/-- a row of slices, read -/
theorem ResP.get {L0 K : Lg} {v1 v2 : AV} {ps : List (Lap × AV)} {sts : List (Int × Int)} {F : Nat → Option AFn} (h : ResP L0 K v1 v2 ps sts) {i : Nat} {p : Lap × AV} (hi : ps[i]? = some p) : ∃ b, K b = some (.raw (.cells (flatc lapc ps))) ∧
    (∀ (X : Lg) (k : AV → Lg → Prop), wpOp F (.iad 4) [v1, .i .i64 i] X k = k (.p (some (b, i * 4))) X) ∧ (∀ X : Lg, X b = K b → ∀ j, j < 4 → rdL X (b, i * 4 + j) none = (lapc p)[j]?) := by
  have hl : i < ps.length := (List.getElem?_eq_some_iff.1 hi).1
  obtain ⟨b, h1, h2, h3, h4⟩ := h.o1.iad (F := F) (x := (i : Int)) (by omega) (by omega)
  refine ⟨b, h2, fun X k => by simpa using h4 X k .i64, fun X hX j hj => ?_⟩
  rw [rdL_cell (by rw [hX]; exact h2), flatc_get (k := 4) (fun _ => rfl) ps i j p hi hj]
end Go.AM


/- what laws do with slices of their own. -/
set_option linter.unusedVariables false
set_option linter.unusedSimpArgs false
namespace Go.AM
variable {N : Nat → Nat} {F : Nat → Option AFn}
/-- all that was is there, but one block -/
def KeepE (o : Option Nat) (K K1 : Lg) : Prop := ∀ r d, K r = some d → o ≠ some r → K1 r = some d
theorem push1 {K : Lg} {v x z : AV} {cs : List AV} {n bytes : Nat} (h : OSl K v cs n 1) (hx : x.cellsOf = some [x]) (hb : bytes ≤ 1000) (hn : n ≤ 1000000) {k : AV → Lg → Prop}
    (hk : ∀ (v' : AV) (K1 : Lg), OSl K1 v' (cs ++ [x]) (n + 1) 1 → KeepE (slB v) K K1 → (∀ b, slB v' = some b → K b = none) → k v' K1) :
    wpOp F (.bslice [z] 1 1 [0]) [x] K fun s L => wpOp F (.app 1 bytes) [v, s] L k := by
  have hone : x.one = true := by have := cellsOf_one hx; simpa using this
  rw [wp_bslice, newL_bslice (c := [x]) _ _ (by simp [reps, fillP, splice, ble_nat, beq_nat, hx]) (by simp [hone])]
  intro b1 hb1
  rw [wp_app]
  have g1 : (K.put b1 (.raw (.cells [x]))) b1 = some (.raw (.cells [x])) := Lg.put_same _ _ _
  have h1 : OSl (K.put b1 (.raw (.cells [x]))) v cs n 1 := h.mono fun b hbb => Lg.put_ne _ _ _ (by rintro rfl; have := h.block hbb; rw [hb1] at this; cases this)
  refine h1.app (m := 1) (by omega) rfl (by omega) (new := [x]) (by simp [rdCellsL, AB.read, cut, ble_nat]) rfl (by simp [hone]) (by have : (n + 1) * bytes ≤ 1000001 * 1000 := Nat.mul_le_mul (by omega) hb; omega) ?_
  intro b2 K1 g hO
  have f2 : b2 ≠ b1 ∧ K b2 = none := by
    have := g.fresh
    have n1 : b2 ≠ b1 := by rintro rfl; rw [Lg.put_same] at this; cases this
    rw [Lg.put_ne _ _ _ n1] at this
    exact ⟨n1, this⟩
  refine hk _ _ hO ?_ ?_
  · intro r d hr hne
    have r1 : r ≠ b1 := by rintro rfl; rw [hb1] at hr; cases hr
    have r2 : r ≠ b2 := by rintro rfl; rw [f2.2] at hr; cases hr
    rw [g.same r r2 hne, Lg.put_ne _ _ _ r1]; exact hr
  · intro b hbb; simp [slB] at hbb; subst hbb; exact f2.2
theorem new1 {K : Lg} {x z : AV} (hx : x.cellsOf = some [x]) {k : AV → Lg → Prop} (hk : ∀ (v' : AV) (K1 : Lg), OSl K1 v' [x] 1 1 → KeepE none K K1 → (∀ b, slB v' = some b → K b = none) → k v' K1) : wpOp F (.bslice [z] 1 1 [0]) [x] K k := by
  have hone : x.one = true := by have := cellsOf_one hx; simpa using this
  rw [wp_bslice, newL_bslice (c := [x]) _ _ (by simp [reps, fillP, splice, ble_nat, beq_nat, hx]) (by simp [hone])]
  intro b1 hb1
  refine hk _ _ (.inr ⟨b1, 0, by omega, rfl, .inl rfl, Lg.put_same _ _ _, rfl⟩) ?_ ?_
  · intro r d hr _
    rw [Lg.put_ne]; exact hr
    rintro rfl; rw [hb1] at hr; cases hr
  · intro b hbb; simp [slB] at hbb; subst hbb; exact hb1
theorem KeepE.osl {o : Option Nat} {K K1 : Lg} (h : KeepE o K K1) {v : AV} {cs : List AV} {n size : Nat} (s : OSl K v cs n size) (hn : ∀ b, slB v = some b → o ≠ some b) : OSl K1 v cs n size := s.mono fun b hb => by rw [s.block hb]; exact h b _ (s.block hb) (hn b hb)
theorem KeepE.argSl {o : Option Nat} {K K1 : Lg} (h : KeepE o K K1) {v : AV} {cs : List AV} {n size : Nat} (s : ArgSl K v cs n size) (hn : ∀ b, o = some b → ∃ cs, K b = some (.raw (.cells cs))) : ArgSl K1 v cs n size := by
  obtain ⟨h1, h2 | ⟨b, cap, h2, h3⟩⟩ := s
  · exact ⟨h1, .inl h2⟩
  · refine ⟨h1, .inr ⟨b, cap, h2, h b _ h3 ?_⟩⟩
    intro h9
    obtain ⟨cs, h4⟩ := hn b h9
    rw [h3] at h4; cases h4
theorem RawK.argSl {K K1 : Lg} (h : RawK K K1) {v : AV} {cs : List AV} {n size : Nat} (s : ArgSl K v cs n size) : ArgSl K1 v cs n size := by
  obtain ⟨h1, h2 | ⟨b, cap, h2, h3⟩⟩ := s
  · exact ⟨h1, .inl h2⟩
  · exact ⟨h1, .inr ⟨b, cap, h2, h b _ h3⟩⟩
theorem KeepE.outC {o : Option Nat} {K K1 : Lg} (h : KeepE o K K1) (hn : ∀ b, o = some b → ∃ x, K b = some (.raw x)) {c : Nat} {S : CX} (e : K c = some (.abs (CtxP c S.σ))) (ho : OutC c S K) : K1 c = some (.abs (CtxP c S.σ)) ∧ OutC c S K1 := by
  have key : ∀ r P, K r = some (.abs P) → K1 r = some (.abs P) := fun r P hr => h r _ hr (by intro h9; obtain ⟨x, h8⟩ := hn r h9; rw [hr] at h8; cases h8)
  exact ⟨key _ _ e, fun s hs => ⟨(ho.tms s hs).1, key _ _ (ho.tms s hs).2⟩, fun o1 h1 a h2 => ⟨(ho.chs o1 h1 a h2).1, (ho.chs o1 h1 a h2).2.1, key _ _ (ho.chs o1 h1 a h2).2.2⟩⟩
theorem OSl.rawB {K : Lg} {v : AV} {cs : List AV} {n size : Nat} (h : OSl K v cs n size) : ∀ b, slB v = some b → ∃ x, K b = some (.raw x) := fun b hb => ⟨_, h.block hb⟩
theorem OSl.cellsB {K : Lg} {v : AV} {cs : List AV} {n size : Nat} (h : OSl K v cs n size) : ∀ b, slB v = some b → ∃ cs, K b = some (.raw (.cells cs)) := fun b hb => ⟨_, h.block hb⟩
/-- one of a slice of one's own -/
theorem OSl.at1 {K : Lg} {v : AV} {cs : List AV} {n : Nat} (h : OSl K v cs n 1) {i : Nat} (hi : i < n) : ∃ b, (∀ (X : Lg) (k : AV → Lg → Prop), wpOp F (.iad 1) [v, .i .i64 i] X k = k (.p (some (b, i))) X) ∧ rdL K (b, i) none = cs[i]? := by
  obtain ⟨b, h1, h2, h3, h4⟩ := h.iad (F := F) (x := (i : Int)) (by omega) (by omega)
  exact ⟨b, fun X k => by simpa using h4 X k .i64, by rw [rdL_cell h2]⟩
theorem ArgSl.at1 {K : Lg} {v : AV} {cs : List AV} {n : Nat} (h : ArgSl K v cs n 1) {i : Nat} (hi : i < n) : ∃ b, (∀ (X : Lg) (k : AV → Lg → Prop), wpOp F (.iad 1) [v, .i .i64 i] X k = k (.p (some (b, i))) X) ∧ rdL K (b, i) none = cs[i]? := by
  obtain ⟨b, cap, rfl, h2⟩ := h.get hi
  refine ⟨b, fun X k => ?_, by rw [rdL_ro h2]⟩
  rw [wp_iad F X k 1 b 0 n cap 0 .i64 i (by omega) (by omega)]
  simp
def bcl (l : List Bool) : List AV := l.map fun n => .b n
theorem RawK.resP {K K1 : Lg} (h : RawK K K1) {L0 : Lg} {v1 v2 : AV} {ps : List (Lap × AV)} {sts : List (Int × Int)} (r : ResP L0 K v1 v2 ps sts) : ResP L0 K1 v1 v2 ps sts :=
  ⟨h.osl r.o1, h.osl r.o2, fun p hp => ⟨h.slK (r.ins p hp).1, (r.ins p hp).2⟩, r.f1, r.f2⟩
end Go.AM


/- contexts, each on one ahead of it: who hangs on whom; in plain Lean. -/
set_option linter.unusedVariables false
set_option linter.unusedSimpArgs false
namespace Go.AM
theorem pre_down {ns : List Nd} (ht : TreeOk ns) : ∀ (f k p i : Nat), ns.length < k + f → p ∈ pre ns f k → i ∈ kidsOf ns (p : Int) → i ∈ pre ns f k
  | 0, k, p, i, _, h, _ => by simp [pre] at h
  | f + 1, k, p, i, hf, h, hi => by
    have hpi := kidsOf_lt ht hi
    have h' := h
    simp only [pre, List.mem_cons, List.mem_flatMap] at h ⊢
    right
    rcases h with rfl | ⟨j, hj, hp⟩
    · refine ⟨i, hi, ?_⟩
      cases f with
      | zero => omega
      | succ f => simp [pre]
    · have := kidsOf_lt ht hj
      exact ⟨j, hj, pre_down ht f j p i (by omega) hp hi⟩
theorem perm_len {a b : List Nat} (ha : a.Nodup) (hb : b.Nodup) (h : ∀ x, x ∈ a ↔ x ∈ b) : a.length = b.length :=
  ((List.perm_ext_iff_of_nodup ha hb).2 h).length_eq
/-- contexts, none of them over; what each hangs on (-1: nothing) -/
structure Fst (S : CX) (up : List Int) (plain : List Bool) : Prop where
  wf : WF S
  len : S.σ.ones.length = up.length
  lenp : plain.length = up.length
  afts : S.σ.afts = []
  each : ∀ (j : Nat) (x : One), S.σ.ones[j]? = some x → x.node = (j : Int) ∧ x.err = 0 ∧ x.cause = 0 ∧ plain[j]? = some x.free
  par : ∀ (j : Nat) (q : Nd), S.σ.tree[j]? = some q → ∃ u, up[j]? = some u ∧ (q.linked = true → q.parent = u ∧ 0 ≤ u ∧ u < (j : Int)) ∧ (q.linked = false → u = -1)
/-- whoever walks up comes to it -/
def und (up : List Int) (k : Int) : Nat → Int → Bool
  | 0, _ => false
  | f + 1, j => if j < 0 then false else decide (j = k) || und up k f (up.getD j.toNat (-1))
theorem Fst.und {S : CX} {up : List Int} {plain : List Bool} (h : Fst S up plain) {k : Nat} (hk : k < up.length) : ∀ i f : Nat, i < up.length → i < f → und up k f i = decide (i ∈ pre S.σ.tree 200 k) := by
  have hl : S.σ.tree.length = up.length := by rw [h.wf.len, h.len, h.afts]; simp
  have hsz := h.wf.sz
  intro i
  induction i using Nat.strongRecOn with
  | ind i ih =>
    intro f hi hf
    cases f with
    | zero => omega
    | succ f =>
      have hnn : ¬ ((i : Int) < 0) := by omega
      simp only [Go.AM.und, hnn, if_false, Int.toNat_natCast]
      by_cases e : i = k
      · subst e
        have : i ∈ pre S.σ.tree 200 i := by
          show i ∈ i :: (kidsOf S.σ.tree (i : Int)).flatMap (pre S.σ.tree 199)
          simp
        simp [this]
      · have e' : ¬ ((i : Int) = (k : Int)) := by omega
        simp only [e', decide_false, Bool.false_or]
        have hq : S.σ.tree[i]? = some S.σ.tree[i] := List.getElem?_eq_getElem (by omega)
        obtain ⟨u, h1, h2, h3⟩ := h.par i _ hq
        have hg : up.getD i (-1) = u := by rw [List.getD_eq_getElem?_getD, h1]; rfl
        rw [hg]
        cases hlk : (S.σ.tree[i]).linked
        · have hu := h3 hlk
          subst hu
          have hz : Go.AM.und up k f (-1) = false := by cases f <;> simp [Go.AM.und]
          rw [hz]
          symm
          rw [decide_eq_false_iff_not]
          intro hm
          obtain ⟨n, hn⟩ := pre_up 200 k i hm e
          rcases hn with ⟨n1, n2, _⟩ | hn
          · rw [hq] at n1; cases n1; rw [hlk] at n2; cases n2
          · exact hn
        · obtain ⟨g1, g2, g3⟩ := h2 hlk
          obtain ⟨p, hp⟩ := Int.eq_ofNat_of_zero_le g2
          subst hp
          rw [ih p (by omega) f (by omega) (by omega)]
          rw [decide_eq_decide]
          constructor
          · intro hm
            have hkid : i ∈ kidsOf S.σ.tree (p : Int) := kidsOf_mem.2 ⟨_, hq, hlk, g1⟩
            exact pre_down h.wf.tr 200 k p i (by have := h.len; omega) hm hkid
          · intro hm
            obtain ⟨n, hn⟩ := pre_up 200 k i hm e
            rcases hn with ⟨n1, n2, n3, _⟩ | hn
            · rw [hq] at n1; cases n1; rw [g1] at n3; simpa using n3
            · exact hn.elim
theorem Fst.linked {S : CX} {up : List Int} {plain : List Bool} (h : Fst S up plain) {j : Nat} {x : One} {q : Nd} (hx : S.σ.ones[j]? = some x) (hq : S.σ.tree[j]? = some q) : q.linked = !x.free := by
  have h1 := h.each j x hx
  have := h.wf.live j j x q hx h1.1 hq
  rw [h1.2.1] at this
  cases hf : x.free
  · rw [hf] at this; simp at this; simp [this]
  · rw [hf] at this; simp at this; simp [this]
/-- a context more -/
theorem Fst.more {S : CX} {up_ : List Int} {plain : List Bool} (h : Fst S up_ plain) {o up : One} {p : Nat} {χ' : Nat → Ch} (hup : S.σ.ones[p]? = some up) (ho : o.err = 0 ∧ o.cause = 0)
    (hw : WF ({ S with σ := S.σ.add o up.node, χ := χ' } : CX)) (he : (S.σ.add o up.node).ones = S.σ.ones ++ [{ o with node := S.σ.tree.length, timer := -1 }]) (ha : Added S.σ.tree up.node (!o.free) (S.σ.add o up.node).tree) :
    Fst ({ S with σ := S.σ.add o up.node, χ := χ' } : CX) (up_ ++ [if o.free = true then -1 else (p : Int)]) (plain ++ [o.free]) := by
  have hl : S.σ.tree.length = up_.length := by rw [h.wf.len, h.len, h.afts]; simp
  have hp : p < up_.length := by rw [← h.len]; exact (List.getElem?_eq_some_iff.1 hup).1
  refine ⟨hw, ?_, by simp [h.lenp], h.afts, ?_, ?_⟩
  · show (S.σ.add o up.node).ones.length = _
    rw [he]; simp [h.len]
  · intro j x hx
    have hx' : (S.σ.add o up.node).ones[j]? = some x := hx
    rw [he] at hx'
    by_cases hj : j < S.σ.ones.length
    · rw [List.getElem?_append_left hj] at hx'
      obtain ⟨a1, a2, a3, a4⟩ := h.each j x hx'
      exact ⟨a1, a2, a3, by rw [List.getElem?_append_left (by rw [h.lenp, ← h.len]; exact hj)]; exact a4⟩
    · rw [List.getElem?_append_right (by omega)] at hx'
      have hz : j - S.σ.ones.length = 0 := by
        rcases Nat.eq_zero_or_pos (j - S.σ.ones.length) with h9 | h9
        · exact h9
        · rw [List.getElem?_eq_none (by simp; omega)] at hx'; cases hx'
      rw [hz] at hx'; simp at hx'; subst hx'
      have hj2 : j = up_.length := by rw [← h.len]; omega
      refine ⟨by simp [hl, hj2], ho.1, ho.2, ?_⟩
      rw [List.getElem?_append_right (by rw [h.lenp]; omega), h.lenp, hj2]; simp
  · intro j q hq
    have hq' : (S.σ.add o up.node).tree[j]? = some q := hq
    rcases ha.back hq' with ⟨a1, q', a2, a3, a4⟩ | ⟨a1, a3, a4⟩
    · obtain ⟨u, u1, u2, u3⟩ := h.par j q' a2
      exact ⟨u, by rw [List.getElem?_append_left (by omega)]; exact u1, by rw [a3, a4]; exact u2, by rw [a4]; exact u3⟩
    · refine ⟨if o.free = true then -1 else (p : Int), by rw [List.getElem?_append_right (by omega), a1, hl]; simp, ?_, ?_⟩
      · intro hlk
        rw [a4] at hlk
        have hf : o.free = false := by simpa using hlk
        rw [hf, a3]
        have := (h.each p up hup).1
        exact ⟨by simpa using this, by simp, by simp; omega⟩
      · intro hlk
        rw [a4] at hlk
        have hf : o.free = true := by simpa using hlk
        rw [hf]; simp
theorem fst_new (t : Option Nat) (τ : Tms) (χ : Nat → Ch) (hτ : τ.x.l.length ≤ 1000000) : Fst ⟨Cs.new t, τ, χ⟩ [-1] [true] := by
  have e : treeAdd [] (-1) false = ([⟨-1, false, []⟩], 0, 0) := by simp [treeAdd]
  have eo : (Cs.new t).ones = [{ One.zero with free := true, timer := -1 }] := by simp [Cs.new, Cs.add, One.zero, e]
  have et : (Cs.new t).tree = [⟨-1, false, []⟩] := by simp [Cs.new, Cs.add, One.zero, e]
  refine ⟨wf_new t τ χ hτ, by simp [eo], rfl, rfl, ?_, ?_⟩
  · intro j x hx
    simp only [eo] at hx
    cases j with
    | zero => simp at hx; subst hx; exact ⟨rfl, rfl, rfl, rfl⟩
    | succ j => simp at hx
  · intro j q hq
    simp only [et] at hq
    cases j with
    | zero => simp at hq; subst hq; exact ⟨-1, rfl, fun h => (by cases h), fun _ => rfl⟩
    | succ j => simp at hq
theorem lapsOnly {S : CX} (hw : WF S) (ha : S.σ.afts = []) (err cause : Int) : ∀ l : List Nat, (∀ j ∈ l, j < S.σ.tree.length) → (l.filterMap (lapOf S err cause)).length = l.length
  | [], _ => rfl
  | j :: r, h => by
    have ih := lapsOnly hw ha err cause r fun x hx => h x (by simp [hx])
    rcases hw.cover j (h j (by simp)) with ⟨w, x, c1, c2, c3⟩ | ⟨w, x, _, c2, _⟩
    · have : lapOf S err cause j = some ⟨(w : Int), err, cause, chW S x.c⟩ := by
        unfold lapOf
        have hnn : ¬ ((w : Int) < 0) := by omega
        simp only [c1, Option.getD_some, hnn, if_false, Int.toNat_natCast, c2, Option.map_some]
      rw [List.filterMap_cons, this]; simp [ih]
    · rw [ha] at c2; simp at c2
/-- one is cancelled: who is, who is not, how many -/
theorem Fst.cancel {S : CX} {up : List Int} {plain : List Bool} (h : Fst S up plain) (hch : Chans S) {k : Nat} {x : One} (hx : S.σ.ones[k]? = some x) (hf : x.free = false) {err cause : Int} (herr : err ≠ 0) : ∃ r : CRes, S.cancelP 200 k err cause = some r ∧ WF r.1 ∧ r.1.σ.t = S.σ.t ∧ r.1.σ.ones.length = S.σ.ones.length ∧
    (∀ (j : Nat) (y : One), S.σ.ones[j]? = some y → r.1.σ.ones[j]? = some (if j ∈ pre S.σ.tree 200 k then { y with err := err, cause := cause } else y)) ∧
    r.2.1.length = (pre S.σ.tree 200 k).length ∧ ∃ lp, r.2.1[0]? = some lp ∧ lp.id = (k : Int) := by
  have h1 := h.each k x hx
  have hc := h.wf.cancelP hx h1.1 hf h1.2.1 err cause
  refine ⟨_, hc, ?_⟩
  obtain ⟨w1, w2, w3, w4, w5, w6, w7⟩ := h.wf.walk hx h1.1 hf h1.2.1 herr (r := walked S.σ.tree err cause (fun _ => false) (pre S.σ.tree 200 k) (S, [], [])) rfl
  have hl := h.wf.liveAt hx h1.1 hf h1.2.1 200
  have hnd := pre_nodup h.wf.tr 200 k
  obtain ⟨r1, _⟩ := hits_res (T := S.σ.tree) err cause (pre S.σ.tree 200 k) (S, [], []) h.wf.whos hl hnd hch
  have e21 : (walked S.σ.tree err cause (fun _ => false) (pre S.σ.tree 200 k) (S, [], [])).2.1 = (pre S.σ.tree 200 k).filterMap (lapOf S err cause) := by
    show (List.foldl (hitL err cause) (S, [], []) (pre S.σ.tree 200 k)).2.1 = _
    rw [r1, List.nil_append]
  have hkt : k < S.σ.tree.length := by
    obtain ⟨k', e1, e2, _⟩ := h.wf.who1 k x hx
    have := h1.1; omega
  refine ⟨w1, w3, ?_, ?_, ?_, ?_⟩
  · have a1 := w1.len
    rw [w5, killT_length, h.wf.len, h.afts] at a1
    have a2 : (walked S.σ.tree err cause (fun _ => false) (pre S.σ.tree 200 k) (S, [], [])).1.σ.afts = [] := by
      cases e : (walked S.σ.tree err cause (fun _ => false) (pre S.σ.tree 200 k) (S, [], [])).1.σ.afts with
      | nil => rfl
      | cons a t => have := w7 0; rw [e, h.afts] at this; simp at this
    rw [a2] at a1; simp at a1; omega
  · intro j y hy
    rw [w6, hy, Option.map_some, inL_nat (h.each j y hy).1]
    simp
  · rw [e21]; exact lapsOnly h.wf h.afts err cause _ fun j hj => (pre_ge h.wf.tr _ _ _ hj).2 hkt
  · rw [e21]
    have hpre : pre S.σ.tree 200 k = k :: (kidsOf S.σ.tree (k : Int)).flatMap (pre S.σ.tree 199) := rfl
    rw [hpre]
    obtain ⟨k', e1, _, e2⟩ := h.wf.who1 k x hx
    have : k' = k := by have := h1.1; omega
    subst this
    have : lapOf S err cause k' = some ⟨(k' : Int), err, cause, chW S x.c⟩ := by
      unfold lapOf
      have hnn : ¬ ((k' : Int) < 0) := by omega
      simp only [e2, Option.getD_some, hnn, if_false, Int.toNat_natCast, hx, Option.map_some]
    rw [List.filterMap_cons, this]
    exact ⟨_, rfl, rfl⟩
theorem Fst.count {S : CX} {up : List Int} {plain : List Bool} (h : Fst S up plain) {k : Nat} (hk : k < up.length) : ((List.range up.length).filter fun i => decide (i ∈ pre S.σ.tree 200 k)).length = (pre S.σ.tree 200 k).length := by
  have hl : S.σ.tree.length = up.length := by rw [h.wf.len, h.len, h.afts]; simp
  refine perm_len (List.nodup_range.sublist List.filter_sublist) (pre_nodup h.wf.tr 200 k) fun i => ?_
  simp only [List.mem_filter, List.mem_range, decide_eq_true_eq]
  constructor
  · exact fun h => h.2
  · intro hi
    exact ⟨by rw [← hl]; exact (pre_ge h.wf.tr _ _ _ hi).2 (by omega), hi⟩
/-- one step up -/
theorem Fst.step {S : CX} {up : List Int} {plain : List Bool} (h : Fst S up plain) {k : Nat} (hk : k < up.length) {j : Nat} (hj : j < up.length) : ∃ u, up[j]? = some u ∧ (u = -1 ∨ ∃ p : Nat, u = (p : Int) ∧ p < j) ∧ decide (j ∈ pre S.σ.tree 200 k) = (decide ((j : Int) = (k : Int)) || (decide (0 ≤ u) && decide (u.toNat ∈ pre S.σ.tree 200 k))) := by
  have hl : S.σ.tree.length = up.length := by rw [h.wf.len, h.len, h.afts]; simp
  have hq : S.σ.tree[j]? = some S.σ.tree[j] := List.getElem?_eq_getElem (by omega)
  obtain ⟨u, h1, h2, h3⟩ := h.par j _ hq
  have hb : u = -1 ∨ ∃ p : Nat, u = (p : Int) ∧ p < j := by
    cases hlk : (S.σ.tree[j]).linked
    · exact .inl (h3 hlk)
    · obtain ⟨_, g2, g3⟩ := h2 hlk
      obtain ⟨p, rfl⟩ := Int.eq_ofNat_of_zero_le g2
      exact .inr ⟨p, rfl, by omega⟩
  refine ⟨u, h1, hb, ?_⟩
  have hu := h.und hk j (j + 1) hj (by omega)
  have hnn : ¬ ((j : Int) < 0) := by omega
  rw [← hu]
  simp only [Go.AM.und, hnn, if_false, Int.toNat_natCast]
  have hg : up.getD j (-1) = u := by rw [List.getD_eq_getElem?_getD, h1]; rfl
  rw [hg]
  congr 1
  rcases hb with rfl | ⟨p, rfl, hp⟩
  · cases j <;> simp [Go.AM.und]
  · rw [h.und hk p j (by omega) hp]
    simp
end Go.AM


/- CtxFalls. -/
set_option linter.unusedVariables false
set_option linter.unusedSimpArgs false
namespace Go.AM
variable {N : Nat → Nat} {F : Nat → Option AFn}
structure FaI (c : Nat) (S : CX) (up : List Int) (plain : List Bool) (v10 v11 : AV) (K : Lg) : Prop where
  fst : Fst S up plain
  chn : Chans S
  own : K c = some (.abs (CtxP c S.σ))
  out : OutC c S K
  s10 : OSl K v10 (icl up) up.length 1
  s11 : OSl K v11 (bcl plain) up.length 1
  ap : ∀ b, slB v10 = some b → slB v11 ≠ some b
theorem chans_add {S : CX} {o : One} {p : Int} {χ' : Nat → Ch} (h : Chans S) (he : (S.σ.add o p).ones = S.σ.ones ++ [{ o with node := S.σ.tree.length, timer := -1 }]) (hn : ∀ b, o.c = some b → ∀ (j : Nat) (x : One), S.σ.ones[j]? = some x → x.c ≠ some b) :
    Chans ({ S with σ := S.σ.add o p, χ := χ' } : CX) := by
  have hget : ∀ (j : Nat) (x : One), (S.σ.add o p).ones[j]? = some x → S.σ.ones[j]? = some x ∨ (j = S.σ.ones.length ∧ x.c = o.c) := by
    intro j x hx
    rw [he] at hx
    by_cases hj : j < S.σ.ones.length
    · rw [List.getElem?_append_left hj] at hx; exact .inl hx
    · rw [List.getElem?_append_right (by omega)] at hx
      have hz : j - S.σ.ones.length = 0 := by
        rcases Nat.eq_zero_or_pos (j - S.σ.ones.length) with h9 | h9
        · exact h9
        · rw [List.getElem?_eq_none (by simp; omega)] at hx; cases hx
      rw [hz] at hx; simp at hx; subst hx
      exact .inr ⟨by omega, rfl⟩
  intro i j x y b hx hy h1 h2
  rcases hget i x hx with k1 | ⟨k1, e1⟩ <;> rcases hget j y hy with k2 | ⟨k2, e2⟩
  · exact h i j x y b k1 k2 h1 h2
  · rw [e2] at h2; exact absurd h1 (hn b h2 i x k1)
  · rw [e1] at h1; exact absurd h2 (hn b h1 j y k2)
  · omega
theorem ctxFalls_law {L0 : Lg} (code : F (N k_tarpaulinlaw15_CtxFalls) = some (c_tarpaulinlaw15_CtxFalls N)) (aw : F (N k_tarpaulinlaw15_awake) = some kTrue) (h0 : H_timer_New N F) (h1 : H_ctx_New N F) (h2 : H_ctx_Set_Cancels N F) (h3 : H_ctx_Set_Without N F) (h5 : H_tarpaulinalike_Round N F) (h6 : H_ctx_Set_Cancel N F) (h7 : H_ctx_Set_Err N F) (h8 : H_ctx_Set_Cause N F)
    (ls : List Int) (x0 : AV) (s0 : ArgSl L0 x0 (icl ls) ls.length 1) (ks : List Int) (x1 : AV) (s1 : ArgSl L0 x1 (icl ks) ks.length 1) (at_ cause : Int) : CallL F (N k_tarpaulinlaw15_CtxFalls) [x0, x1, .i .i64 at_, .i .i64 cause] L0 fun v _ => v = .b true := by
  refine CallL.opq ?_
  intro Q hQ
  have fin : ∀ L, fin1 (some (.b true)) Q L := fun L => ⟨L, Sees.refl _, hQ _ _ rfl⟩
  have awk : ∀ L, CallL F (N k_tarpaulinlaw15_awake) [] L fun v17 L17 => fin1 (some v17) Q L17 := by
    intro L
    refine (known2_spec aw _).mono ?_
    rintro _ _ ⟨rfl, rfl⟩
    exact fin _
  apply r_tarpaulinlaw15_CtxFalls code
  unfold D_tarpaulinlaw15_CtxFalls_1 D_tarpaulinlaw15_CtxFalls_2
  by_cases g1 : 40 < ls.length
  · have : (40 : Int) < (ls.length : Int) := by omega
    simpa [initE, s0.len, s1.len, this] using awk _
  by_cases g2 : ks.length < ls.length
  · have g1' : ¬ (40 : Int) < (ls.length : Int) := by omega
    have g2' : (ks.length : Int) < (ls.length : Int) := by omega
    simpa [initE, s0.len, s1.len, g1', g2'] using awk _
  by_cases g3 : 60 < ks.length
  · have g1' : ¬ (40 : Int) < (ls.length : Int) := by omega
    have g2' : ¬ (ks.length : Int) < (ls.length : Int) := by omega
    have g3' : (60 : Int) < (ks.length : Int) := by omega
    simpa [initE, s0.len, s1.len, g1', g2', g3'] using awk _
  have g1' : ¬ (40 : Int) < (ls.length : Int) := by omega
  have g2' : ¬ (ks.length : Int) < (ls.length : Int) := by omega
  have g3' : ¬ (60 : Int) < (ks.length : Int) := by omega
  by_cases g4 : cause < 3
  · simpa [initE, s0.len, s1.len, g1', g2', g3', g4] using awk _
  simp [initE, s0.len, s1.len, g1', g2', g3', g4]
  first | refine ⟨fun h9 => absurd h9 (by omega), fun _ => ?_⟩ | skip
  unfold D_tarpaulinlaw15_CtxFalls_3
  refine (tnew_spec h0).mono ?_
  rintro _ _ ⟨s, hs, rfl, rfl⟩
  have hpt : AV.p (some (s, 0)) = ptr (some s) := rfl
  rw [hpt]
  refine (ctxNew_spec h1 _ (some s)).mono ?_
  rintro _ L1 ⟨c, hc, rfl, hL1⟩
  have hsc : s ≠ c := by rintro rfl; rw [Lg.put_same] at hc; cases hc
  have keep0 : RawK L0 L1 := by
    rw [hL1]; exact (RawK.put L0 hs _).trans (RawK.put _ hc _)
  have hown1 : L1 c = some (.abs (CtxP c (Cs.new (some s)))) := by rw [hL1, Lg.put_same]
  have hout1 : OutC c ⟨Cs.new (some s), ⟨[], ⟨[], 0, fun _ => none⟩, 0⟩, fun _ => Ch.sg⟩ L1 := by
    refine ⟨fun s' hs' => ?_, ?_⟩
    · have : (some s : Option Nat) = some s' := hs'
      cases this
      exact ⟨hsc, by rw [hL1, Lg.put_ne _ _ _ hsc, Lg.put_same]⟩
    · intro o ho a ha
      have : o ∈ ([{ One.zero with free := true, timer := -1 }] : List One) := ho
      simp at this; subst this; cases ha
  have a0 := keep0.argSl s0
  have a1 := keep0.argSl s1
  clear hL1 keep0 hc hs
  unfold D_tarpaulinlaw15_CtxFalls_4
  simp
  unfold D_tarpaulinlaw15_CtxFalls_5
  refine new1 rfl ?_
  intro v10 K1 hs10 hk1 hf1
  unfold D_tarpaulinlaw15_CtxFalls_6
  refine new1 rfl ?_
  intro v11 K2 hs11 hk2 hf2
  unfold D_tarpaulinlaw15_CtxFalls_32 D_tarpaulinlaw15_CtxFalls_34
  have ho1 := hk1.outC (fun b h => by cases h) hown1 hout1
  have ho2 := hk2.outC (fun b h => by cases h) ho1.1 ho1.2
  have a0' := hk2.argSl (hk1.argSl a0 (fun b h => by cases h)) (fun b h => by cases h)
  have a1' := hk2.argSl (hk1.argSl a1 (fun b h => by cases h)) (fun b h => by cases h)
  obtain ⟨I, hI⟩ : ∃ I : Nat → Env → Lg → Prop, I = fun m E K => ∃ (i : Nat) (S : CX) (up : List Int) (plain : List Bool), m + i = ls.length ∧ up.length = i + 1 ∧ FaI c S up plain (E 10) (E 11) K ∧ ArgSl K x0 (icl ls) ls.length 1 ∧ ArgSl K x1 (icl ks) ks.length 1 ∧ E 0 = x0 ∧ E 1 = x1 ∧ E 2 = .i .i64 at_ ∧ E 3 = .i .i64 cause ∧ E 9 = .p (some (c, 0)) ∧ E 12 = .i .i64 i := ⟨_, rfl⟩
  refine loopW_intro I ls.length ?_ ?_
  · rw [hI]
    refine ⟨0, _, [-1], [true], by omega, rfl, ⟨fst_new (some s) ⟨[], ⟨[], 0, fun _ => none⟩, 0⟩ (fun _ => Ch.sg) (by simp), ?_, ho2.1, ho2.2, ?_, ?_, ?_⟩, a0', a1', by simp, by simp, by simp, by simp, by simp, by simp⟩
    · intro i j x y a hx hy q1 q2
      have hx' : ([{ One.zero with free := true, timer := -1 }] : List One)[i]? = some x := hx
      cases i with
      | zero => simp at hx'; subst hx'; cases q1
      | succ i => simp at hx'
    · simpa [icl] using hk2.osl hs10 (fun b _ h => by cases h)
    · simpa [bcl] using hs11
    · intro b hb
      simp at hb
      have := hs10.block hb
      intro h9
      simp at h9
      rw [hf2 b h9] at this; cases this
  intro m E t K hi
  rw [hI] at hi
  obtain ⟨i, S, up, plain, hm, hul, w, b0, b1, e0, e1, e2, e3, e9, e12⟩ := hi
  unfold D_tarpaulinlaw15_CtxFalls_35
  rw [e0, e12]
  simp only [mark_eq, b0.len, wp_lss, condW_d]
  have hSl : S.σ.ones.length = i + 1 := by rw [w.fst.len, hul]
  refine ⟨fun hlt => ?_, fun hnl => ?_⟩
  · have hil : i < ls.length := by omega
    unfold D_tarpaulinlaw15_CtxFalls_39
    rw [e0, e12]
    obtain ⟨q0, f0, f1⟩ := b0.at1 (F := F) hil
    have hg : (icl ls)[i]? = some (.i .i64 ls[i]) := by simp [icl, hil]
    rw [hg] at f1
    have w1 : wr .i64 ((i : Int) + 1) = (i : Int) + 1 := wr_id (by omega) (by omega)
    simp only [mark_eq, f0, wp_ld, f1, retL_some, wp_add, w1]
    refine (round_spec h5 _ ((i : Int) + 1) (by omega) (by omega) _).mono ?_
    rintro _ K' ⟨rfl, rfl⟩
    have hp0 := Int.emod_nonneg ls[i] (by omega : ((i : Int) + 1) ≠ 0)
    have hp1 := Int.emod_lt_of_pos ls[i] (by omega : (0 : Int) < (i : Int) + 1)
    obtain ⟨p, hp⟩ := Int.eq_ofNat_of_zero_le hp0
    rw [hp] at hp1 ⊢
    unfold D_tarpaulinlaw15_CtxFalls_40 D_tarpaulinlaw15_CtxFalls_41
    simp only [Env.put_apply]
    simp only [e1, e12, if_false, reduceIte, Nat.reduceEqDiff]
    obtain ⟨q1, f2, f3⟩ := b1.at1 (F := F) (i := i) (by omega)
    have hg2 : (icl ks)[i]? = some (.i .i64 (ks[i]'(by omega))) := by simp [icl]
    rw [hg2] at f3
    simp only [mark_eq, f2, wp_ld, f3, retL_some]
    refine (round_spec h5 _ 4 (by omega) (by omega) _).mono ?_
    rintro _ K'' ⟨rfl, rfl⟩
    simp only [mark_eq, wp_eql]
    generalize hfr : decide ((ks[i]'(by omega)) % 4 = 0) = free
    have hup : S.σ.ones[p]? = some S.σ.ones[p] := List.getElem?_eq_getElem (by omega)
    generalize hupd : S.σ.ones[p] = upo at hup
    have herr : upo.err = 0 := (w.fst.each p upo hup).2.1
    have hlen64 : S.σ.ones.length < 64 := by omega
    -- what is common behind the making
    have tail : ∀ (S2 : CX) (L2 : Lg) (E2 : Env), CDone c S S2 K'' L2 → Fst S2 (up ++ [if free = true then -1 else (p : Int)]) (plain ++ [free]) → Chans S2 → E2 10 = E 10 → E2 11 = E 11 → E2 0 = x0 → E2 1 = x1 → E2 2 = .i .i64 at_ → E2 3 = .i .i64 cause → E2 9 = .p (some (c, 0)) → E2 12 = .i .i64 i → E2 13 = .i .i64 p → E2 14 = .i .i64 ((i : Int) + 1) → E2 15 = .i .i64 0 → E2 16 = .b free →
        D_tarpaulinlaw15_CtxFalls_43 F N Q (fun l L => ∃ m_1, m_1 < m ∧ I m_1 l L) E2 L2 := by
      intro S2 L2 E2 hd hf2 hch2 k10 k11 k0 k1 k2 k3 k9 k12 k13 k14 k15 k16
      have hraw := hd.rawK w.own w.out
      have t10 := hraw.osl w.s10
      have t11 := hraw.osl w.s11
      have c0 := hraw.argSl b0
      have c1 := hraw.argSl b1
      unfold D_tarpaulinlaw15_CtxFalls_43
      rw [k15, k14, k12, k16, k13, k10, k11]
      have fin2 : ∀ (u : Int) (E3 : Env), u = (if free = true then -1 else (p : Int)) → E3 0 = x0 → E3 1 = x1 → E3 2 = .i .i64 at_ → E3 3 = .i .i64 cause → E3 9 = .p (some (c, 0)) → E3 12 = .i .i64 i → (∀ v8 v10, (Env.put (Env.put E3 10 v8) 11 v10) 0 = E3 0) →
          wpOp F (.bslice [.i .i64 0] 1 1 [0]) [.i .i64 u] L2 fun v7 L7 => wpOp F (.app 1 8) [E 10, v7] L7 fun v8 L8 => wpOp F (.bslice [.b false] 1 1 [0]) [.b free] L8 fun v9 L9 => wpOp F (.app 1 1) [E 11, v9] L9 fun v10 L10 =>
            D_tarpaulinlaw15_CtxFalls_37 F N Q (fun l L => ∃ m_1, m_1 < m ∧ I m_1 l L) (Env.put (Env.put E3 10 v8) 11 v10) L10 := by
        intro u E3 hu j0 j1 j2 j3 j9 j12 _
        refine push1 t10 rfl (by omega) (by omega) ?_
        intro v8 K3 o3 kp3 fr3
        have t11' := kp3.osl t11 (fun b h9 h8 => w.ap b h8 h9)
        refine push1 t11' rfl (by omega) (by omega) ?_
        intro v9 K4 o4 kp4 fr4
        have x1' := kp3.outC t10.rawB hd.own hd.out
        have x2' := kp4.outC t11'.rawB x1'.1 x1'.2
        unfold D_tarpaulinlaw15_CtxFalls_37
        simp only [Env.put_apply]
        simp [j12, w1]
        rw [hI]
        refine ⟨m - 1, by omega, i + 1, S2, up ++ [if free = true then -1 else (p : Int)], plain ++ [free], by omega, by simp [hul], ⟨hf2, hch2, x2'.1, x2'.2, ?_, ?_, ?_⟩, ?_, ?_, by simp [j0], by simp [j1], by simp [j2], by simp [j3], by simp [j9], by simp⟩
        · have h11ne : ∀ b, slB v8 = some b → slB (E 11) ≠ some b := fun b hb h9 => by
            have := t11.block h9
            rw [fr3 b hb] at this; cases this
          have := kp4.osl o3 (fun b h9 => h11ne b h9)
          simpa [icl_snoc, hu] using this
        · simpa [bcl] using o4
        · intro b hb h9
          simp at hb h9
          have := o3.block hb
          rw [fr4 b h9] at this; cases this
        · exact kp4.argSl (kp3.argSl c0 t10.cellsB) t11'.cellsB
        · exact kp4.argSl (kp3.argSl c1 t10.cellsB) t11'.cellsB
      have w1' : wr .i64 ((i : Int) + 1) = (i : Int) + 1 := w1
      cases free with
      | true =>
        have := fin2 (-1) (Env.put E2 13 (.i .i64 (-1))) rfl (by simp [k0]) (by simp [k1]) (by simp [k2]) (by simp [k3]) (by simp [k9]) (by simp [k12]) (by simp)
        simp only [mark_eq, wp_neq, ne_eq, not_true_eq_false, decide_false, gdOp_same, wp_mv, wp_add, w1', wp_pick_f, condW_f, condW_t]
        exact this
      | false =>
        have := fin2 (p : Int) E2 rfl k0 k1 k2 k3 k9 k12 (by simp)
        simp only [mark_eq, wp_neq, ne_eq, not_true_eq_false, decide_false, gdOp_same, wp_mv, wp_add, w1', wp_pick_f, condW_f]
        exact this
    unfold D_tarpaulinlaw15_CtxFalls_42
    simp only [Env.put_apply]
    simp only [e9, if_true, if_false, reduceIte, Nat.reduceEqDiff]
    cases hfree : free with
    | true =>
      have hwo := w.fst.wf.withoutP hup hlen64
      have hadd := w.fst.wf.add (o := { One.zero with free := true }) (χ' := S.χ) hup hlen64 rfl (fun b n hb => hb) (fun b hb => by simp [One.zero] at hb)
      simp only [mark_eq, condW_t]
      refine (without_spec h3 hwo.1 w.own w.out).mono ?_
      rintro _ L2 ⟨rfl, hd⟩
      simp only [mark_eq, wp_ext, List.getElem?_cons_zero, List.getElem?_cons_succ, retL_some]
      refine tail _ L2 _ hd ?_ (chans_add w.chn hadd.2.1 (fun b hb => by simp [One.zero] at hb)) (by simp) (by simp) (by simp [e0]) (by simp [e1]) (by simp [e2]) (by simp [e3]) (by simp [e9]) (by simp [e12]) (by simp) (by simp [hSl]) (by simp) (by simp [hfree])
      have := w.fst.more hup ⟨rfl, rfl⟩ hadd.1 hadd.2.1 hadd.2.2.1
      rw [hfree]; exact this
    | false =>
      simp only [mark_eq, condW_f]
      have hcp := fun a => w.fst.wf.cancelsP hup hlen64 herr a
      refine (cancels_spec h2 (S := S) (fun a _ => ⟨_, (hcp a).1⟩) w.own w.out).mono ?_
      rintro _ L2 ⟨a, r, v1, v2, sts, haK, hr, rfl, hdone, hres⟩
      rw [(hcp a).1] at hr
      cases hr
      have haK' := haK (w.fst.wf.room hup hlen64)
      have hadd := w.fst.wf.add (o := { ({ One.zero with when := upo.when, has := upo.has } : One) with c := some a }) (χ' := updC S.χ a .sg) hup hlen64 rfl (fun b n hb => updC_sizes _ _ _ _ hb) (fun b hb => by simp at hb; subst hb; simp [updC, Ch.sg])
      simp only [mark_eq, wp_ext, List.getElem?_cons_zero, List.getElem?_cons_succ, retL_some]
      refine tail _ L2 _ hdone ?_ (chans_add w.chn hadd.2.1 ?_) (by simp) (by simp) (by simp [e0]) (by simp [e1]) (by simp [e2]) (by simp [e3]) (by simp [e9]) (by simp [e12]) (by simp) (by simp [hSl]) (by simp) (by simp [hfree])
      · have := w.fst.more hup ⟨rfl, rfl⟩ hadd.1 hadd.2.1 hadd.2.2.1
        rw [hfree]; exact this
      · intro b hb j x hx h9
        simp at hb; subst hb
        have := (w.out.chs x (List.mem_of_getElem? hx) _ h9).2.2
        rw [haK'] at this; cases this
  · have hid : i = ls.length := by omega
    clear hI hnl hm I
    unfold D_tarpaulinlaw15_CtxFalls_8
    rw [e2]
    have hup0 : (0 : Int) < (up.length : Int) := by omega
    simp only [mark_eq, w.s10.len]
    refine (round_spec h5 at_ (up.length : Int) hup0 (by omega) _).mono ?_
    rintro _ K' ⟨rfl, rfl⟩
    have hk0 := Int.emod_nonneg at_ (by omega : (up.length : Int) ≠ 0)
    have hk1 := Int.emod_lt_of_pos at_ hup0
    obtain ⟨k, hk⟩ := Int.eq_ofNat_of_zero_le hk0
    rw [hk] at hk1 ⊢
    have hkl : k < up.length := by omega
    have hko : k < S.σ.ones.length := by rw [w.fst.len]; exact hkl
    have hx : S.σ.ones[k]? = some S.σ.ones[k] := List.getElem?_eq_getElem hko
    generalize S.σ.ones[k] = x at hx
    have hea := w.fst.each k x hx
    have hhask : S.σ.has k = true := by unfold Cs.has; simp; omega
    unfold D_tarpaulinlaw15_CtxFalls_9
    simp only [Env.put_apply]
    simp only [e9, e3, if_true, if_false, reduceIte, Nat.reduceEqDiff]
    obtain ⟨q11, f4, f5⟩ := w.s11.at1 (F := F) hkl
    have hg5 : (bcl plain)[k]? = some (.b x.free) := by simp [bcl, hea.2.2.2]
    rw [hg5] at f5
    cases hfr : x.free with
    | true =>
      have hcx : S.cancelX k cause = some (S, [], [], 1) := by
        unfold CX.cancelX
        rw [if_neg (by simp [hhask])]
        simp only [Int.toNat_natCast, hx, hfr, if_true]
      refine (cancelX_spec h6 hcx w.own w.out).mono ?_
      rintro _ K2 ⟨v1, v2, rfl, hdone, hres⟩
      have hraw := hdone.rawK w.own w.out
      have r11 : rdL K2 (q11, k) none = some (.b true) := by
        have t11 := hraw.osl w.s11
        obtain ⟨q', f6, f7⟩ := t11.at1 (F := F) hkl
        have hqq : q' = q11 := by
          have a1 := f6 K2 (fun v _ => v = .p (some (q11, k)))
          have a2 := f4 K2 (fun v _ => v = .p (some (q11, k)))
          rw [a2] at a1
          simp at a1
          exact a1
        rw [hqq] at f7
        rw [f7, hg5, hfr]
      unfold D_tarpaulinlaw15_CtxFalls_10
      simp [f4, r11, hres.len1]
      refine (known2_spec aw _).mono ?_
      rintro _ _ ⟨rfl, rfl⟩
      simpa using fin _
    | false =>
      obtain ⟨r, hr1, hr2, hr3, hr4, hr5, hr6, lp, hr7, hr8⟩ := w.fst.cancel w.chn hx hfr (err := 1) (cause := cause) (by omega)
      have hcx : S.cancelX k cause = some (r.1, r.2.1, r.2.2, 0) := by
        unfold CX.cancelX
        rw [if_neg (by simp [hhask])]
        have h3c : ¬ cause < 1 := by omega
        simp only [Int.toNat_natCast, hx, hfr, h3c, if_false, hr1]
        rfl
      refine (cancelX_spec h6 hcx w.own w.out).mono ?_
      rintro _ K2 ⟨v1, v2, rfl, hdone, ps, hps, hres⟩
      simp only at hps hres
      have hdone : CDone c S r.1 _ K2 := hdone
      have hraw := hdone.rawK w.own w.out
      have t10 := hraw.osl w.s10
      have r11 : rdL K2 (q11, k) none = some (.b false) := by
        have t11 := hraw.osl w.s11
        obtain ⟨q', f6, f7⟩ := t11.at1 (F := F) hkl
        have hqq : q' = q11 := by
          have a1 := f6 K2 (fun v _ => v = .p (some (q11, k)))
          have a2 := f4 K2 (fun v _ => v = .p (some (q11, k)))
          rw [a2] at a1
          simp at a1
          exact a1
        rw [hqq] at f7
        rw [f7, hg5, hfr]
      have hpl : ps.length = (pre S.σ.tree 200 k).length := by rw [← hr6, ← hps]; simp
      simp only [mark_eq, wp_ext, List.getElem?_cons_zero, List.getElem?_cons_succ, retL_some]
      unfold D_tarpaulinlaw15_CtxFalls_10
      simp [f4, r11]
      unfold D_tarpaulinlaw15_CtxFalls_11
      simp
      unfold D_tarpaulinlaw15_CtxFalls_12 D_tarpaulinlaw15_CtxFalls_16 D_tarpaulinlaw15_CtxFalls_18
      generalize hPre : pre S.σ.tree 200 k = P at *
      generalize hE0 : Env.put (Env.put (Env.put (Env.put (Env.put E 17 (.i .i64 k)) 18 v1) 20 (.i .i64 0)) 21 (.i .i64 0)) 22 (.i .i64 0) = E0
      have d3 : E0 3 = .i .i64 cause := by rw [← hE0]; simpa using e3
      have d9 : E0 9 = .p (some (c, 0)) := by rw [← hE0]; simpa using e9
      have d10 : E0 10 = E 10 := by rw [← hE0]; simp
      have d17 : E0 17 = .i .i64 k := by rw [← hE0]; simp
      have d18 : E0 18 = v1 := by rw [← hE0]; simp
      have d21 : E0 21 = .i .i64 (0 : Nat) := by rw [← hE0]; simp
      have d22 : E0 22 = .i .i64 (0 : Nat) := by rw [← hE0]; simp
      clear hE0
      obtain ⟨I, hI⟩ : ∃ I : Nat → Env → Lg → Prop, I = fun m E' K' => ∃ j : Nat, m + j = up.length ∧ K' = K2 ∧ E' 3 = .i .i64 cause ∧ E' 9 = .p (some (c, 0)) ∧ E' 10 = E 10 ∧ E' 17 = .i .i64 k ∧ E' 18 = v1 ∧ E' 21 = .i .i64 ((List.range j).filter fun i => decide (i ∈ P)).length ∧ E' 22 = .i .i64 j := ⟨_, rfl⟩
      refine loopW_intro I up.length ?_ ?_
      · rw [hI]; exact ⟨0, by omega, rfl, d3, d9, d10, d17, d18, by simpa using d21, d22⟩
      clear d3 d9 d10 d17 d18 d21 d22 E0
      intro m E' t' K3 hi
      rw [hI] at hi
      obtain ⟨j, hm, rfl, x3, x9, x10, x17, x18, x21, x22⟩ := hi
      unfold D_tarpaulinlaw15_CtxFalls_19
      rw [x10, x22]
      simp only [mark_eq, t10.len, wp_lss, condW_d]
      refine ⟨fun hlt => ?_, fun hnl => ?_⟩
      · have hj : j < up.length := by omega
        unfold D_tarpaulinlaw15_CtxFalls_23 D_tarpaulinlaw15_CtxFalls_28 D_tarpaulinlaw15_CtxFalls_30
        generalize hE1 : Env.put (Env.put E' 23 (.b false)) 24 ((Env.put E' 23 (.b false)) 22) = E1
        have y3 : E1 3 = .i .i64 cause := by rw [← hE1]; simpa using x3
        have y9 : E1 9 = .p (some (c, 0)) := by rw [← hE1]; simpa using x9
        have y10 : E1 10 = E 10 := by rw [← hE1]; simpa using x10
        have y17 : E1 17 = .i .i64 k := by rw [← hE1]; simpa using x17
        have y18 : E1 18 = v1 := by rw [← hE1]; simpa using x18
        have y21 : E1 21 = .i .i64 ((List.range j).filter fun i => decide (i ∈ P)).length := by rw [← hE1]; simpa using x21
        have y22 : E1 22 = .i .i64 j := by rw [← hE1]; simpa using x22
        have y23 : E1 23 = .b false := by rw [← hE1]; simp
        have y24 : E1 24 = .i .i64 j := by rw [← hE1]; simpa using x22
        clear hE1
        obtain ⟨J, hJ⟩ : ∃ J : Nat → Env → Lg → Prop, J = fun n E' K' => ∃ (u : Bool) (a : Int), K' = K3 ∧ ((a = -1 ∧ n = 0) ∨ ∃ q : Nat, a = (q : Int) ∧ n = q + 1 ∧ q < up.length) ∧ (u || (decide (0 ≤ a) && decide (a.toNat ∈ P))) = decide (j ∈ P) ∧ E' 3 = .i .i64 cause ∧ E' 9 = .p (some (c, 0)) ∧ E' 10 = E 10 ∧ E' 17 = .i .i64 k ∧ E' 18 = v1 ∧ E' 21 = .i .i64 ((List.range j).filter fun i => decide (i ∈ P)).length ∧ E' 22 = .i .i64 j ∧ E' 23 = .b u ∧ E' 24 = .i .i64 a := ⟨_, rfl⟩
        refine loopW_intro J (j + 1) ?_ ?_
        · rw [hJ]; exact ⟨false, j, rfl, .inr ⟨j, rfl, rfl, hj⟩, by simp, y3, y9, y10, y17, y18, y21, y22, y23, y24⟩
        clear y3 y9 y10 y17 y18 y21 y22 y23 y24 E1 x3 x9 x10 x17 x18 x21 x22 E'
        intro n E' t3 K4 hi
        rw [hJ] at hi
        obtain ⟨u, a, rfl, hpos, hinv, x3, x9, x10, x17, x18, x21, x22, x23, x24⟩ := hi
        unfold D_tarpaulinlaw15_CtxFalls_31
        rw [x23, x24, x17, x10]
        simp only [mark_eq, wp_geq, condW_d]
        refine ⟨fun hge => ?_, fun hneg => ?_⟩
        · rcases hpos with ⟨rfl, _⟩ | ⟨q, rfl, hn, hq⟩
          · omega
          obtain ⟨un, u1, u2, u3⟩ := w.fst.step hkl hq
          rw [hPre] at u3
          obtain ⟨qb, f8, f9⟩ := t10.at1 (F := F) hq
          have hg9 : (icl up)[q]? = some (.i .i64 un) := by simp [icl, u1]
          rw [hg9] at f9
          have fin3 : ∀ E3 : Env, E3 = Env.put (Env.put E' 23 (.b (u || decide ((q : Int) = (k : Int))))) 24 (.i .i64 un) → ∃ m_1, m_1 < n ∧ J m_1 E3 K4 := by
            rintro E3 rfl
            rw [hJ]
            have hinv2 : ((u || decide ((q : Int) = (k : Int))) || (decide (0 ≤ un) && decide (un.toNat ∈ P))) = decide (j ∈ P) := by
              rw [← hinv]
              have : (decide (0 ≤ (q : Int)) && decide ((q : Int).toNat ∈ P)) = decide (q ∈ P) := by simp
              rw [this, u3, Bool.or_assoc]
            rcases u2 with rfl | ⟨p, rfl, hp⟩
            · exact ⟨0, by omega, _, -1, rfl, .inl ⟨rfl, rfl⟩, hinv2, by simp [x3], by simp [x9], by simp [x10], by simp [x17], by simp [x18], by simp [x21], by simp [x22], by simp, by simp⟩
            · exact ⟨p + 1, by omega, _, p, rfl, .inr ⟨p, rfl, rfl, by omega⟩, hinv2, by simp [x3], by simp [x9], by simp [x10], by simp [x17], by simp [x18], by simp [x21], by simp [x22], by simp, by simp⟩
          cases u with
          | true =>
            simp only [gdOp_tf, mark_eq, wp_pick_t, f8, wp_ld, f9, retL_some]
            exact fin3 _ (by simp)
          | false =>
            simp only [gdOp_same, mark_eq, wp_mv, wp_eql, wp_pick_f, f8, wp_ld, f9, retL_some]
            exact fin3 _ (by simp)
        · have ha : a = -1 := by
            rcases hpos with ⟨rfl, _⟩ | ⟨q, rfl, _⟩
            · rfl
            · omega
          subst ha
          have hu : u = decide (j ∈ P) := by simpa using hinv
          clear hinv hpos hJ J
          have hjo : j < S.σ.ones.length := by rw [w.fst.len]; exact hj
          have hy : S.σ.ones[j]? = some S.σ.ones[j] := List.getElem?_eq_getElem hjo
          generalize S.σ.ones[j] = y at hy
          have hyy := w.fst.each j y hy
          have hy2 := hr5 j y hy
          have hhasj : r.1.σ.has (j : Int) = true := by unfold Cs.has; rw [hr4]; simp; omega
          have honej : r.1.σ.one (j : Int) = some (if j ∈ P then { y with err := 1, cause := cause } else y) := by simp only [Cs.one, hhasj, if_true, Int.toNat_natCast]; exact hy2
          obtain ⟨z, hz1, hz2, hz3⟩ : ∃ z, r.1.σ.one (j : Int) = some z ∧ z.err = (if j ∈ P then 1 else 0) ∧ z.cause = (if j ∈ P then cause else 0) := by
            refine ⟨_, honej, ?_, ?_⟩
            · split
              · rfl
              · exact hyy.2.1
            · split
              · rfl
              · exact hyy.2.2.1
          unfold D_tarpaulinlaw15_CtxFalls_25
          rw [x9, x22]
          refine (ctxErr_spec h7 hdone.own _).mono ?_
          rintro _ K5 ⟨rfl, rfl⟩
          rw [hz1, hhasj]
          simp only [hz2]
          simp only [mark_eq, wp_ext, List.getElem?_cons_zero, List.getElem?_cons_succ, retL_some]
          unfold D_tarpaulinlaw15_CtxFalls_26
          simp only [Env.put_apply]
          simp only [x9, x22, if_true, if_false, reduceIte, Nat.reduceEqDiff]
          refine (ctxCause_spec h8 hdone.own _).mono ?_
          rintro _ K6 ⟨rfl, rfl⟩
          rw [hz1, hhasj]
          simp only [hz3]
          simp only [mark_eq, wp_ext, List.getElem?_cons_zero, List.getElem?_cons_succ, retL_some]
          unfold D_tarpaulinlaw15_CtxFalls_27
          have w22 : wr .i64 ((j : Int) + 1) = ((j + 1 : Nat) : Int) := by rw [wr_id (by omega) (by omega)]; omega
          have hrng : (List.range (j + 1)).filter (fun i => decide (i ∈ P)) = (List.range j).filter (fun i => decide (i ∈ P)) ++ if j ∈ P then [j] else [] := by
            rw [List.range_succ, List.filter_append]
            congr 1
            by_cases hh : j ∈ P <;> simp [hh]
          by_cases hh : j ∈ P
          · have hcn : ¬ cause = 0 := by omega
            have hfl : (((List.range j).filter fun i => decide (i ∈ P)).length : Int) ≤ 100 := by
              have := (List.filter_sublist (p := fun i => decide (i ∈ P)) (l := List.range j)).length_le
              simp at this; omega
            have w21 : wr .i64 ((((List.range j).filter fun i => decide (i ∈ P)).length : Int) + 1) = (((List.range (j + 1)).filter fun i => decide (i ∈ P)).length : Int) := by
              rw [wr_id (by omega) (by omega), hrng, if_pos hh]; simp
            simp [hu, hh, x23, x3, x21]
            unfold D_tarpaulinlaw15_CtxFalls_21
            simp only [Env.put_apply]
            simp [x22, w22]
            rw [hI]
            refine ⟨m - 1, by omega, j + 1, by omega, rfl, by simp [x3], by simp [x9], by simp [x10], by simp [x17], by simp [x18], ?_, by simp⟩
            simpa using w21
          · have hcn : ¬ (0 : Int) = cause := by omega
            simp [hu, hh, x23, x3, hcn]
            unfold D_tarpaulinlaw15_CtxFalls_21
            simp only [Env.put_apply]
            simp [x22, w22]
            rw [hI]
            refine ⟨m - 1, by omega, j + 1, by omega, rfl, by simp [x3], by simp [x9], by simp [x10], by simp [x17], by simp [x18], ?_, by simp⟩
            rw [hrng, if_neg hh]; simpa using x21
      · have hj : j = up.length := by omega
        subst hj
        rw [x3, x9, x17, x18, x21]
        have hcnt := w.fst.count hkl
        rw [hPre] at hcnt
        rw [hcnt]
        unfold D_tarpaulinlaw15_CtxFalls_14
        simp only [mark_eq, wp_add]
        have hxk := hr5 k x hx
        have hkP : k ∈ P := by
          rw [← hPre]
          show k ∈ k :: (kidsOf S.σ.tree (k : Int)).flatMap (pre S.σ.tree 199)
          simp
        rw [if_pos hkP] at hxk
        have hhask2 : r.1.σ.has k = true := by unfold Cs.has; rw [hr4]; simp; omega
        have hcx2 : ∀ z, r.1.cancelX k z = some (r.1, [], [], 0) := by
          intro z
          unfold CX.cancelX
          rw [if_neg (by simp [hhask2])]
          simp only [Int.toNat_natCast, hxk, hfr]
          rw [CX.cancelP_dead (n := 199) hxk (.inr (by simp))]
          rfl
        refine (cancelX_spec h6 (hcx2 _) hdone.own hdone.out).mono ?_
        rintro _ K5 ⟨w1, w2, rfl, hdone2, hres2⟩
        have hdone2 : CDone c r.1 r.1 _ K5 := hdone2
        have hraw2 := hdone2.rawK hdone.own hdone.out
        have hres' := hraw2.resP hres
        simp only [mark_eq, wp_ext, List.getElem?_cons_zero, List.getElem?_cons_succ, retL_some]
        unfold D_tarpaulinlaw15_CtxFalls_15
        refine (ctxCause_spec h8 hdone2.own _).mono ?_
        rintro _ K6 ⟨rfl, rfl⟩
        have honek : r.1.σ.one (k : Int) = some { x with err := 1, cause := cause } := by simp only [Cs.one, hhask2, if_true, Int.toNat_natCast]; exact hxk
        rw [honek, hhask2]
        have hp0 : ∃ p0, ps[0]? = some p0 ∧ p0.1.id = (k : Int) := by
          have := congrArg (fun l => l[0]?) hps
          simp only [List.getElem?_map] at this
          rw [hr7] at this
          cases e : ps[0]? with
          | none => rw [e] at this; cases this
          | some p0 => rw [e] at this; simp at this; exact ⟨p0, rfl, by rw [this]; exact hr8⟩
        obtain ⟨p0, hp0, hp1⟩ := hp0
        obtain ⟨bb, g1b, g2b, g3b⟩ := hres'.get (F := F) hp0
        have c0 := g3b K6 rfl 0 (by omega)
        simp only [lapc, List.getElem?_cons_zero, Nat.add_zero, Nat.zero_mul, hp1] at c0
        have g2b' : ∀ (X : Lg) (kk : AV → Lg → Prop), wpOp F (.iad 4) [v1, .i .i64 0] X kk = kk (.p (some (bb, 0))) X := fun X kk => by simpa using g2b X kk
        simp [hres'.o1.len, hpl, g2b', c0, hres2.len1]
        refine (known2_spec aw _).mono ?_
        rintro _ _ ⟨rfl, rfl⟩
        simpa using fin _
end Go.AM

