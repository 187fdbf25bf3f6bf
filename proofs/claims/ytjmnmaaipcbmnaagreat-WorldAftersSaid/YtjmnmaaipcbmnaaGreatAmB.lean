/- The relation between the abstract machine's memory and the model's, and what a step may do to it. Plain theorems over definitions; no program in sight. -/
import Derived.Test.YtjmnmaaipcbmnaaGreatAmA
import Derived.Below
import Derived.Laws.CopyRow
import Derived.Laws.Append
import Derived.Orders
set_option linter.unusedVariables false
set_option linter.unusedSimpArgs false
namespace Go.AM
open Go.RowKit (Below)

/-! ### finite maps -/
theorem PM.get_mkL {α : Type} (u : Option α) (l r : PM α) (n : Nat) : (PM.mkL u l r).get n = (PM.node u l r).get n := by
  cases l <;> rfl
theorem PM.get_mkR {α : Type} (u : Option α) (l r : PM α) (n : Nat) : (PM.mkR u l r).get n = (PM.node u l r).get n := by
  cases r <;> rfl
theorem PM.get_node {α : Type} (u : Option α) (l r : PM α) (n : Nat) :
    (PM.node u l r).get n = if n = 0 then u else if n % 2 = 1 then l.get (n / 2) else r.get (n / 2 - 1) := by
  show (bif Nat.beq n 0 then u else bif Nat.beq (n % 2) 1 then l.get (n / 2) else r.get (n / 2 - 1)) = _
  by_cases h : n = 0
  · subst h; rfl
  · have h0 : Nat.beq n 0 = false := by
      cases hb : Nat.beq n 0
      · rfl
      · exact absurd (Nat.eq_of_beq_eq_true hb) h
    rw [if_neg h, h0]
    by_cases h1 : n % 2 = 1
    · rw [if_pos h1, h1]; rfl
    · have : n % 2 = 0 := by omega
      rw [if_neg h1, this]; rfl
theorem PM.get_nil {α : Type} (n : Nat) : (PM.nil : PM α).get n = none := rfl
theorem PM.get_put {α : Type} (v : Option α) : ∀ (f : Nat) (t : PM α) (n m : Nat), n < f → (PM.put v f t n).get m = if m = n then v else t.get m := by
  intro f
  induction f with
  | zero => intro t n m h; omega
  | succ f ih =>
    intro t n m h
    have h2 : n % 2 < 2 := Nat.mod_lt _ (by omega)
    cases t with
    | nil =>
      show (bif Nat.beq n 0 then PM.node v .nil .nil else bif Nat.beq (n % 2) 1 then PM.mkL none (PM.put v f .nil (n / 2)) .nil else PM.mkR none .nil (PM.put v f .nil (n / 2 - 1))).get m = _
      by_cases h0 : n = 0
      · subst h0
        show (PM.node v .nil .nil).get m = _
        rw [PM.get_node]
        by_cases hm : m = 0
        · simp [hm]
        · simp [hm, PM.get_nil]
      · have hb : Nat.beq n 0 = false := by
          cases hb : Nat.beq n 0
          · rfl
          · exact absurd (Nat.eq_of_beq_eq_true hb) h0
        rw [hb]
        by_cases h1 : n % 2 = 1
        · rw [h1]
          show (PM.mkL none (PM.put v f .nil (n / 2)) .nil).get m = _
          rw [PM.get_mkL, PM.get_node, ih _ _ _ (by omega)]
          by_cases hm : m = n
          · subst hm; simp [h0, h1]
          · simp only [hm, if_false, PM.get_nil]
            repeat' split
            all_goals first | rfl | (exfalso; omega)
        · have h10 : n % 2 = 0 := by omega
          rw [h10]
          show (PM.mkR none .nil (PM.put v f .nil (n / 2 - 1))).get m = _
          rw [PM.get_mkR, PM.get_node, ih _ _ _ (by omega)]
          by_cases hm : m = n
          · subst hm; simp [h0, h1]
          · simp only [hm, if_false, PM.get_nil]
            repeat' split
            all_goals first | rfl | (exfalso; omega)
    | node u l r =>
      show (bif Nat.beq n 0 then PM.node v l r else bif Nat.beq (n % 2) 1 then PM.mkL u (PM.put v f l (n / 2)) r else PM.mkR u l (PM.put v f r (n / 2 - 1))).get m = _
      by_cases h0 : n = 0
      · subst h0
        show (PM.node v l r).get m = _
        rw [PM.get_node, PM.get_node]
        by_cases hm : m = 0
        · simp [hm]
        · simp [hm]
      · have hb : Nat.beq n 0 = false := by
          cases hb : Nat.beq n 0
          · rfl
          · exact absurd (Nat.eq_of_beq_eq_true hb) h0
        rw [hb]
        by_cases h1 : n % 2 = 1
        · rw [h1]
          show (PM.mkL u (PM.put v f l (n / 2)) r).get m = _
          rw [PM.get_mkL, PM.get_node, PM.get_node, ih _ _ _ (by omega)]
          by_cases hm : m = n
          · subst hm; simp [h0, h1]
          · simp only [hm, if_false]
            repeat' split
            all_goals first | rfl | (exfalso; omega)
        · have h10 : n % 2 = 0 := by omega
          rw [h10]
          show (PM.mkR u l (PM.put v f r (n / 2 - 1))).get m = _
          rw [PM.get_mkR, PM.get_node, PM.get_node, ih _ _ _ (by omega)]
          by_cases hm : m = n
          · subst hm; simp [h0, h1]
          · simp only [hm, if_false]
            repeat' split
            all_goals first | rfl | (exfalso; omega)
theorem PM.get_set {α : Type} (t : PM α) (n m : Nat) (v : Option α) : (t.set n v).get m = if m = n then v else t.get m :=
  PM.get_put v (n + 1) t n m (by omega)

/-! ### values -/
/-- Where each name lies: a block, where in it, and how many cells there are from there on. -/
abbrev Bt := Nat → Option (Nat × Nat × Nat)

mutual
inductive VR (β : Bt) : AV → Value → Prop
  | bad (v : Value) : VR β .bad v
  | b (x : Bool) : VR β (.b x) (.bool x)
  | i (k : IntKind) (n : Int) : VR β (.i k n) (.int k n)
  | s (l : List UInt8) : VR β (.s l) (.string ⟨l.toArray⟩)
  | pn : VR β (.p none) (.pointer none)
  | p {n k b o z : Nat} (h : β n = some (b, o, z)) : VR β (.p (some (n, k))) (.pointer (some ⟨b, o + k, none⟩))
  | sln : VR β (.sl none 0 0 0) (.slice none 0 0)
  | sl {n k b o z len c c' off e : Nat} (h : β n = some (b, o, z)) (hl : len ≤ c) (hc : c ≤ c') (he : e = 0 → c' = c) (hz : e ≠ 0 → k + c' * e ≤ z) (ha : c' = 0 ∨ off = o + k) :
      VR β (.sl (some (n, k)) len c e) (.slice (some ⟨b, off, none⟩) len c')
  | mn : VR β (.m none) (.map none)
  | m {n b z : Nat} (h : β n = some (b, 0, z)) : VR β (.m (some n)) (.map (some b))
  | fn (f : Nat) {fs cs : List AV} {fs' cs' : Array Value} (h1 : VRs β fs fs'.toList) (h2 : VRs β cs cs'.toList) : VR β (.fn f fs cs) (.func (.func f) fs' cs')
  | nilf : VR β .nilf .nilFunc
  | ifc (t : Nat) {v : AV} {v' : Value} (h : VR β v v') : VR β (.ifc t v) (.iface t v')
  | nili : VR β .nili .nilIface
  | agg {l : List AV} {l' : Array Value} (h : VRs β l l'.toList) : VR β (.agg l) (.agg l')
  | tup {l : List AV} {l' : Array Value} (h : VRs β l l'.toList) : VR β (.tup l) (.tuple l')
inductive VRs (β : Bt) : List AV → List Value → Prop
  | nil : VRs β [] []
  | cons {v : AV} {v' : Value} {l : List AV} {l' : List Value} (h : VR β v v') (t : VRs β l l') : VRs β (v :: l) (v' :: l')
end

def Ext (β γ : Bt) : Prop := ∀ n x, β n = some x → γ n = some x
theorem Ext.refl (β : Bt) : Ext β β := fun _ _ h => h
theorem Ext.trans {β γ δ : Bt} (h : Ext β γ) (k : Ext γ δ) : Ext β δ := fun n x e => k n x (h n x e)

mutual
theorem VR.mono {β γ : Bt} (e : Ext β γ) {v : AV} {v' : Value} : VR β v v' → VR γ v v'
  | .bad v => .bad v
  | .b x => .b x
  | .i k n => .i k n
  | .s l => .s l
  | .pn => .pn
  | .p h => .p (e _ _ h)
  | .sln => .sln
  | .sl h hl hc he hz ha => .sl (e _ _ h) hl hc he hz ha
  | .mn => .mn
  | .m h => .m (e _ _ h)
  | .fn f h1 h2 => .fn f (VRs.mono e h1) (VRs.mono e h2)
  | .nilf => .nilf
  | .ifc t h => .ifc t (VR.mono e h)
  | .nili => .nili
  | .agg h => .agg (VRs.mono e h)
  | .tup h => .tup (VRs.mono e h)
theorem VRs.mono {β γ : Bt} (e : Ext β γ) {l : List AV} {l' : List Value} : VRs β l l' → VRs γ l l'
  | .nil => .nil
  | .cons h t => .cons (VR.mono e h) (VRs.mono e t)
end

theorem VRs.length {β : Bt} : ∀ {l : List AV} {l' : List Value}, VRs β l l' → l.length = l'.length
  | _, _, .nil => rfl
  | _, _, .cons _ t => by simp [VRs.length t]
theorem VRs.get {β : Bt} : ∀ {l : List AV} {l' : List Value} (_ : VRs β l l') {i : Nat} {v : AV}, l[i]? = some v → ∃ v', l'[i]? = some v' ∧ VR β v v'
  | _, _, .nil, i, v, h => by simp at h
  | _, _, .cons hv t, 0, v, h => by simp at h; subst h; exact ⟨_, rfl, hv⟩
  | _, _, .cons _ t, i + 1, v, h => by
    obtain ⟨v', h1, h2⟩ := VRs.get t (i := i) (by simpa using h)
    exact ⟨v', by simpa using h1, h2⟩
theorem VRs.of_get {β : Bt} : ∀ {l : List AV} {l' : List Value}, l.length = l'.length → (∀ (i : Nat) v v', l[i]? = some v → l'[i]? = some v' → VR β v v') → VRs β l l'
  | [], [], _, _ => .nil
  | [], _ :: _, h, _ => by simp at h
  | _ :: _, [], h, _ => by simp at h
  | v :: l, v' :: l', h, k => .cons (k 0 v v' rfl rfl) (VRs.of_get (by simpa using h) fun i a b ha hb => k (i + 1) a b (by simpa using ha) (by simpa using hb))
theorem VRs.append {β : Bt} : ∀ {l : List AV} {l' : List Value} {m : List AV} {m' : List Value}, VRs β l l' → VRs β m m' → VRs β (l ++ m) (l' ++ m')
  | _, _, _, _, .nil, h => h
  | _, _, _, _, .cons hv t, h => .cons hv (VRs.append t h)
theorem VRs.take {β : Bt} : ∀ (n : Nat) {l : List AV} {l' : List Value}, VRs β l l' → VRs β (l.take n) (l'.take n)
  | 0, _, _, _ => by simp; exact .nil
  | n + 1, _, _, .nil => by simp; exact .nil
  | n + 1, _, _, .cons hv t => by simp; exact .cons hv (VRs.take n t)
theorem VRs.drop {β : Bt} : ∀ (n : Nat) {l : List AV} {l' : List Value}, VRs β l l' → VRs β (l.drop n) (l'.drop n)
  | 0, _, _, h => by simpa using h
  | n + 1, _, _, .nil => by simp; exact .nil
  | n + 1, _, _, .cons hv t => by simpa using VRs.drop n t

theorem VR.one {β : Bt} {v : AV} {v' : Value} (h : VR β v v') (h1 : v.one = true) : v'.oneCell' = true := by
  cases h <;> first | rfl | (simp [AV.one] at h1)
theorem VRs.ones {β : Bt} : ∀ {l : List AV} {l' : List Value}, VRs β l l' → l.all AV.one = true → ∀ v ∈ l', v.oneCell' = true
  | _, _, .nil, _, v, hv => by simp at hv
  | _, _, .cons h t, h1, v, hv => by
    simp only [List.all_cons, Bool.and_eq_true] at h1
    rcases List.mem_cons.1 hv with rfl | hv
    · exact h.one h1.1
    · exact VRs.ones t h1.2 v hv
theorem VR.cells {β : Bt} {v : AV} {v' : Value} {l : List AV} (h : VR β v v') (hc : v.cellsOf = some l) : VRs β l v'.cells.toList ∧ l.all AV.one = true := by
  cases h with
  | agg h =>
    simp only [AV.cellsOf] at hc
    rename_i m m'
    cases hm : m.all AV.one
    · rw [hm] at hc; simp at hc
    · rw [hm] at hc; simp at hc; subst hc; exact ⟨h, hm⟩
  | tup h => simp [AV.cellsOf] at hc
  | bad => simp [AV.cellsOf] at hc
  | _ => simp only [AV.cellsOf, Option.some.injEq] at hc; subst hc; exact ⟨.cons (by constructor <;> assumption) .nil, rfl⟩

/-! ### blocks -/
def CellsR (β : Bt) (c : List AV) (o : Nat) (cur : Array Value) : Prop := ∀ (i : Nat) v, c[i]? = some v → ∃ u, cur[o + i]? = some u ∧ VR β v u
inductive MapR (β : Bt) : List (AV × AV) → List MapEntry → Prop
  | nil : MapR β [] []
  | cons {k : IntKind} {n : Int} {v : AV} {v' : Value} {bn : Nat} {es : List (AV × AV)} {es' : List MapEntry} (h : VR β v v') (t : MapR β es es') : MapR β ((.i k n, v) :: es) (⟨.int k n, v', bn⟩ :: es')
theorem CellsR.mono {β γ : Bt} (e : Ext β γ) {c : List AV} {o : Nat} {cur : Array Value} (h : CellsR β c o cur) : CellsR γ c o cur :=
  fun i v hv => let ⟨u, h1, h2⟩ := h i v hv; ⟨u, h1, h2.mono e⟩
theorem MapR.mono {β γ : Bt} (e : Ext β γ) : ∀ {es : List (AV × AV)} {es' : List MapEntry}, MapR β es es' → MapR γ es es'
  | _, _, .nil => .nil
  | _, _, .cons h t => .cons (h.mono e) (MapR.mono e t)

def AB.own : AB → Bool
  | .ro _ => false
  | _ => true

/-- A block of the abstract machine, and what lies at a place of the model's memory. -/
def BR (β : Bt) (B0 : Nat) (heap : Array Obj) (b o z : Nat) : AB → Prop
  | .cells c => B0 ≤ b ∧ ∃ cur t, heap[b]? = some (.cells cur t (0, 0)) ∧ o + z ≤ cur.size ∧ CellsR β c o cur
  | .ro c => ∃ cur t fr, heap[b]? = some (.cells cur t fr) ∧ CellsR β c o cur
  | .map es => B0 ≤ b ∧ o = 0 ∧ ∃ ES clk, heap[b]? = some (.map ES clk) ∧ MapR β es ES.toList
theorem BR.mono {β γ : Bt} (e : Ext β γ) {B0 : Nat} {heap : Array Obj} {b o z : Nat} : ∀ {blk : AB}, BR β B0 heap b o z blk → BR γ B0 heap b o z blk
  | .cells _, ⟨h0, cur, t, h1, hz, h2⟩ => ⟨h0, cur, t, h1, hz, h2.mono e⟩
  | .ro _, ⟨cur, t, fr, h1, h2⟩ => ⟨cur, t, fr, h1, h2.mono e⟩
  | .map _, ⟨h0, ho, ES, clk, h1, h2⟩ => ⟨h0, ho, ES, clk, h1, h2.mono e⟩
theorem BR.congr {β : Bt} {B0 : Nat} {heap heap' : Array Obj} {b o z : Nat} (h : heap'[b]? = heap[b]?) : ∀ {blk : AB}, BR β B0 heap b o z blk → BR β B0 heap' b o z blk
  | .cells _, ⟨h0, cur, t, h1, hz, h2⟩ => ⟨h0, cur, t, h.trans h1, hz, h2⟩
  | .ro _, ⟨cur, t, fr, h1, h2⟩ => ⟨cur, t, fr, h.trans h1, h2⟩
  | .map _, ⟨h0, ho, ES, clk, h1, h2⟩ => ⟨h0, ho, ES, clk, h.trans h1, h2⟩
theorem BR.lt {β : Bt} {B0 : Nat} {heap : Array Obj} {b o z : Nat} : ∀ {blk : AB}, BR β B0 heap b o z blk → b < heap.size
  | .cells _, ⟨_, _, _, h1, _, _⟩ => (Array.getElem?_eq_some_iff.1 h1).1
  | .ro _, ⟨_, _, _, h1, _⟩ => (Array.getElem?_eq_some_iff.1 h1).1
  | .map _, ⟨_, _, _, _, h1, _⟩ => (Array.getElem?_eq_some_iff.1 h1).1
theorem BR.le {β : Bt} {B0 : Nat} {heap : Array Obj} {b o z : Nat} : ∀ {blk : AB}, BR β B0 heap b o z blk → blk.own = true → B0 ≤ b
  | .cells _, h, _ => h.1
  | .map _, h, _ => h.1
  | .ro _, _, h => by simp [AB.own] at h

/-- The whole memory. -/
structure Rel (β : Bt) (B0 : Nat) (h : PM AB) (w : World) : Prop where
  blk : ∀ n bl b o z, h.get n = some bl → β n = some (b, o, z) → BR β B0 w.heap b o z bl
  inj : ∀ n m bl bm b x y, h.get n = some bl → h.get m = some bm → bl.own = true → β n = some (b, x) → β m = some (b, y) → n = m
  lt : ∀ n b x, β n = some (b, x) → b < w.heap.size
  le : B0 ≤ w.heap.size

/-- Is block b one of the machine's own that lives? -/
def Own (β : Bt) (h : PM AB) (b : Nat) : Prop := ∃ n bl x, h.get n = some bl ∧ bl.own = true ∧ β n = some (b, x)

/-- From one state to a later one. -/
structure Stp (B0 : Nat) (β : Bt) (S : St) (w : World) (γ : Bt) (S' : St) (w' : World) : Prop where
  ext : Ext β γ
  dom : ∀ n, β n = none → γ n ≠ none → S.nx ≤ n ∧ n < S'.nx
  rel : Rel γ B0 S'.h w'
  bel : Below B0 w w'
  fr : ∀ b, b < w.heap.size → ¬ Own β S.h b → w'.heap[b]? = w.heap[b]?
  src : ∀ b, Own γ S'.h b → w.heap.size ≤ b ∨ Own β S.h b
  ph : ∀ n, n < S.nx → β n = none → S'.h.get n = S.h.get n
  nx : S.nx ≤ S'.nx

/-- Names that are still free for this step. -/
def Free (β : Bt) (n m : Nat) : Prop := ∀ k, n ≤ k → k < m → β k = none

theorem Stp.refl {B0 : Nat} {β : Bt} {S : St} {w : World} (h : Rel β B0 S.h w) : Stp B0 β S w β S w :=
  ⟨Ext.refl β, fun n h1 h2 => absurd h1 h2, h, Below.refl _ _, fun _ _ _ => rfl, fun b hb => .inr hb, fun _ _ _ => rfl, Nat.le_refl _⟩
theorem Stp.trans {B0 : Nat} {β γ δ : Bt} {S S1 S2 : St} {w w1 w2 : World} (h : Stp B0 β S w γ S1 w1) (k : Stp B0 γ S1 w1 δ S2 w2) : Stp B0 β S w δ S2 w2 where
  ext := h.ext.trans k.ext
  dom := fun n h1 h2 => by
    cases hg : γ n with
    | none => have := k.dom n hg h2; have := h.nx; exact ⟨by omega, by omega⟩
    | some x => have := h.dom n h1 (by simp [hg]); have := k.nx; exact ⟨by omega, by omega⟩
  rel := k.rel
  bel := h.bel.trans k.bel
  fr := fun b hb hn => by
    rw [k.fr b (Nat.lt_of_lt_of_le hb h.bel.size) (fun ho => (h.src b ho).elim (fun h' => absurd hb (by omega)) hn), h.fr b hb hn]
  src := fun b hb => by
    rcases k.src b hb with h' | h'
    · exact .inl (Nat.le_trans h.bel.size h')
    · exact h.src b h'
  ph := fun n hn hb => by
    have hg : γ n = none := by
      cases hg : γ n with
      | none => rfl
      | some x => have := h.dom n hb (by simp [hg]); omega
    rw [k.ph n (Nat.lt_of_lt_of_le hn h.nx) hg, h.ph n hn hb]
  nx := Nat.le_trans h.nx k.nx
theorem Free.left {β : Bt} {n m k : Nat} (h : Free β n k) (hm : m ≤ k) : Free β n m := fun j h1 h2 => h j h1 (by omega)
theorem Free.right {B0 : Nat} {β γ : Bt} {S S' : St} {w w' : World} {m : Nat} (h : Free β S.nx m) (hs : Stp B0 β S w γ S' w') : Free γ S'.nx m := fun j h1 h2 => by
  cases hg : γ j with
  | none => rfl
  | some x =>
    have h0 : β j = none := h j (Nat.le_trans hs.nx h1) h2
    have := hs.dom j h0 (by simp [hg])
    omega
end Go.AM
