/- a row's arguments: slices of structs of scalars. -/
import Derived.Test.YtijhjfpiglaleaaLgR
import Derived.ChangeArms
set_option linter.unusedVariables false
namespace Go.AM
open Go.RowKit
theorem flat_get {X : Type} {f : X → List AV} {z : Nat} : ∀ (l : List X), (∀ x ∈ l, (f x).length = z) → ∀ (k : Nat) (v : AV), (l.flatMap f)[k]? = some v → ∃ i j x, l[i]? = some x ∧ (f x)[j]? = some v ∧ k = i * z + j
  | [], _, k, v, h => by simp at h
  | y :: r, hz, k, v, h => by
    have hy := hz y (by simp)
    rw [List.flatMap_cons] at h
    by_cases hk : k < z
    · rw [List.getElem?_append_left (by omega)] at h
      exact ⟨0, k, y, rfl, h, by omega⟩
    · rw [List.getElem?_append_right (by omega), hy] at h
      obtain ⟨i, j, x, h1, h2, h3⟩ := flat_get r (fun x hx => hz x (by simp [hx])) (k - z) v h
      exact ⟨i + 1, j, x, by simpa using h1, h2, by rw [Nat.add_mul]; omega⟩
theorem flat_len {X : Type} {f : X → List AV} {z : Nat} : ∀ (l : List X), (∀ x ∈ l, (f x).length = z) → (l.flatMap f).length = l.length * z
  | [], _ => by simp
  | y :: r, hz => by
    rw [List.flatMap_cons, List.length_append, hz y (by simp), flat_len r (fun x hx => hz x (by simp [hx])), List.length_cons, Nat.add_mul]
    omega
/-- a slice of what is open by f -/
theorem AR.rows {X : Type} [Inhabited X] (f : X → List AV) {z : Nat} {H : Type} {enc : TypeId × Value → H} {P : Program} {W : World} {S : St} {β : Bt} {L : Lg} (h : AR W S β L) {t e : TypeId} {v : Value} {d : DataW H} {ps : List MemPlace} (ht : P.underlying t = some (.slice e)) (hc : P.cellsOf e = z) (hfz : ∀ x, (f x).length = z)
    (hX : ∀ n cs y, DataW.trod enc P W 0 (fun _ => true) true n e cs = some y → ∃ x, VRs (fun _ => none) (f x) cs) {base : Nat} (hval : Value.okWide P W .any base t v) (hd : DataW.Trod enc P W 0 (fun _ => true) true t v d ps) :
    ∃ (l : List X) (S' : St) (β' : Bt) (L' : Lg) (a : AV), AR W S' β' L' ∧ Ext β β' ∧ Ext2 L L' ∧ VR β' a v ∧ ArgSl L' a (l.flatMap f) l.length z := by
  obtain ⟨a0, len, cap, rfl⟩ := Go.WideShapes.okWide_slice ht hval
  obtain ⟨fuel, hf⟩ := hd
  have hf : DataW.trod enc P W 0 (fun _ => true) true fuel t [.slice a0 len cap] = some (d, ps) := hf
  rcases DataW.trod_slice ht hf with ⟨h0, _⟩ | ⟨a, len', cap', elems, rest, n, _, h0, _, hb, hl, hm, hlen, hel, _, _⟩
  · cases h0
    exact ⟨[], S, β, L, _, h, Ext.refl β, Ext2.refl L, .sln, by simp, .inl ⟨rfl, rfl⟩⟩
  · cases h0
    have hok : Cell.ok P W .any base t (.slice (some a) len cap) := by
      simp only [Value.okWide, ht, Cell.okWide] at hval
      exact hval
    simp only [Cell.ok, ht] at hok
    obtain ⟨_, _, _, hsp, row, cells, hsh, _⟩ := hok
    obtain ⟨ab, aoff, asp⟩ := a
    simp only at hsp
    subst hsp
    have hsh' : ∃ cur t fr, W.heap[ab]? = some (.cells cur t fr) := by
      unfold World.shape? at hsh
      split at hsh
      · rename_i cur el fr hh; exact ⟨_, _, _, hh⟩
      · cases hsh
    obtain ⟨cur, tt, fr, hh⟩ := hsh'
    have hx : ∀ i, ∃ x : X, i < len → ∀ (j : Nat) (u : AV), (f x)[j]? = some u → ∃ w, cur[aoff + (i * z + j)]? = some w ∧ VR (fun _ => none) u w := by
      intro i
      by_cases hi : i < len
      · have h1 := hel i hi
        have h2 : ∃ y, elems[i]? = some y := ⟨_, List.getElem?_eq_getElem (by omega)⟩
        obtain ⟨y, hy⟩ := h2
        rw [hy, Option.bind_eq_some_iff] at h1
        obtain ⟨cs, hcs, hty⟩ := h1
        obtain ⟨x, hxv⟩ := hX _ _ _ hty
        refine ⟨x, fun _ j u hu => ?_⟩
        obtain ⟨w, hw, hr⟩ := hxv.get hu
        refine ⟨w, ?_, hr⟩
        unfold World.cells? at hcs
        rw [if_pos (by omega)] at hcs
        have hjz : j < z := by have := (List.getElem?_eq_some_iff.1 hu).1; rw [hfz] at this; exact this
        have := mapM_some_get hcs j j (by simp [hc, hjz])
        rw [hw, hc, Go.WideShapes.add_plain, Go.WideShapes.add_plain] at this
        simp only [World.cell?, hh, Option.isSome_none, Bool.false_eq_true, if_false] at this
        rw [← this, Nat.add_assoc]
      · exact ⟨default, fun h9 => absurd h9 hi⟩
    obtain ⟨g, hg⟩ := Classical.axiomOfChoice hx
    have hall : ∀ x ∈ (List.range len).map g, (f x).length = z := fun x _ => hfz x
    have hcr : CellsR β (((List.range len).map g).flatMap f) aoff cur := by
      intro k u hu
      obtain ⟨i, j, x, h1, h2, h3⟩ := flat_get _ hall k u hu
      rw [List.getElem?_map] at h1
      simp only [Option.map_eq_some_iff] at h1
      obtain ⟨i', h4, h5⟩ := h1
      have hi : i < len ∧ i' = i := by
        have h6 := List.getElem?_eq_some_iff.1 h4
        obtain ⟨h7, h8⟩ := h6
        simp at h7 h8
        exact ⟨h7, h8.symm⟩
      obtain ⟨hi, rfl⟩ := hi
      subst h5
      obtain ⟨w, hw, hr⟩ := hg i' hi j u h2
      rw [h3]
      exact ⟨w, hw, hr.mono (fun _ _ h9 => by cases h9)⟩
    have hlen2 : ((List.range len).map g).length = len := by simp
    refine ⟨(List.range len).map g, _, _, _, .sl (some (S.nx, 0)) len cap 0, h.slice hh hcr, h.ext _, ?_, ?_, ?_⟩
    · exact (Ext2.refl L).put (h.mod.fresh (Nat.le_refl _)) _
    · exact .sl (b := ab) (o := aoff) (z := 0) (by simp [Bt.put]) hl (Nat.le_refl _) (fun _ => rfl) (fun h9 => absurd rfl h9) (.inr (by simp))
    · exact ⟨flat_len _ hall, .inr ⟨S.nx, cap, by rw [hlen2], Lg.put_same _ _ _⟩⟩
/-- a struct of three numbers -/
def t3 (x : Int × Int × Int) : List AV := [.i .i64 x.1, .i .i64 x.2.1, .i .i64 x.2.2]
def tcl (l : List (Int × Int × Int)) : List AV := l.flatMap t3
theorem open_t3 {H : Type} {enc : TypeId × Value → H} {P : Program} {W : World} {e ti : TypeId} {fs : Array Field} (he : P.underlying e = some (.struct fs)) (h3 : fs.size = 3) (hfs : ∀ (i : Nat) (f : Field), fs[i]? = some f → f.offset = i ∧ f.type = ti) (hi : P.underlying ti = some (.int .i64)) (hc1 : P.cellsOf ti = 1) (hc3 : P.cellsOf e = 3)
    (n : Nat) (cs : List Value) (y : DataW H × List MemPlace) (h : DataW.trod enc P W 0 (fun _ => true) true n e cs = some y) : ∃ x, VRs (fun _ => none) (t3 x) cs := by
  obtain ⟨xs, m, _, _, hl, hxl, hf⟩ := DataW.trod_struct he h
  rw [hc3] at hl
  match cs, hl with
  | [c0, c1, c2], _ =>
    have one : ∀ i, i < 3 → ∃ k, ([c0, c1, c2].drop i).take 1 = [.int .i64 k] := by
      intro i hi3
      have h5 : ∃ f, fs[i]? = some f := ⟨_, Array.getElem?_eq_getElem (by omega)⟩
      obtain ⟨f, hfi⟩ := h5
      have h6 := hf i f hfi
      obtain ⟨o1, o2⟩ := hfs i f hfi
      rw [o1, o2, hc1] at h6
      have h7 : ∃ y, xs[i]? = some y := ⟨_, List.getElem?_eq_getElem (by omega)⟩
      obtain ⟨y', hy'⟩ := h7
      rw [hy'] at h6
      obtain ⟨k, hk, _⟩ := DataW.trod_int hi h6
      exact ⟨k, hk⟩
    obtain ⟨k0, e0⟩ := one 0 (by omega)
    obtain ⟨k1, e1⟩ := one 1 (by omega)
    obtain ⟨k2, e2⟩ := one 2 (by omega)
    simp at e0 e1 e2
    subst e0 e1 e2
    exact ⟨(k0, k1, k2), .cons (.i _ _) (.cons (.i _ _) (.cons (.i _ _) .nil))⟩
theorem AR.acts {H : Type} {enc : TypeId × Value → H} {P : Program} {W : World} {S : St} {β : Bt} {L : Lg} (h : AR W S β L) {t e ti : TypeId} {fs : Array Field} {v : Value} {d : DataW H} {ps : List MemPlace} (ht : P.underlying t = some (.slice e)) (he : P.underlying e = some (.struct fs)) (h3 : fs.size = 3) (hfs : ∀ (i : Nat) (f : Field), fs[i]? = some f → f.offset = i ∧ f.type = ti)
    (hi : P.underlying ti = some (.int .i64)) (hc1 : P.cellsOf ti = 1) (hc3 : P.cellsOf e = 3) {base : Nat} (hval : Value.okWide P W .any base t v) (hd : DataW.Trod enc P W 0 (fun _ => true) true t v d ps) :
    ∃ (l : List (Int × Int × Int)) (S' : St) (β' : Bt) (L' : Lg) (a : AV), AR W S' β' L' ∧ Ext β β' ∧ Ext2 L L' ∧ VR β' a v ∧ ArgSl L' a (tcl l) l.length 3 :=
  h.rows t3 ht hc3 (fun x => rfl) (fun n cs y hy => open_t3 he h3 hfs hi hc1 hc3 n cs y hy) hval hd
end Go.AM
