/- The texts LgR, LibSlice, LibSignal, LgT, LgO, LibEnd, LibEndB, LibEndC, LibTree, LibTreeB, LibTreeC, LibCtxA, LibCtxB, LibCtxC, LibCtxD, LibCtxE, LibCtxF, LibCtxG, LibCtxH, LibCtxI, LibCtxJ, LibCtxK, LibCtxL, LibCtxM, LibCtxN, LibCtxO, LibCtxP, LibLaw, GenE, LibLapseA, LibLapseB, LibLapseC, LawLapseBehind, LawLapseOdd of a proof of LapseOdd, merged. -/
import Derived.Test.YtbmgljppafggbaaLapseOddG1
import Derived.ChangeSlices
import Derived.WideShapes
import Derived.ChangeOld
import Derived.Carry
import Derived.ChangeArms
import Derived.KernelRfl
/- a row's arguments: slices that are read only. -/
set_option linter.unusedVariables false
namespace Go.AM
open Go.RowKit

/-- what stands for the arguments' memory -/
structure AR (W : World) (S : St) (β : Bt) (L : Lg) : Prop where
  mod : Mod S L
  rel : Rel β W.heap.size S.h W
  wf : S.wf
  free : ∀ k, S.nx ≤ k → β k = none
theorem AR.nil (W : World) : AR W ⟨.nil, 0⟩ (fun _ => none) Lg.nil := ⟨mod_nil 0, rel_nil W, wf_nil 0, fun _ _ => rfl⟩
def Bt.put (β : Bt) (n : Nat) (x : Nat × Nat × Nat) : Bt := fun m => if m = n then some x else β m
theorem AR.ext {W : World} {S : St} {β : Bt} {L : Lg} (h : AR W S β L) (x : Nat × Nat × Nat) : Ext β (Bt.put β S.nx x) := by
  intro n y e
  unfold Bt.put
  split
  · rename_i h9; subst h9; rw [h.free _ (Nat.le_refl _)] at e; cases e
  · exact e
theorem AR.slice {W : World} {S : St} {β : Bt} {L : Lg} (h : AR W S β L) {b off : Nat} {c : List AV} {cur t fr} (hb : W.heap[b]? = some (.cells cur t fr)) (hc : CellsR β c off cur) :
    AR W ⟨S.h.set S.nx (some (.ro c)), S.nx + 1⟩ (Bt.put β S.nx (b, off, 0)) (L.put S.nx (.raw (.ro c))) := by
  have he := h.ext (b, off, 0)
  have hlt : b < W.heap.size := (Array.getElem?_eq_some_iff.1 hb).1
  refine ⟨h.mod.new _, ⟨?_, ?_, ?_, h.rel.le⟩, ?_, ?_⟩
  · intro n bl b' o z hg hn
    rw [PM.get_set] at hg
    unfold Bt.put at hn
    split at hg
    · rename_i h9
      rw [if_pos h9] at hn
      cases hg; cases hn
      exact ⟨cur, t, fr, hb, hc.mono he⟩
    · rename_i h9
      rw [if_neg h9] at hn
      exact (h.rel.blk n bl b' o z hg hn).mono he
  · intro n m bl bm b' x y hg hm ho hn hm2
    rw [PM.get_set] at hg hm
    unfold Bt.put at hn hm2
    split at hg
    · cases hg; simp [AB.own] at ho
    · rename_i h9
      rw [if_neg h9] at hn
      have hbase := (h.rel.blk n bl b' x.1 x.2 hg hn).le ho
      split at hm
      · rename_i h8
        rw [if_pos h8] at hm2
        simp only [Option.some.injEq, Prod.mk.injEq] at hm2
        have := hm2.1
        have h3 := h.rel.lt n b' x hn
        have h4 := h.rel.le
        omega
      · rename_i h8
        rw [if_neg h8] at hm2
        exact h.rel.inj n m bl bm b' x y hg hm ho hn hm2
  · intro n b' x hn
    unfold Bt.put at hn
    split at hn
    · cases hn; exact hlt
    · exact h.rel.lt n b' x hn
  · intro n bl hg
    rw [PM.get_set] at hg
    split at hg
    · rename_i h9; subst h9; exact Nat.lt_succ_self _
    · exact Nat.lt_succ_of_lt (h.wf n bl hg)
  · intro k hk
    have h9 : k ≠ S.nx := by have : S.nx + 1 ≤ k := hk; omega
    unfold Bt.put
    rw [if_neg h9]
    exact h.free k (by have : S.nx + 1 ≤ k := hk; omega)
/-- a call that answers true, at a row's arguments -/
theorem AR.calls {W : World} {S : St} {β : Bt} {L : Lg} (h : AR W S β L) {P : Program} {F : Nat → Option AFn} (hm : P.follows .mixedOrders = true) (hF : TblOk P F) {f : Nat} {vs : List AV} {as : Array Value} (hv : VRs β vs as.toList)
    (hc : CallL F f vs L fun v _ => v = .b true) : Calls P f as W fun e w' => e = .returned (.bool true) ∧ Below W.heap.size W w' := by
  obtain ⟨n, v, S', h1, L', h2, rfl⟩ := hc S h.mod
  exact calls_true hm hF h1 h.wf hv h.rel (fun k h3 _ => h.free k h3)
/-- a slice's stand-in -/
def ArgSl (L : Lg) (v : AV) (cs : List AV) (n size : Nat) : Prop := cs.length = n * size ∧ ((n = 0 ∧ v = .sl none 0 0 0) ∨ ∃ b cap, v = .sl (some (b, 0)) n cap 0 ∧ L b = some (.raw (.ro cs)))
theorem ArgSl.len {F : Nat → Option AFn} {L : Lg} {a : AV} {cs : List AV} {n size : Nat} (h : ArgSl L a cs n size) (M : Lg) (k : AV → Lg → Prop) : wpOp F .lenSl [a] M k = k (.i .i64 n) M := by
  obtain ⟨_, ⟨rfl, rfl⟩ | ⟨b, cap, rfl, _⟩⟩ := h
  · simp
  · simp
theorem ArgSl.get {L : Lg} {a : AV} {cs : List AV} {n size : Nat} (h : ArgSl L a cs n size) {i : Nat} (hi : i < n) : ∃ b cap, a = .sl (some (b, 0)) n cap 0 ∧ L b = some (.raw (.ro cs)) := by
  obtain ⟨_, ⟨rfl, rfl⟩ | ⟨b, cap, rfl, e⟩⟩ := h
  · omega
  · exact ⟨b, cap, rfl, e⟩
theorem ArgSl.ext {L L' : Lg} {v : AV} {cs : List AV} {n size : Nat} (h : ArgSl L v cs n size) (e : Ext2 L L') : ArgSl L' v cs n size := by
  obtain ⟨h1, h2 | ⟨b, cap, h2, h3⟩⟩ := h
  · exact ⟨h1, .inl h2⟩
  · exact ⟨h1, .inr ⟨b, cap, h2, e b _ h3⟩⟩
def icl (l : List Int) : List AV := l.map fun n => .i .i64 n
/-- a slice of numbers among the arguments -/
theorem AR.ints {H : Type} {enc : TypeId × Value → H} {P : Program} {W : World} {S : St} {β : Bt} {L : Lg} (h : AR W S β L) {t e : TypeId} {v : Value} {d : DataW H} {ps : List MemPlace} (ht : P.underlying t = some (.slice e)) (he : P.underlying e = some (.int .i64)) (hc : P.cellsOf e = 1)
    {base : Nat} (hval : Value.okWide P W .any base t v) (hd : DataW.Trod enc P W 0 (fun _ => true) true t v d ps) :
    ∃ (l : List Int) (S' : St) (β' : Bt) (L' : Lg) (a : AV), AR W S' β' L' ∧ Ext β β' ∧ Ext2 L L' ∧ VR β' a v ∧ ArgSl L' a (icl l) l.length 1 := by
  obtain ⟨a0, len, cap, rfl⟩ := Go.WideShapes.okWide_slice ht hval
  obtain ⟨fuel, hf⟩ := hd
  have hf : DataW.trod enc P W 0 (fun _ => true) true fuel t [.slice a0 len cap] = some (d, ps) := hf
  rcases Go.ChangeShapes.open_ints ht he hc hf with ⟨h0, _⟩ | ⟨a, len', cap', zs, h0, hb, hl, hm, hz, _, hcell, hw⟩
  · cases h0
    exact ⟨[], S, β, L, _, h, Ext.refl β, Ext2.refl L, .sln, by simp [icl], .inl ⟨rfl, rfl⟩⟩
  · cases h0
    have hok : Cell.ok P W .any base t (.slice (some a) len cap) := by
      simp only [Value.okWide, ht, Cell.okWide] at hval
      exact hval
    simp only [Cell.ok, ht] at hok
    obtain ⟨_, _, _, hsp, row, cells, hsh, _⟩ := hok
    obtain ⟨ab, aoff, asp⟩ := a
    simp only at hsp
    subst hsp
    have hsh' : ∃ cur t fr, W.heap[ab]? = some (.cells cur t fr) := by
      unfold World.shape? at hsh
      split at hsh
      · rename_i cur el fr hh; exact ⟨_, _, _, hh⟩
      · cases hsh
    obtain ⟨cur, tt, fr, hh⟩ := hsh'
    have hzl : zs.length = cap := by simpa using hz
    have hcr : CellsR β (icl (zs.take len)) aoff cur := by
      intro i x hx
      unfold icl at hx
      rw [List.getElem?_map] at hx
      simp only [Option.map_eq_some_iff] at hx
      obtain ⟨n, hn, rfl⟩ := hx
      have hi : i < zs.length := by
        have := (List.getElem?_eq_some_iff.1 hn).1
        simp at this; omega
      have := hcell i hi
      refine ⟨.int .i64 n, ?_, .i _ _⟩
      rw [Go.WideShapes.add_plain] at this
      simp only [World.cell?, hh, Option.isSome_none, Bool.false_eq_true, if_false] at this
      rw [this]
      have h5 : zs[i]? = some n := by
        rw [List.getElem?_take] at hn
        split at hn
        · exact hn
        · cases hn
      simp [List.getD, h5]
    have hlen : (zs.take len).length = len := by simp; omega
    refine ⟨zs.take len, _, _, _, .sl (some (S.nx, 0)) len cap 0, h.slice hh hcr, h.ext _, ?_, ?_, ?_⟩
    · exact (Ext2.refl L).put (h.mod.fresh (Nat.le_refl _)) _
    · exact .sl (b := ab) (o := aoff) (z := 0) (by simp [Bt.put]) hl (Nat.le_refl _) (fun _ => rfl) (fun h9 => absurd rfl h9) (.inr (by simp))
    · refine ⟨by simp [icl], .inr ⟨S.nx, cap, by rw [hlen], Lg.put_same _ _ _⟩⟩
end Go.AM

/- slices of numbers of one's own, with room behind them: Index, Clone. -/
set_option linter.unusedVariables false
set_option linter.unusedSimpArgs false
namespace Go.AM
variable {N : Nat → Nat} {F : Nat → Option AFn}
/-- a slice's value, its numbers, and the block it lies in -/
def KSl (v : AV) (l : List Int) (bo : Option Nat) (K : Lg) : Prop := match bo with
  | none => v = .sl none 0 0 0 ∧ l = []
  | some b => ∃ cap sp ex, v = .sl (some (b, 0)) l.length cap ex ∧ K b = some (.raw (.cells (icl l ++ sp))) ∧ l.length + sp.length = cap ∧ (ex = 0 ∨ ex = 1)
theorem icl_length (l : List Int) : (icl l).length = l.length := by simp [icl]
theorem KSl.len {v : AV} {l : List Int} {bo : Option Nat} {L : Lg} (h : KSl v l bo L) (M : Lg) (k : AV → Lg → Prop) : wpOp F .lenSl [v] M k = k (.i .i64 l.length) M := by
  cases bo with
  | none => obtain ⟨rfl, rfl⟩ := h; simp
  | some b => obtain ⟨cap, sp, ex, rfl, _⟩ := h; simp
theorem KSl.cells {b cap : Nat} {l : List Int} {sp : List AV} {K : Lg} (hb : K b = some (.raw (.cells (icl l ++ sp)))) : rdCellsL K (some (b, 0)) (l.length * 1) = some (icl l) := by
  have : l.length ≤ (icl l ++ sp).length := by rw [List.length_append, icl_length]; omega
  simp only [rdCellsL, hb, AB.read, cut, ble_nat, Nat.zero_add, Nat.mul_one, this, decide_true, cond_true, List.drop_zero]
  rw [← icl_length l, List.take_left]
end Go.AM


/- chanq: signals: Signal, End. -/
set_option linter.unusedVariables false
set_option linter.unusedSimpArgs false
namespace Go.AM
variable {N : Nat → Nat} {F : Nat → Option AFn} {L : Lg}
/-- a slice of those who wake, as it may be read -/
def SlK (L : Lg) (s : AV) (ws : List Wk) : Prop := (ws = [] ∧ s = .sl none 0 0 0) ∨ ∃ b ex, s = .sl (some (b, 0)) ws.length ws.length ex ∧ L b = some (.raw (.cells (wkcells ws)))
section
variable {c rg q1 q2 : Nat} {x : Ch} {K : Lg} {Q : AV → Lg → Prop}
/-- a slice of wakes of one's own, apart from a channel and from what was -/
structure EI (L : Lg) (c rg q1 q2 : Nat) (x : Ch) (acc : List Wk) (v : AV) (K : Lg) : Prop where
  op : COpen L c x rg q1 q2 K
  own : OwnSl K v (wkcells acc) acc.length 5
  ap : ∀ b, slB v = some b → b ≠ c ∧ b ≠ rg ∧ b ≠ q1 ∧ b ≠ q2 ∧ L b = Option.none
end
end Go.AM


/- a row's arguments: slices of structs of scalars. -/
set_option linter.unusedVariables false
namespace Go.AM
open Go.RowKit
theorem flat_get {X : Type} {f : X → List AV} {z : Nat} : ∀ (l : List X), (∀ x ∈ l, (f x).length = z) → ∀ (k : Nat) (v : AV), (l.flatMap f)[k]? = some v → ∃ i j x, l[i]? = some x ∧ (f x)[j]? = some v ∧ k = i * z + j
  | [], _, k, v, h => by simp at h
  | y :: r, hz, k, v, h => by
    have hy := hz y (by simp)
    rw [List.flatMap_cons] at h
    by_cases hk : k < z
    · rw [List.getElem?_append_left (by omega)] at h
      exact ⟨0, k, y, rfl, h, by omega⟩
    · rw [List.getElem?_append_right (by omega), hy] at h
      obtain ⟨i, j, x, h1, h2, h3⟩ := flat_get r (fun x hx => hz x (by simp [hx])) (k - z) v h
      exact ⟨i + 1, j, x, by simpa using h1, h2, by rw [Nat.add_mul]; omega⟩
theorem flat_len {X : Type} {f : X → List AV} {z : Nat} : ∀ (l : List X), (∀ x ∈ l, (f x).length = z) → (l.flatMap f).length = l.length * z
  | [], _ => by simp
  | y :: r, hz => by
    rw [List.flatMap_cons, List.length_append, hz y (by simp), flat_len r (fun x hx => hz x (by simp [hx])), List.length_cons, Nat.add_mul]
    omega
/-- a slice of what is open by f -/
theorem AR.rows {X : Type} [Inhabited X] (f : X → List AV) {z : Nat} {H : Type} {enc : TypeId × Value → H} {P : Program} {W : World} {S : St} {β : Bt} {L : Lg} (h : AR W S β L) {t e : TypeId} {v : Value} {d : DataW H} {ps : List MemPlace} (ht : P.underlying t = some (.slice e)) (hc : P.cellsOf e = z) (hfz : ∀ x, (f x).length = z)
    (hX : ∀ n cs y, DataW.trod enc P W 0 (fun _ => true) true n e cs = some y → ∃ x, VRs (fun _ => none) (f x) cs) {base : Nat} (hval : Value.okWide P W .any base t v) (hd : DataW.Trod enc P W 0 (fun _ => true) true t v d ps) :
    ∃ (l : List X) (S' : St) (β' : Bt) (L' : Lg) (a : AV), AR W S' β' L' ∧ Ext β β' ∧ Ext2 L L' ∧ VR β' a v ∧ ArgSl L' a (l.flatMap f) l.length z := by
  obtain ⟨a0, len, cap, rfl⟩ := Go.WideShapes.okWide_slice ht hval
  obtain ⟨fuel, hf⟩ := hd
  have hf : DataW.trod enc P W 0 (fun _ => true) true fuel t [.slice a0 len cap] = some (d, ps) := hf
  rcases DataW.trod_slice ht hf with ⟨h0, _⟩ | ⟨a, len', cap', elems, rest, n, _, h0, _, hb, hl, hm, hlen, hel, _, _⟩
  · cases h0
    exact ⟨[], S, β, L, _, h, Ext.refl β, Ext2.refl L, .sln, by simp, .inl ⟨rfl, rfl⟩⟩
  · cases h0
    have hok : Cell.ok P W .any base t (.slice (some a) len cap) := by
      simp only [Value.okWide, ht, Cell.okWide] at hval
      exact hval
    simp only [Cell.ok, ht] at hok
    obtain ⟨_, _, _, hsp, row, cells, hsh, _⟩ := hok
    obtain ⟨ab, aoff, asp⟩ := a
    simp only at hsp
    subst hsp
    have hsh' : ∃ cur t fr, W.heap[ab]? = some (.cells cur t fr) := by
      unfold World.shape? at hsh
      split at hsh
      · rename_i cur el fr hh; exact ⟨_, _, _, hh⟩
      · cases hsh
    obtain ⟨cur, tt, fr, hh⟩ := hsh'
    have hx : ∀ i, ∃ x : X, i < len → ∀ (j : Nat) (u : AV), (f x)[j]? = some u → ∃ w, cur[aoff + (i * z + j)]? = some w ∧ VR (fun _ => none) u w := by
      intro i
      by_cases hi : i < len
      · have h1 := hel i hi
        have h2 : ∃ y, elems[i]? = some y := ⟨_, List.getElem?_eq_getElem (by omega)⟩
        obtain ⟨y, hy⟩ := h2
        rw [hy, Option.bind_eq_some_iff] at h1
        obtain ⟨cs, hcs, hty⟩ := h1
        obtain ⟨x, hxv⟩ := hX _ _ _ hty
        refine ⟨x, fun _ j u hu => ?_⟩
        obtain ⟨w, hw, hr⟩ := hxv.get hu
        refine ⟨w, ?_, hr⟩
        unfold World.cells? at hcs
        rw [if_pos (by omega)] at hcs
        have hjz : j < z := by have := (List.getElem?_eq_some_iff.1 hu).1; rw [hfz] at this; exact this
        have := mapM_some_get hcs j j (by simp [hc, hjz])
        rw [hw, hc, Go.WideShapes.add_plain, Go.WideShapes.add_plain] at this
        simp only [World.cell?, hh, Option.isSome_none, Bool.false_eq_true, if_false] at this
        rw [← this, Nat.add_assoc]
      · exact ⟨default, fun h9 => absurd h9 hi⟩
    obtain ⟨g, hg⟩ := Classical.axiomOfChoice hx
    have hall : ∀ x ∈ (List.range len).map g, (f x).length = z := fun x _ => hfz x
    have hcr : CellsR β (((List.range len).map g).flatMap f) aoff cur := by
      intro k u hu
      obtain ⟨i, j, x, h1, h2, h3⟩ := flat_get _ hall k u hu
      rw [List.getElem?_map] at h1
      simp only [Option.map_eq_some_iff] at h1
      obtain ⟨i', h4, h5⟩ := h1
      have hi : i < len ∧ i' = i := by
        have h6 := List.getElem?_eq_some_iff.1 h4
        obtain ⟨h7, h8⟩ := h6
        simp at h7 h8
        exact ⟨h7, h8.symm⟩
      obtain ⟨hi, rfl⟩ := hi
      subst h5
      obtain ⟨w, hw, hr⟩ := hg i' hi j u h2
      rw [h3]
      exact ⟨w, hw, hr.mono (fun _ _ h9 => by cases h9)⟩
    have hlen2 : ((List.range len).map g).length = len := by simp
    refine ⟨(List.range len).map g, _, _, _, .sl (some (S.nx, 0)) len cap 0, h.slice hh hcr, h.ext _, ?_, ?_, ?_⟩
    · exact (Ext2.refl L).put (h.mod.fresh (Nat.le_refl _)) _
    · exact .sl (b := ab) (o := aoff) (z := 0) (by simp [Bt.put]) hl (Nat.le_refl _) (fun _ => rfl) (fun h9 => absurd rfl h9) (.inr (by simp))
    · exact ⟨flat_len _ hall, .inr ⟨S.nx, cap, by rw [hlen2], Lg.put_same _ _ _⟩⟩
/-- a struct of three numbers -/
def t3 (x : Int × Int × Int) : List AV := [.i .i64 x.1, .i .i64 x.2.1, .i .i64 x.2.2]
def tcl (l : List (Int × Int × Int)) : List AV := l.flatMap t3
theorem open_t3 {H : Type} {enc : TypeId × Value → H} {P : Program} {W : World} {e ti : TypeId} {fs : Array Field} (he : P.underlying e = some (.struct fs)) (h3 : fs.size = 3) (hfs : ∀ (i : Nat) (f : Field), fs[i]? = some f → f.offset = i ∧ f.type = ti) (hi : P.underlying ti = some (.int .i64)) (hc1 : P.cellsOf ti = 1) (hc3 : P.cellsOf e = 3)
    (n : Nat) (cs : List Value) (y : DataW H × List MemPlace) (h : DataW.trod enc P W 0 (fun _ => true) true n e cs = some y) : ∃ x, VRs (fun _ => none) (t3 x) cs := by
  obtain ⟨xs, m, _, _, hl, hxl, hf⟩ := DataW.trod_struct he h
  rw [hc3] at hl
  match cs, hl with
  | [c0, c1, c2], _ =>
    have one : ∀ i, i < 3 → ∃ k, ([c0, c1, c2].drop i).take 1 = [.int .i64 k] := by
      intro i hi3
      have h5 : ∃ f, fs[i]? = some f := ⟨_, Array.getElem?_eq_getElem (by omega)⟩
      obtain ⟨f, hfi⟩ := h5
      have h6 := hf i f hfi
      obtain ⟨o1, o2⟩ := hfs i f hfi
      rw [o1, o2, hc1] at h6
      have h7 : ∃ y, xs[i]? = some y := ⟨_, List.getElem?_eq_getElem (by omega)⟩
      obtain ⟨y', hy'⟩ := h7
      rw [hy'] at h6
      obtain ⟨k, hk, _⟩ := DataW.trod_int hi h6
      exact ⟨k, hk⟩
    obtain ⟨k0, e0⟩ := one 0 (by omega)
    obtain ⟨k1, e1⟩ := one 1 (by omega)
    obtain ⟨k2, e2⟩ := one 2 (by omega)
    simp at e0 e1 e2
    subst e0 e1 e2
    exact ⟨(k0, k1, k2), .cons (.i _ _) (.cons (.i _ _) (.cons (.i _ _) .nil))⟩
theorem AR.acts {H : Type} {enc : TypeId × Value → H} {P : Program} {W : World} {S : St} {β : Bt} {L : Lg} (h : AR W S β L) {t e ti : TypeId} {fs : Array Field} {v : Value} {d : DataW H} {ps : List MemPlace} (ht : P.underlying t = some (.slice e)) (he : P.underlying e = some (.struct fs)) (h3 : fs.size = 3) (hfs : ∀ (i : Nat) (f : Field), fs[i]? = some f → f.offset = i ∧ f.type = ti)
    (hi : P.underlying ti = some (.int .i64)) (hc1 : P.cellsOf ti = 1) (hc3 : P.cellsOf e = 3) {base : Nat} (hval : Value.okWide P W .any base t v) (hd : DataW.Trod enc P W 0 (fun _ => true) true t v d ps) :
    ∃ (l : List (Int × Int × Int)) (S' : St) (β' : Bt) (L' : Lg) (a : AV), AR W S' β' L' ∧ Ext β β' ∧ Ext2 L L' ∧ VR β' a v ∧ ArgSl L' a (tcl l) l.length 3 :=
  h.rows t3 ht hc3 (fun x => rfl) (fun n cs y hy => open_t3 he h3 hfs hi hc1 hc3 n cs y hy) hval hd
def bcl (l : List Bool) : List AV := l.map fun n => .b n
theorem bcl_flat (l : List Bool) : (l.flatMap fun b => [AV.b b]) = bcl l := by
  induction l with
  | nil => rfl
  | cons a r ih => simp only [List.flatMap_cons, ih, bcl, List.map_cons]; rfl
/-- a slice of truths among the arguments -/
theorem AR.bools {H : Type} {enc : TypeId × Value → H} {P : Program} {W : World} {S : St} {β : Bt} {L : Lg} (h : AR W S β L) {t e : TypeId} {v : Value} {d : DataW H} {ps : List MemPlace} (ht : P.underlying t = some (.slice e)) (he : P.underlying e = some .bool) (hc : P.cellsOf e = 1)
    {base : Nat} (hval : Value.okWide P W .any base t v) (hd : DataW.Trod enc P W 0 (fun _ => true) true t v d ps) :
    ∃ (l : List Bool) (S' : St) (β' : Bt) (L' : Lg) (a : AV), AR W S' β' L' ∧ Ext β β' ∧ Ext2 L L' ∧ VR β' a v ∧ ArgSl L' a (bcl l) l.length 1 := by
  obtain ⟨l, S', β', L', a, h1, h2, h3, h4, h5⟩ := h.rows (fun b : Bool => [AV.b b]) ht hc (fun _ => rfl) (fun n cs y hy => by
    obtain ⟨b', hb, _⟩ := DataW.trod_bool he hy
    subst hb
    exact ⟨b', .cons (.b _) .nil⟩) hval hd
  rw [bcl_flat] at h5
  exact ⟨l, S', β', L', a, h1, h2, h3, h4, h5⟩
end Go.AM

/- Things, opened: what is hidden at a name lies over all else. -/
set_option linter.unusedVariables false
set_option linter.unusedSimpArgs false
namespace Go.AM
section
variable {M L : Lg} {r b : Nat} {d : LC}
theorem over_put (M L : Lg) (b : Nat) (d : LC) : (M.over L).put b d = (M.put b d).over L := by
  funext m; unfold Lg.put Lg.over; by_cases h : m = b <;> simp [h]
theorem over_putL (h : M b = none) (d : LC) : (M.over L).put b d = M.over (L.put b d) := by
  funext m; unfold Lg.put Lg.over; by_cases hm : m = b
  · subst hm; simp [h]
  · simp [hm]
theorem over_some (h : M b = some d) : (M.over L) b = some d := by simp [Lg.over, h]
theorem over_skip (h : M b = none) : (M.over L) b = L b := by simp [Lg.over, h]
theorem over_none : (M.over L) b = none ↔ M b = none ∧ L b = none := by
  unfold Lg.over; cases h : M b <;> simp
theorem over_delO (hL : L b = none) : (M.over L).del b = (M.del b).over L := by
  funext m; unfold Lg.del Lg.over; by_cases h : m = b
  · subst h; simp [hL]
  · simp [h]
theorem over_delL (hM : M b = none) : (M.over L).del b = M.over (L.del b) := by
  funext m; unfold Lg.del Lg.over; by_cases h : m = b
  · subst h; simp [hM]
  · simp [h]
/-- what lies over is not below, but for its root -/
def Apart (M L : Lg) (r : Nat) : Prop := ∀ b, b ≠ r → M b ≠ none → L b = none
theorem Apart.low (h : Apart M L r) (hb : b ≠ r) (e : L b = some d) : M b = none := by
  cases h1 : M b with
  | none => rfl
  | some c => have := h b hb (by rw [h1]; simp); rw [e] at this; cases this
theorem Apart.get (h : Apart M L r) (hb : b ≠ r) (e : L b = some d) : (M.over L) b = some d := by rw [over_skip (h.low hb e)]; exact e
theorem Apart.putL (h : Apart M L r) (hb : M b = none) (d : LC) : Apart M (L.put b d) r := by
  intro c hc hM
  have : c ≠ b := by rintro rfl; exact hM hb
  rw [Lg.put_ne _ _ _ this]; exact h c hc hM
theorem Apart.put (h : Apart M L r) (hb : b = r ∨ L b = none) (d : LC) : Apart (M.put b d) L r := by
  intro c hc hM
  by_cases e : c = b
  · subst e; rcases hb with h1 | h1
    · exact absurd h1 hc
    · exact h1
  · rw [Lg.put_ne _ _ _ e] at hM; exact h c hc hM
theorem Apart.own (h : Apart M L r) (hb : M b ≠ none) (d : LC) : Apart (M.put b d) L r := h.put (by by_cases e : b = r; exact .inl e; exact .inr (h b e hb)) d
theorem Apart.del (h : Apart M L r) (b : Nat) : Apart (M.del b) L r := by
  intro c hc hM
  rw [Lg.del_apply] at hM
  split at hM
  · exact absurd rfl hM
  · exact h c hc hM
theorem Apart.mono {L' : Lg} (h : Apart M L r) (hl : ∀ b, b ≠ r → M b ≠ none → L b = none → L' b = none) : Apart M L' r := fun c hc hM => hl c hc hM (h c hc hM)
def Thing (D : Lg → Prop) (hp : Hp) : Prop := ∃ M, D M ∧ Sat M hp
theorem CallL.openD {F : Nat → Option AFn} {f : Nat} {vs : List AV} {Q : AV → Lg → Prop} {D : Lg → Prop} (e : L r = some (.abs (Thing D))) (hr : ∀ M, D M → M r ≠ none)
    (H : ∀ M, D M → Apart M L r → CallL F f vs (M.over L) Q) : CallL F f vs L Q := by
  apply CallL.opens e
  rintro hm ⟨M, hD, hs⟩
  refine ⟨M, hs, hr M hD, fun hf => H M hD ?_⟩
  intro c hc hM
  cases h1 : M c with
  | none => exact absurd h1 hM
  | some x => exact hf c x h1 hc
theorem Sees.shutD {D : Lg → Prop} (hD : D M) (hr : ∃ cs, M r = some (.raw (.cells cs))) (ha : Apart M L r) : Sees (M.over L) (L.put r (.abs (Thing D))) :=
  Sees.shut (fun b c h hb => ha b hb (by rw [h]; simp)) (.inl hr) fun h hs => ⟨M, hD, hs⟩
theorem Sees.backD {D : Lg → Prop} (hD : D M) (hr : ∃ cs, M r = some (.raw (.cells cs))) (ha : Apart M L r) (e : L r = some (.abs (Thing D))) : Sees (M.over L) L := by
  have := Sees.shutD hD hr ha
  rwa [Lg.put_self L r _ e] at this
/-- another's block is let go -/
theorem Sees.junk {M L : Lg} (hb : L b = none) (d : LC) : Sees (M.over (L.put b d)) (M.over L) := by
  apply Sees.drop
  intro c e hc
  cases h1 : M c with
  | some x => rw [over_some h1] at hc ⊢; exact hc
  | none =>
    rw [over_skip h1] at hc ⊢
    rw [Lg.put_ne _ _ _ (by rintro rfl; rw [hb] at hc; cases hc)]; exact hc
theorem Sees.put {L L' : Lg} (h : ∀ b c, L' b = some c → L b = some c) (r : Nat) (d : LC) : Sees (L.put r d) (L'.put r d) := by
  apply Sees.drop
  intro c e hc
  rw [Lg.put_apply] at hc ⊢
  split
  · rename_i h9; rw [if_pos h9] at hc; exact hc
  · rename_i h9; rw [if_neg h9] at hc; exact h c e hc
end
/-! ### slices of one's own -/
/-- a slice of its own block, full, as it may be read and appended to -/
def OSl (K : Lg) (v : AV) (cs : List AV) (n size : Nat) : Prop :=
  (n = 0 ∧ cs = [] ∧ v = .sl none 0 0 0) ∨ ∃ b ex, 0 < n ∧ v = .sl (some (b, 0)) n n ex ∧ (ex = 0 ∨ ex = size) ∧ K b = some (.raw (.cells cs)) ∧ cs.length = n * size
section
variable {K K' : Lg} {v : AV} {cs : List AV} {n size : Nat}
theorem OSl.nil (K : Lg) (size : Nat) : OSl K (.sl none 0 0 0) [] 0 size := .inl ⟨rfl, rfl, rfl⟩
theorem OSl.mono (h : OSl K v cs n size) (e : ∀ b, slB v = some b → K' b = K b) : OSl K' v cs n size := by
  rcases h with h | ⟨b, ex, h1, h2, h3, h4, h5⟩
  · exact .inl h
  · exact .inr ⟨b, ex, h1, h2, h3, by rw [e b (by rw [h2]; rfl)]; exact h4, h5⟩
theorem OSl.block (h : OSl K v cs n size) {b : Nat} (e : slB v = some b) : K b = some (.raw (.cells cs)) := by
  rcases h with ⟨_, _, h3⟩ | ⟨b', ex, h1, h2, h3, h4, h5⟩
  · rw [h3] at e; cases e
  · rw [h2] at e; simp [slB] at e; subst e; exact h4
theorem OSl.len {F : Nat → Option AFn} (h : OSl K v cs n size) (L : Lg) (k : AV → Lg → Prop) : wpOp F .lenSl [v] L k = k (.i .i64 n) L := by
  rcases h with ⟨h1, _, h3⟩ | ⟨b', ex, h1, h2, h3, h4, h5⟩
  · rw [h3, h1]; simp
  · rw [h2]; simp
theorem OSl.iad {F : Nat → Option AFn} (h : OSl K v cs n size) {x : Int} (h0 : 0 ≤ x) (h1 : x < n) : ∃ b, slB v = some b ∧ K b = some (.raw (.cells cs)) ∧ cs.length = n * size ∧ ∀ (L : Lg) (k : AV → Lg → Prop) (j : IntKind), wpOp F (.iad size) [v, .i j x] L k = k (.p (some (b, x.toNat * size))) L := by
  rcases h with ⟨e1, _, h3⟩ | ⟨b', ex, g1, g2, g3, g4, g5⟩
  · omega
  · refine ⟨b', by rw [g2]; rfl, g4, g5, fun L k j => ?_⟩
    rw [g2, wp_iad F L k size b' 0 n n ex j x h0 h1]
    simp
theorem OSl.one (h : OSl K v cs n size) : v.one = true := by
  rcases h with ⟨_, _, h3⟩ | ⟨b', ex, g1, g2, g3, g4, g5⟩
  · rw [h3]; rfl
  · rw [g2]; rfl
theorem OSl.cellsOf (h : OSl K v cs n size) : v.cellsOf = some [v] := by
  rcases h with ⟨_, _, h3⟩ | ⟨b', ex, g1, g2, g3, g4, g5⟩
  · rw [h3]; rfl
  · rw [g2]; rfl
theorem OSl.rdAll (h : OSl K v cs n size) : ∃ a ex, v = .sl a n n ex ∧ rdCellsL K a (n * size) = some cs ∧ (n = 0 → ex = 0) := by
  rcases h with ⟨h1, h2, h3⟩ | ⟨b', ex, g1, g2, g3, g4, g5⟩
  · exact ⟨none, 0, by rw [h3, h1], by simp [rdCellsL, h1, h2], fun _ => rfl⟩
  · refine ⟨_, ex, g2, ?_, fun h => by omega⟩
    simp only [rdCellsL, g4, AB.read, cut, ble_nat, Nat.zero_add, g5, Nat.le_refl, decide_true, cond_true, List.drop_zero]
    rw [← g5, List.take_length]
/-- K1 is K, but that a slice's block may be gone and another has come -/
structure Grown (K : Lg) (v : AV) (b : Nat) (cs : List AV) (K1 : Lg) : Prop where
  fresh : K b = none
  now : K1 b = some (.raw (.cells cs))
  same : ∀ r, r ≠ b → slB v ≠ some r → K1 r = K r
  gone : ∀ r, r ≠ b → K1 r = none ∨ K1 r = K r
/-- a slice is appended to: it has another block then -/
theorem OSl.app {bytes m : Nat} {src : AV} {new : List AV} (h : OSl K v cs n size) (hsz : 0 < size) {a : Option (Nat × Nat)} {c e : Nat} (hs : src = .sl a m c e) (hm : 0 < m) (hr : rdCellsL K a (m * size) = some new) (hn : new.length = m * size) (h1 : new.all AV.one = true)
    (hb : (n + m) * bytes ≤ 70368744177664) {k : AV → Lg → Prop} (hk : ∀ b K1, Grown K v b (cs ++ new) K1 → OSl K1 (.sl (some (b, 0)) (n + m) (n + m) size) (cs ++ new) (n + m) size → k (.sl (some (b, 0)) (n + m) (n + m) size) K1) : appW size bytes K k [v, src] := by
  subst hs
  obtain ⟨av, ex, hv, hrd, hz⟩ := h.rdAll
  have hlen : cs.length = n * size := by
    rcases h with ⟨h1, h2, h3⟩ | ⟨b', ex, g1, g2, g3, g4, g5⟩
    · simp [h1, h2]
    · exact g5
  have key : ∀ K1 : Lg, (K1 = K ∨ ∃ q, slB v = some q ∧ K1 = K.del q) → goneL K av ex size = some K1 → appW size bytes K k [v, .sl a m c e] := by
    intro K1 hK1 hg
    rw [hv]
    refine appW_grow (L' := K1) hr h1 (by omega) hb hrd hg ?_
    intro b hbn
    refine hk b _ ⟨hbn, Lg.put_same _ _ _, ?_, ?_⟩ (.inr ⟨b, size, by omega, rfl, .inr rfl, Lg.put_same _ _ _, by simp [hlen, hn, Nat.add_mul]⟩)
    · intro r hr hq
      rw [Lg.put_ne _ _ _ hr]
      rcases hK1 with rfl | ⟨q, hq1, rfl⟩
      · rfl
      · rw [Lg.del_apply, if_neg]; rintro rfl; exact hq hq1
    · intro r hr
      rw [Lg.put_ne _ _ _ hr]
      rcases hK1 with rfl | ⟨q, hq1, rfl⟩
      · exact .inr rfl
      · rw [Lg.del_apply]; split
        · exact .inl rfl
        · exact .inr rfl
  rcases h with ⟨h1, h2, h3⟩ | ⟨b', ex', g1, g2, g3, g4, g5⟩
  · have : ex = 0 := hz h1
    exact key K (.inl rfl) (by rw [this]; simp [goneL])
  · have hv2 := hv
    rw [g2] at hv2
    cases hv2
    rcases g3 with g3 | g3
    · exact key K (.inl rfl) (by simp [goneL, g3])
    · refine key (K.del b') (.inr ⟨b', by rw [g2]; rfl, rfl⟩) ?_
      have : ¬ size = 0 := by omega
      simp [goneL, this, g4, g3]
theorem OSl.app0 {bytes : Nat} {src : AV} (h : OSl K v cs n size) {a : Option (Nat × Nat)} {c e : Nat} (hs : src = .sl a 0 c e) (hr : rdCellsL K a 0 = some []) {k : AV → Lg → Prop} (hk : k v K) : appW size bytes K k [v, src] := by
  subst hs
  rcases h with ⟨h1, h2, h3⟩ | ⟨b', ex', g1, g2, g3, g4, g5⟩
  · rw [h3]; rw [h3] at hk
    simp only [appW, Nat.zero_mul, hr, appL]
    simpa using hk
  · rw [g2]; rw [g2] at hk
    simp only [appW, Nat.zero_mul, hr, appL]
    simpa using hk
end
/-- the cells of structs in a row -/
def flatc {α : Type} (f : α → List AV) : List α → List AV
  | [] => []
  | x :: r => f x ++ flatc f r
section
variable {α : Type} {f : α → List AV} {k : Nat}
theorem flatc_append : ∀ (a b : List α), flatc f (a ++ b) = flatc f a ++ flatc f b
  | [], _ => rfl
  | x :: r, b => by simp [flatc, flatc_append r b]
theorem flatc_length (hf : ∀ x, (f x).length = k) : ∀ (a : List α), (flatc f a).length = a.length * k
  | [] => by simp [flatc]
  | x :: r => by
    simp only [flatc, List.length_append, hf, flatc_length hf r, List.length_cons, Nat.add_mul, Nat.one_mul]; omega
theorem flatc_one (h1 : ∀ x, (f x).all AV.one = true) : ∀ (a : List α), (flatc f a).all AV.one = true
  | [] => rfl
  | x :: r => by simp [flatc, List.all_append, h1, flatc_one h1 r]
theorem flatc_at (hf : ∀ x, (f x).length = k) : ∀ (l : List α) (i : Nat) (x : α), l[i]? = some x → ((flatc f l).drop (i * k)).take k = f x ∧ i * k + k ≤ (flatc f l).length
  | [], i, x, h => by simp at h
  | a :: r, 0, x, h => by
    simp at h; subst h
    have := hf a
    simp only [flatc, Nat.zero_mul, List.drop_zero, List.length_append, this, Nat.zero_add]
    exact ⟨by rw [← this, List.take_left], by omega⟩
  | a :: r, i + 1, x, h => by
    have := flatc_at hf r i x (by simpa using h)
    have e : (i + 1) * k = (f a).length + i * k := by rw [hf, Nat.add_mul]; omega
    rw [e]
    simp only [flatc, List.length_append]
    rw [← List.drop_drop, List.drop_left]
    exact ⟨this.1, by omega⟩
theorem flatc_get (hf : ∀ x, (f x).length = k) (l : List α) (i j : Nat) (x : α) (h : l[i]? = some x) (hj : j < k) : (flatc f l)[i * k + j]? = (f x)[j]? := by
  have h1 := flatc_at hf l i x h
  rw [← h1.1, List.getElem?_take_of_lt hj, List.getElem?_drop]
theorem flatc_setc (hf : ∀ x, (f x).length = k) : ∀ (l : List α) (i : Nat) (x y : α) (j : Nat) (v : AV), l[i]? = some x → j < k → (f x).set j v = f y → (flatc f l).set (i * k + j) v = flatc f (l.set i y)
  | [], i, x, y, j, v, h, _, _ => by simp at h
  | a :: r, 0, x, y, j, v, h, hj, e => by
    simp at h; subst h
    have := hf a
    simp only [flatc, Nat.zero_mul, Nat.zero_add, List.set_cons_zero]
    rw [List.set_append_left _ _ (by omega), e]
  | a :: r, i + 1, x, y, j, v, h, hj, e => by
    have := flatc_setc hf r i x y j v (by simpa using h) hj e
    have e2 : (i + 1) * k + j = (f a).length + (i * k + j) := by rw [hf, Nat.add_mul]; omega
    rw [e2]
    simp only [flatc, List.set_cons_succ]
    rw [List.set_append_right _ _ (by omega), Nat.add_sub_cancel_left, this]
end
end Go.AM

/- chanq: end, End, Closed: a channel is closed, and all wake. -/
set_option linter.unusedVariables false
set_option linter.unusedSimpArgs false
namespace Go.AM
variable {N : Nat → Nat} {F : Nat → Option AFn}
def wakeP (p : Bool) (acc : List Wk) (w : Wt) : List Wk := if (acc.any fun y => decide (y.t = w.t)) = true then acc else acc ++ [⟨w.t, w.c, 0, false, p⟩]
def Ch.wakes (x : Ch) : List Wk := x.sends.foldl (wakeP true) (x.recvs.foldl (wakeP false) [])
section
variable {L K : Lg} {c rg q1 q2 : Nat} {x : Ch} {Q : AV → Lg → Prop}
end
end Go.AM


/- chanq: end's loops. -/
set_option linter.unusedVariables false
set_option linter.unusedSimpArgs false
namespace Go.AM
variable {N : Nat → Nat} {F : Nat → Option AFn}
section
variable {L K : Lg} {c rg q1 q2 : Nat} {x : Ch} {Q : AV → Lg → Prop}
theorem EI.fresh {acc : List Wk} {v : AV} (h : EI L c rg q1 q2 x acc v K) {b : Nat} (hb : K b = Option.none) : slB v ≠ some b ∧ b ≠ c ∧ b ≠ rg ∧ b ≠ q1 ∧ b ≠ q2 ∧ L b = Option.none := by
  refine ⟨?_, ?_, ?_, ?_, ?_, (h.op.none hb).2⟩
  · intro h9
    rcases h.own with ⟨_, _, h1⟩ | ⟨b', h1, h2, h3, h4⟩
    · rw [h1] at h9; cases h9
    · rw [h2] at h9; simp [slB] at h9; subst h9; rw [hb] at h3; cases h3
  · rintro rfl; have := h.op.root; rw [hb] at this; cases this
  · rintro rfl; have := h.op.ring; rw [hb] at this; cases this
  · rintro rfl; have := h.op.rcv; rw [hb] at this; cases this
  · rintro rfl; have := h.op.snd; rw [hb] at this; cases this
end
end Go.AM


/- chanq: End, whole; Closed. -/
set_option linter.unusedVariables false
set_option linter.unusedSimpArgs false
namespace Go.AM
variable {N : Nat → Nat} {F : Nat → Option AFn}
section
variable {L K : Lg} {c rg q1 q2 : Nat} {x : Ch} {Q : AV → Lg → Prop}
theorem COpen.adopt (op : COpen L c x rg q1 q2 K) {b : Nat} {d : LC} (hb : K b = some d) (hn : b ≠ rg ∧ b ≠ q1 ∧ b ≠ q2) : COpen (L.put b d) c x rg q1 q2 K :=
  ⟨op.n1, op.n2, op.n3, op.n4, op.n5, op.n6, op.root, op.ring, op.rcv, op.snd, fun r e h1 h2 h3 h4 he => by
    rw [Lg.put_apply] at he
    split at he
    · rename_i h9; subst h9; cases he; exact hb
    · exact op.old r e h1 h2 h3 h4 he, by rw [Lg.put_ne _ _ _ (Ne.symm hn.1)]; exact op.f1, by rw [Lg.put_ne _ _ _ (Ne.symm hn.2.1)]; exact op.f2, by rw [Lg.put_ne _ _ _ (Ne.symm hn.2.2)]; exact op.f3⟩
/-- a new slice of wakes -/
def WkNew (L : Lg) (v : AV) (ws : List Wk) (L' : Lg) : Prop := (ws = [] ∧ v = .sl none 0 0 0 ∧ L' = L) ∨ ∃ b ex, L b = none ∧ 0 < ws.length ∧ v = .sl (some (b, 0)) ws.length ws.length ex ∧ (ex = 0 ∨ ex = 5) ∧ L' = L.put b (.raw (.cells (wkcells ws)))
theorem EI.fin {acc : List Wk} {v : AV} (h : EI L c rg q1 q2 x acc v K) (hL : ∃ d, L c = some d) : ∃ L', WkNew (L.put c (.abs (ChanP c x))) v acc L' ∧ Sees K L' := by
  rcases h.own with ⟨h1, h2, h3⟩ | ⟨b, h1, h2, h3, h4⟩
  · exact ⟨_, .inl ⟨List.length_eq_zero_iff.1 h1, h3, rfl⟩, h.op.shut⟩
  · have ap := h.ap b (by rw [h2]; rfl)
    have := (h.op.adopt h3 ⟨ap.2.1, ap.2.2.1, ap.2.2.2.1⟩).shut
    rw [Lg.put_comm _ ap.1] at this
    exact ⟨_, .inr ⟨b, 5, by rw [Lg.put_ne _ _ _ ap.1]; exact ap.2.2.2.2, h1, h2, .inr rfl, rfl⟩, this⟩
end
end Go.AM


/- tree: what its functions do. -/
set_option linter.unusedVariables false
set_option linter.unusedSimpArgs false
namespace Go.AM
variable {N : Nat → Nat} {F : Nat → Option AFn}
/-- one of a tree -/
structure Nd where
  parent : Int
  linked : Bool
  kids : List Int
def ncells : List Nd → (Nat → AV) → Nat → List AV
  | [], _, _ => []
  | n :: r, kv, j => [.i .i64 n.parent, .b n.linked, kv j] ++ ncells r kv (j + 1)
theorem ncells_link : ∀ (ns : List Nd) (kv : Nat → AV) (j i : Nat) (n : Nd) (b : Bool), ns[i]? = some n → (ncells ns kv j).set (i * 3 + 1) (.b b) = ncells (ns.set i { n with linked := b }) kv j
  | [], _, _, i, n, b, h => by simp at h
  | a :: r, kv, j, 0, n, b, h => by
    simp at h; subst h
    simp [ncells]
  | a :: r, kv, j, i + 1, n, b, h => by
    have := ncells_link r kv (j + 1) i n b (by simpa using h)
    have e : (i + 1) * 3 + 1 = (i * 3 + 1) + 1 + 1 + 1 := by omega
    rw [e]
    simp only [ncells, List.cons_append, List.nil_append, List.set_cons_succ, this]
def NSl (sv : AV) (ns : List Nd) (kv : Nat → AV) (nb : Option Nat) (t : Nat) (L K : Lg) : Prop := match nb with
  | none => sv = .sl none 0 0 0 ∧ ns = []
  | some b => sv = .sl (some (b, 0)) ns.length ns.length 3 ∧ K b = some (.raw (.cells (ncells ns kv 0))) ∧ b ≠ t ∧ L b = none ∧ 0 < ns.length
/-- a tree, opened -/
structure TOpen (L : Lg) (t : Nat) (ns : List Nd) (sv : AV) (kv : Nat → AV) (nb : Option Nat) (kb : Nat → Option Nat) (K : Lg) : Prop where
  root : K t = some (.raw (.cells [sv]))
  arr : NSl sv ns kv nb t L K
  kid : ∀ (j : Nat) (n : Nd), ns[j]? = some n → KSl (kv j) n.kids (kb j) K
  kne : ∀ (j q : Nat), j < ns.length → kb j = some q → q ≠ t ∧ nb ≠ some q ∧ L q = none
  kap : ∀ i j q : Nat, i < ns.length → j < ns.length → kb i = some q → kb j = some q → i = j
  old : ∀ r d, r ≠ t → L r = some d → K r = some d
def TreeP (t : Nat) (ns : List Nd) (hp : Hp) : Prop := ∃ sv kv nb kb M, TOpen Lg.nil t ns sv kv nb kb M ∧ Sat M hp
theorem KSl.mono {v : AV} {l : List Int} {bo : Option Nat} {K M : Lg} (h : KSl v l bo K) (e : ∀ q, bo = some q → M q = K q) : KSl v l bo M := by
  cases bo with
  | none => exact h
  | some b =>
    obtain ⟨cap, sp, ex, h1, h2, h3, h4⟩ := h
    exact ⟨cap, sp, ex, h1, by rw [e b rfl]; exact h2, h3, h4⟩
theorem NSl.mono {sv : AV} {ns : List Nd} {kv : Nat → AV} {nb : Option Nat} {t : Nat} {L L' K M : Lg} (h : NSl sv ns kv nb t L K) (e : ∀ q, nb = some q → M q = K q) (f : ∀ q, nb = some q → L' q = none) : NSl sv ns kv nb t L' M := by
  cases nb with
  | none => exact h
  | some b =>
    obtain ⟨h1, h2, h3, h4, h5⟩ := h
    exact ⟨h1, by rw [e b rfl]; exact h2, h3, f b rfl, h5⟩
section
variable {L L0 K : Lg} {t : Nat} {ns : List Nd} {sv : AV} {kv : Nat → AV} {nb : Option Nat} {kb : Nat → Option Nat}
theorem TOpen.shut (o : TOpen L t ns sv kv nb kb K) : Sees K (L.put t (.abs (TreeP t ns))) := by
  refine Sees.shutAt (fun r => r = t ∨ nb = some r ∨ ∃ j, j < ns.length ∧ kb j = some r) (.inl rfl) ?_ ?_ (.inl ⟨_, o.root⟩) ?_
  · intro r d hr hd; simp only [not_or] at hr; exact o.old r d hr.1 hd
  · rintro r (rfl | h | ⟨j, hj, hq⟩) hr
    · exact absurd rfl hr
    · have := o.arr; rw [h] at this; exact this.2.2.2.1
    · exact (o.kne j r hj hq).2.2
  · intro M hm hM hN hs
    refine ⟨sv, kv, nb, kb, M, ⟨by rw [hM t (.inl rfl)]; exact o.root, o.arr.mono (fun q hq => hM q (.inr (.inl hq))) (fun _ _ => rfl), ?_, ?_, o.kap, fun r d _ hd => by cases hd⟩, hs⟩
    · intro j n hn
      have hj : j < ns.length := (List.getElem?_eq_some_iff.1 hn).1
      exact (o.kid j n hn).mono fun q hq => hM q (.inr (.inr ⟨j, hj, hq⟩))
    · intro j q hj hq
      have := o.kne j q hj hq
      exact ⟨this.1, this.2.1, rfl⟩
theorem TOpen.back (o : TOpen L t ns sv kv nb kb K) (e : L t = some (.abs (TreeP t ns))) : Sees K L := by
  have := o.shut
  rwa [Lg.put_self L t _ e] at this
theorem NSl.len (h : NSl sv ns kv nb t L K) (M : Lg) (k : AV → Lg → Prop) : wpOp F .lenSl [sv] M k = k (.i .i64 ns.length) M := by
  cases nb with
  | none => obtain ⟨rfl, rfl⟩ := h; simp
  | some b => obtain ⟨rfl, _⟩ := h; simp
def hasT (ns : List Nd) (id : Int) : Bool := decide (0 ≤ id) && decide (id < ns.length)
theorem hasT_nat {ns : List Nd} {id : Int} (h : hasT ns id = true) : ∃ i : Nat, id = (i : Int) ∧ i < ns.length := by
  simp [hasT] at h
  obtain ⟨i, rfl⟩ := Int.eq_ofNat_of_zero_le h.1
  exact ⟨i, rfl, by omega⟩
end
end Go.AM


/- tree: Add. -/
set_option linter.unusedVariables false
set_option linter.unusedSimpArgs false
namespace Go.AM
variable {N : Nat → Nat} {F : Nat → Option AFn}
def addKid (ns : List Nd) (i : Nat) (x : Int) : List Nd := match ns[i]? with
  | some n => ns.set i { n with kids := n.kids ++ [x] }
  | none => ns
def treeAdd (ns : List Nd) (parent : Int) (linked : Bool) : List Nd × Int × Int :=
  if parent ≠ -1 ∧ hasT ns parent = false then (ns, 0, 1) else if 1000 ≤ ns.length then (ns, 0, 3)
  else ((if (linked && decide (parent ≠ -1)) = true then addKid ns parent.toNat ns.length else ns) ++ [⟨parent, linked && decide (parent ≠ -1), []⟩], ns.length, 0)
section
variable {L L0 K : Lg} {t : Nat} {ns : List Nd} {sv : AV} {kv : Nat → AV} {nb : Option Nat} {kb : Nat → Option Nat} {Q : AV → Lg → Prop}
theorem KSl.one {v : AV} {l : List Int} {bo : Option Nat} (h : KSl v l bo K) : v.one = true := by
  cases bo with
  | none => obtain ⟨rfl, _⟩ := h; rfl
  | some b => obtain ⟨_, _, _, rfl, _⟩ := h; rfl
theorem TOpen.sub (o : TOpen L0 t ns sv kv nb kb K) (hs : ∀ r d, r ≠ t → L r = some d → L0 r = some d) : TOpen L t ns sv kv nb kb K := by
  have hn : ∀ r, r ≠ t → L0 r = none → L r = none := by
    intro r hr h0
    cases e : L r with
    | none => rfl
    | some d => rw [hs r d hr e] at h0; cases h0
  refine ⟨o.root, o.arr.mono (fun _ _ => rfl) (fun q hq => ?_), o.kid, fun j q hj hq => ?_, o.kap, fun r d hr hd => o.old r d hr (hs r d hr hd)⟩
  · have := o.arr; rw [hq] at this; exact hn q this.2.2.1 this.2.2.2.1
  · have := o.kne j q hj hq; exact ⟨this.1, this.2.1, hn q this.1 this.2.2⟩
theorem KSl.cellsOf {v : AV} {l : List Int} {bo : Option Nat} (h : KSl v l bo K) : v.cellsOf = some [v] := by
  cases bo with
  | none => obtain ⟨rfl, _⟩ := h; rfl
  | some b => obtain ⟨_, _, _, rfl, _⟩ := h; rfl
end
end Go.AM


/- tree: Detach. -/
set_option linter.unusedVariables false
set_option linter.unusedSimpArgs false
namespace Go.AM
variable {N : Nat → Nat} {F : Nat → Option AFn}
section
variable {L L0 K : Lg} {t : Nat} {ns : List Nd} {sv : AV} {kv : Nat → AV} {nb : Option Nat} {kb : Nat → Option Nat} {Q : AV → Lg → Prop}
theorem TOpen.link (o : TOpen L t ns sv kv nb kb K) {i : Nat} {n : Nd} (hn : ns[i]? = some n) {b : Nat} (hb : nb = some b) (v : Bool) : TOpen L t (ns.set i { n with linked := v }) sv kv nb kb (K.put b (.raw (.cells ((ncells ns kv 0).set (i * 3 + 1) (.b v))))) := by
  have hi : i < ns.length := (List.getElem?_eq_some_iff.1 hn).1
  have ha := o.arr
  rw [hb] at ha
  obtain ⟨a1, a2, a3, a4, a5⟩ := ha
  refine ⟨by rw [Lg.put_ne _ _ _ (Ne.symm a3)]; exact o.root, ?_, ?_, ?_, ?_, ?_⟩
  · rw [hb]
    exact ⟨by simp [a1], by rw [Lg.put_same, ncells_link ns kv 0 i n v hn], a3, a4, by simpa using a5⟩
  · intro j m hm
    have hjl : j < ns.length := by have := (List.getElem?_eq_some_iff.1 hm).1; simpa using this
    have hkk : KSl (kv j) m.kids (kb j) K := by
      by_cases hj : j = i
      · subst hj
        rw [List.getElem?_set_self hi] at hm
        simp at hm; subst hm
        exact o.kid j n hn
      · rw [List.getElem?_set_ne (Ne.symm hj)] at hm
        exact o.kid j m hm
    refine hkk.mono fun r hr => ?_
    have h4 := o.kne j r hjl hr
    exact Lg.put_ne _ _ _ (fun h9 => h4.2.1 (by rw [hb, h9]))
  · intro j r hj hr
    simp at hj
    exact o.kne j r hj hr
  · intro j k r hj hk hrj hrk
    simp at hj hk
    exact o.kap j k r hj hk hrj hrk
  · intro r d hr hd
    have h1 : r ≠ b := by rintro rfl; rw [a4] at hd; cases hd
    rw [Lg.put_ne _ _ _ h1]; exact o.old r d hr hd
end
end Go.AM


/- ctx: contexts, opened; has, room. -/
set_option linter.unusedVariables false
set_option linter.unusedSimpArgs false
namespace Go.AM
variable {N : Nat → Nat} {F : Nat → Option AFn}
/-- a context -/
structure One where
  node : Int
  free : Bool
  c : Option Nat
  err : Int
  cause : Int
  when : Int
  has : Bool
  own : Bool
  timer : Int
  deriving DecidableEq
def One.cells (o : One) : List AV := [.i .i64 o.node, .b o.free, ptr o.c, .i .i64 o.err, .i .i64 o.cause, .i .i64 o.when, .b o.has, .b o.own, .i .i64 o.timer]
/-- what starts a program -/
structure Aft where
  node : Int
  prog : Int
  over : Bool
  deriving DecidableEq
def Aft.cells (o : Aft) : List AV := [.i .i64 o.node, .i .i64 o.prog, .b o.over]
/-- contexts -/
structure Cs where
  t : Option Nat
  tree : List Nd
  ones : List One
  afts : List Aft
  who : Int → Option Int
theorem One.len (o : One) : o.cells.length = 9 := rfl
theorem Aft.len (o : Aft) : o.cells.length = 3 := rfl
theorem One.one (o : One) : o.cells.all AV.one = true := rfl
theorem Aft.one (o : Aft) : o.cells.all AV.one = true := rfl
structure CtxD (c : Nat) (σ : Cs) (t mb : Nat) (osl asl : AV) (M : Lg) : Prop where
  root : M c = some (.raw (.cells [ptr σ.t, .p (some (t, 0)), osl, asl, .m (some mb)]))
  tree : M t = some (.abs (TreeP t σ.tree))
  map : ∃ es, M mb = some (.raw (.map es)) ∧ MapI es σ.who
  ones : OSl M osl (flatc One.cells σ.ones) σ.ones.length 9
  afts : OSl M asl (flatc Aft.cells σ.afts) σ.afts.length 3
  n1 : c ≠ t
  n2 : c ≠ mb
  n3 : t ≠ mb
  no : ∀ b, slB osl = some b → b ≠ c ∧ b ≠ t ∧ b ≠ mb
  na : ∀ b, slB asl = some b → b ≠ c ∧ b ≠ t ∧ b ≠ mb ∧ slB osl ≠ some b
  dom : ∀ b, M b ≠ none → b = c ∨ b = t ∨ b = mb ∨ slB osl = some b ∨ slB asl = some b
def CtxP (c : Nat) (σ : Cs) : Hp → Prop := Thing fun M => ∃ t mb osl asl, CtxD c σ t mb osl asl M
section
variable {M L : Lg} {c t mb : Nat} {osl asl : AV} {σ : Cs} {Q : AV → Lg → Prop}
theorem CtxD.shut (h : CtxD c σ t mb osl asl M) (ha : Apart M L c) : Sees (M.over L) (L.put c (.abs (CtxP c σ))) := Sees.shutD ⟨t, mb, osl, asl, h⟩ ⟨_, h.root⟩ ha
theorem CtxD.back (h : CtxD c σ t mb osl asl M) (ha : Apart M L c) (e : L c = some (.abs (CtxP c σ))) : Sees (M.over L) L := Sees.backD ⟨t, mb, osl, asl, h⟩ ⟨_, h.root⟩ ha e
theorem CtxD.f1 (h : CtxD c σ t mb osl asl M) (L : Lg) : rdL (M.over L) (c, 1) none = some (.p (some (t, 0))) := by rw [rdL_cell (over_some h.root)]; rfl
theorem CtxD.f2 (h : CtxD c σ t mb osl asl M) (L : Lg) : rdL (M.over L) (c, 2) none = some osl := by rw [rdL_cell (over_some h.root)]; rfl
theorem CtxD.f3 (h : CtxD c σ t mb osl asl M) (L : Lg) : rdL (M.over L) (c, 3) none = some asl := by rw [rdL_cell (over_some h.root)]; rfl
/-! ### what is put -/
theorem CtxD.setTree (h : CtxD c σ t mb osl asl M) (ns : List Nd) : CtxD c { σ with tree := ns } t mb osl asl (M.put t (.abs (TreeP t ns))) := by
  refine ⟨by rw [Lg.put_ne _ _ _ h.n1]; exact h.root, Lg.put_same _ _ _, ?_, h.ones.mono fun b hb => Lg.put_ne _ _ _ (h.no b hb).2.1, h.afts.mono fun b hb => Lg.put_ne _ _ _ (h.na b hb).2.1, h.n1, h.n2, h.n3, h.no, h.na, ?_⟩
  · obtain ⟨es, h1, h2⟩ := h.map; exact ⟨es, by rw [Lg.put_ne _ _ _ (Ne.symm h.n3)]; exact h1, h2⟩
  · intro b hb
    by_cases e : b = t
    · exact .inr (.inl e)
    · rw [Lg.put_ne _ _ _ e] at hb; exact h.dom b hb
/-- what is new lies not in it -/
theorem CtxD.fresh (h : CtxD c σ t mb osl asl M) {b : Nat} (hb : M b = none) : b ≠ c ∧ b ≠ t ∧ b ≠ mb ∧ slB osl ≠ some b ∧ slB asl ≠ some b := by
  refine ⟨?_, ?_, ?_, ?_, ?_⟩
  · rintro rfl; rw [h.root] at hb; cases hb
  · rintro rfl; rw [h.tree] at hb; cases hb
  · rintro rfl; obtain ⟨es, h1, _⟩ := h.map; rw [h1] at hb; cases hb
  · intro h9; have := h.ones.block h9; rw [hb] at this; cases this
  · intro h9; have := h.afts.block h9; rw [hb] at this; cases this
/-! ### has, room -/
def Cs.has (σ : Cs) (id : Int) : Bool := decide (0 ≤ id) && decide (id < σ.ones.length)
end
end Go.AM


/- ctx: add, start. -/
set_option linter.unusedVariables false
set_option linter.unusedSimpArgs false
namespace Go.AM
variable {N : Nat → Nat} {F : Nat → Option AFn}
def Cs.add (σ : Cs) (o : One) (parent : Int) : Cs :=
  let r := treeAdd σ.tree parent (!o.free)
  { σ with tree := r.1, who := updI σ.who r.2.1 (some σ.ones.length), ones := σ.ones ++ [{ o with node := r.2.1, timer := -1 }] }
section
variable {M L : Lg} {c t mb : Nat} {osl asl : AV} {σ : Cs} {Q : AV → Lg → Prop}
end
end Go.AM


/- ctx: what cancel does, in plain; the slices that it tells. -/
set_option linter.unusedVariables false
set_option linter.unusedSimpArgs false
namespace Go.AM
variable {N : Nat → Nat} {F : Nat → Option AFn}
/-- a context that is done now -/
structure Lap where
  id : Int
  err : Int
  cause : Int
  wakes : List Wk
/-- contexts, their timers, their channels -/
structure CX where
  σ : Cs
  τ : Tms
  χ : Nat → Ch
def CX.setTree (S : CX) (ns : List Nd) : CX := { S with σ := { S.σ with tree := ns } }
def Cs.names (σ : Cs) : List (Option Nat × Int) := σ.ones.map fun o => (o.c, o.node)
structure OutC (c : Nat) (S : CX) (L : Lg) : Prop where
  tms : ∀ s, S.σ.t = some s → s ≠ c ∧ L s = some (.abs (SetP s S.τ))
  chs : ∀ o ∈ S.σ.ones, ∀ a, o.c = some a → a ≠ c ∧ S.σ.t ≠ some a ∧ L a = some (.abs (ChanP a (S.χ a)))
/-- what is none of its own is as it was -/
def FrC (σ : Cs) (L L' : Lg) : Prop := ∀ r, L r ≠ none → σ.t ≠ some r → (∀ o ∈ σ.ones, o.c ≠ some r) → L' r = L r
structure SameC (σ σ' : Cs) : Prop where
  t : σ'.t = σ.t
  names : σ'.names = σ.names
theorem SameC.refl (σ : Cs) : SameC σ σ := ⟨rfl, rfl⟩
theorem SameC.trans {a b d : Cs} (h : SameC a b) (k : SameC b d) : SameC a d := ⟨k.t.trans h.t, k.names.trans h.names⟩
theorem SameC.get {a b : Cs} (h : SameC a b) {i : Nat} {o : One} (hi : b.ones[i]? = some o) : ∃ o', a.ones[i]? = some o' ∧ o'.c = o.c ∧ o'.node = o.node := by
  have := congrArg (fun l => l[i]?) h.names
  simp only [Cs.names, List.getElem?_map, hi, Option.map_some] at this
  cases e : a.ones[i]? with
  | none => rw [e] at this; cases this
  | some o' => rw [e] at this; simp at this; exact ⟨o', rfl, this.1.symm, this.2.symm⟩
theorem SameC.cs {a b : Cs} (h : SameC a b) {x : Option Nat} (hx : ∃ o ∈ b.ones, o.c = x) : ∃ o ∈ a.ones, o.c = x := by
  obtain ⟨o, ho, e⟩ := hx
  obtain ⟨i, hi⟩ := List.mem_iff_getElem?.1 ho
  obtain ⟨o', h1, h2, _⟩ := h.get hi
  exact ⟨o', List.mem_of_getElem? h1, h2.trans e⟩
theorem FrC.refl (σ : Cs) (L : Lg) : FrC σ L L := fun _ _ _ _ => rfl
theorem FrC.trans {σ σ' : Cs} {L L1 L2 : Lg} (s : SameC σ σ') (h : FrC σ L L1) (k : FrC σ' L1 L2) : FrC σ L L2 := fun r hr h1 h2 => by
  have e := h r hr h1 h2
  rw [k r (by rw [e]; exact hr) (by rw [s.t]; exact h1) (fun o ho h9 => by
    obtain ⟨o', h3, h4⟩ := s.cs ⟨o, ho, h9⟩
    exact h2 o' h3 h4), e]
/-- what there was is there -/
theorem FrC.has {c : Nat} {S S' : CX} {L L' : Lg} (s : SameC S.σ S'.σ) (h : FrC S.σ L L') (o : OutC c S' L') {r : Nat} (hr : L r ≠ none) : L' r ≠ none := by
  by_cases h1 : S.σ.t = some r
  · rw [(o.tms r (by rw [s.t]; exact h1)).2]; simp
  · by_cases h2 : ∃ o ∈ S.σ.ones, o.c = some r
    · obtain ⟨o', ho', he⟩ := SameC.cs (a := S'.σ) (b := S.σ) ⟨s.t.symm, s.names.symm⟩ h2
      rw [(o.chs o' ho' r he).2.2]; simp
    · rw [h r hr h1 (fun o ho h9 => h2 ⟨o, ho, h9⟩)]; exact hr
/-! ### the slices that it tells -/
def lapc (p : Lap × AV) : List AV := [.i .i64 p.1.id, .i .i64 p.1.err, .i .i64 p.1.cause, p.2]
def stc (p : Int × Int) : List AV := [.i .i64 p.1, .i .i64 p.2]
theorem flatc_oneM {α : Type} {f : α → List AV} : ∀ (a : List α), (∀ x ∈ a, (f x).all AV.one = true) → (flatc f a).all AV.one = true
  | [], _ => rfl
  | x :: r, h => by
    simp only [flatc, List.all_append, h x (by simp), flatc_oneM r (fun y hy => h y (by simp [hy])), Bool.and_self]
theorem SlK.one {L : Lg} {v : AV} {ws : List Wk} (h : SlK L v ws) : v.one = true := by
  rcases h with ⟨_, rfl⟩ | ⟨b, ex, rfl, _⟩ <;> rfl
theorem SlK.mono {L L' : Lg} {v : AV} {ws : List Wk} (h : SlK L v ws) (e : ∀ b, slB v = some b → L' b = L b) : SlK L' v ws := by
  rcases h with ⟨h1, h2⟩ | ⟨b, ex, h1, h2⟩
  · exact .inl ⟨h1, h2⟩
  · exact .inr ⟨b, ex, h1, by rw [e b (by rw [h1]; rfl)]; exact h2⟩
theorem SlK.has {L : Lg} {v : AV} {ws : List Wk} (h : SlK L v ws) {b : Nat} (e : slB v = some b) : L b ≠ none := by
  rcases h with ⟨_, rfl⟩ | ⟨b', ex, rfl, h2⟩
  · cases e
  · simp [slB] at e; subst e; rw [h2]; simp
structure ResP (L0 K : Lg) (v1 v2 : AV) (ps : List (Lap × AV)) (sts : List (Int × Int)) : Prop where
  o1 : OSl K v1 (flatc lapc ps) ps.length 4
  o2 : OSl K v2 (flatc stc sts) sts.length 2
  ins : ∀ p ∈ ps, SlK K p.2 p.1.wakes ∧ ∀ b, slB p.2 = some b → L0 b = none ∧ slB v1 ≠ some b ∧ slB v2 ≠ some b
  f1 : ∀ b, slB v1 = some b → L0 b = none ∧ slB v2 ≠ some b
  f2 : ∀ b, slB v2 = some b → L0 b = none
def ResW (L0 K : Lg) (v1 v2 : AV) (laps : List Lap) (sts : List (Int × Int)) : Prop := ∃ ps, ps.map (·.1) = laps ∧ ResP L0 K v1 v2 ps sts
section
variable {L0 K K' : Lg} {v1 v2 : AV} {ps : List (Lap × AV)} {sts : List (Int × Int)}
theorem ResP.mono (h : ResP L0 K v1 v2 ps sts) (e : ∀ b, L0 b = none → K b ≠ none → K' b = K b) : ResP L0 K' v1 v2 ps sts :=
  ⟨h.o1.mono fun b hb => e b (h.f1 b hb).1 (by rw [h.o1.block hb]; simp), h.o2.mono fun b hb => e b (h.f2 b hb) (by rw [h.o2.block hb]; simp), fun p hp => ⟨(h.ins p hp).1.mono fun b hb => e b ((h.ins p hp).2 b hb).1 ((h.ins p hp).1.has hb), (h.ins p hp).2⟩, h.f1, h.f2⟩
theorem ResP.nil (L0 K : Lg) : ResP L0 K (.sl none 0 0 0) (.sl none 0 0 0) [] [] := ⟨.inl ⟨rfl, rfl, rfl⟩, .inl ⟨rfl, rfl, rfl⟩, fun p hp => by simp at hp, fun b hb => (by cases hb), fun b hb => (by cases hb)⟩
theorem ResP.one (h : ResP L0 K v1 v2 ps sts) : (flatc lapc ps).all AV.one = true := flatc_oneM ps fun p hp => by
  have := (h.ins p hp).1.one
  simp [lapc, this]
end
end Go.AM


/- ctx: cancel. -/
set_option linter.unusedVariables false
set_option linter.unusedSimpArgs false
namespace Go.AM
variable {N : Nat → Nat} {F : Nat → Option AFn}
section
variable {M L L0 : Lg} {c t mb : Nat} {osl asl : AV} {S S' : CX} {Q : AV → Lg → Prop}
theorem OutC.put (o : OutC c S L) {b : Nat} (hb : L b = none) (d : LC) : OutC c S (L.put b d) := by
  have key : ∀ r e, L r = some e → (L.put b d) r = some e := by
    intro r e hr
    rw [Lg.put_ne]; exact hr
    rintro rfl; rw [hb] at hr; cases hr
  exact ⟨fun s hs => ⟨(o.tms s hs).1, key _ _ (o.tms s hs).2⟩, fun o1 h1 a h2 => ⟨(o.chs o1 h1 a h2).1, (o.chs o1 h1 a h2).2.1, key _ _ (o.chs o1 h1 a h2).2.2⟩⟩
theorem FrC.put {σ : Cs} {L1 : Lg} (h : FrC σ L L1) {b : Nat} (hb : L b = none) (d : LC) : FrC σ L (L1.put b d) := fun r hr h1 h2 => by
  rw [Lg.put_ne]; exact h r hr h1 h2
  rintro rfl; exact hr hb
end
end Go.AM


/- ctx: cancel, proved. -/
set_option linter.unusedVariables false
set_option linter.unusedSimpArgs false
namespace Go.AM
variable {N : Nat → Nat} {F : Nat → Option AFn}
section
variable {M L L0 : Lg} {c t mb : Nat} {osl asl : AV} {S S' : CX} {Q : AV → Lg → Prop}
theorem OSl.up {v : AV} {cs : List AV} {n size : Nat} (h : OSl L v cs n size) (hv : ∀ q, slB v = some q → M q = none) : OSl (M.over L) v cs n size := h.mono fun b hb => over_skip (hv b hb)
theorem OSl.has {v : AV} {cs : List AV} {n size : Nat} (h : OSl L v cs n size) {q : Nat} (hq : slB v = some q) : L q ≠ none := by rw [h.block hq]; simp
theorem OSl.raw {v : AV} {cs : List AV} {n size : Nat} (h : OSl L v cs n size) : ∀ q, slB v = some q → ∃ d, L q = some (.raw d) := fun q hq => ⟨_, h.block hq⟩
end
end Go.AM


/- ctx: cancel, whole. -/
set_option linter.unusedVariables false
set_option linter.unusedSimpArgs false
namespace Go.AM
variable {N : Nat → Nat} {F : Nat → Option AFn}
section
variable {M L L0 : Lg} {c t mb : Nat} {osl asl : AV} {S S' : CX} {Q : AV → Lg → Prop}
theorem OutC.same {S2 : CX} (o : OutC c S L) (h : SameC S.σ S2.σ) (h1 : S2.τ = S.τ) (h2 : S2.χ = S.χ) : OutC c S2 L := by
  refine ⟨fun s hs => ?_, fun o1 ho a ha => ?_⟩
  · rw [h1]; exact o.tms s (by rw [← h.t]; exact hs)
  · obtain ⟨o', ho', he⟩ := h.cs ⟨o1, ho, ha⟩
    have := o.chs o' ho' a he
    exact ⟨this.1, by rw [h.t]; exact this.2.1, by rw [h2]; exact this.2.2⟩
end
end Go.AM


/- ctx: begin, Cancels, Without, Deadline. -/
set_option linter.unusedVariables false
set_option linter.unusedSimpArgs false
namespace Go.AM
variable {N : Nat → Nat} {F : Nat → Option AFn}
structure SubC (σ σ' : Cs) : Prop where
  t : σ'.t = σ.t
  names : ∃ l, σ'.names = σ.names ++ l
theorem SameC.sub {σ σ' : Cs} (h : SameC σ σ') : SubC σ σ' := ⟨h.t, [], by simp [h.names]⟩
theorem SubC.trans {a b d : Cs} (h : SubC a b) (k : SubC b d) : SubC a d := by
  obtain ⟨l, hl⟩ := h.names
  obtain ⟨m, hm⟩ := k.names
  exact ⟨k.t.trans h.t, l ++ m, by rw [hm, hl, List.append_assoc]⟩
theorem SubC.cs {a b : Cs} (h : SubC a b) {x : Option Nat} (hx : ∃ o ∈ a.ones, o.c = x) : ∃ o ∈ b.ones, o.c = x := by
  obtain ⟨o, ho, e⟩ := hx
  obtain ⟨l, hl⟩ := h.names
  have : (o.c, o.node) ∈ b.names := by rw [hl]; exact List.mem_append_left _ (List.mem_map.2 ⟨o, ho, rfl⟩)
  obtain ⟨o', ho', he⟩ := List.mem_map.1 this
  exact ⟨o', ho', by rw [← e]; exact congrArg Prod.fst he⟩
/-- contexts, opened, behind a call -/
structure CO (c t mb : Nat) (S S' : CX) (L : Lg) (osl asl : AV) (M' L' : Lg) : Prop where
  d : CtxD c S'.σ t mb osl asl M'
  ap : Apart M' L' c
  out : OutC c S' L'
  sub : SubC S.σ S'.σ
  fr : FrC S.σ L L'
  has : ∀ r, L' r = none → L r = none
/-- contexts behind a call -/
structure CDone (c : Nat) (S S' : CX) (L L2 : Lg) : Prop where
  own : L2 c = some (.abs (CtxP c S'.σ))
  out : OutC c S' L2
  sub : SubC S.σ S'.σ
  fr : ∀ r, L r ≠ none → r ≠ c → S.σ.t ≠ some r → (∀ o ∈ S.σ.ones, o.c ≠ some r) → L2 r = L r
  has : ∀ r, L2 r = none → L r = none
section
variable {M L L0 : Lg} {c t mb : Nat} {osl asl : AV} {S S' : CX} {Q : AV → Lg → Prop}
theorem OutC.putN (o : OutC c S L) (d : LC) : OutC c S (L.put c d) := by
  refine ⟨fun s hs => ⟨(o.tms s hs).1, ?_⟩, fun o1 h1 a h2 => ⟨(o.chs o1 h1 a h2).1, (o.chs o1 h1 a h2).2.1, ?_⟩⟩
  · rw [Lg.put_ne _ _ _ (o.tms s hs).1]; exact (o.tms s hs).2
  · rw [Lg.put_ne _ _ _ (o.chs o1 h1 a h2).1]; exact (o.chs o1 h1 a h2).2.2
theorem CO.shut {M' L' : Lg} (h : CO c t mb S S' L osl asl M' L') (hc : L c ≠ none) : Sees (M'.over L') (L'.put c (.abs (CtxP c S'.σ))) ∧ CDone c S S' L (L'.put c (.abs (CtxP c S'.σ))) := by
  refine ⟨h.d.shut h.ap, Lg.put_same _ _ _, h.out.putN _, h.sub, ?_, ?_⟩
  · intro r hr h1 h2 h3
    rw [Lg.put_ne _ _ _ h1]; exact h.fr r hr h2 h3
  · intro r hr
    by_cases e : r = c
    · subst e; rw [Lg.put_same] at hr; cases hr
    · rw [Lg.put_ne _ _ _ e] at hr; exact h.has r hr
theorem ResW.shut {v1 v2 : AV} {laps : List Lap} {sts : List (Int × Int)} {L' : Lg} (h : ResW L L' v1 v2 laps sts) (hc : L c ≠ none) (d : LC) : ResW L (L'.put c d) v1 v2 laps sts := by
  obtain ⟨ps, h1, h2⟩ := h
  exact ⟨ps, h1, h2.mono fun b hb hK => Lg.put_ne _ _ _ (by rintro rfl; exact hc hb)⟩
def One.zero : One := ⟨0, false, none, 0, 0, 0, false, false, 0⟩
theorem CO.refl (hd : CtxD c S.σ t mb osl asl M) (ha : Apart M L c) (ho : OutC c S L) : CO c t mb S S L osl asl M L := ⟨hd, ha, ho, (SameC.refl _).sub, FrC.refl _ _, fun _ h => h⟩
end
end Go.AM


/- ctx: Lapse, Unafter, After, Deadline. -/
set_option linter.unusedVariables false
set_option linter.unusedSimpArgs false
namespace Go.AM
variable {N : Nat → Nat} {F : Nat → Option AFn}
section
variable {M L L0 : Lg} {c t mb : Nat} {osl asl : AV} {S S' : CX} {Q : AV → Lg → Prop}
end
end Go.AM


/- ctx: Deadline, what is asked, New; all, closed. -/
set_option linter.unusedVariables false
set_option linter.unusedSimpArgs false
namespace Go.AM
variable {N : Nat → Nat} {F : Nat → Option AFn}
section
variable {M L L0 : Lg} {c t mb : Nat} {osl asl : AV} {S S' : CX} {Q : AV → Lg → Prop}
end
end Go.AM


/- ctx: what is asked, New; all, closed. -/
set_option linter.unusedVariables false
set_option linter.unusedSimpArgs false
namespace Go.AM
variable {N : Nat → Nat} {F : Nat → Option AFn}
section
variable {M L L0 : Lg} {c t mb : Nat} {osl asl : AV} {S S' : CX} {σ : Cs} {Q : AV → Lg → Prop}
/-- a context by its number -/
def Cs.one (σ : Cs) (id : Int) : Option One := if σ.has id = true then σ.ones[id.toNat]? else none
/-- the background alone -/
def Cs.new (t : Option Nat) : Cs := (⟨t, [], [], [], fun _ => none⟩ : Cs).add { One.zero with free := true } (-1)
/-! ### closed -/
end
end Go.AM


/- trees, in plain Lean: kids, what is taken out, walks. -/
set_option linter.unusedVariables false
set_option linter.unusedSimpArgs false
namespace Go.AM
/-- who hangs on one -/
def hangs (ns : List Nd) (k : Int) (i : Nat) : Bool := match ns[i]? with | some n => n.linked && decide (n.parent = k) | none => false
def kidsOf (ns : List Nd) (k : Int) : List Nat := (List.range ns.length).filter (hangs ns k)
structure TreeOk (ns : List Nd) : Prop where
  len : ns.length ≤ 1000
  kids : ∀ (k : Nat) (n : Nd), ns[k]? = some n → n.kids = (kidsOf ns (k : Int)).map fun (i : Nat) => (i : Int)
  par : ∀ (k : Nat) (n : Nd), ns[k]? = some n → n.linked = true → 0 ≤ n.parent ∧ n.parent < k
theorem kidsOf_mem {ns : List Nd} {k : Int} {i : Nat} : i ∈ kidsOf ns k ↔ ∃ n, ns[i]? = some n ∧ n.linked = true ∧ n.parent = k := by
  simp only [kidsOf, List.mem_filter, List.mem_range, hangs]
  constructor
  · rintro ⟨h1, h2⟩
    rw [List.getElem?_eq_getElem h1] at h2 ⊢
    simp at h2
    exact ⟨_, rfl, h2.1, h2.2⟩
  · rintro ⟨n, h1, h2, h3⟩
    exact ⟨(List.getElem?_eq_some_iff.1 h1).1, by simp [h1, h2, h3]⟩
theorem kidsOf_lt {ns : List Nd} (h : TreeOk ns) {k i : Nat} (hi : i ∈ kidsOf ns (k : Int)) : k < i ∧ i < ns.length := by
  obtain ⟨n, h1, h2, h3⟩ := kidsOf_mem.1 hi
  have := h.par i n h1 h2
  exact ⟨by omega, (List.getElem?_eq_some_iff.1 h1).1⟩
/-! ### added -/
theorem addKid_length (ns : List Nd) (i : Nat) (x : Int) : (addKid ns i x).length = ns.length := by
  unfold addKid; split <;> simp
theorem addKid_get (ns : List Nd) (i : Nat) (x : Int) (j : Nat) : (addKid ns i x)[j]? = (ns[j]?).map fun n => if j = i then { n with kids := n.kids ++ [x] } else n := by
  unfold addKid
  split
  · rename_i n hn
    by_cases e : i = j
    · subst e
      have hi : i < ns.length := (List.getElem?_eq_some_iff.1 hn).1
      rw [List.getElem?_set_self hi, hn]; simp
    · rw [List.getElem?_set_ne e]
      cases ns[j]? with
      | none => rfl
      | some m => simp [Ne.symm e]
  · rename_i hn
    cases e : ns[j]? with
    | none => rfl
    | some m =>
      have : j ≠ i := by rintro rfl; rw [hn] at e; cases e
      simp [this]
/-- one more, as it should be -/
structure Added (ns : List Nd) (parent : Int) (lk : Bool) (ms : List Nd) : Prop where
  len : ms.length = ns.length + 1
  old : ∀ (j : Nat) (n : Nd), ns[j]? = some n → ∃ m : Nd, ms[j]? = some m ∧ m.parent = n.parent ∧ m.linked = n.linked
  new : ∃ m : Nd, ms[ns.length]? = some m ∧ m.parent = parent ∧ m.linked = lk
  ok : TreeOk ms
theorem treeAdd_ok {ns : List Nd} (h : TreeOk ns) (hl : ns.length < 1000) {parent : Int} {linked : Bool} (hp : parent = -1 ∨ hasT ns parent = true) :
    ∃ ms, treeAdd ns parent linked = (ms, (ns.length : Int), 0) ∧ Added ns parent (linked && decide (parent ≠ -1)) ms := by
  unfold treeAdd
  have c1 : ¬ (parent ≠ -1 ∧ hasT ns parent = false) := by
    rintro ⟨h1, h2⟩
    rcases hp with h3 | h3
    · exact h1 h3
    · rw [h2] at h3; cases h3
  rw [if_neg c1, if_neg (by omega)]
  refine ⟨_, rfl, ?_⟩
  generalize hlk : (linked && decide (parent ≠ -1)) = lk
  have hpar : lk = true → ∃ p : Nat, parent = (p : Int) ∧ p < ns.length := by
    intro h1
    rw [← hlk] at h1
    simp at h1
    rcases hp with h3 | h3
    · exact absurd h3 h1.2
    · exact hasT_nat h3
  generalize hbase : (if lk = true then addKid ns parent.toNat ns.length else ns) = base
  have hblen : base.length = ns.length := by rw [← hbase]; split <;> simp [addKid_length]
  have hbget : ∀ (j : Nat) (n : Nd), ns[j]? = some n → ∃ m : Nd, base[j]? = some m ∧ m.parent = n.parent ∧ m.linked = n.linked ∧ m.kids = n.kids ++ (if lk = true ∧ parent = (j : Int) then [(ns.length : Int)] else []) := by
    intro j n hn
    rw [← hbase]
    by_cases h1 : lk = true
    · obtain ⟨p, hp1, hp2⟩ := hpar h1
      rw [if_pos h1, addKid_get, hn, hp1]
      by_cases e : j = p
      · subst e; simp [h1]
      · have : ¬ ((p : Int) = (j : Int)) := by omega
        simp [e, this]
    · rw [if_neg h1]
      exact ⟨n, hn, rfl, rfl, by simp [h1]⟩
  have hget : ∀ j, j < ns.length → (base ++ [(⟨parent, lk, []⟩ : Nd)])[j]? = base[j]? := fun j hj => List.getElem?_append_left (by omega)
  have hgetn : (base ++ [(⟨parent, lk, []⟩ : Nd)])[ns.length]? = some ⟨parent, lk, []⟩ := by
    rw [List.getElem?_append_right (by omega), hblen]; simp
  have hhang : ∀ (k : Int) (i : Nat), hangs (base ++ [(⟨parent, lk, []⟩ : Nd)]) k i = if i = ns.length then (lk && decide (parent = k)) else hangs ns k i := by
    intro k i
    unfold hangs
    by_cases e : i = ns.length
    · subst e; rw [hgetn]; simp
    · rw [if_neg e]
      by_cases hi : i < ns.length
      · rw [hget i hi]
        obtain ⟨m, h1, h2, h3, _⟩ := hbget i _ (List.getElem?_eq_getElem hi)
        rw [h1, List.getElem?_eq_getElem hi]; simp [h2, h3]
      · rw [List.getElem?_eq_none (by simp; omega), List.getElem?_eq_none (by omega)]
  have hkids : ∀ k : Int, kidsOf (base ++ [(⟨parent, lk, []⟩ : Nd)]) k = kidsOf ns k ++ (if lk = true ∧ parent = k then [ns.length] else []) := by
    intro k
    unfold kidsOf
    rw [List.length_append, hblen, List.length_singleton, List.range_succ, List.filter_append]
    congr 1
    · apply List.filter_congr
      intro i hi
      have : i ≠ ns.length := by have := List.mem_range.1 hi; omega
      rw [hhang, if_neg this]
    · simp only [List.filter_cons, List.filter_nil, hhang, if_true]
      by_cases h1 : lk = true <;> by_cases h2 : parent = k <;> simp [h1, h2]
  refine ⟨by simp [hblen], ?_, ⟨_, hgetn, rfl, rfl⟩, ⟨by simp [hblen]; omega, ?_, ?_⟩⟩
  · intro j n hn
    have hj : j < ns.length := (List.getElem?_eq_some_iff.1 hn).1
    obtain ⟨m, h1, h2, h3, _⟩ := hbget j n hn
    exact ⟨m, by rw [hget j hj]; exact h1, h2, h3⟩
  · intro k n hn
    rw [hkids]
    by_cases hk : k < ns.length
    · rw [hget k hk] at hn
      obtain ⟨m, h1, h2, h3, h4⟩ := hbget k _ (List.getElem?_eq_getElem hk)
      rw [hn] at h1; cases h1
      rw [h4, h.kids k _ (List.getElem?_eq_getElem hk), List.map_append]
      congr 1
      split <;> simp
    · have hk2 : k = ns.length := by
        have := (List.getElem?_eq_some_iff.1 hn).1
        simp [hblen] at this; omega
      subst hk2
      rw [hgetn] at hn; cases hn
      have e1 : kidsOf ns (ns.length : Int) = [] := by
        rw [List.eq_nil_iff_forall_not_mem]
        intro i hi
        have := kidsOf_lt h hi
        omega
      have e2 : ¬ (lk = true ∧ parent = (ns.length : Int)) := by
        rintro ⟨h1, h2⟩
        obtain ⟨p, h3, h4⟩ := hpar h1
        omega
      simp [e1, e2]
  · intro k n hn hl2
    by_cases hk : k < ns.length
    · rw [hget k hk] at hn
      obtain ⟨m, h1, h2, h3, h4⟩ := hbget k _ (List.getElem?_eq_getElem hk)
      rw [hn] at h1; cases h1
      rw [h2]
      exact h.par k _ (List.getElem?_eq_getElem hk) (by rw [← h3]; exact hl2)
    · have hk2 : k = ns.length := by
        have := (List.getElem?_eq_some_iff.1 hn).1
        simp [hblen] at this; omega
      subst hk2
      rw [hgetn] at hn; cases hn
      obtain ⟨p, h3, h4⟩ := hpar hl2
      simp only
      omega
/-! ### taken out -/
/-! ### walks -/
end Go.AM


/- ctx: what cancel does, as a walk down the tree; in plain Lean. -/
set_option linter.unusedVariables false
set_option linter.unusedSimpArgs false
namespace Go.AM
/-! ### one is hit -/
/-- one that may be hit -/
def LiveAt (T : List Nd) (S : CX) (i : Nat) : Prop :=
  (∃ (w : Nat) (x : One), S.σ.who i = some (w : Int) ∧ S.σ.ones[w]? = some x ∧ x.node = i ∧ x.free = false ∧ x.err = 0 ∧ (∀ a, x.c = some a → (S.χ a).recvs.length + (S.χ a).sends.length ≤ 1000000) ∧ (∀ s o, S.σ.t = some s → S.τ.one x.timer = some o → o.c = none)) ∨
  (∃ (k : Nat) (x : Aft), S.σ.who i = some (-(k : Int) - 1) ∧ k ≤ 1000 ∧ S.σ.afts[k]? = some x ∧ x.node = i ∧ kidsOf T (i : Int) = [])
theorem LiveAt.tree {T : List Nd} {S : CX} {i : Nat} (h : LiveAt T S i) (ns : List Nd) : LiveAt T (S.setTree ns) i := h
end Go.AM


/- ctx: cancel is a walk. -/
set_option linter.unusedVariables false
set_option linter.unusedSimpArgs false
namespace Go.AM
end Go.AM


/- ctx: what is so of contexts; what is made, and who is cancelled; in plain Lean. -/
set_option linter.unusedVariables false
set_option linter.unusedSimpArgs false
namespace Go.AM
structure WF (S : CX) : Prop where
  tr : TreeOk S.σ.tree
  sz : S.σ.ones.length ≤ 64 ∧ S.σ.afts.length ≤ 64
  len : S.σ.tree.length = S.σ.ones.length + S.σ.afts.length
  who1 : ∀ (i : Nat) (x : One), S.σ.ones[i]? = some x → ∃ k : Nat, x.node = (k : Int) ∧ k < S.σ.tree.length ∧ S.σ.who k = some (i : Int)
  who2 : ∀ (j : Nat) (x : Aft), S.σ.afts[j]? = some x → ∃ k : Nat, x.node = (k : Int) ∧ k < S.σ.tree.length ∧ S.σ.who k = some (-(j : Int) - 1) ∧ kidsOf S.σ.tree (k : Int) = []
  cover : ∀ k : Nat, k < S.σ.tree.length → (∃ (i : Nat) (x : One), S.σ.who k = some (i : Int) ∧ S.σ.ones[i]? = some x ∧ x.node = (k : Int)) ∨ (∃ (j : Nat) (x : Aft), S.σ.who k = some (-(j : Int) - 1) ∧ S.σ.afts[j]? = some x ∧ x.node = (k : Int))
  live : ∀ (i k : Nat) (x : One) (n : Nd), S.σ.ones[i]? = some x → x.node = (k : Int) → S.σ.tree[k]? = some n → (n.linked = true ↔ x.free = false ∧ x.err = 0)
  chs : ∀ x ∈ S.σ.ones, ∀ a, x.c = some a → (S.χ a).recvs.length + (S.χ a).sends.length ≤ 1000000
  tms : ∀ x ∈ S.σ.ones, ∀ s o, S.σ.t = some s → S.τ.one x.timer = some o → o.c = none
  tlen : S.τ.x.l.length ≤ 1000000
/-! ### what hits make of each -/
end Go.AM


/- ctx: what is made is as it should be; in plain Lean. -/
set_option linter.unusedVariables false
set_option linter.unusedSimpArgs false
namespace Go.AM
theorem Added.back {ns ms : List Nd} {parent : Int} {lk : Bool} (h : Added ns parent lk ms) {j : Nat} {m : Nd} (hm : ms[j]? = some m) : (j < ns.length ∧ ∃ n, ns[j]? = some n ∧ m.parent = n.parent ∧ m.linked = n.linked) ∨ (j = ns.length ∧ m.parent = parent ∧ m.linked = lk) := by
  have hj : j < ms.length := (List.getElem?_eq_some_iff.1 hm).1
  rw [h.len] at hj
  by_cases e : j < ns.length
  · obtain ⟨m', h1, h2, h3⟩ := h.old j _ (List.getElem?_eq_getElem e)
    rw [hm] at h1; cases h1
    exact .inl ⟨e, _, List.getElem?_eq_getElem e, h2, h3⟩
  · have : j = ns.length := by omega
    subst this
    obtain ⟨m', h1, h2, h3⟩ := h.new
    rw [hm] at h1; cases h1
    exact .inr ⟨rfl, h2, h3⟩
theorem Added.kids {ns ms : List Nd} {parent : Int} {lk : Bool} (h : Added ns parent lk ms) {k : Int} (hk : kidsOf ns k = []) (hp : parent ≠ k ∨ lk = false) : kidsOf ms k = [] := by
  rw [List.eq_nil_iff_forall_not_mem]
  intro i hi
  obtain ⟨m, h1, h2, h3⟩ := kidsOf_mem.1 hi
  rcases h.back h1 with ⟨_, n, e1, e2, e3⟩ | ⟨_, e2, e3⟩
  · have : i ∈ kidsOf ns k := kidsOf_mem.2 ⟨n, e1, by rw [← e3]; exact h2, by rw [← e2]; exact h3⟩
    rw [hk] at this; cases this
  · rcases hp with hp | hp
    · exact hp (by rw [← e2]; exact h3)
    · rw [h2] at e3; rw [hp] at e3; cases e3
theorem WF.node {S : CX} (h : WF S) {p : Nat} {up : One} (hup : S.σ.ones[p]? = some up) : hasT S.σ.tree up.node = true ∧ up.node ≠ -1 := by
  obtain ⟨k, h1, h2, _⟩ := h.who1 p up hup
  refine ⟨?_, by omega⟩
  simp [hasT, h1]; omega
theorem WF.not_aft {S : CX} (h : WF S) {p j : Nat} {up : One} {x : Aft} (hup : S.σ.ones[p]? = some up) (hx : S.σ.afts[j]? = some x) : up.node ≠ x.node := by
  intro e
  obtain ⟨k, h1, h2, h3⟩ := h.who1 p up hup
  obtain ⟨k', g1, g2, g3, _⟩ := h.who2 j x hx
  have : k = k' := by omega
  subst this
  rw [h3] at g3; simp at g3; omega
/-- a context more -/
theorem WF.add {S : CX} (h : WF S) {p : Nat} {up o : One} {χ' : Nat → Ch} (hup : S.σ.ones[p]? = some up) (hlen : S.σ.ones.length < 64) (ho : o.err = 0)
    (hχ : ∀ a n, (S.χ a).recvs.length + (S.χ a).sends.length ≤ n → (χ' a).recvs.length + (χ' a).sends.length ≤ n) (hc : ∀ a, o.c = some a → (χ' a).recvs.length + (χ' a).sends.length ≤ 1000000) :
    WF ({ S with σ := S.σ.add o up.node, χ := χ' } : CX) ∧ (S.σ.add o up.node).ones = S.σ.ones ++ [{ o with node := S.σ.tree.length, timer := -1 }] ∧ Added S.σ.tree up.node (!o.free) (S.σ.add o up.node).tree ∧ (S.σ.add o up.node).who = updI S.σ.who S.σ.tree.length (some (S.σ.ones.length : Int)) := by
  have hn := h.node hup
  have hlt : S.σ.tree.length < 1000 := by have := h.len; have := h.sz; omega
  obtain ⟨ms, e, had⟩ := treeAdd_ok (linked := !o.free) h.tr hlt (.inr hn.1)
  have hlk : ((!o.free) && decide (up.node ≠ -1)) = !o.free := by simp [hn.2]
  rw [hlk] at had
  have eo : (S.σ.add o up.node).ones = S.σ.ones ++ [{ o with node := S.σ.tree.length, timer := -1 }] := by simp [Cs.add, e]
  have et : (S.σ.add o up.node).tree = ms := by simp [Cs.add, e]
  have ew : (S.σ.add o up.node).who = updI S.σ.who S.σ.tree.length (some (S.σ.ones.length : Int)) := by simp [Cs.add, e]
  have ea : (S.σ.add o up.node).afts = S.σ.afts := rfl
  have oback : ∀ (w : Nat) (x : One), (S.σ.add o up.node).ones[w]? = some x → (w < S.σ.ones.length ∧ S.σ.ones[w]? = some x) ∨ (w = S.σ.ones.length ∧ x = { o with node := S.σ.tree.length, timer := -1 }) := by
    intro w x hx
    rw [eo] at hx
    by_cases hw : w < S.σ.ones.length
    · rw [List.getElem?_append_left hw] at hx; exact .inl ⟨hw, hx⟩
    · rw [List.getElem?_append_right (by omega)] at hx
      have hz : w - S.σ.ones.length = 0 := by
        rcases Nat.eq_zero_or_pos (w - S.σ.ones.length) with h9 | h9
        · exact h9
        · rw [List.getElem?_eq_none (by simp; omega)] at hx; cases hx
      rw [hz] at hx; simp at hx
      exact .inr ⟨by omega, hx.symm⟩
  have ofwd : ∀ (w : Nat) (x : One), S.σ.ones[w]? = some x → (S.σ.add o up.node).ones[w]? = some x := by
    intro w x hx
    have hw : w < S.σ.ones.length := (List.getElem?_eq_some_iff.1 hx).1
    rw [eo, List.getElem?_append_left hw]; exact hx
  have who_old : ∀ k : Nat, k < S.σ.tree.length → (S.σ.add o up.node).who k = S.σ.who k := by
    intro k hk
    rw [ew]; unfold updI
    rw [if_neg (by omega)]
  refine ⟨⟨by rw [et]; exact had.ok, ⟨by rw [eo]; simp; omega, h.sz.2⟩, ?_, ?_, ?_, ?_, ?_, ?_, ?_, h.tlen⟩, eo, by rw [et]; exact had, ew⟩
  · show (S.σ.add o up.node).tree.length = (S.σ.add o up.node).ones.length + S.σ.afts.length
    rw [et, had.len, eo, h.len]; simp; omega
  · intro w x hx
    show ∃ k, _ ∧ k < (S.σ.add o up.node).tree.length ∧ (S.σ.add o up.node).who k = _
    rw [et, had.len]
    rcases oback w x hx with ⟨_, h1⟩ | ⟨rfl, rfl⟩
    · obtain ⟨k, k1, k2, k3⟩ := h.who1 w x h1
      exact ⟨k, k1, by omega, by rw [who_old k k2]; exact k3⟩
    · exact ⟨S.σ.tree.length, rfl, by omega, by rw [ew]; simp [updI]⟩
  · intro w x hx
    show ∃ k, _ ∧ k < (S.σ.add o up.node).tree.length ∧ (S.σ.add o up.node).who k = _ ∧ kidsOf (S.σ.add o up.node).tree k = []
    rw [et, had.len]
    obtain ⟨k, k1, k2, k3, k4⟩ := h.who2 w x hx
    refine ⟨k, k1, by omega, by rw [who_old k k2]; exact k3, had.kids k4 (.inl ?_)⟩
    have := h.not_aft hup hx
    omega
  · intro k hk
    have hk' : k < (S.σ.add o up.node).tree.length := hk
    rw [et, had.len] at hk'
    by_cases e1 : k < S.σ.tree.length
    · rcases h.cover k e1 with ⟨w, x, c1, c2, c3⟩ | ⟨w, x, c1, c2, c3⟩
      · exact .inl ⟨w, x, by show (S.σ.add o up.node).who k = _; rw [who_old k e1]; exact c1, ofwd w x c2, c3⟩
      · exact .inr ⟨w, x, by show (S.σ.add o up.node).who k = _; rw [who_old k e1]; exact c1, c2, c3⟩
    · have : k = S.σ.tree.length := by omega
      subst this
      refine .inl ⟨S.σ.ones.length, { o with node := S.σ.tree.length, timer := -1 }, ?_, ?_, rfl⟩
      · show (S.σ.add o up.node).who _ = _
        rw [ew]; simp [updI]
      · show (S.σ.add o up.node).ones[_]? = _
        rw [eo]; simp
  · intro w k x n hx hk hn2
    have hn2' : ms[k]? = some n := by rw [← et]; exact hn2
    rcases had.back hn2' with ⟨b1, m, b2, b3, b4⟩ | ⟨b1, b3, b4⟩
    · rcases oback w x hx with ⟨_, h1⟩ | ⟨rfl, rfl⟩
      · rw [b4]; exact h.live w k x m h1 hk b2
      · simp at hk; omega
    · rcases oback w x hx with ⟨_, h1⟩ | ⟨rfl, rfl⟩
      · obtain ⟨k2, k3, k4, _⟩ := h.who1 w x h1
        omega
      · rw [b4]; simp [ho]
  · intro x hx a ha
    obtain ⟨w, hw⟩ := List.mem_iff_getElem?.1 hx
    rcases oback w x hw with ⟨_, h1⟩ | ⟨rfl, rfl⟩
    · exact hχ a _ (h.chs x (List.mem_of_getElem? h1) a ha)
    · exact hc a ha
  · intro x hx s o2 hs ho2
    obtain ⟨w, hw⟩ := List.mem_iff_getElem?.1 hx
    rcases oback w x hw with ⟨_, h1⟩ | ⟨rfl, rfl⟩
    · exact h.tms x (List.mem_of_getElem? h1) s o2 hs ho2
    · simp [Tms.one, Tms.has] at ho2
end Go.AM


/- ctx: what a walk tells; what laws keep of memory. -/
set_option linter.unusedVariables false
set_option linter.unusedSimpArgs false
namespace Go.AM
/-! ### what laws keep of memory -/
section
variable {c : Nat} {S S' : CX} {L L2 : Lg}
theorem CDone.raw (h : CDone c S S' L L2) (e : L c = some (.abs (CtxP c S.σ))) (ho : OutC c S L) {r : Nat} {x : AB} (hr : L r = some (.raw x)) : L2 r = some (.raw x) := by
  rw [h.fr r (by rw [hr]; simp) (by rintro rfl; rw [hr] at e; cases e) (fun h9 => by have := (ho.tms r h9).2; rw [hr] at this; cases this) (fun o h8 h9 => by have := (ho.chs o h8 r h9).2.2; rw [hr] at this; cases this)]
  exact hr
/-- all raw blocks are kept -/
def RawK (L L2 : Lg) : Prop := ∀ r x, L r = some (.raw x) → L2 r = some (.raw x)
theorem RawK.refl (L : Lg) : RawK L L := fun _ _ h => h
theorem RawK.trans {L3 : Lg} (h : RawK L L2) (k : RawK L2 L3) : RawK L L3 := fun r x hr => k r x (h r x hr)
theorem RawK.osl (h : RawK L L2) {v : AV} {cs : List AV} {n size : Nat} (o : OSl L v cs n size) : OSl L2 v cs n size := o.mono fun b hb => by rw [o.block hb]; exact h _ _ (o.block hb)
theorem RawK.put (L : Lg) {b : Nat} (hb : L b = none) (d : LC) : RawK L (L.put b d) := fun r x hr => by
  rw [Lg.put_ne _ _ _ (by rintro rfl; rw [hb] at hr; cases hr)]; exact hr
end
/-- what is known to answer true -/
theorem known2_spec {F : Nat → Option AFn} {f : Nat} (h : F f = some kTrue) (L : Lg) : CallL F f [] L fun v L' => v = .b true ∧ L' = L := by
  apply CallL.of_wp h
  show fin _ _ _ _ _
  exact ⟨L, Sees.refl _, rfl, rfl⟩
/-- a row of slices, read -/
theorem ResP.get {L0 K : Lg} {v1 v2 : AV} {ps : List (Lap × AV)} {sts : List (Int × Int)} {F : Nat → Option AFn} (h : ResP L0 K v1 v2 ps sts) {i : Nat} {p : Lap × AV} (hi : ps[i]? = some p) : ∃ b, K b = some (.raw (.cells (flatc lapc ps))) ∧
    (∀ (X : Lg) (k : AV → Lg → Prop), wpOp F (.iad 4) [v1, .i .i64 i] X k = k (.p (some (b, i * 4))) X) ∧ (∀ X : Lg, X b = K b → ∀ j, j < 4 → rdL X (b, i * 4 + j) none = (lapc p)[j]?) := by
  have hl : i < ps.length := (List.getElem?_eq_some_iff.1 hi).1
  obtain ⟨b, h1, h2, h3, h4⟩ := h.o1.iad (F := F) (x := (i : Int)) (by omega) (by omega)
  refine ⟨b, h2, fun X k => by simpa using h4 X k .i64, fun X hX j hj => ?_⟩
  rw [rdL_cell (by rw [hX]; exact h2), flatc_get (k := 4) (fun _ => rfl) ps i j p hi hj]
end Go.AM


/- what laws do with slices of their own. -/
set_option linter.unusedVariables false
set_option linter.unusedSimpArgs false
namespace Go.AM
variable {N : Nat → Nat} {F : Nat → Option AFn}
/-- all that was is there, but one block -/
def KeepE (o : Option Nat) (K K1 : Lg) : Prop := ∀ r d, K r = some d → o ≠ some r → K1 r = some d
theorem KeepE.osl {o : Option Nat} {K K1 : Lg} (h : KeepE o K K1) {v : AV} {cs : List AV} {n size : Nat} (s : OSl K v cs n size) (hn : ∀ b, slB v = some b → o ≠ some b) : OSl K1 v cs n size := s.mono fun b hb => by rw [s.block hb]; exact h b _ (s.block hb) (hn b hb)
end Go.AM


/- The code of functions, with names for their numbers, and what is left of its weakest preconditions. PRINTED by our printgen.py. -/
set_option linter.unusedVariables false
set_option maxRecDepth 100000
namespace Go.AM
def k_lapse_View_code : Nat := 165
def k_lapse_View_hangs : Nat := 166
def k_lapse_over : Nat := 167
def k_lapse_Sound : Nat := 168
def k_tarpaulinlaw24_awake : Nat := 170
def k_tarpaulinlaw24_LapseOdd : Nat := 176
def q_lapse_View_code_1 (N : TN) : ACode := (.seq (.reg [⟨.l 1, none, .box, [.l 0]⟩, ⟨.l 2, none, .mv, [.c (.b false)]⟩]) (.seq (.seq (.reg [⟨.t 3, none, .fad 2, [.l 1]⟩, ⟨.l 4, none, .ld none, [.t 3]⟩]) (.block 0 (.seq (.reg [⟨.t 6, none, .bin .eql, [.l 4, .c (.i .i64 0)]⟩, ⟨.t 5, none, .mv, [.t 6]⟩]) (.cond (.t 5) (.seq (.reg [⟨.t 7, none, .fad 3, [.l 1]⟩, ⟨.t 8, none, .ld none, [.t 7]⟩, ⟨.t 9, none, .bin .eql, [.t 8, .c (.i .i64 0)]⟩, ⟨.l 2, none, .mv, [.t 9]⟩]) .ret) (.seq (.seq (.reg [⟨.t 11, none, .bin .eql, [.l 4, .c (.i .i64 1)]⟩, ⟨.t 10, none, .mv, [.t 11]⟩]) (.cond (.t 10) .skip (.reg [⟨.t 12, none, .bin .eql, [.l 4, .c (.i .i64 2)]⟩, ⟨.t 10, none, .mv, [.t 12]⟩]))) (.cond (.t 10) (.seq (.reg [⟨.t 13, none, .fad 3, [.l 1]⟩, ⟨.t 14, none, .ld none, [.t 13]⟩, ⟨.t 15, none, .bin .geq, [.t 14, .c (.i .i64 1)]⟩, ⟨.l 2, none, .mv, [.t 15]⟩]) .ret) .skip)))))) (.seq (.reg [⟨.l 2, none, .mv, [.c (.b false)]⟩]) .ret)))
noncomputable def D_lapse_View_code_1 (F : TF) (N : TN) (Q : TQ) (x0 : AV) (L : Lg) : Prop :=
 wpOp F .box [x0] L fun v1 L1 =>
 wpOp F (.fad 2) [v1] L1 fun v2 L2 =>
 wpOp F (.ld none) [v2] L2 fun v3 L3 =>
 wpOp F (.bin .eql) [v3, (.i .i64 0)] L3 fun v4 L4 =>
 condW v4
 (wpOp F (.fad 3) [v1] L4 fun v5 L5 =>
 wpOp F (.ld none) [v5] L5 fun v6 L6 =>
 wpOp F (.bin .eql) [v6, (.i .i64 0)] L6 fun v7 L7 =>
 fin1 (some v7) Q L7)
 (wpOp F (.bin .eql) [v3, (.i .i64 1)] L4 fun v8 L8 =>
 condW v8
 (condW v8
 (wpOp F (.fad 3) [v1] L8 fun v9 L9 =>
 wpOp F (.ld none) [v9] L9 fun v10 L10 =>
 wpOp F (.bin .geq) [v10, (.i .i64 1)] L10 fun v11 L11 =>
 fin1 (some v11) Q L11)
 (fin1 (some (.b false)) Q L8))
 (wpOp F (.bin .eql) [v3, (.i .i64 2)] L8 fun v12 L12 =>
 condW v12
 (wpOp F (.fad 3) [v1] L12 fun v13 L13 =>
 wpOp F (.ld none) [v13] L13 fun v14 L14 =>
 wpOp F (.bin .geq) [v14, (.i .i64 1)] L14 fun v15 L15 =>
 fin1 (some v15) Q L15)
 (fin1 (some (.b false)) Q L12)))
theorem e_lapse_View_code_1 (F : TF) (N : TN) (Q : TQ) (l t : Env) (L : Lg) : wp F (q_lapse_View_code_1 N) l t L (fin [.tmp (.l 2)] Q) nE (fin [.tmp (.l 2)] Q) = D_lapse_View_code_1 F N Q (l 0) L := by kernel_rfl
/-- (tarpaulin/lapse.View).code -/
def c_lapse_View_code (N : TN) : AFn := ⟨q_lapse_View_code_1 N, [.tmp (.l 2)]⟩
structure H_lapse_View_code (N : TN) (F : TF) : Prop where
  code : F (N k_lapse_View_code) = some (c_lapse_View_code N)
theorem r_lapse_View_code {F : TF} {N : TN} (h : F (N k_lapse_View_code) = some (c_lapse_View_code N)) {Q : TQ} {a0 : AV} {L : Lg} (e : D_lapse_View_code_1 F N Q a0 L) : CallL F (N k_lapse_View_code) [a0] L Q :=
  CallL.of_wp h (Eq.mpr (Eq.trans (e_lapse_View_code_1 F N Q (initE [a0] 0) Env.nil L) (by kernel_rfl : _ = D_lapse_View_code_1 F N Q a0 L)) e)
def q_lapse_View_hangs_1 (N : TN) : ACode := (.seq (.reg [⟨.l 2, none, .box, [.l 0]⟩, ⟨.l 3, none, .box, [.l 1]⟩, ⟨.l 4, none, .mv, [.c (.b false)]⟩]) (.seq (.reg [⟨.t 5, none, .fad 2, [.l 3]⟩, ⟨.t 6, none, .ld none, [.t 5]⟩, ⟨.t 7, none, .bin .eql, [.t 6, .c (.i .i64 0)]⟩, ⟨.t 8, none, .mv, [.t 7]⟩, ⟨.t 9, some (.t 8, false), .fad 2, [.l 2]⟩, ⟨.t 10, some (.t 8, false), .ld none, [.t 9]⟩, ⟨.t 11, some (.t 8, false), .bin .neq, [.t 10, .c (.i .i64 0)]⟩, ⟨.t 12, none, .pick, [.t 8, .c (.b true), .t 11]⟩, ⟨.t 13, none, .mv, [.t 12]⟩, ⟨.t 14, some (.t 13, true), .fad 5, [.l 3]⟩, ⟨.t 15, some (.t 13, true), .ld none, [.t 14]⟩, ⟨.t 16, some (.t 13, true), .un .not, [.t 15]⟩, ⟨.t 17, some (.t 13, true), .mv, [.t 16]⟩, ⟨.t 18, some (.t 17, false), .fad 5, [.l 2]⟩, ⟨.t 19, some (.t 17, false), .ld none, [.t 18]⟩, ⟨.t 20, some (.t 17, false), .mv, [.t 19]⟩, ⟨.t 21, some (.t 20, true), .fad 4, [.l 2]⟩, ⟨.t 22, some (.t 20, true), .ld none, [.t 21]⟩, ⟨.t 23, some (.t 20, true), .fad 4, [.l 3]⟩, ⟨.t 24, some (.t 20, true), .ld none, [.t 23]⟩, ⟨.t 25, some (.t 20, true), .bin .leq, [.t 22, .t 24]⟩, ⟨.t 26, some (.t 17, false), .pick, [.t 20, .t 25, .c (.b false)]⟩, ⟨.t 27, some (.t 13, true), .pick, [.t 17, .c (.b true), .t 26]⟩, ⟨.t 28, none, .pick, [.t 13, .t 27, .c (.b false)]⟩, ⟨.l 4, none, .mv, [.t 28]⟩]) .ret))
noncomputable def D_lapse_View_hangs_1 (F : TF) (N : TN) (Q : TQ) (x0 : AV) (x1 : AV) (L : Lg) : Prop :=
 wpOp F .box [x0] L fun v1 L1 =>
 wpOp F .box [x1] L1 fun v2 L2 =>
 wpOp F (.fad 2) [v2] L2 fun v3 L3 =>
 wpOp F (.ld none) [v3] L3 fun v4 L4 =>
 wpOp F (.bin .eql) [v4, (.i .i64 0)] L4 fun v5 L5 =>
 gdOp F v5 false (.fad 2) [v1] L5 fun v6 L6 =>
 gdOp F v5 false (.ld none) [v6] L6 fun v7 L7 =>
 gdOp F v5 false (.bin .neq) [v7, (.i .i64 0)] L7 fun v8 L8 =>
 wpOp F .pick [v5, (.b true), v8] L8 fun v9 L9 =>
 gdOp F v9 true (.fad 5) [v2] L9 fun v10 L10 =>
 gdOp F v9 true (.ld none) [v10] L10 fun v11 L11 =>
 gdOp F v9 true (.un .not) [v11] L11 fun v12 L12 =>
 gdOp F v9 true .mv [v12] L12 fun v13 L13 =>
 gdOp F v13 false (.fad 5) [v1] L13 fun v14 L14 =>
 gdOp F v13 false (.ld none) [v14] L14 fun v15 L15 =>
 gdOp F v13 false .mv [v15] L15 fun v16 L16 =>
 gdOp F v16 true (.fad 4) [v1] L16 fun v17 L17 =>
 gdOp F v16 true (.ld none) [v17] L17 fun v18 L18 =>
 gdOp F v16 true (.fad 4) [v2] L18 fun v19 L19 =>
 gdOp F v16 true (.ld none) [v19] L19 fun v20 L20 =>
 gdOp F v16 true (.bin .leq) [v18, v20] L20 fun v21 L21 =>
 gdOp F v13 false .pick [v16, v21, (.b false)] L21 fun v22 L22 =>
 gdOp F v9 true .pick [v13, (.b true), v22] L22 fun v23 L23 =>
 wpOp F .pick [v9, v23, (.b false)] L23 fun v24 L24 =>
 fin1 (some v24) Q L24
theorem e_lapse_View_hangs_1 (F : TF) (N : TN) (Q : TQ) (l t : Env) (L : Lg) : wp F (q_lapse_View_hangs_1 N) l t L (fin [.tmp (.l 4)] Q) nE (fin [.tmp (.l 4)] Q) = D_lapse_View_hangs_1 F N Q (l 0) (l 1) L := by kernel_rfl
/-- (tarpaulin/lapse.View).hangs -/
def c_lapse_View_hangs (N : TN) : AFn := ⟨q_lapse_View_hangs_1 N, [.tmp (.l 4)]⟩
structure H_lapse_View_hangs (N : TN) (F : TF) : Prop where
  code : F (N k_lapse_View_hangs) = some (c_lapse_View_hangs N)
theorem r_lapse_View_hangs {F : TF} {N : TN} (h : F (N k_lapse_View_hangs) = some (c_lapse_View_hangs N)) {Q : TQ} {a0 a1 : AV} {L : Lg} (e : D_lapse_View_hangs_1 F N Q a0 a1 L) : CallL F (N k_lapse_View_hangs) [a0, a1] L Q :=
  CallL.of_wp h (Eq.mpr (Eq.trans (e_lapse_View_hangs_1 F N Q (initE [a0, a1] 0) Env.nil L) (by kernel_rfl : _ = D_lapse_View_hangs_1 F N Q a0 a1 L)) e)
def y_lapse_over_2 (F : TF) (N : TN) (Q : TQ) : Nat → Kn := (fun (j : Nat) (l t : Env) (L : Lg) => bif Nat.beq j 0 then (fin [.tmp (.l 6)] Q) l t L else nE j l t L)
def q_lapse_over_4 (N : TN) : ACode := (.block 1 (.seq (.reg [⟨.t 8, none, .mv, [.l 0]⟩, ⟨.t 9, none, .mv, [.l 1]⟩, ⟨.t 10, none, .iad 6, [.t 8, .t 9]⟩, ⟨.t 11, none, .ld (some 6), [.t 10]⟩, ⟨.l 7, none, .alloc [.i .i64 0, .b false, .i .i64 0, .i .i64 0, .i .i64 0, .b false], []⟩, ⟨.no, none, .st 6, [.l 7, .t 11]⟩]) (.seq (.seq (.reg [⟨.t 12, none, .fad 5, [.l 7]⟩, ⟨.t 13, none, .ld none, [.t 12]⟩, ⟨.t 14, none, .mv, [.t 13]⟩, ⟨.t 15, some (.t 14, true), .fad 4, [.l 7]⟩, ⟨.t 16, some (.t 14, true), .ld none, [.t 15]⟩, ⟨.t 17, some (.t 14, true), .mv, [.l 2]⟩, ⟨.t 18, some (.t 14, true), .bin .leq, [.t 16, .t 17]⟩, ⟨.t 19, none, .pick, [.t 14, .t 18, .c (.b false)]⟩]) (.cond (.t 19) (.seq (.reg [⟨.l 6, none, .mv, [.c (.b true)]⟩]) .ret) .skip)) (.seq (.seq (.reg [⟨.t 20, none, .fad 1, [.l 7]⟩, ⟨.t 21, none, .ld none, [.t 20]⟩, ⟨.t 22, none, .un .not, [.t 21]⟩, ⟨.t 23, none, .mv, [.t 22]⟩, ⟨.t 24, some (.t 23, false), .fad 0, [.l 7]⟩, ⟨.t 25, some (.t 23, false), .ld none, [.t 24]⟩, ⟨.t 26, some (.t 23, false), .bin .lss, [.t 25, .c (.i .i64 0)]⟩, ⟨.t 27, none, .pick, [.t 23, .c (.b true), .t 26]⟩, ⟨.t 28, none, .mv, [.t 27]⟩, ⟨.t 29, some (.t 28, false), .fad 0, [.l 7]⟩, ⟨.t 30, some (.t 28, false), .ld none, [.t 29]⟩, ⟨.t 31, some (.t 28, false), .mv, [.l 1]⟩, ⟨.t 32, some (.t 28, false), .bin .geq, [.t 30, .t 31]⟩, ⟨.t 33, none, .pick, [.t 28, .c (.b true), .t 32]⟩]) (.cond (.t 33) (.seq (.reg [⟨.l 6, none, .mv, [.c (.b false)]⟩]) .ret) .skip)) (.reg [⟨.t 34, none, .fad 0, [.l 7]⟩, ⟨.t 35, none, .ld none, [.t 34]⟩, ⟨.l 1, none, .mv, [.t 35]⟩])))))
noncomputable def D_lapse_over_4 (F : TF) (N : TN) (Q : TQ) (k1 : TK) (l : Env) (L : Lg) : Prop :=
 wpOp F (.iad 6) [(l 0), (l 1)] L fun v1 L1 =>
 wpOp F (.ld (some 6)) [v1] L1 fun v2 L2 =>
 wpOp F (.alloc [.i .i64 0, .b false, .i .i64 0, .i .i64 0, .i .i64 0, .b false]) [] L2 fun v3 L3 =>
 wpOp F (.st 6) [v3, v2] L3 fun _ L4 =>
 wpOp F (.fad 5) [v3] L4 fun v5 L5 =>
 wpOp F (.ld none) [v5] L5 fun v6 L6 =>
 gdOp F v6 true (.fad 4) [v3] L6 fun v7 L7 =>
 gdOp F v6 true (.ld none) [v7] L7 fun v8 L8 =>
 gdOp F v6 true .mv [(l 2)] L8 fun v9 L9 =>
 gdOp F v6 true (.bin .leq) [v8, v9] L9 fun v10 L10 =>
 wpOp F .pick [v6, v10, (.b false)] L10 fun v11 L11 =>
 condW v11
 (fin1 (some (.b true)) Q L11)
 (wpOp F (.fad 1) [v3] L11 fun v12 L12 =>
 wpOp F (.ld none) [v12] L12 fun v13 L13 =>
 wpOp F (.un .not) [v13] L13 fun v14 L14 =>
 gdOp F v14 false (.fad 0) [v3] L14 fun v15 L15 =>
 gdOp F v14 false (.ld none) [v15] L15 fun v16 L16 =>
 gdOp F v14 false (.bin .lss) [v16, (.i .i64 0)] L16 fun v17 L17 =>
 wpOp F .pick [v14, (.b true), v17] L17 fun v18 L18 =>
 gdOp F v18 false (.fad 0) [v3] L18 fun v19 L19 =>
 gdOp F v18 false (.ld none) [v19] L19 fun v20 L20 =>
 gdOp F v18 false .mv [(l 1)] L20 fun v21 L21 =>
 gdOp F v18 false (.bin .geq) [v20, v21] L21 fun v22 L22 =>
 wpOp F .pick [v18, (.b true), v22] L22 fun v23 L23 =>
 condW v23
 (fin1 (some (.b false)) Q L23)
 (wpOp F (.fad 0) [v3] L23 fun v24 L24 =>
 wpOp F (.ld none) [v24] L24 fun v25 L25 =>
 k1 (Env.put (Env.put l 7 v3) 1 v25) L25))
theorem e_lapse_over_4 (F : TF) (N : TN) (Q : TQ) (k1 : TK) (l t : Env) (L : Lg) : wp F (q_lapse_over_4 N) l t L (fun (l _ : Env) (L : Lg) => k1 l L) (y_lapse_over_2 F N Q) (fin [.tmp (.l 6)] Q) = D_lapse_over_4 F N Q k1 l L := by kernel_rfl
def q_lapse_over_3 (N : TN) : ACode := (.loop (q_lapse_over_4 N))
noncomputable def D_lapse_over_3 (F : TF) (N : TN) (Q : TQ) (l : Env) (L : Lg) : Prop :=
 loopW (fun l t L k1 => D_lapse_over_4 F N Q k1 l L) l L
theorem e_lapse_over_3 (F : TF) (N : TN) (Q : TQ) (l t : Env) (L : Lg) : wp F (q_lapse_over_3 N) l t L (fin [.tmp (.l 6)] Q) (y_lapse_over_2 F N Q) (fin [.tmp (.l 6)] Q) = D_lapse_over_3 F N Q l L := wpL (fun l t L k1 => e_lapse_over_4 F N Q k1 l t L) (by kernel_rfl)
def q_lapse_over_2 (N : TN) : ACode := (.block 0 (q_lapse_over_3 N))
theorem e_lapse_over_2 (F : TF) (N : TN) (Q : TQ) (l t : Env) (L : Lg) : wp F (q_lapse_over_2 N) l t L (fin [.tmp (.l 6)] Q) nE (fin [.tmp (.l 6)] Q) = D_lapse_over_3 F N Q l L := wpB (e_lapse_over_3 F N Q l t L)
def q_lapse_over_1a (N : TN) : ACode := (.reg [⟨.l 6, none, .mv, [.c (.b false)]⟩])
def q_lapse_over_1 (N : TN) : ACode := (.seq (q_lapse_over_1a N) (q_lapse_over_2 N))
noncomputable def D_lapse_over_1 (F : TF) (N : TN) (Q : TQ) (l : Env) (L : Lg) : Prop :=
 D_lapse_over_3 F N Q (Env.put l 6 (.b false)) L
theorem e_lapse_over_1 (F : TF) (N : TN) (Q : TQ) (l t : Env) (L : Lg) : wp F (q_lapse_over_1 N) l t L (fin [.tmp (.l 6)] Q) nE (fin [.tmp (.l 6)] Q) = D_lapse_over_1 F N Q l L := wpS (e_lapse_over_2 F N Q) (by kernel_rfl)
/-- tarpaulin/lapse.over -/
def c_lapse_over (N : TN) : AFn := ⟨q_lapse_over_1 N, [.tmp (.l 6)]⟩
structure H_lapse_over (N : TN) (F : TF) : Prop where
  code : F (N k_lapse_over) = some (c_lapse_over N)
theorem r_lapse_over {F : TF} {N : TN} (h : F (N k_lapse_over) = some (c_lapse_over N)) {Q : TQ} {a0 a1 a2 : AV} {L : Lg} (e : D_lapse_over_1 F N Q (initE [a0, a1, a2] 0) L) : CallL F (N k_lapse_over) [a0, a1, a2] L Q :=
  CallL.of_wp h (Eq.mpr (Eq.trans (e_lapse_over_1 F N Q (initE [a0, a1, a2] 0) Env.nil L) (by kernel_rfl : _ = D_lapse_over_1 F N Q (initE [a0, a1, a2] 0) L)) e)
def q_lapse_Sound_3 (N : TN) : ACode := (.seq (.reg [⟨.l 4, none, .mv, [.c (.b true)]⟩]) .ret)
noncomputable def D_lapse_Sound_3 (F : TF) (N : TN) (Q : TQ) (L : Lg) : Prop :=
 fin1 (some (.b true)) Q L
theorem e_lapse_Sound_3 (F : TF) (N : TN) (Q : TQ) (l t : Env) (L : Lg) : wp F (q_lapse_Sound_3 N) l t L (fin [.tmp (.l 4)] Q) nE (fin [.tmp (.l 4)] Q) = D_lapse_Sound_3 F N Q L := by kernel_rfl
def y_lapse_Sound_5 (F : TF) (N : TN) (Q : TQ) : Nat → Kn := (fun (j : Nat) (l t : Env) (L : Lg) => bif Nat.beq j 0 then (fun (l t : Env) (L : Lg) => D_lapse_Sound_3 F N Q L) l t L else nE j l t L)
def q_lapse_Sound_10 (N : TN) : ACode := (.reg [⟨.t 70, none, .bin .add, [.l 10, .c (.i .i64 1)]⟩, ⟨.l 10, none, .mv, [.t 70]⟩])
noncomputable def D_lapse_Sound_10 (F : TF) (N : TN) (Q : TQ) (k1 : TK) (l : Env) (L : Lg) : Prop :=
 wpOp F (.bin .add) [(l 10), (.i .i64 1)] L fun v1 L1 =>
 k1 (Env.put l 10 v1) L1
theorem e_lapse_Sound_10 (F : TF) (N : TN) (Q : TQ) (k1 : TK) (l t : Env) (L : Lg) : wp F (q_lapse_Sound_10 N) l t L (fun (l _ : Env) (L : Lg) => k1 l L) (y_lapse_Sound_5 F N Q) (fin [.tmp (.l 4)] Q) = D_lapse_Sound_10 F N Q k1 l L := by kernel_rfl
def y_lapse_Sound_11 (F : TF) (N : TN) (Q : TQ) (k1 : TK) : Nat → Kn := (fun (j : Nat) (l t : Env) (L : Lg) => bif Nat.beq j 1 then (fun (l t : Env) (L : Lg) => D_lapse_Sound_10 F N Q k1 l L) l t L else (y_lapse_Sound_5 F N Q) j l t L)
def q_lapse_Sound_15 (N : TN) : ACode := (.seq (.seq (.reg [⟨.t 36, none, .mv, [.l 7]⟩, ⟨.t 37, none, .mv, [.t 36]⟩, ⟨.t 38, some (.t 37, true), .ld (some 6), [.l 6]⟩, ⟨.t 39, some (.t 37, true), .mv, [.l 0]⟩, ⟨.t 40, some (.t 37, true), .fad 0, [.l 6]⟩, ⟨.t 41, some (.t 37, true), .ld none, [.t 40]⟩, ⟨.t 42, some (.t 37, true), .iad 6, [.t 39, .t 41]⟩, ⟨.t 43, some (.t 37, true), .ld (some 6), [.t 42]⟩, ⟨.t 44, some (.t 37, true), .call (N k_lapse_View_hangs), [.t 38, .t 43]⟩, ⟨.t 45, some (.t 37, true), .un .not, [.t 44]⟩, ⟨.t 46, none, .pick, [.t 37, .t 45, .c (.b false)]⟩]) (.cond (.t 46) (.seq (.reg [⟨.l 4, none, .mv, [.c (.b false)]⟩]) .ret) .skip)) (.seq (.reg [⟨.t 47, none, .fad 2, [.l 6]⟩, ⟨.t 48, none, .ld none, [.t 47]⟩, ⟨.t 49, none, .bin .eql, [.t 48, .c (.i .i64 2)]⟩, ⟨.t 50, none, .mv, [.t 49]⟩, ⟨.t 51, some (.t 50, true), .mv, [.l 0]⟩, ⟨.t 52, some (.t 50, true), .mv, [.l 5]⟩, ⟨.t 53, some (.t 50, true), .mv, [.l 1]⟩, ⟨.t 54, some (.t 50, true), .call (N k_lapse_over), [.t 51, .t 52, .t 53]⟩, ⟨.t 55, some (.t 50, true), .un .not, [.t 54]⟩, ⟨.t 56, none, .pick, [.t 50, .t 55, .c (.b false)]⟩, ⟨.t 57, none, .mv, [.t 56]⟩, ⟨.t 58, some (.t 57, true), .mv, [.l 7]⟩, ⟨.t 59, some (.t 57, true), .mv, [.t 58]⟩, ⟨.t 60, some (.t 59, true), .mv, [.l 0]⟩, ⟨.t 61, some (.t 59, true), .fad 0, [.l 6]⟩, ⟨.t 62, some (.t 59, true), .ld none, [.t 61]⟩, ⟨.t 63, some (.t 59, true), .iad 6, [.t 60, .t 62]⟩, ⟨.t 64, some (.t 59, true), .fad 2, [.t 63]⟩, ⟨.t 65, some (.t 59, true), .ld none, [.t 64]⟩, ⟨.t 66, some (.t 59, true), .bin .eql, [.t 65, .c (.i .i64 2)]⟩, ⟨.t 67, some (.t 57, true), .pick, [.t 59, .t 66, .c (.b false)]⟩, ⟨.t 68, some (.t 57, true), .un .not, [.t 67]⟩, ⟨.t 69, none, .pick, [.t 57, .t 68, .c (.b false)]⟩]) (.cond (.t 69) (.seq (.reg [⟨.l 4, none, .mv, [.c (.b false)]⟩]) .ret) .skip)))
noncomputable def D_lapse_Sound_15 (F : TF) (N : TN) (Q : TQ) (k1 : TK) (l : Env) (L : Lg) : Prop :=
 gdOp F (l 7) true (.ld (some 6)) [(l 6)] L fun v1 L1 =>
 gdOp F (l 7) true .mv [(l 0)] L1 fun v2 L2 =>
 gdOp F (l 7) true (.fad 0) [(l 6)] L2 fun v3 L3 =>
 gdOp F (l 7) true (.ld none) [v3] L3 fun v4 L4 =>
 gdOp F (l 7) true (.iad 6) [v2, v4] L4 fun v5 L5 =>
 gdOp F (l 7) true (.ld (some 6)) [v5] L5 fun v6 L6 =>
 gdOp F (l 7) true (.call (N k_lapse_View_hangs)) [v1, v6] L6 fun v7 L7 =>
 gdOp F (l 7) true (.un .not) [v7] L7 fun v8 L8 =>
 wpOp F .pick [(l 7), v8, (.b false)] L8 fun v9 L9 =>
 condW v9
 (fin1 (some (.b false)) Q L9)
 (wpOp F (.fad 2) [(l 6)] L9 fun v10 L10 =>
 wpOp F (.ld none) [v10] L10 fun v11 L11 =>
 wpOp F (.bin .eql) [v11, (.i .i64 2)] L11 fun v12 L12 =>
 gdOp F v12 true .mv [(l 0)] L12 fun v13 L13 =>
 gdOp F v12 true .mv [(l 5)] L13 fun v14 L14 =>
 gdOp F v12 true .mv [(l 1)] L14 fun v15 L15 =>
 gdOp F v12 true (.call (N k_lapse_over)) [v13, v14, v15] L15 fun v16 L16 =>
 gdOp F v12 true (.un .not) [v16] L16 fun v17 L17 =>
 wpOp F .pick [v12, v17, (.b false)] L17 fun v18 L18 =>
 gdOp F v18 true .mv [(l 7)] L18 fun v19 L19 =>
 gdOp F v18 true .mv [v19] L19 fun v20 L20 =>
 gdOp F v20 true .mv [(l 0)] L20 fun v21 L21 =>
 gdOp F v20 true (.fad 0) [(l 6)] L21 fun v22 L22 =>
 gdOp F v20 true (.ld none) [v22] L22 fun v23 L23 =>
 gdOp F v20 true (.iad 6) [v21, v23] L23 fun v24 L24 =>
 gdOp F v20 true (.fad 2) [v24] L24 fun v25 L25 =>
 gdOp F v20 true (.ld none) [v25] L25 fun v26 L26 =>
 gdOp F v20 true (.bin .eql) [v26, (.i .i64 2)] L26 fun v27 L27 =>
 gdOp F v18 true .pick [v20, v27, (.b false)] L27 fun v28 L28 =>
 gdOp F v18 true (.un .not) [v28] L28 fun v29 L29 =>
 wpOp F .pick [v18, v29, (.b false)] L29 fun v30 L30 =>
 condW v30
 (fin1 (some (.b false)) Q L30)
 (D_lapse_Sound_10 F N Q k1 l L30))
theorem e_lapse_Sound_15 (F : TF) (N : TN) (Q : TQ) (k1 : TK) (l t : Env) (L : Lg) : wp F (q_lapse_Sound_15 N) l t L (fun (l t : Env) (L : Lg) => D_lapse_Sound_10 F N Q k1 l L) (y_lapse_Sound_11 F N Q k1) (fin [.tmp (.l 4)] Q) = D_lapse_Sound_15 F N Q k1 l L := by kernel_rfl
def q_lapse_Sound_14a (N : TN) : ACode := (.reg [⟨.t 29, none, .fad 1, [.l 6]⟩, ⟨.t 30, none, .ld none, [.t 29]⟩, ⟨.t 31, none, .mv, [.t 30]⟩, ⟨.t 32, some (.t 31, true), .fad 0, [.l 6]⟩, ⟨.t 33, some (.t 31, true), .ld none, [.t 32]⟩, ⟨.t 34, some (.t 31, true), .bin .geq, [.t 33, .c (.i .i64 0)]⟩, ⟨.t 35, none, .pick, [.t 31, .t 34, .c (.b false)]⟩, ⟨.l 7, none, .mv, [.t 35]⟩])
def q_lapse_Sound_14 (N : TN) : ACode := (.seq (q_lapse_Sound_14a N) (q_lapse_Sound_15 N))
noncomputable def D_lapse_Sound_14 (F : TF) (N : TN) (Q : TQ) (k1 : TK) (l : Env) (L : Lg) : Prop :=
 wpOp F (.fad 1) [(l 6)] L fun v1 L1 =>
 wpOp F (.ld none) [v1] L1 fun v2 L2 =>
 gdOp F v2 true (.fad 0) [(l 6)] L2 fun v3 L3 =>
 gdOp F v2 true (.ld none) [v3] L3 fun v4 L4 =>
 gdOp F v2 true (.bin .geq) [v4, (.i .i64 0)] L4 fun v5 L5 =>
 wpOp F .pick [v2, v5, (.b false)] L5 fun v6 L6 =>
 D_lapse_Sound_15 F N Q k1 (Env.put l 7 v6) L6
theorem e_lapse_Sound_14 (F : TF) (N : TN) (Q : TQ) (k1 : TK) (l t : Env) (L : Lg) : wp F (q_lapse_Sound_14 N) l t L (fun (l t : Env) (L : Lg) => D_lapse_Sound_10 F N Q k1 l L) (y_lapse_Sound_11 F N Q k1) (fin [.tmp (.l 4)] Q) = D_lapse_Sound_14 F N Q k1 l L := wpS (e_lapse_Sound_15 F N Q k1) (by kernel_rfl)
def q_lapse_Sound_13a (N : TN) : ACode := (.seq (.reg [⟨.t 15, none, .fad 0, [.l 6]⟩, ⟨.t 16, none, .ld none, [.t 15]⟩, ⟨.t 17, none, .bin .lss, [.t 16, .c (.i .i64 (-1))]⟩, ⟨.t 18, none, .mv, [.t 17]⟩, ⟨.t 19, some (.t 18, false), .fad 0, [.l 6]⟩, ⟨.t 20, some (.t 18, false), .ld none, [.t 19]⟩, ⟨.t 21, some (.t 18, false), .mv, [.l 5]⟩, ⟨.t 22, some (.t 18, false), .bin .geq, [.t 20, .t 21]⟩, ⟨.t 23, none, .pick, [.t 18, .c (.b true), .t 22]⟩, ⟨.t 24, none, .mv, [.t 23]⟩, ⟨.t 25, some (.t 24, false), .ld (some 6), [.l 6]⟩, ⟨.t 26, some (.t 24, false), .call (N k_lapse_View_code), [.t 25]⟩, ⟨.t 27, some (.t 24, false), .un .not, [.t 26]⟩, ⟨.t 28, none, .pick, [.t 24, .c (.b true), .t 27]⟩]) (.cond (.t 28) (.seq (.reg [⟨.l 4, none, .mv, [.c (.b false)]⟩]) .ret) .skip))
def q_lapse_Sound_13 (N : TN) : ACode := (.seq (q_lapse_Sound_13a N) (q_lapse_Sound_14 N))
noncomputable def D_lapse_Sound_13 (F : TF) (N : TN) (Q : TQ) (k1 : TK) (l : Env) (L : Lg) : Prop :=
 wpOp F (.fad 0) [(l 6)] L fun v1 L1 =>
 wpOp F (.ld none) [v1] L1 fun v2 L2 =>
 wpOp F (.bin .lss) [v2, (.i .i64 (-1))] L2 fun v3 L3 =>
 gdOp F v3 false (.fad 0) [(l 6)] L3 fun v4 L4 =>
 gdOp F v3 false (.ld none) [v4] L4 fun v5 L5 =>
 gdOp F v3 false .mv [(l 5)] L5 fun v6 L6 =>
 gdOp F v3 false (.bin .geq) [v5, v6] L6 fun v7 L7 =>
 wpOp F .pick [v3, (.b true), v7] L7 fun v8 L8 =>
 gdOp F v8 false (.ld (some 6)) [(l 6)] L8 fun v9 L9 =>
 gdOp F v8 false (.call (N k_lapse_View_code)) [v9] L9 fun v10 L10 =>
 gdOp F v8 false (.un .not) [v10] L10 fun v11 L11 =>
 wpOp F .pick [v8, (.b true), v11] L11 fun v12 L12 =>
 condW v12
 (fin1 (some (.b false)) Q L12)
 (D_lapse_Sound_14 F N Q k1 l L12)
theorem e_lapse_Sound_13 (F : TF) (N : TN) (Q : TQ) (k1 : TK) (l t : Env) (L : Lg) : wp F (q_lapse_Sound_13 N) l t L (fun (l t : Env) (L : Lg) => D_lapse_Sound_10 F N Q k1 l L) (y_lapse_Sound_11 F N Q k1) (fin [.tmp (.l 4)] Q) = D_lapse_Sound_13 F N Q k1 l L := wpS (e_lapse_Sound_14 F N Q k1) (by kernel_rfl)
def q_lapse_Sound_12a (N : TN) : ACode := (.reg [⟨.t 12, none, .mv, [.l 10]⟩, ⟨.t 13, none, .iad 6, [.l 8, .l 10]⟩, ⟨.t 14, none, .ld (some 6), [.t 13]⟩, ⟨.l 6, none, .alloc [.i .i64 0, .b false, .i .i64 0, .i .i64 0, .i .i64 0, .b false], []⟩, ⟨.l 5, none, .mv, [.t 12]⟩, ⟨.no, none, .st 6, [.l 6, .t 14]⟩])
def q_lapse_Sound_12 (N : TN) : ACode := (.seq (q_lapse_Sound_12a N) (q_lapse_Sound_13 N))
noncomputable def D_lapse_Sound_12 (F : TF) (N : TN) (Q : TQ) (k1 : TK) (l : Env) (L : Lg) : Prop :=
 wpOp F (.iad 6) [(l 8), (l 10)] L fun v1 L1 =>
 wpOp F (.ld (some 6)) [v1] L1 fun v2 L2 =>
 wpOp F (.alloc [.i .i64 0, .b false, .i .i64 0, .i .i64 0, .i .i64 0, .b false]) [] L2 fun v3 L3 =>
 wpOp F (.st 6) [v3, v2] L3 fun _ L4 =>
 D_lapse_Sound_13 F N Q k1 (Env.put (Env.put l 6 v3) 5 (l 10)) L4
theorem e_lapse_Sound_12 (F : TF) (N : TN) (Q : TQ) (k1 : TK) (l t : Env) (L : Lg) : wp F (q_lapse_Sound_12 N) l t L (fun (l t : Env) (L : Lg) => D_lapse_Sound_10 F N Q k1 l L) (y_lapse_Sound_11 F N Q k1) (fin [.tmp (.l 4)] Q) = D_lapse_Sound_12 F N Q k1 l L := wpS (e_lapse_Sound_13 F N Q k1) (by kernel_rfl)
def q_lapse_Sound_11 (N : TN) : ACode := (.block 1 (q_lapse_Sound_12 N))
theorem e_lapse_Sound_11 (F : TF) (N : TN) (Q : TQ) (k1 : TK) (l t : Env) (L : Lg) : wp F (q_lapse_Sound_11 N) l t L (fun (l t : Env) (L : Lg) => D_lapse_Sound_10 F N Q k1 l L) (y_lapse_Sound_5 F N Q) (fin [.tmp (.l 4)] Q) = D_lapse_Sound_12 F N Q k1 l L := wpB (e_lapse_Sound_12 F N Q k1 l t L)
def q_lapse_Sound_9 (N : TN) : ACode := (.seq (q_lapse_Sound_11 N) (q_lapse_Sound_10 N))
theorem e_lapse_Sound_9 (F : TF) (N : TN) (Q : TQ) (k1 : TK) (l t : Env) (L : Lg) : wp F (q_lapse_Sound_9 N) l t L (fun (l _ : Env) (L : Lg) => k1 l L) (y_lapse_Sound_5 F N Q) (fin [.tmp (.l 4)] Q) = D_lapse_Sound_12 F N Q k1 l L := wpS (e_lapse_Sound_10 F N Q k1) (e_lapse_Sound_11 F N Q k1 l t L)
def q_lapse_Sound_8a (N : TN) : ACode := (.cond (.t 11) .skip (.exit 0))
def q_lapse_Sound_8 (N : TN) : ACode := (.seq (q_lapse_Sound_8a N) (q_lapse_Sound_9 N))
noncomputable def D_lapse_Sound_8 (F : TF) (N : TN) (Q : TQ) (k1 : TK) (l : Env) (t11 : AV) (L : Lg) : Prop :=
 condW t11
 (D_lapse_Sound_12 F N Q k1 l L)
 (D_lapse_Sound_3 F N Q L)
theorem e_lapse_Sound_8 (F : TF) (N : TN) (Q : TQ) (k1 : TK) (l t : Env) (L : Lg) : wp F (q_lapse_Sound_8 N) l t L (fun (l _ : Env) (L : Lg) => k1 l L) (y_lapse_Sound_5 F N Q) (fin [.tmp (.l 4)] Q) = D_lapse_Sound_8 F N Q k1 l (t 11) L := wpS (e_lapse_Sound_9 F N Q k1) (by kernel_rfl)
def q_lapse_Sound_7a (N : TN) : ACode := (.reg [⟨.t 11, none, .bin .lss, [.l 10, .l 9]⟩])
def q_lapse_Sound_7 (N : TN) : ACode := (.seq (q_lapse_Sound_7a N) (q_lapse_Sound_8 N))
noncomputable def D_lapse_Sound_7 (F : TF) (N : TN) (Q : TQ) (k1 : TK) (l : Env) (L : Lg) : Prop :=
 wpOp F (.bin .lss) [(l 10), (l 9)] L fun v1 L1 =>
 D_lapse_Sound_8 F N Q k1 l v1 L1
theorem e_lapse_Sound_7 (F : TF) (N : TN) (Q : TQ) (k1 : TK) (l t : Env) (L : Lg) : wp F (q_lapse_Sound_7 N) l t L (fun (l _ : Env) (L : Lg) => k1 l L) (y_lapse_Sound_5 F N Q) (fin [.tmp (.l 4)] Q) = D_lapse_Sound_7 F N Q k1 l L := wpS (e_lapse_Sound_8 F N Q k1) (by kernel_rfl)
def q_lapse_Sound_6 (N : TN) : ACode := (.loop (q_lapse_Sound_7 N))
noncomputable def D_lapse_Sound_6 (F : TF) (N : TN) (Q : TQ) (l : Env) (L : Lg) : Prop :=
 loopW (fun l t L k1 => D_lapse_Sound_7 F N Q k1 l L) l L
theorem e_lapse_Sound_6 (F : TF) (N : TN) (Q : TQ) (l t : Env) (L : Lg) : wp F (q_lapse_Sound_6 N) l t L (fun (l t : Env) (L : Lg) => D_lapse_Sound_3 F N Q L) (y_lapse_Sound_5 F N Q) (fin [.tmp (.l 4)] Q) = D_lapse_Sound_6 F N Q l L := wpL (fun l t L k1 => e_lapse_Sound_7 F N Q k1 l t L) (by kernel_rfl)
def q_lapse_Sound_5 (N : TN) : ACode := (.block 0 (q_lapse_Sound_6 N))
theorem e_lapse_Sound_5 (F : TF) (N : TN) (Q : TQ) (l t : Env) (L : Lg) : wp F (q_lapse_Sound_5 N) l t L (fun (l t : Env) (L : Lg) => D_lapse_Sound_3 F N Q L) nE (fin [.tmp (.l 4)] Q) = D_lapse_Sound_6 F N Q l L := wpB (e_lapse_Sound_6 F N Q l t L)
def q_lapse_Sound_4a (N : TN) : ACode := (.reg [⟨.l 8, none, .mv, [.l 0]⟩, ⟨.l 9, none, .lenSl, [.l 8]⟩, ⟨.l 10, none, .mv, [.c (.i .i64 0)]⟩])
def q_lapse_Sound_4 (N : TN) : ACode := (.seq (q_lapse_Sound_4a N) (q_lapse_Sound_5 N))
noncomputable def D_lapse_Sound_4 (F : TF) (N : TN) (Q : TQ) (l : Env) (L : Lg) : Prop :=
 wpOp F .lenSl [(l 0)] L fun v1 L1 =>
 D_lapse_Sound_6 F N Q (Env.put (Env.put (Env.put l 8 (l 0)) 9 v1) 10 (.i .i64 0)) L1
theorem e_lapse_Sound_4 (F : TF) (N : TN) (Q : TQ) (l t : Env) (L : Lg) : wp F (q_lapse_Sound_4 N) l t L (fun (l t : Env) (L : Lg) => D_lapse_Sound_3 F N Q L) nE (fin [.tmp (.l 4)] Q) = D_lapse_Sound_4 F N Q l L := wpS (e_lapse_Sound_5 F N Q) (by kernel_rfl)
def q_lapse_Sound_2 (N : TN) : ACode := (.seq (q_lapse_Sound_4 N) (q_lapse_Sound_3 N))
theorem e_lapse_Sound_2 (F : TF) (N : TN) (Q : TQ) (l t : Env) (L : Lg) : wp F (q_lapse_Sound_2 N) l t L (fin [.tmp (.l 4)] Q) nE (fin [.tmp (.l 4)] Q) = D_lapse_Sound_4 F N Q l L := wpS (e_lapse_Sound_3 F N Q) (e_lapse_Sound_4 F N Q l t L)
def q_lapse_Sound_1a (N : TN) : ACode := (.reg [⟨.l 4, none, .mv, [.c (.b false)]⟩])
def q_lapse_Sound_1 (N : TN) : ACode := (.seq (q_lapse_Sound_1a N) (q_lapse_Sound_2 N))
noncomputable def D_lapse_Sound_1 (F : TF) (N : TN) (Q : TQ) (l : Env) (L : Lg) : Prop :=
 D_lapse_Sound_4 F N Q (Env.put l 4 (.b false)) L
theorem e_lapse_Sound_1 (F : TF) (N : TN) (Q : TQ) (l t : Env) (L : Lg) : wp F (q_lapse_Sound_1 N) l t L (fin [.tmp (.l 4)] Q) nE (fin [.tmp (.l 4)] Q) = D_lapse_Sound_1 F N Q l L := wpS (e_lapse_Sound_2 F N Q) (by kernel_rfl)
/-- tarpaulin/lapse.Sound -/
def c_lapse_Sound (N : TN) : AFn := ⟨q_lapse_Sound_1 N, [.tmp (.l 4)]⟩
structure H_lapse_Sound (N : TN) (F : TF) : Prop where
  code : F (N k_lapse_Sound) = some (c_lapse_Sound N)
  lapse_View_code : H_lapse_View_code N F
  lapse_View_hangs : H_lapse_View_hangs N F
  lapse_over : H_lapse_over N F
theorem r_lapse_Sound {F : TF} {N : TN} (h : F (N k_lapse_Sound) = some (c_lapse_Sound N)) {Q : TQ} {a0 a1 : AV} {L : Lg} (e : D_lapse_Sound_1 F N Q (initE [a0, a1] 0) L) : CallL F (N k_lapse_Sound) [a0, a1] L Q :=
  CallL.of_wp h (Eq.mpr (Eq.trans (e_lapse_Sound_1 F N Q (initE [a0, a1] 0) Env.nil L) (by kernel_rfl : _ = D_lapse_Sound_1 F N Q (initE [a0, a1] 0) L)) e)
def q_tarpaulinlaw24_LapseOdd_9 (N : TN) : ACode := (.seq (.reg [⟨.t 128, none, .mv, [.l 7]⟩, ⟨.t 129, none, .call (N k_lapse_Sound), [.t 128, .c (.i .i64 50)]⟩, ⟨.t 130, none, .mv, [.t 129]⟩, ⟨.t 131, some (.t 130, true), .mv, [.l 10]⟩, ⟨.t 132, some (.t 130, true), .call (N k_lapse_Sound), [.t 131, .c (.i .i64 50)]⟩, ⟨.t 133, some (.t 130, true), .un .not, [.t 132]⟩, ⟨.t 134, some (.t 130, true), .mv, [.l 11]⟩, ⟨.t 135, some (.t 130, true), .eq false .bool, [.t 133, .t 134]⟩, ⟨.t 136, none, .pick, [.t 130, .t 135, .c (.b false)]⟩, ⟨.t 137, none, .mv, [.t 136]⟩, ⟨.t 138, some (.t 137, true), .call (N k_tarpaulinlaw24_awake), []⟩, ⟨.t 139, none, .pick, [.t 137, .t 138, .c (.b false)]⟩, ⟨.l 6, none, .mv, [.t 139]⟩]) .ret)
noncomputable def D_tarpaulinlaw24_LapseOdd_9 (F : TF) (N : TN) (Q : TQ) (x7 : AV) (x10 : AV) (x11 : AV) (L : Lg) : Prop :=
 CallL F (N k_lapse_Sound) [x7, (.i .i64 50)] L fun v1 L1 =>
 gdOp F v1 true .mv [x10] L1 fun v2 L2 =>
 gdOp F v1 true (.call (N k_lapse_Sound)) [v2, (.i .i64 50)] L2 fun v3 L3 =>
 gdOp F v1 true (.un .not) [v3] L3 fun v4 L4 =>
 gdOp F v1 true .mv [x11] L4 fun v5 L5 =>
 gdOp F v1 true (.eq false .bool) [v4, v5] L5 fun v6 L6 =>
 wpOp F .pick [v1, v6, (.b false)] L6 fun v7 L7 =>
 gdOp F v7 true (.call (N k_tarpaulinlaw24_awake)) [] L7 fun v8 L8 =>
 wpOp F .pick [v7, v8, (.b false)] L8 fun v9 L9 =>
 fin1 (some v9) Q L9
theorem e_tarpaulinlaw24_LapseOdd_9 (F : TF) (N : TN) (Q : TQ) (l t : Env) (L : Lg) : wp F (q_tarpaulinlaw24_LapseOdd_9 N) l t L (fin [.tmp (.l 6)] Q) nE (fin [.tmp (.l 6)] Q) = D_tarpaulinlaw24_LapseOdd_9 F N Q (l 7) (l 10) (l 11) L := by kernel_rfl
def w_tarpaulinlaw24_LapseOdd_8 (F : TF) (N : TN) (Q : TQ) : Kn := (fun (l t : Env) (L : Lg) => D_tarpaulinlaw24_LapseOdd_9 F N Q (l 7) (l 10) (l 11) L)
def y_tarpaulinlaw24_LapseOdd_11 (F : TF) (N : TN) (Q : TQ) : Nat → Kn := (fun (j : Nat) (l t : Env) (L : Lg) => bif Nat.beq j 2 then (w_tarpaulinlaw24_LapseOdd_8 F N Q) l t L else nE j l t L)
def q_tarpaulinlaw24_LapseOdd_14 (N : TN) : ACode := (.reg [⟨.t 47, none, .mv, [.l 10]⟩, ⟨.t 48, none, .mv, [.l 9]⟩, ⟨.t 49, none, .bin .sub, [.t 48, .c (.i .i64 1)]⟩, ⟨.t 50, none, .mv, [.l 10]⟩, ⟨.t 51, none, .mv, [.l 9]⟩, ⟨.t 52, none, .bin .sub, [.t 51, .c (.i .i64 1)]⟩, ⟨.t 53, none, .iad 6, [.t 47, .t 49]⟩, ⟨.t 54, none, .fad 2, [.t 53]⟩, ⟨.no, none, .st 1, [.t 54, .c (.i .i64 1)]⟩, ⟨.t 55, none, .iad 6, [.t 50, .t 52]⟩, ⟨.t 56, none, .fad 3, [.t 55]⟩, ⟨.no, none, .st 1, [.t 56, .c (.i .i64 1)]⟩])
noncomputable def D_tarpaulinlaw24_LapseOdd_14 (F : TF) (N : TN) (Q : TQ) (x7 : AV) (x9 : AV) (x10 : AV) (x11 : AV) (L : Lg) : Prop :=
 wpOp F (.bin .sub) [x9, (.i .i64 1)] L fun v1 L1 =>
 wpOp F (.bin .sub) [x9, (.i .i64 1)] L1 fun v2 L2 =>
 wpOp F (.iad 6) [x10, v1] L2 fun v3 L3 =>
 wpOp F (.fad 2) [v3] L3 fun v4 L4 =>
 wpOp F (.st 1) [v4, (.i .i64 1)] L4 fun _ L5 =>
 wpOp F (.iad 6) [x10, v2] L5 fun v6 L6 =>
 wpOp F (.fad 3) [v6] L6 fun v7 L7 =>
 wpOp F (.st 1) [v7, (.i .i64 1)] L7 fun _ L8 =>
 D_tarpaulinlaw24_LapseOdd_9 F N Q x7 x10 x11 L8
theorem e_tarpaulinlaw24_LapseOdd_14 (F : TF) (N : TN) (Q : TQ) (l t : Env) (L : Lg) : wp F (q_tarpaulinlaw24_LapseOdd_14 N) l t L (w_tarpaulinlaw24_LapseOdd_8 F N Q) (y_tarpaulinlaw24_LapseOdd_11 F N Q) (fin [.tmp (.l 6)] Q) = D_tarpaulinlaw24_LapseOdd_14 F N Q (l 7) (l 9) (l 10) (l 11) L := by kernel_rfl
def q_tarpaulinlaw24_LapseOdd_17 (N : TN) : ACode := (.reg [⟨.t 59, none, .mv, [.l 10]⟩, ⟨.t 60, none, .mv, [.l 9]⟩, ⟨.t 61, none, .iad 6, [.t 59, .t 60]⟩, ⟨.t 62, none, .fad 3, [.t 61]⟩, ⟨.no, none, .st 1, [.t 62, .c (.i .i64 4)]⟩])
noncomputable def D_tarpaulinlaw24_LapseOdd_17 (F : TF) (N : TN) (Q : TQ) (x7 : AV) (x9 : AV) (x10 : AV) (x11 : AV) (L : Lg) : Prop :=
 wpOp F (.iad 6) [x10, x9] L fun v1 L1 =>
 wpOp F (.fad 3) [v1] L1 fun v2 L2 =>
 wpOp F (.st 1) [v2, (.i .i64 4)] L2 fun _ L3 =>
 D_tarpaulinlaw24_LapseOdd_9 F N Q x7 x10 x11 L3
theorem e_tarpaulinlaw24_LapseOdd_17 (F : TF) (N : TN) (Q : TQ) (l t : Env) (L : Lg) : wp F (q_tarpaulinlaw24_LapseOdd_17 N) l t L (w_tarpaulinlaw24_LapseOdd_8 F N Q) (y_tarpaulinlaw24_LapseOdd_11 F N Q) (fin [.tmp (.l 6)] Q) = D_tarpaulinlaw24_LapseOdd_17 F N Q (l 7) (l 9) (l 10) (l 11) L := by kernel_rfl
def q_tarpaulinlaw24_LapseOdd_20 (N : TN) : ACode := (.seq (.seq (.reg [⟨.t 65, none, .mv, [.l 9]⟩, ⟨.t 66, none, .bin .lss, [.t 65, .c (.i .i64 2)]⟩]) (.cond (.t 66) (.seq (.reg [⟨.t 67, none, .call (N k_tarpaulinlaw24_awake), []⟩, ⟨.l 6, none, .mv, [.t 67]⟩]) .ret) .skip)) (.reg [⟨.t 68, none, .mv, [.l 10]⟩, ⟨.t 69, none, .mv, [.l 9]⟩, ⟨.t 70, none, .iad 6, [.t 68, .t 69]⟩, ⟨.t 71, none, .fad 4, [.t 70]⟩, ⟨.no, none, .st 1, [.t 71, .c (.i .i64 200)]⟩]))
noncomputable def D_tarpaulinlaw24_LapseOdd_20 (F : TF) (N : TN) (Q : TQ) (x7 : AV) (x9 : AV) (x10 : AV) (x11 : AV) (L : Lg) : Prop :=
 wpOp F (.bin .lss) [x9, (.i .i64 2)] L fun v1 L1 =>
 condW v1
 (CallL F (N k_tarpaulinlaw24_awake) [] L1 fun v2 L2 =>
 fin1 (some v2) Q L2)
 (wpOp F (.iad 6) [x10, x9] L1 fun v3 L3 =>
 wpOp F (.fad 4) [v3] L3 fun v4 L4 =>
 wpOp F (.st 1) [v4, (.i .i64 200)] L4 fun _ L5 =>
 D_tarpaulinlaw24_LapseOdd_9 F N Q x7 x10 x11 L5)
theorem e_tarpaulinlaw24_LapseOdd_20 (F : TF) (N : TN) (Q : TQ) (l t : Env) (L : Lg) : wp F (q_tarpaulinlaw24_LapseOdd_20 N) l t L (w_tarpaulinlaw24_LapseOdd_8 F N Q) (y_tarpaulinlaw24_LapseOdd_11 F N Q) (fin [.tmp (.l 6)] Q) = D_tarpaulinlaw24_LapseOdd_20 F N Q (l 7) (l 9) (l 10) (l 11) L := by kernel_rfl
def q_tarpaulinlaw24_LapseOdd_23 (N : TN) : ACode := (.reg [⟨.t 74, none, .mv, [.l 10]⟩, ⟨.t 75, none, .mv, [.l 0]⟩, ⟨.t 76, none, .bin .sub, [.t 75, .c (.i .i64 1)]⟩, ⟨.t 77, none, .mv, [.l 10]⟩, ⟨.t 78, none, .mv, [.l 0]⟩, ⟨.t 79, none, .bin .sub, [.t 78, .c (.i .i64 1)]⟩, ⟨.t 80, none, .iad 6, [.t 74, .t 76]⟩, ⟨.t 81, none, .fad 2, [.t 80]⟩, ⟨.no, none, .st 1, [.t 81, .c (.i .i64 2)]⟩, ⟨.t 82, none, .iad 6, [.t 77, .t 79]⟩, ⟨.t 83, none, .fad 3, [.t 82]⟩, ⟨.no, none, .st 1, [.t 83, .c (.i .i64 2)]⟩])
noncomputable def D_tarpaulinlaw24_LapseOdd_23 (F : TF) (N : TN) (Q : TQ) (x0 : AV) (x7 : AV) (x10 : AV) (x11 : AV) (L : Lg) : Prop :=
 wpOp F (.bin .sub) [x0, (.i .i64 1)] L fun v1 L1 =>
 wpOp F (.bin .sub) [x0, (.i .i64 1)] L1 fun v2 L2 =>
 wpOp F (.iad 6) [x10, v1] L2 fun v3 L3 =>
 wpOp F (.fad 2) [v3] L3 fun v4 L4 =>
 wpOp F (.st 1) [v4, (.i .i64 2)] L4 fun _ L5 =>
 wpOp F (.iad 6) [x10, v2] L5 fun v6 L6 =>
 wpOp F (.fad 3) [v6] L6 fun v7 L7 =>
 wpOp F (.st 1) [v7, (.i .i64 2)] L7 fun _ L8 =>
 D_tarpaulinlaw24_LapseOdd_9 F N Q x7 x10 x11 L8
theorem e_tarpaulinlaw24_LapseOdd_23 (F : TF) (N : TN) (Q : TQ) (l t : Env) (L : Lg) : wp F (q_tarpaulinlaw24_LapseOdd_23 N) l t L (w_tarpaulinlaw24_LapseOdd_8 F N Q) (y_tarpaulinlaw24_LapseOdd_11 F N Q) (fin [.tmp (.l 6)] Q) = D_tarpaulinlaw24_LapseOdd_23 F N Q (l 0) (l 7) (l 10) (l 11) L := by kernel_rfl
def q_tarpaulinlaw24_LapseOdd_26 (N : TN) : ACode := (.reg [⟨.t 86, none, .mv, [.l 10]⟩, ⟨.t 87, none, .mv, [.l 9]⟩, ⟨.t 88, none, .mv, [.l 9]⟩, ⟨.t 89, none, .iad 6, [.t 86, .t 87]⟩, ⟨.t 90, none, .fad 0, [.t 89]⟩, ⟨.no, none, .st 1, [.t 90, .t 88]⟩])
noncomputable def D_tarpaulinlaw24_LapseOdd_26 (F : TF) (N : TN) (Q : TQ) (x7 : AV) (x9 : AV) (x10 : AV) (x11 : AV) (L : Lg) : Prop :=
 wpOp F (.iad 6) [x10, x9] L fun v1 L1 =>
 wpOp F (.fad 0) [v1] L1 fun v2 L2 =>
 wpOp F (.st 1) [v2, x9] L2 fun _ L3 =>
 D_tarpaulinlaw24_LapseOdd_9 F N Q x7 x10 x11 L3
theorem e_tarpaulinlaw24_LapseOdd_26 (F : TF) (N : TN) (Q : TQ) (l t : Env) (L : Lg) : wp F (q_tarpaulinlaw24_LapseOdd_26 N) l t L (w_tarpaulinlaw24_LapseOdd_8 F N Q) (y_tarpaulinlaw24_LapseOdd_11 F N Q) (fin [.tmp (.l 6)] Q) = D_tarpaulinlaw24_LapseOdd_26 F N Q (l 7) (l 9) (l 10) (l 11) L := by kernel_rfl
def q_tarpaulinlaw24_LapseOdd_30 (N : TN) : ACode := (.seq (.reg [⟨.l 11, none, .mv, [.c (.b false)]⟩]) (.seq (.reg [⟨.t 107, none, .mv, [.l 10]⟩, ⟨.t 108, none, .mv, [.l 9]⟩, ⟨.t 109, none, .bin .sub, [.c (.i .i64 100), .t 108]⟩, ⟨.t 110, none, .call (N k_lapse_Sound), [.t 107, .t 109]⟩, ⟨.t 111, none, .mv, [.t 110]⟩, ⟨.t 112, some (.t 111, true), .mv, [.l 10]⟩, ⟨.t 113, some (.t 111, true), .mv, [.l 9]⟩, ⟨.t 114, some (.t 111, true), .bin .add, [.t 113, .c (.i .i64 1)]⟩, ⟨.t 115, some (.t 111, true), .slc 6 false true false, [.t 112, .t 114]⟩, ⟨.t 116, some (.t 111, true), .mv, [.l 9]⟩, ⟨.t 117, some (.t 111, true), .bin .sub, [.c (.i .i64 99), .t 116]⟩, ⟨.t 118, some (.t 111, true), .call (N k_lapse_Sound), [.t 115, .t 117]⟩, ⟨.t 119, some (.t 111, true), .un .not, [.t 118]⟩, ⟨.t 120, none, .pick, [.t 111, .t 119, .c (.b false)]⟩, ⟨.t 121, none, .mv, [.t 120]⟩, ⟨.t 122, some (.t 121, true), .mv, [.l 11]⟩, ⟨.t 123, some (.t 121, true), .un .not, [.t 122]⟩, ⟨.t 124, none, .pick, [.t 121, .t 123, .c (.b false)]⟩, ⟨.t 125, none, .mv, [.t 124]⟩, ⟨.t 126, some (.t 125, true), .call (N k_tarpaulinlaw24_awake), []⟩, ⟨.t 127, none, .pick, [.t 125, .t 126, .c (.b false)]⟩, ⟨.l 6, none, .mv, [.t 127]⟩]) .ret))
noncomputable def D_tarpaulinlaw24_LapseOdd_30 (F : TF) (N : TN) (Q : TQ) (x9 : AV) (x10 : AV) (L : Lg) : Prop :=
 wpOp F (.bin .sub) [(.i .i64 100), x9] L fun v1 L1 =>
 CallL F (N k_lapse_Sound) [x10, v1] L1 fun v2 L2 =>
 gdOp F v2 true .mv [x10] L2 fun v3 L3 =>
 gdOp F v2 true .mv [x9] L3 fun v4 L4 =>
 gdOp F v2 true (.bin .add) [v4, (.i .i64 1)] L4 fun v5 L5 =>
 gdOp F v2 true (.slc 6 false true false) [v3, v5] L5 fun v6 L6 =>
 gdOp F v2 true .mv [x9] L6 fun v7 L7 =>
 gdOp F v2 true (.bin .sub) [(.i .i64 99), v7] L7 fun v8 L8 =>
 gdOp F v2 true (.call (N k_lapse_Sound)) [v6, v8] L8 fun v9 L9 =>
 gdOp F v2 true (.un .not) [v9] L9 fun v10 L10 =>
 wpOp F .pick [v2, v10, (.b false)] L10 fun v11 L11 =>
 gdOp F v11 true .mv [(.b false)] L11 fun v12 L12 =>
 gdOp F v11 true (.un .not) [v12] L12 fun v13 L13 =>
 wpOp F .pick [v11, v13, (.b false)] L13 fun v14 L14 =>
 gdOp F v14 true (.call (N k_tarpaulinlaw24_awake)) [] L14 fun v15 L15 =>
 wpOp F .pick [v14, v15, (.b false)] L15 fun v16 L16 =>
 fin1 (some v16) Q L16
theorem e_tarpaulinlaw24_LapseOdd_30 (F : TF) (N : TN) (Q : TQ) (l t : Env) (L : Lg) : wp F (q_tarpaulinlaw24_LapseOdd_30 N) l t L (w_tarpaulinlaw24_LapseOdd_8 F N Q) (y_tarpaulinlaw24_LapseOdd_11 F N Q) (fin [.tmp (.l 6)] Q) = D_tarpaulinlaw24_LapseOdd_30 F N Q (l 9) (l 10) L := by kernel_rfl
def w_tarpaulinlaw24_LapseOdd_29 (F : TF) (N : TN) (Q : TQ) : Kn := (fun (l t : Env) (L : Lg) => D_tarpaulinlaw24_LapseOdd_30 F N Q (l 9) (l 10) L)
def y_tarpaulinlaw24_LapseOdd_32 (F : TF) (N : TN) (Q : TQ) : Nat → Kn := (fun (j : Nat) (l t : Env) (L : Lg) => bif Nat.beq j 3 then (w_tarpaulinlaw24_LapseOdd_29 F N Q) l t L else (y_tarpaulinlaw24_LapseOdd_11 F N Q) j l t L)
def q_tarpaulinlaw24_LapseOdd_34 (N : TN) : ACode := (.seq (.seq (.reg [⟨.t 94, none, .mv, [.l 12]⟩, ⟨.t 95, none, .mv, [.l 0]⟩, ⟨.t 96, none, .bin .lss, [.t 94, .t 95]⟩]) (.cond (.t 96) .skip (.exit 3))) (.seq (.block 4 (.reg [⟨.t 99, none, .mv, [.l 10]⟩, ⟨.t 100, none, .mv, [.l 12]⟩, ⟨.t 101, none, .mv, [.l 10]⟩, ⟨.t 102, none, .mv, [.l 12]⟩, ⟨.t 103, none, .iad 6, [.t 99, .t 100]⟩, ⟨.t 104, none, .fad 2, [.t 103]⟩, ⟨.no, none, .st 1, [.t 104, .c (.i .i64 2)]⟩, ⟨.t 105, none, .iad 6, [.t 101, .t 102]⟩, ⟨.t 106, none, .fad 3, [.t 105]⟩, ⟨.no, none, .st 1, [.t 106, .c (.i .i64 2)]⟩])) (.reg [⟨.t 97, none, .mv, [.l 12]⟩, ⟨.t 98, none, .bin .add, [.t 97, .c (.i .i64 1)]⟩, ⟨.l 12, none, .mv, [.t 98]⟩])))
noncomputable def D_tarpaulinlaw24_LapseOdd_34 (F : TF) (N : TN) (Q : TQ) (k1 : TK) (l : Env) (L : Lg) : Prop :=
 wpOp F (.bin .lss) [(l 12), (l 0)] L fun v1 L1 =>
 condW v1
 (wpOp F (.iad 6) [(l 10), (l 12)] L1 fun v2 L2 =>
 wpOp F (.fad 2) [v2] L2 fun v3 L3 =>
 wpOp F (.st 1) [v3, (.i .i64 2)] L3 fun _ L4 =>
 wpOp F (.iad 6) [(l 10), (l 12)] L4 fun v5 L5 =>
 wpOp F (.fad 3) [v5] L5 fun v6 L6 =>
 wpOp F (.st 1) [v6, (.i .i64 2)] L6 fun _ L7 =>
 wpOp F (.bin .add) [(l 12), (.i .i64 1)] L7 fun v8 L8 =>
 k1 (Env.put l 12 v8) L8)
 (D_tarpaulinlaw24_LapseOdd_30 F N Q (l 9) (l 10) L1)
theorem e_tarpaulinlaw24_LapseOdd_34 (F : TF) (N : TN) (Q : TQ) (k1 : TK) (l t : Env) (L : Lg) : wp F (q_tarpaulinlaw24_LapseOdd_34 N) l t L (fun (l _ : Env) (L : Lg) => k1 l L) (y_tarpaulinlaw24_LapseOdd_32 F N Q) (fin [.tmp (.l 6)] Q) = D_tarpaulinlaw24_LapseOdd_34 F N Q k1 l L := by kernel_rfl
def q_tarpaulinlaw24_LapseOdd_33 (N : TN) : ACode := (.loop (q_tarpaulinlaw24_LapseOdd_34 N))
noncomputable def D_tarpaulinlaw24_LapseOdd_33 (F : TF) (N : TN) (Q : TQ) (l : Env) (L : Lg) : Prop :=
 loopW (fun l t L k1 => D_tarpaulinlaw24_LapseOdd_34 F N Q k1 l L) l L
theorem e_tarpaulinlaw24_LapseOdd_33 (F : TF) (N : TN) (Q : TQ) (l t : Env) (L : Lg) : wp F (q_tarpaulinlaw24_LapseOdd_33 N) l t L (w_tarpaulinlaw24_LapseOdd_29 F N Q) (y_tarpaulinlaw24_LapseOdd_32 F N Q) (fin [.tmp (.l 6)] Q) = D_tarpaulinlaw24_LapseOdd_33 F N Q l L := wpL (fun l t L k1 => e_tarpaulinlaw24_LapseOdd_34 F N Q k1 l t L) (by kernel_rfl)
def q_tarpaulinlaw24_LapseOdd_32 (N : TN) : ACode := (.block 3 (q_tarpaulinlaw24_LapseOdd_33 N))
theorem e_tarpaulinlaw24_LapseOdd_32 (F : TF) (N : TN) (Q : TQ) (l t : Env) (L : Lg) : wp F (q_tarpaulinlaw24_LapseOdd_32 N) l t L (w_tarpaulinlaw24_LapseOdd_29 F N Q) (y_tarpaulinlaw24_LapseOdd_11 F N Q) (fin [.tmp (.l 6)] Q) = D_tarpaulinlaw24_LapseOdd_33 F N Q l L := wpB (e_tarpaulinlaw24_LapseOdd_33 F N Q l t L)
def q_tarpaulinlaw24_LapseOdd_31a (N : TN) : ACode := (.reg [⟨.t 93, none, .mv, [.l 9]⟩, ⟨.l 12, none, .mv, [.t 93]⟩])
def q_tarpaulinlaw24_LapseOdd_31 (N : TN) : ACode := (.seq (q_tarpaulinlaw24_LapseOdd_31a N) (q_tarpaulinlaw24_LapseOdd_32 N))
noncomputable def D_tarpaulinlaw24_LapseOdd_31 (F : TF) (N : TN) (Q : TQ) (l : Env) (L : Lg) : Prop :=
 D_tarpaulinlaw24_LapseOdd_33 F N Q (Env.put l 12 (l 9)) L
theorem e_tarpaulinlaw24_LapseOdd_31 (F : TF) (N : TN) (Q : TQ) (l t : Env) (L : Lg) : wp F (q_tarpaulinlaw24_LapseOdd_31 N) l t L (w_tarpaulinlaw24_LapseOdd_29 F N Q) (y_tarpaulinlaw24_LapseOdd_11 F N Q) (fin [.tmp (.l 6)] Q) = D_tarpaulinlaw24_LapseOdd_31 F N Q l L := wpS (e_tarpaulinlaw24_LapseOdd_32 F N Q) (by kernel_rfl)
def q_tarpaulinlaw24_LapseOdd_29 (N : TN) : ACode := (.seq (q_tarpaulinlaw24_LapseOdd_31 N) (q_tarpaulinlaw24_LapseOdd_30 N))
theorem e_tarpaulinlaw24_LapseOdd_29 (F : TF) (N : TN) (Q : TQ) (l t : Env) (L : Lg) : wp F (q_tarpaulinlaw24_LapseOdd_29 N) l t L (w_tarpaulinlaw24_LapseOdd_8 F N Q) (y_tarpaulinlaw24_LapseOdd_11 F N Q) (fin [.tmp (.l 6)] Q) = D_tarpaulinlaw24_LapseOdd_31 F N Q l L := wpS (e_tarpaulinlaw24_LapseOdd_30 F N Q) (e_tarpaulinlaw24_LapseOdd_31 F N Q l t L)
def q_tarpaulinlaw24_LapseOdd_35 (N : TN) : ACode := .skip
noncomputable def D_tarpaulinlaw24_LapseOdd_35 (F : TF) (N : TN) (Q : TQ) (x7 : AV) (x10 : AV) (x11 : AV) (L : Lg) : Prop :=
 D_tarpaulinlaw24_LapseOdd_9 F N Q x7 x10 x11 L
theorem e_tarpaulinlaw24_LapseOdd_35 (F : TF) (N : TN) (Q : TQ) (l t : Env) (L : Lg) : wp F (q_tarpaulinlaw24_LapseOdd_35 N) l t L (w_tarpaulinlaw24_LapseOdd_8 F N Q) (y_tarpaulinlaw24_LapseOdd_11 F N Q) (fin [.tmp (.l 6)] Q) = D_tarpaulinlaw24_LapseOdd_35 F N Q (l 7) (l 10) (l 11) L := by kernel_rfl
def q_tarpaulinlaw24_LapseOdd_28 (N : TN) : ACode := (.cond (.t 91) (q_tarpaulinlaw24_LapseOdd_29 N) (q_tarpaulinlaw24_LapseOdd_35 N))
noncomputable def D_tarpaulinlaw24_LapseOdd_28 (F : TF) (N : TN) (Q : TQ) (l : Env) (t91 : AV) (L : Lg) : Prop :=
 condW t91
 (D_tarpaulinlaw24_LapseOdd_31 F N Q l L)
 (D_tarpaulinlaw24_LapseOdd_35 F N Q (l 7) (l 10) (l 11) L)
theorem e_tarpaulinlaw24_LapseOdd_28 (F : TF) (N : TN) (Q : TQ) (l t : Env) (L : Lg) : wp F (q_tarpaulinlaw24_LapseOdd_28 N) l t L (w_tarpaulinlaw24_LapseOdd_8 F N Q) (y_tarpaulinlaw24_LapseOdd_11 F N Q) (fin [.tmp (.l 6)] Q) = D_tarpaulinlaw24_LapseOdd_28 F N Q l (t 91) L := wpC (e_tarpaulinlaw24_LapseOdd_29 F N Q l t L) (e_tarpaulinlaw24_LapseOdd_35 F N Q l t L) (by kernel_rfl)
def q_tarpaulinlaw24_LapseOdd_27a (N : TN) : ACode := (.reg [⟨.t 92, none, .bin .eql, [.l 44, .c (.i .i64 5)]⟩, ⟨.t 91, none, .mv, [.t 92]⟩])
def q_tarpaulinlaw24_LapseOdd_27 (N : TN) : ACode := (.seq (q_tarpaulinlaw24_LapseOdd_27a N) (q_tarpaulinlaw24_LapseOdd_28 N))
noncomputable def D_tarpaulinlaw24_LapseOdd_27 (F : TF) (N : TN) (Q : TQ) (l : Env) (L : Lg) : Prop :=
 wpOp F (.bin .eql) [(l 44), (.i .i64 5)] L fun v1 L1 =>
 D_tarpaulinlaw24_LapseOdd_28 F N Q l v1 L1
theorem e_tarpaulinlaw24_LapseOdd_27 (F : TF) (N : TN) (Q : TQ) (l t : Env) (L : Lg) : wp F (q_tarpaulinlaw24_LapseOdd_27 N) l t L (w_tarpaulinlaw24_LapseOdd_8 F N Q) (y_tarpaulinlaw24_LapseOdd_11 F N Q) (fin [.tmp (.l 6)] Q) = D_tarpaulinlaw24_LapseOdd_27 F N Q l L := wpS (e_tarpaulinlaw24_LapseOdd_28 F N Q) (by kernel_rfl)
def q_tarpaulinlaw24_LapseOdd_25 (N : TN) : ACode := (.cond (.t 84) (q_tarpaulinlaw24_LapseOdd_26 N) (q_tarpaulinlaw24_LapseOdd_27 N))
noncomputable def D_tarpaulinlaw24_LapseOdd_25 (F : TF) (N : TN) (Q : TQ) (l : Env) (t84 : AV) (L : Lg) : Prop :=
 condW t84
 (D_tarpaulinlaw24_LapseOdd_26 F N Q (l 7) (l 9) (l 10) (l 11) L)
 (D_tarpaulinlaw24_LapseOdd_27 F N Q l L)
theorem e_tarpaulinlaw24_LapseOdd_25 (F : TF) (N : TN) (Q : TQ) (l t : Env) (L : Lg) : wp F (q_tarpaulinlaw24_LapseOdd_25 N) l t L (w_tarpaulinlaw24_LapseOdd_8 F N Q) (y_tarpaulinlaw24_LapseOdd_11 F N Q) (fin [.tmp (.l 6)] Q) = D_tarpaulinlaw24_LapseOdd_25 F N Q l (t 84) L := wpC (e_tarpaulinlaw24_LapseOdd_26 F N Q l t L) (e_tarpaulinlaw24_LapseOdd_27 F N Q l t L) (by kernel_rfl)
def q_tarpaulinlaw24_LapseOdd_24a (N : TN) : ACode := (.reg [⟨.t 85, none, .bin .eql, [.l 44, .c (.i .i64 4)]⟩, ⟨.t 84, none, .mv, [.t 85]⟩])
def q_tarpaulinlaw24_LapseOdd_24 (N : TN) : ACode := (.seq (q_tarpaulinlaw24_LapseOdd_24a N) (q_tarpaulinlaw24_LapseOdd_25 N))
noncomputable def D_tarpaulinlaw24_LapseOdd_24 (F : TF) (N : TN) (Q : TQ) (l : Env) (L : Lg) : Prop :=
 wpOp F (.bin .eql) [(l 44), (.i .i64 4)] L fun v1 L1 =>
 D_tarpaulinlaw24_LapseOdd_25 F N Q l v1 L1
theorem e_tarpaulinlaw24_LapseOdd_24 (F : TF) (N : TN) (Q : TQ) (l t : Env) (L : Lg) : wp F (q_tarpaulinlaw24_LapseOdd_24 N) l t L (w_tarpaulinlaw24_LapseOdd_8 F N Q) (y_tarpaulinlaw24_LapseOdd_11 F N Q) (fin [.tmp (.l 6)] Q) = D_tarpaulinlaw24_LapseOdd_24 F N Q l L := wpS (e_tarpaulinlaw24_LapseOdd_25 F N Q) (by kernel_rfl)
def q_tarpaulinlaw24_LapseOdd_22 (N : TN) : ACode := (.cond (.t 72) (q_tarpaulinlaw24_LapseOdd_23 N) (q_tarpaulinlaw24_LapseOdd_24 N))
noncomputable def D_tarpaulinlaw24_LapseOdd_22 (F : TF) (N : TN) (Q : TQ) (l : Env) (t72 : AV) (L : Lg) : Prop :=
 condW t72
 (D_tarpaulinlaw24_LapseOdd_23 F N Q (l 0) (l 7) (l 10) (l 11) L)
 (D_tarpaulinlaw24_LapseOdd_24 F N Q l L)
theorem e_tarpaulinlaw24_LapseOdd_22 (F : TF) (N : TN) (Q : TQ) (l t : Env) (L : Lg) : wp F (q_tarpaulinlaw24_LapseOdd_22 N) l t L (w_tarpaulinlaw24_LapseOdd_8 F N Q) (y_tarpaulinlaw24_LapseOdd_11 F N Q) (fin [.tmp (.l 6)] Q) = D_tarpaulinlaw24_LapseOdd_22 F N Q l (t 72) L := wpC (e_tarpaulinlaw24_LapseOdd_23 F N Q l t L) (e_tarpaulinlaw24_LapseOdd_24 F N Q l t L) (by kernel_rfl)
def q_tarpaulinlaw24_LapseOdd_21a (N : TN) : ACode := (.reg [⟨.t 73, none, .bin .eql, [.l 44, .c (.i .i64 3)]⟩, ⟨.t 72, none, .mv, [.t 73]⟩])
def q_tarpaulinlaw24_LapseOdd_21 (N : TN) : ACode := (.seq (q_tarpaulinlaw24_LapseOdd_21a N) (q_tarpaulinlaw24_LapseOdd_22 N))
noncomputable def D_tarpaulinlaw24_LapseOdd_21 (F : TF) (N : TN) (Q : TQ) (l : Env) (L : Lg) : Prop :=
 wpOp F (.bin .eql) [(l 44), (.i .i64 3)] L fun v1 L1 =>
 D_tarpaulinlaw24_LapseOdd_22 F N Q l v1 L1
theorem e_tarpaulinlaw24_LapseOdd_21 (F : TF) (N : TN) (Q : TQ) (l t : Env) (L : Lg) : wp F (q_tarpaulinlaw24_LapseOdd_21 N) l t L (w_tarpaulinlaw24_LapseOdd_8 F N Q) (y_tarpaulinlaw24_LapseOdd_11 F N Q) (fin [.tmp (.l 6)] Q) = D_tarpaulinlaw24_LapseOdd_21 F N Q l L := wpS (e_tarpaulinlaw24_LapseOdd_22 F N Q) (by kernel_rfl)
def q_tarpaulinlaw24_LapseOdd_19 (N : TN) : ACode := (.cond (.t 63) (q_tarpaulinlaw24_LapseOdd_20 N) (q_tarpaulinlaw24_LapseOdd_21 N))
noncomputable def D_tarpaulinlaw24_LapseOdd_19 (F : TF) (N : TN) (Q : TQ) (l : Env) (t63 : AV) (L : Lg) : Prop :=
 condW t63
 (D_tarpaulinlaw24_LapseOdd_20 F N Q (l 7) (l 9) (l 10) (l 11) L)
 (D_tarpaulinlaw24_LapseOdd_21 F N Q l L)
theorem e_tarpaulinlaw24_LapseOdd_19 (F : TF) (N : TN) (Q : TQ) (l t : Env) (L : Lg) : wp F (q_tarpaulinlaw24_LapseOdd_19 N) l t L (w_tarpaulinlaw24_LapseOdd_8 F N Q) (y_tarpaulinlaw24_LapseOdd_11 F N Q) (fin [.tmp (.l 6)] Q) = D_tarpaulinlaw24_LapseOdd_19 F N Q l (t 63) L := wpC (e_tarpaulinlaw24_LapseOdd_20 F N Q l t L) (e_tarpaulinlaw24_LapseOdd_21 F N Q l t L) (by kernel_rfl)
def q_tarpaulinlaw24_LapseOdd_18a (N : TN) : ACode := (.reg [⟨.t 64, none, .bin .eql, [.l 44, .c (.i .i64 2)]⟩, ⟨.t 63, none, .mv, [.t 64]⟩])
def q_tarpaulinlaw24_LapseOdd_18 (N : TN) : ACode := (.seq (q_tarpaulinlaw24_LapseOdd_18a N) (q_tarpaulinlaw24_LapseOdd_19 N))
noncomputable def D_tarpaulinlaw24_LapseOdd_18 (F : TF) (N : TN) (Q : TQ) (l : Env) (L : Lg) : Prop :=
 wpOp F (.bin .eql) [(l 44), (.i .i64 2)] L fun v1 L1 =>
 D_tarpaulinlaw24_LapseOdd_19 F N Q l v1 L1
theorem e_tarpaulinlaw24_LapseOdd_18 (F : TF) (N : TN) (Q : TQ) (l t : Env) (L : Lg) : wp F (q_tarpaulinlaw24_LapseOdd_18 N) l t L (w_tarpaulinlaw24_LapseOdd_8 F N Q) (y_tarpaulinlaw24_LapseOdd_11 F N Q) (fin [.tmp (.l 6)] Q) = D_tarpaulinlaw24_LapseOdd_18 F N Q l L := wpS (e_tarpaulinlaw24_LapseOdd_19 F N Q) (by kernel_rfl)
def q_tarpaulinlaw24_LapseOdd_16 (N : TN) : ACode := (.cond (.t 57) (q_tarpaulinlaw24_LapseOdd_17 N) (q_tarpaulinlaw24_LapseOdd_18 N))
noncomputable def D_tarpaulinlaw24_LapseOdd_16 (F : TF) (N : TN) (Q : TQ) (l : Env) (t57 : AV) (L : Lg) : Prop :=
 condW t57
 (D_tarpaulinlaw24_LapseOdd_17 F N Q (l 7) (l 9) (l 10) (l 11) L)
 (D_tarpaulinlaw24_LapseOdd_18 F N Q l L)
theorem e_tarpaulinlaw24_LapseOdd_16 (F : TF) (N : TN) (Q : TQ) (l t : Env) (L : Lg) : wp F (q_tarpaulinlaw24_LapseOdd_16 N) l t L (w_tarpaulinlaw24_LapseOdd_8 F N Q) (y_tarpaulinlaw24_LapseOdd_11 F N Q) (fin [.tmp (.l 6)] Q) = D_tarpaulinlaw24_LapseOdd_16 F N Q l (t 57) L := wpC (e_tarpaulinlaw24_LapseOdd_17 F N Q l t L) (e_tarpaulinlaw24_LapseOdd_18 F N Q l t L) (by kernel_rfl)
def q_tarpaulinlaw24_LapseOdd_15a (N : TN) : ACode := (.reg [⟨.t 58, none, .bin .eql, [.l 44, .c (.i .i64 1)]⟩, ⟨.t 57, none, .mv, [.t 58]⟩])
def q_tarpaulinlaw24_LapseOdd_15 (N : TN) : ACode := (.seq (q_tarpaulinlaw24_LapseOdd_15a N) (q_tarpaulinlaw24_LapseOdd_16 N))
noncomputable def D_tarpaulinlaw24_LapseOdd_15 (F : TF) (N : TN) (Q : TQ) (l : Env) (L : Lg) : Prop :=
 wpOp F (.bin .eql) [(l 44), (.i .i64 1)] L fun v1 L1 =>
 D_tarpaulinlaw24_LapseOdd_16 F N Q l v1 L1
theorem e_tarpaulinlaw24_LapseOdd_15 (F : TF) (N : TN) (Q : TQ) (l t : Env) (L : Lg) : wp F (q_tarpaulinlaw24_LapseOdd_15 N) l t L (w_tarpaulinlaw24_LapseOdd_8 F N Q) (y_tarpaulinlaw24_LapseOdd_11 F N Q) (fin [.tmp (.l 6)] Q) = D_tarpaulinlaw24_LapseOdd_15 F N Q l L := wpS (e_tarpaulinlaw24_LapseOdd_16 F N Q) (by kernel_rfl)
def q_tarpaulinlaw24_LapseOdd_13 (N : TN) : ACode := (.cond (.t 45) (q_tarpaulinlaw24_LapseOdd_14 N) (q_tarpaulinlaw24_LapseOdd_15 N))
noncomputable def D_tarpaulinlaw24_LapseOdd_13 (F : TF) (N : TN) (Q : TQ) (l : Env) (t45 : AV) (L : Lg) : Prop :=
 condW t45
 (D_tarpaulinlaw24_LapseOdd_14 F N Q (l 7) (l 9) (l 10) (l 11) L)
 (D_tarpaulinlaw24_LapseOdd_15 F N Q l L)
theorem e_tarpaulinlaw24_LapseOdd_13 (F : TF) (N : TN) (Q : TQ) (l t : Env) (L : Lg) : wp F (q_tarpaulinlaw24_LapseOdd_13 N) l t L (w_tarpaulinlaw24_LapseOdd_8 F N Q) (y_tarpaulinlaw24_LapseOdd_11 F N Q) (fin [.tmp (.l 6)] Q) = D_tarpaulinlaw24_LapseOdd_13 F N Q l (t 45) L := wpC (e_tarpaulinlaw24_LapseOdd_14 F N Q l t L) (e_tarpaulinlaw24_LapseOdd_15 F N Q l t L) (by kernel_rfl)
def q_tarpaulinlaw24_LapseOdd_12a (N : TN) : ACode := (.reg [⟨.t 46, none, .bin .eql, [.l 44, .c (.i .i64 0)]⟩, ⟨.t 45, none, .mv, [.t 46]⟩])
def q_tarpaulinlaw24_LapseOdd_12 (N : TN) : ACode := (.seq (q_tarpaulinlaw24_LapseOdd_12a N) (q_tarpaulinlaw24_LapseOdd_13 N))
noncomputable def D_tarpaulinlaw24_LapseOdd_12 (F : TF) (N : TN) (Q : TQ) (l : Env) (L : Lg) : Prop :=
 wpOp F (.bin .eql) [(l 44), (.i .i64 0)] L fun v1 L1 =>
 D_tarpaulinlaw24_LapseOdd_13 F N Q l v1 L1
theorem e_tarpaulinlaw24_LapseOdd_12 (F : TF) (N : TN) (Q : TQ) (l t : Env) (L : Lg) : wp F (q_tarpaulinlaw24_LapseOdd_12 N) l t L (w_tarpaulinlaw24_LapseOdd_8 F N Q) (y_tarpaulinlaw24_LapseOdd_11 F N Q) (fin [.tmp (.l 6)] Q) = D_tarpaulinlaw24_LapseOdd_12 F N Q l L := wpS (e_tarpaulinlaw24_LapseOdd_13 F N Q) (by kernel_rfl)
def q_tarpaulinlaw24_LapseOdd_11 (N : TN) : ACode := (.block 2 (q_tarpaulinlaw24_LapseOdd_12 N))
theorem e_tarpaulinlaw24_LapseOdd_11 (F : TF) (N : TN) (Q : TQ) (l t : Env) (L : Lg) : wp F (q_tarpaulinlaw24_LapseOdd_11 N) l t L (w_tarpaulinlaw24_LapseOdd_8 F N Q) nE (fin [.tmp (.l 6)] Q) = D_tarpaulinlaw24_LapseOdd_12 F N Q l L := wpB (e_tarpaulinlaw24_LapseOdd_12 F N Q l t L)
def q_tarpaulinlaw24_LapseOdd_10a (N : TN) : ACode := (.reg [⟨.t 43, none, .mv, [.l 2]⟩, ⟨.l 44, none, .call (N k_tarpaulinalike_Round), [.t 43, .c (.i .i64 6)]⟩])
def q_tarpaulinlaw24_LapseOdd_10 (N : TN) : ACode := (.seq (q_tarpaulinlaw24_LapseOdd_10a N) (q_tarpaulinlaw24_LapseOdd_11 N))
noncomputable def D_tarpaulinlaw24_LapseOdd_10 (F : TF) (N : TN) (Q : TQ) (l : Env) (L : Lg) : Prop :=
 CallL F (N k_tarpaulinalike_Round) [(l 2), (.i .i64 6)] L fun v1 L1 =>
 D_tarpaulinlaw24_LapseOdd_12 F N Q (Env.put l 44 v1) L1
theorem e_tarpaulinlaw24_LapseOdd_10 (F : TF) (N : TN) (Q : TQ) (l t : Env) (L : Lg) : wp F (q_tarpaulinlaw24_LapseOdd_10 N) l t L (w_tarpaulinlaw24_LapseOdd_8 F N Q) nE (fin [.tmp (.l 6)] Q) = D_tarpaulinlaw24_LapseOdd_10 F N Q l L := wpS (e_tarpaulinlaw24_LapseOdd_11 F N Q) (by kernel_rfl)
def q_tarpaulinlaw24_LapseOdd_8 (N : TN) : ACode := (.seq (q_tarpaulinlaw24_LapseOdd_10 N) (q_tarpaulinlaw24_LapseOdd_9 N))
theorem e_tarpaulinlaw24_LapseOdd_8 (F : TF) (N : TN) (Q : TQ) (l t : Env) (L : Lg) : wp F (q_tarpaulinlaw24_LapseOdd_8 N) l t L (fin [.tmp (.l 6)] Q) nE (fin [.tmp (.l 6)] Q) = D_tarpaulinlaw24_LapseOdd_10 F N Q l L := wpS (e_tarpaulinlaw24_LapseOdd_9 F N Q) (e_tarpaulinlaw24_LapseOdd_10 F N Q l t L)
def q_tarpaulinlaw24_LapseOdd_7a (N : TN) : ACode := (.reg [⟨.l 11, none, .mv, [.c (.b true)]⟩])
def q_tarpaulinlaw24_LapseOdd_7 (N : TN) : ACode := (.seq (q_tarpaulinlaw24_LapseOdd_7a N) (q_tarpaulinlaw24_LapseOdd_8 N))
noncomputable def D_tarpaulinlaw24_LapseOdd_7 (F : TF) (N : TN) (Q : TQ) (l : Env) (L : Lg) : Prop :=
 D_tarpaulinlaw24_LapseOdd_10 F N Q (Env.put l 11 (.b true)) L
theorem e_tarpaulinlaw24_LapseOdd_7 (F : TF) (N : TN) (Q : TQ) (l t : Env) (L : Lg) : wp F (q_tarpaulinlaw24_LapseOdd_7 N) l t L (fin [.tmp (.l 6)] Q) nE (fin [.tmp (.l 6)] Q) = D_tarpaulinlaw24_LapseOdd_7 F N Q l L := wpS (e_tarpaulinlaw24_LapseOdd_8 F N Q) (by kernel_rfl)
def q_tarpaulinlaw24_LapseOdd_6a (N : TN) : ACode := (.reg [⟨.t 40, none, .bslice [.i .i64 0, .b false, .i .i64 0, .i .i64 0, .i .i64 0, .b false] 0 6 [], []⟩, ⟨.t 41, none, .mv, [.l 7]⟩, ⟨.t 42, none, .app 6 48, [.t 40, .t 41]⟩, ⟨.l 10, none, .mv, [.t 42]⟩])
def q_tarpaulinlaw24_LapseOdd_6 (N : TN) : ACode := (.seq (q_tarpaulinlaw24_LapseOdd_6a N) (q_tarpaulinlaw24_LapseOdd_7 N))
noncomputable def D_tarpaulinlaw24_LapseOdd_6 (F : TF) (N : TN) (Q : TQ) (l : Env) (L : Lg) : Prop :=
 wpOp F (.bslice [.i .i64 0, .b false, .i .i64 0, .i .i64 0, .i .i64 0, .b false] 0 6 []) [] L fun v1 L1 =>
 wpOp F (.app 6 48) [v1, (l 7)] L1 fun v2 L2 =>
 D_tarpaulinlaw24_LapseOdd_7 F N Q (Env.put l 10 v2) L2
theorem e_tarpaulinlaw24_LapseOdd_6 (F : TF) (N : TN) (Q : TQ) (l t : Env) (L : Lg) : wp F (q_tarpaulinlaw24_LapseOdd_6 N) l t L (fin [.tmp (.l 6)] Q) nE (fin [.tmp (.l 6)] Q) = D_tarpaulinlaw24_LapseOdd_6 F N Q l L := wpS (e_tarpaulinlaw24_LapseOdd_7 F N Q) (by kernel_rfl)
def q_tarpaulinlaw24_LapseOdd_5a (N : TN) : ACode := (.reg [⟨.t 35, none, .mv, [.l 1]⟩, ⟨.t 36, none, .mv, [.l 0]⟩, ⟨.t 37, none, .bin .sub, [.t 36, .c (.i .i64 1)]⟩, ⟨.t 38, none, .call (N k_tarpaulinalike_Round), [.t 35, .t 37]⟩, ⟨.t 39, none, .bin .add, [.c (.i .i64 1), .t 38]⟩, ⟨.l 9, none, .mv, [.t 39]⟩])
def q_tarpaulinlaw24_LapseOdd_5 (N : TN) : ACode := (.seq (q_tarpaulinlaw24_LapseOdd_5a N) (q_tarpaulinlaw24_LapseOdd_6 N))
noncomputable def D_tarpaulinlaw24_LapseOdd_5 (F : TF) (N : TN) (Q : TQ) (l : Env) (L : Lg) : Prop :=
 wpOp F (.bin .sub) [(l 0), (.i .i64 1)] L fun v1 L1 =>
 CallL F (N k_tarpaulinalike_Round) [(l 1), v1] L1 fun v2 L2 =>
 wpOp F (.bin .add) [(.i .i64 1), v2] L2 fun v3 L3 =>
 D_tarpaulinlaw24_LapseOdd_6 F N Q (Env.put l 9 v3) L3
theorem e_tarpaulinlaw24_LapseOdd_5 (F : TF) (N : TN) (Q : TQ) (l t : Env) (L : Lg) : wp F (q_tarpaulinlaw24_LapseOdd_5 N) l t L (fin [.tmp (.l 6)] Q) nE (fin [.tmp (.l 6)] Q) = D_tarpaulinlaw24_LapseOdd_5 F N Q l L := wpS (e_tarpaulinlaw24_LapseOdd_6 F N Q) (by kernel_rfl)
def w_tarpaulinlaw24_LapseOdd_4 (F : TF) (N : TN) (Q : TQ) : Kn := (fun (l t : Env) (L : Lg) => D_tarpaulinlaw24_LapseOdd_5 F N Q l L)
def y_tarpaulinlaw24_LapseOdd_37 (F : TF) (N : TN) (Q : TQ) : Nat → Kn := (fun (j : Nat) (l t : Env) (L : Lg) => bif Nat.beq j 0 then (w_tarpaulinlaw24_LapseOdd_4 F N Q) l t L else nE j l t L)
def q_tarpaulinlaw24_LapseOdd_39 (N : TN) : ACode := (.seq (.seq (.reg [⟨.t 22, none, .mv, [.l 8]⟩, ⟨.t 23, none, .mv, [.l 0]⟩, ⟨.t 24, none, .bin .lss, [.t 22, .t 23]⟩]) (.cond (.t 24) .skip (.exit 0))) (.seq (.block 1 (.reg [⟨.t 27, none, .mv, [.l 7]⟩, ⟨.t 28, none, .mv, [.l 8]⟩, ⟨.t 29, none, .bin .sub, [.t 28, .c (.i .i64 1)]⟩, ⟨.t 30, none, .mv, [.l 8]⟩, ⟨.t 31, none, .bin .sub, [.c (.i .i64 100), .t 30]⟩, ⟨.t 32, none, .build [.i .i64 0, .b false, .i .i64 0, .i .i64 0, .i .i64 0, .b false] [(0, 1), (1, 1), (4, 1), (5, 1)], [.t 29, .c (.b true), .t 31, .c (.b true)]⟩, ⟨.t 33, none, .bslice [.i .i64 0, .b false, .i .i64 0, .i .i64 0, .i .i64 0, .b false] 1 6 [0], [.t 32]⟩, ⟨.t 34, none, .app 6 48, [.t 27, .t 33]⟩, ⟨.l 7, none, .mv, [.t 34]⟩])) (.reg [⟨.t 25, none, .mv, [.l 8]⟩, ⟨.t 26, none, .bin .add, [.t 25, .c (.i .i64 1)]⟩, ⟨.l 8, none, .mv, [.t 26]⟩])))
noncomputable def D_tarpaulinlaw24_LapseOdd_39 (F : TF) (N : TN) (Q : TQ) (k1 : TK) (l : Env) (L : Lg) : Prop :=
 wpOp F (.bin .lss) [(l 8), (l 0)] L fun v1 L1 =>
 condW v1
 (wpOp F (.bin .sub) [(l 8), (.i .i64 1)] L1 fun v2 L2 =>
 wpOp F (.bin .sub) [(.i .i64 100), (l 8)] L2 fun v3 L3 =>
 wpOp F (.build [.i .i64 0, .b false, .i .i64 0, .i .i64 0, .i .i64 0, .b false] [(0, 1), (1, 1), (4, 1), (5, 1)]) [v2, (.b true), v3, (.b true)] L3 fun v4 L4 =>
 wpOp F (.bslice [.i .i64 0, .b false, .i .i64 0, .i .i64 0, .i .i64 0, .b false] 1 6 [0]) [v4] L4 fun v5 L5 =>
 wpOp F (.app 6 48) [(l 7), v5] L5 fun v6 L6 =>
 wpOp F (.bin .add) [(l 8), (.i .i64 1)] L6 fun v7 L7 =>
 k1 (Env.put (Env.put l 7 v6) 8 v7) L7)
 (D_tarpaulinlaw24_LapseOdd_5 F N Q l L1)
theorem e_tarpaulinlaw24_LapseOdd_39 (F : TF) (N : TN) (Q : TQ) (k1 : TK) (l t : Env) (L : Lg) : wp F (q_tarpaulinlaw24_LapseOdd_39 N) l t L (fun (l _ : Env) (L : Lg) => k1 l L) (y_tarpaulinlaw24_LapseOdd_37 F N Q) (fin [.tmp (.l 6)] Q) = D_tarpaulinlaw24_LapseOdd_39 F N Q k1 l L := by kernel_rfl
def q_tarpaulinlaw24_LapseOdd_38 (N : TN) : ACode := (.loop (q_tarpaulinlaw24_LapseOdd_39 N))
noncomputable def D_tarpaulinlaw24_LapseOdd_38 (F : TF) (N : TN) (Q : TQ) (l : Env) (L : Lg) : Prop :=
 loopW (fun l t L k1 => D_tarpaulinlaw24_LapseOdd_39 F N Q k1 l L) l L
theorem e_tarpaulinlaw24_LapseOdd_38 (F : TF) (N : TN) (Q : TQ) (l t : Env) (L : Lg) : wp F (q_tarpaulinlaw24_LapseOdd_38 N) l t L (w_tarpaulinlaw24_LapseOdd_4 F N Q) (y_tarpaulinlaw24_LapseOdd_37 F N Q) (fin [.tmp (.l 6)] Q) = D_tarpaulinlaw24_LapseOdd_38 F N Q l L := wpL (fun l t L k1 => e_tarpaulinlaw24_LapseOdd_39 F N Q k1 l t L) (by kernel_rfl)
def q_tarpaulinlaw24_LapseOdd_37 (N : TN) : ACode := (.block 0 (q_tarpaulinlaw24_LapseOdd_38 N))
theorem e_tarpaulinlaw24_LapseOdd_37 (F : TF) (N : TN) (Q : TQ) (l t : Env) (L : Lg) : wp F (q_tarpaulinlaw24_LapseOdd_37 N) l t L (w_tarpaulinlaw24_LapseOdd_4 F N Q) nE (fin [.tmp (.l 6)] Q) = D_tarpaulinlaw24_LapseOdd_38 F N Q l L := wpB (e_tarpaulinlaw24_LapseOdd_38 F N Q l t L)
def q_tarpaulinlaw24_LapseOdd_36a (N : TN) : ACode := (.reg [⟨.l 8, none, .mv, [.c (.i .i64 1)]⟩])
def q_tarpaulinlaw24_LapseOdd_36 (N : TN) : ACode := (.seq (q_tarpaulinlaw24_LapseOdd_36a N) (q_tarpaulinlaw24_LapseOdd_37 N))
noncomputable def D_tarpaulinlaw24_LapseOdd_36 (F : TF) (N : TN) (Q : TQ) (l : Env) (L : Lg) : Prop :=
 D_tarpaulinlaw24_LapseOdd_38 F N Q (Env.put l 8 (.i .i64 1)) L
theorem e_tarpaulinlaw24_LapseOdd_36 (F : TF) (N : TN) (Q : TQ) (l t : Env) (L : Lg) : wp F (q_tarpaulinlaw24_LapseOdd_36 N) l t L (w_tarpaulinlaw24_LapseOdd_4 F N Q) nE (fin [.tmp (.l 6)] Q) = D_tarpaulinlaw24_LapseOdd_36 F N Q l L := wpS (e_tarpaulinlaw24_LapseOdd_37 F N Q) (by kernel_rfl)
def q_tarpaulinlaw24_LapseOdd_4 (N : TN) : ACode := (.seq (q_tarpaulinlaw24_LapseOdd_36 N) (q_tarpaulinlaw24_LapseOdd_5 N))
theorem e_tarpaulinlaw24_LapseOdd_4 (F : TF) (N : TN) (Q : TQ) (l t : Env) (L : Lg) : wp F (q_tarpaulinlaw24_LapseOdd_4 N) l t L (fin [.tmp (.l 6)] Q) nE (fin [.tmp (.l 6)] Q) = D_tarpaulinlaw24_LapseOdd_36 F N Q l L := wpS (e_tarpaulinlaw24_LapseOdd_5 F N Q) (e_tarpaulinlaw24_LapseOdd_36 F N Q l t L)
def q_tarpaulinlaw24_LapseOdd_3a (N : TN) : ACode := (.reg [⟨.t 20, none, .build [.i .i64 0, .b false, .i .i64 0, .i .i64 0, .i .i64 0, .b false] [(0, 1)], [.c (.i .i64 (-1))]⟩, ⟨.t 21, none, .bslice [.i .i64 0, .b false, .i .i64 0, .i .i64 0, .i .i64 0, .b false] 1 6 [0], [.t 20]⟩, ⟨.l 7, none, .mv, [.t 21]⟩])
def q_tarpaulinlaw24_LapseOdd_3 (N : TN) : ACode := (.seq (q_tarpaulinlaw24_LapseOdd_3a N) (q_tarpaulinlaw24_LapseOdd_4 N))
noncomputable def D_tarpaulinlaw24_LapseOdd_3 (F : TF) (N : TN) (Q : TQ) (l : Env) (L : Lg) : Prop :=
 wpOp F (.build [.i .i64 0, .b false, .i .i64 0, .i .i64 0, .i .i64 0, .b false] [(0, 1)]) [(.i .i64 (-1))] L fun v1 L1 =>
 wpOp F (.bslice [.i .i64 0, .b false, .i .i64 0, .i .i64 0, .i .i64 0, .b false] 1 6 [0]) [v1] L1 fun v2 L2 =>
 D_tarpaulinlaw24_LapseOdd_36 F N Q (Env.put l 7 v2) L2
theorem e_tarpaulinlaw24_LapseOdd_3 (F : TF) (N : TN) (Q : TQ) (l t : Env) (L : Lg) : wp F (q_tarpaulinlaw24_LapseOdd_3 N) l t L (fin [.tmp (.l 6)] Q) nE (fin [.tmp (.l 6)] Q) = D_tarpaulinlaw24_LapseOdd_3 F N Q l L := wpS (e_tarpaulinlaw24_LapseOdd_4 F N Q) (by kernel_rfl)
def q_tarpaulinlaw24_LapseOdd_2a (N : TN) : ACode := (.seq (.reg [⟨.t 13, none, .mv, [.l 0]⟩, ⟨.t 14, none, .bin .lss, [.t 13, .c (.i .i64 2)]⟩, ⟨.t 15, none, .mv, [.t 14]⟩, ⟨.t 16, some (.t 15, false), .mv, [.l 0]⟩, ⟨.t 17, some (.t 15, false), .bin .gtr, [.t 16, .c (.i .i64 20)]⟩, ⟨.t 18, none, .pick, [.t 15, .c (.b true), .t 17]⟩]) (.cond (.t 18) (.seq (.reg [⟨.t 19, none, .call (N k_tarpaulinlaw24_awake), []⟩, ⟨.l 6, none, .mv, [.t 19]⟩]) .ret) .skip))
def q_tarpaulinlaw24_LapseOdd_2 (N : TN) : ACode := (.seq (q_tarpaulinlaw24_LapseOdd_2a N) (q_tarpaulinlaw24_LapseOdd_3 N))
noncomputable def D_tarpaulinlaw24_LapseOdd_2 (F : TF) (N : TN) (Q : TQ) (l : Env) (L : Lg) : Prop :=
 wpOp F (.bin .lss) [(l 0), (.i .i64 2)] L fun v1 L1 =>
 gdOp F v1 false .mv [(l 0)] L1 fun v2 L2 =>
 gdOp F v1 false (.bin .gtr) [v2, (.i .i64 20)] L2 fun v3 L3 =>
 wpOp F .pick [v1, (.b true), v3] L3 fun v4 L4 =>
 condW v4
 (CallL F (N k_tarpaulinlaw24_awake) [] L4 fun v5 L5 =>
 fin1 (some v5) Q L5)
 (D_tarpaulinlaw24_LapseOdd_3 F N Q l L4)
theorem e_tarpaulinlaw24_LapseOdd_2 (F : TF) (N : TN) (Q : TQ) (l t : Env) (L : Lg) : wp F (q_tarpaulinlaw24_LapseOdd_2 N) l t L (fin [.tmp (.l 6)] Q) nE (fin [.tmp (.l 6)] Q) = D_tarpaulinlaw24_LapseOdd_2 F N Q l L := wpS (e_tarpaulinlaw24_LapseOdd_3 F N Q) (by kernel_rfl)
def q_tarpaulinlaw24_LapseOdd_1a (N : TN) : ACode := (.reg [⟨.l 6, none, .mv, [.c (.b false)]⟩])
def q_tarpaulinlaw24_LapseOdd_1 (N : TN) : ACode := (.seq (q_tarpaulinlaw24_LapseOdd_1a N) (q_tarpaulinlaw24_LapseOdd_2 N))
noncomputable def D_tarpaulinlaw24_LapseOdd_1 (F : TF) (N : TN) (Q : TQ) (l : Env) (L : Lg) : Prop :=
 D_tarpaulinlaw24_LapseOdd_2 F N Q (Env.put l 6 (.b false)) L
theorem e_tarpaulinlaw24_LapseOdd_1 (F : TF) (N : TN) (Q : TQ) (l t : Env) (L : Lg) : wp F (q_tarpaulinlaw24_LapseOdd_1 N) l t L (fin [.tmp (.l 6)] Q) nE (fin [.tmp (.l 6)] Q) = D_tarpaulinlaw24_LapseOdd_1 F N Q l L := wpS (e_tarpaulinlaw24_LapseOdd_2 F N Q) (by kernel_rfl)
/-- tarpaulin/tarpaulinlaw24.LapseOdd -/
def c_tarpaulinlaw24_LapseOdd (N : TN) : AFn := ⟨q_tarpaulinlaw24_LapseOdd_1 N, [.tmp (.l 6)]⟩
theorem r_tarpaulinlaw24_LapseOdd {F : TF} {N : TN} (h : F (N k_tarpaulinlaw24_LapseOdd) = some (c_tarpaulinlaw24_LapseOdd N)) {Q : TQ} {a0 a1 a2 : AV} {L : Lg} (e : D_tarpaulinlaw24_LapseOdd_1 F N Q (initE [a0, a1, a2] 0) L) : CallL F (N k_tarpaulinlaw24_LapseOdd) [a0, a1, a2] L Q :=
  CallL.of_wp h (Eq.mpr (Eq.trans (e_tarpaulinlaw24_LapseOdd_1 F N Q (initE [a0, a1, a2] 0) Env.nil L) (by kernel_rfl : _ = D_tarpaulinlaw24_LapseOdd_1 F N Q (initE [a0, a1, a2] 0) L)) e)
end Go.AM

/- lapse: views, in plain; code, hangs, over, Sound, Behind. -/
set_option linter.unusedVariables false
set_option linter.unusedSimpArgs false
namespace Go.AM
variable {N : Nat → Nat} {F : Nat → Option AFn}
/-- all is there still -/
def SubL (K K' : Lg) : Prop := ∀ r d, K r = some d → K' r = some d
theorem SubL.refl (K : Lg) : SubL K K := fun _ _ h => h
theorem SubL.trans {A B C : Lg} (h : SubL A B) (k : SubL B C) : SubL A C := fun r d e => k r d (h r d e)
theorem SubL.put {K K' : Lg} (h : SubL K K') {b : Nat} (hb : K' b = none) (x : LC) : SubL K (K'.put b x) := fun r d e => by
  have := h r d e
  rw [Lg.put_ne]; exact this
  rintro rfl; rw [hb] at this; cases this
theorem SubL.sees {K K' : Lg} (h : SubL K K') : Sees K' K := Sees.drop h
structure View where
  par : Int
  link : Bool
  err : Int
  cause : Int
  dl : Int
  has : Bool
instance : Inhabited View := ⟨⟨0, false, 0, 0, 0, false⟩⟩
def vcl (v : View) : List AV := [.i .i64 v.par, .b v.link, .i .i64 v.err, .i .i64 v.cause, .i .i64 v.dl, .b v.has]
def View.code (v : View) : Bool := if v.err = 0 then decide (v.cause = 0) else if v.err = 1 then decide (1 ≤ v.cause) else if v.err = 2 then decide (1 ≤ v.cause) else false
def View.hangs (v up : View) : Bool := (decide (up.err = 0) || !decide (v.err = 0)) && (!up.has || (v.has && decide (v.dl ≤ up.dl)))
/-- a slice of views that is read -/
def SlR (K : Lg) (v : AV) (l : List View) : Prop := ∃ a cap ex, v = .sl a l.length cap ex ∧ (l = [] ∨ ∃ b off cs, a = some (b, off) ∧ (K b = some (.raw (.cells cs)) ∨ K b = some (.raw (.ro cs))) ∧ ∀ (i : Nat) (x : View), l[i]? = some x → off + i * 6 + 6 ≤ cs.length ∧ (cs.drop (off + i * 6)).take 6 = vcl x)
theorem SlR.len {K : Lg} {v : AV} {l : List View} (h : SlR K v l) (X : Lg) (k : AV → Lg → Prop) : wpOp F .lenSl [v] X k = k (.i .i64 l.length) X := by
  obtain ⟨a, cap, ex, rfl, _⟩ := h
  simp
theorem SlR.mono {K K' : Lg} {v : AV} {l : List View} (h : SlR K v l) (e : SubL K K') : SlR K' v l := by
  obtain ⟨a, cap, ex, rfl, h1 | ⟨b, off, cs, rfl, h2, h3⟩⟩ := h
  · exact ⟨_, _, _, rfl, .inl h1⟩
  · exact ⟨_, _, _, rfl, .inr ⟨b, off, cs, rfl, h2.imp (e _ _) (e _ _), h3⟩⟩
theorem drop_get {cs : List AV} {o n : Nat} {f : List AV} (h : (cs.drop o).take n = f) {j : Nat} (hj : j < n) : cs[o + j]? = f[j]? := by
  rw [← h, List.getElem?_take_of_lt hj, List.getElem?_drop]
theorem SlR.get {K : Lg} {v : AV} {l : List View} (h : SlR K v l) {i : Nat} {x : View} (hi : l[i]? = some x) : ∃ b o, (∀ (X : Lg) (k : AV → Lg → Prop), wpOp F (.iad 6) [v, .i .i64 i] X k = k (.p (some (b, o))) X) ∧
    (∀ X : Lg, SubL K X → (∀ j, j < 6 → rdL X (b, o + j) none = (vcl x)[j]?) ∧ rdL X (b, o) (some 6) = some (.agg (vcl x))) ∧ K b ≠ none := by
  obtain ⟨a, cap, ex, rfl, h1 | ⟨b, off, cs, rfl, h2, h3⟩⟩ := h
  · subst h1; simp at hi
  · have hl := (List.getElem?_eq_some_iff.1 hi).1
    obtain ⟨h4, h5⟩ := h3 i x hi
    refine ⟨b, off + i * 6, fun X k => ?_, fun X hX => ?_, ?_⟩
    · rw [wp_iad F X k 6 b off l.length cap ex .i64 i (by omega) (by omega)]
      simp
    · rcases h2 with h2 | h2
      · refine ⟨fun j hj => ?_, ?_⟩
        · rw [rdL_cell (hX _ _ h2), drop_get h5 hj]
        · rw [rdL_cells (hX _ _ h2) h4, h5]
      · refine ⟨fun j hj => ?_, ?_⟩
        · rw [rdL_ro (hX _ _ h2), drop_get h5 hj]
        · rw [rdL_ros (hX _ _ h2) h4, h5]
    · rcases h2 with h2 | h2 <;> rw [h2] <;> simp
theorem SlR.of_own {K : Lg} {v : AV} {l : List View} (h : OSl K v (flatc vcl l) l.length 6) : SlR K v l := by
  rcases h with ⟨h2, h1, rfl⟩ | ⟨b, ex, h1, rfl, _, h2, h3⟩
  · refine ⟨none, 0, 0, by rw [h2], .inl (List.length_eq_zero_iff.1 h2)⟩
  · refine ⟨some (b, 0), l.length, ex, rfl, .inr ⟨b, 0, flatc vcl l, rfl, .inl h2, fun i x hi => ?_⟩⟩
    have := flatc_at (f := vcl) (k := 6) (fun _ => rfl) l i x hi
    simpa using ⟨this.2, this.1⟩
theorem code_spec (hf : H_lapse_View_code N F) (K : Lg) (v : View) : CallL F (N k_lapse_View_code) [.agg (vcl v)] K fun r K' => r = .b v.code ∧ K' = K := by
  refine CallL.opq ?_
  intro Q hQ
  apply r_lapse_View_code hf.code
  unfold D_lapse_View_code_1
  rw [wp_box, newL_box_agg _ _ _ rfl]
  intro b hb
  have g : (K.put b (.raw (.cells (vcl v)))) b = some (.raw (.cells (vcl v))) := Lg.put_same _ _ _
  have fin : ∀ x, x = v.code → fin1 (some (.b x)) Q (K.put b (.raw (.cells (vcl v)))) := fun x hx => ⟨K, ((SubL.refl K).put hb _).sees, hQ _ _ ⟨by rw [hx], rfl⟩⟩
  have q2 : rdL (K.put b (.raw (.cells (vcl v)))) (b, 2) none = some (.i .i64 v.err) := by rw [rdL_cell g]; rfl
  have q3 : rdL (K.put b (.raw (.cells (vcl v)))) (b, 3) none = some (.i .i64 v.cause) := by rw [rdL_cell g]; rfl
  simp only [mark_eq, wp_fad, Nat.zero_add, wp_ld, q2, retL_some, wp_eql, condW_d, q3, wp_geq]
  unfold View.code at fin
  refine ⟨fun h => fin _ (by simp [h]), fun h => ⟨fun h1 => ⟨fun _ => fin _ (by simp [h, h1]), fun h2 => absurd h1 h2⟩, fun h1 => ⟨fun h2 => fin _ (by simp [h, h1, h2]), fun h2 => fin _ (by simp [h, h1, h2])⟩⟩⟩
theorem hangs_spec (hf : H_lapse_View_hangs N F) (K : Lg) (v up : View) : CallL F (N k_lapse_View_hangs) [.agg (vcl v), .agg (vcl up)] K fun r K' => r = .b (v.hangs up) ∧ K' = K := by
  refine CallL.opq ?_
  intro Q hQ
  apply r_lapse_View_hangs hf.code
  unfold D_lapse_View_hangs_1
  rw [wp_box, newL_box_agg _ _ _ rfl]
  intro b hb
  rw [wp_box, newL_box_agg _ _ _ rfl]
  intro b2 hb2
  obtain ⟨K2, hK2⟩ : ∃ K2, K2 = (K.put b (.raw (.cells (vcl v)))).put b2 (.raw (.cells (vcl up))) := ⟨_, rfl⟩
  rw [← hK2]
  have hne : b ≠ b2 := by rintro rfl; rw [Lg.put_same] at hb2; cases hb2
  have g : K2 b = some (.raw (.cells (vcl v))) := by rw [hK2, Lg.put_ne _ _ _ hne, Lg.put_same]
  have g2 : K2 b2 = some (.raw (.cells (vcl up))) := by rw [hK2, Lg.put_same]
  have sub : SubL K K2 := by rw [hK2]; exact ((SubL.refl K).put hb _).put hb2 _
  clear hK2
  have fin : ∀ x, x = v.hangs up → fin1 (some (.b x)) Q K2 := fun x hx => ⟨K, sub.sees, hQ _ _ ⟨by rw [hx], rfl⟩⟩
  have q2 : rdL K2 (b, 2) none = some (.i .i64 v.err) := by rw [rdL_cell g]; rfl
  have q4 : rdL K2 (b, 4) none = some (.i .i64 v.dl) := by rw [rdL_cell g]; rfl
  have q5 : rdL K2 (b, 5) none = some (.b v.has) := by rw [rdL_cell g]; rfl
  have p2 : rdL K2 (b2, 2) none = some (.i .i64 up.err) := by rw [rdL_cell g2]; rfl
  have p4 : rdL K2 (b2, 4) none = some (.i .i64 up.dl) := by rw [rdL_cell g2]; rfl
  have p5 : rdL K2 (b2, 5) none = some (.b up.has) := by rw [rdL_cell g2]; rfl
  unfold View.hangs at fin
  have e1 : up.err = 0 ∨ up.err ≠ 0 := by omega
  have e2 : v.err = 0 ∨ v.err ≠ 0 := by omega
  have e3 : v.dl ≤ up.dl ∨ ¬ v.dl ≤ up.dl := by omega
  rcases e1 with e1 | e1 <;> rcases e2 with e2 | e2 <;> rcases e3 with e3 | e3 <;> cases h1 : up.has <;> cases h2 : v.has <;>
    simp [q2, q4, q5, p2, p4, p5, e1, e2, e3, h1, h2] at fin ⊢ <;> exact fin
theorem alloc_v {x : View} {L : Lg} {z1 z2 z3 z4 z5 z6 : AV} {k : AV → Lg → Prop} (h : ∀ b, L b = none → k (.p (some (b, 0))) (L.put b (.raw (.cells (vcl x))))) : wpOp F (.alloc [z1, z2, z3, z4, z5, z6]) [] L fun v3 L3 => wpOp F (.st 6) [v3, .agg (vcl x)] L3 fun _ L4 => k v3 L4 := by
  rw [wp_alloc]
  intro b hb
  rw [wp_st, stL_cells (n := 6) (Lg.put_same _ _ _) rfl rfl (by simp), Lg.put_put]
  exact h b hb
/-- has a deadline of those above passed? -/
def overV (l : List View) (now : Int) : Nat → Nat → Bool
  | 0, _ => false
  | f + 1, id => match l[id]? with
    | none => false
    | some v => (v.has && decide (v.dl ≤ now)) || (v.link && decide (0 ≤ v.par) && decide (v.par < id) && overV l now f v.par.toNat)
theorem overV_fuel (l : List View) (now : Int) : ∀ (f g id : Nat), id < f → id < g → overV l now f id = overV l now g id
  | 0, _, _, h, _ => by omega
  | _ + 1, 0, _, _, h => by omega
  | f + 1, g + 1, id, h1, h2 => by
    simp only [overV]
    cases l[id]? with
    | none => rfl
    | some v =>
      simp only []
      congr 1
      by_cases h3 : 0 ≤ v.par ∧ v.par < id
      · rw [overV_fuel l now f g v.par.toNat (by omega) (by omega)]
      · have : (decide (0 ≤ v.par) && decide (v.par < id)) = false := by
          simp; omega
        cases v.link <;> simp [this]
theorem over_spec (hf : H_lapse_over N F) {K : Lg} {a : AV} {l : List View} (h : SlR K a l) {id : Nat} (hid : id < l.length) (now : Int) : CallL F (N k_lapse_over) [a, .i .i64 id, .i .i64 now] K fun r K' => r = .b (overV l now (id + 1) id) ∧ K' = K := by
  refine CallL.opq ?_
  intro Q hQ
  apply r_lapse_over hf.code
  unfold D_lapse_over_1 D_lapse_over_3
  obtain ⟨I, hI⟩ : ∃ I : Nat → Env → Lg → Prop, I = fun m E K' => m < l.length ∧ E 0 = a ∧ E 1 = .i .i64 (m : Nat) ∧ E 2 = .i .i64 now ∧ SubL K K' ∧ overV l now (id + 1) id = overV l now (m + 1) m := ⟨_, rfl⟩
  refine loopW_intro I id ?_ ?_
  · rw [hI]; exact ⟨hid, by simp [initE], by simp [initE], by simp [initE], SubL.refl _, rfl⟩
  intro m E t K' hi
  rw [hI] at hi
  obtain ⟨hm, e0, e1, e2, hs, ho⟩ := hi
  have hx : l[m]? = some l[m] := List.getElem?_eq_getElem hm
  generalize l[m] = x at hx
  have fin : ∀ b, b = overV l now (id + 1) id → ∀ K2, SubL K K2 → fin1 (some (.b b)) Q K2 := fun b hb K2 h2 => ⟨K, h2.sees, hQ _ _ ⟨by rw [hb], rfl⟩⟩
  rw [ho] at fin
  have hov : overV l now (m + 1) m = ((x.has && decide (x.dl ≤ now)) || (x.link && decide (0 ≤ x.par) && decide (x.par < m) && overV l now m x.par.toNat)) := by
    simp only [overV, hx]
  unfold D_lapse_over_4
  rw [e0, e1, e2]
  obtain ⟨b, o, g1, g2, _⟩ := h.get (F := F) hx
  simp only [mark_eq, g1, wp_ld, (g2 K' hs).2, retL_some]
  refine alloc_v ?_
  intro q hq
  have hs2 := hs.put hq (.raw (.cells (vcl x)))
  have hg : (K'.put q (.raw (.cells (vcl x)))) q = some (.raw (.cells (vcl x))) := Lg.put_same _ _ _
  generalize K'.put q (.raw (.cells (vcl x))) = K2 at hs2 hg
  have q0 : rdL K2 (q, 0) none = some (.i .i64 x.par) := by rw [rdL_cell hg]; rfl
  have q1 : rdL K2 (q, 1) none = some (.b x.link) := by rw [rdL_cell hg]; rfl
  have q4 : rdL K2 (q, 4) none = some (.i .i64 x.dl) := by rw [rdL_cell hg]; rfl
  have q5 : rdL K2 (q, 5) none = some (.b x.has) := by rw [rdL_cell hg]; rfl
  have e3 : x.dl ≤ now ∨ ¬ x.dl ≤ now := by omega
  by_cases hyes : x.has = true ∧ x.dl ≤ now
  · obtain ⟨y1, y2⟩ := hyes
    simp [q5, q4, y1, y2]
    exact fin _ (by simp [hov, y1, y2]) _ hs2
  have hno : (x.has && decide (x.dl ≤ now)) = false := by
    cases h1 : x.has <;> simp
    exact Int.not_le.1 fun h2 => hyes ⟨h1, h2⟩
  rw [hno, Bool.false_or] at hov
  have step : ∀ (P : AV → Lg → Prop), P (.b false) K2 → (wpOp F (.fad 5) [.p (some (q, 0))] K2 fun v5 L5 => wpOp F (.ld none) [v5] L5 fun v6 L6 => gdOp F v6 true (.fad 4) [.p (some (q, 0))] L6 fun v7 L7 => gdOp F v6 true (.ld none) [v7] L7 fun v8 L8 => gdOp F v6 true .mv [.i .i64 now] L8 fun v9 L9 => gdOp F v6 true (.bin .leq) [v8, v9] L9 fun v10 L10 => wpOp F .pick [v6, v10, (.b false)] L10 P) := by
    intro P hP
    cases h1 : x.has with
    | false => simpa [q5, q4, h1] using hP
    | true =>
      have : ¬ x.dl ≤ now := fun h2 => hyes ⟨h1, h2⟩
      simpa [q5, q4, h1, this] using hP
  refine step _ ?_
  simp only [mark_eq, condW_f]
  cases hl : x.link with
  | false =>
    simp [q1, hl]
    exact fin _ (by simp [hov, hl]) _ hs2
  | true =>
    by_cases h0 : x.par < 0
    · simp [q1, q0, hl, h0]
      exact fin _ (by rw [hov]; simp [hl]; omega) _ hs2
    · by_cases h1 : x.par < m
      · have h2 : ¬ (m : Int) ≤ x.par := by omega
        simp [q1, q0, hl, h0, h2]
        rw [hI]
        obtain ⟨p, hp⟩ := Int.eq_ofNat_of_zero_le (Int.not_lt.1 h0)
        refine ⟨p, by omega, by omega, by simp [e0], by simp [hp], by simp [e2], hs2, ?_⟩
        rw [ho, hov, hl, hp]
        have f1 : overV l now m p = overV l now (p + 1) p := overV_fuel l now m (p + 1) p (by omega) (by omega)
        have a1 : decide (0 ≤ (p : Int)) = true := by simp
        have a2 : decide ((p : Int) < m) = true := by simp; omega
        rw [a1, a2, Int.toNat_natCast, f1]; rfl
      · have h2 : (m : Int) ≤ x.par := by omega
        simp [q1, q0, hl, h0, h2]
        exact fin _ (by rw [hov]; simp [hl, h1]) _ hs2
def lkV (v : View) : Bool := v.link && decide (0 ≤ v.par)
def upV (l : List View) (v : View) : View := l[v.par.toNat]?.getD default
def okV (l : List View) (now : Int) (i : Nat) (v : View) : Bool :=
  !(decide (v.par < -1) || decide ((i : Int) ≤ v.par)) && v.code && (!lkV v || v.hangs (upV l v)) && (!decide (v.err = 2) || overV l now (i + 1) i || (lkV v && decide ((upV l v).err = 2)))
def soundTo (l : List View) (now : Int) : Nat → Bool
  | 0 => true
  | n + 1 => soundTo l now n && okV l now n (l[n]?.getD default)
def soundV (l : List View) (now : Int) : Bool := soundTo l now l.length
theorem soundTo_false {l : List View} {now : Int} {i : Nat} {x : View} (hx : l[i]? = some x) (h : okV l now i x = false) : ∀ n, i < n → soundTo l now n = false
  | 0, h1 => by omega
  | n + 1, h1 => by
    simp only [soundTo]
    by_cases e : i = n
    · subst e; rw [hx]; simp [h]
    · rw [soundTo_false hx h n (by omega)]; rfl
theorem sound_spec (hf : H_lapse_Sound N F) {K : Lg} {a : AV} {l : List View} (h : SlR K a l) (hlen : l.length ≤ 1000000) (now : Int) : CallL F (N k_lapse_Sound) [a, .i .i64 now] K fun r K' => r = .b (soundV l now) ∧ K' = K := by
  refine CallL.opq ?_
  intro Q hQ
  have fin : ∀ b, b = soundV l now → ∀ K2, SubL K K2 → fin1 (some (.b b)) Q K2 := fun b hb K2 h2 => ⟨K, h2.sees, hQ _ _ ⟨by rw [hb], rfl⟩⟩
  apply r_lapse_Sound hf.code
  unfold D_lapse_Sound_1 D_lapse_Sound_4 D_lapse_Sound_6
  simp [initE, h.len]
  obtain ⟨I, hI⟩ : ∃ I : Nat → Env → Lg → Prop, I = fun m E K' => ∃ i : Nat, m + i = l.length ∧ E 0 = a ∧ E 1 = .i .i64 now ∧ E 8 = a ∧ E 9 = .i .i64 l.length ∧ E 10 = .i .i64 i ∧ SubL K K' ∧ soundTo l now i = true := ⟨_, rfl⟩
  refine loopW_intro I l.length ?_ ?_
  · rw [hI]; exact ⟨0, by omega, by simp, by simp, by simp, by simp, by simp, SubL.refl _, rfl⟩
  intro m E t K' hi
  rw [hI] at hi
  obtain ⟨i, hm, e0, e1, e8, e9, e10, hs, ho⟩ := hi
  unfold D_lapse_Sound_7 D_lapse_Sound_8
  rw [e9, e10]
  simp only [mark_eq, wp_lss, condW_d]
  refine ⟨fun hlt => ?_, fun hnl => ?_⟩
  rotate_left
  · have : i = l.length := by omega
    subst this
    unfold D_lapse_Sound_3
    exact fin _ (by unfold soundV; rw [ho]) _ hs
  have hil : i < l.length := by omega
  have hx : l[i]? = some l[i] := List.getElem?_eq_getElem hil
  generalize l[i] = x at hx
  have w1 : wr .i64 ((i : Int) + 1) = ((i + 1 : Nat) : Int) := by rw [wr_id (by omega) (by omega)]; omega
  have bad : okV l now i x = false → ∀ K2, SubL K K2 → fin1 (some (.b false)) Q K2 := fun hb => fin _ (by unfold soundV; rw [soundTo_false hx hb _ hil])
  unfold D_lapse_Sound_12
  rw [e8, e10]
  obtain ⟨b, o, g1, g2, _⟩ := h.get (F := F) hx
  simp only [mark_eq, g1, wp_ld, (g2 K' hs).2, retL_some]
  refine alloc_v ?_
  intro q hq
  have hs2 := hs.put hq (.raw (.cells (vcl x)))
  have hg : (K'.put q (.raw (.cells (vcl x)))) q = some (.raw (.cells (vcl x))) := Lg.put_same _ _ _
  generalize K'.put q (.raw (.cells (vcl x))) = K2 at hs2 hg
  have q0 : rdL K2 (q, 0) none = some (.i .i64 x.par) := by rw [rdL_cell hg]; rfl
  have q1 : rdL K2 (q, 1) none = some (.b x.link) := by rw [rdL_cell hg]; rfl
  have q2 : rdL K2 (q, 2) none = some (.i .i64 x.err) := by rw [rdL_cell hg]; rfl
  have q6 : rdL K2 (q, 0) (some 6) = some (.agg (vcl x)) := by rw [rdL_cells hg (by simp [vcl])]; rfl
  have next : okV l now i x = true → ∀ E2 : Env, E2 0 = a → E2 1 = .i .i64 now → E2 8 = a → E2 9 = .i .i64 l.length → E2 10 = .i .i64 i → D_lapse_Sound_10 F N Q (fun l L => ∃ m_1, m_1 < m ∧ I m_1 l L) E2 K2 := by
    intro hok E2 y0 y1 y8 y9 y10
    unfold D_lapse_Sound_10
    rw [y10]
    simp only [mark_eq, wp_add, w1]
    rw [hI]
    refine ⟨m - 1, by omega, i + 1, by omega, by simp [y0], by simp [y1], by simp [y8], by simp [y9], by simp, hs2, ?_⟩
    simp only [soundTo, ho, hx, Option.getD_some, hok, Bool.and_self]
  unfold D_lapse_Sound_13
  simp only [Env.put_apply, if_true, if_false, reduceIte, Nat.reduceEqDiff]
  by_cases c1 : x.par < -1
  · simp [q0, c1]
    exact bad (by simp [okV, c1]) _ hs2
  by_cases c2 : (i : Int) ≤ x.par
  · simp [q0, c1, c2]
    exact bad (by simp [okV, c2]) _ hs2
  have c2' : ¬ (x.par ≥ (i : Int)) := c2
  simp only [mark_eq, wp_fad, Nat.zero_add, wp_ld, q0, retL_some, wp_lss, c1, decide_false, gdOp_same, wp_mv, wp_geq, c2', wp_pick_f, q6, wp_call]
  refine (code_spec hf.lapse_View_code _ x).mono ?_
  rintro _ K3 ⟨rfl, rfl⟩
  cases hc : x.code with
  | false =>
    simp
    exact bad (by simp [okV, hc]) _ hs2
  | true =>
    simp only [mark_eq, gdOp_same, wp_not, Bool.not_true, wp_pick_f, condW_f]
    unfold D_lapse_Sound_14
    have c1' : decide (x.par < -1) = false := by simp [c1]
    have c2'' : decide ((i : Int) ≤ x.par) = false := by simp [c2]
    have hok : okV l now i x = ((!lkV x || x.hangs (upV l x)) && (!decide (x.err = 2) || overV l now (i + 1) i || (lkV x && decide ((upV l x).err = 2)))) := by
      unfold okV; rw [hc, c1', c2'']; simp
    have ext : ∀ (P : AV → Lg → Prop), P (.b (lkV x)) K3 → (wpOp F (.fad 1) [.p (some (q, 0))] K3 fun v1 L1 => wpOp F (.ld none) [v1] L1 fun v2 L2 => gdOp F v2 true (.fad 0) [.p (some (q, 0))] L2 fun v3 L3 => gdOp F v2 true (.ld none) [v3] L3 fun v4 L4 => gdOp F v2 true (.bin .geq) [v4, (.i .i64 0)] L4 fun v5 L5 => wpOp F .pick [v2, v5, (.b false)] L5 P) := by
      intro P hP
      unfold lkV at hP
      cases h1 : x.link with
      | false => simpa [q1, q0, h1] using hP
      | true => simpa [q1, q0, h1] using hP
    simp only [Env.put_apply, if_true, if_false, reduceIte, Nat.reduceEqDiff]
    refine ext _ ?_
    unfold D_lapse_Sound_15
    simp only [Env.put_apply, if_true, if_false, reduceIte, Nat.reduceEqDiff, e0, e1]
    cases hl : lkV x with
    | false =>
      rw [hl] at hok
      simp only [mark_eq, gdOp_ft, wp_pick_f, condW_f, wp_fad, Nat.zero_add, wp_ld, q2, retL_some, wp_eql]
      by_cases h2 : x.err = 2
      · simp only [h2, decide_true, mark_eq, gdOp_same, wp_mv, wp_call]
        refine (over_spec hf.lapse_over (h.mono hs2) hil now).mono ?_
        rintro _ K4 ⟨rfl, rfl⟩
        cases hov : overV l now (i + 1) i with
        | true =>
          simp [h2]
          exact next (by rw [hok, hov]; simp) _ (by simp [e0]) (by simp [e1]) (by simp [e8]) (by simp [e9]) (by simp [e10])
        | false =>
          simp [h2]
          exact bad (by rw [hok, hov]; simp [h2]) _ hs2
      · simp [h2]
        exact next (by rw [hok]; simp [h2]) _ (by simp [e0]) (by simp [e1]) (by simp [e8]) (by simp [e9]) (by simp [e10])
    | true =>
      rw [hl] at hok
      have hl2 : x.link = true ∧ 0 ≤ x.par := by simpa [lkV] using hl
      obtain ⟨p, hp⟩ := Int.eq_ofNat_of_zero_le hl2.2
      have hpl : p < l.length := by omega
      have hu : l[p]? = some (upV l x) := by unfold upV; rw [hp, Int.toNat_natCast, List.getElem?_eq_getElem hpl]; rfl
      generalize upV l x = up at hu hok
      obtain ⟨b2, o2, r1, r2, _⟩ := h.get (F := F) hu
      have r3 := (r2 K3 hs2).2
      have r4 : rdL K3 (b2, o2 + 2) none = some (.i .i64 up.err) := (r2 K3 hs2).1 2 (by omega)
      simp only [mark_eq, gdOp_same, wp_fad, Nat.zero_add, wp_ld, q6, q0, retL_some, wp_mv, hp, r1, r3, wp_call]
      refine (hangs_spec hf.lapse_View_hangs _ x up).mono ?_
      rintro _ K4 ⟨rfl, rfl⟩
      cases hh : x.hangs up with
      | false =>
        simp
        exact bad (by rw [hok, hh]; simp) _ hs2
      | true =>
        simp only [mark_eq, gdOp_same, wp_not, Bool.not_true, wp_pick_t, condW_f, wp_fad, Nat.zero_add, wp_ld, q2, retL_some, wp_eql]
        by_cases h2 : x.err = 2
        · simp only [h2, decide_true, mark_eq, gdOp_same, wp_mv, wp_call]
          refine (over_spec hf.lapse_over (h.mono hs2) hil now).mono ?_
          rintro _ K4 ⟨rfl, rfl⟩
          cases hov : overV l now (i + 1) i with
          | true =>
            simp [h2]
            exact next (by rw [hok, hov, hh]; simp) _ (by simp [e0]) (by simp [e1]) (by simp [e8]) (by simp [e9]) (by simp [e10])
          | false =>
            by_cases h3 : up.err = 2
            · simp [q0, hp, r1, r4, h3, h2]
              exact next (by rw [hok, hov, hh]; simp [h3]) _ (by simp [e0]) (by simp [e1]) (by simp [e8]) (by simp [e9]) (by simp [e10])
            · simp [q0, hp, r1, r4, h3, h2]
              exact bad (by rw [hok, hov, hh]; simp [h2, h3]) _ hs2
        · simp [h2]
          exact next (by rw [hok, hh]; simp [h2]) _ (by simp [e0]) (by simp [e1]) (by simp [e8]) (by simp [e9]) (by simp [e10])
end Go.AM


/- lapse: Behind; what the document's functions are. -/
set_option linter.unusedVariables false
set_option linter.unusedSimpArgs false
namespace Go.AM
variable {N : Nat → Nat} {F : Nat → Option AFn}
/-! ### they are alike -/
/-- a way up -/
inductive Climb (l : List View) (top : Int) : Nat → List Nat → Prop
  | here (id : Nat) (h : id < l.length) (e : (id : Int) = top) : Climb l top id [id]
  | up (id id' : Nat) (v : View) (p : List Nat) (h : l[id]? = some v) (hl : v.link = true) (hp : v.par = (id' : Int)) (w : Climb l top id' p) : Climb l top id (id :: p)
theorem Climb.lt {l : List View} {top : Int} {id : Nat} {p : List Nat} (h : Climb l top id p) : ∀ x ∈ p, x < l.length := by
  induction h with
  | here id h e => intro x hx; simp at hx; subst hx; exact h
  | up id id' v p h hl hp w ih =>
    intro x hx
    rcases List.mem_cons.1 hx with rfl | hx
    · exact (List.getElem?_eq_some_iff.1 h).1
    · exact ih x hx
end Go.AM


/- lapse: the document's SoundViews; flat. -/
set_option linter.unusedVariables false
set_option linter.unusedSimpArgs false
namespace Go.AM
variable {N : Nat → Nat} {F : Nat → Option AFn}
theorem vcl_cells (x : View) : (AV.agg (vcl x)).cellsOf = some (vcl x) := cellsOf_agg _ rfl
theorem pushv {K : Lg} {v z1 z2 z3 z4 z5 z6 : AV} {l : List View} {x : View} (h : OSl K v (flatc vcl l) l.length 6) (hn : l.length ≤ 1000) {k : AV → Lg → Prop}
    (hk : ∀ (v' : AV) (K1 : Lg), OSl K1 v' (flatc vcl (l ++ [x])) (l.length + 1) 6 → KeepE (slB v) K K1 → (∀ b, slB v' = some b → K b = none) → k v' K1) :
    wpOp F (.bslice [z1, z2, z3, z4, z5, z6] 1 6 [0]) [.agg (vcl x)] K fun s L => wpOp F (.app 6 48) [v, s] L k := by
  rw [wp_bslice, newL_bslice (c := vcl x) _ _ (by simp [reps, fillP, splice, ble_nat, beq_nat, vcl_cells]; rfl) rfl]
  intro b1 hb1
  rw [wp_app]
  have g1 : (K.put b1 (.raw (.cells (vcl x)))) b1 = some (.raw (.cells (vcl x))) := Lg.put_same _ _ _
  have h1 : OSl (K.put b1 (.raw (.cells (vcl x)))) v (flatc vcl l) l.length 6 := h.mono fun b hbb => Lg.put_ne _ _ _ (by rintro rfl; have := h.block hbb; rw [hb1] at this; cases this)
  refine h1.app (m := 1) (by omega) rfl (by omega) (new := vcl x) (by simp [rdCellsL, AB.read, cut, ble_nat, vcl]) rfl rfl (by omega) ?_
  intro b2 K1 g hO
  have f2 : b2 ≠ b1 ∧ K b2 = none := by
    have := g.fresh
    have n1 : b2 ≠ b1 := by rintro rfl; rw [Lg.put_same] at this; cases this
    rw [Lg.put_ne _ _ _ n1] at this
    exact ⟨n1, this⟩
  refine hk _ _ (by rw [flatc_append]; simpa [flatc] using hO) ?_ ?_
  · intro r d hr hne
    have r1 : r ≠ b1 := by rintro rfl; rw [hb1] at hr; cases hr
    have r2 : r ≠ b2 := by rintro rfl; rw [f2.2] at hr; cases hr
    rw [g.same r r2 hne, Lg.put_ne _ _ _ r1]; exact hr
  · intro b hbb; simp [slB] at hbb; subst hbb; exact f2.2
end Go.AM


/- LapseBehind. -/
set_option linter.unusedVariables false
set_option linter.unusedSimpArgs false
namespace Go.AM
variable {N : Nat → Nat} {F : Nat → Option AFn}
/-- a view to start with -/
def v0 : View := ⟨-1, false, 0, 0, 0, false⟩
theorem newv {K : Lg} {z1 z2 z3 z4 z5 z6 : AV} {x : View} {k : AV → Lg → Prop} (hk : ∀ (v' : AV) (K1 : Lg), OSl K1 v' (flatc vcl [x]) 1 6 → KeepE none K K1 → (∀ b, slB v' = some b → K b = none) → k v' K1) : wpOp F (.bslice [z1, z2, z3, z4, z5, z6] 1 6 [0]) [.agg (vcl x)] K k := by
  rw [wp_bslice, newL_bslice (c := vcl x) _ _ (by simp [reps, fillP, splice, ble_nat, beq_nat, vcl_cells]; rfl) rfl]
  intro b1 hb1
  refine hk _ _ (.inr ⟨b1, 0, by omega, rfl, .inl rfl, by rw [Lg.put_same]; simp [flatc], by rfl⟩) ?_ ?_
  · intro r d hr _
    rw [Lg.put_ne]; exact hr
    rintro rfl; rw [hb1] at hr; cases hr
  · intro b hbb; simp [slB] at hbb; subst hbb; exact hb1
theorem soundTo_all {l : List View} {now : Int} : ∀ (n : Nat), (∀ i, i < n → okV l now i (l[i]?.getD default) = true) → soundTo l now n = true
  | 0, _ => rfl
  | n + 1, h => by simp only [soundTo, soundTo_all n (fun i hi => h i (by omega)), h n (by omega), Bool.and_self]
end Go.AM


/- LapseOdd. -/
set_option linter.unusedVariables false
set_option linter.unusedSimpArgs false
namespace Go.AM
variable {N : Nat → Nat} {F : Nat → Option AFn}
/-- append([]T{}, l...) -/
theorem clone_lit {K : Lg} {src : AV} {cs z : List AV} {n size bytes : Nat} (h : OSl K src cs n size) (hn : 0 < n) (hsz : 0 < size) (h1 : cs.all AV.one = true) (hb : n * bytes ≤ 70368744177664) {k : AV → Lg → Prop}
    (hk : ∀ (v' : AV) (K1 : Lg), OSl K1 v' cs n size → KeepE none K K1 → (∀ b, slB v' = some b → K b = none) → k v' K1) :
    wpOp F (.bslice z 0 size []) [] K fun s L => wpOp F (.app size bytes) [s, src] L k := by
  rw [wp_bslice, newL_bslice (c := []) _ _ (by simp [reps, fillP]) rfl]
  intro b1 hb1
  rw [wp_app]
  have h2 : OSl (K.put b1 (.raw (.cells []))) src cs n size := h.mono fun b hbb => Lg.put_ne _ _ _ (by rintro rfl; have := h.block hbb; rw [hb1] at this; cases this)
  have hlen : cs.length = n * size := by
    rcases h with ⟨h1, _, _⟩ | ⟨b', ex, g1, g2, g3, g4, g5⟩
    · omega
    · exact g5
  obtain ⟨a, ex, rfl, hrd, _⟩ := h2.rdAll
  have hg : (K.put b1 (.raw (.cells []))) b1 = some (.raw (.cells [])) := Lg.put_same _ _ _
  refine appW_grow (L' := K.put b1 (.raw (.cells []))) (old := []) hrd h1 (by omega) (by simpa using hb) (by simp [rdCellsL, hg, AB.read, cut, ble_nat]) (by simp [goneL]) ?_
  intro b hbn
  have hne : b ≠ b1 := by rintro rfl; rw [hg] at hbn; cases hbn
  have hbk : K b = none := by rw [Lg.put_ne _ _ _ hne] at hbn; exact hbn
  refine hk _ _ (.inr ⟨b, size, hn, by simp, .inr rfl, by rw [Lg.put_same]; rfl, hlen⟩) ?_ ?_
  · intro r d hr _
    rw [Lg.put_ne, Lg.put_ne]
    · exact hr
    · rintro rfl; rw [hb1] at hr; cases hr
    · rintro rfl; rw [hbk] at hr; cases hr
  · intro q hq; simp [slB] at hq; subst hq; exact hbk
theorem flatc_set1 {α : Type} {f : α → List AV} {k : Nat} (hf : ∀ x, (f x).length = k) : ∀ (l : List α) (i j : Nat) (x x' : α) (a : AV), l[i]? = some x → j < k → f x' = (f x).set j a → (flatc f l).set (i * k + j) a = flatc f (l.set i x')
  | [], i, j, x, x', a, h, _, _ => by simp at h
  | y :: r, 0, j, x, x', a, h, hj, e => by
    simp at h; subst h
    simp only [flatc, Nat.zero_mul, Nat.zero_add, List.set_cons_zero, e]
    rw [List.set_append_left _ _ (by rw [hf]; exact hj)]
  | y :: r, i + 1, j, x, x', a, h, hj, e => by
    simp only [List.getElem?_cons_succ] at h
    simp only [flatc, List.set_cons_succ]
    rw [List.set_append_right _ _ (by rw [hf, Nat.add_mul]; omega), hf, ← flatc_set1 hf r i j x x' a h hj e]
    congr 2
    rw [Nat.add_mul]; omega
/-- a field of a view in a slice of one's own is set -/
theorem OSl.setv {K : Lg} {v a : AV} {l : List View} (h : OSl K v (flatc vcl l) l.length 6) {i j : Nat} {x x' : View} (hx : l[i]? = some x) (hj : j < 6) (ha : a.cellsOf = some [a]) (e : vcl x' = (vcl x).set j a) :
    ∃ b, slB v = some b ∧ (∀ (X : Lg) (k : AV → Lg → Prop), wpOp F (.iad 6) [v, .i .i64 i] X k = k (.p (some (b, i * 6))) X) ∧
    (∀ k : AV → Lg → Prop, k .bad (K.put b (.raw (.cells (flatc vcl (l.set i x'))))) → stL 1 K k [.p (some (b, i * 6 + j)), a]) ∧ OSl (K.put b (.raw (.cells (flatc vcl (l.set i x'))))) v (flatc vcl (l.set i x')) (l.set i x').length 6 := by
  have hi : i < l.length := (List.getElem?_eq_some_iff.1 hx).1
  obtain ⟨b, h1, h2, h3, h4⟩ := h.iad (F := F) (x := (i : Int)) (by omega) (by omega)
  have hs := flatc_set1 (f := vcl) (k := 6) (fun _ => rfl) l i j x x' a hx hj e
  refine ⟨b, h1, fun X k => by simpa using h4 X k .i64, fun k hk => ?_, ?_⟩
  · rw [stL_cell h2 (by rw [h3]; omega) ha, hs]; exact hk
  · rcases h with ⟨e1, _, e3⟩ | ⟨b', ex, g1, g2, g3, g4, g5⟩
    · omega
    · rw [g2] at h1; simp [slB] at h1; subst h1
      refine .inr ⟨b', ex, by rw [List.length_set]; exact g1, by rw [List.length_set]; exact g2, g3, Lg.put_same _ _ _, ?_⟩
      rw [← hs, List.length_set, List.length_set]; exact g5
/-- a row of contexts -/
def rw_ (k : Nat) : View := ⟨(k : Int) - 1, true, 0, 0, 100 - k, true⟩
def rows : Nat → List View
  | 0 => [v0]
  | n + 1 => rows n ++ [rw_ (n + 1)]
theorem rows_len : ∀ n, (rows n).length = n + 1
  | 0 => rfl
  | n + 1 => by simp [rows, rows_len n]
theorem rows_get : ∀ (n k : Nat), k ≤ n → (rows n)[k]? = some (if k = 0 then v0 else rw_ k)
  | 0, k, h => by have : k = 0 := by omega
                  subst this; rfl
  | n + 1, k, h => by
    by_cases hk : k ≤ n
    · rw [rows, List.getElem?_append_left (by rw [rows_len]; omega)]; exact rows_get n k hk
    · have : k = n + 1 := by omega
      subst this
      rw [rows, List.getElem?_append_right (by rw [rows_len]; omega), rows_len]
      simp
theorem overV_false {l : List View} {now : Int} (h : ∀ (k : Nat) (v : View), l[k]? = some v → v.has = true → now < v.dl) : ∀ f id, overV l now f id = false
  | 0, _ => rfl
  | f + 1, id => by
    simp only [overV]
    cases hx : l[id]? with
    | none => rfl
    | some v =>
      simp only [overV_false h f, Bool.and_false, Bool.or_false]
      cases hh : v.has with
      | false => rfl
      | true =>
        have := h id v hx hh
        simp; omega
theorem upV_eq {l : List View} {v u : View} {p : Nat} (h : v.par = (p : Int)) (hu : l[p]? = some u) : upV l v = u := by
  unfold upV; rw [h, Int.toNat_natCast, hu]; rfl
/-- one of a row that is as it was made, below another that has not been done, and has no earlier deadline -/
theorem okV_row {l : List View} {now : Int} {k : Nat} {v : View} (hk : k = 0 ∨ ∃ u, l[k - 1]? = some u ∧ u.err = 0 ∧ (u.has = true → (100 : Int) - k ≤ u.dl)) (hv : v = if k = 0 then v0 else rw_ k) : okV l now k v = true := by
  rcases hk with rfl | ⟨u, hu, h1, h2⟩
  · simp only [if_true] at hv
    subst hv
    simp [okV, v0, View.code, lkV]
  · by_cases h0 : k = 0
    · subst h0
      simp only [if_true] at hv
      subst hv
      simp [okV, v0, View.code, lkV]
    · rw [if_neg h0] at hv
      subst hv
      have hp : (rw_ k).par = ((k - 1 : Nat) : Int) := by simp [rw_]; omega
      have hup := upV_eq (l := l) hp hu
      have hl : lkV (rw_ k) = true := by simp [lkV, rw_]; omega
      have c1 : decide ((rw_ k).par < -1) = false := decide_eq_false (by show ¬ ((k : Int) - 1 < -1); omega)
      have c2 : decide ((k : Int) ≤ (rw_ k).par) = false := decide_eq_false (by show ¬ ((k : Int) ≤ (k : Int) - 1); omega)
      have c3 : (rw_ k).code = true := by simp [View.code, rw_]
      have c4 : (rw_ k).hangs u = true := by
        cases hh : u.has with
        | false => simp [View.hangs, h1, hh]
        | true => simp [View.hangs, h1, hh, rw_]; exact decide_eq_true (h2 hh)
      have c5 : (rw_ k).err = 0 := rfl
      unfold okV
      rw [c1, c2, c3, hup, c4, c5]; simp
theorem rows_sound (n : Nat) (hn : n ≤ 50) (now : Int) : soundV (rows n) now = true := by
  refine soundTo_all _ fun i hi => ?_
  rw [rows_len] at hi
  rw [rows_get n i (by omega), Option.getD_some]
  refine okV_row ?_ rfl
  by_cases h0 : i = 0
  · exact .inl h0
  · refine .inr ⟨_, rows_get n (i - 1) (by omega), ?_, ?_⟩
    · split <;> rfl
    · by_cases h1 : i - 1 = 0
      · rw [if_pos h1]; intro h; cases h
      · rw [if_neg h1]; intro _; show (100 : Int) - i ≤ 100 - ((i - 1 : Nat) : Int); omega
/-- the first of a slice of one's own -/
theorem OSl.upto {K : Lg} {v : AV} {l : List View} (h : OSl K v (flatc vcl l) l.length 6) {k : Nat} (hk : k ≤ l.length) (h0 : 0 < l.length) : ∃ v', slcV 6 false true false [v, .i .i64 k] = some v' ∧ SlR K v' (l.take k) := by
  rcases h with ⟨e1, _, e3⟩ | ⟨b, ex, g1, g2, g3, g4, g5⟩
  · omega
  · have hex : (Nat.beq ex 0 || Nat.beq ex 6) = true := by
      rcases g3 with rfl | rfl <;> rfl
    refine ⟨.sl (some (b, 0)) k l.length ex, ?_, some (b, 0), l.length, ex, by rw [List.length_take, Nat.min_eq_left hk], .inr ⟨b, 0, flatc vcl l, rfl, .inl g4, fun i x hi => ?_⟩⟩
    · rw [g2]
      show slcV 6 false true false [.sl (some (b, 0)) l.length l.length ex, .i .i64 (Int.ofNat k)] = _
      simp [slcV, optIdx, idx, ble_nat, hex, hk]
    · have hx : l[i]? = some x := by
        have hi' : i < k := by have := (List.getElem?_eq_some_iff.1 hi).1; simp at this; omega
        rw [List.getElem?_take_of_lt hi'] at hi; exact hi
      have := flatc_at (f := vcl) (k := 6) (fun _ => rfl) l i x hx
      simpa using ⟨this.2, this.1⟩
theorem sound_bad {l : List View} {now : Int} {i : Nat} {x : View} (hx : l[i]? = some x) (h : okV l now i x = false) : soundV l now = false := soundTo_false hx h _ (List.getElem?_eq_some_iff.1 hx).1
theorem lapseOdd_law {L0 : Lg} (code : F (N k_tarpaulinlaw24_LapseOdd) = some (c_tarpaulinlaw24_LapseOdd N)) (aw : F (N k_tarpaulinlaw24_awake) = some kTrue) (h1 : H_tarpaulinalike_Round N F) (h2 : H_lapse_Sound N F)
    (n at_ kk : Int) : CallL F (N k_tarpaulinlaw24_LapseOdd) [.i .i64 n, .i .i64 at_, .i .i64 kk] L0 fun v _ => v = .b true := by
  refine CallL.opq ?_
  intro Q hQ
  have fin : ∀ L, fin1 (some (.b true)) Q L := fun L => ⟨L, Sees.refl _, hQ _ _ rfl⟩
  have awk : ∀ L, CallL F (N k_tarpaulinlaw24_awake) [] L fun v17 L17 => fin1 (some v17) Q L17 := by
    intro L
    refine (known2_spec aw _).mono ?_
    rintro _ _ ⟨rfl, rfl⟩
    exact fin _
  apply r_tarpaulinlaw24_LapseOdd code
  unfold D_tarpaulinlaw24_LapseOdd_1 D_tarpaulinlaw24_LapseOdd_2
  by_cases g1 : n < 2
  · simpa [initE, g1] using awk _
  by_cases g2 : 20 < n
  · simpa [initE, g1, g2] using awk _
  simp [initE, g1, g2]
  obtain ⟨s, rfl⟩ : ∃ s : Nat, n = (s : Int) + 2 := ⟨(n - 2).toNat, by omega⟩
  have hs18 : s ≤ 18 := by omega
  unfold D_tarpaulinlaw24_LapseOdd_3
  have hfill : fillP [AV.i .i64 0, .b false, .i .i64 0, .i .i64 0, .i .i64 0, .b false] [(0, 1)] [.i .i64 (-1)] = some (vcl v0) := rfl
  simp only [mark_eq, wp_build, hfill, Option.map_some, retL_some]
  refine newv ?_
  intro v7 K1 o1 kp1 fr1
  unfold D_tarpaulinlaw24_LapseOdd_36 D_tarpaulinlaw24_LapseOdd_38
  obtain ⟨I, hI⟩ : ∃ I : Nat → Env → Lg → Prop, I = fun m E K => ∃ i : Nat, m + i = s + 1 ∧ OSl K (E 7) (flatc vcl (rows i)) (i + 1) 6 ∧ E 0 = .i .i64 ((s : Int) + 2) ∧ E 1 = .i .i64 at_ ∧ E 2 = .i .i64 kk ∧ E 8 = .i .i64 ((i : Int) + 1) := ⟨_, rfl⟩
  refine loopW_intro I (s + 1) ?_ ?_
  · rw [hI]; exact ⟨0, by omega, by simpa [rows] using o1, by simp, by simp, by simp, by simp⟩
  clear o1 kp1 fr1
  intro m E t K hi
  rw [hI] at hi
  obtain ⟨i, hm, o, e0, e1, e2, e8⟩ := hi
  unfold D_tarpaulinlaw24_LapseOdd_39
  rw [e0, e8]
  simp only [mark_eq, wp_lss, condW_d]
  refine ⟨fun hlt => ?_, fun hnl => ?_⟩
  · have w1 : wr .i64 ((i : Int) + 1 - 1) = (i : Int) := by rw [wr_id (by omega) (by omega)]; omega
    have w2 : wr .i64 (100 - ((i : Int) + 1)) = 100 - ((i + 1 : Nat) : Int) := by rw [wr_id (by omega) (by omega)]; omega
    have w3 : wr .i64 ((i : Int) + 1 + 1) = ((i + 1 : Nat) : Int) + 1 := by rw [wr_id (by omega) (by omega)]; omega
    have hfill2 : fillP [AV.i .i64 0, .b false, .i .i64 0, .i .i64 0, .i .i64 0, .b false] [(0, 1), (1, 1), (4, 1), (5, 1)] [.i .i64 (i : Int), .b true, .i .i64 (100 - ((i + 1 : Nat) : Int)), .b true] = some (vcl (rw_ (i + 1))) := by
      have : ((i + 1 : Nat) : Int) - 1 = i := by omega
      simp only [rw_, this]; rfl
    simp only [mark_eq, wp_sub, w1, w2, wp_build, hfill2, Option.map_some, retL_some]
    have hrl := rows_len i
    refine pushv (l := rows i) (by rw [hrl]; exact o) (by omega) ?_
    intro v' K3 o3 kp3 fr3
    simp only [mark_eq, wp_add, w3]
    rw [hI]
    refine ⟨m - 1, by omega, i + 1, by omega, ?_, by simp [e0], by simp [e1], by simp [e2], by simp⟩
    rw [rows]; rw [hrl] at o3; simpa using o3
  have hin : i = s + 1 := by omega
  subst hin
  clear hI hnl hm I e8
  unfold D_tarpaulinlaw24_LapseOdd_5
  rw [e0, e1]
  have w1 : wr .i64 ((s : Int) + 2 - 1) = (s : Int) + 1 := by rw [wr_id (by omega) (by omega)]; omega
  simp only [mark_eq, wp_sub, w1]
  refine (round_spec h1 at_ ((s : Int) + 1) (by omega) (by omega) _).mono ?_
  rintro _ K' ⟨rfl, rfl⟩
  obtain ⟨j, hj⟩ := Int.eq_ofNat_of_zero_le (Int.emod_nonneg at_ (by omega : ((s : Int) + 1) ≠ 0))
  have hj1 := Int.emod_lt_of_pos at_ (by omega : (0 : Int) < (s : Int) + 1)
  rw [hj] at hj1 ⊢
  have w2 : wr .i64 (1 + (j : Int)) = ((j + 1 : Nat) : Int) := by rw [wr_id (by omega) (by omega)]; omega
  simp only [mark_eq, wp_add, w2]
  have hjs : j ≤ s := by omega
  unfold D_tarpaulinlaw24_LapseOdd_6
  simp only [Env.put_apply, if_true, if_false, reduceIte, Nat.reduceEqDiff]
  generalize hB : rows (s + 1) = B at o
  have hBl : B.length = s + 2 := by rw [← hB, rows_len]
  have hBg : ∀ k, k ≤ s + 1 → B[k]? = some (if k = 0 then v0 else rw_ k) := by rw [← hB]; exact fun k => rows_get (s + 1) k
  have hBs : ∀ now, soundV B now = true := by rw [← hB]; exact rows_sound (s + 1) (by omega)
  clear hB
  refine clone_lit o (by omega) (by omega) (flatc_one (fun _ => rfl) _) (by omega) ?_
  intro v10 K2 o10 kp2 fr2
  have o7 := kp2.osl o (fun b _ h => by cases h)
  have hne : ∀ b, slB v10 = some b → slB (E 7) ≠ some b := by
    intro b hb h9
    have := o.block h9
    rw [fr2 b hb] at this; cases this
  clear kp2 fr2 o
  have e11 : s + 1 + 1 = B.length := by omega
  rw [e11] at o7 o10
  -- whatever is made of the other row: it can't be
  have say : ∀ (Kx : Lg) (O : List View), OSl Kx (E 7) (flatc vcl B) B.length 6 → OSl Kx v10 (flatc vcl O) O.length 6 → O.length ≤ 100 → soundV O 50 = false → D_tarpaulinlaw24_LapseOdd_9 F N Q (E 7) v10 (.b true) Kx := by
    intro Kx O a7 a10 hO hbad
    unfold D_tarpaulinlaw24_LapseOdd_9
    refine (sound_spec h2 (SlR.of_own a7) (by omega) 50).mono ?_
    rintro _ K3 ⟨rfl, rfl⟩
    rw [hBs]
    simp only [mark_eq, gdOp_same, wp_mv, wp_call]
    refine (sound_spec h2 (SlR.of_own a10) (by omega) 50).mono ?_
    rintro _ K4 ⟨rfl, rfl⟩
    rw [hbad]
    simp
    refine (known2_spec aw _).mono ?_
    rintro _ _ ⟨rfl, rfl⟩
    simpa using fin _
  unfold D_tarpaulinlaw24_LapseOdd_7 D_tarpaulinlaw24_LapseOdd_10
  simp only [Env.put_apply, if_true, if_false, reduceIte, Nat.reduceEqDiff, e2]
  refine (round_spec h1 kk 6 (by omega) (by omega) _).mono ?_
  rintro _ K3 ⟨rfl, rfl⟩
  have hk0 := Int.emod_nonneg kk (by omega : (6 : Int) ≠ 0)
  have hk1 := Int.emod_lt_of_pos kk (by omega : (0 : Int) < 6)
  generalize kk % 6 = k at hk0 hk1
  have wj : wr .i64 (((j + 1 : Nat) : Int) - 1) = (j : Int) := by rw [wr_id (by omega) (by omega)]; omega
  have wn : wr .i64 ((s : Int) + 2 - 1) = ((s + 1 : Nat) : Int) := by rw [wr_id (by omega) (by omega)]; omega
  have keep7 : ∀ (Kx : Lg) (O O' : List View) (b : Nat), OSl Kx (E 7) (flatc vcl B) B.length 6 → slB v10 = some b → OSl (Kx.put b (.raw (.cells (flatc vcl O')))) (E 7) (flatc vcl B) B.length 6 := by
    intro Kx O O' b hx hb
    exact hx.mono fun q hq => Lg.put_ne _ _ _ (by rintro rfl; exact hne q hb hq)
  have hBj := hBg j (by omega)
  have hBi := hBg (j + 1) (by omega)
  rw [if_neg (by omega)] at hBi
  have hrl : lkV (rw_ (j + 1)) = true := by simp [lkV, rw_]
  have hrp : (rw_ (j + 1)).par = (j : Int) := by simp [rw_]
  unfold D_tarpaulinlaw24_LapseOdd_12 D_tarpaulinlaw24_LapseOdd_13
  simp only [Env.put_apply, if_true, if_false, reduceIte, Nat.reduceEqDiff, mark_eq, wp_eql, condW_d]
  refine ⟨fun c0 => ?_, fun c0 => ?_⟩
  · unfold D_tarpaulinlaw24_LapseOdd_14
    generalize (if j = 0 then v0 else rw_ j) = u at hBj
    obtain ⟨b, q1, q2, q3, q4⟩ := o10.setv (F := F) (j := 2) (a := .i .i64 1) (x' := { u with err := 1 }) hBj (by omega) rfl rfl
    have g5 := keep7 _ B (B.set j { u with err := 1 }) b o7 q1
    obtain ⟨b', r1, r2, r3, r4⟩ := q4.setv (F := F) (i := j) (j := 3) (a := .i .i64 1) (x := { u with err := 1 }) (x' := { u with err := 1, cause := 1 }) (by rw [List.getElem?_set_self (by omega)]) (by omega) rfl rfl
    have g6 := keep7 _ B ((B.set j { u with err := 1 }).set j { u with err := 1, cause := 1 }) b' g5 r1
    simp only [mark_eq, wp_sub, wj, q2, wp_fad, wp_st]
    refine q3 _ ?_
    simp only [mark_eq, wj, r2, wp_fad, wp_st]
    refine r3 _ ?_
    refine say _ _ g6 r4 (by simp [hBl]; omega) ?_
    refine sound_bad (i := j + 1) (x := rw_ (j + 1)) (by rw [List.getElem?_set_ne (by omega), List.getElem?_set_ne (by omega)]; exact hBi) ?_
    have hup : upV ((B.set j { u with err := 1 }).set j { u with err := 1, cause := 1 }) (rw_ (j + 1)) = { u with err := 1, cause := 1 } := upV_eq hrp (by rw [List.getElem?_set_self (by simp; omega)])
    unfold okV
    rw [hup, hrl]
    have : (rw_ (j + 1)).err = 0 := rfl
    simp [View.hangs, this]
  unfold D_tarpaulinlaw24_LapseOdd_15 D_tarpaulinlaw24_LapseOdd_16
  simp only [Env.put_apply, if_true, if_false, reduceIte, Nat.reduceEqDiff, mark_eq, wp_eql, condW_d]
  refine ⟨fun c1 => ?_, fun c1 => ?_⟩
  · unfold D_tarpaulinlaw24_LapseOdd_17
    obtain ⟨b, q1, q2, q3, q4⟩ := o10.setv (F := F) (j := 3) (a := .i .i64 4) (x' := { rw_ (j + 1) with cause := 4 }) hBi (by omega) rfl rfl
    have g5 := keep7 _ B (B.set (j + 1) { rw_ (j + 1) with cause := 4 }) b o7 q1
    simp only [mark_eq, q2, wp_fad, wp_st]
    refine q3 _ ?_
    refine say _ _ g5 q4 (by simp [hBl]; omega) ?_
    refine sound_bad (i := j + 1) (x := { rw_ (j + 1) with cause := 4 }) (by rw [List.getElem?_set_self (by omega)]) ?_
    simp [okV, View.code, rw_]
  unfold D_tarpaulinlaw24_LapseOdd_18 D_tarpaulinlaw24_LapseOdd_19
  simp only [Env.put_apply, if_true, if_false, reduceIte, Nat.reduceEqDiff, mark_eq, wp_eql, condW_d]
  refine ⟨fun c2 => ?_, fun c2 => ?_⟩
  · unfold D_tarpaulinlaw24_LapseOdd_20
    simp only [mark_eq, wp_lss, condW_d]
    refine ⟨fun _ => ?_, fun hj2 => ?_⟩
    · exact awk _
    have hj0 : j ≠ 0 := by omega
    rw [if_neg hj0] at hBj
    obtain ⟨b, q1, q2, q3, q4⟩ := o10.setv (F := F) (j := 4) (a := .i .i64 200) (x' := { rw_ (j + 1) with dl := 200 }) hBi (by omega) rfl rfl
    have g5 := keep7 _ B (B.set (j + 1) { rw_ (j + 1) with dl := 200 }) b o7 q1
    simp only [mark_eq, q2, wp_fad, wp_st]
    refine q3 _ ?_
    refine say _ _ g5 q4 (by simp [hBl]; omega) ?_
    refine sound_bad (i := j + 1) (x := { rw_ (j + 1) with dl := 200 }) (by rw [List.getElem?_set_self (by omega)]) ?_
    have hup : upV (B.set (j + 1) { rw_ (j + 1) with dl := 200 }) { rw_ (j + 1) with dl := 200 } = rw_ j := upV_eq hrp (by rw [List.getElem?_set_ne (by omega)]; exact hBj)
    have hrl' : lkV { rw_ (j + 1) with dl := 200 } = true := hrl
    have hd : ¬ ((200 : Int) ≤ 100 - (j : Int)) := by omega
    unfold okV
    rw [hup, hrl']
    simp [View.hangs, rw_, hd]
  unfold D_tarpaulinlaw24_LapseOdd_21 D_tarpaulinlaw24_LapseOdd_22
  simp only [Env.put_apply, if_true, if_false, reduceIte, Nat.reduceEqDiff, mark_eq, wp_eql, condW_d]
  refine ⟨fun c3 => ?_, fun c3 => ?_⟩
  · unfold D_tarpaulinlaw24_LapseOdd_23
    have hBn := hBg (s + 1) (by omega)
    rw [if_neg (by omega)] at hBn
    have hBm := hBg s (by omega)
    obtain ⟨b, q1, q2, q3, q4⟩ := o10.setv (F := F) (j := 2) (a := .i .i64 2) (x' := { rw_ (s + 1) with err := 2 }) hBn (by omega) rfl rfl
    have g5 := keep7 _ B (B.set (s + 1) { rw_ (s + 1) with err := 2 }) b o7 q1
    obtain ⟨b', r1, r2, r3, r4⟩ := q4.setv (F := F) (i := s + 1) (j := 3) (a := .i .i64 2) (x := { rw_ (s + 1) with err := 2 }) (x' := { rw_ (s + 1) with err := 2, cause := 2 }) (by rw [List.getElem?_set_self (by omega)]) (by omega) rfl rfl
    have g6 := keep7 _ B ((B.set (s + 1) { rw_ (s + 1) with err := 2 }).set (s + 1) { rw_ (s + 1) with err := 2, cause := 2 }) b' g5 r1
    simp only [mark_eq, e0, wp_sub, wn, q2, wp_fad, wp_st]
    refine q3 _ ?_
    simp only [mark_eq, wn, r2, wp_fad, wp_st]
    refine r3 _ ?_
    refine say _ _ g6 r4 (by simp [hBl]; omega) ?_
    have hset : (B.set (s + 1) { rw_ (s + 1) with err := 2 }).set (s + 1) { rw_ (s + 1) with err := 2, cause := 2 } = B.set (s + 1) { rw_ (s + 1) with err := 2, cause := 2 } := List.set_set ..
    rw [hset]
    refine sound_bad (i := s + 1) (x := { rw_ (s + 1) with err := 2, cause := 2 }) (by rw [List.getElem?_set_self (by omega)]) ?_
    have hov : overV (B.set (s + 1) { rw_ (s + 1) with err := 2, cause := 2 }) 50 (s + 1 + 1) (s + 1) = false := by
      refine overV_false (fun k v hv hh => ?_) _ _
      have hkl : k < s + 2 := by have := (List.getElem?_eq_some_iff.1 hv).1; simp [hBl] at this; exact this
      by_cases hk : k = s + 1
      · subst hk
        rw [List.getElem?_set_self (by omega)] at hv
        cases hv
        show (50 : Int) < 100 - ((s + 1 : Nat) : Int)
        omega
      · rw [List.getElem?_set_ne (fun h => hk h.symm), hBg k (by omega)] at hv
        cases hv
        by_cases h0 : k = 0
        · rw [if_pos h0] at hh; cases hh
        · rw [if_neg h0]
          show (50 : Int) < 100 - (k : Int)
          omega
    have hup : upV (B.set (s + 1) { rw_ (s + 1) with err := 2, cause := 2 }) { rw_ (s + 1) with err := 2, cause := 2 } = if s = 0 then v0 else rw_ s := upV_eq (p := s) (by simp [rw_]) (by rw [List.getElem?_set_ne (by omega)]; exact hBm)
    unfold okV
    rw [hup, hov]
    have : (if s = 0 then v0 else rw_ s).err = 0 := by split <;> rfl
    simp [this]
  unfold D_tarpaulinlaw24_LapseOdd_24 D_tarpaulinlaw24_LapseOdd_25
  simp only [Env.put_apply, if_true, if_false, reduceIte, Nat.reduceEqDiff, mark_eq, wp_eql, condW_d]
  refine ⟨fun c4 => ?_, fun c4 => ?_⟩
  · unfold D_tarpaulinlaw24_LapseOdd_26
    obtain ⟨b, q1, q2, q3, q4⟩ := o10.setv (F := F) (j := 0) (a := .i .i64 ((j + 1 : Nat) : Int)) (x' := { rw_ (j + 1) with par := ((j + 1 : Nat) : Int) }) hBi (by omega) rfl rfl
    have g5 := keep7 _ B (B.set (j + 1) { rw_ (j + 1) with par := ((j + 1 : Nat) : Int) }) b o7 q1
    simp only [mark_eq, q2, wp_fad, wp_st]
    refine q3 _ ?_
    refine say _ _ g5 q4 (by simp [hBl]; omega) ?_
    refine sound_bad (i := j + 1) (x := { rw_ (j + 1) with par := ((j + 1 : Nat) : Int) }) (by rw [List.getElem?_set_self (by omega)]) ?_
    simp [okV]
  unfold D_tarpaulinlaw24_LapseOdd_27 D_tarpaulinlaw24_LapseOdd_28
  simp only [Env.put_apply, if_true, if_false, reduceIte, Nat.reduceEqDiff, mark_eq, wp_eql, condW_d]
  refine ⟨fun c5 => ?_, fun c5 => by omega⟩
  unfold D_tarpaulinlaw24_LapseOdd_31 D_tarpaulinlaw24_LapseOdd_33
  obtain ⟨J, hJ⟩ : ∃ J : Nat → Env → Lg → Prop, J = fun m E' K' => ∃ (t : Nat) (O : List View), m + t = s + 2 ∧ j + 1 ≤ t ∧ O.length = s + 2 ∧ (∀ k, k ≤ s + 1 → O[k]? = some (if j + 1 ≤ k ∧ k < t then { rw_ k with err := 2, cause := 2 } else if k = 0 then v0 else rw_ k)) ∧ OSl K' v10 (flatc vcl O) O.length 6 ∧ E' 0 = .i .i64 ((s : Int) + 2) ∧ E' 9 = .i .i64 ((j + 1 : Nat) : Int) ∧ E' 10 = v10 ∧ E' 12 = .i .i64 t := ⟨_, rfl⟩
  refine loopW_intro J (s + 1 - j) ?_ ?_
  · rw [hJ]
    refine ⟨j + 1, B, by omega, Nat.le_refl _, hBl, fun k hk => ?_, o10, by simp [e0], by simp, by simp, by simp⟩
    rw [if_neg (by omega)]; exact hBg k hk
  clear say keep7 hBj hBi hne o7 o10 hBs hBg hBl
  intro m E' t' K' hj'
  rw [hJ] at hj'
  obtain ⟨t, O, hm, ht, hOl, hOg, oo, y0, y9, y10, y12⟩ := hj'
  unfold D_tarpaulinlaw24_LapseOdd_34
  rw [y0, y12, y10]
  simp only [mark_eq, wp_lss, condW_d]
  refine ⟨fun hlt => ?_, fun hnl => ?_⟩
  · have hOt := hOg t (by omega)
    rw [if_neg (by omega), if_neg (by omega)] at hOt
    obtain ⟨b, q1, q2, q3, q4⟩ := oo.setv (F := F) (j := 2) (a := .i .i64 2) (x' := { rw_ t with err := 2 }) hOt (by omega) rfl rfl
    obtain ⟨b', r1, r2, r3, r4⟩ := q4.setv (F := F) (i := t) (j := 3) (a := .i .i64 2) (x := { rw_ t with err := 2 }) (x' := { rw_ t with err := 2, cause := 2 }) (by rw [List.getElem?_set_self (by omega)]) (by omega) rfl rfl
    have w1 : wr .i64 ((t : Int) + 1) = ((t + 1 : Nat) : Int) := by rw [wr_id (by omega) (by omega)]; omega
    simp only [mark_eq, q2, wp_fad, wp_st]
    refine q3 _ ?_
    simp only [mark_eq, r2, wp_fad, wp_st]
    refine r3 _ ?_
    simp only [mark_eq, wp_add, w1]
    rw [hJ]
    refine ⟨m - 1, by omega, t + 1, (O.set t { rw_ t with err := 2 }).set t { rw_ t with err := 2, cause := 2 }, by omega, by omega, by simp [hOl], fun k hk => ?_, r4, by simp [y0], by simp [y9], by simp [y10], by simp⟩
    by_cases hkt : k = t
    · subst hkt
      rw [List.getElem?_set_self (by simp; omega), if_pos ⟨ht, by omega⟩]
    · rw [List.getElem?_set_ne (fun h => hkt h.symm), List.getElem?_set_ne (fun h => hkt h.symm), hOg k hk]
      have : (j + 1 ≤ k ∧ k < t + 1) ↔ (j + 1 ≤ k ∧ k < t) := by omega
      simp only [this]
  have htn : t = s + 2 := by omega
  subst htn
  clear hJ hm ht hnl J
  have hOg' : ∀ k, k ≤ s + 1 → O[k]? = some (if j + 1 ≤ k then { rw_ k with err := 2, cause := 2 } else if k = 0 then v0 else rw_ k) := by
    intro k hk
    rw [hOg k hk]
    have : (j + 1 ≤ k ∧ k < s + 2) ↔ j + 1 ≤ k := by omega
    simp only [this]
  clear hOg
  -- each is over in its time
  have good : soundV O (100 - ((j + 1 : Nat) : Int)) = true := by
    refine soundTo_all _ fun i hi => ?_
    rw [hOl] at hi
    rw [hOg' i (by omega), Option.getD_some]
    by_cases h0 : i = 0
    · rw [if_neg (by omega)]
      exact okV_row (.inl h0) rfl
    have hu := hOg' (i - 1) (by omega)
    have dl1 : (if j + 1 ≤ i - 1 then { rw_ (i - 1) with err := 2, cause := 2 } else if i - 1 = 0 then v0 else rw_ (i - 1)).has = true → (100 : Int) - i ≤ (if j + 1 ≤ i - 1 then { rw_ (i - 1) with err := 2, cause := 2 } else if i - 1 = 0 then v0 else rw_ (i - 1)).dl := by
      split
      · intro _; show (100 : Int) - i ≤ 100 - ((i - 1 : Nat) : Int); omega
      · split
        · intro h; cases h
        · intro _; show (100 : Int) - i ≤ 100 - ((i - 1 : Nat) : Int); omega
    by_cases h2 : j + 1 ≤ i
    · rw [if_pos h2]
      have hov : overV O (100 - ((j + 1 : Nat) : Int)) (i + 1) i = true := by
        simp only [overV]
        rw [hOg' i (by omega), if_pos h2]
        have : decide ((rw_ i).dl ≤ 100 - ((j + 1 : Nat) : Int)) = true := decide_eq_true (by show (100 : Int) - i ≤ _; omega)
        simp only [this]
        rfl
      have hp : ({ rw_ i with err := 2, cause := 2 } : View).par = ((i - 1 : Nat) : Int) := by show (i : Int) - 1 = _; omega
      have hup := upV_eq (l := O) hp hu
      generalize (if j + 1 ≤ i - 1 then ({ rw_ (i - 1) with err := 2, cause := 2 } : View) else if i - 1 = 0 then v0 else rw_ (i - 1)) = u at hup dl1
      have c1 : decide (({ rw_ i with err := 2, cause := 2 } : View).par < -1) = false := decide_eq_false (by show ¬ ((i : Int) - 1 < -1); omega)
      have c2 : decide ((i : Int) ≤ ({ rw_ i with err := 2, cause := 2 } : View).par) = false := decide_eq_false (by show ¬ ((i : Int) ≤ (i : Int) - 1); omega)
      have c3 : ({ rw_ i with err := 2, cause := 2 } : View).code = true := rfl
      have c4 : ({ rw_ i with err := 2, cause := 2 } : View).hangs u = true := by
        cases hh : u.has with
        | false => simp [View.hangs, hh]
        | true => simp [View.hangs, hh, rw_]; exact decide_eq_true (dl1 hh)
      unfold okV
      rw [c1, c2, c3, hup, c4, hov]
      simp
    · rw [if_neg h2]
      refine okV_row (.inr ⟨_, hu, ?_, dl1⟩) rfl
      rw [if_neg (by omega)]
      split <;> rfl
  -- not ahead of it
  have evil : soundV (O.take (j + 2)) (99 - ((j + 1 : Nat) : Int)) = false := by
    have hx : (O.take (j + 2))[j + 1]? = some { rw_ (j + 1) with err := 2, cause := 2 } := by
      rw [List.getElem?_take_of_lt (by omega), hOg' (j + 1) (by omega), if_pos (Nat.le_refl _)]
    refine sound_bad hx ?_
    have hov : overV (O.take (j + 2)) (99 - ((j + 1 : Nat) : Int)) (j + 1 + 1) (j + 1) = false := by
      refine overV_false (fun k v hv hh => ?_) _ _
      have hkl : k < j + 2 := by have := (List.getElem?_eq_some_iff.1 hv).1; simp at this; omega
      rw [List.getElem?_take_of_lt hkl, hOg' k (by omega)] at hv
      cases hv
      split
      · show (99 : Int) - ((j + 1 : Nat) : Int) < 100 - (k : Int); omega
      · rename_i h3
        rw [if_neg h3] at hh
        split
        · rename_i h4; rw [if_pos h4] at hh; cases hh
        · show (99 : Int) - ((j + 1 : Nat) : Int) < 100 - (k : Int); omega
    have hup : upV (O.take (j + 2)) { rw_ (j + 1) with err := 2, cause := 2 } = if j = 0 then v0 else rw_ j := upV_eq (p := j) (by simp [rw_]) (by rw [List.getElem?_take_of_lt (by omega), hOg' j (by omega), if_neg (by omega)])
    unfold okV
    rw [hup, hov]
    have : (if j = 0 then v0 else rw_ j).err = 0 := by split <;> rfl
    simp [this]
  unfold D_tarpaulinlaw24_LapseOdd_30
  rw [y9]
  have w100 : wr .i64 (100 - ((j + 1 : Nat) : Int)) = 100 - ((j + 1 : Nat) : Int) := wr_id (by omega) (by omega)
  have w99 : wr .i64 (99 - ((j + 1 : Nat) : Int)) = 99 - ((j + 1 : Nat) : Int) := wr_id (by omega) (by omega)
  have wj2 : wr .i64 (((j + 1 : Nat) : Int) + 1) = ((j + 2 : Nat) : Int) := by rw [wr_id (by omega) (by omega)]; omega
  simp only [mark_eq, wp_sub, w100]
  refine (sound_spec h2 (SlR.of_own oo) (by omega) _).mono ?_
  rintro _ K4 ⟨rfl, rfl⟩
  rw [good]
  obtain ⟨v6, u1, u2⟩ := oo.upto (k := j + 2) (by omega) (by omega)
  simp only [mark_eq, gdOp_same, wp_mv, wp_add, wj2, wp_slc, u1, retL_some, wp_sub, w99, wp_call]
  refine (sound_spec h2 u2 (by simp; omega) _).mono ?_
  rintro _ K5 ⟨rfl, rfl⟩
  rw [evil]
  simp
  refine (known2_spec aw _).mono ?_
  rintro _ _ ⟨rfl, rfl⟩
  simpa using fin _
end Go.AM

