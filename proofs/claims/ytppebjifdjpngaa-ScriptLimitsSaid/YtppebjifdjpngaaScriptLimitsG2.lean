/- The texts LgR, LibSlice, LibSignal, LgT, LgO, LibEnd, LibEndB, LibEndC, LibTree, LibTreeB, LibTreeC, LibCtxA, LibCtxB, LibCtxC, LibCtxD, LibCtxE, LibCtxF, LibCtxG, LibCtxH, LibCtxI, LibCtxJ, LibCtxK, LibCtxL, LibCtxM, LibCtxN, LibCtxO, LibCtxP, LibLaw, GenE, LibLapseA, GenF, LibScriptA, LibScriptB, LibScriptC, LibScriptD, LibLapseD, LibScriptE, LibScriptF, LawScriptBack, LawScriptJoins, LawScriptOdd, LawScriptLimits of a proof of ScriptLimits, merged. -/
import Derived.Test.YtppebjifdjpngaaScriptLimitsG1
import Derived.ChangeSlices
import Derived.WideShapes
import Derived.ChangeOld
import Derived.Carry
import Derived.ChangeArms
import Derived.KernelRfl
/- a row's arguments: slices that are read only. -/
set_option linter.unusedVariables false
namespace Go.AM
open Go.RowKit

/-- what stands for the arguments' memory -/
structure AR (W : World) (S : St) (β : Bt) (L : Lg) : Prop where
  mod : Mod S L
  rel : Rel β W.heap.size S.h W
  wf : S.wf
  free : ∀ k, S.nx ≤ k → β k = none
theorem AR.nil (W : World) : AR W ⟨.nil, 0⟩ (fun _ => none) Lg.nil := ⟨mod_nil 0, rel_nil W, wf_nil 0, fun _ _ => rfl⟩
def Bt.put (β : Bt) (n : Nat) (x : Nat × Nat × Nat) : Bt := fun m => if m = n then some x else β m
theorem AR.ext {W : World} {S : St} {β : Bt} {L : Lg} (h : AR W S β L) (x : Nat × Nat × Nat) : Ext β (Bt.put β S.nx x) := by
  intro n y e
  unfold Bt.put
  split
  · rename_i h9; subst h9; rw [h.free _ (Nat.le_refl _)] at e; cases e
  · exact e
theorem AR.slice {W : World} {S : St} {β : Bt} {L : Lg} (h : AR W S β L) {b off : Nat} {c : List AV} {cur t fr} (hb : W.heap[b]? = some (.cells cur t fr)) (hc : CellsR β c off cur) :
    AR W ⟨S.h.set S.nx (some (.ro c)), S.nx + 1⟩ (Bt.put β S.nx (b, off, 0)) (L.put S.nx (.raw (.ro c))) := by
  have he := h.ext (b, off, 0)
  have hlt : b < W.heap.size := (Array.getElem?_eq_some_iff.1 hb).1
  refine ⟨h.mod.new _, ⟨?_, ?_, ?_, h.rel.le⟩, ?_, ?_⟩
  · intro n bl b' o z hg hn
    rw [PM.get_set] at hg
    unfold Bt.put at hn
    split at hg
    · rename_i h9
      rw [if_pos h9] at hn
      cases hg; cases hn
      exact ⟨cur, t, fr, hb, hc.mono he⟩
    · rename_i h9
      rw [if_neg h9] at hn
      exact (h.rel.blk n bl b' o z hg hn).mono he
  · intro n m bl bm b' x y hg hm ho hn hm2
    rw [PM.get_set] at hg hm
    unfold Bt.put at hn hm2
    split at hg
    · cases hg; simp [AB.own] at ho
    · rename_i h9
      rw [if_neg h9] at hn
      have hbase := (h.rel.blk n bl b' x.1 x.2 hg hn).le ho
      split at hm
      · rename_i h8
        rw [if_pos h8] at hm2
        simp only [Option.some.injEq, Prod.mk.injEq] at hm2
        have := hm2.1
        have h3 := h.rel.lt n b' x hn
        have h4 := h.rel.le
        omega
      · rename_i h8
        rw [if_neg h8] at hm2
        exact h.rel.inj n m bl bm b' x y hg hm ho hn hm2
  · intro n b' x hn
    unfold Bt.put at hn
    split at hn
    · cases hn; exact hlt
    · exact h.rel.lt n b' x hn
  · intro n bl hg
    rw [PM.get_set] at hg
    split at hg
    · rename_i h9; subst h9; exact Nat.lt_succ_self _
    · exact Nat.lt_succ_of_lt (h.wf n bl hg)
  · intro k hk
    have h9 : k ≠ S.nx := by have : S.nx + 1 ≤ k := hk; omega
    unfold Bt.put
    rw [if_neg h9]
    exact h.free k (by have : S.nx + 1 ≤ k := hk; omega)
/-- a call that answers true, at a row's arguments -/
theorem AR.calls {W : World} {S : St} {β : Bt} {L : Lg} (h : AR W S β L) {P : Program} {F : Nat → Option AFn} (hm : P.follows .mixedOrders = true) (hF : TblOk P F) {f : Nat} {vs : List AV} {as : Array Value} (hv : VRs β vs as.toList)
    (hc : CallL F f vs L fun v _ => v = .b true) : Calls P f as W fun e w' => e = .returned (.bool true) ∧ Below W.heap.size W w' := by
  obtain ⟨n, v, S', h1, L', h2, rfl⟩ := hc S h.mod
  exact calls_true hm hF h1 h.wf hv h.rel (fun k h3 _ => h.free k h3)
/-- a slice's stand-in -/
def ArgSl (L : Lg) (v : AV) (cs : List AV) (n size : Nat) : Prop := cs.length = n * size ∧ ((n = 0 ∧ v = .sl none 0 0 0) ∨ ∃ b cap, v = .sl (some (b, 0)) n cap 0 ∧ L b = some (.raw (.ro cs)))
theorem ArgSl.len {F : Nat → Option AFn} {L : Lg} {a : AV} {cs : List AV} {n size : Nat} (h : ArgSl L a cs n size) (M : Lg) (k : AV → Lg → Prop) : wpOp F .lenSl [a] M k = k (.i .i64 n) M := by
  obtain ⟨_, ⟨rfl, rfl⟩ | ⟨b, cap, rfl, _⟩⟩ := h
  · simp
  · simp
theorem ArgSl.get {L : Lg} {a : AV} {cs : List AV} {n size : Nat} (h : ArgSl L a cs n size) {i : Nat} (hi : i < n) : ∃ b cap, a = .sl (some (b, 0)) n cap 0 ∧ L b = some (.raw (.ro cs)) := by
  obtain ⟨_, ⟨rfl, rfl⟩ | ⟨b, cap, rfl, e⟩⟩ := h
  · omega
  · exact ⟨b, cap, rfl, e⟩
theorem ArgSl.ext {L L' : Lg} {v : AV} {cs : List AV} {n size : Nat} (h : ArgSl L v cs n size) (e : Ext2 L L') : ArgSl L' v cs n size := by
  obtain ⟨h1, h2 | ⟨b, cap, h2, h3⟩⟩ := h
  · exact ⟨h1, .inl h2⟩
  · exact ⟨h1, .inr ⟨b, cap, h2, e b _ h3⟩⟩
def icl (l : List Int) : List AV := l.map fun n => .i .i64 n
/-- a slice of numbers among the arguments -/
theorem AR.ints {H : Type} {enc : TypeId × Value → H} {P : Program} {W : World} {S : St} {β : Bt} {L : Lg} (h : AR W S β L) {t e : TypeId} {v : Value} {d : DataW H} {ps : List MemPlace} (ht : P.underlying t = some (.slice e)) (he : P.underlying e = some (.int .i64)) (hc : P.cellsOf e = 1)
    {base : Nat} (hval : Value.okWide P W .any base t v) (hd : DataW.Trod enc P W 0 (fun _ => true) true t v d ps) :
    ∃ (l : List Int) (S' : St) (β' : Bt) (L' : Lg) (a : AV), AR W S' β' L' ∧ Ext β β' ∧ Ext2 L L' ∧ VR β' a v ∧ ArgSl L' a (icl l) l.length 1 := by
  obtain ⟨a0, len, cap, rfl⟩ := Go.WideShapes.okWide_slice ht hval
  obtain ⟨fuel, hf⟩ := hd
  have hf : DataW.trod enc P W 0 (fun _ => true) true fuel t [.slice a0 len cap] = some (d, ps) := hf
  rcases Go.ChangeShapes.open_ints ht he hc hf with ⟨h0, _⟩ | ⟨a, len', cap', zs, h0, hb, hl, hm, hz, _, hcell, hw⟩
  · cases h0
    exact ⟨[], S, β, L, _, h, Ext.refl β, Ext2.refl L, .sln, by simp [icl], .inl ⟨rfl, rfl⟩⟩
  · cases h0
    have hok : Cell.ok P W .any base t (.slice (some a) len cap) := by
      simp only [Value.okWide, ht, Cell.okWide] at hval
      exact hval
    simp only [Cell.ok, ht] at hok
    obtain ⟨_, _, _, hsp, row, cells, hsh, _⟩ := hok
    obtain ⟨ab, aoff, asp⟩ := a
    simp only at hsp
    subst hsp
    have hsh' : ∃ cur t fr, W.heap[ab]? = some (.cells cur t fr) := by
      unfold World.shape? at hsh
      split at hsh
      · rename_i cur el fr hh; exact ⟨_, _, _, hh⟩
      · cases hsh
    obtain ⟨cur, tt, fr, hh⟩ := hsh'
    have hzl : zs.length = cap := by simpa using hz
    have hcr : CellsR β (icl (zs.take len)) aoff cur := by
      intro i x hx
      unfold icl at hx
      rw [List.getElem?_map] at hx
      simp only [Option.map_eq_some_iff] at hx
      obtain ⟨n, hn, rfl⟩ := hx
      have hi : i < zs.length := by
        have := (List.getElem?_eq_some_iff.1 hn).1
        simp at this; omega
      have := hcell i hi
      refine ⟨.int .i64 n, ?_, .i _ _⟩
      rw [Go.WideShapes.add_plain] at this
      simp only [World.cell?, hh, Option.isSome_none, Bool.false_eq_true, if_false] at this
      rw [this]
      have h5 : zs[i]? = some n := by
        rw [List.getElem?_take] at hn
        split at hn
        · exact hn
        · cases hn
      simp [List.getD, h5]
    have hlen : (zs.take len).length = len := by simp; omega
    refine ⟨zs.take len, _, _, _, .sl (some (S.nx, 0)) len cap 0, h.slice hh hcr, h.ext _, ?_, ?_, ?_⟩
    · exact (Ext2.refl L).put (h.mod.fresh (Nat.le_refl _)) _
    · exact .sl (b := ab) (o := aoff) (z := 0) (by simp [Bt.put]) hl (Nat.le_refl _) (fun _ => rfl) (fun h9 => absurd rfl h9) (.inr (by simp))
    · refine ⟨by simp [icl], .inr ⟨S.nx, cap, by rw [hlen], Lg.put_same _ _ _⟩⟩
end Go.AM

/- slices of numbers of one's own, with room behind them: Index, Clone. -/
set_option linter.unusedVariables false
set_option linter.unusedSimpArgs false
namespace Go.AM
variable {N : Nat → Nat} {F : Nat → Option AFn}
/-- a slice's value, its numbers, and the block it lies in -/
def KSl (v : AV) (l : List Int) (bo : Option Nat) (K : Lg) : Prop := match bo with
  | none => v = .sl none 0 0 0 ∧ l = []
  | some b => ∃ cap sp ex, v = .sl (some (b, 0)) l.length cap ex ∧ K b = some (.raw (.cells (icl l ++ sp))) ∧ l.length + sp.length = cap ∧ (ex = 0 ∨ ex = 1)
theorem icl_length (l : List Int) : (icl l).length = l.length := by simp [icl]
theorem KSl.len {v : AV} {l : List Int} {bo : Option Nat} {L : Lg} (h : KSl v l bo L) (M : Lg) (k : AV → Lg → Prop) : wpOp F .lenSl [v] M k = k (.i .i64 l.length) M := by
  cases bo with
  | none => obtain ⟨rfl, rfl⟩ := h; simp
  | some b => obtain ⟨cap, sp, ex, rfl, _⟩ := h; simp
theorem KSl.cells {b cap : Nat} {l : List Int} {sp : List AV} {K : Lg} (hb : K b = some (.raw (.cells (icl l ++ sp)))) : rdCellsL K (some (b, 0)) (l.length * 1) = some (icl l) := by
  have : l.length ≤ (icl l ++ sp).length := by rw [List.length_append, icl_length]; omega
  simp only [rdCellsL, hb, AB.read, cut, ble_nat, Nat.zero_add, Nat.mul_one, this, decide_true, cond_true, List.drop_zero]
  rw [← icl_length l, List.take_left]
end Go.AM


/- chanq: signals: Signal, End. -/
set_option linter.unusedVariables false
set_option linter.unusedSimpArgs false
namespace Go.AM
variable {N : Nat → Nat} {F : Nat → Option AFn} {L : Lg}
/-- a slice of those who wake, as it may be read -/
def SlK (L : Lg) (s : AV) (ws : List Wk) : Prop := (ws = [] ∧ s = .sl none 0 0 0) ∨ ∃ b ex, s = .sl (some (b, 0)) ws.length ws.length ex ∧ L b = some (.raw (.cells (wkcells ws)))
section
variable {c rg q1 q2 : Nat} {x : Ch} {K : Lg} {Q : AV → Lg → Prop}
/-- a slice of wakes of one's own, apart from a channel and from what was -/
structure EI (L : Lg) (c rg q1 q2 : Nat) (x : Ch) (acc : List Wk) (v : AV) (K : Lg) : Prop where
  op : COpen L c x rg q1 q2 K
  own : OwnSl K v (wkcells acc) acc.length 5
  ap : ∀ b, slB v = some b → b ≠ c ∧ b ≠ rg ∧ b ≠ q1 ∧ b ≠ q2 ∧ L b = Option.none
end
end Go.AM


/- a row's arguments: slices of structs of scalars. -/
set_option linter.unusedVariables false
namespace Go.AM
open Go.RowKit
theorem flat_get {X : Type} {f : X → List AV} {z : Nat} : ∀ (l : List X), (∀ x ∈ l, (f x).length = z) → ∀ (k : Nat) (v : AV), (l.flatMap f)[k]? = some v → ∃ i j x, l[i]? = some x ∧ (f x)[j]? = some v ∧ k = i * z + j
  | [], _, k, v, h => by simp at h
  | y :: r, hz, k, v, h => by
    have hy := hz y (by simp)
    rw [List.flatMap_cons] at h
    by_cases hk : k < z
    · rw [List.getElem?_append_left (by omega)] at h
      exact ⟨0, k, y, rfl, h, by omega⟩
    · rw [List.getElem?_append_right (by omega), hy] at h
      obtain ⟨i, j, x, h1, h2, h3⟩ := flat_get r (fun x hx => hz x (by simp [hx])) (k - z) v h
      exact ⟨i + 1, j, x, by simpa using h1, h2, by rw [Nat.add_mul]; omega⟩
theorem flat_len {X : Type} {f : X → List AV} {z : Nat} : ∀ (l : List X), (∀ x ∈ l, (f x).length = z) → (l.flatMap f).length = l.length * z
  | [], _ => by simp
  | y :: r, hz => by
    rw [List.flatMap_cons, List.length_append, hz y (by simp), flat_len r (fun x hx => hz x (by simp [hx])), List.length_cons, Nat.add_mul]
    omega
/-- a slice of what is open by f -/
theorem AR.rows {X : Type} [Inhabited X] (f : X → List AV) {z : Nat} {H : Type} {enc : TypeId × Value → H} {P : Program} {W : World} {S : St} {β : Bt} {L : Lg} (h : AR W S β L) {t e : TypeId} {v : Value} {d : DataW H} {ps : List MemPlace} (ht : P.underlying t = some (.slice e)) (hc : P.cellsOf e = z) (hfz : ∀ x, (f x).length = z)
    (hX : ∀ n cs y, DataW.trod enc P W 0 (fun _ => true) true n e cs = some y → ∃ x, VRs (fun _ => none) (f x) cs) {base : Nat} (hval : Value.okWide P W .any base t v) (hd : DataW.Trod enc P W 0 (fun _ => true) true t v d ps) :
    ∃ (l : List X) (S' : St) (β' : Bt) (L' : Lg) (a : AV), AR W S' β' L' ∧ Ext β β' ∧ Ext2 L L' ∧ VR β' a v ∧ ArgSl L' a (l.flatMap f) l.length z := by
  obtain ⟨a0, len, cap, rfl⟩ := Go.WideShapes.okWide_slice ht hval
  obtain ⟨fuel, hf⟩ := hd
  have hf : DataW.trod enc P W 0 (fun _ => true) true fuel t [.slice a0 len cap] = some (d, ps) := hf
  rcases DataW.trod_slice ht hf with ⟨h0, _⟩ | ⟨a, len', cap', elems, rest, n, _, h0, _, hb, hl, hm, hlen, hel, _, _⟩
  · cases h0
    exact ⟨[], S, β, L, _, h, Ext.refl β, Ext2.refl L, .sln, by simp, .inl ⟨rfl, rfl⟩⟩
  · cases h0
    have hok : Cell.ok P W .any base t (.slice (some a) len cap) := by
      simp only [Value.okWide, ht, Cell.okWide] at hval
      exact hval
    simp only [Cell.ok, ht] at hok
    obtain ⟨_, _, _, hsp, row, cells, hsh, _⟩ := hok
    obtain ⟨ab, aoff, asp⟩ := a
    simp only at hsp
    subst hsp
    have hsh' : ∃ cur t fr, W.heap[ab]? = some (.cells cur t fr) := by
      unfold World.shape? at hsh
      split at hsh
      · rename_i cur el fr hh; exact ⟨_, _, _, hh⟩
      · cases hsh
    obtain ⟨cur, tt, fr, hh⟩ := hsh'
    have hx : ∀ i, ∃ x : X, i < len → ∀ (j : Nat) (u : AV), (f x)[j]? = some u → ∃ w, cur[aoff + (i * z + j)]? = some w ∧ VR (fun _ => none) u w := by
      intro i
      by_cases hi : i < len
      · have h1 := hel i hi
        have h2 : ∃ y, elems[i]? = some y := ⟨_, List.getElem?_eq_getElem (by omega)⟩
        obtain ⟨y, hy⟩ := h2
        rw [hy, Option.bind_eq_some_iff] at h1
        obtain ⟨cs, hcs, hty⟩ := h1
        obtain ⟨x, hxv⟩ := hX _ _ _ hty
        refine ⟨x, fun _ j u hu => ?_⟩
        obtain ⟨w, hw, hr⟩ := hxv.get hu
        refine ⟨w, ?_, hr⟩
        unfold World.cells? at hcs
        rw [if_pos (by omega)] at hcs
        have hjz : j < z := by have := (List.getElem?_eq_some_iff.1 hu).1; rw [hfz] at this; exact this
        have := mapM_some_get hcs j j (by simp [hc, hjz])
        rw [hw, hc, Go.WideShapes.add_plain, Go.WideShapes.add_plain] at this
        simp only [World.cell?, hh, Option.isSome_none, Bool.false_eq_true, if_false] at this
        rw [← this, Nat.add_assoc]
      · exact ⟨default, fun h9 => absurd h9 hi⟩
    obtain ⟨g, hg⟩ := Classical.axiomOfChoice hx
    have hall : ∀ x ∈ (List.range len).map g, (f x).length = z := fun x _ => hfz x
    have hcr : CellsR β (((List.range len).map g).flatMap f) aoff cur := by
      intro k u hu
      obtain ⟨i, j, x, h1, h2, h3⟩ := flat_get _ hall k u hu
      rw [List.getElem?_map] at h1
      simp only [Option.map_eq_some_iff] at h1
      obtain ⟨i', h4, h5⟩ := h1
      have hi : i < len ∧ i' = i := by
        have h6 := List.getElem?_eq_some_iff.1 h4
        obtain ⟨h7, h8⟩ := h6
        simp at h7 h8
        exact ⟨h7, h8.symm⟩
      obtain ⟨hi, rfl⟩ := hi
      subst h5
      obtain ⟨w, hw, hr⟩ := hg i' hi j u h2
      rw [h3]
      exact ⟨w, hw, hr.mono (fun _ _ h9 => by cases h9)⟩
    have hlen2 : ((List.range len).map g).length = len := by simp
    refine ⟨(List.range len).map g, _, _, _, .sl (some (S.nx, 0)) len cap 0, h.slice hh hcr, h.ext _, ?_, ?_, ?_⟩
    · exact (Ext2.refl L).put (h.mod.fresh (Nat.le_refl _)) _
    · exact .sl (b := ab) (o := aoff) (z := 0) (by simp [Bt.put]) hl (Nat.le_refl _) (fun _ => rfl) (fun h9 => absurd rfl h9) (.inr (by simp))
    · exact ⟨flat_len _ hall, .inr ⟨S.nx, cap, by rw [hlen2], Lg.put_same _ _ _⟩⟩
/-- a struct of three numbers -/
def t3 (x : Int × Int × Int) : List AV := [.i .i64 x.1, .i .i64 x.2.1, .i .i64 x.2.2]
def tcl (l : List (Int × Int × Int)) : List AV := l.flatMap t3
theorem open_t3 {H : Type} {enc : TypeId × Value → H} {P : Program} {W : World} {e ti : TypeId} {fs : Array Field} (he : P.underlying e = some (.struct fs)) (h3 : fs.size = 3) (hfs : ∀ (i : Nat) (f : Field), fs[i]? = some f → f.offset = i ∧ f.type = ti) (hi : P.underlying ti = some (.int .i64)) (hc1 : P.cellsOf ti = 1) (hc3 : P.cellsOf e = 3)
    (n : Nat) (cs : List Value) (y : DataW H × List MemPlace) (h : DataW.trod enc P W 0 (fun _ => true) true n e cs = some y) : ∃ x, VRs (fun _ => none) (t3 x) cs := by
  obtain ⟨xs, m, _, _, hl, hxl, hf⟩ := DataW.trod_struct he h
  rw [hc3] at hl
  match cs, hl with
  | [c0, c1, c2], _ =>
    have one : ∀ i, i < 3 → ∃ k, ([c0, c1, c2].drop i).take 1 = [.int .i64 k] := by
      intro i hi3
      have h5 : ∃ f, fs[i]? = some f := ⟨_, Array.getElem?_eq_getElem (by omega)⟩
      obtain ⟨f, hfi⟩ := h5
      have h6 := hf i f hfi
      obtain ⟨o1, o2⟩ := hfs i f hfi
      rw [o1, o2, hc1] at h6
      have h7 : ∃ y, xs[i]? = some y := ⟨_, List.getElem?_eq_getElem (by omega)⟩
      obtain ⟨y', hy'⟩ := h7
      rw [hy'] at h6
      obtain ⟨k, hk, _⟩ := DataW.trod_int hi h6
      exact ⟨k, hk⟩
    obtain ⟨k0, e0⟩ := one 0 (by omega)
    obtain ⟨k1, e1⟩ := one 1 (by omega)
    obtain ⟨k2, e2⟩ := one 2 (by omega)
    simp at e0 e1 e2
    subst e0 e1 e2
    exact ⟨(k0, k1, k2), .cons (.i _ _) (.cons (.i _ _) (.cons (.i _ _) .nil))⟩
theorem AR.acts {H : Type} {enc : TypeId × Value → H} {P : Program} {W : World} {S : St} {β : Bt} {L : Lg} (h : AR W S β L) {t e ti : TypeId} {fs : Array Field} {v : Value} {d : DataW H} {ps : List MemPlace} (ht : P.underlying t = some (.slice e)) (he : P.underlying e = some (.struct fs)) (h3 : fs.size = 3) (hfs : ∀ (i : Nat) (f : Field), fs[i]? = some f → f.offset = i ∧ f.type = ti)
    (hi : P.underlying ti = some (.int .i64)) (hc1 : P.cellsOf ti = 1) (hc3 : P.cellsOf e = 3) {base : Nat} (hval : Value.okWide P W .any base t v) (hd : DataW.Trod enc P W 0 (fun _ => true) true t v d ps) :
    ∃ (l : List (Int × Int × Int)) (S' : St) (β' : Bt) (L' : Lg) (a : AV), AR W S' β' L' ∧ Ext β β' ∧ Ext2 L L' ∧ VR β' a v ∧ ArgSl L' a (tcl l) l.length 3 :=
  h.rows t3 ht hc3 (fun x => rfl) (fun n cs y hy => open_t3 he h3 hfs hi hc1 hc3 n cs y hy) hval hd
def bcl (l : List Bool) : List AV := l.map fun n => .b n
theorem bcl_flat (l : List Bool) : (l.flatMap fun b => [AV.b b]) = bcl l := by
  induction l with
  | nil => rfl
  | cons a r ih => simp only [List.flatMap_cons, ih, bcl, List.map_cons]; rfl
/-- a slice of truths among the arguments -/
theorem AR.bools {H : Type} {enc : TypeId × Value → H} {P : Program} {W : World} {S : St} {β : Bt} {L : Lg} (h : AR W S β L) {t e : TypeId} {v : Value} {d : DataW H} {ps : List MemPlace} (ht : P.underlying t = some (.slice e)) (he : P.underlying e = some .bool) (hc : P.cellsOf e = 1)
    {base : Nat} (hval : Value.okWide P W .any base t v) (hd : DataW.Trod enc P W 0 (fun _ => true) true t v d ps) :
    ∃ (l : List Bool) (S' : St) (β' : Bt) (L' : Lg) (a : AV), AR W S' β' L' ∧ Ext β β' ∧ Ext2 L L' ∧ VR β' a v ∧ ArgSl L' a (bcl l) l.length 1 := by
  obtain ⟨l, S', β', L', a, h1, h2, h3, h4, h5⟩ := h.rows (fun b : Bool => [AV.b b]) ht hc (fun _ => rfl) (fun n cs y hy => by
    obtain ⟨b', hb, _⟩ := DataW.trod_bool he hy
    subst hb
    exact ⟨b', .cons (.b _) .nil⟩) hval hd
  rw [bcl_flat] at h5
  exact ⟨l, S', β', L', a, h1, h2, h3, h4, h5⟩
end Go.AM

/- Things, opened: what is hidden at a name lies over all else. -/
set_option linter.unusedVariables false
set_option linter.unusedSimpArgs false
namespace Go.AM
section
variable {M L : Lg} {r b : Nat} {d : LC}
theorem over_put (M L : Lg) (b : Nat) (d : LC) : (M.over L).put b d = (M.put b d).over L := by
  funext m; unfold Lg.put Lg.over; by_cases h : m = b <;> simp [h]
theorem over_putL (h : M b = none) (d : LC) : (M.over L).put b d = M.over (L.put b d) := by
  funext m; unfold Lg.put Lg.over; by_cases hm : m = b
  · subst hm; simp [h]
  · simp [hm]
theorem over_some (h : M b = some d) : (M.over L) b = some d := by simp [Lg.over, h]
theorem over_skip (h : M b = none) : (M.over L) b = L b := by simp [Lg.over, h]
theorem over_none : (M.over L) b = none ↔ M b = none ∧ L b = none := by
  unfold Lg.over; cases h : M b <;> simp
theorem over_delO (hL : L b = none) : (M.over L).del b = (M.del b).over L := by
  funext m; unfold Lg.del Lg.over; by_cases h : m = b
  · subst h; simp [hL]
  · simp [h]
theorem over_delL (hM : M b = none) : (M.over L).del b = M.over (L.del b) := by
  funext m; unfold Lg.del Lg.over; by_cases h : m = b
  · subst h; simp [hM]
  · simp [h]
/-- what lies over is not below, but for its root -/
def Apart (M L : Lg) (r : Nat) : Prop := ∀ b, b ≠ r → M b ≠ none → L b = none
theorem Apart.low (h : Apart M L r) (hb : b ≠ r) (e : L b = some d) : M b = none := by
  cases h1 : M b with
  | none => rfl
  | some c => have := h b hb (by rw [h1]; simp); rw [e] at this; cases this
theorem Apart.get (h : Apart M L r) (hb : b ≠ r) (e : L b = some d) : (M.over L) b = some d := by rw [over_skip (h.low hb e)]; exact e
theorem Apart.putL (h : Apart M L r) (hb : M b = none) (d : LC) : Apart M (L.put b d) r := by
  intro c hc hM
  have : c ≠ b := by rintro rfl; exact hM hb
  rw [Lg.put_ne _ _ _ this]; exact h c hc hM
theorem Apart.put (h : Apart M L r) (hb : b = r ∨ L b = none) (d : LC) : Apart (M.put b d) L r := by
  intro c hc hM
  by_cases e : c = b
  · subst e; rcases hb with h1 | h1
    · exact absurd h1 hc
    · exact h1
  · rw [Lg.put_ne _ _ _ e] at hM; exact h c hc hM
theorem Apart.own (h : Apart M L r) (hb : M b ≠ none) (d : LC) : Apart (M.put b d) L r := h.put (by by_cases e : b = r; exact .inl e; exact .inr (h b e hb)) d
theorem Apart.del (h : Apart M L r) (b : Nat) : Apart (M.del b) L r := by
  intro c hc hM
  rw [Lg.del_apply] at hM
  split at hM
  · exact absurd rfl hM
  · exact h c hc hM
theorem Apart.mono {L' : Lg} (h : Apart M L r) (hl : ∀ b, b ≠ r → M b ≠ none → L b = none → L' b = none) : Apart M L' r := fun c hc hM => hl c hc hM (h c hc hM)
def Thing (D : Lg → Prop) (hp : Hp) : Prop := ∃ M, D M ∧ Sat M hp
theorem CallL.openD {F : Nat → Option AFn} {f : Nat} {vs : List AV} {Q : AV → Lg → Prop} {D : Lg → Prop} (e : L r = some (.abs (Thing D))) (hr : ∀ M, D M → M r ≠ none)
    (H : ∀ M, D M → Apart M L r → CallL F f vs (M.over L) Q) : CallL F f vs L Q := by
  apply CallL.opens e
  rintro hm ⟨M, hD, hs⟩
  refine ⟨M, hs, hr M hD, fun hf => H M hD ?_⟩
  intro c hc hM
  cases h1 : M c with
  | none => exact absurd h1 hM
  | some x => exact hf c x h1 hc
theorem Sees.shutD {D : Lg → Prop} (hD : D M) (hr : ∃ cs, M r = some (.raw (.cells cs))) (ha : Apart M L r) : Sees (M.over L) (L.put r (.abs (Thing D))) :=
  Sees.shut (fun b c h hb => ha b hb (by rw [h]; simp)) (.inl hr) fun h hs => ⟨M, hD, hs⟩
theorem Sees.backD {D : Lg → Prop} (hD : D M) (hr : ∃ cs, M r = some (.raw (.cells cs))) (ha : Apart M L r) (e : L r = some (.abs (Thing D))) : Sees (M.over L) L := by
  have := Sees.shutD hD hr ha
  rwa [Lg.put_self L r _ e] at this
/-- another's block is let go -/
theorem Sees.junk {M L : Lg} (hb : L b = none) (d : LC) : Sees (M.over (L.put b d)) (M.over L) := by
  apply Sees.drop
  intro c e hc
  cases h1 : M c with
  | some x => rw [over_some h1] at hc ⊢; exact hc
  | none =>
    rw [over_skip h1] at hc ⊢
    rw [Lg.put_ne _ _ _ (by rintro rfl; rw [hb] at hc; cases hc)]; exact hc
theorem Sees.put {L L' : Lg} (h : ∀ b c, L' b = some c → L b = some c) (r : Nat) (d : LC) : Sees (L.put r d) (L'.put r d) := by
  apply Sees.drop
  intro c e hc
  rw [Lg.put_apply] at hc ⊢
  split
  · rename_i h9; rw [if_pos h9] at hc; exact hc
  · rename_i h9; rw [if_neg h9] at hc; exact h c e hc
end
/-! ### slices of one's own -/
/-- a slice of its own block, full, as it may be read and appended to -/
def OSl (K : Lg) (v : AV) (cs : List AV) (n size : Nat) : Prop :=
  (n = 0 ∧ cs = [] ∧ v = .sl none 0 0 0) ∨ ∃ b ex, 0 < n ∧ v = .sl (some (b, 0)) n n ex ∧ (ex = 0 ∨ ex = size) ∧ K b = some (.raw (.cells cs)) ∧ cs.length = n * size
section
variable {K K' : Lg} {v : AV} {cs : List AV} {n size : Nat}
theorem OSl.nil (K : Lg) (size : Nat) : OSl K (.sl none 0 0 0) [] 0 size := .inl ⟨rfl, rfl, rfl⟩
theorem OSl.mono (h : OSl K v cs n size) (e : ∀ b, slB v = some b → K' b = K b) : OSl K' v cs n size := by
  rcases h with h | ⟨b, ex, h1, h2, h3, h4, h5⟩
  · exact .inl h
  · exact .inr ⟨b, ex, h1, h2, h3, by rw [e b (by rw [h2]; rfl)]; exact h4, h5⟩
theorem OSl.block (h : OSl K v cs n size) {b : Nat} (e : slB v = some b) : K b = some (.raw (.cells cs)) := by
  rcases h with ⟨_, _, h3⟩ | ⟨b', ex, h1, h2, h3, h4, h5⟩
  · rw [h3] at e; cases e
  · rw [h2] at e; simp [slB] at e; subst e; exact h4
theorem OSl.len {F : Nat → Option AFn} (h : OSl K v cs n size) (L : Lg) (k : AV → Lg → Prop) : wpOp F .lenSl [v] L k = k (.i .i64 n) L := by
  rcases h with ⟨h1, _, h3⟩ | ⟨b', ex, h1, h2, h3, h4, h5⟩
  · rw [h3, h1]; simp
  · rw [h2]; simp
theorem OSl.iad {F : Nat → Option AFn} (h : OSl K v cs n size) {x : Int} (h0 : 0 ≤ x) (h1 : x < n) : ∃ b, slB v = some b ∧ K b = some (.raw (.cells cs)) ∧ cs.length = n * size ∧ ∀ (L : Lg) (k : AV → Lg → Prop) (j : IntKind), wpOp F (.iad size) [v, .i j x] L k = k (.p (some (b, x.toNat * size))) L := by
  rcases h with ⟨e1, _, h3⟩ | ⟨b', ex, g1, g2, g3, g4, g5⟩
  · omega
  · refine ⟨b', by rw [g2]; rfl, g4, g5, fun L k j => ?_⟩
    rw [g2, wp_iad F L k size b' 0 n n ex j x h0 h1]
    simp
theorem OSl.one (h : OSl K v cs n size) : v.one = true := by
  rcases h with ⟨_, _, h3⟩ | ⟨b', ex, g1, g2, g3, g4, g5⟩
  · rw [h3]; rfl
  · rw [g2]; rfl
theorem OSl.cellsOf (h : OSl K v cs n size) : v.cellsOf = some [v] := by
  rcases h with ⟨_, _, h3⟩ | ⟨b', ex, g1, g2, g3, g4, g5⟩
  · rw [h3]; rfl
  · rw [g2]; rfl
theorem OSl.rdAll (h : OSl K v cs n size) : ∃ a ex, v = .sl a n n ex ∧ rdCellsL K a (n * size) = some cs ∧ (n = 0 → ex = 0) := by
  rcases h with ⟨h1, h2, h3⟩ | ⟨b', ex, g1, g2, g3, g4, g5⟩
  · exact ⟨none, 0, by rw [h3, h1], by simp [rdCellsL, h1, h2], fun _ => rfl⟩
  · refine ⟨_, ex, g2, ?_, fun h => by omega⟩
    simp only [rdCellsL, g4, AB.read, cut, ble_nat, Nat.zero_add, g5, Nat.le_refl, decide_true, cond_true, List.drop_zero]
    rw [← g5, List.take_length]
/-- K1 is K, but that a slice's block may be gone and another has come -/
structure Grown (K : Lg) (v : AV) (b : Nat) (cs : List AV) (K1 : Lg) : Prop where
  fresh : K b = none
  now : K1 b = some (.raw (.cells cs))
  same : ∀ r, r ≠ b → slB v ≠ some r → K1 r = K r
  gone : ∀ r, r ≠ b → K1 r = none ∨ K1 r = K r
/-- a slice is appended to: it has another block then -/
theorem OSl.app {bytes m : Nat} {src : AV} {new : List AV} (h : OSl K v cs n size) (hsz : 0 < size) {a : Option (Nat × Nat)} {c e : Nat} (hs : src = .sl a m c e) (hm : 0 < m) (hr : rdCellsL K a (m * size) = some new) (hn : new.length = m * size) (h1 : new.all AV.one = true)
    (hb : (n + m) * bytes ≤ 70368744177664) {k : AV → Lg → Prop} (hk : ∀ b K1, Grown K v b (cs ++ new) K1 → OSl K1 (.sl (some (b, 0)) (n + m) (n + m) size) (cs ++ new) (n + m) size → k (.sl (some (b, 0)) (n + m) (n + m) size) K1) : appW size bytes K k [v, src] := by
  subst hs
  obtain ⟨av, ex, hv, hrd, hz⟩ := h.rdAll
  have hlen : cs.length = n * size := by
    rcases h with ⟨h1, h2, h3⟩ | ⟨b', ex, g1, g2, g3, g4, g5⟩
    · simp [h1, h2]
    · exact g5
  have key : ∀ K1 : Lg, (K1 = K ∨ ∃ q, slB v = some q ∧ K1 = K.del q) → goneL K av ex size = some K1 → appW size bytes K k [v, .sl a m c e] := by
    intro K1 hK1 hg
    rw [hv]
    refine appW_grow (L' := K1) hr h1 (by omega) hb hrd hg ?_
    intro b hbn
    refine hk b _ ⟨hbn, Lg.put_same _ _ _, ?_, ?_⟩ (.inr ⟨b, size, by omega, rfl, .inr rfl, Lg.put_same _ _ _, by simp [hlen, hn, Nat.add_mul]⟩)
    · intro r hr hq
      rw [Lg.put_ne _ _ _ hr]
      rcases hK1 with rfl | ⟨q, hq1, rfl⟩
      · rfl
      · rw [Lg.del_apply, if_neg]; rintro rfl; exact hq hq1
    · intro r hr
      rw [Lg.put_ne _ _ _ hr]
      rcases hK1 with rfl | ⟨q, hq1, rfl⟩
      · exact .inr rfl
      · rw [Lg.del_apply]; split
        · exact .inl rfl
        · exact .inr rfl
  rcases h with ⟨h1, h2, h3⟩ | ⟨b', ex', g1, g2, g3, g4, g5⟩
  · have : ex = 0 := hz h1
    exact key K (.inl rfl) (by rw [this]; simp [goneL])
  · have hv2 := hv
    rw [g2] at hv2
    cases hv2
    rcases g3 with g3 | g3
    · exact key K (.inl rfl) (by simp [goneL, g3])
    · refine key (K.del b') (.inr ⟨b', by rw [g2]; rfl, rfl⟩) ?_
      have : ¬ size = 0 := by omega
      simp [goneL, this, g4, g3]
theorem OSl.app0 {bytes : Nat} {src : AV} (h : OSl K v cs n size) {a : Option (Nat × Nat)} {c e : Nat} (hs : src = .sl a 0 c e) (hr : rdCellsL K a 0 = some []) {k : AV → Lg → Prop} (hk : k v K) : appW size bytes K k [v, src] := by
  subst hs
  rcases h with ⟨h1, h2, h3⟩ | ⟨b', ex', g1, g2, g3, g4, g5⟩
  · rw [h3]; rw [h3] at hk
    simp only [appW, Nat.zero_mul, hr, appL]
    simpa using hk
  · rw [g2]; rw [g2] at hk
    simp only [appW, Nat.zero_mul, hr, appL]
    simpa using hk
end
/-- the cells of structs in a row -/
def flatc {α : Type} (f : α → List AV) : List α → List AV
  | [] => []
  | x :: r => f x ++ flatc f r
section
variable {α : Type} {f : α → List AV} {k : Nat}
theorem flatc_append : ∀ (a b : List α), flatc f (a ++ b) = flatc f a ++ flatc f b
  | [], _ => rfl
  | x :: r, b => by simp [flatc, flatc_append r b]
theorem flatc_length (hf : ∀ x, (f x).length = k) : ∀ (a : List α), (flatc f a).length = a.length * k
  | [] => by simp [flatc]
  | x :: r => by
    simp only [flatc, List.length_append, hf, flatc_length hf r, List.length_cons, Nat.add_mul, Nat.one_mul]; omega
theorem flatc_one (h1 : ∀ x, (f x).all AV.one = true) : ∀ (a : List α), (flatc f a).all AV.one = true
  | [] => rfl
  | x :: r => by simp [flatc, List.all_append, h1, flatc_one h1 r]
theorem flatc_at (hf : ∀ x, (f x).length = k) : ∀ (l : List α) (i : Nat) (x : α), l[i]? = some x → ((flatc f l).drop (i * k)).take k = f x ∧ i * k + k ≤ (flatc f l).length
  | [], i, x, h => by simp at h
  | a :: r, 0, x, h => by
    simp at h; subst h
    have := hf a
    simp only [flatc, Nat.zero_mul, List.drop_zero, List.length_append, this, Nat.zero_add]
    exact ⟨by rw [← this, List.take_left], by omega⟩
  | a :: r, i + 1, x, h => by
    have := flatc_at hf r i x (by simpa using h)
    have e : (i + 1) * k = (f a).length + i * k := by rw [hf, Nat.add_mul]; omega
    rw [e]
    simp only [flatc, List.length_append]
    rw [← List.drop_drop, List.drop_left]
    exact ⟨this.1, by omega⟩
theorem flatc_get (hf : ∀ x, (f x).length = k) (l : List α) (i j : Nat) (x : α) (h : l[i]? = some x) (hj : j < k) : (flatc f l)[i * k + j]? = (f x)[j]? := by
  have h1 := flatc_at hf l i x h
  rw [← h1.1, List.getElem?_take_of_lt hj, List.getElem?_drop]
theorem flatc_setc (hf : ∀ x, (f x).length = k) : ∀ (l : List α) (i : Nat) (x y : α) (j : Nat) (v : AV), l[i]? = some x → j < k → (f x).set j v = f y → (flatc f l).set (i * k + j) v = flatc f (l.set i y)
  | [], i, x, y, j, v, h, _, _ => by simp at h
  | a :: r, 0, x, y, j, v, h, hj, e => by
    simp at h; subst h
    have := hf a
    simp only [flatc, Nat.zero_mul, Nat.zero_add, List.set_cons_zero]
    rw [List.set_append_left _ _ (by omega), e]
  | a :: r, i + 1, x, y, j, v, h, hj, e => by
    have := flatc_setc hf r i x y j v (by simpa using h) hj e
    have e2 : (i + 1) * k + j = (f a).length + (i * k + j) := by rw [hf, Nat.add_mul]; omega
    rw [e2]
    simp only [flatc, List.set_cons_succ]
    rw [List.set_append_right _ _ (by omega), Nat.add_sub_cancel_left, this]
end
end Go.AM

/- chanq: end, End, Closed: a channel is closed, and all wake. -/
set_option linter.unusedVariables false
set_option linter.unusedSimpArgs false
namespace Go.AM
variable {N : Nat → Nat} {F : Nat → Option AFn}
def wakeP (p : Bool) (acc : List Wk) (w : Wt) : List Wk := if (acc.any fun y => decide (y.t = w.t)) = true then acc else acc ++ [⟨w.t, w.c, 0, false, p⟩]
def Ch.wakes (x : Ch) : List Wk := x.sends.foldl (wakeP true) (x.recvs.foldl (wakeP false) [])
section
variable {L K : Lg} {c rg q1 q2 : Nat} {x : Ch} {Q : AV → Lg → Prop}
/-- a channel with what is left in one of its queues -/
def Ch.rest (x : Ch) (p : Bool) (ws : List Wt) : Ch := if p = true then { x with sends := ws } else { x with recvs := ws }
end
end Go.AM


/- chanq: end's loops. -/
set_option linter.unusedVariables false
set_option linter.unusedSimpArgs false
namespace Go.AM
variable {N : Nat → Nat} {F : Nat → Option AFn}
section
variable {L K : Lg} {c rg q1 q2 : Nat} {x : Ch} {Q : AV → Lg → Prop}
theorem EI.fresh {acc : List Wk} {v : AV} (h : EI L c rg q1 q2 x acc v K) {b : Nat} (hb : K b = Option.none) : slB v ≠ some b ∧ b ≠ c ∧ b ≠ rg ∧ b ≠ q1 ∧ b ≠ q2 ∧ L b = Option.none := by
  refine ⟨?_, ?_, ?_, ?_, ?_, (h.op.none hb).2⟩
  · intro h9
    rcases h.own with ⟨_, _, h1⟩ | ⟨b', h1, h2, h3, h4⟩
    · rw [h1] at h9; cases h9
    · rw [h2] at h9; simp [slB] at h9; subst h9; rw [hb] at h3; cases h3
  · rintro rfl; have := h.op.root; rw [hb] at this; cases this
  · rintro rfl; have := h.op.ring; rw [hb] at this; cases this
  · rintro rfl; have := h.op.rcv; rw [hb] at this; cases this
  · rintro rfl; have := h.op.snd; rw [hb] at this; cases this
end
end Go.AM


/- chanq: End, whole; Closed. -/
set_option linter.unusedVariables false
set_option linter.unusedSimpArgs false
namespace Go.AM
variable {N : Nat → Nat} {F : Nat → Option AFn}
section
variable {L K : Lg} {c rg q1 q2 : Nat} {x : Ch} {Q : AV → Lg → Prop}
theorem COpen.adopt (op : COpen L c x rg q1 q2 K) {b : Nat} {d : LC} (hb : K b = some d) (hn : b ≠ rg ∧ b ≠ q1 ∧ b ≠ q2) : COpen (L.put b d) c x rg q1 q2 K :=
  ⟨op.n1, op.n2, op.n3, op.n4, op.n5, op.n6, op.root, op.ring, op.rcv, op.snd, fun r e h1 h2 h3 h4 he => by
    rw [Lg.put_apply] at he
    split at he
    · rename_i h9; subst h9; cases he; exact hb
    · exact op.old r e h1 h2 h3 h4 he, by rw [Lg.put_ne _ _ _ (Ne.symm hn.1)]; exact op.f1, by rw [Lg.put_ne _ _ _ (Ne.symm hn.2.1)]; exact op.f2, by rw [Lg.put_ne _ _ _ (Ne.symm hn.2.2)]; exact op.f3⟩
/-- a new slice of wakes -/
def WkNew (L : Lg) (v : AV) (ws : List Wk) (L' : Lg) : Prop := (ws = [] ∧ v = .sl none 0 0 0 ∧ L' = L) ∨ ∃ b ex, L b = none ∧ 0 < ws.length ∧ v = .sl (some (b, 0)) ws.length ws.length ex ∧ (ex = 0 ∨ ex = 5) ∧ L' = L.put b (.raw (.cells (wkcells ws)))
theorem EI.fin {acc : List Wk} {v : AV} (h : EI L c rg q1 q2 x acc v K) (hL : ∃ d, L c = some d) : ∃ L', WkNew (L.put c (.abs (ChanP c x))) v acc L' ∧ Sees K L' := by
  rcases h.own with ⟨h1, h2, h3⟩ | ⟨b, h1, h2, h3, h4⟩
  · exact ⟨_, .inl ⟨List.length_eq_zero_iff.1 h1, h3, rfl⟩, h.op.shut⟩
  · have ap := h.ap b (by rw [h2]; rfl)
    have := (h.op.adopt h3 ⟨ap.2.1, ap.2.2.1, ap.2.2.2.1⟩).shut
    rw [Lg.put_comm _ ap.1] at this
    exact ⟨_, .inr ⟨b, 5, by rw [Lg.put_ne _ _ _ ap.1]; exact ap.2.2.2.2, h1, h2, .inr rfl, rfl⟩, this⟩
end
end Go.AM


/- tree: what its functions do. -/
set_option linter.unusedVariables false
set_option linter.unusedSimpArgs false
namespace Go.AM
variable {N : Nat → Nat} {F : Nat → Option AFn}
/-- one of a tree -/
structure Nd where
  parent : Int
  linked : Bool
  kids : List Int
def ncells : List Nd → (Nat → AV) → Nat → List AV
  | [], _, _ => []
  | n :: r, kv, j => [.i .i64 n.parent, .b n.linked, kv j] ++ ncells r kv (j + 1)
theorem ncells_link : ∀ (ns : List Nd) (kv : Nat → AV) (j i : Nat) (n : Nd) (b : Bool), ns[i]? = some n → (ncells ns kv j).set (i * 3 + 1) (.b b) = ncells (ns.set i { n with linked := b }) kv j
  | [], _, _, i, n, b, h => by simp at h
  | a :: r, kv, j, 0, n, b, h => by
    simp at h; subst h
    simp [ncells]
  | a :: r, kv, j, i + 1, n, b, h => by
    have := ncells_link r kv (j + 1) i n b (by simpa using h)
    have e : (i + 1) * 3 + 1 = (i * 3 + 1) + 1 + 1 + 1 := by omega
    rw [e]
    simp only [ncells, List.cons_append, List.nil_append, List.set_cons_succ, this]
def NSl (sv : AV) (ns : List Nd) (kv : Nat → AV) (nb : Option Nat) (t : Nat) (L K : Lg) : Prop := match nb with
  | none => sv = .sl none 0 0 0 ∧ ns = []
  | some b => sv = .sl (some (b, 0)) ns.length ns.length 3 ∧ K b = some (.raw (.cells (ncells ns kv 0))) ∧ b ≠ t ∧ L b = none ∧ 0 < ns.length
/-- a tree, opened -/
structure TOpen (L : Lg) (t : Nat) (ns : List Nd) (sv : AV) (kv : Nat → AV) (nb : Option Nat) (kb : Nat → Option Nat) (K : Lg) : Prop where
  root : K t = some (.raw (.cells [sv]))
  arr : NSl sv ns kv nb t L K
  kid : ∀ (j : Nat) (n : Nd), ns[j]? = some n → KSl (kv j) n.kids (kb j) K
  kne : ∀ (j q : Nat), j < ns.length → kb j = some q → q ≠ t ∧ nb ≠ some q ∧ L q = none
  kap : ∀ i j q : Nat, i < ns.length → j < ns.length → kb i = some q → kb j = some q → i = j
  old : ∀ r d, r ≠ t → L r = some d → K r = some d
def TreeP (t : Nat) (ns : List Nd) (hp : Hp) : Prop := ∃ sv kv nb kb M, TOpen Lg.nil t ns sv kv nb kb M ∧ Sat M hp
theorem KSl.mono {v : AV} {l : List Int} {bo : Option Nat} {K M : Lg} (h : KSl v l bo K) (e : ∀ q, bo = some q → M q = K q) : KSl v l bo M := by
  cases bo with
  | none => exact h
  | some b =>
    obtain ⟨cap, sp, ex, h1, h2, h3, h4⟩ := h
    exact ⟨cap, sp, ex, h1, by rw [e b rfl]; exact h2, h3, h4⟩
theorem NSl.mono {sv : AV} {ns : List Nd} {kv : Nat → AV} {nb : Option Nat} {t : Nat} {L L' K M : Lg} (h : NSl sv ns kv nb t L K) (e : ∀ q, nb = some q → M q = K q) (f : ∀ q, nb = some q → L' q = none) : NSl sv ns kv nb t L' M := by
  cases nb with
  | none => exact h
  | some b =>
    obtain ⟨h1, h2, h3, h4, h5⟩ := h
    exact ⟨h1, by rw [e b rfl]; exact h2, h3, f b rfl, h5⟩
section
variable {L L0 K : Lg} {t : Nat} {ns : List Nd} {sv : AV} {kv : Nat → AV} {nb : Option Nat} {kb : Nat → Option Nat}
theorem TOpen.shut (o : TOpen L t ns sv kv nb kb K) : Sees K (L.put t (.abs (TreeP t ns))) := by
  refine Sees.shutAt (fun r => r = t ∨ nb = some r ∨ ∃ j, j < ns.length ∧ kb j = some r) (.inl rfl) ?_ ?_ (.inl ⟨_, o.root⟩) ?_
  · intro r d hr hd; simp only [not_or] at hr; exact o.old r d hr.1 hd
  · rintro r (rfl | h | ⟨j, hj, hq⟩) hr
    · exact absurd rfl hr
    · have := o.arr; rw [h] at this; exact this.2.2.2.1
    · exact (o.kne j r hj hq).2.2
  · intro M hm hM hN hs
    refine ⟨sv, kv, nb, kb, M, ⟨by rw [hM t (.inl rfl)]; exact o.root, o.arr.mono (fun q hq => hM q (.inr (.inl hq))) (fun _ _ => rfl), ?_, ?_, o.kap, fun r d _ hd => by cases hd⟩, hs⟩
    · intro j n hn
      have hj : j < ns.length := (List.getElem?_eq_some_iff.1 hn).1
      exact (o.kid j n hn).mono fun q hq => hM q (.inr (.inr ⟨j, hj, hq⟩))
    · intro j q hj hq
      have := o.kne j q hj hq
      exact ⟨this.1, this.2.1, rfl⟩
theorem TOpen.back (o : TOpen L t ns sv kv nb kb K) (e : L t = some (.abs (TreeP t ns))) : Sees K L := by
  have := o.shut
  rwa [Lg.put_self L t _ e] at this
theorem NSl.len (h : NSl sv ns kv nb t L K) (M : Lg) (k : AV → Lg → Prop) : wpOp F .lenSl [sv] M k = k (.i .i64 ns.length) M := by
  cases nb with
  | none => obtain ⟨rfl, rfl⟩ := h; simp
  | some b => obtain ⟨rfl, _⟩ := h; simp
def hasT (ns : List Nd) (id : Int) : Bool := decide (0 ≤ id) && decide (id < ns.length)
theorem hasT_nat {ns : List Nd} {id : Int} (h : hasT ns id = true) : ∃ i : Nat, id = (i : Int) ∧ i < ns.length := by
  simp [hasT] at h
  obtain ⟨i, rfl⟩ := Int.eq_ofNat_of_zero_le h.1
  exact ⟨i, rfl, by omega⟩
end
end Go.AM


/- tree: Add. -/
set_option linter.unusedVariables false
set_option linter.unusedSimpArgs false
namespace Go.AM
variable {N : Nat → Nat} {F : Nat → Option AFn}
def addKid (ns : List Nd) (i : Nat) (x : Int) : List Nd := match ns[i]? with
  | some n => ns.set i { n with kids := n.kids ++ [x] }
  | none => ns
def treeAdd (ns : List Nd) (parent : Int) (linked : Bool) : List Nd × Int × Int :=
  if parent ≠ -1 ∧ hasT ns parent = false then (ns, 0, 1) else if 1000 ≤ ns.length then (ns, 0, 3)
  else ((if (linked && decide (parent ≠ -1)) = true then addKid ns parent.toNat ns.length else ns) ++ [⟨parent, linked && decide (parent ≠ -1), []⟩], ns.length, 0)
section
variable {L L0 K : Lg} {t : Nat} {ns : List Nd} {sv : AV} {kv : Nat → AV} {nb : Option Nat} {kb : Nat → Option Nat} {Q : AV → Lg → Prop}
theorem KSl.one {v : AV} {l : List Int} {bo : Option Nat} (h : KSl v l bo K) : v.one = true := by
  cases bo with
  | none => obtain ⟨rfl, _⟩ := h; rfl
  | some b => obtain ⟨_, _, _, rfl, _⟩ := h; rfl
theorem TOpen.sub (o : TOpen L0 t ns sv kv nb kb K) (hs : ∀ r d, r ≠ t → L r = some d → L0 r = some d) : TOpen L t ns sv kv nb kb K := by
  have hn : ∀ r, r ≠ t → L0 r = none → L r = none := by
    intro r hr h0
    cases e : L r with
    | none => rfl
    | some d => rw [hs r d hr e] at h0; cases h0
  refine ⟨o.root, o.arr.mono (fun _ _ => rfl) (fun q hq => ?_), o.kid, fun j q hj hq => ?_, o.kap, fun r d hr hd => o.old r d hr (hs r d hr hd)⟩
  · have := o.arr; rw [hq] at this; exact hn q this.2.2.1 this.2.2.2.1
  · have := o.kne j q hj hq; exact ⟨this.1, this.2.1, hn q this.1 this.2.2⟩
theorem KSl.cellsOf {v : AV} {l : List Int} {bo : Option Nat} (h : KSl v l bo K) : v.cellsOf = some [v] := by
  cases bo with
  | none => obtain ⟨rfl, _⟩ := h; rfl
  | some b => obtain ⟨_, _, _, rfl, _⟩ := h; rfl
end
end Go.AM


/- tree: Detach. -/
set_option linter.unusedVariables false
set_option linter.unusedSimpArgs false
namespace Go.AM
variable {N : Nat → Nat} {F : Nat → Option AFn}
section
variable {L L0 K : Lg} {t : Nat} {ns : List Nd} {sv : AV} {kv : Nat → AV} {nb : Option Nat} {kb : Nat → Option Nat} {Q : AV → Lg → Prop}
theorem TOpen.link (o : TOpen L t ns sv kv nb kb K) {i : Nat} {n : Nd} (hn : ns[i]? = some n) {b : Nat} (hb : nb = some b) (v : Bool) : TOpen L t (ns.set i { n with linked := v }) sv kv nb kb (K.put b (.raw (.cells ((ncells ns kv 0).set (i * 3 + 1) (.b v))))) := by
  have hi : i < ns.length := (List.getElem?_eq_some_iff.1 hn).1
  have ha := o.arr
  rw [hb] at ha
  obtain ⟨a1, a2, a3, a4, a5⟩ := ha
  refine ⟨by rw [Lg.put_ne _ _ _ (Ne.symm a3)]; exact o.root, ?_, ?_, ?_, ?_, ?_⟩
  · rw [hb]
    exact ⟨by simp [a1], by rw [Lg.put_same, ncells_link ns kv 0 i n v hn], a3, a4, by simpa using a5⟩
  · intro j m hm
    have hjl : j < ns.length := by have := (List.getElem?_eq_some_iff.1 hm).1; simpa using this
    have hkk : KSl (kv j) m.kids (kb j) K := by
      by_cases hj : j = i
      · subst hj
        rw [List.getElem?_set_self hi] at hm
        simp at hm; subst hm
        exact o.kid j n hn
      · rw [List.getElem?_set_ne (Ne.symm hj)] at hm
        exact o.kid j m hm
    refine hkk.mono fun r hr => ?_
    have h4 := o.kne j r hjl hr
    exact Lg.put_ne _ _ _ (fun h9 => h4.2.1 (by rw [hb, h9]))
  · intro j r hj hr
    simp at hj
    exact o.kne j r hj hr
  · intro j k r hj hk hrj hrk
    simp at hj hk
    exact o.kap j k r hj hk hrj hrk
  · intro r d hr hd
    have h1 : r ≠ b := by rintro rfl; rw [a4] at hd; cases hd
    rw [Lg.put_ne _ _ _ h1]; exact o.old r d hr hd
end
end Go.AM


/- ctx: contexts, opened; has, room. -/
set_option linter.unusedVariables false
set_option linter.unusedSimpArgs false
namespace Go.AM
variable {N : Nat → Nat} {F : Nat → Option AFn}
/-- a context -/
structure One where
  node : Int
  free : Bool
  c : Option Nat
  err : Int
  cause : Int
  when : Int
  has : Bool
  own : Bool
  timer : Int
  deriving DecidableEq
def One.cells (o : One) : List AV := [.i .i64 o.node, .b o.free, ptr o.c, .i .i64 o.err, .i .i64 o.cause, .i .i64 o.when, .b o.has, .b o.own, .i .i64 o.timer]
/-- what starts a program -/
structure Aft where
  node : Int
  prog : Int
  over : Bool
  deriving DecidableEq
def Aft.cells (o : Aft) : List AV := [.i .i64 o.node, .i .i64 o.prog, .b o.over]
/-- contexts -/
structure Cs where
  t : Option Nat
  tree : List Nd
  ones : List One
  afts : List Aft
  who : Int → Option Int
theorem One.len (o : One) : o.cells.length = 9 := rfl
theorem Aft.len (o : Aft) : o.cells.length = 3 := rfl
theorem One.one (o : One) : o.cells.all AV.one = true := rfl
theorem Aft.one (o : Aft) : o.cells.all AV.one = true := rfl
structure CtxD (c : Nat) (σ : Cs) (t mb : Nat) (osl asl : AV) (M : Lg) : Prop where
  root : M c = some (.raw (.cells [ptr σ.t, .p (some (t, 0)), osl, asl, .m (some mb)]))
  tree : M t = some (.abs (TreeP t σ.tree))
  map : ∃ es, M mb = some (.raw (.map es)) ∧ MapI es σ.who
  ones : OSl M osl (flatc One.cells σ.ones) σ.ones.length 9
  afts : OSl M asl (flatc Aft.cells σ.afts) σ.afts.length 3
  n1 : c ≠ t
  n2 : c ≠ mb
  n3 : t ≠ mb
  no : ∀ b, slB osl = some b → b ≠ c ∧ b ≠ t ∧ b ≠ mb
  na : ∀ b, slB asl = some b → b ≠ c ∧ b ≠ t ∧ b ≠ mb ∧ slB osl ≠ some b
  dom : ∀ b, M b ≠ none → b = c ∨ b = t ∨ b = mb ∨ slB osl = some b ∨ slB asl = some b
def CtxP (c : Nat) (σ : Cs) : Hp → Prop := Thing fun M => ∃ t mb osl asl, CtxD c σ t mb osl asl M
section
variable {M L : Lg} {c t mb : Nat} {osl asl : AV} {σ : Cs} {Q : AV → Lg → Prop}
theorem CtxD.shut (h : CtxD c σ t mb osl asl M) (ha : Apart M L c) : Sees (M.over L) (L.put c (.abs (CtxP c σ))) := Sees.shutD ⟨t, mb, osl, asl, h⟩ ⟨_, h.root⟩ ha
theorem CtxD.back (h : CtxD c σ t mb osl asl M) (ha : Apart M L c) (e : L c = some (.abs (CtxP c σ))) : Sees (M.over L) L := Sees.backD ⟨t, mb, osl, asl, h⟩ ⟨_, h.root⟩ ha e
theorem CtxD.f1 (h : CtxD c σ t mb osl asl M) (L : Lg) : rdL (M.over L) (c, 1) none = some (.p (some (t, 0))) := by rw [rdL_cell (over_some h.root)]; rfl
theorem CtxD.f2 (h : CtxD c σ t mb osl asl M) (L : Lg) : rdL (M.over L) (c, 2) none = some osl := by rw [rdL_cell (over_some h.root)]; rfl
theorem CtxD.f3 (h : CtxD c σ t mb osl asl M) (L : Lg) : rdL (M.over L) (c, 3) none = some asl := by rw [rdL_cell (over_some h.root)]; rfl
theorem CtxD.f4 (h : CtxD c σ t mb osl asl M) (L : Lg) : rdL (M.over L) (c, 4) none = some (.m (some mb)) := by rw [rdL_cell (over_some h.root)]; rfl
/-! ### what is put -/
theorem CtxD.setTree (h : CtxD c σ t mb osl asl M) (ns : List Nd) : CtxD c { σ with tree := ns } t mb osl asl (M.put t (.abs (TreeP t ns))) := by
  refine ⟨by rw [Lg.put_ne _ _ _ h.n1]; exact h.root, Lg.put_same _ _ _, ?_, h.ones.mono fun b hb => Lg.put_ne _ _ _ (h.no b hb).2.1, h.afts.mono fun b hb => Lg.put_ne _ _ _ (h.na b hb).2.1, h.n1, h.n2, h.n3, h.no, h.na, ?_⟩
  · obtain ⟨es, h1, h2⟩ := h.map; exact ⟨es, by rw [Lg.put_ne _ _ _ (Ne.symm h.n3)]; exact h1, h2⟩
  · intro b hb
    by_cases e : b = t
    · exact .inr (.inl e)
    · rw [Lg.put_ne _ _ _ e] at hb; exact h.dom b hb
/-- what is new lies not in it -/
theorem CtxD.fresh (h : CtxD c σ t mb osl asl M) {b : Nat} (hb : M b = none) : b ≠ c ∧ b ≠ t ∧ b ≠ mb ∧ slB osl ≠ some b ∧ slB asl ≠ some b := by
  refine ⟨?_, ?_, ?_, ?_, ?_⟩
  · rintro rfl; rw [h.root] at hb; cases hb
  · rintro rfl; rw [h.tree] at hb; cases hb
  · rintro rfl; obtain ⟨es, h1, _⟩ := h.map; rw [h1] at hb; cases hb
  · intro h9; have := h.ones.block h9; rw [hb] at this; cases this
  · intro h9; have := h.afts.block h9; rw [hb] at this; cases this
/-! ### has, room -/
def Cs.has (σ : Cs) (id : Int) : Bool := decide (0 ≤ id) && decide (id < σ.ones.length)
end
end Go.AM


/- ctx: add, start. -/
set_option linter.unusedVariables false
set_option linter.unusedSimpArgs false
namespace Go.AM
variable {N : Nat → Nat} {F : Nat → Option AFn}
def Cs.add (σ : Cs) (o : One) (parent : Int) : Cs :=
  let r := treeAdd σ.tree parent (!o.free)
  { σ with tree := r.1, who := updI σ.who r.2.1 (some σ.ones.length), ones := σ.ones ++ [{ o with node := r.2.1, timer := -1 }] }
section
variable {M L : Lg} {c t mb : Nat} {osl asl : AV} {σ : Cs} {Q : AV → Lg → Prop}
end
end Go.AM


/- ctx: what cancel does, in plain; the slices that it tells. -/
set_option linter.unusedVariables false
set_option linter.unusedSimpArgs false
namespace Go.AM
variable {N : Nat → Nat} {F : Nat → Option AFn}
/-- a context that is done now -/
structure Lap where
  id : Int
  err : Int
  cause : Int
  wakes : List Wk
/-- contexts, their timers, their channels -/
structure CX where
  σ : Cs
  τ : Tms
  χ : Nat → Ch
def CX.setTree (S : CX) (ns : List Nd) : CX := { S with σ := { S.σ with tree := ns } }
def Cs.names (σ : Cs) : List (Option Nat × Int) := σ.ones.map fun o => (o.c, o.node)
structure OutC (c : Nat) (S : CX) (L : Lg) : Prop where
  tms : ∀ s, S.σ.t = some s → s ≠ c ∧ L s = some (.abs (SetP s S.τ))
  chs : ∀ o ∈ S.σ.ones, ∀ a, o.c = some a → a ≠ c ∧ S.σ.t ≠ some a ∧ L a = some (.abs (ChanP a (S.χ a)))
/-- what is none of its own is as it was -/
def FrC (σ : Cs) (L L' : Lg) : Prop := ∀ r, L r ≠ none → σ.t ≠ some r → (∀ o ∈ σ.ones, o.c ≠ some r) → L' r = L r
structure SameC (σ σ' : Cs) : Prop where
  t : σ'.t = σ.t
  names : σ'.names = σ.names
theorem SameC.refl (σ : Cs) : SameC σ σ := ⟨rfl, rfl⟩
theorem SameC.trans {a b d : Cs} (h : SameC a b) (k : SameC b d) : SameC a d := ⟨k.t.trans h.t, k.names.trans h.names⟩
theorem SameC.get {a b : Cs} (h : SameC a b) {i : Nat} {o : One} (hi : b.ones[i]? = some o) : ∃ o', a.ones[i]? = some o' ∧ o'.c = o.c ∧ o'.node = o.node := by
  have := congrArg (fun l => l[i]?) h.names
  simp only [Cs.names, List.getElem?_map, hi, Option.map_some] at this
  cases e : a.ones[i]? with
  | none => rw [e] at this; cases this
  | some o' => rw [e] at this; simp at this; exact ⟨o', rfl, this.1.symm, this.2.symm⟩
theorem SameC.cs {a b : Cs} (h : SameC a b) {x : Option Nat} (hx : ∃ o ∈ b.ones, o.c = x) : ∃ o ∈ a.ones, o.c = x := by
  obtain ⟨o, ho, e⟩ := hx
  obtain ⟨i, hi⟩ := List.mem_iff_getElem?.1 ho
  obtain ⟨o', h1, h2, _⟩ := h.get hi
  exact ⟨o', List.mem_of_getElem? h1, h2.trans e⟩
theorem FrC.refl (σ : Cs) (L : Lg) : FrC σ L L := fun _ _ _ _ => rfl
theorem FrC.trans {σ σ' : Cs} {L L1 L2 : Lg} (s : SameC σ σ') (h : FrC σ L L1) (k : FrC σ' L1 L2) : FrC σ L L2 := fun r hr h1 h2 => by
  have e := h r hr h1 h2
  rw [k r (by rw [e]; exact hr) (by rw [s.t]; exact h1) (fun o ho h9 => by
    obtain ⟨o', h3, h4⟩ := s.cs ⟨o, ho, h9⟩
    exact h2 o' h3 h4), e]
/-- what there was is there -/
theorem FrC.has {c : Nat} {S S' : CX} {L L' : Lg} (s : SameC S.σ S'.σ) (h : FrC S.σ L L') (o : OutC c S' L') {r : Nat} (hr : L r ≠ none) : L' r ≠ none := by
  by_cases h1 : S.σ.t = some r
  · rw [(o.tms r (by rw [s.t]; exact h1)).2]; simp
  · by_cases h2 : ∃ o ∈ S.σ.ones, o.c = some r
    · obtain ⟨o', ho', he⟩ := SameC.cs (a := S'.σ) (b := S.σ) ⟨s.t.symm, s.names.symm⟩ h2
      rw [(o.chs o' ho' r he).2.2]; simp
    · rw [h r hr h1 (fun o ho h9 => h2 ⟨o, ho, h9⟩)]; exact hr
/-! ### the slices that it tells -/
def lapc (p : Lap × AV) : List AV := [.i .i64 p.1.id, .i .i64 p.1.err, .i .i64 p.1.cause, p.2]
def stc (p : Int × Int) : List AV := [.i .i64 p.1, .i .i64 p.2]
theorem flatc_oneM {α : Type} {f : α → List AV} : ∀ (a : List α), (∀ x ∈ a, (f x).all AV.one = true) → (flatc f a).all AV.one = true
  | [], _ => rfl
  | x :: r, h => by
    simp only [flatc, List.all_append, h x (by simp), flatc_oneM r (fun y hy => h y (by simp [hy])), Bool.and_self]
theorem SlK.one {L : Lg} {v : AV} {ws : List Wk} (h : SlK L v ws) : v.one = true := by
  rcases h with ⟨_, rfl⟩ | ⟨b, ex, rfl, _⟩ <;> rfl
theorem SlK.mono {L L' : Lg} {v : AV} {ws : List Wk} (h : SlK L v ws) (e : ∀ b, slB v = some b → L' b = L b) : SlK L' v ws := by
  rcases h with ⟨h1, h2⟩ | ⟨b, ex, h1, h2⟩
  · exact .inl ⟨h1, h2⟩
  · exact .inr ⟨b, ex, h1, by rw [e b (by rw [h1]; rfl)]; exact h2⟩
theorem SlK.has {L : Lg} {v : AV} {ws : List Wk} (h : SlK L v ws) {b : Nat} (e : slB v = some b) : L b ≠ none := by
  rcases h with ⟨_, rfl⟩ | ⟨b', ex, rfl, h2⟩
  · cases e
  · simp [slB] at e; subst e; rw [h2]; simp
structure ResP (L0 K : Lg) (v1 v2 : AV) (ps : List (Lap × AV)) (sts : List (Int × Int)) : Prop where
  o1 : OSl K v1 (flatc lapc ps) ps.length 4
  o2 : OSl K v2 (flatc stc sts) sts.length 2
  ins : ∀ p ∈ ps, SlK K p.2 p.1.wakes ∧ ∀ b, slB p.2 = some b → L0 b = none ∧ slB v1 ≠ some b ∧ slB v2 ≠ some b
  f1 : ∀ b, slB v1 = some b → L0 b = none ∧ slB v2 ≠ some b
  f2 : ∀ b, slB v2 = some b → L0 b = none
def ResW (L0 K : Lg) (v1 v2 : AV) (laps : List Lap) (sts : List (Int × Int)) : Prop := ∃ ps, ps.map (·.1) = laps ∧ ResP L0 K v1 v2 ps sts
section
variable {L0 K K' : Lg} {v1 v2 : AV} {ps : List (Lap × AV)} {sts : List (Int × Int)}
theorem ResP.mono (h : ResP L0 K v1 v2 ps sts) (e : ∀ b, L0 b = none → K b ≠ none → K' b = K b) : ResP L0 K' v1 v2 ps sts :=
  ⟨h.o1.mono fun b hb => e b (h.f1 b hb).1 (by rw [h.o1.block hb]; simp), h.o2.mono fun b hb => e b (h.f2 b hb) (by rw [h.o2.block hb]; simp), fun p hp => ⟨(h.ins p hp).1.mono fun b hb => e b ((h.ins p hp).2 b hb).1 ((h.ins p hp).1.has hb), (h.ins p hp).2⟩, h.f1, h.f2⟩
theorem ResP.nil (L0 K : Lg) : ResP L0 K (.sl none 0 0 0) (.sl none 0 0 0) [] [] := ⟨.inl ⟨rfl, rfl, rfl⟩, .inl ⟨rfl, rfl, rfl⟩, fun p hp => by simp at hp, fun b hb => (by cases hb), fun b hb => (by cases hb)⟩
theorem ResP.one (h : ResP L0 K v1 v2 ps sts) : (flatc lapc ps).all AV.one = true := flatc_oneM ps fun p hp => by
  have := (h.ins p hp).1.one
  simp [lapc, this]
end
end Go.AM


/- ctx: cancel. -/
set_option linter.unusedVariables false
set_option linter.unusedSimpArgs false
namespace Go.AM
variable {N : Nat → Nat} {F : Nat → Option AFn}
section
variable {M L L0 : Lg} {c t mb : Nat} {osl asl : AV} {S S' : CX} {Q : AV → Lg → Prop}
theorem OutC.put (o : OutC c S L) {b : Nat} (hb : L b = none) (d : LC) : OutC c S (L.put b d) := by
  have key : ∀ r e, L r = some e → (L.put b d) r = some e := by
    intro r e hr
    rw [Lg.put_ne]; exact hr
    rintro rfl; rw [hb] at hr; cases hr
  exact ⟨fun s hs => ⟨(o.tms s hs).1, key _ _ (o.tms s hs).2⟩, fun o1 h1 a h2 => ⟨(o.chs o1 h1 a h2).1, (o.chs o1 h1 a h2).2.1, key _ _ (o.chs o1 h1 a h2).2.2⟩⟩
theorem FrC.put {σ : Cs} {L1 : Lg} (h : FrC σ L L1) {b : Nat} (hb : L b = none) (d : LC) : FrC σ L (L1.put b d) := fun r hr h1 h2 => by
  rw [Lg.put_ne]; exact h r hr h1 h2
  rintro rfl; exact hr hb
end
end Go.AM


/- ctx: cancel, proved. -/
set_option linter.unusedVariables false
set_option linter.unusedSimpArgs false
namespace Go.AM
variable {N : Nat → Nat} {F : Nat → Option AFn}
section
variable {M L L0 : Lg} {c t mb : Nat} {osl asl : AV} {S S' : CX} {Q : AV → Lg → Prop}
theorem OSl.up {v : AV} {cs : List AV} {n size : Nat} (h : OSl L v cs n size) (hv : ∀ q, slB v = some q → M q = none) : OSl (M.over L) v cs n size := h.mono fun b hb => over_skip (hv b hb)
theorem OSl.has {v : AV} {cs : List AV} {n size : Nat} (h : OSl L v cs n size) {q : Nat} (hq : slB v = some q) : L q ≠ none := by rw [h.block hq]; simp
theorem OSl.raw {v : AV} {cs : List AV} {n size : Nat} (h : OSl L v cs n size) : ∀ q, slB v = some q → ∃ d, L q = some (.raw d) := fun q hq => ⟨_, h.block hq⟩
end
end Go.AM


/- ctx: cancel, whole. -/
set_option linter.unusedVariables false
set_option linter.unusedSimpArgs false
namespace Go.AM
variable {N : Nat → Nat} {F : Nat → Option AFn}
section
variable {M L L0 : Lg} {c t mb : Nat} {osl asl : AV} {S S' : CX} {Q : AV → Lg → Prop}
theorem OutC.same {S2 : CX} (o : OutC c S L) (h : SameC S.σ S2.σ) (h1 : S2.τ = S.τ) (h2 : S2.χ = S.χ) : OutC c S2 L := by
  refine ⟨fun s hs => ?_, fun o1 ho a ha => ?_⟩
  · rw [h1]; exact o.tms s (by rw [← h.t]; exact hs)
  · obtain ⟨o', ho', he⟩ := h.cs ⟨o1, ho, ha⟩
    have := o.chs o' ho' a he
    exact ⟨this.1, by rw [h.t]; exact this.2.1, by rw [h2]; exact this.2.2⟩
end
end Go.AM


/- ctx: begin, Cancels, Without, Deadline. -/
set_option linter.unusedVariables false
set_option linter.unusedSimpArgs false
namespace Go.AM
variable {N : Nat → Nat} {F : Nat → Option AFn}
structure SubC (σ σ' : Cs) : Prop where
  t : σ'.t = σ.t
  names : ∃ l, σ'.names = σ.names ++ l
theorem SameC.sub {σ σ' : Cs} (h : SameC σ σ') : SubC σ σ' := ⟨h.t, [], by simp [h.names]⟩
theorem SubC.trans {a b d : Cs} (h : SubC a b) (k : SubC b d) : SubC a d := by
  obtain ⟨l, hl⟩ := h.names
  obtain ⟨m, hm⟩ := k.names
  exact ⟨k.t.trans h.t, l ++ m, by rw [hm, hl, List.append_assoc]⟩
theorem SubC.cs {a b : Cs} (h : SubC a b) {x : Option Nat} (hx : ∃ o ∈ a.ones, o.c = x) : ∃ o ∈ b.ones, o.c = x := by
  obtain ⟨o, ho, e⟩ := hx
  obtain ⟨l, hl⟩ := h.names
  have : (o.c, o.node) ∈ b.names := by rw [hl]; exact List.mem_append_left _ (List.mem_map.2 ⟨o, ho, rfl⟩)
  obtain ⟨o', ho', he⟩ := List.mem_map.1 this
  exact ⟨o', ho', by rw [← e]; exact congrArg Prod.fst he⟩
/-- contexts, opened, behind a call -/
structure CO (c t mb : Nat) (S S' : CX) (L : Lg) (osl asl : AV) (M' L' : Lg) : Prop where
  d : CtxD c S'.σ t mb osl asl M'
  ap : Apart M' L' c
  out : OutC c S' L'
  sub : SubC S.σ S'.σ
  fr : FrC S.σ L L'
  has : ∀ r, L' r = none → L r = none
/-- contexts behind a call -/
structure CDone (c : Nat) (S S' : CX) (L L2 : Lg) : Prop where
  own : L2 c = some (.abs (CtxP c S'.σ))
  out : OutC c S' L2
  sub : SubC S.σ S'.σ
  fr : ∀ r, L r ≠ none → r ≠ c → S.σ.t ≠ some r → (∀ o ∈ S.σ.ones, o.c ≠ some r) → L2 r = L r
  has : ∀ r, L2 r = none → L r = none
section
variable {M L L0 : Lg} {c t mb : Nat} {osl asl : AV} {S S' : CX} {Q : AV → Lg → Prop}
theorem OutC.putN (o : OutC c S L) (d : LC) : OutC c S (L.put c d) := by
  refine ⟨fun s hs => ⟨(o.tms s hs).1, ?_⟩, fun o1 h1 a h2 => ⟨(o.chs o1 h1 a h2).1, (o.chs o1 h1 a h2).2.1, ?_⟩⟩
  · rw [Lg.put_ne _ _ _ (o.tms s hs).1]; exact (o.tms s hs).2
  · rw [Lg.put_ne _ _ _ (o.chs o1 h1 a h2).1]; exact (o.chs o1 h1 a h2).2.2
theorem CO.shut {M' L' : Lg} (h : CO c t mb S S' L osl asl M' L') (hc : L c ≠ none) : Sees (M'.over L') (L'.put c (.abs (CtxP c S'.σ))) ∧ CDone c S S' L (L'.put c (.abs (CtxP c S'.σ))) := by
  refine ⟨h.d.shut h.ap, Lg.put_same _ _ _, h.out.putN _, h.sub, ?_, ?_⟩
  · intro r hr h1 h2 h3
    rw [Lg.put_ne _ _ _ h1]; exact h.fr r hr h2 h3
  · intro r hr
    by_cases e : r = c
    · subst e; rw [Lg.put_same] at hr; cases hr
    · rw [Lg.put_ne _ _ _ e] at hr; exact h.has r hr
theorem ResW.shut {v1 v2 : AV} {laps : List Lap} {sts : List (Int × Int)} {L' : Lg} (h : ResW L L' v1 v2 laps sts) (hc : L c ≠ none) (d : LC) : ResW L (L'.put c d) v1 v2 laps sts := by
  obtain ⟨ps, h1, h2⟩ := h
  exact ⟨ps, h1, h2.mono fun b hb hK => Lg.put_ne _ _ _ (by rintro rfl; exact hc hb)⟩
def One.zero : One := ⟨0, false, none, 0, 0, 0, false, false, 0⟩
theorem CO.refl (hd : CtxD c S.σ t mb osl asl M) (ha : Apart M L c) (ho : OutC c S L) : CO c t mb S S L osl asl M L := ⟨hd, ha, ho, (SameC.refl _).sub, FrC.refl _ _, fun _ h => h⟩
end
end Go.AM


/- ctx: Lapse, Unafter, After, Deadline. -/
set_option linter.unusedVariables false
set_option linter.unusedSimpArgs false
namespace Go.AM
variable {N : Nat → Nat} {F : Nat → Option AFn}
section
variable {M L L0 : Lg} {c t mb : Nat} {osl asl : AV} {S S' : CX} {Q : AV → Lg → Prop}
end
end Go.AM


/- ctx: Deadline, what is asked, New; all, closed. -/
set_option linter.unusedVariables false
set_option linter.unusedSimpArgs false
namespace Go.AM
variable {N : Nat → Nat} {F : Nat → Option AFn}
section
variable {M L L0 : Lg} {c t mb : Nat} {osl asl : AV} {S S' : CX} {Q : AV → Lg → Prop}
end
end Go.AM


/- ctx: what is asked, New; all, closed. -/
set_option linter.unusedVariables false
set_option linter.unusedSimpArgs false
namespace Go.AM
variable {N : Nat → Nat} {F : Nat → Option AFn}
section
variable {M L L0 : Lg} {c t mb : Nat} {osl asl : AV} {S S' : CX} {σ : Cs} {Q : AV → Lg → Prop}
/-- a context by its number -/
def Cs.one (σ : Cs) (id : Int) : Option One := if σ.has id = true then σ.ones[id.toNat]? else none
/-- the background alone -/
def Cs.new (t : Option Nat) : Cs := (⟨t, [], [], [], fun _ => none⟩ : Cs).add { One.zero with free := true } (-1)
/-! ### closed -/
end
end Go.AM


/- trees, in plain Lean: kids, what is taken out, walks. -/
set_option linter.unusedVariables false
set_option linter.unusedSimpArgs false
namespace Go.AM
/-- who hangs on one -/
def hangs (ns : List Nd) (k : Int) (i : Nat) : Bool := match ns[i]? with | some n => n.linked && decide (n.parent = k) | none => false
def kidsOf (ns : List Nd) (k : Int) : List Nat := (List.range ns.length).filter (hangs ns k)
structure TreeOk (ns : List Nd) : Prop where
  len : ns.length ≤ 1000
  kids : ∀ (k : Nat) (n : Nd), ns[k]? = some n → n.kids = (kidsOf ns (k : Int)).map fun (i : Nat) => (i : Int)
  par : ∀ (k : Nat) (n : Nd), ns[k]? = some n → n.linked = true → 0 ≤ n.parent ∧ n.parent < k
theorem kidsOf_mem {ns : List Nd} {k : Int} {i : Nat} : i ∈ kidsOf ns k ↔ ∃ n, ns[i]? = some n ∧ n.linked = true ∧ n.parent = k := by
  simp only [kidsOf, List.mem_filter, List.mem_range, hangs]
  constructor
  · rintro ⟨h1, h2⟩
    rw [List.getElem?_eq_getElem h1] at h2 ⊢
    simp at h2
    exact ⟨_, rfl, h2.1, h2.2⟩
  · rintro ⟨n, h1, h2, h3⟩
    exact ⟨(List.getElem?_eq_some_iff.1 h1).1, by simp [h1, h2, h3]⟩
theorem kidsOf_lt {ns : List Nd} (h : TreeOk ns) {k i : Nat} (hi : i ∈ kidsOf ns (k : Int)) : k < i ∧ i < ns.length := by
  obtain ⟨n, h1, h2, h3⟩ := kidsOf_mem.1 hi
  have := h.par i n h1 h2
  exact ⟨by omega, (List.getElem?_eq_some_iff.1 h1).1⟩
/-! ### added -/
theorem addKid_length (ns : List Nd) (i : Nat) (x : Int) : (addKid ns i x).length = ns.length := by
  unfold addKid; split <;> simp
theorem addKid_get (ns : List Nd) (i : Nat) (x : Int) (j : Nat) : (addKid ns i x)[j]? = (ns[j]?).map fun n => if j = i then { n with kids := n.kids ++ [x] } else n := by
  unfold addKid
  split
  · rename_i n hn
    by_cases e : i = j
    · subst e
      have hi : i < ns.length := (List.getElem?_eq_some_iff.1 hn).1
      rw [List.getElem?_set_self hi, hn]; simp
    · rw [List.getElem?_set_ne e]
      cases ns[j]? with
      | none => rfl
      | some m => simp [Ne.symm e]
  · rename_i hn
    cases e : ns[j]? with
    | none => rfl
    | some m =>
      have : j ≠ i := by rintro rfl; rw [hn] at e; cases e
      simp [this]
/-- one more, as it should be -/
structure Added (ns : List Nd) (parent : Int) (lk : Bool) (ms : List Nd) : Prop where
  len : ms.length = ns.length + 1
  old : ∀ (j : Nat) (n : Nd), ns[j]? = some n → ∃ m : Nd, ms[j]? = some m ∧ m.parent = n.parent ∧ m.linked = n.linked
  new : ∃ m : Nd, ms[ns.length]? = some m ∧ m.parent = parent ∧ m.linked = lk
  ok : TreeOk ms
theorem treeAdd_ok {ns : List Nd} (h : TreeOk ns) (hl : ns.length < 1000) {parent : Int} {linked : Bool} (hp : parent = -1 ∨ hasT ns parent = true) :
    ∃ ms, treeAdd ns parent linked = (ms, (ns.length : Int), 0) ∧ Added ns parent (linked && decide (parent ≠ -1)) ms := by
  unfold treeAdd
  have c1 : ¬ (parent ≠ -1 ∧ hasT ns parent = false) := by
    rintro ⟨h1, h2⟩
    rcases hp with h3 | h3
    · exact h1 h3
    · rw [h2] at h3; cases h3
  rw [if_neg c1, if_neg (by omega)]
  refine ⟨_, rfl, ?_⟩
  generalize hlk : (linked && decide (parent ≠ -1)) = lk
  have hpar : lk = true → ∃ p : Nat, parent = (p : Int) ∧ p < ns.length := by
    intro h1
    rw [← hlk] at h1
    simp at h1
    rcases hp with h3 | h3
    · exact absurd h3 h1.2
    · exact hasT_nat h3
  generalize hbase : (if lk = true then addKid ns parent.toNat ns.length else ns) = base
  have hblen : base.length = ns.length := by rw [← hbase]; split <;> simp [addKid_length]
  have hbget : ∀ (j : Nat) (n : Nd), ns[j]? = some n → ∃ m : Nd, base[j]? = some m ∧ m.parent = n.parent ∧ m.linked = n.linked ∧ m.kids = n.kids ++ (if lk = true ∧ parent = (j : Int) then [(ns.length : Int)] else []) := by
    intro j n hn
    rw [← hbase]
    by_cases h1 : lk = true
    · obtain ⟨p, hp1, hp2⟩ := hpar h1
      rw [if_pos h1, addKid_get, hn, hp1]
      by_cases e : j = p
      · subst e; simp [h1]
      · have : ¬ ((p : Int) = (j : Int)) := by omega
        simp [e, this]
    · rw [if_neg h1]
      exact ⟨n, hn, rfl, rfl, by simp [h1]⟩
  have hget : ∀ j, j < ns.length → (base ++ [(⟨parent, lk, []⟩ : Nd)])[j]? = base[j]? := fun j hj => List.getElem?_append_left (by omega)
  have hgetn : (base ++ [(⟨parent, lk, []⟩ : Nd)])[ns.length]? = some ⟨parent, lk, []⟩ := by
    rw [List.getElem?_append_right (by omega), hblen]; simp
  have hhang : ∀ (k : Int) (i : Nat), hangs (base ++ [(⟨parent, lk, []⟩ : Nd)]) k i = if i = ns.length then (lk && decide (parent = k)) else hangs ns k i := by
    intro k i
    unfold hangs
    by_cases e : i = ns.length
    · subst e; rw [hgetn]; simp
    · rw [if_neg e]
      by_cases hi : i < ns.length
      · rw [hget i hi]
        obtain ⟨m, h1, h2, h3, _⟩ := hbget i _ (List.getElem?_eq_getElem hi)
        rw [h1, List.getElem?_eq_getElem hi]; simp [h2, h3]
      · rw [List.getElem?_eq_none (by simp; omega), List.getElem?_eq_none (by omega)]
  have hkids : ∀ k : Int, kidsOf (base ++ [(⟨parent, lk, []⟩ : Nd)]) k = kidsOf ns k ++ (if lk = true ∧ parent = k then [ns.length] else []) := by
    intro k
    unfold kidsOf
    rw [List.length_append, hblen, List.length_singleton, List.range_succ, List.filter_append]
    congr 1
    · apply List.filter_congr
      intro i hi
      have : i ≠ ns.length := by have := List.mem_range.1 hi; omega
      rw [hhang, if_neg this]
    · simp only [List.filter_cons, List.filter_nil, hhang, if_true]
      by_cases h1 : lk = true <;> by_cases h2 : parent = k <;> simp [h1, h2]
  refine ⟨by simp [hblen], ?_, ⟨_, hgetn, rfl, rfl⟩, ⟨by simp [hblen]; omega, ?_, ?_⟩⟩
  · intro j n hn
    have hj : j < ns.length := (List.getElem?_eq_some_iff.1 hn).1
    obtain ⟨m, h1, h2, h3, _⟩ := hbget j n hn
    exact ⟨m, by rw [hget j hj]; exact h1, h2, h3⟩
  · intro k n hn
    rw [hkids]
    by_cases hk : k < ns.length
    · rw [hget k hk] at hn
      obtain ⟨m, h1, h2, h3, h4⟩ := hbget k _ (List.getElem?_eq_getElem hk)
      rw [hn] at h1; cases h1
      rw [h4, h.kids k _ (List.getElem?_eq_getElem hk), List.map_append]
      congr 1
      split <;> simp
    · have hk2 : k = ns.length := by
        have := (List.getElem?_eq_some_iff.1 hn).1
        simp [hblen] at this; omega
      subst hk2
      rw [hgetn] at hn; cases hn
      have e1 : kidsOf ns (ns.length : Int) = [] := by
        rw [List.eq_nil_iff_forall_not_mem]
        intro i hi
        have := kidsOf_lt h hi
        omega
      have e2 : ¬ (lk = true ∧ parent = (ns.length : Int)) := by
        rintro ⟨h1, h2⟩
        obtain ⟨p, h3, h4⟩ := hpar h1
        omega
      simp [e1, e2]
  · intro k n hn hl2
    by_cases hk : k < ns.length
    · rw [hget k hk] at hn
      obtain ⟨m, h1, h2, h3, h4⟩ := hbget k _ (List.getElem?_eq_getElem hk)
      rw [hn] at h1; cases h1
      rw [h2]
      exact h.par k _ (List.getElem?_eq_getElem hk) (by rw [← h3]; exact hl2)
    · have hk2 : k = ns.length := by
        have := (List.getElem?_eq_some_iff.1 hn).1
        simp [hblen] at this; omega
      subst hk2
      rw [hgetn] at hn; cases hn
      obtain ⟨p, h3, h4⟩ := hpar hl2
      simp only
      omega
/-! ### taken out -/
/-! ### walks -/
end Go.AM


/- ctx: what cancel does, as a walk down the tree; in plain Lean. -/
set_option linter.unusedVariables false
set_option linter.unusedSimpArgs false
namespace Go.AM
/-! ### one is hit -/
/-- one that may be hit -/
def LiveAt (T : List Nd) (S : CX) (i : Nat) : Prop :=
  (∃ (w : Nat) (x : One), S.σ.who i = some (w : Int) ∧ S.σ.ones[w]? = some x ∧ x.node = i ∧ x.free = false ∧ x.err = 0 ∧ (∀ a, x.c = some a → (S.χ a).recvs.length + (S.χ a).sends.length ≤ 1000000) ∧ (∀ s o, S.σ.t = some s → S.τ.one x.timer = some o → o.c = none)) ∨
  (∃ (k : Nat) (x : Aft), S.σ.who i = some (-(k : Int) - 1) ∧ k ≤ 1000 ∧ S.σ.afts[k]? = some x ∧ x.node = i ∧ kidsOf T (i : Int) = [])
theorem LiveAt.tree {T : List Nd} {S : CX} {i : Nat} (h : LiveAt T S i) (ns : List Nd) : LiveAt T (S.setTree ns) i := h
end Go.AM


/- ctx: cancel is a walk. -/
set_option linter.unusedVariables false
set_option linter.unusedSimpArgs false
namespace Go.AM
end Go.AM


/- ctx: what is so of contexts; what is made, and who is cancelled; in plain Lean. -/
set_option linter.unusedVariables false
set_option linter.unusedSimpArgs false
namespace Go.AM
structure WF (S : CX) : Prop where
  tr : TreeOk S.σ.tree
  sz : S.σ.ones.length ≤ 64 ∧ S.σ.afts.length ≤ 64
  len : S.σ.tree.length = S.σ.ones.length + S.σ.afts.length
  who1 : ∀ (i : Nat) (x : One), S.σ.ones[i]? = some x → ∃ k : Nat, x.node = (k : Int) ∧ k < S.σ.tree.length ∧ S.σ.who k = some (i : Int)
  who2 : ∀ (j : Nat) (x : Aft), S.σ.afts[j]? = some x → ∃ k : Nat, x.node = (k : Int) ∧ k < S.σ.tree.length ∧ S.σ.who k = some (-(j : Int) - 1) ∧ kidsOf S.σ.tree (k : Int) = []
  cover : ∀ k : Nat, k < S.σ.tree.length → (∃ (i : Nat) (x : One), S.σ.who k = some (i : Int) ∧ S.σ.ones[i]? = some x ∧ x.node = (k : Int)) ∨ (∃ (j : Nat) (x : Aft), S.σ.who k = some (-(j : Int) - 1) ∧ S.σ.afts[j]? = some x ∧ x.node = (k : Int))
  live : ∀ (i k : Nat) (x : One) (n : Nd), S.σ.ones[i]? = some x → x.node = (k : Int) → S.σ.tree[k]? = some n → (n.linked = true ↔ x.free = false ∧ x.err = 0)
  chs : ∀ x ∈ S.σ.ones, ∀ a, x.c = some a → (S.χ a).recvs.length + (S.χ a).sends.length ≤ 1000000
  tms : ∀ x ∈ S.σ.ones, ∀ s o, S.σ.t = some s → S.τ.one x.timer = some o → o.c = none
  tlen : S.τ.x.l.length ≤ 1000000
/-! ### what hits make of each -/
end Go.AM


/- ctx: what is made is as it should be; in plain Lean. -/
set_option linter.unusedVariables false
set_option linter.unusedSimpArgs false
namespace Go.AM
theorem Added.back {ns ms : List Nd} {parent : Int} {lk : Bool} (h : Added ns parent lk ms) {j : Nat} {m : Nd} (hm : ms[j]? = some m) : (j < ns.length ∧ ∃ n, ns[j]? = some n ∧ m.parent = n.parent ∧ m.linked = n.linked) ∨ (j = ns.length ∧ m.parent = parent ∧ m.linked = lk) := by
  have hj : j < ms.length := (List.getElem?_eq_some_iff.1 hm).1
  rw [h.len] at hj
  by_cases e : j < ns.length
  · obtain ⟨m', h1, h2, h3⟩ := h.old j _ (List.getElem?_eq_getElem e)
    rw [hm] at h1; cases h1
    exact .inl ⟨e, _, List.getElem?_eq_getElem e, h2, h3⟩
  · have : j = ns.length := by omega
    subst this
    obtain ⟨m', h1, h2, h3⟩ := h.new
    rw [hm] at h1; cases h1
    exact .inr ⟨rfl, h2, h3⟩
theorem Added.kids {ns ms : List Nd} {parent : Int} {lk : Bool} (h : Added ns parent lk ms) {k : Int} (hk : kidsOf ns k = []) (hp : parent ≠ k ∨ lk = false) : kidsOf ms k = [] := by
  rw [List.eq_nil_iff_forall_not_mem]
  intro i hi
  obtain ⟨m, h1, h2, h3⟩ := kidsOf_mem.1 hi
  rcases h.back h1 with ⟨_, n, e1, e2, e3⟩ | ⟨_, e2, e3⟩
  · have : i ∈ kidsOf ns k := kidsOf_mem.2 ⟨n, e1, by rw [← e3]; exact h2, by rw [← e2]; exact h3⟩
    rw [hk] at this; cases this
  · rcases hp with hp | hp
    · exact hp (by rw [← e2]; exact h3)
    · rw [h2] at e3; rw [hp] at e3; cases e3
theorem WF.node {S : CX} (h : WF S) {p : Nat} {up : One} (hup : S.σ.ones[p]? = some up) : hasT S.σ.tree up.node = true ∧ up.node ≠ -1 := by
  obtain ⟨k, h1, h2, _⟩ := h.who1 p up hup
  refine ⟨?_, by omega⟩
  simp [hasT, h1]; omega
theorem WF.not_aft {S : CX} (h : WF S) {p j : Nat} {up : One} {x : Aft} (hup : S.σ.ones[p]? = some up) (hx : S.σ.afts[j]? = some x) : up.node ≠ x.node := by
  intro e
  obtain ⟨k, h1, h2, h3⟩ := h.who1 p up hup
  obtain ⟨k', g1, g2, g3, _⟩ := h.who2 j x hx
  have : k = k' := by omega
  subst this
  rw [h3] at g3; simp at g3; omega
/-- a context more -/
theorem WF.add {S : CX} (h : WF S) {p : Nat} {up o : One} {χ' : Nat → Ch} (hup : S.σ.ones[p]? = some up) (hlen : S.σ.ones.length < 64) (ho : o.err = 0)
    (hχ : ∀ a n, (S.χ a).recvs.length + (S.χ a).sends.length ≤ n → (χ' a).recvs.length + (χ' a).sends.length ≤ n) (hc : ∀ a, o.c = some a → (χ' a).recvs.length + (χ' a).sends.length ≤ 1000000) :
    WF ({ S with σ := S.σ.add o up.node, χ := χ' } : CX) ∧ (S.σ.add o up.node).ones = S.σ.ones ++ [{ o with node := S.σ.tree.length, timer := -1 }] ∧ Added S.σ.tree up.node (!o.free) (S.σ.add o up.node).tree ∧ (S.σ.add o up.node).who = updI S.σ.who S.σ.tree.length (some (S.σ.ones.length : Int)) := by
  have hn := h.node hup
  have hlt : S.σ.tree.length < 1000 := by have := h.len; have := h.sz; omega
  obtain ⟨ms, e, had⟩ := treeAdd_ok (linked := !o.free) h.tr hlt (.inr hn.1)
  have hlk : ((!o.free) && decide (up.node ≠ -1)) = !o.free := by simp [hn.2]
  rw [hlk] at had
  have eo : (S.σ.add o up.node).ones = S.σ.ones ++ [{ o with node := S.σ.tree.length, timer := -1 }] := by simp [Cs.add, e]
  have et : (S.σ.add o up.node).tree = ms := by simp [Cs.add, e]
  have ew : (S.σ.add o up.node).who = updI S.σ.who S.σ.tree.length (some (S.σ.ones.length : Int)) := by simp [Cs.add, e]
  have ea : (S.σ.add o up.node).afts = S.σ.afts := rfl
  have oback : ∀ (w : Nat) (x : One), (S.σ.add o up.node).ones[w]? = some x → (w < S.σ.ones.length ∧ S.σ.ones[w]? = some x) ∨ (w = S.σ.ones.length ∧ x = { o with node := S.σ.tree.length, timer := -1 }) := by
    intro w x hx
    rw [eo] at hx
    by_cases hw : w < S.σ.ones.length
    · rw [List.getElem?_append_left hw] at hx; exact .inl ⟨hw, hx⟩
    · rw [List.getElem?_append_right (by omega)] at hx
      have hz : w - S.σ.ones.length = 0 := by
        rcases Nat.eq_zero_or_pos (w - S.σ.ones.length) with h9 | h9
        · exact h9
        · rw [List.getElem?_eq_none (by simp; omega)] at hx; cases hx
      rw [hz] at hx; simp at hx
      exact .inr ⟨by omega, hx.symm⟩
  have ofwd : ∀ (w : Nat) (x : One), S.σ.ones[w]? = some x → (S.σ.add o up.node).ones[w]? = some x := by
    intro w x hx
    have hw : w < S.σ.ones.length := (List.getElem?_eq_some_iff.1 hx).1
    rw [eo, List.getElem?_append_left hw]; exact hx
  have who_old : ∀ k : Nat, k < S.σ.tree.length → (S.σ.add o up.node).who k = S.σ.who k := by
    intro k hk
    rw [ew]; unfold updI
    rw [if_neg (by omega)]
  refine ⟨⟨by rw [et]; exact had.ok, ⟨by rw [eo]; simp; omega, h.sz.2⟩, ?_, ?_, ?_, ?_, ?_, ?_, ?_, h.tlen⟩, eo, by rw [et]; exact had, ew⟩
  · show (S.σ.add o up.node).tree.length = (S.σ.add o up.node).ones.length + S.σ.afts.length
    rw [et, had.len, eo, h.len]; simp; omega
  · intro w x hx
    show ∃ k, _ ∧ k < (S.σ.add o up.node).tree.length ∧ (S.σ.add o up.node).who k = _
    rw [et, had.len]
    rcases oback w x hx with ⟨_, h1⟩ | ⟨rfl, rfl⟩
    · obtain ⟨k, k1, k2, k3⟩ := h.who1 w x h1
      exact ⟨k, k1, by omega, by rw [who_old k k2]; exact k3⟩
    · exact ⟨S.σ.tree.length, rfl, by omega, by rw [ew]; simp [updI]⟩
  · intro w x hx
    show ∃ k, _ ∧ k < (S.σ.add o up.node).tree.length ∧ (S.σ.add o up.node).who k = _ ∧ kidsOf (S.σ.add o up.node).tree k = []
    rw [et, had.len]
    obtain ⟨k, k1, k2, k3, k4⟩ := h.who2 w x hx
    refine ⟨k, k1, by omega, by rw [who_old k k2]; exact k3, had.kids k4 (.inl ?_)⟩
    have := h.not_aft hup hx
    omega
  · intro k hk
    have hk' : k < (S.σ.add o up.node).tree.length := hk
    rw [et, had.len] at hk'
    by_cases e1 : k < S.σ.tree.length
    · rcases h.cover k e1 with ⟨w, x, c1, c2, c3⟩ | ⟨w, x, c1, c2, c3⟩
      · exact .inl ⟨w, x, by show (S.σ.add o up.node).who k = _; rw [who_old k e1]; exact c1, ofwd w x c2, c3⟩
      · exact .inr ⟨w, x, by show (S.σ.add o up.node).who k = _; rw [who_old k e1]; exact c1, c2, c3⟩
    · have : k = S.σ.tree.length := by omega
      subst this
      refine .inl ⟨S.σ.ones.length, { o with node := S.σ.tree.length, timer := -1 }, ?_, ?_, rfl⟩
      · show (S.σ.add o up.node).who _ = _
        rw [ew]; simp [updI]
      · show (S.σ.add o up.node).ones[_]? = _
        rw [eo]; simp
  · intro w k x n hx hk hn2
    have hn2' : ms[k]? = some n := by rw [← et]; exact hn2
    rcases had.back hn2' with ⟨b1, m, b2, b3, b4⟩ | ⟨b1, b3, b4⟩
    · rcases oback w x hx with ⟨_, h1⟩ | ⟨rfl, rfl⟩
      · rw [b4]; exact h.live w k x m h1 hk b2
      · simp at hk; omega
    · rcases oback w x hx with ⟨_, h1⟩ | ⟨rfl, rfl⟩
      · obtain ⟨k2, k3, k4, _⟩ := h.who1 w x h1
        omega
      · rw [b4]; simp [ho]
  · intro x hx a ha
    obtain ⟨w, hw⟩ := List.mem_iff_getElem?.1 hx
    rcases oback w x hw with ⟨_, h1⟩ | ⟨rfl, rfl⟩
    · exact hχ a _ (h.chs x (List.mem_of_getElem? h1) a ha)
    · exact hc a ha
  · intro x hx s o2 hs ho2
    obtain ⟨w, hw⟩ := List.mem_iff_getElem?.1 hx
    rcases oback w x hw with ⟨_, h1⟩ | ⟨rfl, rfl⟩
    · exact h.tms x (List.mem_of_getElem? h1) s o2 hs ho2
    · simp [Tms.one, Tms.has] at ho2
end Go.AM


/- ctx: what a walk tells; what laws keep of memory. -/
set_option linter.unusedVariables false
set_option linter.unusedSimpArgs false
namespace Go.AM
/-! ### what laws keep of memory -/
section
variable {c : Nat} {S S' : CX} {L L2 : Lg}
theorem CDone.raw (h : CDone c S S' L L2) (e : L c = some (.abs (CtxP c S.σ))) (ho : OutC c S L) {r : Nat} {x : AB} (hr : L r = some (.raw x)) : L2 r = some (.raw x) := by
  rw [h.fr r (by rw [hr]; simp) (by rintro rfl; rw [hr] at e; cases e) (fun h9 => by have := (ho.tms r h9).2; rw [hr] at this; cases this) (fun o h8 h9 => by have := (ho.chs o h8 r h9).2.2; rw [hr] at this; cases this)]
  exact hr
/-- all raw blocks are kept -/
def RawK (L L2 : Lg) : Prop := ∀ r x, L r = some (.raw x) → L2 r = some (.raw x)
theorem RawK.refl (L : Lg) : RawK L L := fun _ _ h => h
theorem RawK.trans {L3 : Lg} (h : RawK L L2) (k : RawK L2 L3) : RawK L L3 := fun r x hr => k r x (h r x hr)
theorem RawK.osl (h : RawK L L2) {v : AV} {cs : List AV} {n size : Nat} (o : OSl L v cs n size) : OSl L2 v cs n size := o.mono fun b hb => by rw [o.block hb]; exact h _ _ (o.block hb)
theorem RawK.put (L : Lg) {b : Nat} (hb : L b = none) (d : LC) : RawK L (L.put b d) := fun r x hr => by
  rw [Lg.put_ne _ _ _ (by rintro rfl; rw [hb] at hr; cases hr)]; exact hr
end
/-- what is known to answer true -/
theorem known2_spec {F : Nat → Option AFn} {f : Nat} (h : F f = some kTrue) (L : Lg) : CallL F f [] L fun v L' => v = .b true ∧ L' = L := by
  apply CallL.of_wp h
  show fin _ _ _ _ _
  exact ⟨L, Sees.refl _, rfl, rfl⟩
/-- a row of slices, read -/
theorem ResP.get {L0 K : Lg} {v1 v2 : AV} {ps : List (Lap × AV)} {sts : List (Int × Int)} {F : Nat → Option AFn} (h : ResP L0 K v1 v2 ps sts) {i : Nat} {p : Lap × AV} (hi : ps[i]? = some p) : ∃ b, K b = some (.raw (.cells (flatc lapc ps))) ∧
    (∀ (X : Lg) (k : AV → Lg → Prop), wpOp F (.iad 4) [v1, .i .i64 i] X k = k (.p (some (b, i * 4))) X) ∧ (∀ X : Lg, X b = K b → ∀ j, j < 4 → rdL X (b, i * 4 + j) none = (lapc p)[j]?) := by
  have hl : i < ps.length := (List.getElem?_eq_some_iff.1 hi).1
  obtain ⟨b, h1, h2, h3, h4⟩ := h.o1.iad (F := F) (x := (i : Int)) (by omega) (by omega)
  refine ⟨b, h2, fun X k => by simpa using h4 X k .i64, fun X hX j hj => ?_⟩
  rw [rdL_cell (by rw [hX]; exact h2), flatc_get (k := 4) (fun _ => rfl) ps i j p hi hj]
end Go.AM


/- what laws do with slices of their own. -/
set_option linter.unusedVariables false
set_option linter.unusedSimpArgs false
namespace Go.AM
variable {N : Nat → Nat} {F : Nat → Option AFn}
/-- all that was is there, but one block -/
def KeepE (o : Option Nat) (K K1 : Lg) : Prop := ∀ r d, K r = some d → o ≠ some r → K1 r = some d
theorem push1 {K : Lg} {v x z : AV} {cs : List AV} {n bytes : Nat} (h : OSl K v cs n 1) (hx : x.cellsOf = some [x]) (hb : bytes ≤ 1000) (hn : n ≤ 1000000) {k : AV → Lg → Prop}
    (hk : ∀ (v' : AV) (K1 : Lg), OSl K1 v' (cs ++ [x]) (n + 1) 1 → KeepE (slB v) K K1 → (∀ b, slB v' = some b → K b = none) → k v' K1) :
    wpOp F (.bslice [z] 1 1 [0]) [x] K fun s L => wpOp F (.app 1 bytes) [v, s] L k := by
  have hone : x.one = true := by have := cellsOf_one hx; simpa using this
  rw [wp_bslice, newL_bslice (c := [x]) _ _ (by simp [reps, fillP, splice, ble_nat, beq_nat, hx]) (by simp [hone])]
  intro b1 hb1
  rw [wp_app]
  have g1 : (K.put b1 (.raw (.cells [x]))) b1 = some (.raw (.cells [x])) := Lg.put_same _ _ _
  have h1 : OSl (K.put b1 (.raw (.cells [x]))) v cs n 1 := h.mono fun b hbb => Lg.put_ne _ _ _ (by rintro rfl; have := h.block hbb; rw [hb1] at this; cases this)
  refine h1.app (m := 1) (by omega) rfl (by omega) (new := [x]) (by simp [rdCellsL, AB.read, cut, ble_nat]) rfl (by simp [hone]) (by have : (n + 1) * bytes ≤ 1000001 * 1000 := Nat.mul_le_mul (by omega) hb; omega) ?_
  intro b2 K1 g hO
  have f2 : b2 ≠ b1 ∧ K b2 = none := by
    have := g.fresh
    have n1 : b2 ≠ b1 := by rintro rfl; rw [Lg.put_same] at this; cases this
    rw [Lg.put_ne _ _ _ n1] at this
    exact ⟨n1, this⟩
  refine hk _ _ hO ?_ ?_
  · intro r d hr hne
    have r1 : r ≠ b1 := by rintro rfl; rw [hb1] at hr; cases hr
    have r2 : r ≠ b2 := by rintro rfl; rw [f2.2] at hr; cases hr
    rw [g.same r r2 hne, Lg.put_ne _ _ _ r1]; exact hr
  · intro b hbb; simp [slB] at hbb; subst hbb; exact f2.2
theorem KeepE.osl {o : Option Nat} {K K1 : Lg} (h : KeepE o K K1) {v : AV} {cs : List AV} {n size : Nat} (s : OSl K v cs n size) (hn : ∀ b, slB v = some b → o ≠ some b) : OSl K1 v cs n size := s.mono fun b hb => by rw [s.block hb]; exact h b _ (s.block hb) (hn b hb)
end Go.AM


/- The code of functions, with names for their numbers, and what is left of its weakest preconditions. PRINTED by our printgen.py. -/
set_option linter.unusedVariables false
set_option maxRecDepth 100000
namespace Go.AM
end Go.AM

/- lapse: views, in plain; code, hangs, over, Sound, Behind. -/
set_option linter.unusedVariables false
set_option linter.unusedSimpArgs false
namespace Go.AM
variable {N : Nat → Nat} {F : Nat → Option AFn}
/-- all is there still -/
def SubL (K K' : Lg) : Prop := ∀ r d, K r = some d → K' r = some d
theorem SubL.refl (K : Lg) : SubL K K := fun _ _ h => h
theorem SubL.trans {A B C : Lg} (h : SubL A B) (k : SubL B C) : SubL A C := fun r d e => k r d (h r d e)
theorem SubL.put {K K' : Lg} (h : SubL K K') {b : Nat} (hb : K' b = none) (x : LC) : SubL K (K'.put b x) := fun r d e => by
  have := h r d e
  rw [Lg.put_ne]; exact this
  rintro rfl; rw [hb] at this; cases this
theorem SubL.sees {K K' : Lg} (h : SubL K K') : Sees K' K := Sees.drop h
structure View where
  par : Int
  link : Bool
  err : Int
  cause : Int
  dl : Int
  has : Bool
instance : Inhabited View := ⟨⟨0, false, 0, 0, 0, false⟩⟩
def vcl (v : View) : List AV := [.i .i64 v.par, .b v.link, .i .i64 v.err, .i .i64 v.cause, .i .i64 v.dl, .b v.has]
def View.code (v : View) : Bool := if v.err = 0 then decide (v.cause = 0) else if v.err = 1 then decide (1 ≤ v.cause) else if v.err = 2 then decide (1 ≤ v.cause) else false
def View.hangs (v up : View) : Bool := (decide (up.err = 0) || !decide (v.err = 0)) && (!up.has || (v.has && decide (v.dl ≤ up.dl)))
/-- a slice of views that is read -/
def SlR (K : Lg) (v : AV) (l : List View) : Prop := ∃ a cap ex, v = .sl a l.length cap ex ∧ (l = [] ∨ ∃ b off cs, a = some (b, off) ∧ (K b = some (.raw (.cells cs)) ∨ K b = some (.raw (.ro cs))) ∧ ∀ (i : Nat) (x : View), l[i]? = some x → off + i * 6 + 6 ≤ cs.length ∧ (cs.drop (off + i * 6)).take 6 = vcl x)
theorem SlR.len {K : Lg} {v : AV} {l : List View} (h : SlR K v l) (X : Lg) (k : AV → Lg → Prop) : wpOp F .lenSl [v] X k = k (.i .i64 l.length) X := by
  obtain ⟨a, cap, ex, rfl, _⟩ := h
  simp
theorem SlR.mono {K K' : Lg} {v : AV} {l : List View} (h : SlR K v l) (e : SubL K K') : SlR K' v l := by
  obtain ⟨a, cap, ex, rfl, h1 | ⟨b, off, cs, rfl, h2, h3⟩⟩ := h
  · exact ⟨_, _, _, rfl, .inl h1⟩
  · exact ⟨_, _, _, rfl, .inr ⟨b, off, cs, rfl, h2.imp (e _ _) (e _ _), h3⟩⟩
theorem drop_get {cs : List AV} {o n : Nat} {f : List AV} (h : (cs.drop o).take n = f) {j : Nat} (hj : j < n) : cs[o + j]? = f[j]? := by
  rw [← h, List.getElem?_take_of_lt hj, List.getElem?_drop]
theorem SlR.get {K : Lg} {v : AV} {l : List View} (h : SlR K v l) {i : Nat} {x : View} (hi : l[i]? = some x) : ∃ b o, (∀ (X : Lg) (k : AV → Lg → Prop), wpOp F (.iad 6) [v, .i .i64 i] X k = k (.p (some (b, o))) X) ∧
    (∀ X : Lg, SubL K X → (∀ j, j < 6 → rdL X (b, o + j) none = (vcl x)[j]?) ∧ rdL X (b, o) (some 6) = some (.agg (vcl x))) ∧ K b ≠ none := by
  obtain ⟨a, cap, ex, rfl, h1 | ⟨b, off, cs, rfl, h2, h3⟩⟩ := h
  · subst h1; simp at hi
  · have hl := (List.getElem?_eq_some_iff.1 hi).1
    obtain ⟨h4, h5⟩ := h3 i x hi
    refine ⟨b, off + i * 6, fun X k => ?_, fun X hX => ?_, ?_⟩
    · rw [wp_iad F X k 6 b off l.length cap ex .i64 i (by omega) (by omega)]
      simp
    · rcases h2 with h2 | h2
      · refine ⟨fun j hj => ?_, ?_⟩
        · rw [rdL_cell (hX _ _ h2), drop_get h5 hj]
        · rw [rdL_cells (hX _ _ h2) h4, h5]
      · refine ⟨fun j hj => ?_, ?_⟩
        · rw [rdL_ro (hX _ _ h2), drop_get h5 hj]
        · rw [rdL_ros (hX _ _ h2) h4, h5]
    · rcases h2 with h2 | h2 <;> rw [h2] <;> simp
theorem SlR.of_own {K : Lg} {v : AV} {l : List View} (h : OSl K v (flatc vcl l) l.length 6) : SlR K v l := by
  rcases h with ⟨h2, h1, rfl⟩ | ⟨b, ex, h1, rfl, _, h2, h3⟩
  · refine ⟨none, 0, 0, by rw [h2], .inl (List.length_eq_zero_iff.1 h2)⟩
  · refine ⟨some (b, 0), l.length, ex, rfl, .inr ⟨b, 0, flatc vcl l, rfl, .inl h2, fun i x hi => ?_⟩⟩
    have := flatc_at (f := vcl) (k := 6) (fun _ => rfl) l i x hi
    simpa using ⟨this.2, this.1⟩
end Go.AM


/- The code of functions, with names for their numbers, and what is left of its weakest preconditions. PRINTED by our printgen.py. -/
set_option linter.unusedVariables false
set_option maxRecDepth 100000
namespace Go.AM
def k_script_put : Nat := 178
def k_script_Encode : Nat := 179
def k_script_get : Nat := 181
def k_script_first : Nat := 182
def k_script_Decode : Nat := 183
def k_tarpaulinlaw3_awake : Nat := 185
def k_tarpaulinlaw3_same : Nat := 187
def k_tarpaulinlaw3_bytes : Nat := 188
def k_tarpaulinlaw3_ScriptLimits : Nat := 190
def q_script_put_3 (N : TN) : ACode := (.seq (.reg [⟨.t 19, none, .mv, [.l 0]⟩, ⟨.l 4, none, .mv, [.t 19]⟩]) .ret)
noncomputable def D_script_put_3 (F : TF) (N : TN) (Q : TQ) (x0 : AV) (L : Lg) : Prop :=
 fin1 (some x0) Q L
theorem e_script_put_3 (F : TF) (N : TN) (Q : TQ) (l t : Env) (L : Lg) : wp F (q_script_put_3 N) l t L (fin [.tmp (.l 4)] Q) nE (fin [.tmp (.l 4)] Q) = D_script_put_3 F N Q (l 0) L := by kernel_rfl
def y_script_put_5 (F : TF) (N : TN) (Q : TQ) : Nat → Kn := (fun (j : Nat) (l t : Env) (L : Lg) => bif Nat.beq j 0 then (fun (l t : Env) (L : Lg) => D_script_put_3 F N Q (l 0) L) l t L else nE j l t L)
def q_script_put_7 (N : TN) : ACode := (.seq (.reg [⟨.t 7, none, .bin .lss, [.l 6, .c (.i .i64 8)]⟩]) (.seq (.cond (.t 7) .skip (.exit 0)) (.seq (.block 1 (.seq (.reg [⟨.t 8, none, .mv, [.l 6]⟩, ⟨.l 5, none, .mv, [.t 8]⟩]) (.reg [⟨.t 9, none, .mv, [.l 0]⟩, ⟨.t 10, none, .mv, [.l 1]⟩, ⟨.t 11, none, .cvtI .u64, [.t 10]⟩, ⟨.t 12, none, .mv, [.l 5]⟩, ⟨.t 13, none, .bin .mul, [.c (.i .i64 8), .t 12]⟩, ⟨.t 14, none, .bin .shr, [.t 11, .t 13]⟩, ⟨.t 15, none, .cvtI .u8, [.t 14]⟩, ⟨.t 16, none, .bslice [.i .u8 0] 1 1 [0], [.t 15]⟩, ⟨.t 17, none, .app 1 1, [.t 9, .t 16]⟩, ⟨.l 0, none, .mv, [.t 17]⟩]))) (.reg [⟨.t 18, none, .bin .add, [.l 6, .c (.i .i64 1)]⟩, ⟨.l 6, none, .mv, [.t 18]⟩]))))
noncomputable def D_script_put_7 (F : TF) (N : TN) (Q : TQ) (k1 : TK) (l : Env) (L : Lg) : Prop :=
 wpOp F (.bin .lss) [(l 6), (.i .i64 8)] L fun v1 L1 =>
 condW v1
 (wpOp F (.cvtI .u64) [(l 1)] L1 fun v2 L2 =>
 wpOp F (.bin .mul) [(.i .i64 8), (l 6)] L2 fun v3 L3 =>
 wpOp F (.bin .shr) [v2, v3] L3 fun v4 L4 =>
 wpOp F (.cvtI .u8) [v4] L4 fun v5 L5 =>
 wpOp F (.bslice [.i .u8 0] 1 1 [0]) [v5] L5 fun v6 L6 =>
 wpOp F (.app 1 1) [(l 0), v6] L6 fun v7 L7 =>
 wpOp F (.bin .add) [(l 6), (.i .i64 1)] L7 fun v8 L8 =>
 k1 (Env.put (Env.put (Env.put l 5 (l 6)) 0 v7) 6 v8) L8)
 (D_script_put_3 F N Q (l 0) L1)
theorem e_script_put_7 (F : TF) (N : TN) (Q : TQ) (k1 : TK) (l t : Env) (L : Lg) : wp F (q_script_put_7 N) l t L (fun (l _ : Env) (L : Lg) => k1 l L) (y_script_put_5 F N Q) (fin [.tmp (.l 4)] Q) = D_script_put_7 F N Q k1 l L := by kernel_rfl
def q_script_put_6 (N : TN) : ACode := (.loop (q_script_put_7 N))
noncomputable def D_script_put_6 (F : TF) (N : TN) (Q : TQ) (l : Env) (L : Lg) : Prop :=
 loopW (fun l t L k1 => D_script_put_7 F N Q k1 l L) l L
theorem e_script_put_6 (F : TF) (N : TN) (Q : TQ) (l t : Env) (L : Lg) : wp F (q_script_put_6 N) l t L (fun (l t : Env) (L : Lg) => D_script_put_3 F N Q (l 0) L) (y_script_put_5 F N Q) (fin [.tmp (.l 4)] Q) = D_script_put_6 F N Q l L := wpL (fun l t L k1 => e_script_put_7 F N Q k1 l t L) (by kernel_rfl)
def q_script_put_5 (N : TN) : ACode := (.block 0 (q_script_put_6 N))
theorem e_script_put_5 (F : TF) (N : TN) (Q : TQ) (l t : Env) (L : Lg) : wp F (q_script_put_5 N) l t L (fun (l t : Env) (L : Lg) => D_script_put_3 F N Q (l 0) L) nE (fin [.tmp (.l 4)] Q) = D_script_put_6 F N Q l L := wpB (e_script_put_6 F N Q l t L)
def q_script_put_4a (N : TN) : ACode := (.reg [⟨.l 6, none, .mv, [.c (.i .i64 0)]⟩])
def q_script_put_4 (N : TN) : ACode := (.seq (q_script_put_4a N) (q_script_put_5 N))
noncomputable def D_script_put_4 (F : TF) (N : TN) (Q : TQ) (l : Env) (L : Lg) : Prop :=
 D_script_put_6 F N Q (Env.put l 6 (.i .i64 0)) L
theorem e_script_put_4 (F : TF) (N : TN) (Q : TQ) (l t : Env) (L : Lg) : wp F (q_script_put_4 N) l t L (fun (l t : Env) (L : Lg) => D_script_put_3 F N Q (l 0) L) nE (fin [.tmp (.l 4)] Q) = D_script_put_4 F N Q l L := wpS (e_script_put_5 F N Q) (by kernel_rfl)
def q_script_put_2 (N : TN) : ACode := (.seq (q_script_put_4 N) (q_script_put_3 N))
theorem e_script_put_2 (F : TF) (N : TN) (Q : TQ) (l t : Env) (L : Lg) : wp F (q_script_put_2 N) l t L (fin [.tmp (.l 4)] Q) nE (fin [.tmp (.l 4)] Q) = D_script_put_4 F N Q l L := wpS (e_script_put_3 F N Q) (e_script_put_4 F N Q l t L)
def q_script_put_1a (N : TN) : ACode := (.reg [⟨.l 4, none, .mv, [.c (.sl none 0 0 0)]⟩])
def q_script_put_1 (N : TN) : ACode := (.seq (q_script_put_1a N) (q_script_put_2 N))
noncomputable def D_script_put_1 (F : TF) (N : TN) (Q : TQ) (l : Env) (L : Lg) : Prop :=
 D_script_put_4 F N Q (Env.put l 4 (.sl none 0 0 0)) L
theorem e_script_put_1 (F : TF) (N : TN) (Q : TQ) (l t : Env) (L : Lg) : wp F (q_script_put_1 N) l t L (fin [.tmp (.l 4)] Q) nE (fin [.tmp (.l 4)] Q) = D_script_put_1 F N Q l L := wpS (e_script_put_2 F N Q) (by kernel_rfl)
/-- tarpaulin/script.put -/
def c_script_put (N : TN) : AFn := ⟨q_script_put_1 N, [.tmp (.l 4)]⟩
structure H_script_put (N : TN) (F : TF) : Prop where
  code : F (N k_script_put) = some (c_script_put N)
theorem r_script_put {F : TF} {N : TN} (h : F (N k_script_put) = some (c_script_put N)) {Q : TQ} {a0 a1 : AV} {L : Lg} (e : D_script_put_1 F N Q (initE [a0, a1] 0) L) : CallL F (N k_script_put) [a0, a1] L Q :=
  CallL.of_wp h (Eq.mpr (Eq.trans (e_script_put_1 F N Q (initE [a0, a1] 0) Env.nil L) (by kernel_rfl : _ = D_script_put_1 F N Q (initE [a0, a1] 0) L)) e)
def q_script_Encode_4 (N : TN) : ACode := (.seq (.reg [⟨.t 50, none, .mv, [.l 2]⟩, ⟨.l 2, none, .mv, [.t 50]⟩, ⟨.l 3, none, .mv, [.c (.i .i64 0)]⟩]) .ret)
noncomputable def D_script_Encode_4 (F : TF) (N : TN) (Q : TQ) (x2 : AV) (L : Lg) : Prop :=
 fin1 (some (.tup [x2, (.i .i64 0)])) Q L
theorem e_script_Encode_4 (F : TF) (N : TN) (Q : TQ) (l t : Env) (L : Lg) : wp F (q_script_Encode_4 N) l t L (fin [.tmp (.l 2), .tmp (.l 3)] Q) nE (fin [.tmp (.l 2), .tmp (.l 3)] Q) = D_script_Encode_4 F N Q (l 2) L := by kernel_rfl
def w_script_Encode_3 (F : TF) (N : TN) (Q : TQ) : Kn := (fun (l t : Env) (L : Lg) => D_script_Encode_4 F N Q (l 2) L)
def y_script_Encode_6 (F : TF) (N : TN) (Q : TQ) : Nat → Kn := (fun (j : Nat) (l t : Env) (L : Lg) => bif Nat.beq j 0 then (w_script_Encode_3 F N Q) l t L else nE j l t L)
def q_script_Encode_11 (N : TN) : ACode := (.reg [⟨.t 49, none, .bin .add, [.l 11, .c (.i .i64 1)]⟩, ⟨.l 11, none, .mv, [.t 49]⟩])
noncomputable def D_script_Encode_11 (F : TF) (N : TN) (Q : TQ) (k1 : TK) (l : Env) (L : Lg) : Prop :=
 wpOp F (.bin .add) [(l 11), (.i .i64 1)] L fun v1 L1 =>
 k1 (Env.put l 11 v1) L1
theorem e_script_Encode_11 (F : TF) (N : TN) (Q : TQ) (k1 : TK) (l t : Env) (L : Lg) : wp F (q_script_Encode_11 N) l t L (fun (l _ : Env) (L : Lg) => k1 l L) (y_script_Encode_6 F N Q) (fin [.tmp (.l 2), .tmp (.l 3)] Q) = D_script_Encode_11 F N Q k1 l L := by kernel_rfl
def w_script_Encode_10 (F : TF) (N : TN) (Q : TQ) (k1 : TK) : Kn := (fun (l t : Env) (L : Lg) => D_script_Encode_11 F N Q k1 l L)
def y_script_Encode_12 (F : TF) (N : TN) (Q : TQ) (k1 : TK) : Nat → Kn := (fun (j : Nat) (l t : Env) (L : Lg) => bif Nat.beq j 1 then (w_script_Encode_10 F N Q k1) l t L else (y_script_Encode_6 F N Q) j l t L)
def q_script_Encode_14 (N : TN) : ACode := (.seq (.seq (.reg [⟨.t 15, none, .fad 0, [.l 5]⟩, ⟨.t 16, none, .ld none, [.t 15]⟩, ⟨.t 17, none, .bin .neq, [.t 16, .c (.i .i64 1)]⟩, ⟨.t 18, none, .mv, [.t 17]⟩, ⟨.t 19, some (.t 18, true), .fad 0, [.l 5]⟩, ⟨.t 20, some (.t 18, true), .ld none, [.t 19]⟩, ⟨.t 21, some (.t 18, true), .bin .neq, [.t 20, .c (.i .i64 2)]⟩, ⟨.t 22, none, .pick, [.t 18, .t 21, .c (.b false)]⟩, ⟨.t 23, none, .mv, [.t 22]⟩, ⟨.t 24, some (.t 23, false), .fad 0, [.l 5]⟩, ⟨.t 25, some (.t 23, false), .ld none, [.t 24]⟩, ⟨.t 26, some (.t 23, false), .bin .eql, [.t 25, .c (.i .i64 2)]⟩, ⟨.t 27, some (.t 23, false), .mv, [.t 26]⟩, ⟨.t 28, some (.t 27, true), .fad 2, [.l 5]⟩, ⟨.t 29, some (.t 27, true), .ld none, [.t 28]⟩, ⟨.t 30, some (.t 27, true), .bin .neq, [.t 29, .c (.i .i64 0)]⟩, ⟨.t 31, some (.t 23, false), .pick, [.t 27, .t 30, .c (.b false)]⟩, ⟨.t 32, none, .pick, [.t 23, .c (.b true), .t 31]⟩]) (.cond (.t 32) (.seq (.reg [⟨.l 2, none, .mv, [.c (.sl none 0 0 0)]⟩, ⟨.l 3, none, .mv, [.c (.i .i64 1)]⟩]) .ret) .skip)) (.seq (.regD [⟨.t 33, none, .mv, [.l 2]⟩, ⟨.t 34, none, .fad 0, [.l 5]⟩, ⟨.t 35, none, .ld none, [.t 34]⟩, ⟨.t 36, none, .cvtI .u8, [.t 35]⟩, ⟨.t 37, none, .bslice [.i .u8 0] 1 1 [0], [.t 36]⟩, ⟨.t 38, none, .app 1 1, [.t 33, .t 37]⟩, ⟨.t 39, none, .fad 1, [.l 5]⟩, ⟨.t 40, none, .ld none, [.t 39]⟩, ⟨.t 41, none, .call (N k_script_put), [.t 38, .t 40]⟩, ⟨.l 2, none, .mv, [.t 41]⟩] [(7, 0)]) (.seq (.reg [⟨.t 42, none, .fad 0, [.l 5]⟩, ⟨.t 43, none, .ld none, [.t 42]⟩, ⟨.t 44, none, .bin .eql, [.t 43, .c (.i .i64 1)]⟩]) (.cond (.t 44) (.reg [⟨.t 45, none, .mv, [.l 2]⟩, ⟨.t 46, none, .fad 2, [.l 5]⟩, ⟨.t 47, none, .ld none, [.t 46]⟩, ⟨.t 48, none, .call (N k_script_put), [.t 45, .t 47]⟩, ⟨.l 2, none, .mv, [.t 48]⟩]) .skip))))
noncomputable def D_script_Encode_14 (F : TF) (N : TN) (Q : TQ) (k1 : TK) (l : Env) (L : Lg) : Prop :=
 wpOp F (.fad 0) [(l 5)] L fun v1 L1 =>
 wpOp F (.ld none) [v1] L1 fun v2 L2 =>
 wpOp F (.bin .neq) [v2, (.i .i64 1)] L2 fun v3 L3 =>
 gdOp F v3 true (.fad 0) [(l 5)] L3 fun v4 L4 =>
 gdOp F v3 true (.ld none) [v4] L4 fun v5 L5 =>
 gdOp F v3 true (.bin .neq) [v5, (.i .i64 2)] L5 fun v6 L6 =>
 wpOp F .pick [v3, v6, (.b false)] L6 fun v7 L7 =>
 gdOp F v7 false (.fad 0) [(l 5)] L7 fun v8 L8 =>
 gdOp F v7 false (.ld none) [v8] L8 fun v9 L9 =>
 gdOp F v7 false (.bin .eql) [v9, (.i .i64 2)] L9 fun v10 L10 =>
 gdOp F v7 false .mv [v10] L10 fun v11 L11 =>
 gdOp F v11 true (.fad 2) [(l 5)] L11 fun v12 L12 =>
 gdOp F v11 true (.ld none) [v12] L12 fun v13 L13 =>
 gdOp F v11 true (.bin .neq) [v13, (.i .i64 0)] L13 fun v14 L14 =>
 gdOp F v7 false .pick [v11, v14, (.b false)] L14 fun v15 L15 =>
 wpOp F .pick [v7, (.b true), v15] L15 fun v16 L16 =>
 condW v16
 (fin1 (some (.tup [(.sl none 0 0 0), (.i .i64 1)])) Q L16)
 (wpOp F (.fad 0) [(l 5)] L16 fun v17 L17 =>
 wpOp F (.ld none) [v17] L17 fun v18 L18 =>
 wpOp F (.cvtI .u8) [v18] L18 fun v19 L19 =>
 wpOp F (.bslice [.i .u8 0] 1 1 [0]) [v19] L19 fun v20 L20 =>
 wpOp F (.app 1 1) [(l 2), v20] L20 fun v21 L21 =>
 wpOp F (.fad 1) [(l 5)] L21 fun v22 L22 =>
 wpOp F (.ld none) [v22] L22 fun v23 L23 =>
 CallL F (N k_script_put) [v21, v23] L23 fun v24 L24 =>
 (againV (.ld none) [v22] L22 L16 ∧ True) ∧ (wpOp F (.fad 0) [(l 5)] L24 fun v25 L25 =>
 wpOp F (.ld none) [v25] L25 fun v26 L26 =>
 wpOp F (.bin .eql) [v26, (.i .i64 1)] L26 fun v27 L27 =>
 condW v27
 (wpOp F (.fad 2) [(l 5)] L27 fun v28 L28 =>
 wpOp F (.ld none) [v28] L28 fun v29 L29 =>
 CallL F (N k_script_put) [v24, v29] L29 fun v30 L30 =>
 D_script_Encode_11 F N Q k1 (Env.put (Env.put l 2 v24) 2 v30) L30)
 (D_script_Encode_11 F N Q k1 (Env.put l 2 v24) L27)))
theorem e_script_Encode_14 (F : TF) (N : TN) (Q : TQ) (k1 : TK) (l t : Env) (L : Lg) : wp F (q_script_Encode_14 N) l t L (w_script_Encode_10 F N Q k1) (y_script_Encode_12 F N Q k1) (fin [.tmp (.l 2), .tmp (.l 3)] Q) = D_script_Encode_14 F N Q k1 l L := by kernel_rfl
def q_script_Encode_13a (N : TN) : ACode := (.reg [⟨.t 13, none, .iad 3, [.l 9, .l 11]⟩, ⟨.t 14, none, .ld (some 3), [.t 13]⟩, ⟨.l 5, none, .alloc [.i .i64 0, .i .i64 0, .i .i64 0], []⟩, ⟨.no, none, .st 3, [.l 5, .t 14]⟩])
def q_script_Encode_13 (N : TN) : ACode := (.seq (q_script_Encode_13a N) (q_script_Encode_14 N))
noncomputable def D_script_Encode_13 (F : TF) (N : TN) (Q : TQ) (k1 : TK) (l : Env) (L : Lg) : Prop :=
 wpOp F (.iad 3) [(l 9), (l 11)] L fun v1 L1 =>
 wpOp F (.ld (some 3)) [v1] L1 fun v2 L2 =>
 wpOp F (.alloc [.i .i64 0, .i .i64 0, .i .i64 0]) [] L2 fun v3 L3 =>
 wpOp F (.st 3) [v3, v2] L3 fun _ L4 =>
 D_script_Encode_14 F N Q k1 (Env.put l 5 v3) L4
theorem e_script_Encode_13 (F : TF) (N : TN) (Q : TQ) (k1 : TK) (l t : Env) (L : Lg) : wp F (q_script_Encode_13 N) l t L (w_script_Encode_10 F N Q k1) (y_script_Encode_12 F N Q k1) (fin [.tmp (.l 2), .tmp (.l 3)] Q) = D_script_Encode_13 F N Q k1 l L := wpS (e_script_Encode_14 F N Q k1) (by kernel_rfl)
def q_script_Encode_12 (N : TN) : ACode := (.block 1 (q_script_Encode_13 N))
theorem e_script_Encode_12 (F : TF) (N : TN) (Q : TQ) (k1 : TK) (l t : Env) (L : Lg) : wp F (q_script_Encode_12 N) l t L (w_script_Encode_10 F N Q k1) (y_script_Encode_6 F N Q) (fin [.tmp (.l 2), .tmp (.l 3)] Q) = D_script_Encode_13 F N Q k1 l L := wpB (e_script_Encode_13 F N Q k1 l t L)
def q_script_Encode_10 (N : TN) : ACode := (.seq (q_script_Encode_12 N) (q_script_Encode_11 N))
theorem e_script_Encode_10 (F : TF) (N : TN) (Q : TQ) (k1 : TK) (l t : Env) (L : Lg) : wp F (q_script_Encode_10 N) l t L (fun (l _ : Env) (L : Lg) => k1 l L) (y_script_Encode_6 F N Q) (fin [.tmp (.l 2), .tmp (.l 3)] Q) = D_script_Encode_13 F N Q k1 l L := wpS (e_script_Encode_11 F N Q k1) (e_script_Encode_12 F N Q k1 l t L)
def q_script_Encode_9a (N : TN) : ACode := (.cond (.t 12) .skip (.exit 0))
def q_script_Encode_9 (N : TN) : ACode := (.seq (q_script_Encode_9a N) (q_script_Encode_10 N))
noncomputable def D_script_Encode_9 (F : TF) (N : TN) (Q : TQ) (k1 : TK) (l : Env) (t12 : AV) (L : Lg) : Prop :=
 condW t12
 (D_script_Encode_13 F N Q k1 l L)
 (D_script_Encode_4 F N Q (l 2) L)
theorem e_script_Encode_9 (F : TF) (N : TN) (Q : TQ) (k1 : TK) (l t : Env) (L : Lg) : wp F (q_script_Encode_9 N) l t L (fun (l _ : Env) (L : Lg) => k1 l L) (y_script_Encode_6 F N Q) (fin [.tmp (.l 2), .tmp (.l 3)] Q) = D_script_Encode_9 F N Q k1 l (t 12) L := wpS (e_script_Encode_10 F N Q k1) (by kernel_rfl)
def q_script_Encode_8a (N : TN) : ACode := (.reg [⟨.t 12, none, .bin .lss, [.l 11, .l 10]⟩])
def q_script_Encode_8 (N : TN) : ACode := (.seq (q_script_Encode_8a N) (q_script_Encode_9 N))
noncomputable def D_script_Encode_8 (F : TF) (N : TN) (Q : TQ) (k1 : TK) (l : Env) (L : Lg) : Prop :=
 wpOp F (.bin .lss) [(l 11), (l 10)] L fun v1 L1 =>
 D_script_Encode_9 F N Q k1 l v1 L1
theorem e_script_Encode_8 (F : TF) (N : TN) (Q : TQ) (k1 : TK) (l t : Env) (L : Lg) : wp F (q_script_Encode_8 N) l t L (fun (l _ : Env) (L : Lg) => k1 l L) (y_script_Encode_6 F N Q) (fin [.tmp (.l 2), .tmp (.l 3)] Q) = D_script_Encode_8 F N Q k1 l L := wpS (e_script_Encode_9 F N Q k1) (by kernel_rfl)
def q_script_Encode_7 (N : TN) : ACode := (.loop (q_script_Encode_8 N))
noncomputable def D_script_Encode_7 (F : TF) (N : TN) (Q : TQ) (l : Env) (L : Lg) : Prop :=
 loopW (fun l t L k1 => D_script_Encode_8 F N Q k1 l L) l L
theorem e_script_Encode_7 (F : TF) (N : TN) (Q : TQ) (l t : Env) (L : Lg) : wp F (q_script_Encode_7 N) l t L (w_script_Encode_3 F N Q) (y_script_Encode_6 F N Q) (fin [.tmp (.l 2), .tmp (.l 3)] Q) = D_script_Encode_7 F N Q l L := wpL (fun l t L k1 => e_script_Encode_8 F N Q k1 l t L) (by kernel_rfl)
def q_script_Encode_6 (N : TN) : ACode := (.block 0 (q_script_Encode_7 N))
theorem e_script_Encode_6 (F : TF) (N : TN) (Q : TQ) (l t : Env) (L : Lg) : wp F (q_script_Encode_6 N) l t L (w_script_Encode_3 F N Q) nE (fin [.tmp (.l 2), .tmp (.l 3)] Q) = D_script_Encode_7 F N Q l L := wpB (e_script_Encode_7 F N Q l t L)
def q_script_Encode_5a (N : TN) : ACode := (.reg [⟨.l 9, none, .mv, [.l 0]⟩, ⟨.l 10, none, .lenSl, [.l 9]⟩, ⟨.l 11, none, .mv, [.c (.i .i64 0)]⟩])
def q_script_Encode_5 (N : TN) : ACode := (.seq (q_script_Encode_5a N) (q_script_Encode_6 N))
noncomputable def D_script_Encode_5 (F : TF) (N : TN) (Q : TQ) (l : Env) (L : Lg) : Prop :=
 wpOp F .lenSl [(l 0)] L fun v1 L1 =>
 D_script_Encode_7 F N Q (Env.put (Env.put (Env.put l 9 (l 0)) 10 v1) 11 (.i .i64 0)) L1
theorem e_script_Encode_5 (F : TF) (N : TN) (Q : TQ) (l t : Env) (L : Lg) : wp F (q_script_Encode_5 N) l t L (w_script_Encode_3 F N Q) nE (fin [.tmp (.l 2), .tmp (.l 3)] Q) = D_script_Encode_5 F N Q l L := wpS (e_script_Encode_6 F N Q) (by kernel_rfl)
def q_script_Encode_3 (N : TN) : ACode := (.seq (q_script_Encode_5 N) (q_script_Encode_4 N))
theorem e_script_Encode_3 (F : TF) (N : TN) (Q : TQ) (l t : Env) (L : Lg) : wp F (q_script_Encode_3 N) l t L (fin [.tmp (.l 2), .tmp (.l 3)] Q) nE (fin [.tmp (.l 2), .tmp (.l 3)] Q) = D_script_Encode_5 F N Q l L := wpS (e_script_Encode_4 F N Q) (e_script_Encode_5 F N Q l t L)
def q_script_Encode_2a (N : TN) : ACode := (.seq (.reg [⟨.t 6, none, .mv, [.l 0]⟩, ⟨.t 7, none, .lenSl, [.t 6]⟩, ⟨.t 8, none, .bin .gtr, [.t 7, .c (.i .i64 2000)]⟩]) (.cond (.t 8) (.seq (.reg [⟨.l 2, none, .mv, [.c (.sl none 0 0 0)]⟩, ⟨.l 3, none, .mv, [.c (.i .i64 1)]⟩]) .ret) .skip))
def q_script_Encode_2 (N : TN) : ACode := (.seq (q_script_Encode_2a N) (q_script_Encode_3 N))
noncomputable def D_script_Encode_2 (F : TF) (N : TN) (Q : TQ) (l : Env) (L : Lg) : Prop :=
 wpOp F .lenSl [(l 0)] L fun v1 L1 =>
 wpOp F (.bin .gtr) [v1, (.i .i64 2000)] L1 fun v2 L2 =>
 condW v2
 (fin1 (some (.tup [(.sl none 0 0 0), (.i .i64 1)])) Q L2)
 (D_script_Encode_5 F N Q l L2)
theorem e_script_Encode_2 (F : TF) (N : TN) (Q : TQ) (l t : Env) (L : Lg) : wp F (q_script_Encode_2 N) l t L (fin [.tmp (.l 2), .tmp (.l 3)] Q) nE (fin [.tmp (.l 2), .tmp (.l 3)] Q) = D_script_Encode_2 F N Q l L := wpS (e_script_Encode_3 F N Q) (by kernel_rfl)
def q_script_Encode_1a (N : TN) : ACode := (.reg [⟨.l 2, none, .mv, [.c (.sl none 0 0 0)]⟩, ⟨.l 3, none, .mv, [.c (.i .i64 0)]⟩])
def q_script_Encode_1 (N : TN) : ACode := (.seq (q_script_Encode_1a N) (q_script_Encode_2 N))
noncomputable def D_script_Encode_1 (F : TF) (N : TN) (Q : TQ) (l : Env) (L : Lg) : Prop :=
 D_script_Encode_2 F N Q (Env.put (Env.put l 2 (.sl none 0 0 0)) 3 (.i .i64 0)) L
theorem e_script_Encode_1 (F : TF) (N : TN) (Q : TQ) (l t : Env) (L : Lg) : wp F (q_script_Encode_1 N) l t L (fin [.tmp (.l 2), .tmp (.l 3)] Q) nE (fin [.tmp (.l 2), .tmp (.l 3)] Q) = D_script_Encode_1 F N Q l L := wpS (e_script_Encode_2 F N Q) (by kernel_rfl)
/-- tarpaulin/script.Encode -/
def c_script_Encode (N : TN) : AFn := ⟨q_script_Encode_1 N, [.tmp (.l 2), .tmp (.l 3)]⟩
structure H_script_Encode (N : TN) (F : TF) : Prop where
  code : F (N k_script_Encode) = some (c_script_Encode N)
  script_put : H_script_put N F
theorem r_script_Encode {F : TF} {N : TN} (h : F (N k_script_Encode) = some (c_script_Encode N)) {Q : TQ} {a0 : AV} {L : Lg} (e : D_script_Encode_1 F N Q (initE [a0] 0) L) : CallL F (N k_script_Encode) [a0] L Q :=
  CallL.of_wp h (Eq.mpr (Eq.trans (e_script_Encode_1 F N Q (initE [a0] 0) Env.nil L) (by kernel_rfl : _ = D_script_Encode_1 F N Q (initE [a0] 0) L)) e)
def q_script_get_4 (N : TN) : ACode := (.seq (.reg [⟨.t 19, none, .mv, [.l 3]⟩, ⟨.t 20, none, .cvtI .i64, [.t 19]⟩, ⟨.l 2, none, .mv, [.t 20]⟩]) .ret)
noncomputable def D_script_get_4 (F : TF) (N : TN) (Q : TQ) (x3 : AV) (L : Lg) : Prop :=
 wpOp F (.cvtI .i64) [x3] L fun v1 L1 =>
 fin1 (some v1) Q L1
theorem e_script_get_4 (F : TF) (N : TN) (Q : TQ) (l t : Env) (L : Lg) : wp F (q_script_get_4 N) l t L (fin [.tmp (.l 2)] Q) nE (fin [.tmp (.l 2)] Q) = D_script_get_4 F N Q (l 3) L := by kernel_rfl
def y_script_get_6 (F : TF) (N : TN) (Q : TQ) : Nat → Kn := (fun (j : Nat) (l t : Env) (L : Lg) => bif Nat.beq j 0 then (fun (l t : Env) (L : Lg) => D_script_get_4 F N Q (l 3) L) l t L else nE j l t L)
def q_script_get_8 (N : TN) : ACode := (.seq (.reg [⟨.t 6, none, .bin .lss, [.l 5, .c (.i .i64 8)]⟩]) (.seq (.cond (.t 6) .skip (.exit 0)) (.seq (.block 1 (.seq (.reg [⟨.t 7, none, .mv, [.l 5]⟩, ⟨.l 4, none, .mv, [.t 7]⟩]) (.reg [⟨.t 8, none, .mv, [.l 3]⟩, ⟨.t 9, none, .mv, [.l 0]⟩, ⟨.t 10, none, .mv, [.l 4]⟩, ⟨.t 11, none, .iad 1, [.t 9, .t 10]⟩, ⟨.t 12, none, .ld none, [.t 11]⟩, ⟨.t 13, none, .cvtI .u64, [.t 12]⟩, ⟨.t 14, none, .mv, [.l 4]⟩, ⟨.t 15, none, .bin .mul, [.c (.i .i64 8), .t 14]⟩, ⟨.t 16, none, .bin .shl, [.t 13, .t 15]⟩, ⟨.t 17, none, .bin .or, [.t 8, .t 16]⟩, ⟨.l 3, none, .mv, [.t 17]⟩]))) (.reg [⟨.t 18, none, .bin .add, [.l 5, .c (.i .i64 1)]⟩, ⟨.l 5, none, .mv, [.t 18]⟩]))))
noncomputable def D_script_get_8 (F : TF) (N : TN) (Q : TQ) (k1 : TK) (l : Env) (L : Lg) : Prop :=
 wpOp F (.bin .lss) [(l 5), (.i .i64 8)] L fun v1 L1 =>
 condW v1
 (wpOp F (.iad 1) [(l 0), (l 5)] L1 fun v2 L2 =>
 wpOp F (.ld none) [v2] L2 fun v3 L3 =>
 wpOp F (.cvtI .u64) [v3] L3 fun v4 L4 =>
 wpOp F (.bin .mul) [(.i .i64 8), (l 5)] L4 fun v5 L5 =>
 wpOp F (.bin .shl) [v4, v5] L5 fun v6 L6 =>
 wpOp F (.bin .or) [(l 3), v6] L6 fun v7 L7 =>
 wpOp F (.bin .add) [(l 5), (.i .i64 1)] L7 fun v8 L8 =>
 k1 (Env.put (Env.put (Env.put l 4 (l 5)) 3 v7) 5 v8) L8)
 (D_script_get_4 F N Q (l 3) L1)
theorem e_script_get_8 (F : TF) (N : TN) (Q : TQ) (k1 : TK) (l t : Env) (L : Lg) : wp F (q_script_get_8 N) l t L (fun (l _ : Env) (L : Lg) => k1 l L) (y_script_get_6 F N Q) (fin [.tmp (.l 2)] Q) = D_script_get_8 F N Q k1 l L := by kernel_rfl
def q_script_get_7 (N : TN) : ACode := (.loop (q_script_get_8 N))
noncomputable def D_script_get_7 (F : TF) (N : TN) (Q : TQ) (l : Env) (L : Lg) : Prop :=
 loopW (fun l t L k1 => D_script_get_8 F N Q k1 l L) l L
theorem e_script_get_7 (F : TF) (N : TN) (Q : TQ) (l t : Env) (L : Lg) : wp F (q_script_get_7 N) l t L (fun (l t : Env) (L : Lg) => D_script_get_4 F N Q (l 3) L) (y_script_get_6 F N Q) (fin [.tmp (.l 2)] Q) = D_script_get_7 F N Q l L := wpL (fun l t L k1 => e_script_get_8 F N Q k1 l t L) (by kernel_rfl)
def q_script_get_6 (N : TN) : ACode := (.block 0 (q_script_get_7 N))
theorem e_script_get_6 (F : TF) (N : TN) (Q : TQ) (l t : Env) (L : Lg) : wp F (q_script_get_6 N) l t L (fun (l t : Env) (L : Lg) => D_script_get_4 F N Q (l 3) L) nE (fin [.tmp (.l 2)] Q) = D_script_get_7 F N Q l L := wpB (e_script_get_7 F N Q l t L)
def q_script_get_5a (N : TN) : ACode := (.reg [⟨.l 5, none, .mv, [.c (.i .i64 0)]⟩])
def q_script_get_5 (N : TN) : ACode := (.seq (q_script_get_5a N) (q_script_get_6 N))
noncomputable def D_script_get_5 (F : TF) (N : TN) (Q : TQ) (l : Env) (L : Lg) : Prop :=
 D_script_get_7 F N Q (Env.put l 5 (.i .i64 0)) L
theorem e_script_get_5 (F : TF) (N : TN) (Q : TQ) (l t : Env) (L : Lg) : wp F (q_script_get_5 N) l t L (fun (l t : Env) (L : Lg) => D_script_get_4 F N Q (l 3) L) nE (fin [.tmp (.l 2)] Q) = D_script_get_5 F N Q l L := wpS (e_script_get_6 F N Q) (by kernel_rfl)
def q_script_get_3 (N : TN) : ACode := (.seq (q_script_get_5 N) (q_script_get_4 N))
theorem e_script_get_3 (F : TF) (N : TN) (Q : TQ) (l t : Env) (L : Lg) : wp F (q_script_get_3 N) l t L (fin [.tmp (.l 2)] Q) nE (fin [.tmp (.l 2)] Q) = D_script_get_5 F N Q l L := wpS (e_script_get_4 F N Q) (e_script_get_5 F N Q l t L)
def q_script_get_2a (N : TN) : ACode := (.reg [⟨.l 3, none, .mv, [.c (.i .u64 0)]⟩])
def q_script_get_2 (N : TN) : ACode := (.seq (q_script_get_2a N) (q_script_get_3 N))
noncomputable def D_script_get_2 (F : TF) (N : TN) (Q : TQ) (l : Env) (L : Lg) : Prop :=
 D_script_get_5 F N Q (Env.put l 3 (.i .u64 0)) L
theorem e_script_get_2 (F : TF) (N : TN) (Q : TQ) (l t : Env) (L : Lg) : wp F (q_script_get_2 N) l t L (fin [.tmp (.l 2)] Q) nE (fin [.tmp (.l 2)] Q) = D_script_get_2 F N Q l L := wpS (e_script_get_3 F N Q) (by kernel_rfl)
def q_script_get_1a (N : TN) : ACode := (.reg [⟨.l 2, none, .mv, [.c (.i .i64 0)]⟩])
def q_script_get_1 (N : TN) : ACode := (.seq (q_script_get_1a N) (q_script_get_2 N))
noncomputable def D_script_get_1 (F : TF) (N : TN) (Q : TQ) (l : Env) (L : Lg) : Prop :=
 D_script_get_2 F N Q (Env.put l 2 (.i .i64 0)) L
theorem e_script_get_1 (F : TF) (N : TN) (Q : TQ) (l t : Env) (L : Lg) : wp F (q_script_get_1 N) l t L (fin [.tmp (.l 2)] Q) nE (fin [.tmp (.l 2)] Q) = D_script_get_1 F N Q l L := wpS (e_script_get_2 F N Q) (by kernel_rfl)
/-- tarpaulin/script.get -/
def c_script_get (N : TN) : AFn := ⟨q_script_get_1 N, [.tmp (.l 2)]⟩
structure H_script_get (N : TN) (F : TF) : Prop where
  code : F (N k_script_get) = some (c_script_get N)
theorem r_script_get {F : TF} {N : TN} (h : F (N k_script_get) = some (c_script_get N)) {Q : TQ} {a0 : AV} {L : Lg} (e : D_script_get_1 F N Q (initE [a0] 0) L) : CallL F (N k_script_get) [a0] L Q :=
  CallL.of_wp h (Eq.mpr (Eq.trans (e_script_get_1 F N Q (initE [a0] 0) Env.nil L) (by kernel_rfl : _ = D_script_get_1 F N Q (initE [a0] 0) L)) e)
def q_script_first_4 (N : TN) : ACode := (.seq (.reg [⟨.t 39, none, .ld (some 3), [.l 2]⟩, ⟨.no, none, .st 3, [.l 2, .t 39]⟩, ⟨.l 3, none, .mv, [.c (.i .i64 0)]⟩]) .ret)
noncomputable def D_script_first_4 (F : TF) (N : TN) (Q : TQ) (x2 : AV) (L : Lg) : Prop :=
 wpOp F (.ld (some 3)) [x2] L fun v1 L1 =>
 wpOp F (.st 3) [x2, v1] L1 fun _ L2 =>
 fin1 (resVL Env.nil Env.nil L2 [.cell (.c x2) (some 3), .tmp (.c (.i .i64 0))]) Q L2
theorem e_script_first_4 (F : TF) (N : TN) (Q : TQ) (l t : Env) (L : Lg) : wp F (q_script_first_4 N) l t L (fin [.cell (.l 2) (some 3), .tmp (.l 3)] Q) nE (fin [.cell (.l 2) (some 3), .tmp (.l 3)] Q) = D_script_first_4 F N Q (l 2) L := by kernel_rfl
def y_script_first_6 (F : TF) (N : TN) (Q : TQ) : Nat → Kn := (fun (j : Nat) (l t : Env) (L : Lg) => bif Nat.beq j 0 then (fun (l t : Env) (L : Lg) => D_script_first_4 F N Q (l 2) L) l t L else nE j l t L)
def q_script_first_8 (N : TN) : ACode := (.seq (.seq (.seq (.reg [⟨.t 28, none, .mv, [.l 0]⟩, ⟨.t 29, none, .lenSl, [.t 28]⟩, ⟨.t 30, none, .mv, [.l 3]⟩, ⟨.t 31, none, .bin .lss, [.t 29, .t 30]⟩]) (.cond (.t 31) (.seq (.reg [⟨.t 32, none, .ld (some 3), [.l 2]⟩, ⟨.no, none, .st 3, [.l 2, .t 32]⟩, ⟨.l 3, none, .mv, [.c (.i .i64 0)]⟩]) .ret) .skip)) (.seq (.reg [⟨.t 33, none, .mv, [.l 0]⟩, ⟨.t 34, none, .slc 1 true false false, [.t 33, .c (.i .i64 1)]⟩, ⟨.t 35, none, .call (N k_script_get), [.t 34]⟩, ⟨.t 36, none, .fad 1, [.l 2]⟩, ⟨.no, none, .st 1, [.t 36, .t 35]⟩]) (.seq (.reg [⟨.t 37, none, .ld (some 3), [.l 2]⟩, ⟨.t 38, none, .mv, [.l 3]⟩, ⟨.no, none, .st 3, [.l 2, .t 37]⟩, ⟨.l 3, none, .mv, [.t 38]⟩]) .ret))) (.exit 0))
noncomputable def D_script_first_8 (F : TF) (N : TN) (Q : TQ) (x0 : AV) (x2 : AV) (x3 : AV) (L : Lg) : Prop :=
 wpOp F .lenSl [x0] L fun v1 L1 =>
 wpOp F (.bin .lss) [v1, x3] L1 fun v2 L2 =>
 condW v2
 (wpOp F (.ld (some 3)) [x2] L2 fun v3 L3 =>
 wpOp F (.st 3) [x2, v3] L3 fun _ L4 =>
 fin1 (resVL Env.nil Env.nil L4 [.cell (.c x2) (some 3), .tmp (.c (.i .i64 0))]) Q L4)
 (wpOp F (.slc 1 true false false) [x0, (.i .i64 1)] L2 fun v5 L5 =>
 CallL F (N k_script_get) [v5] L5 fun v6 L6 =>
 wpOp F (.fad 1) [x2] L6 fun v7 L7 =>
 wpOp F (.st 1) [v7, v6] L7 fun _ L8 =>
 wpOp F (.ld (some 3)) [x2] L8 fun v9 L9 =>
 wpOp F (.st 3) [x2, v9] L9 fun _ L10 =>
 fin1 (resVL Env.nil Env.nil L10 [.cell (.c x2) (some 3), .tmp (.c x3)]) Q L10)
theorem e_script_first_8 (F : TF) (N : TN) (Q : TQ) (l t : Env) (L : Lg) : wp F (q_script_first_8 N) l t L (fun (l t : Env) (L : Lg) => D_script_first_4 F N Q (l 2) L) (y_script_first_6 F N Q) (fin [.cell (.l 2) (some 3), .tmp (.l 3)] Q) = D_script_first_8 F N Q (l 0) (l 2) (l 3) L := by kernel_rfl
def q_script_first_7a (N : TN) : ACode := (.block 2 (.seq (.block 1 (.seq (.seq (.seq (.reg [⟨.t 12, none, .bin .eql, [.l 10, .c (.i .i64 1)]⟩, ⟨.t 11, none, .mv, [.t 12]⟩]) (.cond (.t 11) (.exit 1) .skip)) (.seq (.reg [⟨.t 14, none, .bin .eql, [.l 10, .c (.i .i64 2)]⟩, ⟨.t 13, none, .mv, [.t 14]⟩]) (.cond (.t 13) (.exit 2) .skip))) (.exit 0))) (.seq (.reg [⟨.t 15, none, .mv, [.l 3]⟩, ⟨.t 16, none, .bin .add, [.t 15, .c (.i .i64 8)]⟩, ⟨.l 3, none, .mv, [.t 16]⟩]) (.seq (.seq (.reg [⟨.t 17, none, .mv, [.l 0]⟩, ⟨.t 18, none, .lenSl, [.t 17]⟩, ⟨.t 19, none, .mv, [.l 3]⟩, ⟨.t 20, none, .bin .lss, [.t 18, .t 19]⟩]) (.cond (.t 20) (.seq (.reg [⟨.t 21, none, .ld (some 3), [.l 2]⟩, ⟨.no, none, .st 3, [.l 2, .t 21]⟩, ⟨.l 3, none, .mv, [.c (.i .i64 0)]⟩]) .ret) .skip)) (.reg [⟨.t 22, none, .mv, [.l 0]⟩, ⟨.t 23, none, .mv, [.l 3]⟩, ⟨.t 24, none, .bin .sub, [.t 23, .c (.i .i64 8)]⟩, ⟨.t 25, none, .slc 1 true false false, [.t 22, .t 24]⟩, ⟨.t 26, none, .call (N k_script_get), [.t 25]⟩, ⟨.t 27, none, .fad 2, [.l 2]⟩, ⟨.no, none, .st 1, [.t 27, .t 26]⟩])))))
def q_script_first_7 (N : TN) : ACode := (.seq (q_script_first_7a N) (q_script_first_8 N))
noncomputable def D_script_first_7 (F : TF) (N : TN) (Q : TQ) (x0 : AV) (x2 : AV) (x3 : AV) (x10 : AV) (L : Lg) : Prop :=
 wpOp F (.bin .eql) [x10, (.i .i64 1)] L fun v1 L1 =>
 condW v1
 (wpOp F (.bin .add) [x3, (.i .i64 8)] L1 fun v2 L2 =>
 wpOp F .lenSl [x0] L2 fun v3 L3 =>
 wpOp F (.bin .lss) [v3, v2] L3 fun v4 L4 =>
 condW v4
 (wpOp F (.ld (some 3)) [x2] L4 fun v5 L5 =>
 wpOp F (.st 3) [x2, v5] L5 fun _ L6 =>
 fin1 (resVL Env.nil Env.nil L6 [.cell (.c x2) (some 3), .tmp (.c (.i .i64 0))]) Q L6)
 (wpOp F (.bin .sub) [v2, (.i .i64 8)] L4 fun v7 L7 =>
 wpOp F (.slc 1 true false false) [x0, v7] L7 fun v8 L8 =>
 CallL F (N k_script_get) [v8] L8 fun v9 L9 =>
 wpOp F (.fad 2) [x2] L9 fun v10 L10 =>
 wpOp F (.st 1) [v10, v9] L10 fun _ L11 =>
 D_script_first_8 F N Q x0 x2 v2 L11))
 (wpOp F (.bin .eql) [x10, (.i .i64 2)] L1 fun v12 L12 =>
 condW v12
 (D_script_first_8 F N Q x0 x2 x3 L12)
 (D_script_first_4 F N Q x2 L12))
theorem e_script_first_7 (F : TF) (N : TN) (Q : TQ) (l t : Env) (L : Lg) : wp F (q_script_first_7 N) l t L (fun (l t : Env) (L : Lg) => D_script_first_4 F N Q (l 2) L) (y_script_first_6 F N Q) (fin [.cell (.l 2) (some 3), .tmp (.l 3)] Q) = D_script_first_7 F N Q (l 0) (l 2) (l 3) (l 10) L := wpS (e_script_first_8 F N Q) (by kernel_rfl)
def q_script_first_6 (N : TN) : ACode := (.block 0 (q_script_first_7 N))
theorem e_script_first_6 (F : TF) (N : TN) (Q : TQ) (l t : Env) (L : Lg) : wp F (q_script_first_6 N) l t L (fun (l t : Env) (L : Lg) => D_script_first_4 F N Q (l 2) L) nE (fin [.cell (.l 2) (some 3), .tmp (.l 3)] Q) = D_script_first_7 F N Q (l 0) (l 2) (l 3) (l 10) L := wpB (e_script_first_7 F N Q l t L)
def q_script_first_5a (N : TN) : ACode := (.reg [⟨.t 9, none, .fad 0, [.l 2]⟩, ⟨.l 10, none, .ld none, [.t 9]⟩])
def q_script_first_5 (N : TN) : ACode := (.seq (q_script_first_5a N) (q_script_first_6 N))
noncomputable def D_script_first_5 (F : TF) (N : TN) (Q : TQ) (x0 : AV) (x2 : AV) (x3 : AV) (L : Lg) : Prop :=
 wpOp F (.fad 0) [x2] L fun v1 L1 =>
 wpOp F (.ld none) [v1] L1 fun v2 L2 =>
 D_script_first_7 F N Q x0 x2 x3 v2 L2
theorem e_script_first_5 (F : TF) (N : TN) (Q : TQ) (l t : Env) (L : Lg) : wp F (q_script_first_5 N) l t L (fun (l t : Env) (L : Lg) => D_script_first_4 F N Q (l 2) L) nE (fin [.cell (.l 2) (some 3), .tmp (.l 3)] Q) = D_script_first_5 F N Q (l 0) (l 2) (l 3) L := wpS (e_script_first_6 F N Q) (by kernel_rfl)
def q_script_first_3 (N : TN) : ACode := (.seq (q_script_first_5 N) (q_script_first_4 N))
theorem e_script_first_3 (F : TF) (N : TN) (Q : TQ) (l t : Env) (L : Lg) : wp F (q_script_first_3 N) l t L (fin [.cell (.l 2) (some 3), .tmp (.l 3)] Q) nE (fin [.cell (.l 2) (some 3), .tmp (.l 3)] Q) = D_script_first_5 F N Q (l 0) (l 2) (l 3) L := wpS (e_script_first_4 F N Q) (e_script_first_5 F N Q l t L)
def q_script_first_2a (N : TN) : ACode := (.reg [⟨.t 4, none, .mv, [.l 0]⟩, ⟨.t 5, none, .iad 1, [.t 4, .c (.i .i64 0)]⟩, ⟨.t 6, none, .ld none, [.t 5]⟩, ⟨.t 7, none, .cvtI .i64, [.t 6]⟩, ⟨.t 8, none, .fad 0, [.l 2]⟩, ⟨.no, none, .st 1, [.t 8, .t 7]⟩, ⟨.l 3, none, .mv, [.c (.i .i64 9)]⟩])
def q_script_first_2 (N : TN) : ACode := (.seq (q_script_first_2a N) (q_script_first_3 N))
noncomputable def D_script_first_2 (F : TF) (N : TN) (Q : TQ) (x0 : AV) (x2 : AV) (L : Lg) : Prop :=
 wpOp F (.iad 1) [x0, (.i .i64 0)] L fun v1 L1 =>
 wpOp F (.ld none) [v1] L1 fun v2 L2 =>
 wpOp F (.cvtI .i64) [v2] L2 fun v3 L3 =>
 wpOp F (.fad 0) [x2] L3 fun v4 L4 =>
 wpOp F (.st 1) [v4, v3] L4 fun _ L5 =>
 D_script_first_5 F N Q x0 x2 (.i .i64 9) L5
theorem e_script_first_2 (F : TF) (N : TN) (Q : TQ) (l t : Env) (L : Lg) : wp F (q_script_first_2 N) l t L (fin [.cell (.l 2) (some 3), .tmp (.l 3)] Q) nE (fin [.cell (.l 2) (some 3), .tmp (.l 3)] Q) = D_script_first_2 F N Q (l 0) (l 2) L := wpS (e_script_first_3 F N Q) (by kernel_rfl)
def q_script_first_1a (N : TN) : ACode := (.reg [⟨.l 2, none, .alloc [.i .i64 0, .i .i64 0, .i .i64 0], []⟩, ⟨.l 3, none, .mv, [.c (.i .i64 0)]⟩])
def q_script_first_1 (N : TN) : ACode := (.seq (q_script_first_1a N) (q_script_first_2 N))
noncomputable def D_script_first_1 (F : TF) (N : TN) (Q : TQ) (x0 : AV) (L : Lg) : Prop :=
 wpOp F (.alloc [.i .i64 0, .i .i64 0, .i .i64 0]) [] L fun v1 L1 =>
 D_script_first_2 F N Q x0 v1 L1
theorem e_script_first_1 (F : TF) (N : TN) (Q : TQ) (l t : Env) (L : Lg) : wp F (q_script_first_1 N) l t L (fin [.cell (.l 2) (some 3), .tmp (.l 3)] Q) nE (fin [.cell (.l 2) (some 3), .tmp (.l 3)] Q) = D_script_first_1 F N Q (l 0) L := wpS (e_script_first_2 F N Q) (by kernel_rfl)
/-- tarpaulin/script.first -/
def c_script_first (N : TN) : AFn := ⟨q_script_first_1 N, [.cell (.l 2) (some 3), .tmp (.l 3)]⟩
structure H_script_first (N : TN) (F : TF) : Prop where
  code : F (N k_script_first) = some (c_script_first N)
  script_get : H_script_get N F
theorem r_script_first {F : TF} {N : TN} (h : F (N k_script_first) = some (c_script_first N)) {Q : TQ} {a0 : AV} {L : Lg} (e : D_script_first_1 F N Q a0 L) : CallL F (N k_script_first) [a0] L Q :=
  CallL.of_wp h (Eq.mpr (Eq.trans (e_script_first_1 F N Q (initE [a0] 0) Env.nil L) (by kernel_rfl : _ = D_script_first_1 F N Q a0 L)) e)
def q_script_Decode_4 (N : TN) : ACode := (.seq (.reg [⟨.t 31, none, .mv, [.l 2]⟩, ⟨.l 2, none, .mv, [.t 31]⟩, ⟨.l 3, none, .mv, [.c (.i .i64 0)]⟩]) .ret)
noncomputable def D_script_Decode_4 (F : TF) (N : TN) (Q : TQ) (x2 : AV) (L : Lg) : Prop :=
 fin1 (some (.tup [x2, (.i .i64 0)])) Q L
theorem e_script_Decode_4 (F : TF) (N : TN) (Q : TQ) (l t : Env) (L : Lg) : wp F (q_script_Decode_4 N) l t L (fin [.tmp (.l 2), .tmp (.l 3)] Q) nE (fin [.tmp (.l 2), .tmp (.l 3)] Q) = D_script_Decode_4 F N Q (l 2) L := by kernel_rfl
def w_script_Decode_3 (F : TF) (N : TN) (Q : TQ) : Kn := (fun (l t : Env) (L : Lg) => D_script_Decode_4 F N Q (l 2) L)
def y_script_Decode_5 (F : TF) (N : TN) (Q : TQ) : Nat → Kn := (fun (j : Nat) (l t : Env) (L : Lg) => bif Nat.beq j 0 then (w_script_Decode_3 F N Q) l t L else nE j l t L)
def q_script_Decode_7 (N : TN) : ACode := (.seq (.seq (.reg [⟨.t 9, none, .mv, [.l 0]⟩, ⟨.t 10, none, .lenSl, [.t 9]⟩, ⟨.t 11, none, .bin .gtr, [.t 10, .c (.i .i64 0)]⟩]) (.cond (.t 11) .skip (.exit 0))) (.block 1 (.seq (.reg [⟨.t 13, none, .mv, [.l 0]⟩, ⟨.t 14, none, .call (N k_script_first), [.t 13]⟩, ⟨.t 12, none, .mv, [.t 14]⟩, ⟨.t 15, none, .ext 0, [.t 12]⟩, ⟨.t 16, none, .ext 1, [.t 12]⟩, ⟨.l 4, none, .alloc [.i .i64 0, .i .i64 0, .i .i64 0], []⟩, ⟨.no, none, .st 3, [.l 4, .t 15]⟩, ⟨.l 5, none, .mv, [.t 16]⟩]) (.seq (.seq (.reg [⟨.t 17, none, .mv, [.l 5]⟩, ⟨.t 18, none, .bin .eql, [.t 17, .c (.i .i64 0)]⟩, ⟨.t 19, none, .mv, [.t 18]⟩, ⟨.t 20, some (.t 19, false), .mv, [.l 2]⟩, ⟨.t 21, some (.t 19, false), .lenSl, [.t 20]⟩, ⟨.t 22, some (.t 19, false), .bin .eql, [.t 21, .c (.i .i64 2000)]⟩, ⟨.t 23, none, .pick, [.t 19, .c (.b true), .t 22]⟩]) (.cond (.t 23) (.seq (.reg [⟨.l 2, none, .mv, [.c (.sl none 0 0 0)]⟩, ⟨.l 3, none, .mv, [.c (.i .i64 2)]⟩]) .ret) .skip)) (.reg [⟨.t 24, none, .mv, [.l 2]⟩, ⟨.t 25, none, .ld (some 3), [.l 4]⟩, ⟨.t 26, none, .bslice [.i .i64 0, .i .i64 0, .i .i64 0] 1 3 [0], [.t 25]⟩, ⟨.t 27, none, .app 3 24, [.t 24, .t 26]⟩, ⟨.t 28, none, .mv, [.l 0]⟩, ⟨.t 29, none, .mv, [.l 5]⟩, ⟨.t 30, none, .slc 1 true false false, [.t 28, .t 29]⟩, ⟨.l 2, none, .mv, [.t 27]⟩, ⟨.l 0, none, .mv, [.t 30]⟩])))))
noncomputable def D_script_Decode_7 (F : TF) (N : TN) (Q : TQ) (k1 : TK) (l : Env) (L : Lg) : Prop :=
 wpOp F .lenSl [(l 0)] L fun v1 L1 =>
 wpOp F (.bin .gtr) [v1, (.i .i64 0)] L1 fun v2 L2 =>
 condW v2
 (CallL F (N k_script_first) [(l 0)] L2 fun v3 L3 =>
 wpOp F (.ext 0) [v3] L3 fun v4 L4 =>
 wpOp F (.ext 1) [v3] L4 fun v5 L5 =>
 wpOp F (.alloc [.i .i64 0, .i .i64 0, .i .i64 0]) [] L5 fun v6 L6 =>
 wpOp F (.st 3) [v6, v4] L6 fun _ L7 =>
 wpOp F (.bin .eql) [v5, (.i .i64 0)] L7 fun v8 L8 =>
 gdOp F v8 false .mv [(l 2)] L8 fun v9 L9 =>
 gdOp F v8 false .lenSl [v9] L9 fun v10 L10 =>
 gdOp F v8 false (.bin .eql) [v10, (.i .i64 2000)] L10 fun v11 L11 =>
 wpOp F .pick [v8, (.b true), v11] L11 fun v12 L12 =>
 condW v12
 (fin1 (some (.tup [(.sl none 0 0 0), (.i .i64 2)])) Q L12)
 (wpOp F (.ld (some 3)) [v6] L12 fun v13 L13 =>
 wpOp F (.bslice [.i .i64 0, .i .i64 0, .i .i64 0] 1 3 [0]) [v13] L13 fun v14 L14 =>
 wpOp F (.app 3 24) [(l 2), v14] L14 fun v15 L15 =>
 wpOp F (.slc 1 true false false) [(l 0), v5] L15 fun v16 L16 =>
 k1 (Env.put (Env.put (Env.put (Env.put l 4 v6) 5 v5) 2 v15) 0 v16) L16))
 (D_script_Decode_4 F N Q (l 2) L2)
theorem e_script_Decode_7 (F : TF) (N : TN) (Q : TQ) (k1 : TK) (l t : Env) (L : Lg) : wp F (q_script_Decode_7 N) l t L (fun (l _ : Env) (L : Lg) => k1 l L) (y_script_Decode_5 F N Q) (fin [.tmp (.l 2), .tmp (.l 3)] Q) = D_script_Decode_7 F N Q k1 l L := by kernel_rfl
def q_script_Decode_6 (N : TN) : ACode := (.loop (q_script_Decode_7 N))
noncomputable def D_script_Decode_6 (F : TF) (N : TN) (Q : TQ) (l : Env) (L : Lg) : Prop :=
 loopW (fun l t L k1 => D_script_Decode_7 F N Q k1 l L) l L
theorem e_script_Decode_6 (F : TF) (N : TN) (Q : TQ) (l t : Env) (L : Lg) : wp F (q_script_Decode_6 N) l t L (w_script_Decode_3 F N Q) (y_script_Decode_5 F N Q) (fin [.tmp (.l 2), .tmp (.l 3)] Q) = D_script_Decode_6 F N Q l L := wpL (fun l t L k1 => e_script_Decode_7 F N Q k1 l t L) (by kernel_rfl)
def q_script_Decode_5 (N : TN) : ACode := (.block 0 (q_script_Decode_6 N))
theorem e_script_Decode_5 (F : TF) (N : TN) (Q : TQ) (l t : Env) (L : Lg) : wp F (q_script_Decode_5 N) l t L (w_script_Decode_3 F N Q) nE (fin [.tmp (.l 2), .tmp (.l 3)] Q) = D_script_Decode_6 F N Q l L := wpB (e_script_Decode_6 F N Q l t L)
def q_script_Decode_3 (N : TN) : ACode := (.seq (q_script_Decode_5 N) (q_script_Decode_4 N))
theorem e_script_Decode_3 (F : TF) (N : TN) (Q : TQ) (l t : Env) (L : Lg) : wp F (q_script_Decode_3 N) l t L (fin [.tmp (.l 2), .tmp (.l 3)] Q) nE (fin [.tmp (.l 2), .tmp (.l 3)] Q) = D_script_Decode_6 F N Q l L := wpS (e_script_Decode_4 F N Q) (e_script_Decode_5 F N Q l t L)
def q_script_Decode_2a (N : TN) : ACode := (.seq (.reg [⟨.t 6, none, .mv, [.l 0]⟩, ⟨.t 7, none, .lenSl, [.t 6]⟩, ⟨.t 8, none, .bin .gtr, [.t 7, .c (.i .i64 65536)]⟩]) (.cond (.t 8) (.seq (.reg [⟨.l 2, none, .mv, [.c (.sl none 0 0 0)]⟩, ⟨.l 3, none, .mv, [.c (.i .i64 2)]⟩]) .ret) .skip))
def q_script_Decode_2 (N : TN) : ACode := (.seq (q_script_Decode_2a N) (q_script_Decode_3 N))
noncomputable def D_script_Decode_2 (F : TF) (N : TN) (Q : TQ) (l : Env) (L : Lg) : Prop :=
 wpOp F .lenSl [(l 0)] L fun v1 L1 =>
 wpOp F (.bin .gtr) [v1, (.i .i64 65536)] L1 fun v2 L2 =>
 condW v2
 (fin1 (some (.tup [(.sl none 0 0 0), (.i .i64 2)])) Q L2)
 (D_script_Decode_6 F N Q l L2)
theorem e_script_Decode_2 (F : TF) (N : TN) (Q : TQ) (l t : Env) (L : Lg) : wp F (q_script_Decode_2 N) l t L (fin [.tmp (.l 2), .tmp (.l 3)] Q) nE (fin [.tmp (.l 2), .tmp (.l 3)] Q) = D_script_Decode_2 F N Q l L := wpS (e_script_Decode_3 F N Q) (by kernel_rfl)
def q_script_Decode_1a (N : TN) : ACode := (.reg [⟨.l 2, none, .mv, [.c (.sl none 0 0 0)]⟩, ⟨.l 3, none, .mv, [.c (.i .i64 0)]⟩])
def q_script_Decode_1 (N : TN) : ACode := (.seq (q_script_Decode_1a N) (q_script_Decode_2 N))
noncomputable def D_script_Decode_1 (F : TF) (N : TN) (Q : TQ) (l : Env) (L : Lg) : Prop :=
 D_script_Decode_2 F N Q (Env.put (Env.put l 2 (.sl none 0 0 0)) 3 (.i .i64 0)) L
theorem e_script_Decode_1 (F : TF) (N : TN) (Q : TQ) (l t : Env) (L : Lg) : wp F (q_script_Decode_1 N) l t L (fin [.tmp (.l 2), .tmp (.l 3)] Q) nE (fin [.tmp (.l 2), .tmp (.l 3)] Q) = D_script_Decode_1 F N Q l L := wpS (e_script_Decode_2 F N Q) (by kernel_rfl)
/-- tarpaulin/script.Decode -/
def c_script_Decode (N : TN) : AFn := ⟨q_script_Decode_1 N, [.tmp (.l 2), .tmp (.l 3)]⟩
structure H_script_Decode (N : TN) (F : TF) : Prop where
  code : F (N k_script_Decode) = some (c_script_Decode N)
  script_first : H_script_first N F
theorem r_script_Decode {F : TF} {N : TN} (h : F (N k_script_Decode) = some (c_script_Decode N)) {Q : TQ} {a0 : AV} {L : Lg} (e : D_script_Decode_1 F N Q (initE [a0] 0) L) : CallL F (N k_script_Decode) [a0] L Q :=
  CallL.of_wp h (Eq.mpr (Eq.trans (e_script_Decode_1 F N Q (initE [a0] 0) Env.nil L) (by kernel_rfl : _ = D_script_Decode_1 F N Q (initE [a0] 0) L)) e)
def q_tarpaulinlaw3_same_4 (N : TN) : ACode := (.seq (.reg [⟨.l 4, none, .mv, [.c (.b true)]⟩]) .ret)
noncomputable def D_tarpaulinlaw3_same_4 (F : TF) (N : TN) (Q : TQ) (L : Lg) : Prop :=
 fin1 (some (.b true)) Q L
theorem e_tarpaulinlaw3_same_4 (F : TF) (N : TN) (Q : TQ) (l t : Env) (L : Lg) : wp F (q_tarpaulinlaw3_same_4 N) l t L (fin [.tmp (.l 4)] Q) nE (fin [.tmp (.l 4)] Q) = D_tarpaulinlaw3_same_4 F N Q L := by kernel_rfl
def y_tarpaulinlaw3_same_6 (F : TF) (N : TN) (Q : TQ) : Nat → Kn := (fun (j : Nat) (l t : Env) (L : Lg) => bif Nat.beq j 0 then (fun (l t : Env) (L : Lg) => D_tarpaulinlaw3_same_4 F N Q L) l t L else nE j l t L)
def q_tarpaulinlaw3_same_8 (N : TN) : ACode := (.seq (.seq (.reg [⟨.t 11, none, .mv, [.l 5]⟩, ⟨.t 12, none, .mv, [.l 0]⟩, ⟨.t 13, none, .lenSl, [.t 12]⟩, ⟨.t 14, none, .bin .lss, [.t 11, .t 13]⟩]) (.cond (.t 14) .skip (.exit 0))) (.seq (.block 1 (.seq (.reg [⟨.t 17, none, .mv, [.l 0]⟩, ⟨.t 18, none, .mv, [.l 5]⟩, ⟨.t 19, none, .iad 3, [.t 17, .t 18]⟩, ⟨.t 20, none, .ld (some 3), [.t 19]⟩, ⟨.t 21, none, .mv, [.l 1]⟩, ⟨.t 22, none, .mv, [.l 5]⟩, ⟨.t 23, none, .iad 3, [.t 21, .t 22]⟩, ⟨.t 24, none, .ld (some 3), [.t 23]⟩, ⟨.t 25, none, .eq true (.agg [(0, 1), (1, 1), (2, 1)]), [.t 20, .t 24]⟩]) (.cond (.t 25) (.seq (.reg [⟨.l 4, none, .mv, [.c (.b false)]⟩]) .ret) .skip))) (.reg [⟨.t 15, none, .mv, [.l 5]⟩, ⟨.t 16, none, .bin .add, [.t 15, .c (.i .i64 1)]⟩, ⟨.l 5, none, .mv, [.t 16]⟩])))
noncomputable def D_tarpaulinlaw3_same_8 (F : TF) (N : TN) (Q : TQ) (k1 : TK) (l : Env) (L : Lg) : Prop :=
 wpOp F .lenSl [(l 0)] L fun v1 L1 =>
 wpOp F (.bin .lss) [(l 5), v1] L1 fun v2 L2 =>
 condW v2
 (wpOp F (.iad 3) [(l 0), (l 5)] L2 fun v3 L3 =>
 wpOp F (.ld (some 3)) [v3] L3 fun v4 L4 =>
 wpOp F (.iad 3) [(l 1), (l 5)] L4 fun v5 L5 =>
 wpOp F (.ld (some 3)) [v5] L5 fun v6 L6 =>
 wpOp F (.eq true (.agg [(0, 1), (1, 1), (2, 1)])) [v4, v6] L6 fun v7 L7 =>
 condW v7
 (fin1 (some (.b false)) Q L7)
 (wpOp F (.bin .add) [(l 5), (.i .i64 1)] L7 fun v8 L8 =>
 k1 (Env.put l 5 v8) L8))
 (D_tarpaulinlaw3_same_4 F N Q L2)
theorem e_tarpaulinlaw3_same_8 (F : TF) (N : TN) (Q : TQ) (k1 : TK) (l t : Env) (L : Lg) : wp F (q_tarpaulinlaw3_same_8 N) l t L (fun (l _ : Env) (L : Lg) => k1 l L) (y_tarpaulinlaw3_same_6 F N Q) (fin [.tmp (.l 4)] Q) = D_tarpaulinlaw3_same_8 F N Q k1 l L := by kernel_rfl
def q_tarpaulinlaw3_same_7 (N : TN) : ACode := (.loop (q_tarpaulinlaw3_same_8 N))
noncomputable def D_tarpaulinlaw3_same_7 (F : TF) (N : TN) (Q : TQ) (l : Env) (L : Lg) : Prop :=
 loopW (fun l t L k1 => D_tarpaulinlaw3_same_8 F N Q k1 l L) l L
theorem e_tarpaulinlaw3_same_7 (F : TF) (N : TN) (Q : TQ) (l t : Env) (L : Lg) : wp F (q_tarpaulinlaw3_same_7 N) l t L (fun (l t : Env) (L : Lg) => D_tarpaulinlaw3_same_4 F N Q L) (y_tarpaulinlaw3_same_6 F N Q) (fin [.tmp (.l 4)] Q) = D_tarpaulinlaw3_same_7 F N Q l L := wpL (fun l t L k1 => e_tarpaulinlaw3_same_8 F N Q k1 l t L) (by kernel_rfl)
def q_tarpaulinlaw3_same_6 (N : TN) : ACode := (.block 0 (q_tarpaulinlaw3_same_7 N))
theorem e_tarpaulinlaw3_same_6 (F : TF) (N : TN) (Q : TQ) (l t : Env) (L : Lg) : wp F (q_tarpaulinlaw3_same_6 N) l t L (fun (l t : Env) (L : Lg) => D_tarpaulinlaw3_same_4 F N Q L) nE (fin [.tmp (.l 4)] Q) = D_tarpaulinlaw3_same_7 F N Q l L := wpB (e_tarpaulinlaw3_same_7 F N Q l t L)
def q_tarpaulinlaw3_same_5a (N : TN) : ACode := (.reg [⟨.l 5, none, .mv, [.c (.i .i64 0)]⟩])
def q_tarpaulinlaw3_same_5 (N : TN) : ACode := (.seq (q_tarpaulinlaw3_same_5a N) (q_tarpaulinlaw3_same_6 N))
noncomputable def D_tarpaulinlaw3_same_5 (F : TF) (N : TN) (Q : TQ) (l : Env) (L : Lg) : Prop :=
 D_tarpaulinlaw3_same_7 F N Q (Env.put l 5 (.i .i64 0)) L
theorem e_tarpaulinlaw3_same_5 (F : TF) (N : TN) (Q : TQ) (l t : Env) (L : Lg) : wp F (q_tarpaulinlaw3_same_5 N) l t L (fun (l t : Env) (L : Lg) => D_tarpaulinlaw3_same_4 F N Q L) nE (fin [.tmp (.l 4)] Q) = D_tarpaulinlaw3_same_5 F N Q l L := wpS (e_tarpaulinlaw3_same_6 F N Q) (by kernel_rfl)
def q_tarpaulinlaw3_same_3 (N : TN) : ACode := (.seq (q_tarpaulinlaw3_same_5 N) (q_tarpaulinlaw3_same_4 N))
theorem e_tarpaulinlaw3_same_3 (F : TF) (N : TN) (Q : TQ) (l t : Env) (L : Lg) : wp F (q_tarpaulinlaw3_same_3 N) l t L (fin [.tmp (.l 4)] Q) nE (fin [.tmp (.l 4)] Q) = D_tarpaulinlaw3_same_5 F N Q l L := wpS (e_tarpaulinlaw3_same_4 F N Q) (e_tarpaulinlaw3_same_5 F N Q l t L)
def q_tarpaulinlaw3_same_2a (N : TN) : ACode := (.seq (.reg [⟨.t 6, none, .mv, [.l 0]⟩, ⟨.t 7, none, .lenSl, [.t 6]⟩, ⟨.t 8, none, .mv, [.l 1]⟩, ⟨.t 9, none, .lenSl, [.t 8]⟩, ⟨.t 10, none, .bin .neq, [.t 7, .t 9]⟩]) (.cond (.t 10) (.seq (.reg [⟨.l 4, none, .mv, [.c (.b false)]⟩]) .ret) .skip))
def q_tarpaulinlaw3_same_2 (N : TN) : ACode := (.seq (q_tarpaulinlaw3_same_2a N) (q_tarpaulinlaw3_same_3 N))
noncomputable def D_tarpaulinlaw3_same_2 (F : TF) (N : TN) (Q : TQ) (l : Env) (L : Lg) : Prop :=
 wpOp F .lenSl [(l 0)] L fun v1 L1 =>
 wpOp F .lenSl [(l 1)] L1 fun v2 L2 =>
 wpOp F (.bin .neq) [v1, v2] L2 fun v3 L3 =>
 condW v3
 (fin1 (some (.b false)) Q L3)
 (D_tarpaulinlaw3_same_5 F N Q l L3)
theorem e_tarpaulinlaw3_same_2 (F : TF) (N : TN) (Q : TQ) (l t : Env) (L : Lg) : wp F (q_tarpaulinlaw3_same_2 N) l t L (fin [.tmp (.l 4)] Q) nE (fin [.tmp (.l 4)] Q) = D_tarpaulinlaw3_same_2 F N Q l L := wpS (e_tarpaulinlaw3_same_3 F N Q) (by kernel_rfl)
def q_tarpaulinlaw3_same_1a (N : TN) : ACode := (.reg [⟨.l 4, none, .mv, [.c (.b false)]⟩])
def q_tarpaulinlaw3_same_1 (N : TN) : ACode := (.seq (q_tarpaulinlaw3_same_1a N) (q_tarpaulinlaw3_same_2 N))
noncomputable def D_tarpaulinlaw3_same_1 (F : TF) (N : TN) (Q : TQ) (l : Env) (L : Lg) : Prop :=
 D_tarpaulinlaw3_same_2 F N Q (Env.put l 4 (.b false)) L
theorem e_tarpaulinlaw3_same_1 (F : TF) (N : TN) (Q : TQ) (l t : Env) (L : Lg) : wp F (q_tarpaulinlaw3_same_1 N) l t L (fin [.tmp (.l 4)] Q) nE (fin [.tmp (.l 4)] Q) = D_tarpaulinlaw3_same_1 F N Q l L := wpS (e_tarpaulinlaw3_same_2 F N Q) (by kernel_rfl)
/-- tarpaulin/tarpaulinlaw3.same -/
def c_tarpaulinlaw3_same (N : TN) : AFn := ⟨q_tarpaulinlaw3_same_1 N, [.tmp (.l 4)]⟩
structure H_tarpaulinlaw3_same (N : TN) (F : TF) : Prop where
  code : F (N k_tarpaulinlaw3_same) = some (c_tarpaulinlaw3_same N)
theorem r_tarpaulinlaw3_same {F : TF} {N : TN} (h : F (N k_tarpaulinlaw3_same) = some (c_tarpaulinlaw3_same N)) {Q : TQ} {a0 a1 : AV} {L : Lg} (e : D_tarpaulinlaw3_same_1 F N Q (initE [a0, a1] 0) L) : CallL F (N k_tarpaulinlaw3_same) [a0, a1] L Q :=
  CallL.of_wp h (Eq.mpr (Eq.trans (e_tarpaulinlaw3_same_1 F N Q (initE [a0, a1] 0) Env.nil L) (by kernel_rfl : _ = D_tarpaulinlaw3_same_1 F N Q (initE [a0, a1] 0) L)) e)
def q_tarpaulinlaw3_bytes_1 (N : TN) : ACode := (.seq (.reg [⟨.l 4, none, .mv, [.c (.b false)]⟩]) (.seq (.reg [⟨.t 5, none, .mv, [.l 0]⟩, ⟨.t 6, none, .cvtB, [.t 5]⟩, ⟨.t 7, none, .mv, [.l 1]⟩, ⟨.t 8, none, .cvtB, [.t 7]⟩, ⟨.t 9, none, .sbin .eql, [.t 6, .t 8]⟩, ⟨.l 4, none, .mv, [.t 9]⟩]) .ret))
noncomputable def D_tarpaulinlaw3_bytes_1 (F : TF) (N : TN) (Q : TQ) (x0 : AV) (x1 : AV) (L : Lg) : Prop :=
 wpOp F .cvtB [x0] L fun v1 L1 =>
 wpOp F .cvtB [x1] L1 fun v2 L2 =>
 wpOp F (.sbin .eql) [v1, v2] L2 fun v3 L3 =>
 fin1 (some v3) Q L3
theorem e_tarpaulinlaw3_bytes_1 (F : TF) (N : TN) (Q : TQ) (l t : Env) (L : Lg) : wp F (q_tarpaulinlaw3_bytes_1 N) l t L (fin [.tmp (.l 4)] Q) nE (fin [.tmp (.l 4)] Q) = D_tarpaulinlaw3_bytes_1 F N Q (l 0) (l 1) L := by kernel_rfl
/-- tarpaulin/tarpaulinlaw3.bytes -/
def c_tarpaulinlaw3_bytes (N : TN) : AFn := ⟨q_tarpaulinlaw3_bytes_1 N, [.tmp (.l 4)]⟩
structure H_tarpaulinlaw3_bytes (N : TN) (F : TF) : Prop where
  code : F (N k_tarpaulinlaw3_bytes) = some (c_tarpaulinlaw3_bytes N)
theorem r_tarpaulinlaw3_bytes {F : TF} {N : TN} (h : F (N k_tarpaulinlaw3_bytes) = some (c_tarpaulinlaw3_bytes N)) {Q : TQ} {a0 a1 : AV} {L : Lg} (e : D_tarpaulinlaw3_bytes_1 F N Q a0 a1 L) : CallL F (N k_tarpaulinlaw3_bytes) [a0, a1] L Q :=
  CallL.of_wp h (Eq.mpr (Eq.trans (e_tarpaulinlaw3_bytes_1 F N Q (initE [a0, a1] 0) Env.nil L) (by kernel_rfl : _ = D_tarpaulinlaw3_bytes_1 F N Q a0 a1 L)) e)
def q_tarpaulinlaw3_ScriptLimits_9 (N : TN) : ACode := (.seq (.reg [⟨.t 79, none, .mv, [.l 9]⟩, ⟨.t 80, none, .bin .eql, [.t 79, .c (.i .i64 0)]⟩, ⟨.t 81, none, .mv, [.t 80]⟩, ⟨.t 82, some (.t 81, true), .mv, [.l 8]⟩, ⟨.t 83, some (.t 81, true), .mv, [.l 6]⟩, ⟨.t 84, some (.t 81, true), .call (N k_tarpaulinlaw3_bytes), [.t 82, .t 83]⟩, ⟨.t 85, none, .pick, [.t 81, .t 84, .c (.b false)]⟩, ⟨.t 86, none, .mv, [.t 85]⟩, ⟨.t 87, some (.t 86, true), .mv, [.l 11]⟩, ⟨.t 88, some (.t 86, true), .bin .eql, [.t 87, .c (.i .i64 0)]⟩, ⟨.t 89, none, .pick, [.t 86, .t 88, .c (.b false)]⟩, ⟨.t 90, none, .mv, [.t 89]⟩, ⟨.t 91, some (.t 90, true), .mv, [.l 5]⟩, ⟨.t 92, some (.t 90, true), .mv, [.l 10]⟩, ⟨.t 93, some (.t 90, true), .call (N k_tarpaulinlaw3_same), [.t 91, .t 92]⟩, ⟨.t 94, none, .pick, [.t 90, .t 93, .c (.b false)]⟩, ⟨.t 95, none, .mv, [.t 94]⟩, ⟨.t 96, some (.t 95, true), .call (N k_tarpaulinlaw3_awake), []⟩, ⟨.t 97, none, .pick, [.t 95, .t 96, .c (.b false)]⟩, ⟨.l 4, none, .mv, [.t 97]⟩]) .ret)
noncomputable def D_tarpaulinlaw3_ScriptLimits_9 (F : TF) (N : TN) (Q : TQ) (x5 : AV) (x6 : AV) (x8 : AV) (x9 : AV) (x10 : AV) (x11 : AV) (L : Lg) : Prop :=
 wpOp F (.bin .eql) [x9, (.i .i64 0)] L fun v1 L1 =>
 gdOp F v1 true .mv [x8] L1 fun v2 L2 =>
 gdOp F v1 true .mv [x6] L2 fun v3 L3 =>
 gdOp F v1 true (.call (N k_tarpaulinlaw3_bytes)) [v2, v3] L3 fun v4 L4 =>
 wpOp F .pick [v1, v4, (.b false)] L4 fun v5 L5 =>
 gdOp F v5 true .mv [x11] L5 fun v6 L6 =>
 gdOp F v5 true (.bin .eql) [v6, (.i .i64 0)] L6 fun v7 L7 =>
 wpOp F .pick [v5, v7, (.b false)] L7 fun v8 L8 =>
 gdOp F v8 true .mv [x5] L8 fun v9 L9 =>
 gdOp F v8 true .mv [x10] L9 fun v10 L10 =>
 gdOp F v8 true (.call (N k_tarpaulinlaw3_same)) [v9, v10] L10 fun v11 L11 =>
 wpOp F .pick [v8, v11, (.b false)] L11 fun v12 L12 =>
 gdOp F v12 true (.call (N k_tarpaulinlaw3_awake)) [] L12 fun v13 L13 =>
 wpOp F .pick [v12, v13, (.b false)] L13 fun v14 L14 =>
 fin1 (some v14) Q L14
theorem e_tarpaulinlaw3_ScriptLimits_9 (F : TF) (N : TN) (Q : TQ) (l t : Env) (L : Lg) : wp F (q_tarpaulinlaw3_ScriptLimits_9 N) l t L (fin [.tmp (.l 4)] Q) nE (fin [.tmp (.l 4)] Q) = D_tarpaulinlaw3_ScriptLimits_9 F N Q (l 5) (l 6) (l 8) (l 9) (l 10) (l 11) L := by kernel_rfl
def q_tarpaulinlaw3_ScriptLimits_8a (N : TN) : ACode := (.seq (.reg [⟨.t 58, none, .mv, [.l 0]⟩, ⟨.t 59, none, .bin .gtr, [.t 58, .c (.i .i64 2000)]⟩]) (.cond (.t 59) (.seq (.reg [⟨.t 60, none, .mv, [.l 9]⟩, ⟨.t 61, none, .bin .eql, [.t 60, .c (.i .i64 1)]⟩, ⟨.t 62, none, .mv, [.t 61]⟩, ⟨.t 63, some (.t 62, true), .mv, [.l 8]⟩, ⟨.t 64, some (.t 62, true), .lenSl, [.t 63]⟩, ⟨.t 65, some (.t 62, true), .bin .eql, [.t 64, .c (.i .i64 0)]⟩, ⟨.t 66, none, .pick, [.t 62, .t 65, .c (.b false)]⟩, ⟨.t 67, none, .mv, [.t 66]⟩, ⟨.t 68, some (.t 67, true), .mv, [.l 11]⟩, ⟨.t 69, some (.t 67, true), .bin .eql, [.t 68, .c (.i .i64 2)]⟩, ⟨.t 70, none, .pick, [.t 67, .t 69, .c (.b false)]⟩, ⟨.t 71, none, .mv, [.t 70]⟩, ⟨.t 72, some (.t 71, true), .mv, [.l 10]⟩, ⟨.t 73, some (.t 71, true), .lenSl, [.t 72]⟩, ⟨.t 74, some (.t 71, true), .bin .eql, [.t 73, .c (.i .i64 0)]⟩, ⟨.t 75, none, .pick, [.t 71, .t 74, .c (.b false)]⟩, ⟨.t 76, none, .mv, [.t 75]⟩, ⟨.t 77, some (.t 76, true), .call (N k_tarpaulinlaw3_awake), []⟩, ⟨.t 78, none, .pick, [.t 76, .t 77, .c (.b false)]⟩, ⟨.l 4, none, .mv, [.t 78]⟩]) .ret) .skip))
def q_tarpaulinlaw3_ScriptLimits_8 (N : TN) : ACode := (.seq (q_tarpaulinlaw3_ScriptLimits_8a N) (q_tarpaulinlaw3_ScriptLimits_9 N))
noncomputable def D_tarpaulinlaw3_ScriptLimits_8 (F : TF) (N : TN) (Q : TQ) (x0 : AV) (x5 : AV) (x6 : AV) (x8 : AV) (x9 : AV) (x10 : AV) (x11 : AV) (L : Lg) : Prop :=
 wpOp F (.bin .gtr) [x0, (.i .i64 2000)] L fun v1 L1 =>
 condW v1
 (wpOp F (.bin .eql) [x9, (.i .i64 1)] L1 fun v2 L2 =>
 gdOp F v2 true .mv [x8] L2 fun v3 L3 =>
 gdOp F v2 true .lenSl [v3] L3 fun v4 L4 =>
 gdOp F v2 true (.bin .eql) [v4, (.i .i64 0)] L4 fun v5 L5 =>
 wpOp F .pick [v2, v5, (.b false)] L5 fun v6 L6 =>
 gdOp F v6 true .mv [x11] L6 fun v7 L7 =>
 gdOp F v6 true (.bin .eql) [v7, (.i .i64 2)] L7 fun v8 L8 =>
 wpOp F .pick [v6, v8, (.b false)] L8 fun v9 L9 =>
 gdOp F v9 true .mv [x10] L9 fun v10 L10 =>
 gdOp F v9 true .lenSl [v10] L10 fun v11 L11 =>
 gdOp F v9 true (.bin .eql) [v11, (.i .i64 0)] L11 fun v12 L12 =>
 wpOp F .pick [v9, v12, (.b false)] L12 fun v13 L13 =>
 gdOp F v13 true (.call (N k_tarpaulinlaw3_awake)) [] L13 fun v14 L14 =>
 wpOp F .pick [v13, v14, (.b false)] L14 fun v15 L15 =>
 fin1 (some v15) Q L15)
 (D_tarpaulinlaw3_ScriptLimits_9 F N Q x5 x6 x8 x9 x10 x11 L1)
theorem e_tarpaulinlaw3_ScriptLimits_8 (F : TF) (N : TN) (Q : TQ) (l t : Env) (L : Lg) : wp F (q_tarpaulinlaw3_ScriptLimits_8 N) l t L (fin [.tmp (.l 4)] Q) nE (fin [.tmp (.l 4)] Q) = D_tarpaulinlaw3_ScriptLimits_8 F N Q (l 0) (l 5) (l 6) (l 8) (l 9) (l 10) (l 11) L := wpS (e_tarpaulinlaw3_ScriptLimits_9 F N Q) (by kernel_rfl)
def q_tarpaulinlaw3_ScriptLimits_7a (N : TN) : ACode := (.reg [⟨.t 54, none, .mv, [.l 6]⟩, ⟨.t 55, none, .call (N k_script_Decode), [.t 54]⟩, ⟨.t 53, none, .mv, [.t 55]⟩, ⟨.t 56, none, .ext 0, [.t 53]⟩, ⟨.t 57, none, .ext 1, [.t 53]⟩, ⟨.l 10, none, .mv, [.t 56]⟩, ⟨.l 11, none, .mv, [.t 57]⟩])
def q_tarpaulinlaw3_ScriptLimits_7 (N : TN) : ACode := (.seq (q_tarpaulinlaw3_ScriptLimits_7a N) (q_tarpaulinlaw3_ScriptLimits_8 N))
noncomputable def D_tarpaulinlaw3_ScriptLimits_7 (F : TF) (N : TN) (Q : TQ) (x0 : AV) (x5 : AV) (x6 : AV) (x8 : AV) (x9 : AV) (L : Lg) : Prop :=
 CallL F (N k_script_Decode) [x6] L fun v1 L1 =>
 wpOp F (.ext 0) [v1] L1 fun v2 L2 =>
 wpOp F (.ext 1) [v1] L2 fun v3 L3 =>
 D_tarpaulinlaw3_ScriptLimits_8 F N Q x0 x5 x6 x8 x9 v2 v3 L3
theorem e_tarpaulinlaw3_ScriptLimits_7 (F : TF) (N : TN) (Q : TQ) (l t : Env) (L : Lg) : wp F (q_tarpaulinlaw3_ScriptLimits_7 N) l t L (fin [.tmp (.l 4)] Q) nE (fin [.tmp (.l 4)] Q) = D_tarpaulinlaw3_ScriptLimits_7 F N Q (l 0) (l 5) (l 6) (l 8) (l 9) L := wpS (e_tarpaulinlaw3_ScriptLimits_8 F N Q) (by kernel_rfl)
def q_tarpaulinlaw3_ScriptLimits_6a (N : TN) : ACode := (.reg [⟨.t 49, none, .mv, [.l 5]⟩, ⟨.t 50, none, .call (N k_script_Encode), [.t 49]⟩, ⟨.t 48, none, .mv, [.t 50]⟩, ⟨.t 51, none, .ext 0, [.t 48]⟩, ⟨.t 52, none, .ext 1, [.t 48]⟩, ⟨.l 8, none, .mv, [.t 51]⟩, ⟨.l 9, none, .mv, [.t 52]⟩])
def q_tarpaulinlaw3_ScriptLimits_6 (N : TN) : ACode := (.seq (q_tarpaulinlaw3_ScriptLimits_6a N) (q_tarpaulinlaw3_ScriptLimits_7 N))
noncomputable def D_tarpaulinlaw3_ScriptLimits_6 (F : TF) (N : TN) (Q : TQ) (x0 : AV) (x5 : AV) (x6 : AV) (L : Lg) : Prop :=
 CallL F (N k_script_Encode) [x5] L fun v1 L1 =>
 wpOp F (.ext 0) [v1] L1 fun v2 L2 =>
 wpOp F (.ext 1) [v1] L2 fun v3 L3 =>
 D_tarpaulinlaw3_ScriptLimits_7 F N Q x0 x5 x6 v2 v3 L3
theorem e_tarpaulinlaw3_ScriptLimits_6 (F : TF) (N : TN) (Q : TQ) (l t : Env) (L : Lg) : wp F (q_tarpaulinlaw3_ScriptLimits_6 N) l t L (fin [.tmp (.l 4)] Q) nE (fin [.tmp (.l 4)] Q) = D_tarpaulinlaw3_ScriptLimits_6 F N Q (l 0) (l 5) (l 6) L := wpS (e_tarpaulinlaw3_ScriptLimits_7 F N Q) (by kernel_rfl)
def w_tarpaulinlaw3_ScriptLimits_5 (F : TF) (N : TN) (Q : TQ) : Kn := (fun (l t : Env) (L : Lg) => D_tarpaulinlaw3_ScriptLimits_6 F N Q (l 0) (l 5) (l 6) L)
def y_tarpaulinlaw3_ScriptLimits_11 (F : TF) (N : TN) (Q : TQ) : Nat → Kn := (fun (j : Nat) (l t : Env) (L : Lg) => bif Nat.beq j 0 then (w_tarpaulinlaw3_ScriptLimits_5 F N Q) l t L else nE j l t L)
def q_tarpaulinlaw3_ScriptLimits_15 (N : TN) : ACode := (.reg [⟨.t 24, none, .mv, [.l 7]⟩, ⟨.t 25, none, .bin .add, [.t 24, .c (.i .i64 1)]⟩, ⟨.l 7, none, .mv, [.t 25]⟩])
noncomputable def D_tarpaulinlaw3_ScriptLimits_15 (F : TF) (N : TN) (Q : TQ) (k1 : TK) (l : Env) (L : Lg) : Prop :=
 wpOp F (.bin .add) [(l 7), (.i .i64 1)] L fun v1 L1 =>
 k1 (Env.put l 7 v1) L1
theorem e_tarpaulinlaw3_ScriptLimits_15 (F : TF) (N : TN) (Q : TQ) (k1 : TK) (l t : Env) (L : Lg) : wp F (q_tarpaulinlaw3_ScriptLimits_15 N) l t L (fun (l _ : Env) (L : Lg) => k1 l L) (y_tarpaulinlaw3_ScriptLimits_11 F N Q) (fin [.tmp (.l 4)] Q) = D_tarpaulinlaw3_ScriptLimits_15 F N Q k1 l L := by kernel_rfl
def w_tarpaulinlaw3_ScriptLimits_14 (F : TF) (N : TN) (Q : TQ) (k1 : TK) : Kn := (fun (l t : Env) (L : Lg) => D_tarpaulinlaw3_ScriptLimits_15 F N Q k1 l L)
def y_tarpaulinlaw3_ScriptLimits_16 (F : TF) (N : TN) (Q : TQ) (k1 : TK) : Nat → Kn := (fun (j : Nat) (l t : Env) (L : Lg) => bif Nat.beq j 1 then (w_tarpaulinlaw3_ScriptLimits_14 F N Q k1) l t L else (y_tarpaulinlaw3_ScriptLimits_11 F N Q) j l t L)
def q_tarpaulinlaw3_ScriptLimits_18 (N : TN) : ACode := (.seq (.seq (.reg [⟨.t 30, none, .mv, [.l 1]⟩]) (.cond (.t 30) (.reg [⟨.t 31, none, .mv, [.l 5]⟩, ⟨.t 32, none, .mv, [.l 7]⟩, ⟨.t 33, none, .iad 3, [.t 31, .t 32]⟩, ⟨.t 34, none, .fad 0, [.t 33]⟩, ⟨.no, none, .st 1, [.t 34, .c (.i .i64 1)]⟩]) .skip)) (.seq (.reg [⟨.t 35, none, .mv, [.l 6]⟩, ⟨.t 36, none, .mv, [.l 5]⟩, ⟨.t 37, none, .mv, [.l 7]⟩, ⟨.t 38, none, .iad 3, [.t 36, .t 37]⟩, ⟨.t 39, none, .fad 0, [.t 38]⟩, ⟨.t 40, none, .ld none, [.t 39]⟩, ⟨.t 41, none, .cvtI .u8, [.t 40]⟩, ⟨.t 42, none, .bslice [.i .u8 0] 9 1 [0, 1, 2, 3, 4, 5, 6, 7, 8], [.t 41, .c (.i .u8 0), .c (.i .u8 0), .c (.i .u8 0), .c (.i .u8 0), .c (.i .u8 0), .c (.i .u8 0), .c (.i .u8 0), .c (.i .u8 0)]⟩, ⟨.t 43, none, .app 1 1, [.t 35, .t 42]⟩, ⟨.l 6, none, .mv, [.t 43]⟩]) (.seq (.reg [⟨.t 44, none, .mv, [.l 1]⟩]) (.cond (.t 44) (.reg [⟨.t 45, none, .mv, [.l 6]⟩, ⟨.t 46, none, .bslice [.i .u8 0] 8 1 [0, 1, 2, 3, 4, 5, 6, 7], [.c (.i .u8 0), .c (.i .u8 0), .c (.i .u8 0), .c (.i .u8 0), .c (.i .u8 0), .c (.i .u8 0), .c (.i .u8 0), .c (.i .u8 0)]⟩, ⟨.t 47, none, .app 1 1, [.t 45, .t 46]⟩, ⟨.l 6, none, .mv, [.t 47]⟩]) .skip))))
noncomputable def D_tarpaulinlaw3_ScriptLimits_18 (F : TF) (N : TN) (Q : TQ) (k1 : TK) (l : Env) (L : Lg) : Prop :=
 condW (l 1)
 (wpOp F (.iad 3) [(l 5), (l 7)] L fun v1 L1 =>
 wpOp F (.fad 0) [v1] L1 fun v2 L2 =>
 wpOp F (.st 1) [v2, (.i .i64 1)] L2 fun _ L3 =>
 wpOp F (.iad 3) [(l 5), (l 7)] L3 fun v4 L4 =>
 wpOp F (.fad 0) [v4] L4 fun v5 L5 =>
 wpOp F (.ld none) [v5] L5 fun v6 L6 =>
 wpOp F (.cvtI .u8) [v6] L6 fun v7 L7 =>
 wpOp F (.bslice [.i .u8 0] 9 1 [0, 1, 2, 3, 4, 5, 6, 7, 8]) [v7, (.i .u8 0), (.i .u8 0), (.i .u8 0), (.i .u8 0), (.i .u8 0), (.i .u8 0), (.i .u8 0), (.i .u8 0)] L7 fun v8 L8 =>
 wpOp F (.app 1 1) [(l 6), v8] L8 fun v9 L9 =>
 condW (l 1)
 (wpOp F (.bslice [.i .u8 0] 8 1 [0, 1, 2, 3, 4, 5, 6, 7]) [(.i .u8 0), (.i .u8 0), (.i .u8 0), (.i .u8 0), (.i .u8 0), (.i .u8 0), (.i .u8 0), (.i .u8 0)] L9 fun v10 L10 =>
 wpOp F (.app 1 1) [v9, v10] L10 fun v11 L11 =>
 D_tarpaulinlaw3_ScriptLimits_15 F N Q k1 (Env.put (Env.put l 6 v9) 6 v11) L11)
 (D_tarpaulinlaw3_ScriptLimits_15 F N Q k1 (Env.put l 6 v9) L9))
 (wpOp F (.iad 3) [(l 5), (l 7)] L fun v12 L12 =>
 wpOp F (.fad 0) [v12] L12 fun v13 L13 =>
 wpOp F (.ld none) [v13] L13 fun v14 L14 =>
 wpOp F (.cvtI .u8) [v14] L14 fun v15 L15 =>
 wpOp F (.bslice [.i .u8 0] 9 1 [0, 1, 2, 3, 4, 5, 6, 7, 8]) [v15, (.i .u8 0), (.i .u8 0), (.i .u8 0), (.i .u8 0), (.i .u8 0), (.i .u8 0), (.i .u8 0), (.i .u8 0)] L15 fun v16 L16 =>
 wpOp F (.app 1 1) [(l 6), v16] L16 fun v17 L17 =>
 condW (l 1)
 (wpOp F (.bslice [.i .u8 0] 8 1 [0, 1, 2, 3, 4, 5, 6, 7]) [(.i .u8 0), (.i .u8 0), (.i .u8 0), (.i .u8 0), (.i .u8 0), (.i .u8 0), (.i .u8 0), (.i .u8 0)] L17 fun v18 L18 =>
 wpOp F (.app 1 1) [v17, v18] L18 fun v19 L19 =>
 D_tarpaulinlaw3_ScriptLimits_15 F N Q k1 (Env.put (Env.put l 6 v17) 6 v19) L19)
 (D_tarpaulinlaw3_ScriptLimits_15 F N Q k1 (Env.put l 6 v17) L17))
theorem e_tarpaulinlaw3_ScriptLimits_18 (F : TF) (N : TN) (Q : TQ) (k1 : TK) (l t : Env) (L : Lg) : wp F (q_tarpaulinlaw3_ScriptLimits_18 N) l t L (w_tarpaulinlaw3_ScriptLimits_14 F N Q k1) (y_tarpaulinlaw3_ScriptLimits_16 F N Q k1) (fin [.tmp (.l 4)] Q) = D_tarpaulinlaw3_ScriptLimits_18 F N Q k1 l L := by kernel_rfl
def q_tarpaulinlaw3_ScriptLimits_17a (N : TN) : ACode := (.reg [⟨.t 26, none, .mv, [.l 5]⟩, ⟨.t 27, none, .mv, [.l 7]⟩, ⟨.t 28, none, .iad 3, [.t 26, .t 27]⟩, ⟨.t 29, none, .fad 0, [.t 28]⟩, ⟨.no, none, .st 1, [.t 29, .c (.i .i64 2)]⟩])
def q_tarpaulinlaw3_ScriptLimits_17 (N : TN) : ACode := (.seq (q_tarpaulinlaw3_ScriptLimits_17a N) (q_tarpaulinlaw3_ScriptLimits_18 N))
noncomputable def D_tarpaulinlaw3_ScriptLimits_17 (F : TF) (N : TN) (Q : TQ) (k1 : TK) (l : Env) (L : Lg) : Prop :=
 wpOp F (.iad 3) [(l 5), (l 7)] L fun v1 L1 =>
 wpOp F (.fad 0) [v1] L1 fun v2 L2 =>
 wpOp F (.st 1) [v2, (.i .i64 2)] L2 fun _ L3 =>
 D_tarpaulinlaw3_ScriptLimits_18 F N Q k1 l L3
theorem e_tarpaulinlaw3_ScriptLimits_17 (F : TF) (N : TN) (Q : TQ) (k1 : TK) (l t : Env) (L : Lg) : wp F (q_tarpaulinlaw3_ScriptLimits_17 N) l t L (w_tarpaulinlaw3_ScriptLimits_14 F N Q k1) (y_tarpaulinlaw3_ScriptLimits_16 F N Q k1) (fin [.tmp (.l 4)] Q) = D_tarpaulinlaw3_ScriptLimits_17 F N Q k1 l L := wpS (e_tarpaulinlaw3_ScriptLimits_18 F N Q k1) (by kernel_rfl)
def q_tarpaulinlaw3_ScriptLimits_16 (N : TN) : ACode := (.block 1 (q_tarpaulinlaw3_ScriptLimits_17 N))
theorem e_tarpaulinlaw3_ScriptLimits_16 (F : TF) (N : TN) (Q : TQ) (k1 : TK) (l t : Env) (L : Lg) : wp F (q_tarpaulinlaw3_ScriptLimits_16 N) l t L (w_tarpaulinlaw3_ScriptLimits_14 F N Q k1) (y_tarpaulinlaw3_ScriptLimits_11 F N Q) (fin [.tmp (.l 4)] Q) = D_tarpaulinlaw3_ScriptLimits_17 F N Q k1 l L := wpB (e_tarpaulinlaw3_ScriptLimits_17 F N Q k1 l t L)
def q_tarpaulinlaw3_ScriptLimits_14 (N : TN) : ACode := (.seq (q_tarpaulinlaw3_ScriptLimits_16 N) (q_tarpaulinlaw3_ScriptLimits_15 N))
theorem e_tarpaulinlaw3_ScriptLimits_14 (F : TF) (N : TN) (Q : TQ) (k1 : TK) (l t : Env) (L : Lg) : wp F (q_tarpaulinlaw3_ScriptLimits_14 N) l t L (fun (l _ : Env) (L : Lg) => k1 l L) (y_tarpaulinlaw3_ScriptLimits_11 F N Q) (fin [.tmp (.l 4)] Q) = D_tarpaulinlaw3_ScriptLimits_17 F N Q k1 l L := wpS (e_tarpaulinlaw3_ScriptLimits_15 F N Q k1) (e_tarpaulinlaw3_ScriptLimits_16 F N Q k1 l t L)
def q_tarpaulinlaw3_ScriptLimits_13a (N : TN) : ACode := (.seq (.reg [⟨.t 21, none, .mv, [.l 7]⟩, ⟨.t 22, none, .mv, [.l 0]⟩, ⟨.t 23, none, .bin .lss, [.t 21, .t 22]⟩]) (.cond (.t 23) .skip (.exit 0)))
def q_tarpaulinlaw3_ScriptLimits_13 (N : TN) : ACode := (.seq (q_tarpaulinlaw3_ScriptLimits_13a N) (q_tarpaulinlaw3_ScriptLimits_14 N))
noncomputable def D_tarpaulinlaw3_ScriptLimits_13 (F : TF) (N : TN) (Q : TQ) (k1 : TK) (l : Env) (L : Lg) : Prop :=
 wpOp F (.bin .lss) [(l 7), (l 0)] L fun v1 L1 =>
 condW v1
 (D_tarpaulinlaw3_ScriptLimits_17 F N Q k1 l L1)
 (D_tarpaulinlaw3_ScriptLimits_6 F N Q (l 0) (l 5) (l 6) L1)
theorem e_tarpaulinlaw3_ScriptLimits_13 (F : TF) (N : TN) (Q : TQ) (k1 : TK) (l t : Env) (L : Lg) : wp F (q_tarpaulinlaw3_ScriptLimits_13 N) l t L (fun (l _ : Env) (L : Lg) => k1 l L) (y_tarpaulinlaw3_ScriptLimits_11 F N Q) (fin [.tmp (.l 4)] Q) = D_tarpaulinlaw3_ScriptLimits_13 F N Q k1 l L := wpS (e_tarpaulinlaw3_ScriptLimits_14 F N Q k1) (by kernel_rfl)
def q_tarpaulinlaw3_ScriptLimits_12 (N : TN) : ACode := (.loop (q_tarpaulinlaw3_ScriptLimits_13 N))
noncomputable def D_tarpaulinlaw3_ScriptLimits_12 (F : TF) (N : TN) (Q : TQ) (l : Env) (L : Lg) : Prop :=
 loopW (fun l t L k1 => D_tarpaulinlaw3_ScriptLimits_13 F N Q k1 l L) l L
theorem e_tarpaulinlaw3_ScriptLimits_12 (F : TF) (N : TN) (Q : TQ) (l t : Env) (L : Lg) : wp F (q_tarpaulinlaw3_ScriptLimits_12 N) l t L (w_tarpaulinlaw3_ScriptLimits_5 F N Q) (y_tarpaulinlaw3_ScriptLimits_11 F N Q) (fin [.tmp (.l 4)] Q) = D_tarpaulinlaw3_ScriptLimits_12 F N Q l L := wpL (fun l t L k1 => e_tarpaulinlaw3_ScriptLimits_13 F N Q k1 l t L) (by kernel_rfl)
def q_tarpaulinlaw3_ScriptLimits_11 (N : TN) : ACode := (.block 0 (q_tarpaulinlaw3_ScriptLimits_12 N))
theorem e_tarpaulinlaw3_ScriptLimits_11 (F : TF) (N : TN) (Q : TQ) (l t : Env) (L : Lg) : wp F (q_tarpaulinlaw3_ScriptLimits_11 N) l t L (w_tarpaulinlaw3_ScriptLimits_5 F N Q) nE (fin [.tmp (.l 4)] Q) = D_tarpaulinlaw3_ScriptLimits_12 F N Q l L := wpB (e_tarpaulinlaw3_ScriptLimits_12 F N Q l t L)
def q_tarpaulinlaw3_ScriptLimits_10a (N : TN) : ACode := (.reg [⟨.l 7, none, .mv, [.c (.i .i64 0)]⟩])
def q_tarpaulinlaw3_ScriptLimits_10 (N : TN) : ACode := (.seq (q_tarpaulinlaw3_ScriptLimits_10a N) (q_tarpaulinlaw3_ScriptLimits_11 N))
noncomputable def D_tarpaulinlaw3_ScriptLimits_10 (F : TF) (N : TN) (Q : TQ) (l : Env) (L : Lg) : Prop :=
 D_tarpaulinlaw3_ScriptLimits_12 F N Q (Env.put l 7 (.i .i64 0)) L
theorem e_tarpaulinlaw3_ScriptLimits_10 (F : TF) (N : TN) (Q : TQ) (l t : Env) (L : Lg) : wp F (q_tarpaulinlaw3_ScriptLimits_10 N) l t L (w_tarpaulinlaw3_ScriptLimits_5 F N Q) nE (fin [.tmp (.l 4)] Q) = D_tarpaulinlaw3_ScriptLimits_10 F N Q l L := wpS (e_tarpaulinlaw3_ScriptLimits_11 F N Q) (by kernel_rfl)
def q_tarpaulinlaw3_ScriptLimits_5 (N : TN) : ACode := (.seq (q_tarpaulinlaw3_ScriptLimits_10 N) (q_tarpaulinlaw3_ScriptLimits_6 N))
theorem e_tarpaulinlaw3_ScriptLimits_5 (F : TF) (N : TN) (Q : TQ) (l t : Env) (L : Lg) : wp F (q_tarpaulinlaw3_ScriptLimits_5 N) l t L (fin [.tmp (.l 4)] Q) nE (fin [.tmp (.l 4)] Q) = D_tarpaulinlaw3_ScriptLimits_10 F N Q l L := wpS (e_tarpaulinlaw3_ScriptLimits_6 F N Q) (e_tarpaulinlaw3_ScriptLimits_10 F N Q l t L)
def q_tarpaulinlaw3_ScriptLimits_4a (N : TN) : ACode := (.reg [⟨.l 6, none, .mv, [.c (.sl none 0 0 0)]⟩])
def q_tarpaulinlaw3_ScriptLimits_4 (N : TN) : ACode := (.seq (q_tarpaulinlaw3_ScriptLimits_4a N) (q_tarpaulinlaw3_ScriptLimits_5 N))
noncomputable def D_tarpaulinlaw3_ScriptLimits_4 (F : TF) (N : TN) (Q : TQ) (l : Env) (L : Lg) : Prop :=
 D_tarpaulinlaw3_ScriptLimits_10 F N Q (Env.put l 6 (.sl none 0 0 0)) L
theorem e_tarpaulinlaw3_ScriptLimits_4 (F : TF) (N : TN) (Q : TQ) (l t : Env) (L : Lg) : wp F (q_tarpaulinlaw3_ScriptLimits_4 N) l t L (fin [.tmp (.l 4)] Q) nE (fin [.tmp (.l 4)] Q) = D_tarpaulinlaw3_ScriptLimits_4 F N Q l L := wpS (e_tarpaulinlaw3_ScriptLimits_5 F N Q) (by kernel_rfl)
def q_tarpaulinlaw3_ScriptLimits_3a (N : TN) : ACode := (.reg [⟨.t 19, none, .mv, [.l 0]⟩, ⟨.t 20, none, .mksl [.i .i64 0, .i .i64 0, .i .i64 0] 24, [.t 19, .t 19]⟩, ⟨.l 5, none, .mv, [.t 20]⟩])
def q_tarpaulinlaw3_ScriptLimits_3 (N : TN) : ACode := (.seq (q_tarpaulinlaw3_ScriptLimits_3a N) (q_tarpaulinlaw3_ScriptLimits_4 N))
noncomputable def D_tarpaulinlaw3_ScriptLimits_3 (F : TF) (N : TN) (Q : TQ) (l : Env) (L : Lg) : Prop :=
 wpOp F (.mksl [.i .i64 0, .i .i64 0, .i .i64 0] 24) [(l 0), (l 0)] L fun v1 L1 =>
 D_tarpaulinlaw3_ScriptLimits_4 F N Q (Env.put l 5 v1) L1
theorem e_tarpaulinlaw3_ScriptLimits_3 (F : TF) (N : TN) (Q : TQ) (l t : Env) (L : Lg) : wp F (q_tarpaulinlaw3_ScriptLimits_3 N) l t L (fin [.tmp (.l 4)] Q) nE (fin [.tmp (.l 4)] Q) = D_tarpaulinlaw3_ScriptLimits_3 F N Q l L := wpS (e_tarpaulinlaw3_ScriptLimits_4 F N Q) (by kernel_rfl)
def q_tarpaulinlaw3_ScriptLimits_2a (N : TN) : ACode := (.seq (.reg [⟨.t 12, none, .mv, [.l 0]⟩, ⟨.t 13, none, .bin .lss, [.t 12, .c (.i .i64 0)]⟩, ⟨.t 14, none, .mv, [.t 13]⟩, ⟨.t 15, some (.t 14, false), .mv, [.l 0]⟩, ⟨.t 16, some (.t 14, false), .bin .gtr, [.t 15, .c (.i .i64 2100)]⟩, ⟨.t 17, none, .pick, [.t 14, .c (.b true), .t 16]⟩]) (.cond (.t 17) (.seq (.reg [⟨.t 18, none, .call (N k_tarpaulinlaw3_awake), []⟩, ⟨.l 4, none, .mv, [.t 18]⟩]) .ret) .skip))
def q_tarpaulinlaw3_ScriptLimits_2 (N : TN) : ACode := (.seq (q_tarpaulinlaw3_ScriptLimits_2a N) (q_tarpaulinlaw3_ScriptLimits_3 N))
noncomputable def D_tarpaulinlaw3_ScriptLimits_2 (F : TF) (N : TN) (Q : TQ) (l : Env) (L : Lg) : Prop :=
 wpOp F (.bin .lss) [(l 0), (.i .i64 0)] L fun v1 L1 =>
 gdOp F v1 false .mv [(l 0)] L1 fun v2 L2 =>
 gdOp F v1 false (.bin .gtr) [v2, (.i .i64 2100)] L2 fun v3 L3 =>
 wpOp F .pick [v1, (.b true), v3] L3 fun v4 L4 =>
 condW v4
 (CallL F (N k_tarpaulinlaw3_awake) [] L4 fun v5 L5 =>
 fin1 (some v5) Q L5)
 (D_tarpaulinlaw3_ScriptLimits_3 F N Q l L4)
theorem e_tarpaulinlaw3_ScriptLimits_2 (F : TF) (N : TN) (Q : TQ) (l t : Env) (L : Lg) : wp F (q_tarpaulinlaw3_ScriptLimits_2 N) l t L (fin [.tmp (.l 4)] Q) nE (fin [.tmp (.l 4)] Q) = D_tarpaulinlaw3_ScriptLimits_2 F N Q l L := wpS (e_tarpaulinlaw3_ScriptLimits_3 F N Q) (by kernel_rfl)
def q_tarpaulinlaw3_ScriptLimits_1a (N : TN) : ACode := (.reg [⟨.l 4, none, .mv, [.c (.b false)]⟩])
def q_tarpaulinlaw3_ScriptLimits_1 (N : TN) : ACode := (.seq (q_tarpaulinlaw3_ScriptLimits_1a N) (q_tarpaulinlaw3_ScriptLimits_2 N))
noncomputable def D_tarpaulinlaw3_ScriptLimits_1 (F : TF) (N : TN) (Q : TQ) (l : Env) (L : Lg) : Prop :=
 D_tarpaulinlaw3_ScriptLimits_2 F N Q (Env.put l 4 (.b false)) L
theorem e_tarpaulinlaw3_ScriptLimits_1 (F : TF) (N : TN) (Q : TQ) (l t : Env) (L : Lg) : wp F (q_tarpaulinlaw3_ScriptLimits_1 N) l t L (fin [.tmp (.l 4)] Q) nE (fin [.tmp (.l 4)] Q) = D_tarpaulinlaw3_ScriptLimits_1 F N Q l L := wpS (e_tarpaulinlaw3_ScriptLimits_2 F N Q) (by kernel_rfl)
/-- tarpaulin/tarpaulinlaw3.ScriptLimits -/
def c_tarpaulinlaw3_ScriptLimits (N : TN) : AFn := ⟨q_tarpaulinlaw3_ScriptLimits_1 N, [.tmp (.l 4)]⟩
theorem r_tarpaulinlaw3_ScriptLimits {F : TF} {N : TN} (h : F (N k_tarpaulinlaw3_ScriptLimits) = some (c_tarpaulinlaw3_ScriptLimits N)) {Q : TQ} {a0 a1 : AV} {L : Lg} (e : D_tarpaulinlaw3_ScriptLimits_1 F N Q (initE [a0, a1] 0) L) : CallL F (N k_tarpaulinlaw3_ScriptLimits) [a0, a1] L Q :=
  CallL.of_wp h (Eq.mpr (Eq.trans (e_tarpaulinlaw3_ScriptLimits_1 F N Q (initE [a0, a1] 0) Env.nil L) (by kernel_rfl : _ = D_tarpaulinlaw3_ScriptLimits_1 F N Q (initE [a0, a1] 0) L)) e)
end Go.AM

/- script: entries as bytes. -/
set_option linter.unusedVariables false
set_option linter.unusedSimpArgs false
namespace Go.AM
variable {N : Nat → Nat} {F : Nat → Option AFn}
/-- a slice that is read -/
def SlG {α : Type} (f : α → List AV) (z : Nat) (K : Lg) (v : AV) (l : List α) : Prop := ∃ a cap ex, v = .sl a l.length cap ex ∧ l.length ≤ cap ∧ (ex = 0 ∨ ex = z) ∧ ((l = [] ∧ a = none) ∨ ∃ b off cs, a = some (b, off) ∧ (K b = some (.raw (.cells cs)) ∨ K b = some (.raw (.ro cs))) ∧ off + l.length * z ≤ cs.length ∧ ∀ (i : Nat) (x : α), l[i]? = some x → (cs.drop (off + i * z)).take z = f x)
section
variable {α : Type} {f : α → List AV} {z : Nat}
theorem SlG.len {K : Lg} {v : AV} {l : List α} (h : SlG f z K v l) (X : Lg) (k : AV → Lg → Prop) : wpOp F .lenSl [v] X k = k (.i .i64 l.length) X := by
  obtain ⟨a, cap, ex, rfl, _⟩ := h
  simp
theorem SlG.mono {K K' : Lg} {v : AV} {l : List α} (h : SlG f z K v l) (e : SubL K K') : SlG f z K' v l := by
  obtain ⟨a, cap, ex, rfl, hc, he, h1 | ⟨b, off, cs, rfl, h2, h3⟩⟩ := h
  · exact ⟨_, _, _, rfl, hc, he, .inl h1⟩
  · exact ⟨_, _, _, rfl, hc, he, .inr ⟨b, off, cs, rfl, h2.imp (e _ _) (e _ _), h3⟩⟩
theorem row_le {i n z off m : Nat} (hi : i < n) (h : off + n * z ≤ m) : off + i * z + z ≤ m := by
  have : i * z + z ≤ n * z := by rw [← Nat.succ_mul]; exact Nat.mul_le_mul_right _ hi
  omega
theorem SlG.get {K : Lg} {v : AV} {l : List α} (h : SlG f z K v l) {i : Nat} {x : α} (hi : l[i]? = some x) : ∃ b o, (∀ (X : Lg) (k : AV → Lg → Prop), wpOp F (.iad z) [v, .i .i64 i] X k = k (.p (some (b, o))) X) ∧
    (∀ X : Lg, SubL K X → (∀ j, j < z → rdL X (b, o + j) none = (f x)[j]?) ∧ rdL X (b, o) (some z) = some (.agg (f x))) ∧ K b ≠ none := by
  obtain ⟨a, cap, ex, rfl, hc, he, ⟨h1, _⟩ | ⟨b, off, cs, rfl, h2, h6, h3⟩⟩ := h
  · subst h1; simp at hi
  · have hl := (List.getElem?_eq_some_iff.1 hi).1
    have h4 := row_le hl h6
    have h5 := h3 i x hi
    refine ⟨b, off + i * z, fun X k => ?_, fun X hX => ?_, ?_⟩
    · rw [wp_iad F X k z b off l.length cap ex .i64 i (by omega) (by omega)]
      simp
    · rcases h2 with h2 | h2
      · refine ⟨fun j hj => ?_, ?_⟩
        · rw [rdL_cell (hX _ _ h2), drop_get h5 hj]
        · rw [rdL_cells (hX _ _ h2) h4, h5]
      · refine ⟨fun j hj => ?_, ?_⟩
        · rw [rdL_ro (hX _ _ h2), drop_get h5 hj]
        · rw [rdL_ros (hX _ _ h2) h4, h5]
    · rcases h2 with h2 | h2 <;> rw [h2] <;> simp
theorem SlG.of_own {K : Lg} {v : AV} {l : List α} (hf : ∀ x, (f x).length = z) (h : OSl K v (flatc f l) l.length z) : SlG f z K v l := by
  rcases h with ⟨h2, h1, rfl⟩ | ⟨b, ex, h1, rfl, he, h2, h3⟩
  · exact ⟨none, 0, 0, by rw [h2], by omega, .inl rfl, .inl ⟨List.length_eq_zero_iff.1 h2, rfl⟩⟩
  · refine ⟨some (b, 0), l.length, ex, rfl, Nat.le_refl _, he, .inr ⟨b, 0, flatc f l, rfl, .inl h2, by omega, fun i x hi => ?_⟩⟩
    have := flatc_at (f := f) (k := z) hf l i x hi
    simpa using this.1
/-- what is behind a place -/
theorem SlG.from {K : Lg} {v : AV} {l : List α} (h : SlG f z K v l) {k : Nat} (hk : k ≤ l.length) : ∃ v', slcV z true false false [v, .i .i64 k] = some v' ∧ SlG f z K v' (l.drop k) := by
  obtain ⟨a, cap, ex, rfl, hc, he, h1⟩ := h
  have hex : (Nat.beq ex 0 || Nat.beq ex z) = true := by
    rcases he with rfl | rfl
    · simp [beq_nat]
    · simp [beq_nat]
  refine ⟨.sl (a.map fun (n, o) => (n, o + k * z)) (l.length - k) (cap - k) ex, ?_, a.map fun (n, o) => (n, o + k * z), cap - k, ex, by rw [List.length_drop], by rw [List.length_drop]; omega, he, ?_⟩
  · show slcV z true false false [.sl a l.length cap ex, .i .i64 (Int.ofNat k)] = _
    simp [slcV, optIdx, idx, ble_nat, hex, hk, hc]
  · rcases h1 with ⟨h1, rfl⟩ | ⟨b, off, cs, rfl, h2, h6, h3⟩
    · exact .inl ⟨by rw [h1]; simp, rfl⟩
    · refine .inr ⟨b, off + k * z, cs, rfl, h2, ?_, fun i x hi => ?_⟩
      · rw [List.length_drop, Nat.sub_mul]
        have : k * z ≤ l.length * z := Nat.mul_le_mul_right _ hk
        omega
      · rw [List.getElem?_drop] at hi
        have := h3 (k + i) x hi
        have e : off + (k + i) * z = off + k * z + i * z := by rw [Nat.add_mul]; omega
        rw [e] at this
        exact this
/-- all its cells, at once -/
theorem SlG.all {K : Lg} {v : AV} {l : List α} (hf : ∀ x, (f x).length = z) (h : SlG f z K v l) : ∃ a cap ex, v = .sl a l.length cap ex ∧ ∀ X : Lg, SubL K X → rdCellsL X a (l.length * z) = some (flatc f l) := by
  obtain ⟨a, cap, ex, rfl, hc, he, ⟨h1, rfl⟩ | ⟨b, off, cs, rfl, h2, h6, h3⟩⟩ := h
  · subst h1
    exact ⟨none, cap, ex, rfl, fun X _ => by simp [rdCellsL, flatc]⟩
  · refine ⟨_, cap, ex, rfl, fun X hX => ?_⟩
    have hcells : ∀ (l : List α) (o : Nat), o + l.length * z ≤ cs.length → (∀ (i : Nat) (x : α), l[i]? = some x → (cs.drop (o + i * z)).take z = f x) → (cs.drop o).take (l.length * z) = flatc f l := by
      intro l
      induction l with
      | nil => intro o _ _; simp [flatc]
      | cons x r ih =>
        intro o ho hg
        have h0 := hg 0 x rfl
        have e1 : (x :: r).length * z = z + r.length * z := by rw [List.length_cons, Nat.add_mul, Nat.one_mul]; omega
        rw [e1] at ho ⊢
        rw [List.take_add, List.drop_drop]
        rw [ih (o + z) (by omega) (fun i y hy => by
          have := hg (i + 1) y hy
          have e2 : o + (i + 1) * z = o + z + i * z := by rw [Nat.add_mul]; omega
          rw [e2] at this; exact this)]
        simp only [Nat.zero_mul, Nat.add_zero] at h0
        rw [h0]; rfl
    have hcut : cut cs off (l.length * z) = some (flatc f l) := by
      simp [cut, ble_nat, h6, hcells l off h6 h3]
    rcases h2 with h2 | h2 <;> simp [rdCellsL, hX _ _ h2, AB.read, hcut]
end
/-! ### bytes -/
def ucl (l : List Int) : List AV := l.map fun n => .i .u8 n
theorem ucl_append (a b : List Int) : ucl (a ++ b) = ucl a ++ ucl b := by simp [ucl]
/-- a number's byte -/
def bt (n : Int) (i : Nat) : Int := wr .u8 ((wr .u64 n).fdiv (2 ^ (8 * i)))
def b8 (n : Int) : List Int := (List.range 8).map (bt n)
theorem b8_len (n : Int) : (b8 n).length = 8 := by simp [b8]
theorem wp_shr64 (L : Lg) (k : AV → Lg → Prop) (a : Int) (i : Nat) (hi : i < 8) : wpOp F (.bin .shr) [.i .u64 a, .i .i64 ((8 * i : Nat) : Int)] L k = k (.i .u64 (a.fdiv (2 ^ (8 * i)))) L := by
  have h1 : Nat.min (8 * i) 64 = 8 * i := Nat.min_eq_left (by omega)
  have h2 : iLt ((8 * i : Nat) : Int) 0 = false := rfl
  show retL (bif isSh .shr then shI .shr .u64 a ((8 * i : Nat) : Int) else bif kEq .u64 .i64 then binI .shr .u64 a ((8 * i : Nat) : Int) else none) L k = _
  have h3 : IntKind.bits .u64 = 64 := rfl
  simp only [isSh, cond_true, shI, h2, cond_false, Int.toNat_natCast, h3, h1, mark_eq, retL_some]
theorem putb_spec (hf : H_script_put N F) {K : Lg} {v : AV} {bs : List Int} (h : OSl K v (ucl bs) bs.length 1) (hl : bs.length ≤ 900000) (n : Int) : CallL F (N k_script_put) [v, .i .i64 n] K fun r K' => OSl K' r (ucl (bs ++ b8 n)) (bs ++ b8 n).length 1 ∧ KeepE (slB v) K K' ∧ ∀ b, slB r = some b → K b = none ∨ slB v = some b := by
  refine CallL.opq ?_
  intro Q hQ
  apply r_script_put hf.code
  unfold D_script_put_1 D_script_put_4 D_script_put_6
  obtain ⟨I, hI⟩ : ∃ I : Nat → Env → Lg → Prop, I = fun m E K' => ∃ i : Nat, m + i = 8 ∧ OSl K' (E 0) (ucl (bs ++ (List.range i).map (bt n))) (bs.length + i) 1 ∧ E 1 = .i .i64 n ∧ E 6 = .i .i64 i ∧ KeepE (slB v) K K' ∧ ∀ b, slB (E 0) = some b → K b = none ∨ slB v = some b := ⟨_, rfl⟩
  refine loopW_intro I 8 ?_ ?_
  · rw [hI]; exact ⟨0, by omega, by simpa [initE] using h, by simp [initE], by simp, fun _ _ hr _ => hr, fun b hb => .inr (by simpa [initE] using hb)⟩
  intro m E t K' hi
  rw [hI] at hi
  obtain ⟨i, hm, o, e1, e6, kp, fr⟩ := hi
  unfold D_script_put_7
  rw [e1, e6]
  simp only [mark_eq, wp_lss, condW_d]
  refine ⟨fun hlt => ?_, fun hnl => ?_⟩
  rotate_left
  · have : i = 8 := by omega
    subst this
    unfold D_script_put_3
    refine ⟨K', Sees.refl _, hQ _ _ ⟨by simpa [b8] using o, kp, fr⟩⟩
  have hi8 : i < 8 := by omega
  have w8 : wr .i64 (8 * (i : Int)) = ((8 * i : Nat) : Int) := by rw [wr_id (by omega) (by omega)]; omega
  have w1 : wr .i64 ((i : Int) + 1) = ((i + 1 : Nat) : Int) := by rw [wr_id (by omega) (by omega)]; omega
  simp only [mark_eq, wp_cvtI, wp_mul, w8, wp_shr64 _ _ _ i hi8]
  refine push1 o rfl (by omega) (by omega) ?_
  intro v' K3 o3 kp3 fr3
  simp only [mark_eq, wp_add, w1]
  rw [hI]
  refine ⟨m - 1, by omega, i + 1, by omega, ?_, by simp [e1], by simp, ?_, ?_⟩
  · rw [List.range_succ, List.map_append, ← List.append_assoc, ucl_append]
    simpa [ucl, bt, Nat.add_assoc] using o3
  · intro r d hr hne
    refine kp3 r d (kp r d hr hne) ?_
    intro h9
    rcases fr r h9 with h8 | h8
    · rw [hr] at h8; cases h8
    · exact hne h8
  · intro b hb
    have hb' : K' b = none := fr3 b (by simpa using hb)
    cases hk : K b with
    | none => exact .inl rfl
    | some d =>
      by_cases hv : slB v = some b
      · exact .inr hv
      · rw [kp b d hk hv] at hb'; cases hb'
abbrev Ent := Int × Int × Int
def e3 (x : Ent) : List AV := [.i .i64 x.1, .i .i64 x.2.1, .i .i64 x.2.2]
theorem alloc_e {x : Ent} {L : Lg} {z1 z2 z3 : AV} {k : AV → Lg → Prop} (h : ∀ b, L b = none → k (.p (some (b, 0))) (L.put b (.raw (.cells (e3 x))))) : wpOp F (.alloc [z1, z2, z3]) [] L fun v3 L3 => wpOp F (.st 3) [v3, .agg (e3 x)] L3 fun _ L4 => k v3 L4 := by
  rw [wp_alloc]
  intro b hb
  rw [wp_st, stL_cells (n := 3) (Lg.put_same _ _ _) rfl rfl (by simp), Lg.put_put]
  exact h b hb
/-- an entry's bytes -/
def encE (x : Ent) : Option (List Int) := if (x.1 ≠ 1 ∧ x.1 ≠ 2) ∨ (x.1 = 2 ∧ x.2.2 ≠ 0) then none else some (wr .u8 x.1 :: (b8 x.2.1 ++ if x.1 = 1 then b8 x.2.2 else []))
def encL : List Ent → Option (List Int)
  | [] => some []
  | x :: r => match encE x, encL r with
    | some a, some b => some (a ++ b)
    | _, _ => none
theorem encL_snoc {x : Ent} {c : List Int} (hx : encE x = some c) : ∀ (l : List Ent) (b : List Int), encL l = some b → encL (l ++ [x]) = some (b ++ c)
  | [], b, h => by
    simp [encL] at h; subst h
    simp [encL, hx]
  | y :: r, b, h => by
    simp only [encL] at h
    cases hy : encE y with
    | none => rw [hy] at h; cases h
    | some a =>
      cases hr : encL r with
      | none => rw [hy, hr] at h; cases h
      | some b' =>
        rw [hy, hr] at h; simp at h; subst h
        show (match encE y, encL (r ++ [x]) with | some a, some b => some (a ++ b) | _, _ => none) = _
        rw [hy, encL_snoc hx r b' hr]
        simp
theorem encL_none {x : Ent} (hx : encE x = none) : ∀ (l : List Ent), x ∈ l → encL l = none
  | [], h => by cases h
  | y :: r, h => by
    simp only [encL]
    rcases List.mem_cons.1 h with rfl | h
    · rw [hx]
    · rw [encL_none hx r h]; cases encE y <;> rfl
theorem encE_len {x : Ent} {c : List Int} (h : encE x = some c) : c.length ≤ 17 := by
  unfold encE at h
  split at h
  · cases h
  · cases h
    split <;> simp [b8_len]
def encR (l : List Ent) : Option (List Int) := if 2000 < l.length then none else encL l
theorem encode_spec (hf : H_script_Encode N F) {K : Lg} {a : AV} {l : List Ent} (h : SlG e3 3 K a l) : CallL F (N k_script_Encode) [a] K fun r K' => ∃ v, r = .tup [v, .i .i64 (if (encR l).isSome = true then 0 else 1)] ∧ OSl K' v (ucl ((encR l).getD [])) ((encR l).getD []).length 1 ∧ SubL K K' ∧ ∀ b, slB v = some b → K b = none := by
  refine CallL.opq ?_
  intro Q hQ
  apply r_script_Encode hf.code
  unfold D_script_Encode_1 D_script_Encode_2
  have bad : encR l = none → ∀ K', SubL K K' → fin1 (some (.tup [.sl none 0 0 0, .i .i64 1])) Q K' := fun hb K' hs => ⟨K', Sees.refl _, hQ _ _ ⟨_, by rw [hb]; rfl, by rw [hb]; exact OSl.nil _ 1, hs, fun b hb => by cases hb⟩⟩
  simp [initE, h.len]
  by_cases g1 : 2000 < l.length
  · have g1' : (2000 : Int) < (l.length : Int) := by omega
    refine ⟨fun _ => bad (by simp [encR, g1]) _ (SubL.refl _), fun h9 => absurd g1' (by omega)⟩
  refine ⟨fun h9 => absurd h9 (by omega), fun _ => ?_⟩
  have hR : encR l = encL l := by simp [encR]; omega
  unfold D_script_Encode_5 D_script_Encode_7
  simp [h.len]
  obtain ⟨I, hI⟩ : ∃ I : Nat → Env → Lg → Prop, I = fun m E K' => ∃ (i : Nat) (bs : List Int), m + i = l.length ∧ encL (l.take i) = some bs ∧ bs.length ≤ 17 * i ∧ OSl K' (E 2) (ucl bs) bs.length 1 ∧ E 9 = a ∧ E 10 = .i .i64 l.length ∧ E 11 = .i .i64 i ∧ SubL K K' ∧ ∀ b, slB (E 2) = some b → K b = none := ⟨_, rfl⟩
  refine loopW_intro I l.length ?_ ?_
  · rw [hI]; exact ⟨0, [], by omega, rfl, by simp, by simpa [ucl] using OSl.nil _ 1, by simp, by simp, by simp, SubL.refl _, fun b hb => by simp [slB] at hb⟩
  intro m E t K' hi
  rw [hI] at hi
  obtain ⟨i, bs, hm, he, hbl, o, e9, e10, e11, hs, fr⟩ := hi
  unfold D_script_Encode_8 D_script_Encode_9
  rw [e10, e11]
  simp only [mark_eq, wp_lss, condW_d]
  refine ⟨fun hlt => ?_, fun hnl => ?_⟩
  rotate_left
  · have : i = l.length := by omega
    subst this
    rw [List.take_length] at he
    unfold D_script_Encode_4
    exact ⟨K', Sees.refl _, hQ _ _ ⟨_, by rw [hR, he]; rfl, by rw [hR, he]; exact o, hs, fr⟩⟩
  have hil : i < l.length := by omega
  have htk : l.take (i + 1) = l.take i ++ [l[i]] := by rw [List.take_add_one]; simp [hil]
  have hx : l[i]? = some l[i] := List.getElem?_eq_getElem hil
  have hxm : l[i] ∈ l := List.getElem_mem hil
  generalize l[i] = x at hx htk hxm
  have w1 : wr .i64 ((i : Int) + 1) = ((i + 1 : Nat) : Int) := by rw [wr_id (by omega) (by omega)]; omega
  unfold D_script_Encode_13
  rw [e9, e11]
  obtain ⟨b, oo, g1, g2, _⟩ := h.get (F := F) hx
  simp only [mark_eq, g1, wp_ld, (g2 K' hs).2, retL_some]
  refine alloc_e ?_
  intro q hq
  have hs2 := hs.put hq (.raw (.cells (e3 x)))
  have hg : (K'.put q (.raw (.cells (e3 x)))) q = some (.raw (.cells (e3 x))) := Lg.put_same _ _ _
  have o2 : OSl (K'.put q (.raw (.cells (e3 x)))) (E 2) (ucl bs) bs.length 1 := o.mono fun b hb => by
    rw [Lg.put_ne]; rintro rfl; have := o.block hb; rw [hq] at this; cases this
  have hnq : slB (E 2) ≠ some q := fun h9 => by have := o.block h9; rw [hq] at this; cases this
  generalize K'.put q (.raw (.cells (e3 x))) = K2 at hs2 hg o2
  obtain ⟨xk, xn, xd⟩ := x
  have q0 : rdL K2 (q, 0) none = some (.i .i64 xk) := by rw [rdL_cell hg]; rfl
  have q1 : rdL K2 (q, 1) none = some (.i .i64 xn) := by rw [rdL_cell hg]; rfl
  have q2 : rdL K2 (q, 2) none = some (.i .i64 xd) := by rw [rdL_cell hg]; rfl
  unfold D_script_Encode_14
  simp only [Env.put_apply, if_true, if_false, reduceIte, Nat.reduceEqDiff]
  -- what is left when it may be
  have good : encE (xk, xn, xd) = some (wr .u8 xk :: (b8 xn ++ if xk = 1 then b8 xd else [])) →
      (wpOp F (.fad 0) [.p (some (q, 0))] K2 fun v17 L17 => wpOp F (.ld none) [v17] L17 fun v18 L18 => wpOp F (.cvtI .u8) [v18] L18 fun v19 L19 => wpOp F (.bslice [.i .u8 0] 1 1 [0]) [v19] L19 fun v20 L20 => wpOp F (.app 1 1) [E 2, v20] L20 fun v21 L21 => wpOp F (.fad 1) [.p (some (q, 0))] L21 fun v22 L22 => wpOp F (.ld none) [v22] L22 fun v23 L23 =>
        CallL F (N k_script_put) [v21, v23] L23 fun v24 L24 => (againV (.ld none) [v22] L22 K2 ∧ True) ∧ (wpOp F (.fad 0) [.p (some (q, 0))] L24 fun v25 L25 => wpOp F (.ld none) [v25] L25 fun v26 L26 => wpOp F (.bin .eql) [v26, .i .i64 1] L26 fun v27 L27 => condW v27
          (wpOp F (.fad 2) [.p (some (q, 0))] L27 fun v28 L28 => wpOp F (.ld none) [v28] L28 fun v29 L29 => CallL F (N k_script_put) [v24, v29] L29 fun v30 L30 => D_script_Encode_11 F N Q (fun l L => ∃ m_1, m_1 < m ∧ I m_1 l L) (Env.put (Env.put (Env.put E 5 (.p (some (q, 0)))) 2 v24) 2 v30) L30)
          (D_script_Encode_11 F N Q (fun l L => ∃ m_1, m_1 < m ∧ I m_1 l L) (Env.put (Env.put E 5 (.p (some (q, 0)))) 2 v24) L27))) := by
    intro hE
    have hnew := encL_snoc hE _ _ he
    have hEl := encE_len hE
    simp only [mark_eq, wp_fad, Nat.zero_add, wp_ld, q0, retL_some, wp_cvtI]
    refine push1 o2 rfl (by omega) (by omega) ?_
    intro v21 K3 o3 kp3 fr3
    have hg3 : K3 q = some (.raw (.cells (e3 (xk, xn, xd)))) := kp3 q _ hg hnq
    have r1 : rdL K3 (q, 1) none = some (.i .i64 xn) := by rw [rdL_cell hg3]; rfl
    simp only [mark_eq, wp_fad, Nat.zero_add, wp_ld, r1, retL_some]
    have o3' : OSl K3 v21 (ucl (bs ++ [wr .u8 xk])) (bs ++ [wr .u8 xk]).length 1 := by rw [ucl_append]; simpa [ucl] using o3
    refine (putb_spec hf.script_put o3' (by simp; omega) xn).mono ?_
    rintro v24 K4 ⟨o4, kp4, fr4⟩
    refine ⟨⟨by simp [againV, semRL, rLdL, r1, q1, sameV, same1, iEq_eq, kEq], trivial⟩, ?_⟩
    have hn21 : slB v21 ≠ some q := fun h9 => by have := fr3 q h9; rw [hg] at this; cases this
    have hg4 : K4 q = some (.raw (.cells (e3 (xk, xn, xd)))) := kp4 q _ hg3 hn21
    have s0 : rdL K4 (q, 0) none = some (.i .i64 xk) := by rw [rdL_cell hg4]; rfl
    have s2 : rdL K4 (q, 2) none = some (.i .i64 xd) := by rw [rdL_cell hg4]; rfl
    have sub3 : SubL K K3 := fun r d hr => kp3 r d (hs2 r d hr) (fun h9 => by have := fr r h9; rw [hr] at this; cases this)
    have f21 : ∀ b, slB v21 = some b → K b = none := fun b hb => by
      have := fr3 b hb
      cases hk : K b with
      | none => rfl
      | some d => rw [hs2 b d hk] at this; cases this
    have sub4 : SubL K K4 := fun r d hr => kp4 r d (sub3 r d hr) (fun h9 => by have := f21 r h9; rw [hr] at this; cases this)
    have f24 : ∀ b, slB v24 = some b → K b = none := fun b hb => by
      rcases fr4 b hb with h9 | h9
      · cases hk : K b with
        | none => rfl
        | some d => rw [sub3 b d hk] at h9; cases h9
      · exact f21 b h9
    simp only [mark_eq, wp_fad, Nat.zero_add, wp_ld, s0, retL_some, wp_eql, condW_d]
    unfold D_script_Encode_11
    refine ⟨fun hk => ?_, fun hk => ?_⟩
    · simp only [mark_eq, wp_fad, Nat.zero_add, wp_ld, s2, retL_some]
      refine (putb_spec hf.script_put o4 (by simp [b8_len]; omega) xd).mono ?_
      rintro v30 K5 ⟨o5, kp5, fr5⟩
      simp only [Env.put_apply, if_true, if_false, reduceIte, Nat.reduceEqDiff, e11, mark_eq, wp_add, w1]
      rw [hI]
      rw [if_pos hk] at hnew
      have hbb : bs ++ [wr .u8 xk] ++ b8 xn ++ b8 xd = bs ++ (wr .u8 xk :: (b8 xn ++ b8 xd)) := by simp
      rw [hbb] at o5
      refine ⟨m - 1, by omega, i + 1, _, by omega, by rw [htk]; exact hnew, by simp [b8_len]; omega, by simpa using o5, by simp [e9], by simp [e10], by simp, ?_, ?_⟩
      · exact fun r d hr => kp5 r d (sub4 r d hr) (fun h9 => by have := f24 r h9; rw [hr] at this; cases this)
      · intro b hb
        rcases fr5 b (by simpa using hb) with h9 | h9
        · cases hk : K b with
          | none => rfl
          | some d => rw [sub4 b d hk] at h9; cases h9
        · exact f24 b h9
    · simp only [Env.put_apply, if_true, if_false, reduceIte, Nat.reduceEqDiff, e11, mark_eq, wp_add, w1]
      rw [hI]
      rw [if_neg hk] at hnew
      have hbb : bs ++ [wr .u8 xk] ++ b8 xn = bs ++ (wr .u8 xk :: (b8 xn ++ [])) := by simp
      rw [hbb] at o4
      refine ⟨m - 1, by omega, i + 1, _, by omega, by rw [htk]; exact hnew, by simp [b8_len]; omega, by simpa using o4, by simp [e9], by simp [e10], by simp, sub4, by simpa using f24⟩
  have evil : encE (xk, xn, xd) = none → fin1 (some (.tup [.sl none 0 0 0, .i .i64 1])) Q K2 := fun hE => bad (by rw [hR]; exact encL_none hE l hxm) _ hs2
  by_cases k1 : xk = 1
  · have := good (by simp [encE, k1])
    subst k1
    simp [q0] at this ⊢
    exact this
  · by_cases k2 : xk = 2
    · subst k2
      by_cases k3 : xd = 0
      · have := good (by simp [encE, k3])
        subst k3
        simp [q0, q2] at this ⊢
        exact this
      · simp [q0, q2, k3]
        exact evil (by simp [encE, k3])
    · simp [q0, k1, k2]
      exact evil (by simp [encE, k1, k2])
end Go.AM


/- script: bytes as numbers; in plain Lean. -/
set_option linter.unusedVariables false
set_option linter.unusedSimpArgs false
namespace Go.AM
def isB (b : Int) : Prop := 0 ≤ b ∧ b < 256
def valN : List Int → Nat
  | [] => 0
  | b :: r => b.toNat + 256 * valN r
theorem wr_u64 {n : Int} (h0 : 0 ≤ n) (h1 : n < 18446744073709551616) : wr .u64 n = n := by
  show IntKind.wrap .u64 n = n
  simp only [IntKind.wrap, IntKind.signed, IntKind.bits]
  simp
  omega
theorem wr_u64r (n : Int) : 0 ≤ wr .u64 n ∧ wr .u64 n < 18446744073709551616 ∧ (wr .u64 n) = n % 18446744073709551616 := by
  have : wr .u64 n = n % 18446744073709551616 := by
    show IntKind.wrap .u64 n = _
    simp [IntKind.wrap, IntKind.signed, IntKind.bits]
  omega
theorem wr_u8r (n : Int) : wr .u8 n = n % 256 := by
  show IntKind.wrap .u8 n = _
  simp [IntKind.wrap, IntKind.signed, IntKind.bits]
theorem wr_i64r (n : Int) : wr .i64 n = if n % 18446744073709551616 ≥ 9223372036854775808 then n % 18446744073709551616 - 18446744073709551616 else n % 18446744073709551616 := by
  rw [wr_eq]
  simp [IntKind.wrap, IntKind.signed, IntKind.bits]
def digs : Nat → Nat → List Int
  | 0, _ => []
  | k + 1, N => ((N % 256 : Nat) : Int) :: digs k (N / 256)
theorem digs_map : ∀ (k N : Nat), (List.range k).map (fun i => ((N / 256 ^ i % 256 : Nat) : Int)) = digs k N
  | 0, _ => rfl
  | k + 1, N => by
    rw [List.range_succ_eq_map, List.map_cons, List.map_map, digs, ← digs_map k (N / 256)]
    congr 1
    · simp
    · apply List.map_congr_left
      intro i _
      simp only [Function.comp]
      rw [Nat.div_div_eq_div_mul, ← Nat.pow_succ']
theorem b8_eq (n : Int) : b8 n = digs 8 (wr .u64 n).toNat := by
  rw [← digs_map]
  unfold b8
  apply List.map_congr_left
  intro i hi
  obtain ⟨h0, h1, _⟩ := wr_u64r n
  unfold bt
  rw [wr_u8r]
  generalize wr .u64 n = N at h0
  obtain ⟨M, rfl⟩ := Int.eq_ofNat_of_zero_le h0
  have e : ((2 : Int) ^ (8 * i)) = ((256 ^ i : Nat) : Int) := by
    rw [Int.pow_mul]; simp
  rw [e, Int.fdiv_eq_ediv_of_nonneg _ (Int.natCast_nonneg _), Int.toNat_natCast]
  simp
theorem digs_val : ∀ (k N : Nat), valN (digs k N) = N % 256 ^ k
  | 0, N => by simp [digs, valN, Nat.mod_one]
  | k + 1, N => by
    simp only [digs, valN, digs_val k, Int.toNat_natCast]
    rw [Nat.pow_succ', Nat.mod_mul]
theorem digs_isB : ∀ (k N : Nat), ∀ b ∈ digs k N, isB b
  | 0, _, b, h => by cases h
  | k + 1, N, b, h => by
    rcases List.mem_cons.1 h with rfl | h
    · unfold isB; omega
    · exact digs_isB k _ b h
theorem b8_val (n : Int) : (valN (b8 n) : Int) = wr .u64 n := by
  obtain ⟨h0, h1, _⟩ := wr_u64r n
  rw [b8_eq, digs_val, Nat.mod_eq_of_lt (by omega)]
  omega
theorem get_b8 {n : Int} (h0 : -9223372036854775808 ≤ n) (h1 : n < 9223372036854775808) : wr .i64 (valN (b8 n) : Int) = n := by
  rw [b8_val, wr_i64r, (wr_u64r n).2.2]
  split <;> omega
theorem b8_isB (n : Int) : ∀ b ∈ b8 n, isB b := by rw [b8_eq]; exact digs_isB _ _
theorem valN_lt : ∀ (l : List Int), (∀ b ∈ l, isB b) → valN l < 256 ^ l.length
  | [], _ => by simp [valN]
  | b :: r, h => by
    have h1 := valN_lt r fun x hx => h x (by simp [hx])
    have h2 := h b (by simp)
    unfold isB at h2
    simp only [valN, List.length_cons, Nat.pow_succ]
    omega
theorem valN_snoc (b : Int) : ∀ (l : List Int), valN (l ++ [b]) = valN l + b.toNat * 256 ^ l.length
  | [] => by simp [valN]
  | a :: r => by
    simp only [List.cons_append, valN, valN_snoc b r, List.length_cons, Nat.pow_succ]
    rw [Nat.mul_add, ← Nat.add_assoc]
    congr 1
    rw [Nat.mul_comm (256 ^ r.length) 256, ← Nat.mul_assoc, ← Nat.mul_assoc, Nat.mul_comm 256 b.toNat]
theorem or_add {m b i : Nat} (hm : m < 2 ^ i) : m ||| (b * 2 ^ i) = m + b * 2 ^ i := by
  rw [Nat.or_comm, ← Nat.shiftLeft_eq, ← Nat.shiftLeft_add_eq_or_of_lt hm, Nat.add_comm]
end Go.AM


/- script: bytes as entries. -/
set_option linter.unusedVariables false
set_option linter.unusedSimpArgs false
namespace Go.AM
variable {N : Nat → Nat} {F : Nat → Option AFn}
def fu (n : Int) : List AV := [.i .u8 n]
theorem flatc_fu : ∀ l : List Int, flatc fu l = ucl l
  | [] => rfl
  | a :: r => by simp [flatc, fu, ucl]; exact flatc_fu r
theorem wp_shl64 (L : Lg) (k : AV → Lg → Prop) (a : Int) (i : Nat) (hi : i < 8) : wpOp F (.bin .shl) [.i .u64 a, .i .i64 ((8 * i : Nat) : Int)] L k = k (.i .u64 (wr .u64 (a * 2 ^ (8 * i)))) L := by
  have h1 : Nat.min (8 * i) 64 = 8 * i := Nat.min_eq_left (by omega)
  have h2 : iLt ((8 * i : Nat) : Int) 0 = false := rfl
  show retL (bif isSh .shl then shI .shl .u64 a ((8 * i : Nat) : Int) else bif kEq .u64 .i64 then binI .shl .u64 a ((8 * i : Nat) : Int) else none) L k = _
  have h3 : IntKind.bits .u64 = 64 := rfl
  simp only [isSh, cond_true, shI, h2, cond_false, Int.toNat_natCast, h3, h1, mark_eq, retL_some]
theorem wp_or64 (L : Lg) (k : AV → Lg → Prop) (a b : Int) : wpOp F (.bin .or) [.i .u64 a, .i .u64 b] L k = k (.i .u64 (wr .u64 (BitVec.toNat (BitVec.ofInt 64 a ||| BitVec.ofInt 64 b)))) L := rfl
theorem or_val {m b i : Nat} (hm : m < 256 ^ i) (hb : b < 256) (hi : i < 8) : wr .u64 (BitVec.toNat (BitVec.ofInt 64 (m : Int) ||| BitVec.ofInt 64 ((b * 256 ^ i : Nat) : Int))) = ((m + b * 256 ^ i : Nat) : Int) := by
  have hp : 256 ^ i * 256 ≤ 18446744073709551616 := by
    have : 256 ^ i * 256 = 256 ^ (i + 1) := (Nat.pow_succ ..).symm
    rw [this]
    have : 256 ^ (i + 1) ≤ 256 ^ 8 := Nat.pow_le_pow_right (by omega) (by omega)
    exact this
  have hbm : b * 256 ^ i ≤ 255 * 256 ^ i := Nat.mul_le_mul_right _ (by omega)
  have hsum : m + b * 256 ^ i < 18446744073709551616 := by omega
  have e256 : 256 ^ i = 2 ^ (8 * i) := by rw [Nat.pow_mul]
  have e1 : (BitVec.ofInt 64 (m : Int)).toNat = m := by rw [BitVec.ofInt_natCast, BitVec.toNat_ofNat, Nat.mod_eq_of_lt]; omega
  have e2 : (BitVec.ofInt 64 ((b * 256 ^ i : Nat) : Int)).toNat = b * 256 ^ i := by rw [BitVec.ofInt_natCast, BitVec.toNat_ofNat, Nat.mod_eq_of_lt]; omega
  rw [BitVec.toNat_or, e1, e2]
  have e3 : m ||| (b * 256 ^ i) = m + b * 256 ^ i := by rw [e256]; exact or_add (by rw [← e256]; exact hm)
  rw [e3]
  exact wr_u64 (by omega) (by omega)
/-- the number that bytes begin with -/
def getN (bs : List Int) : Int := wr .i64 (valN (bs.take 8) : Int)
theorem get_spec (hf : H_script_get N F) {K : Lg} {a : AV} {bs : List Int} (h : SlG fu 1 K a bs) (hl : 8 ≤ bs.length) (hb : ∀ b ∈ bs, isB b) : CallL F (N k_script_get) [a] K fun r K' => r = .i .i64 (getN bs) ∧ K' = K := by
  refine CallL.opq ?_
  intro Q hQ
  apply r_script_get hf.code
  unfold D_script_get_1 D_script_get_2 D_script_get_5 D_script_get_7
  obtain ⟨I, hI⟩ : ∃ I : Nat → Env → Lg → Prop, I = fun m E K' => ∃ i : Nat, m + i = 8 ∧ E 0 = a ∧ E 3 = .i .u64 (valN (bs.take i) : Int) ∧ E 5 = .i .i64 i ∧ K' = K := ⟨_, rfl⟩
  refine loopW_intro I 8 ?_ ?_
  · rw [hI]; exact ⟨0, by omega, by simp [initE], by simp [valN], by simp, rfl⟩
  intro m E t K' hi
  rw [hI] at hi
  obtain ⟨i, hm, e0, e3, e5, rfl⟩ := hi
  unfold D_script_get_8
  rw [e0, e3, e5]
  simp only [mark_eq, wp_lss, condW_d]
  refine ⟨fun hlt => ?_, fun hnl => ?_⟩
  rotate_left
  · have : i = 8 := by omega
    subst this
    unfold D_script_get_4
    simp only [mark_eq, wp_cvtI]
    exact ⟨K', Sees.refl _, hQ _ _ ⟨rfl, rfl⟩⟩
  have hi8 : i < 8 := by omega
  have hil : i < bs.length := by omega
  have hx : bs[i]? = some bs[i] := List.getElem?_eq_getElem hil
  have hbx := hb _ (List.getElem_mem hil)
  have htk : bs.take (i + 1) = bs.take i ++ [bs[i]] := by rw [List.take_add_one]; simp [hil]
  generalize bs[i] = x at hx hbx htk
  obtain ⟨b, o, g1, g2, _⟩ := h.get (F := F) hx
  have q0 : rdL K' (b, o) none = some (.i .u8 x) := (g2 K' (SubL.refl _)).1 0 (by omega)
  unfold isB at hbx
  obtain ⟨y, rfl⟩ := Int.eq_ofNat_of_zero_le hbx.1
  have hv := valN_lt (bs.take i) fun z hz => hb z (List.mem_of_mem_take hz)
  have hlen : (bs.take i).length = i := by simp; omega
  rw [hlen] at hv
  have hsn := valN_snoc (y : Int) (bs.take i)
  rw [hlen, Int.toNat_natCast] at hsn
  have w8 : wr .i64 (8 * (i : Int)) = ((8 * i : Nat) : Int) := by rw [wr_id (by omega) (by omega)]; omega
  have w1 : wr .i64 ((i : Int) + 1) = ((i + 1 : Nat) : Int) := by rw [wr_id (by omega) (by omega)]; omega
  have hp : 256 ^ i * 256 ≤ 18446744073709551616 := by
    have : 256 ^ i * 256 = 256 ^ (i + 1) := (Nat.pow_succ ..).symm
    rw [this]
    have : 256 ^ (i + 1) ≤ 256 ^ 8 := Nat.pow_le_pow_right (by omega) (by omega)
    exact this
  have hbm : y * 256 ^ i ≤ 255 * 256 ^ i := Nat.mul_le_mul_right _ (by omega)
  have wy : wr .u64 ((y : Int)) = y := wr_u64 (by omega) (by omega)
  have e256 : ((y : Int) * 2 ^ (8 * i)) = ((y * 256 ^ i : Nat) : Int) := by
    have : ((2 : Int) ^ (8 * i)) = ((256 ^ i : Nat) : Int) := by rw [Int.pow_mul]; simp
    rw [this]; simp
  have wsh : wr .u64 (((y * 256 ^ i : Nat) : Int)) = ((y * 256 ^ i : Nat) : Int) := wr_u64 (by omega) (by omega)
  simp only [mark_eq, g1, wp_ld, q0, retL_some, wp_cvtI, wy, wp_mul, w8, wp_shl64 _ _ _ i hi8, e256, wsh, wp_or64, or_val hv (by omega : y < 256) hi8, wp_add, w1]
  rw [hI]
  refine ⟨m - 1, by omega, i + 1, by omega, by simp [e0], ?_, by simp, rfl⟩
  rw [htk, hsn]; simp
/-- the entry that bytes begin with, and how many it has -/
def firstP (b : List Int) : Option (Ent × Nat) :=
  if b[0]? = some 1 then if b.length < 17 then none else some ((1, getN (b.drop 1), getN (b.drop 9)), 17)
  else if b[0]? = some 2 then if b.length < 9 then none else some ((2, getN (b.drop 1), 0), 9)
  else none
theorem firstP_pos {b : List Int} {x : Ent} {n : Nat} (h : firstP b = some (x, n)) : 0 < n ∧ n ≤ b.length := by
  unfold firstP at h
  split at h
  · split at h
    · cases h
    · cases h; omega
  · split at h
    · split at h
      · cases h
      · cases h; omega
    · cases h
theorem first_spec (hf : H_script_first N F) {K : Lg} {a : AV} {bs : List Int} (h : SlG fu 1 K a bs) (hl : 0 < bs.length) (hl2 : bs.length ≤ 1000000) (hb : ∀ b ∈ bs, isB b) : CallL F (N k_script_first) [a] K fun r K' => (∃ (x : Ent) (n : Nat), r = .tup [.agg (e3 x), .i .i64 n] ∧ (match firstP bs with | none => n = 0 | some p => p = (x, n))) ∧ K' = K := by
  refine CallL.opq ?_
  intro Q hQ
  apply r_script_first hf.code
  unfold D_script_first_1
  simp only [mark_eq, wp_alloc]
  intro q hq
  unfold D_script_first_2
  have hx : bs[0]? = some bs[0] := List.getElem?_eq_getElem hl
  have hk := hb _ (List.getElem_mem hl)
  generalize bs[0] = k at hx hk
  unfold isB at hk
  have sub1 : SubL K (K.put q (.raw (.cells (e3 (0, 0, 0))))) := (SubL.refl K).put hq _
  have hg1 : (K.put q (.raw (.cells (e3 (0, 0, 0))))) q = some (.raw (.cells (e3 (0, 0, 0)))) := Lg.put_same _ _ _
  obtain ⟨b, o, g1, g2, _⟩ := h.get (F := F) hx
  have q0 : rdL (K.put q (.raw (.cells (e3 (0, 0, 0))))) (b, o) none = some (.i .u8 k) := (g2 _ sub1).1 0 (by omega)
  have wk : wr .i64 k = k := wr_id (by omega) (by omega)
  have g1' : ∀ (X : Lg) (k : AV → Lg → Prop), wpOp F (.iad 1) [a, .i .i64 0] X k = k (.p (some (b, o))) X := g1
  show wpOp F (.iad 1) [a, .i .i64 0] (K.put q (.raw (.cells (e3 (0, 0, 0))))) _
  simp only [mark_eq, g1', wp_ld, q0, retL_some, wp_cvtI, wk, wp_fad, Nat.zero_add, wp_st]
  rw [stL_cell hg1 (by simp [e3]) rfl, Lg.put_put]
  show D_script_first_5 F N Q a (.p (some (q, 0))) (.i .i64 9) (K.put q (.raw (.cells (e3 (k, 0, 0)))))
  have put : ∀ x : Ent, SubL K (K.put q (.raw (.cells (e3 x)))) ∧ (K.put q (.raw (.cells (e3 x)))) q = some (.raw (.cells (e3 x))) := fun x => ⟨(SubL.refl K).put hq _, Lg.put_same _ _ _⟩
  -- how it ends
  have ret : ∀ (x : Ent) (n : Nat), (match firstP bs with | none => n = 0 | some p => p = (x, n)) → (wpOp F (.ld (some 3)) [.p (some (q, 0))] (K.put q (.raw (.cells (e3 x)))) fun v L1 => wpOp F (.st 3) [.p (some (q, 0)), v] L1 fun _ L2 => fin1 (resVL Env.nil Env.nil L2 [.cell (.c (.p (some (q, 0)))) (some 3), .tmp (.c (.i .i64 n))]) Q L2) := by
    intro x n hm
    have r3 : rdL (K.put q (.raw (.cells (e3 x)))) (q, 0) (some 3) = some (.agg (e3 x)) := by rw [rdL_cells (put x).2 (by simp [e3])]; rfl
    simp only [mark_eq, wp_ld, r3, retL_some, wp_st]
    rw [stL_cells (n := 3) (put x).2 rfl rfl (by simp [e3]), Lg.put_put]
    have hsp : splice (e3 x) 0 (e3 x) = e3 x := rfl
    rw [hsp]
    have : resVL Env.nil Env.nil (K.put q (.raw (.cells (e3 x)))) [.cell (.c (.p (some (q, 0)))) (some 3), .tmp (.c (.i .i64 n))] = some (.tup [.agg (e3 x), .i .i64 n]) := by
      simp [resVL, resLL, resOneL, r3]
    rw [this]
    exact ⟨K, (put x).1.sees, hQ _ _ ⟨⟨x, n, rfl, hm⟩, rfl⟩⟩
  have r0 : ∀ x : Ent, rdL (K.put q (.raw (.cells (e3 x)))) (q, 0) none = some (.i .i64 x.1) := fun x => by rw [rdL_cell (put x).2]; rfl
  unfold D_script_first_5
  simp only [mark_eq, wp_fad, Nat.zero_add, wp_ld, r0, retL_some]
  unfold D_script_first_7
  have sl : ∀ (x : Ent) (j : Nat), j ≤ bs.length → ∃ v', slcV 1 true false false [a, .i .i64 j] = some v' ∧ SlG fu 1 (K.put q (.raw (.cells (e3 x)))) v' (bs.drop j) := fun x j hj => (h.mono (put x).1).from hj
  have hbd : ∀ j, ∀ b ∈ bs.drop j, isB b := fun j b hh => hb b (List.mem_of_mem_drop hh)
  have e8 : ∀ (x : Ent) (n : Nat), n ≤ bs.length → 9 ≤ n → firstP bs = some ((x.1, getN (bs.drop 1), x.2.2), n) → D_script_first_8 F N Q a (.p (some (q, 0))) (.i .i64 n) (K.put q (.raw (.cells (e3 x)))) := by
    intro x n hn hn9 hfp
    unfold D_script_first_8
    have c : ¬ ((bs.length : Int) < (n : Int)) := by omega
    obtain ⟨v', s1, s2⟩ := sl x 1 (by omega)
    have s1' : slcV 1 true false false [a, .i .i64 1] = some v' := s1
    simp only [mark_eq, h.len, wp_lss, c, decide_false, condW_f, wp_slc, s1', retL_some]
    refine (get_spec hf.script_get s2 (by simp; omega) (hbd 1)).mono ?_
    rintro _ K3 ⟨rfl, rfl⟩
    simp only [mark_eq, wp_fad, Nat.zero_add, wp_st]
    rw [stL_cell (put x).2 (by simp [e3]) rfl, Lg.put_put]
    have hset : (e3 x).set 1 (.i .i64 (getN (bs.drop 1))) = e3 (x.1, getN (bs.drop 1), x.2.2) := rfl
    rw [hset]
    exact ret _ n (by rw [hfp])
  by_cases k1 : k = 1
  · subst k1
    have c1 : wr .i64 (9 + 8) = ((17 : Nat) : Int) := by rw [wr_id (by omega) (by omega)]; rfl
    simp only [mark_eq, wp_eql, decide_true, condW_t, wp_add, c1, h.len, wp_lss]
    by_cases hlt : bs.length < 17
    · have c : ((bs.length : Int) < ((17 : Nat) : Int)) := by omega
      simp only [c, mark_eq, decide_true, condW_t]
      exact ret (1, 0, 0) 0 (by simp [firstP, hx, hlt])
    · have c : ¬ ((bs.length : Int) < ((17 : Nat) : Int)) := by omega
      have c9 : wr .i64 (((17 : Nat) : Int) - 8) = ((9 : Nat) : Int) := by rw [wr_id (by omega) (by omega)]; rfl
      obtain ⟨v', s1, s2⟩ := sl (1, 0, 0) 9 (by omega)
      simp only [c, c1, mark_eq, decide_false, condW_f, wp_sub, c9, wp_slc, s1, retL_some]
      refine (get_spec hf.script_get s2 (by simp; omega) (hbd 9)).mono ?_
      rintro _ K3 ⟨rfl, rfl⟩
      simp only [mark_eq, c1, wp_fad, Nat.zero_add, wp_st]
      rw [stL_cell (put _).2 (by simp [e3]) rfl, Lg.put_put]
      have hset : (e3 (1, 0, 0)).set 2 (.i .i64 (getN (bs.drop 9))) = e3 (1, 0, getN (bs.drop 9)) := rfl
      rw [hset]
      exact e8 (1, 0, getN (bs.drop 9)) 17 (by omega) (by omega) (by simp [firstP, hx, hlt])
  · simp only [mark_eq, wp_eql, k1, decide_false, condW_f]
    by_cases k2 : k = 2
    · subst k2
      simp only [mark_eq, decide_true, condW_t]
      by_cases hlt : bs.length < 9
      · unfold D_script_first_8
        have c : ((bs.length : Int) < 9) := by omega
        simp only [mark_eq, h.len, wp_lss, c, decide_true, condW_t]
        exact ret (2, 0, 0) 0 (by simp [firstP, hx, hlt])
      · exact e8 (2, 0, 0) 9 (by omega) (by omega) (by simp [firstP, hx, hlt])
    · simp only [k2, mark_eq, decide_false, condW_f]
      unfold D_script_first_4
      exact ret (k, 0, 0) 0 (by simp [firstP, hx, k1, k2])
theorem pushe {K : Lg} {v z1 z2 z3 : AV} {l : List Ent} {x : Ent} (h : OSl K v (flatc e3 l) l.length 3) (hn : l.length ≤ 100000) {k : AV → Lg → Prop}
    (hk : ∀ (v' : AV) (K1 : Lg), OSl K1 v' (flatc e3 (l ++ [x])) (l ++ [x]).length 3 → KeepE (slB v) K K1 → (∀ b, slB v' = some b → K b = none) → k v' K1) :
    wpOp F (.bslice [z1, z2, z3] 1 3 [0]) [.agg (e3 x)] K fun s L => wpOp F (.app 3 24) [v, s] L k := by
  have hc : (AV.agg (e3 x)).cellsOf = some (e3 x) := cellsOf_agg _ rfl
  rw [wp_bslice, newL_bslice (c := e3 x) _ _ (by simp [reps, fillP, splice, ble_nat, beq_nat, hc]; rfl) rfl]
  intro b1 hb1
  rw [wp_app]
  have g1 : (K.put b1 (.raw (.cells (e3 x)))) b1 = some (.raw (.cells (e3 x))) := Lg.put_same _ _ _
  have h1 : OSl (K.put b1 (.raw (.cells (e3 x)))) v (flatc e3 l) l.length 3 := h.mono fun b hbb => Lg.put_ne _ _ _ (by rintro rfl; have := h.block hbb; rw [hb1] at this; cases this)
  refine h1.app (m := 1) (by omega) rfl (by omega) (new := e3 x) (by simp [rdCellsL, AB.read, cut, ble_nat, e3]) rfl rfl (by omega) ?_
  intro b2 K1 g hO
  have f2 : b2 ≠ b1 ∧ K b2 = none := by
    have := g.fresh
    have n1 : b2 ≠ b1 := by rintro rfl; rw [Lg.put_same] at this; cases this
    rw [Lg.put_ne _ _ _ n1] at this
    exact ⟨n1, this⟩
  refine hk _ _ (by rw [flatc_append]; simpa [flatc] using hO) ?_ ?_
  · intro r d hr hne
    have r1 : r ≠ b1 := by rintro rfl; rw [hb1] at hr; cases hr
    have r2 : r ≠ b2 := by rintro rfl; rw [f2.2] at hr; cases hr
    rw [g.same r r2 hne, Lg.put_ne _ _ _ r1]; exact hr
  · intro b hbb; simp [slB] at hbb; subst hbb; exact f2.2
def decP : Nat → List Int → Nat → Option (List Ent)
  | 0, _, _ => none
  | f + 1, bs, c => if bs.length = 0 then some [] else match firstP bs with
    | none => none
    | some (x, n) => if c = 2000 then none else (decP f (bs.drop n) (c + 1)).map (x :: ·)
theorem decP_fuel : ∀ (f g : Nat) (bs : List Int) (c : Nat), bs.length < f → bs.length < g → decP f bs c = decP g bs c
  | 0, _, _, _, h, _ => by omega
  | _ + 1, 0, _, _, _, h => by omega
  | f + 1, g + 1, bs, c, h1, h2 => by
    simp only [decP]
    split
    · rfl
    · cases hp : firstP bs with
      | none => rfl
      | some p =>
        obtain ⟨x, n⟩ := p
        have := firstP_pos hp
        simp only []
        rw [decP_fuel f g (bs.drop n) (c + 1) (by simp; omega) (by simp; omega)]
def decR (bs : List Int) : Option (List Ent) := if 65536 < bs.length then none else decP (bs.length + 1) bs 0
theorem decode_spec (hf : H_script_Decode N F) {K : Lg} {a : AV} {bs : List Int} (h : SlG fu 1 K a bs) (hb : ∀ b ∈ bs, isB b) : CallL F (N k_script_Decode) [a] K fun r K' => ∃ v, r = .tup [v, .i .i64 (if (decR bs).isSome = true then 0 else 2)] ∧ OSl K' v (flatc e3 ((decR bs).getD [])) ((decR bs).getD []).length 3 ∧ SubL K K' ∧ ∀ b, slB v = some b → K b = none := by
  refine CallL.opq ?_
  intro Q hQ
  apply r_script_Decode hf.code
  unfold D_script_Decode_1 D_script_Decode_2
  have bad : decR bs = none → ∀ K', SubL K K' → fin1 (some (.tup [.sl none 0 0 0, .i .i64 2])) Q K' := fun hb K' hs => ⟨K', Sees.refl _, hQ _ _ ⟨_, by rw [hb]; rfl, by rw [hb]; exact OSl.nil _ 3, hs, fun b hb => by cases hb⟩⟩
  simp [initE, h.len]
  by_cases g1 : 65536 < bs.length
  · have g1' : (65536 : Int) < (bs.length : Int) := by omega
    refine ⟨fun _ => bad (by simp [decR, g1]) _ (SubL.refl _), fun h9 => absurd g1' (by omega)⟩
  refine ⟨fun h9 => absurd h9 (by omega), fun _ => ?_⟩
  have hR : decR bs = decP (bs.length + 1) bs 0 := by simp [decR]; omega
  unfold D_script_Decode_6
  obtain ⟨I, hI⟩ : ∃ I : Nat → Env → Lg → Prop, I = fun m E K' => ∃ (rest : List Int) (acc : List Ent), rest.length = m ∧ rest.length + acc.length ≤ 65536 ∧ acc.length ≤ 2000 ∧ SlG fu 1 K (E 0) rest ∧ (∀ b ∈ rest, isB b) ∧ OSl K' (E 2) (flatc e3 acc) acc.length 3 ∧ SubL K K' ∧ (∀ b, slB (E 2) = some b → K b = none) ∧ decR bs = (decP (rest.length + 1) rest acc.length).map (acc ++ ·) := ⟨_, rfl⟩
  refine loopW_intro I bs.length ?_ ?_
  · rw [hI]; exact ⟨bs, [], rfl, by simp; omega, by simp, by simpa using h, hb, by simpa [flatc] using OSl.nil _ 3, SubL.refl _, fun b hb => by simp [slB] at hb, by rw [hR]; simp⟩
  intro m E t K' hi
  rw [hI] at hi
  obtain ⟨rest, acc, hm, hla, hac, hsl, hbr, o, hs, fr, hd⟩ := hi
  unfold D_script_Decode_7
  have hsl' := hsl.mono hs
  simp only [mark_eq, hsl.len, wp_gtr, condW_d]
  refine ⟨fun hlt => ?_, fun hnl => ?_⟩
  rotate_left
  · have h0 : rest.length = 0 := by omega
    have : decR bs = some acc := by rw [hd]; simp [decP, h0]
    unfold D_script_Decode_4
    exact ⟨K', Sees.refl _, hQ _ _ ⟨_, by rw [this]; rfl, by rw [this]; exact o, hs, fr⟩⟩
  have hpos : 0 < rest.length := by omega
  refine (first_spec hf.script_first hsl' hpos (by omega) hbr).mono ?_
  rintro _ K2 ⟨⟨x, n, rfl, hp⟩, rfl⟩
  simp only [mark_eq, wp_ext, List.getElem?_cons_zero, List.getElem?_cons_succ, retL_some]
  refine alloc_e ?_
  intro q hq
  have hs2 := hs.put hq (.raw (.cells (e3 x)))
  have hg : (K2.put q (.raw (.cells (e3 x)))) q = some (.raw (.cells (e3 x))) := Lg.put_same _ _ _
  have o2 : OSl (K2.put q (.raw (.cells (e3 x)))) (E 2) (flatc e3 acc) acc.length 3 := o.mono fun b hb => by
    rw [Lg.put_ne]; rintro rfl; have := o.block hb; rw [hq] at this; cases this
  generalize K2.put q (.raw (.cells (e3 x))) = K3 at hs2 hg o2
  have q3 : rdL K3 (q, 0) (some 3) = some (.agg (e3 x)) := by rw [rdL_cells hg (by simp [e3])]; rfl
  have hne0 : ¬ rest.length = 0 := by omega
  cases hfp : firstP rest with
  | none =>
    rw [hfp] at hp
    simp only at hp
    subst hp
    simp
    exact bad (by rw [hd]; simp [decP, hne0, hfp]) _ hs2
  | some p =>
    obtain ⟨x', n'⟩ := p
    rw [hfp] at hp
    simp only [Prod.mk.injEq] at hp
    obtain ⟨rfl, rfl⟩ := hp
    have hn := firstP_pos hfp
    have hn0 : ¬ ((n' : Int) = 0) := by omega
    simp only [mark_eq, wp_eql, hn0, decide_false, gdOp_same, wp_mv, o2.len]
    by_cases hfull : acc.length = 2000
    · have : ((acc.length : Int) = 2000) := by omega
      simp only [this, decide_true, mark_eq, wp_pick_f, condW_t]
      exact bad (by rw [hd]; simp [decP, hne0, hfp, hfull]) _ hs2
    · have : ¬ ((acc.length : Int) = 2000) := by omega
      obtain ⟨v', s1, s2⟩ := hsl.from hn.2
      simp only [this, decide_false, mark_eq, wp_pick_f, condW_f, wp_ld, q3, retL_some]
      refine pushe o2 (by omega) ?_
      intro v9 K4 o4 kp4 fr4
      simp only [mark_eq, wp_slc, s1, retL_some]
      rw [hI]
      refine ⟨(rest.drop n').length, by simp; omega, rest.drop n', acc ++ [x'], rfl, by simp; omega, by simp; omega, by simpa using s2, fun b hh => hbr b (List.mem_of_mem_drop hh), by simpa using o4, ?_, ?_, ?_⟩
      · exact fun r d hr => kp4 r d (hs2 r d hr) (fun h9 => by have := fr r h9; rw [hr] at this; cases this)
      · intro b hb
        have := fr4 b (by simpa using hb)
        cases hk : K b with
        | none => rfl
        | some d => rw [hs2 b d hk] at this; cases this
      · rw [hd]
        have e1 : decP (rest.length + 1) rest acc.length = (decP rest.length (rest.drop n') (acc.length + 1)).map (x' :: ·) := by
          simp only [decP, hne0, if_false, hfp, hfull]
        rw [e1, decP_fuel rest.length ((rest.drop n').length + 1) _ _ (by simp; omega) (by omega)]
        simp only [List.length_append, List.length_singleton, Option.map_map]
        congr 1
        funext l
        simp
end Go.AM


/- script: what is written is read; in plain Lean. -/
set_option linter.unusedVariables false
set_option linter.unusedSimpArgs false
namespace Go.AM
def in64 (n : Int) : Prop := -9223372036854775808 ≤ n ∧ n < 9223372036854775808
def inE (x : Ent) : Prop := in64 x.1 ∧ in64 x.2.1 ∧ in64 x.2.2
theorem getN_b8 {n : Int} (h : in64 n) (t : List Int) : getN (b8 n ++ t) = n := by
  unfold getN
  have : (b8 n ++ t).take 8 = b8 n := by
    have h8 := b8_len n
    rw [← h8, List.take_left]
  rw [this]
  exact get_b8 h.1 h.2
theorem encE_cases {x : Ent} {c : List Int} (h : encE x = some c) : (x.1 = 1 ∧ c = 1 :: (b8 x.2.1 ++ b8 x.2.2)) ∨ (x.1 = 2 ∧ x.2.2 = 0 ∧ c = 2 :: b8 x.2.1) := by
  obtain ⟨k, n, d⟩ := x
  unfold encE at h
  simp only at h ⊢
  by_cases h1 : k = 1
  · subst h1
    left
    have e : wr .u8 1 = 1 := rfl
    simp [e] at h
    exact ⟨rfl, h.symm⟩
  · by_cases h2 : k = 2
    · subst h2
      right
      by_cases h3 : d = 0
      · subst h3
        have e : wr .u8 2 = 2 := rfl
        simp [e] at h
        exact ⟨rfl, rfl, h.symm⟩
      · simp [h3] at h
    · simp [h1, h2] at h
theorem firstP_enc {x : Ent} {c : List Int} (h : encE x = some c) (hx : inE x) (t : List Int) : firstP (c ++ t) = some (x, c.length) := by
  obtain ⟨k, n, d⟩ := x
  obtain ⟨_, hn, hd⟩ := hx
  simp only at hn hd
  rcases encE_cases h with ⟨h1, h2⟩ | ⟨h1, h2, h3⟩
  · simp only at h1 h2
    subst h1; subst h2
    have e0 : (1 :: (b8 n ++ b8 d) ++ t)[0]? = some 1 := rfl
    have e1 : (1 :: (b8 n ++ b8 d) ++ t).drop 1 = b8 n ++ (b8 d ++ t) := by simp
    have e9 : (1 :: (b8 n ++ b8 d) ++ t).drop 9 = b8 d ++ t := by
      show (b8 n ++ b8 d ++ t).drop 8 = _
      rw [List.append_assoc]
      have h8 := b8_len n
      rw [← h8, List.drop_left]
    have el : ¬ (1 :: (b8 n ++ b8 d) ++ t).length < 17 := by simp [b8_len]; omega
    unfold firstP
    rw [if_pos e0, if_neg el, e1, e9, getN_b8 hn, getN_b8 hd]
    simp [b8_len]
  · simp only at h1 h2 h3
    subst h1; subst h2; subst h3
    have e0 : (2 :: b8 n ++ t)[0]? = some 2 := rfl
    have e0' : ¬ (2 :: b8 n ++ t)[0]? = some 1 := by rw [e0]; simp
    have e1 : (2 :: b8 n ++ t).drop 1 = b8 n ++ t := by simp
    have el : ¬ (2 :: b8 n ++ t).length < 9 := by simp [b8_len]
    unfold firstP
    rw [if_neg e0', if_pos e0, if_neg el, e1, getN_b8 hn]
    simp [b8_len]
theorem encE_pos {x : Ent} {c : List Int} (h : encE x = some c) : 0 < c.length := by
  rcases encE_cases h with ⟨_, h2⟩ | ⟨_, _, h2⟩ <;> rw [h2] <;> simp
theorem encL_cons {x : Ent} {r : List Ent} {b : List Int} (h : encL (x :: r) = some b) : ∃ c b', encE x = some c ∧ encL r = some b' ∧ b = c ++ b' := by
  simp only [encL] at h
  cases hx : encE x with
  | none => rw [hx] at h; cases h
  | some c =>
    cases hr : encL r with
    | none => rw [hx, hr] at h; cases h
    | some b' =>
      rw [hx, hr] at h; simp at h
      exact ⟨c, b', rfl, rfl, h.symm⟩
/-- entries, and whatever is behind -/
theorem decP_enc : ∀ (l : List Ent) (b t : List Int) (c f g : Nat), encL l = some b → (∀ x ∈ l, inE x) → c + l.length ≤ 2000 → (b ++ t).length < f → t.length < g → decP f (b ++ t) c = (decP g t (c + l.length)).map (l ++ ·)
  | [], b, t, c, f, g, h, _, _, h2, h3 => by
    cases h
    simp only [List.nil_append, List.length_nil, Nat.add_zero] at h2 ⊢
    rw [decP_fuel f g t c h2 h3]
    cases decP g t c <;> rfl
  | x :: r, b, t, c, f, g, h, hx, hc, h2, h3 => by
    obtain ⟨cx, b', e1, e2, rfl⟩ := encL_cons h
    have hp := encE_pos e1
    have hf := firstP_enc e1 (hx x (by simp)) (b' ++ t)
    cases f with
    | zero => omega
    | succ f =>
      have hl : ¬ (cx ++ (b' ++ t)).length = 0 := by rw [List.length_append]; omega
      have hc' : c + (r.length + 1) ≤ 2000 := hc
      have hcc : ¬ c = 2000 := by omega
      have hlen : cx.length + b'.length + t.length < f + 1 := by simpa [Nat.add_assoc] using h2
      rw [List.append_assoc]
      have step : decP (f + 1) (cx ++ (b' ++ t)) c = (decP f (b' ++ t) (c + 1)).map (x :: ·) := by
        simp only [decP, hl, if_false, hf, hcc]
        rw [List.drop_left]
      rw [step, decP_enc r b' t (c + 1) f g e2 (fun y hy => hx y (by simp [hy])) (by omega) (by simp; omega) h3]
      have ec : c + (x :: r).length = c + 1 + r.length := by simp; omega
      rw [ec, Option.map_map]
      congr 1
theorem encL_len : ∀ (l : List Ent) (b : List Int), encL l = some b → b.length ≤ 17 * l.length
  | [], b, h => by cases h; simp
  | x :: r, b, h => by
    obtain ⟨cx, b', e1, e2, rfl⟩ := encL_cons h
    have := encL_len r b' e2
    have := encE_len e1
    simp; omega
theorem decR_enc {l : List Ent} {b : List Int} (h : encL l = some b) (hx : ∀ x ∈ l, inE x) (hl : l.length ≤ 2000) : decR b = some l := by
  have h1 := encL_len l b h
  have := decP_enc l b [] 0 (b.length + 1) 1 h hx (by omega) (by simp) (by simp)
  rw [List.append_nil] at this
  unfold decR
  rw [if_neg (by omega), this]
  simp [decP]
end Go.AM


/- rows: a slice of views among the arguments. -/
set_option linter.unusedVariables false
set_option linter.unusedSimpArgs false
namespace Go.AM
open Go.RowKit
end Go.AM


/- script: same, bytes, odd; rows with entries, with bytes. -/
set_option linter.unusedVariables false
set_option linter.unusedSimpArgs false
namespace Go.AM
open Go.RowKit
variable {N : Nat → Nat} {F : Nat → Option AFn}
theorem eqAt_e3 (x y : Ent) : eqAt (e3 x) (e3 y) [(0, 1), (1, 1), (2, 1)] = some (decide (x = y)) := by
  obtain ⟨a, b, c⟩ := x
  obtain ⟨a', b', c'⟩ := y
  by_cases h1 : a = a' <;> by_cases h2 : b = b' <;> by_cases h3 : c = c' <;> simp [e3, eqAt, eqOne, iEq_dec, h1, h2, h3]
theorem same_spec (hf : H_tarpaulinlaw3_same N F) {K : Lg} {a b : AV} {l m : List Ent} (ha : SlG e3 3 K a l) (hb : SlG e3 3 K b m) (hl : l.length ≤ 1000000) : CallL F (N k_tarpaulinlaw3_same) [a, b] K fun r K' => r = .b (decide (l = m)) ∧ K' = K := by
  refine CallL.opq ?_
  intro Q hQ
  have fin : ∀ w, w = decide (l = m) → fin1 (some (.b w)) Q K := fun w hw => ⟨K, Sees.refl _, hQ _ _ ⟨by rw [hw], rfl⟩⟩
  apply r_tarpaulinlaw3_same hf.code
  unfold D_tarpaulinlaw3_same_1 D_tarpaulinlaw3_same_2
  simp [initE, ha.len, hb.len]
  by_cases hlm : l.length = m.length
  rotate_left
  · refine ⟨fun _ => fin false (by simp; rintro rfl; exact hlm rfl), fun h9 => absurd (by omega : l.length = m.length) hlm⟩
  refine ⟨fun h9 => absurd (by omega) h9, fun _ => ?_⟩
  unfold D_tarpaulinlaw3_same_5 D_tarpaulinlaw3_same_7
  obtain ⟨I, hI⟩ : ∃ I : Nat → Env → Lg → Prop, I = fun k E K' => ∃ i : Nat, k + i = l.length ∧ E 0 = a ∧ E 1 = b ∧ E 5 = .i .i64 i ∧ K' = K ∧ ∀ j, j < i → l[j]? = m[j]? := ⟨_, rfl⟩
  refine loopW_intro I l.length ?_ ?_
  · rw [hI]; exact ⟨0, by omega, by simp, by simp, by simp, rfl, fun j hj => by omega⟩
  intro k E t K' hi
  rw [hI] at hi
  obtain ⟨i, hk, e0, e1, e5, rfl, hall⟩ := hi
  unfold D_tarpaulinlaw3_same_8
  rw [e0, e1, e5]
  simp only [mark_eq, ha.len, wp_lss, condW_d]
  refine ⟨fun hlt => ?_, fun hnl => ?_⟩
  rotate_left
  · have : i = l.length := by omega
    subst this
    unfold D_tarpaulinlaw3_same_4
    refine fin true ?_
    symm
    rw [decide_eq_true_eq]
    apply List.ext_getElem?
    intro j
    by_cases hj : j < l.length
    · exact hall j hj
    · rw [List.getElem?_eq_none (by omega), List.getElem?_eq_none (by omega)]
  have hil : i < l.length := by omega
  have him : i < m.length := by omega
  have hx : l[i]? = some l[i] := List.getElem?_eq_getElem hil
  have hy : m[i]? = some m[i] := List.getElem?_eq_getElem him
  generalize l[i] = x at hx
  generalize m[i] = y at hy
  obtain ⟨b1, o1, g1, g2, _⟩ := ha.get (F := F) hx
  obtain ⟨b2, o2, g3, g4, _⟩ := hb.get (F := F) hy
  have w1 : wr .i64 ((i : Int) + 1) = ((i + 1 : Nat) : Int) := by rw [wr_id (by omega) (by omega)]; omega
  have hne : (decide (x = y) != true) = !decide (x = y) := by cases decide (x = y) <;> rfl
  simp only [mark_eq, g1, wp_ld, (g2 K' (SubL.refl _)).2, g3, (g4 K' (SubL.refl _)).2, retL_some, wp_eqagg, eqAt_e3, Option.map_some, hne, condW_nd]
  refine ⟨fun hxy => fin false ?_, fun hxy => ?_⟩
  · symm
    rw [decide_eq_false_iff_not]
    rintro rfl
    rw [hx] at hy; cases hy
    exact hxy rfl
  · simp only [mark_eq, wp_add, w1]
    rw [hI]
    refine ⟨k - 1, by omega, i + 1, by omega, by simp [e0], by simp [e1], by simp, rfl, fun j hj => ?_⟩
    by_cases e : j = i
    · subst e; rw [hx, hy, hxy]
    · exact hall j (by omega)
theorem u8s_ucl : ∀ {l : List Int}, (∀ b ∈ l, isB b) → u8s (ucl l) = some (l.map fun n => UInt8.ofNat n.toNat)
  | [], _ => rfl
  | b :: r, h => by
    have hb := h b (by simp)
    unfold isB at hb
    obtain ⟨n, rfl⟩ := Int.eq_ofNat_of_zero_le hb.1
    have ih := u8s_ucl (l := r) fun x hx => h x (by simp [hx])
    show (match u8s (ucl r) with | some l => some (UInt8.ofNat n :: l) | none => none) = _
    rw [ih]
    rfl
theorem u8_inj : ∀ {l m : List Int}, (∀ b ∈ l, isB b) → (∀ b ∈ m, isB b) → (l.map fun n => UInt8.ofNat n.toNat) = (m.map fun n => UInt8.ofNat n.toNat) → l = m
  | [], [], _, _, _ => rfl
  | [], _ :: _, _, _, h => by cases h
  | _ :: _, [], _, _, h => by cases h
  | a :: r, b :: s, h1, h2, h => by
    simp only [List.map_cons, List.cons.injEq] at h
    have ha := h1 a (by simp)
    have hb := h2 b (by simp)
    unfold isB at ha hb
    have e : a = b := by
      have := congrArg UInt8.toNat h.1
      simp at this
      omega
    rw [e, u8_inj (fun x hx => h1 x (by simp [hx])) (fun x hx => h2 x (by simp [hx])) h.2]
theorem SlG.cvt {K : Lg} {v : AV} {l : List Int} (h : SlG fu 1 K v l) (hb : ∀ b ∈ l, isB b) (k : AV → Lg → Prop) : wpOp F .cvtB [v] K k = k (.s (l.map fun n => UInt8.ofNat n.toNat)) K := by
  obtain ⟨a, cap, ex, rfl, h1⟩ := SlG.all (f := fu) (z := 1) (fun _ => rfl) h
  have h2 := h1 K (SubL.refl K)
  rw [Nat.mul_one, flatc_fu] at h2
  rw [wp_cvtB]
  unfold rCvtBL
  by_cases h0 : l = []
  · subst h0; simp
  · have hn : ¬ l.length = 0 := fun h9 => h0 (List.length_eq_zero_iff.1 h9)
    simp only [hn, if_false, h2, u8s_ucl hb, mark_eq, retL_some]
theorem bytesEq_map {l m : List Int} (hl : ∀ b ∈ l, isB b) (hm : ∀ b ∈ m, isB b) : bytesEq (l.map fun n => UInt8.ofNat n.toNat) (m.map fun n => UInt8.ofNat n.toNat) = decide (l = m) := by
  by_cases h : l = m
  · subst h
    simp [bytesEq_eq]
  · have : ¬ (l.map fun n => UInt8.ofNat n.toNat) = (m.map fun n => UInt8.ofNat n.toNat) := fun h9 => h (u8_inj hl hm h9)
    simp [bytesEq_eq, h, this]
theorem bytes_spec (hf : H_tarpaulinlaw3_bytes N F) {K : Lg} {a b : AV} {l m : List Int} (ha : SlG fu 1 K a l) (hb : SlG fu 1 K b m) (hl : ∀ b ∈ l, isB b) (hm : ∀ b ∈ m, isB b) : CallL F (N k_tarpaulinlaw3_bytes) [a, b] K fun r K' => r = .b (decide (l = m)) ∧ K' = K := by
  refine CallL.opq ?_
  intro Q hQ
  apply r_tarpaulinlaw3_bytes hf.code
  unfold D_tarpaulinlaw3_bytes_1
  rw [ha.cvt hl, hb.cvt hm]
  have : ∀ k : AV → Lg → Prop, wpOp F (.sbin .eql) [.s (l.map fun n => UInt8.ofNat n.toNat), .s (m.map fun n => UInt8.ofNat n.toNat)] K k = k (.b (decide (l = m))) K := by
    intro k
    rw [← bytesEq_map hl hm]
    rfl
  rw [this]
  exact ⟨K, Sees.refl _, hQ _ _ ⟨rfl, rfl⟩⟩
/-! ### rows -/
def REnt := { x : Ent // inE x }
instance : Inhabited REnt := ⟨⟨(0, 0, 0), by unfold inE in64; simp⟩⟩
def RByt := { x : Int // isB x }
instance : Inhabited RByt := ⟨⟨0, by unfold isB; simp⟩⟩
end Go.AM


/- slices that begin as an empty literal. -/
set_option linter.unusedVariables false
set_option linter.unusedSimpArgs false
namespace Go.AM
variable {N : Nat → Nat} {F : Nat → Option AFn}
/-- a slice of one's own, or an empty one with a block -/
def OSe (K : Lg) (v : AV) (cs : List AV) (n size : Nat) : Prop := OSl K v cs n size ∨ (n = 0 ∧ cs = [] ∧ ∃ b, v = .sl (some (b, 0)) 0 0 0 ∧ K b = some (.raw (.cells [])))
theorem OSe.block {K : Lg} {v : AV} {cs : List AV} {n size : Nat} (h : OSe K v cs n size) {b : Nat} (e : slB v = some b) : K b = some (.raw (.cells cs)) := by
  rcases h with h | ⟨_, rfl, b', rfl, h⟩
  · exact h.block e
  · simp [slB] at e; subst e; exact h
theorem OSe.slG {α : Type} {f : α → List AV} {z : Nat} {K : Lg} {v : AV} {l : List α} (hf : ∀ x, (f x).length = z) (h : OSe K v (flatc f l) l.length z) : SlG f z K v l := by
  rcases h with h | ⟨h1, h2, b, rfl, h3⟩
  · exact SlG.of_own hf h
  · have := List.length_eq_zero_iff.1 h1
    subst this
    exact ⟨some (b, 0), 0, 0, rfl, by simp, .inl rfl, .inr ⟨b, 0, [], rfl, .inl h3, by simp, fun i x hi => by simp at hi⟩⟩
/-- a slice is put behind one's own -/
theorem OSe.app {α : Type} {f : α → List AV} {z bytes n : Nat} {K : Lg} {v src : AV} {cs : List AV} {l : List α} (hf : ∀ x, (f x).length = z) (h1 : ∀ x, (f x).all AV.one = true) (hz : 0 < z) (h : OSe K v cs n z) (hs : SlG f z K src l) (hb : (n + l.length) * bytes ≤ 70368744177664)
    {k : AV → Lg → Prop} (hk : ∀ (v' : AV) (K1 : Lg), OSe K1 v' (cs ++ flatc f l) (n + l.length) z → KeepE (slB v) K K1 → (∀ b, slB v' = some b → K b = none ∨ slB v = some b) → k v' K1) : wpOp F (.app z bytes) [v, src] K k := by
  obtain ⟨a, cap, ex, rfl, hall⟩ := hs.all hf
  have hr := hall K (SubL.refl K)
  rw [wp_app]
  by_cases h0 : l.length = 0
  · have hl := List.length_eq_zero_iff.1 h0
    subst hl
    have same : k v K := hk v K (by simpa [flatc] using h) (fun r d hr _ => hr) (fun b hb => .inr hb)
    simp only [List.length_nil, Nat.zero_mul] at hr
    rcases h with h | ⟨_, _, b, rfl, _⟩
    · exact h.app0 rfl (by simpa [flatc] using hr) same
    · simp only [appW, List.length_nil, Nat.zero_mul, hr, appL]
      simpa [flatc] using same
  · have hlen := flatc_length (f := f) (k := z) hf l
    rcases h with h | ⟨rfl, rfl, b, rfl, hb'⟩
    · refine h.app (m := l.length) hz rfl (by omega) hr hlen (flatc_one h1 l) hb ?_
      intro b K1 g hO
      refine hk _ _ (.inl hO) ?_ ?_
      · intro r d hr hne
        have r2 : r ≠ b := by rintro rfl; rw [g.fresh] at hr; cases hr
        rw [g.same r r2 hne]; exact hr
      · intro q hq; simp [slB] at hq; subst hq; exact .inl g.fresh
    · refine appW_grow (L' := K) (old := []) hr (flatc_one h1 l) (by omega) hb (by simp [rdCellsL, hb', AB.read, cut, ble_nat]) (by simp [goneL]) ?_
      intro q hq
      refine hk _ _ (.inl (.inr ⟨q, z, by omega, rfl, .inr rfl, Lg.put_same _ _ _, by simp [hlen]⟩)) ?_ ?_
      · intro r d hr _
        rw [Lg.put_ne]; exact hr
        rintro rfl; rw [hq] at hr; cases hr
      · intro q' hq'; simp [slB] at hq'; subst hq'; exact .inl hq
end Go.AM


/- ScriptBack. -/
set_option linter.unusedVariables false
set_option linter.unusedSimpArgs false
namespace Go.AM
variable {N : Nat → Nat} {F : Nat → Option AFn}
theorem encL_isB : ∀ (l : List Ent) (b : List Int), encL l = some b → ∀ y ∈ b, isB y
  | [], b, h => by cases h; intro y hy; cases hy
  | x :: r, b, h => by
    obtain ⟨c, b', e1, e2, rfl⟩ := encL_cons h
    intro y hy
    rcases List.mem_append.1 hy with hy | hy
    · rcases encE_cases e1 with ⟨_, h2⟩ | ⟨_, _, h2⟩
      · rw [h2] at hy
        rcases List.mem_cons.1 hy with rfl | hy
        · unfold isB; omega
        · rcases List.mem_append.1 hy with hy | hy <;> exact b8_isB _ y hy
      · rw [h2] at hy
        rcases List.mem_cons.1 hy with rfl | hy
        · unfold isB; omega
        · exact b8_isB _ y hy
    · exact encL_isB r b' e2 y hy
theorem SlG.of_ownE {K : Lg} {v : AV} {l : List Ent} (h : OSl K v (flatc e3 l) l.length 3) : SlG e3 3 K v l := SlG.of_own (fun _ => rfl) h
theorem SlG.of_ownB {K : Lg} {v : AV} {l : List Int} (h : OSl K v (ucl l) l.length 1) : SlG fu 1 K v l := SlG.of_own (fun _ => rfl) (by rw [flatc_fu]; exact h)
end Go.AM


/- ScriptJoins. -/
set_option linter.unusedVariables false
set_option linter.unusedSimpArgs false
namespace Go.AM
variable {N : Nat → Nat} {F : Nat → Option AFn}
theorem encL_append : ∀ (a b : List Ent), encL (a ++ b) = match encL a, encL b with
    | some x, some y => some (x ++ y)
    | _, _ => none
  | [], b => by simp only [List.nil_append, encL]; cases encL b <;> rfl
  | x :: r, b => by
    simp only [List.cons_append, encL, encL_append r b]
    cases encE x <;> cases encL r <;> cases encL b <;> simp
end Go.AM


/- ScriptOdd. -/
set_option linter.unusedVariables false
set_option linter.unusedSimpArgs false
namespace Go.AM
variable {N : Nat → Nat} {F : Nat → Option AFn}
end Go.AM


/- ScriptLimits. -/
set_option linter.unusedVariables false
set_option linter.unusedSimpArgs false
namespace Go.AM
variable {N : Nat → Nat} {F : Nat → Option AFn}
theorem decR_many {l : List Ent} {b : List Int} (hl : encL l = some b) (hx : ∀ x ∈ l, inE x) (h2 : 2000 < l.length) (h3 : b.length ≤ 65536) : decR b = none := by
  have hs : l = l.take 2000 ++ l.drop 2000 := (List.take_append_drop 2000 l).symm
  have ht : (l.take 2000).length = 2000 := by simp; omega
  cases hd : l.drop 2000 with
  | nil => have := congrArg List.length hd; simp at this; omega
  | cons x r =>
    rw [hd] at hs
    rw [hs, encL_append] at hl
    cases h1 : encL (l.take 2000) with
    | none => rw [h1] at hl; cases hl
    | some b1 =>
      cases h4 : encL (x :: r) with
      | none => rw [h1, h4] at hl; cases hl
      | some b2 =>
        rw [h1, h4] at hl
        simp at hl
        subst hl
        obtain ⟨c, b3, e1, e2, rfl⟩ := encL_cons h4
        have hxx : inE x := hx x (by rw [hs]; simp)
        have hf := firstP_enc e1 hxx b3
        have hp := encE_pos e1
        unfold decR
        rw [if_neg (by omega)]
        rw [decP_enc (l.take 2000) b1 (c ++ b3) 0 _ ((c ++ b3).length + 1) h1 (fun y hy => hx y (List.mem_of_mem_take hy)) (by omega) (by omega) (by omega)]
        have : decP ((c ++ b3).length + 1) (c ++ b3) (0 + (l.take 2000).length) = none := by
          have hn : ¬ (c ++ b3).length = 0 := by rw [List.length_append]; omega
          simp only [decP, hn, if_false, hf, ht]
          rfl
        rw [this]; rfl
/-- entries alike, the others blank -/
def lim (k : Int) (n i : Nat) : List Ent := List.replicate i (k, 0, 0) ++ List.replicate (n - i) (0, 0, 0)
theorem lim_len (k : Int) {n i : Nat} (h : i ≤ n) : (lim k n i).length = n := by simp [lim]; omega
theorem lim_get (k : Int) {n i : Nat} (h : i < n) : (lim k n i)[i]? = some (0, 0, 0) := by
  unfold lim
  rw [List.getElem?_append_right (by simp), List.length_replicate, Nat.sub_self]
  have e : n - i = (n - (i + 1)) + 1 := by omega
  rw [e]; rfl
theorem lim_set (k : Int) {n i : Nat} (h : i < n) : (lim k n i).set i (k, 0, 0) = lim k n (i + 1) := by
  unfold lim
  rw [List.set_append_right _ _ (by simp)]
  have e : n - i = (n - (i + 1)) + 1 := by omega
  rw [e, List.replicate_succ]
  simp [List.replicate_succ']
theorem lim_all (k : Int) (n : Nat) : lim k n n = List.replicate n (k, 0, 0) := by simp [lim]
/-- one entry's bytes -/
def chunk (run : Bool) : List Int := if run = true then 1 :: List.replicate 16 0 else 2 :: List.replicate 8 0
def kd3 (run : Bool) : Int := if run = true then 1 else 2
theorem encE_chunk (run : Bool) : encE (kd3 run, 0, 0) = some (chunk run) := by
  cases run <;> rfl
def chunks (run : Bool) : Nat → List Int
  | 0 => []
  | n + 1 => chunks run n ++ chunk run
theorem encL_chunks (run : Bool) : ∀ n, encL (List.replicate n (kd3 run, 0, 0)) = some (chunks run n)
  | 0 => rfl
  | n + 1 => by
    rw [List.replicate_succ']
    exact encL_snoc (encE_chunk run) _ _ (encL_chunks run n)
theorem chunks_len (run : Bool) : ∀ n, (chunks run n).length ≤ 17 * n
  | 0 => by simp [chunks]
  | n + 1 => by
    have := chunks_len run n
    have h : (chunk run).length ≤ 17 := by cases run <;> simp [chunk]
    simp [chunks]; omega
theorem flatc_setE {α : Type} {f : α → List AV} {k : Nat} (hf : ∀ x, (f x).length = k) : ∀ (l : List α) (i j : Nat) (x x' : α) (a : AV), l[i]? = some x → j < k → f x' = (f x).set j a → (flatc f l).set (i * k + j) a = flatc f (l.set i x')
  | [], i, j, x, x', a, h, _, _ => by simp at h
  | y :: r, 0, j, x, x', a, h, hj, e => by
    simp at h; subst h
    simp only [flatc, Nat.zero_mul, Nat.zero_add, List.set_cons_zero, e]
    rw [List.set_append_left _ _ (by rw [hf]; exact hj)]
  | y :: r, i + 1, j, x, x', a, h, hj, e => by
    simp only [List.getElem?_cons_succ] at h
    simp only [flatc, List.set_cons_succ]
    rw [List.set_append_right _ _ (by rw [hf, Nat.add_mul]; omega), hf, ← flatc_setE hf r i j x x' a h hj e]
    congr 2
    rw [Nat.add_mul]; omega
theorem reps3 : ∀ n, reps [AV.i .i64 0, .i .i64 0, .i .i64 0] n = flatc e3 (List.replicate n (0, 0, 0))
  | 0 => rfl
  | n + 1 => by
    rw [List.replicate_succ]
    show [AV.i .i64 0, .i .i64 0, .i .i64 0] ++ reps _ n = e3 (0, 0, 0) ++ flatc e3 _
    rw [reps3 n]; rfl
theorem pushL {K : Lg} {v : AV} {bs xs : List Int} {z : List AV} {len : Nat} {ps : List Nat} {vs : List AV} (h : OSl K v (ucl bs) bs.length 1) (hx : 0 < xs.length) (hl : len = xs.length) (hf : fillP (reps z len) (ps.map fun i => (i * 1, 1)) vs = some (ucl xs)) (hb : bs.length + xs.length ≤ 1000000) {k : AV → Lg → Prop}
    (hk : ∀ (v' : AV) (K1 : Lg), OSl K1 v' (ucl (bs ++ xs)) (bs ++ xs).length 1 → KeepE (slB v) K K1 → (∀ b, slB v' = some b → K b = none) → k v' K1) : wpOp F (.bslice z len 1 ps) vs K fun s L => wpOp F (.app 1 1) [v, s] L k := by
  have ho : ∀ l : List Int, (ucl l).all AV.one = true := fun l => by induction l with | nil => rfl | cons a r ih => simp [ucl, AV.one]
  have hu : (ucl xs).length = xs.length * 1 := by simp [ucl]
  rw [wp_bslice, newL_bslice (c := ucl xs) _ _ hf (ho xs)]
  intro b1 hb1
  rw [wp_app]
  have g1 : (K.put b1 (.raw (.cells (ucl xs)))) b1 = some (.raw (.cells (ucl xs))) := Lg.put_same _ _ _
  have h1 : OSl (K.put b1 (.raw (.cells (ucl xs)))) v (ucl bs) bs.length 1 := h.mono fun b hbb => Lg.put_ne _ _ _ (by rintro rfl; have := h.block hbb; rw [hb1] at this; cases this)
  subst hl
  have hcut : cut (ucl xs) 0 (xs.length * 1) = some (ucl xs) := by
    have : (ucl xs).take xs.length = ucl xs := List.take_of_length_le (by simp [ucl])
    simp [cut, ble_nat, hu, this]
  refine h1.app (m := xs.length) (by omega) rfl hx (new := ucl xs) (by simp only [rdCellsL, g1, AB.read, hcut]) hu (ho xs) (by omega) ?_
  intro b2 K1 g hO
  have f2 : b2 ≠ b1 ∧ K b2 = none := by
    have := g.fresh
    have n1 : b2 ≠ b1 := by rintro rfl; rw [Lg.put_same] at this; cases this
    rw [Lg.put_ne _ _ _ n1] at this
    exact ⟨n1, this⟩
  refine hk _ _ (by rw [ucl_append, List.length_append]; exact hO) ?_ ?_
  · intro r d hr hne
    have r1 : r ≠ b1 := by rintro rfl; rw [hb1] at hr; cases hr
    have r2 : r ≠ b2 := by rintro rfl; rw [f2.2] at hr; cases hr
    rw [g.same r r2 hne, Lg.put_ne _ _ _ r1]; exact hr
  · intro b hbb; simp [slB] at hbb; subst hbb; exact f2.2
attribute [local irreducible] wpOp in
theorem scriptLimits_law {L0 : Lg} (code : F (N k_tarpaulinlaw3_ScriptLimits) = some (c_tarpaulinlaw3_ScriptLimits N)) (aw : F (N k_tarpaulinlaw3_awake) = some kTrue) (h1 : H_script_Encode N F) (h2 : H_script_Decode N F) (h5 : H_tarpaulinlaw3_bytes N F) (h3 : H_tarpaulinlaw3_same N F)
    (nn : Int) (run : Bool) : CallL F (N k_tarpaulinlaw3_ScriptLimits) [.i .i64 nn, .b run] L0 fun v _ => v = .b true := by
  refine CallL.opq ?_
  intro Q hQ
  have fin : ∀ L, fin1 (some (.b true)) Q L := fun L => ⟨L, Sees.refl _, hQ _ _ rfl⟩
  have awk : ∀ L, CallL F (N k_tarpaulinlaw3_awake) [] L fun v17 L17 => fin1 (some v17) Q L17 := by
    intro L
    refine (known2_spec aw _).mono ?_
    rintro _ _ ⟨rfl, rfl⟩
    exact fin _
  have awp : ∀ L, CallL F (N k_tarpaulinlaw3_awake) [] L fun v4 L4 => wpOp F .pick [.b true, v4, .b false] L4 fun v5 L5 => fin1 (some v5) Q L5 := by
    intro L
    refine (known2_spec aw _).mono ?_
    rintro _ _ ⟨rfl, rfl⟩
    simp only [mark_eq, wp_pick_t]
    exact fin _
  apply r_tarpaulinlaw3_ScriptLimits code
  unfold D_tarpaulinlaw3_ScriptLimits_1 D_tarpaulinlaw3_ScriptLimits_2
  by_cases g1 : nn < 0
  · simpa [initE, g1] using awk _
  by_cases g2 : 2100 < nn
  · simpa [initE, g1, g2] using awk _
  simp [initE, g1, g2]
  obtain ⟨n, rfl⟩ := Int.eq_ofNat_of_zero_le (Int.not_lt.1 g1)
  have hn : n ≤ 2100 := by omega
  unfold D_tarpaulinlaw3_ScriptLimits_3
  simp only [Env.put_apply, if_true, if_false, reduceIte, Nat.reduceEqDiff, mark_eq]
  rw [wp_mksl F _ _ [.i .i64 0, .i .i64 0, .i .i64 0] 24 .i64 .i64 n n (Nat.le_refl n) (by omega)]
  intro b0 hb0
  unfold D_tarpaulinlaw3_ScriptLimits_4 D_tarpaulinlaw3_ScriptLimits_10 D_tarpaulinlaw3_ScriptLimits_12
  have o5 : OSe (L0.put b0 (.raw (.cells (reps [.i .i64 0, .i .i64 0, .i .i64 0] n)))) (.sl (some (b0, 0)) n n 0) (flatc e3 (lim (kd3 run) n 0)) n 3 := by
    have e : lim (kd3 run) n 0 = List.replicate n (0, 0, 0) := by simp [lim]
    rw [e, ← reps3]
    by_cases h0 : n = 0
    · subst h0
      exact .inr ⟨rfl, rfl, b0, rfl, Lg.put_same _ _ _⟩
    · exact .inl (.inr ⟨b0, 0, by omega, rfl, .inl rfl, Lg.put_same _ _ _, by rw [reps3, flatc_length (k := 3) (fun _ => rfl)]; simp⟩)
  generalize L0.put b0 (.raw (.cells (reps [.i .i64 0, .i .i64 0, .i .i64 0] n))) = K at o5
  generalize hv5 : AV.sl (some (b0, 0)) n n 0 = v5 at o5
  have hsb : slB v5 = some b0 := by rw [← hv5]; rfl
  obtain ⟨I, hI⟩ : ∃ I : Nat → Env → Lg → Prop, I = fun m E K => ∃ i : Nat, m + i = n ∧ OSe K v5 (flatc e3 (lim (kd3 run) n i)) n 3 ∧ OSl K (E 6) (ucl (chunks run i)) (chunks run i).length 1 ∧ (∀ b, slB (E 6) = some b → b ≠ b0) ∧ E 0 = .i .i64 n ∧ E 1 = .b run ∧ E 5 = v5 ∧ E 7 = .i .i64 i := ⟨_, rfl⟩
  refine loopW_intro I n ?_ ?_
  · rw [hI]; exact ⟨0, by omega, o5, by simpa [chunks, ucl] using OSl.nil _ 1, fun b hb => by simp [slB] at hb, by simp, by simp, by simp [hv5], by simp⟩
  clear o5 hb0
  intro m E t K hi
  rw [hI] at hi
  obtain ⟨i, hm, o5, o6, hdis, e0, e1, e5, e7⟩ := hi
  unfold D_tarpaulinlaw3_ScriptLimits_13
  rw [e7, e0]
  simp only [mark_eq, wp_lss, condW_d]
  refine ⟨fun hlt => ?_, fun hnl => ?_⟩
  · have hin : i < n := by omega
    have w1 : wr .i64 ((i : Int) + 1) = ((i + 1 : Nat) : Int) := by rw [wr_id (by omega) (by omega)]; omega
    have hblk : K b0 = some (.raw (.cells (flatc e3 (lim (kd3 run) n i)))) := o5.block hsb
    have hlen : (flatc e3 (lim (kd3 run) n i)).length = n * 3 := by rw [flatc_length (k := 3) (fun _ => rfl), lim_len _ (by omega)]
    have hiad : ∀ (X : Lg) (k : AV → Lg → Prop), wpOp F (.iad 3) [v5, .i .i64 i] X k = k (.p (some (b0, i * 3))) X := by
      intro X k
      rw [← hv5, wp_iad F X k 3 b0 0 n n 0 .i64 i (by omega) (by omega)]
      simp
    have hset : ∀ w : Int, (flatc e3 (lim (kd3 run) n i)).set (i * 3) (.i .i64 w) = flatc e3 ((lim (kd3 run) n i).set i (w, 0, 0)) := by
      intro w
      have := flatc_setE (f := e3) (k := 3) (fun _ => rfl) (lim (kd3 run) n i) i 0 (0, 0, 0) (w, 0, 0) (.i .i64 w) (lim_get _ hin) (by omega) rfl
      simpa using this
    have hput : ∀ (w : Int), OSl (K.put b0 (.raw (.cells (flatc e3 ((lim (kd3 run) n i).set i (w, 0, 0)))))) (E 6) (ucl (chunks run i)) (chunks run i).length 1 := fun w => o6.mono fun q hq => Lg.put_ne _ _ _ (hdis q hq)
    have hcl := chunks_len run i
    have next : ∀ (E2 : Env) (K2 : Lg) (v6 : AV), K2 b0 = some (.raw (.cells (flatc e3 (lim (kd3 run) n (i + 1))))) → OSl K2 v6 (ucl (chunks run (i + 1))) (chunks run (i + 1)).length 1 → (∀ b, slB v6 = some b → b ≠ b0) → E2 0 = .i .i64 n → E2 1 = .b run → E2 5 = v5 → E2 6 = v6 → E2 7 = .i .i64 i → D_tarpaulinlaw3_ScriptLimits_15 F N Q (fun l L => ∃ m_1, m_1 < m ∧ I m_1 l L) E2 K2 := by
      intro E2 K2 v6 y0 y1 y2 y3 y4 y5 y6 y7
      unfold D_tarpaulinlaw3_ScriptLimits_15
      rw [y7]
      simp only [mark_eq, wp_add, w1]
      rw [hI]
      refine ⟨m - 1, by omega, i + 1, by omega, .inl (.inr ⟨b0, 0, by omega, hv5.symm, .inl rfl, y0, ?_⟩), by simpa [y6] using y1, by simpa [y6] using y2, by simp [y3], by simp [y4], by simp [y5], by simp⟩
      rw [flatc_length (k := 3) (fun _ => rfl), lim_len _ (by omega)]
    unfold D_tarpaulinlaw3_ScriptLimits_17
    rw [e5, e7]
    simp only [mark_eq, hiad, wp_fad, Nat.add_zero, wp_st]
    rw [stL_cell hblk (by rw [hlen]; omega) rfl, hset 2]
    have hb2 : (K.put b0 (.raw (.cells (flatc e3 ((lim (kd3 run) n i).set i (2, 0, 0)))))) b0 = some (.raw (.cells (flatc e3 ((lim (kd3 run) n i).set i (2, 0, 0))))) := Lg.put_same _ _ _
    have hgetc : ∀ w : Int, (flatc e3 ((lim (kd3 run) n i).set i (w, 0, 0)))[i * 3]? = some (.i .i64 w) := by
      intro w
      have hgg : ((lim (kd3 run) n i).set i (w, 0, 0))[i]? = some (w, 0, 0) := List.getElem?_set_self (by rw [lim_len _ (by omega)]; exact hin)
      have := flatc_at (f := e3) (k := 3) (fun _ => rfl) _ i _ hgg
      have h9 := drop_get this.1 (j := 0) (by omega)
      rw [Nat.add_zero] at h9
      exact h9.trans rfl
    unfold D_tarpaulinlaw3_ScriptLimits_18
    rw [e1, e5, e7]
    cases hr : run with
    | false =>
      have hp2 := hput 2
      have r0 : rdL (K.put b0 (.raw (.cells (flatc e3 ((lim (kd3 run) n i).set i (2, 0, 0)))))) (b0, i * 3) none = some (.i .i64 2) := by rw [rdL_cell hb2]; exact hgetc 2
      have hl1 : (lim (kd3 run) n i).set i (2, 0, 0) = lim (kd3 run) n (i + 1) := by
        have : kd3 run = 2 := by rw [hr]; rfl
        rw [this]; exact lim_set 2 hin
      rw [hr] at hp2 r0 hb2 hl1
      rw [hl1] at hp2 r0 hb2 ⊢
      have w2 : wr .u8 2 = 2 := rfl
      simp only [mark_eq, condW_f, hiad, wp_fad, Nat.add_zero, wp_ld, r0, retL_some, wp_cvtI, w2]
      refine pushL (xs := chunk false) hp2 (by simp [chunk]) rfl (by rfl) (by rw [hr] at hcl; simp [chunk]; omega) ?_
      intro v9 K3 o3 k3 f3
      simp only [mark_eq, condW_f]
      have hdis2 : ∀ b, slB v9 = some b → b ≠ b0 := by
        rintro b hb rfl
        have := f3 b hb
        rw [Lg.put_same] at this; cases this
      rw [hr] at next
      refine next _ K3 v9 (k3 b0 _ hb2 (fun h9 => hdis b0 h9 rfl)) o3 hdis2 (by simp [e0]) (by simp [e1, hr]) (by simp [e5]) (by simp) (by simp [e7])
    | true =>
      have hp1 := hput 1
      have hset2 : (flatc e3 ((lim (kd3 run) n i).set i (2, 0, 0))).set (i * 3) (.i .i64 1) = flatc e3 ((lim (kd3 run) n i).set i (1, 0, 0)) := by
        have hgg : ((lim (kd3 run) n i).set i (2, 0, 0))[i]? = some (2, 0, 0) := List.getElem?_set_self (by rw [lim_len _ (by omega)]; exact hin)
        have := flatc_setE (f := e3) (k := 3) (fun _ => rfl) ((lim (kd3 run) n i).set i (2, 0, 0)) i 0 (2, 0, 0) (1, 0, 0) (.i .i64 1) hgg (by omega) rfl
        rw [Nat.add_zero, List.set_set] at this
        exact this
      have hlen2 : (flatc e3 ((lim (kd3 run) n i).set i (2, 0, 0))).length = n * 3 := by rw [flatc_length (k := 3) (fun _ => rfl), List.length_set, lim_len _ (by omega)]
      have hl1 : (lim (kd3 run) n i).set i (1, 0, 0) = lim (kd3 run) n (i + 1) := by
        have : kd3 run = 1 := by rw [hr]; rfl
        rw [this]; exact lim_set 1 hin
      have r0 : rdL (K.put b0 (.raw (.cells (flatc e3 ((lim (kd3 run) n i).set i (1, 0, 0)))))) (b0, i * 3) none = some (.i .i64 1) := by rw [rdL_cell (Lg.put_same _ _ _)]; exact hgetc 1
      have hb1 : (K.put b0 (.raw (.cells (flatc e3 ((lim (kd3 run) n i).set i (1, 0, 0)))))) b0 = some (.raw (.cells (flatc e3 ((lim (kd3 run) n i).set i (1, 0, 0))))) := Lg.put_same _ _ _
      rw [hl1] at hp1 r0 hb1 hset2
      rw [hr] at hb2 hp1 hset2 hlen2 r0 hb1 next
      simp only [mark_eq, condW_t, hiad, wp_fad, Nat.add_zero, wp_st]
      rw [stL_cell hb2 (by rw [hlen2]; omega) rfl, Lg.put_put, hset2]
      have w1' : wr .u8 1 = 1 := rfl
      simp only [mark_eq, hiad, wp_fad, Nat.add_zero, wp_ld, r0, retL_some, wp_cvtI, w1']
      rw [hr] at hcl
      refine pushL (xs := 1 :: List.replicate 8 0) hp1 (by simp) rfl (by rfl) (by simp; omega) ?_
      intro v9 K3 o3 k3 f3
      have hdis2 : ∀ b, slB v9 = some b → b ≠ b0 := by
        rintro b hb rfl
        have := f3 b hb
        rw [Lg.put_same] at this; cases this
      have hb3 := k3 b0 _ hb1 (fun h9 => hdis b0 h9 rfl)
      simp only [mark_eq, condW_t]
      refine pushL (xs := List.replicate 8 0) o3 (by simp) rfl (by rfl) (by simp; omega) ?_
      intro v11 K4 o4 k4 f4
      have hdis3 : ∀ b, slB v11 = some b → b ≠ b0 := by
        rintro b hb rfl
        have := f4 b hb
        rw [hb3] at this; cases this
      have hch : chunks true i ++ (1 :: List.replicate 8 0) ++ List.replicate 8 0 = chunks true (i + 1) := by simp [chunks, chunk, List.replicate]
      rw [hch] at o4
      exact next _ K4 v11 (k4 b0 _ hb3 (fun h9 => hdis2 b0 h9 rfl)) o4 hdis3 (by simp [e0]) (by simp [e1, hr]) (by simp [e5]) (by simp) (by simp [e7])
  have hin : i = n := by omega
  subst hin
  clear hI hnl hm I
  unfold D_tarpaulinlaw3_ScriptLimits_6
  rw [e5]
  rw [lim_all] at o5
  have hL : (List.replicate i (kd3 run, (0 : Int), (0 : Int))).length = i := by simp
  have s5 : SlG e3 3 K v5 (List.replicate i (kd3 run, 0, 0)) := OSe.slG (f := e3) (z := 3) (fun _ => rfl) (by rw [hL]; exact o5)
  have hE := encL_chunks run i
  have s6 := SlG.of_ownB o6
  have hcl := chunks_len run i
  have hinE : ∀ x ∈ List.replicate i (kd3 run, (0 : Int), (0 : Int)), inE x := by
    intro x hx
    rw [List.eq_of_mem_replicate hx]
    unfold inE in64 kd3
    cases run <;> simp
  have hB := encL_isB _ _ hE
  generalize chunks run i = cb at hE s6 hcl hB
  generalize List.replicate i (kd3 run, (0 : Int), (0 : Int)) = l at s5 hE hL hinE
  generalize E 6 = v6 at s6
  refine (encode_spec h1 s5).mono ?_
  rintro _ K1 ⟨v8, rfl, o8, sub1, _⟩
  have s51 := s5.mono sub1
  have s61 := s6.mono sub1
  simp only [mark_eq, wp_ext, List.getElem?_cons_zero, List.getElem?_cons_succ, retL_some]
  unfold D_tarpaulinlaw3_ScriptLimits_7
  refine (decode_spec h2 s61 hB).mono ?_
  rintro _ K2 ⟨v10, rfl, o10, sub2, _⟩
  have s52 := s51.mono sub2
  have s62 := s61.mono sub2
  have s82 := (SlG.of_ownB o8).mono sub2
  have l8 := fun X k => o8.len (F := F) X k
  have l10 := fun X k => o10.len (F := F) X k
  simp only [mark_eq, wp_ext, List.getElem?_cons_zero, List.getElem?_cons_succ, retL_some]
  unfold D_tarpaulinlaw3_ScriptLimits_8
  simp only [mark_eq, wp_gtr, condW_d]
  refine ⟨fun hbig => ?_, fun hsm => ?_⟩
  · have hR : encR l = none := by unfold encR; rw [if_pos (by omega)]
    have hD : decR cb = none := decR_many hE hinE (by omega) (by omega)
    rw [hR] at l8 ⊢
    rw [hD] at l10 ⊢
    simp only [Option.isSome_none, Option.getD_none, List.length_nil, Int.natCast_zero, Bool.false_eq_true, if_false] at l8 l10 ⊢
    simp only [mark_eq, wp_eql, decide_true, gdOp_same, wp_mv, l8, wp_pick_t, l10, wp_call]
    exact awp _
  · have hR : encR l = some cb := by unfold encR; rw [if_neg (by omega)]; exact hE
    have hD : decR cb = some l := decR_enc hE hinE (by omega)
    rw [hR] at s82 ⊢
    rw [hD] at o10 ⊢
    simp only [Option.isSome_some, Option.getD_some, if_true] at s82 o10 ⊢
    unfold D_tarpaulinlaw3_ScriptLimits_9
    simp only [mark_eq, wp_eql, decide_true, gdOp_same, wp_mv, wp_call]
    refine (bytes_spec h5 s82 s62 hB hB).mono ?_
    rintro _ K3 ⟨rfl, rfl⟩
    have d2 : decide (cb = cb) = true := by simp
    simp only [mark_eq, d2, decide_true, wp_pick_t, gdOp_same, wp_mv, wp_eql, wp_call]
    refine (same_spec h3 s52 (SlG.of_ownE o10) (by omega)).mono ?_
    rintro _ K4 ⟨rfl, rfl⟩
    have d3 : decide (l = l) = true := by simp
    simp only [mark_eq, d3, decide_true, wp_pick_t, gdOp_same, wp_call]
    exact awp _
end Go.AM

