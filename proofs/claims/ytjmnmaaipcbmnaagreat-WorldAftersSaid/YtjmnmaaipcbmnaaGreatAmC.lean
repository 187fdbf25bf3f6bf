/- Steps on memory: cells read, cells written, a new block, a block that is gone. Plain theorems over definitions. -/
import Derived.Test.YtjmnmaaipcbmnaaGreatAmB
set_option linter.unusedVariables false
set_option linter.unusedSimpArgs false
namespace Go.AM
open Go.RowKit (Below)

theorem add_at (b o j : Nat) : (⟨b, o, none⟩ : Addr).add j = ⟨b, o + j, none⟩ := by unfold Addr.add; split <;> simp_all

/-! ### reading -/
theorem BR.reads {β : Bt} {B0 : Nat} {w : World} {b o z : Nat} {bl : AB} {c : List AV} (h : BR β B0 w.heap b o z bl) (hr : bl.read = some c) :
    ∃ cur t fr, w.heap[b]? = some (.cells cur t fr) ∧ CellsR β c o cur := by
  cases bl with
  | cells c' => simp [AB.read] at hr; subst hr; obtain ⟨_, cur, t, h1, _, h2⟩ := h; exact ⟨cur, t, _, h1, h2⟩
  | ro c' => simp [AB.read] at hr; subst hr; obtain ⟨cur, t, fr, h1, h2⟩ := h; exact ⟨cur, t, fr, h1, h2⟩
  | map es => simp [AB.read] at hr
theorem cell_of {w : World} {b i : Nat} {cur : Array Value} {t : TypeId} {fr : Nat × Nat} {u : Value} (h : w.heap[b]? = some (.cells cur t fr)) (hu : cur[i]? = some u) : w.cell? ⟨b, i, none⟩ = some u := by
  simp [World.cell?, h, hu]
theorem cut_get {c l : List AV} {k n : Nat} (h : cut c k n = some l) : l.length = n ∧ k + n ≤ c.length ∧ ∀ j v, l[j]? = some v → c[k + j]? = some v := by
  unfold cut at h
  cases hb : Nat.ble (k + n) c.length with
  | false => rw [hb] at h; cases h
  | true =>
    have hle : k + n ≤ c.length := Nat.le_of_ble_eq_true hb
    rw [hb] at h
    have h' : (c.drop k).take n = l := by simpa using h
    subst h'
    refine ⟨by simp; omega, hle, fun j v hv => ?_⟩
    rw [List.getElem?_take] at hv
    split at hv
    · simpa using hv
    · cases hv
/-- cells that are read out of a block -/
theorem read_cells {β : Bt} {B0 : Nat} {h : PM AB} {w : World} (hR : Rel β B0 h w) {n b o z k m : Nat} {bl : AB} {c l : List AV} (hg : h.get n = some bl) (hr : bl.read = some c)
    (hb : β n = some (b, o, z)) (hc : cut c k m = some l) : ∃ l', VRs β l l' ∧ ∀ j v', l'[j]? = some v' → w.cell? ⟨b, o + k + j, none⟩ = some v' := by
  obtain ⟨cur, t, fr, h1, h2⟩ := (hR.blk n bl b o z hg hb).reads hr
  obtain ⟨hl, hle, hget⟩ := cut_get hc
  have key : ∀ j, ∀ v, l[j]? = some v → ∃ u, cur[o + k + j]? = some u ∧ VR β v u := fun j v hv => by
    obtain ⟨u, hu, hv'⟩ := h2 _ _ (hget j v hv)
    exact ⟨u, by rw [Nat.add_assoc]; exact hu, hv'⟩
  rcases Nat.eq_zero_or_pos l.length with h0 | h0
  · obtain rfl : l = [] := List.eq_nil_of_length_eq_zero h0
    exact ⟨[], .nil, fun j v' hv => by simp at hv⟩
  have hsz : o + k + l.length ≤ cur.size := by
    obtain ⟨u, hu, _⟩ := key (l.length - 1) (l[l.length - 1]'(by omega)) (by simp)
    have := (Array.getElem?_eq_some_iff.1 hu).1
    omega
  refine ⟨(cur.toList.drop (o + k)).take l.length, ?_, ?_⟩
  · refine VRs.of_get (by simp; omega) fun i v v' hv hv' => ?_
    obtain ⟨u, hu, hr⟩ := key i v hv
    rw [List.getElem?_take] at hv'
    split at hv'
    · rw [List.getElem?_drop, Array.getElem?_toList, hu] at hv'
      cases hv'
      exact hr
    · cases hv'
  · intro j v' hv'
    rw [List.getElem?_take] at hv'
    split at hv'
    · rw [List.getElem?_drop, Array.getElem?_toList] at hv'
      exact cell_of h1 hv'
    · cases hv'

theorem rd_cells {β : Bt} {B0 : Nat} {h : PM AB} {w : World} (hR : Rel β B0 h w) {a : Nat × Nat} {m : Nat} {l : List AV} (hc : rdCells h (some a) m = some l) {b o z : Nat} (hb : β a.1 = some (b, o, z)) :
    l.length = m ∧ ∃ l', VRs β l l' ∧ ∀ j v', l'[j]? = some v' → w.cell? ⟨b, o + a.2 + j, none⟩ = some v' := by
  unfold rdCells at hc
  obtain ⟨r, k⟩ := a
  simp only at hc hb
  split at hc
  · rename_i bl hg
    split at hc
    · rename_i c hr
      exact ⟨(cut_get hc).1, read_cells hR hg hr hb hc⟩
    · cases hc
  · cases hc
theorem rd_at {β : Bt} {B0 : Nat} {h : PM AB} {w : World} (hR : Rel β B0 h w) {a : Nat × Nat} {v : AV} (hc : rdAt h a none = some v) {b o z : Nat} (hb : β a.1 = some (b, o, z)) :
    ∃ v', VR β v v' ∧ w.cell? ⟨b, o + a.2, none⟩ = some v' := by
  unfold rdAt at hc
  obtain ⟨r, k⟩ := a
  simp only at hc hb
  split at hc
  · rename_i bl hg
    split at hc
    · rename_i c hr
      obtain ⟨cur, t, fr, h1, h2⟩ := (hR.blk r bl b o z hg hb).reads hr
      obtain ⟨u, hu, hv⟩ := h2 k v hc
      exact ⟨u, hv, cell_of h1 hu⟩
    · cases hc
  · cases hc
theorem rd_agg {β : Bt} {B0 : Nat} {h : PM AB} {w : World} (hR : Rel β B0 h w) {a : Nat × Nat} {sz : Nat} {v : AV} (hc : rdAt h a (some sz) = some v) {b o z : Nat} (hb : β a.1 = some (b, o, z)) :
    ∃ l l', v = .agg l ∧ l.length = sz ∧ VRs β l l' ∧ ∀ j v', l'[j]? = some v' → w.cell? ⟨b, o + a.2 + j, none⟩ = some v' := by
  unfold rdAt at hc
  obtain ⟨r, k⟩ := a
  simp only at hc hb
  split at hc
  · rename_i bl hg
    split at hc
    · rename_i c hr
      simp only [look] at hc
      cases hl : cut c k sz with
      | none => rw [hl] at hc; cases hc
      | some l =>
        rw [hl] at hc
        cases hc
        obtain ⟨l', h1, h2⟩ := read_cells hR hg hr hb hl
        exact ⟨l, l', rfl, (cut_get hl).1, h1, h2⟩
    · cases hc
  · cases hc

/-! ### a block is changed -/
theorem stp_set {β : Bt} {B0 : Nat} {S : St} {w w' : World} (hR : Rel β B0 S.h w) {n b o z : Nat} {bl bl' : AB} (hg : S.h.get n = some bl) (ho : bl.own = true) (ho' : bl'.own = true)
    (hb : β n = some (b, o, z)) (hos : w'.os = w.os) (htp : w'.tape = w.tape) (hou : w'.output = w.output) (hsz : w'.heap.size = w.heap.size)
    (hoth : ∀ k, k ≠ b → w'.heap[k]? = w.heap[k]?) (hbr : BR β B0 w'.heap b o z bl') : Stp B0 β S w β { S with h := S.h.set n (some bl') } w' := by
  have hlb : B0 ≤ b := (hR.blk n bl b o z hg hb).le ho
  have own_of : ∀ m blm x, (S.h.set n (some bl')).get m = some blm → β m = some (b, x) → m = n := by
    intro m blm x hm hbm
    by_cases hmn : m = n
    · exact hmn
    · rw [PM.get_set, if_neg hmn] at hm
      exact (hR.inj n m bl blm b _ _ hg hm ho hb hbm).symm
  refine ⟨Ext.refl β, fun _ h1 h2 => absurd h1 h2, ⟨?_, ?_, ?_, ?_⟩, ?_, ?_, ?_, ?_, Nat.le_refl _⟩
  · intro m blm b1 o1 z1 hm hbm
    by_cases hmn : m = n
    · subst hmn
      rw [PM.get_set, if_pos rfl] at hm
      cases hm
      rw [hb] at hbm
      cases hbm
      exact hbr
    · have hm0 := hm
      rw [PM.get_set, if_neg hmn] at hm
      have hne : b1 ≠ b := fun e => hmn (own_of m blm (o1, z1) hm0 (by rw [hbm, e]))
      exact (hR.blk m blm b1 o1 z1 hm hbm).congr (hoth b1 hne)
  · intro m k blm blk b1 x y hm hk hom hbm hbk
    by_cases hb1 : b1 = b
    · subst hb1
      rw [own_of m blm x hm hbm, own_of k blk y hk hbk]
    · have hmn : m ≠ n := fun e => by subst e; rw [hb] at hbm; cases hbm; exact hb1 rfl
      have hkn : k ≠ n := fun e => by subst e; rw [hb] at hbk; cases hbk; exact hb1 rfl
      rw [PM.get_set, if_neg hmn] at hm
      rw [PM.get_set, if_neg hkn] at hk
      exact hR.inj m k blm blk b1 x y hm hk hom hbm hbk
  · intro m b1 x hbm
    have := hR.lt m b1 x hbm
    omega
  · have := hR.le
    show B0 ≤ w'.heap.size
    omega
  · exact ⟨hos, htp, hou, by omega, fun k hk => hoth k (by omega)⟩
  · intro k hk hn
    exact hoth k fun e => hn (e ▸ ⟨n, bl, _, hg, ho, hb⟩)
  · rintro k ⟨m, blm, x, hm, hom, hbm⟩
    refine .inr ?_
    by_cases hmn : m = n
    · subst hmn
      exact ⟨m, bl, x, hg, ho, hbm⟩
    · change (S.h.set n (some bl')).get m = some blm at hm
      rw [PM.get_set, if_neg hmn] at hm
      exact ⟨m, blm, x, hm, hom, hbm⟩
  · intro m hm hbm
    have hmn : m ≠ n := fun e => by subst e; rw [hb] at hbm; cases hbm
    show (S.h.set n (some bl')).get m = _
    rw [PM.get_set, if_neg hmn]

/-! ### a block is gone -/
theorem stp_gone {β : Bt} {B0 : Nat} {S : St} {w : World} (hR : Rel β B0 S.h w) (n : Nat) (hn : β n ≠ none) : Stp B0 β S w β { S with h := S.h.set n none } w := by
  have hge : ∀ m bl, (S.h.set n none).get m = some bl → S.h.get m = some bl := by
    intro m bl hm
    rw [PM.get_set] at hm
    split at hm
    · cases hm
    · exact hm
  refine ⟨Ext.refl β, fun _ h1 h2 => absurd h1 h2, ⟨?_, ?_, hR.lt, hR.le⟩, Below.refl _ _, fun _ _ _ => rfl, ?_, ?_, Nat.le_refl _⟩
  · intro m blm b1 o1 z1 hm hbm
    exact hR.blk m blm b1 o1 z1 (hge m blm hm) hbm
  · intro m k blm blk b1 x y hm hk hom hbm hbk
    exact hR.inj m k blm blk b1 x y (hge m blm hm) (hge k blk hk) hom hbm hbk
  · rintro k ⟨m, blm, x, hm, hom, hbm⟩
    exact .inr ⟨m, blm, x, hge m blm hm, hom, hbm⟩
  · intro m hm hbm
    have hmn : m ≠ n := fun e => hn (e ▸ hbm)
    show (S.h.set n none).get m = _
    rw [PM.get_set, if_neg hmn]

/-! ### a new name -/
def upd (β : Bt) (n : Nat) (x : Nat × Nat × Nat) : Bt := fun m => if m = n then some x else β m
theorem upd_ext {β : Bt} {n : Nat} {x : Nat × Nat × Nat} (h : β n = none) : Ext β (upd β n x) := fun m y hy => by
  unfold upd
  split
  · rename_i e; subst e; rw [h] at hy; cases hy
  · exact hy
theorem upd_same (β : Bt) (n : Nat) (x : Nat × Nat × Nat) : upd β n x n = some x := by simp [upd]

/-- a name that is new: for a block that is new, or that nobody owns any more -/
theorem name_core {β : Bt} {B0 : Nat} {S : St} {w w' : World} (hR : Rel β B0 S.h w) {b o z : Nat} {bl : AB} (hfree : β S.nx = none) (ho : bl.own = true)
    (hos : w'.os = w.os) (htp : w'.tape = w.tape) (hou : w'.output = w.output) (hsz : w.heap.size ≤ w'.heap.size) (hoth : ∀ k, k ≠ b → k < w.heap.size → w'.heap[k]? = w.heap[k]?)
    (hno : ∀ m blm x, S.h.get m = some blm → m ≠ S.nx → β m ≠ some (b, x)) (hlb : B0 ≤ b) (hbr : BR (upd β S.nx (b, o, z)) B0 w'.heap b o z bl) :
    Ext β (upd β S.nx (b, o, z)) ∧ Rel (upd β S.nx (b, o, z)) B0 (S.h.set S.nx (some bl)) w' ∧ Below B0 w w' := by
  have hext := upd_ext (x := (b, o, z)) hfree
  refine ⟨hext, ⟨?_, ?_, ?_, ?_⟩, ⟨hos, htp, hou, hsz, fun k hk => hoth k (by omega) (Nat.lt_of_lt_of_le hk hR.le)⟩⟩
  · intro m blm b1 o1 z1 hm hbm
    by_cases hmn : m = S.nx
    · subst hmn
      rw [PM.get_set, if_pos rfl] at hm
      cases hm
      rw [upd_same] at hbm
      cases hbm
      exact hbr
    · rw [PM.get_set, if_neg hmn] at hm
      simp only [upd, if_neg hmn] at hbm
      have hne : b1 ≠ b := fun e => hno m blm (o1, z1) hm hmn (by rw [hbm, e])
      exact ((hR.blk m blm b1 o1 z1 hm hbm).mono hext).congr (hoth b1 hne (hR.lt m b1 _ hbm))
  · intro m k blm blk b1 x y hm hk hom hbm hbk
    by_cases hmn : m = S.nx <;> by_cases hkn : k = S.nx
    · rw [hmn, hkn]
    · subst hmn
      rw [PM.get_set, if_neg hkn] at hk
      rw [upd_same] at hbm
      simp only [upd, if_neg hkn] at hbk
      cases hbm
      exact absurd hbk (hno k blk y hk hkn)
    · subst hkn
      rw [PM.get_set, if_neg hmn] at hm
      rw [upd_same] at hbk
      simp only [upd, if_neg hmn] at hbm
      cases hbk
      exact absurd hbm (hno m blm x hm hmn)
    · rw [PM.get_set, if_neg hmn] at hm
      rw [PM.get_set, if_neg hkn] at hk
      simp only [upd, if_neg hmn] at hbm
      simp only [upd, if_neg hkn] at hbk
      exact hR.inj m k blm blk b1 x y hm hk hom hbm hbk
  · intro m b1 x hbm
    by_cases hmn : m = S.nx
    · subst hmn
      rw [upd_same] at hbm
      cases hbm
      exact hbr.lt
    · simp only [upd, if_neg hmn] at hbm
      exact Nat.lt_of_lt_of_le (hR.lt m b1 x hbm) hsz
  · exact Nat.le_trans hR.le hsz

theorem stp_new {β : Bt} {B0 : Nat} {S : St} {w w' : World} (hR : Rel β B0 S.h w) {z : Nat} {bl : AB} {x : Obj} (hfree : β S.nx = none) (ho : bl.own = true)
    (hos : w'.os = w.os) (htp : w'.tape = w.tape) (hou : w'.output = w.output) (hh : w'.heap = w.heap.push x)
    (hbr : BR (upd β S.nx (w.heap.size, 0, z)) B0 w'.heap w.heap.size 0 z bl) :
    Stp B0 β S w (upd β S.nx (w.heap.size, 0, z)) { h := S.h.set S.nx (some bl), nx := S.nx + 1 } w' := by
  have hoth : ∀ k, k < w.heap.size → w'.heap[k]? = w.heap[k]? := fun k hk => by rw [hh, Array.getElem?_push, if_neg (by omega)]
  have hsz : w'.heap.size = w.heap.size + 1 := by rw [hh]; simp
  obtain ⟨h1, h2, h3⟩ := name_core hR hfree ho hos htp hou (by omega) (fun k _ hk => hoth k hk)
    (fun m blm y hm hmn hb => by have := hR.lt m _ _ hb; omega) hR.le hbr
  refine ⟨h1, ?_, h2, h3, fun b hb _ => hoth b hb, ?_, ?_, by simp⟩
  · intro n hn hg
    by_cases e : n = S.nx
    · subst e; exact ⟨Nat.le_refl _, Nat.lt_succ_self _⟩
    · simp only [upd, if_neg e] at hg
      exact absurd hn hg
  · rintro b ⟨m, blm, y, hm, hom, hbm⟩
    by_cases e : m = S.nx
    · subst e
      rw [upd_same] at hbm
      cases hbm
      exact .inl (Nat.le_refl _)
    · change (S.h.set S.nx (some bl)).get m = some blm at hm
      rw [PM.get_set, if_neg e] at hm
      simp only [upd, if_neg e] at hbm
      exact .inr ⟨m, blm, y, hm, hom, hbm⟩
  · intro n hn hb
    show (S.h.set S.nx (some bl)).get n = _
    rw [PM.get_set, if_neg (by omega)]

theorem stp_reuse {β : Bt} {B0 : Nat} {S : St} {w w' : World} (hR : Rel β B0 S.h w) {r b o z : Nat} {y : Nat × Nat} {bl0 bl : AB} (hfree : β S.nx = none) (ho : bl.own = true)
    (hg : S.h.get r = some bl0) (ho0 : bl0.own = true) (hb : β r = some (b, y))
    (hos : w'.os = w.os) (htp : w'.tape = w.tape) (hou : w'.output = w.output) (hsz : w'.heap.size = w.heap.size) (hoth : ∀ k, k ≠ b → w'.heap[k]? = w.heap[k]?)
    (hbr : BR (upd β S.nx (b, o, z)) B0 w'.heap b o z bl) :
    Stp B0 β S w (upd β S.nx (b, o, z)) { h := (S.h.set r none).set S.nx (some bl), nx := S.nx + 1 } w' := by
  have hs := stp_gone hR r (by rw [hb]; simp)
  have hrn : r ≠ S.nx := fun e => by rw [e, hfree] at hb; cases hb
  have hlb : B0 ≤ b := (hR.blk r bl0 b _ _ hg hb).le ho0
  obtain ⟨h1, h2, h3⟩ := name_core (S := { S with h := S.h.set r none }) hs.rel hfree ho hos htp hou (by omega) (fun k hk _ => hoth k hk)
    (fun m blm x hm hmn hbm => by
      change (S.h.set r none).get m = some blm at hm
      rw [PM.get_set] at hm
      split at hm
      · cases hm
      · rename_i hmr
        exact hmr (hR.inj r m bl0 blm b _ _ hg hm ho0 hb hbm).symm) hlb hbr
  refine ⟨h1, ?_, h2, h3, ?_, ?_, ?_, by simp⟩
  · intro n hn hgn
    by_cases e : n = S.nx
    · subst e; exact ⟨Nat.le_refl _, Nat.lt_succ_self _⟩
    · simp only [upd, if_neg e] at hgn
      exact absurd hn hgn
  · intro k hk hn
    exact hoth k fun e => hn (e ▸ ⟨r, bl0, _, hg, ho0, hb⟩)
  · rintro k ⟨m, blm, x, hm, hom, hbm⟩
    refine .inr ?_
    by_cases e : m = S.nx
    · subst e
      rw [upd_same] at hbm
      cases hbm
      exact ⟨r, bl0, _, hg, ho0, hb⟩
    · change ((S.h.set r none).set S.nx (some bl)).get m = some blm at hm
      rw [PM.get_set, if_neg e, PM.get_set] at hm
      split at hm
      · cases hm
      · simp only [upd, if_neg e] at hbm
        exact ⟨m, blm, x, hm, hom, hbm⟩
  · intro n hn hbn
    show ((S.h.set r none).set S.nx (some bl)).get n = _
    rw [PM.get_set, if_neg (by omega), PM.get_set, if_neg (fun e => by rw [e, hb] at hbn; cases hbn)]

/-! ### writing -/
theorem setRow_size (w : World) (g : Nat) (c : Array Value) : (w.setRow g c).heap.size = w.heap.size := by simp [World.setRow]
theorem setRow_other (w : World) (g : Nat) (c : Array Value) (k : Nat) (h : k ≠ g) : (w.setRow g c).heap[k]? = w.heap[k]? := by
  simp only [World.setRow, Array.getElem?_modify]
  rw [if_neg (by omega)]
theorem setRow_at {w : World} {g : Nat} {cur : Array Value} {t : TypeId} (c : Array Value) (h : w.heap[g]? = some (.cells cur t (0, 0))) : (w.setRow g c).heap[g]? = some (.cells c t (0, 0)) :=
  setRow_heap w g cur c t _ h

theorem splice_get (c vs : List AV) (k : Nat) (h : k + vs.length ≤ c.length) (i : Nat) :
    (splice c k vs)[i]? = if i < k then c[i]? else if i < k + vs.length then vs[i - k]? else c[i]? := by
  unfold splice
  rw [List.append_assoc, List.getElem?_append]
  have h1 : (c.take k).length = k := by simp; omega
  rw [h1]
  split
  · rw [List.getElem?_take, if_pos (by assumption)]
  · rw [List.getElem?_append]
    split
    · rename_i h2 h3
      rw [if_pos (by omega)]
    · rename_i h2 h3
      rw [if_neg (by omega), List.getElem?_drop]
      congr 1
      omega

/-- cells that are written: what the model's store does, and the step -/
theorem wr_cells {P : Program} {β : Bt} {B0 : Nat} {S : St} {w : World} (hR : Rel β B0 S.h w) {a : Nat × Nat} {vs : List AV} {vs' : List Value} {h' : PM AB} (hw : wrCells S.h a vs = some h')
    {b o z : Nat} (hb : β a.1 = some (b, o, z)) (hv : VRs β vs vs') :
    ∃ w', (storeCells ⟨b, o + a.2, none⟩ vs').run P w = .ok () w' ∧ Stp B0 β S w β { S with h := h' } w' := by
  obtain ⟨r, k⟩ := a
  simp only [wrCells] at hw
  simp only at hb ⊢
  split at hw
  · rename_i c hg
    cases hc : (Nat.ble (k + vs.length) c.length && vs.all AV.one) with
    | false => rw [hc] at hw; cases hw
    | true =>
      rw [hc] at hw
      simp only [Bool.and_eq_true] at hc
      have hle : k + vs.length ≤ c.length := Nat.le_of_ble_eq_true hc.1
      obtain ⟨h0, cur, t, hh, hz, hcr⟩ := hR.blk r _ b o z hg hb
      have hlen := hv.length
      have h1 := hv.ones hc.2
      have hsz : o + k + vs'.length ≤ cur.size := by
        rcases Nat.eq_zero_or_pos vs.length with hv0 | hv0
        · by_cases hk : k = 0
          · have := hR.blk r _ b o z hg hb
            omega
          · have hkl : k - 1 < c.length := by omega
            obtain ⟨u, hu, _⟩ := hcr (k - 1) _ (List.getElem?_eq_getElem hkl)
            have := (Array.getElem?_eq_some_iff.1 hu).1
            omega
        · have hkl : k + vs.length - 1 < c.length := by omega
          obtain ⟨u, hu, _⟩ := hcr (k + vs.length - 1) _ (List.getElem?_eq_getElem hkl)
          have := (Array.getElem?_eq_some_iff.1 hu).1
          omega
      refine ⟨_, run_storeCells_at P b (o + k) t vs' 0 cur w hh (by omega) h1, ?_⟩
      cases hw
      refine stp_set hR hg rfl rfl hb rfl rfl rfl (setRow_size _ _ _) (fun j hj => setRow_other _ _ _ _ hj) ⟨h0, _, t, setRow_at _ hh, ?_, ?_⟩
      · simp only [List.size_toArray, List.length_append, List.length_take, List.length_drop, Array.length_toList]
        omega
      · intro i v hi
        rw [splice_get c vs k hle] at hi
        rw [List.getElem?_toArray, List.append_assoc, List.getElem?_append]
        have hl1 : (cur.toList.take (o + k + 0)).length = o + k := by simp; omega
        rw [hl1]
        by_cases hik : i < k
        · rw [if_pos hik] at hi
          obtain ⟨u, hu, hv⟩ := hcr i v hi
          rw [if_pos (by omega), List.getElem?_take, if_pos (by omega), Array.getElem?_toList]
          exact ⟨u, hu, hv⟩
        · rw [if_neg hik] at hi
          rw [if_neg (by omega), List.getElem?_append]
          by_cases hi2 : i < k + vs.length
          · rw [if_pos hi2] at hi
            rw [if_pos (by omega)]
            obtain ⟨u, hu, hv⟩ := hv.get hi
            exact ⟨u, by rw [show o + i - (o + k) = i - k by omega]; exact hu, hv⟩
          · rw [if_neg hi2] at hi
            obtain ⟨u, hu, hv⟩ := hcr i v hi
            rw [if_neg (by omega), List.getElem?_drop, Array.getElem?_toList]
            exact ⟨u, by rw [show o + k + 0 + vs'.length + (o + i - (o + k) - vs'.length) = o + i by omega]; exact hu, hv⟩
  · cases hw
end Go.AM
