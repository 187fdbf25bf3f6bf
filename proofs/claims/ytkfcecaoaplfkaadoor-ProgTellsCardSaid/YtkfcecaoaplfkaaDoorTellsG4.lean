/- The texts LgE, LibRing, LibWait, LibChan, LibMap, LibHeapA, LibHeapP, LibHeapB, LibHeapC, LibHeapD, LibExpire, GenC, LibTimerA, LibTimerB, LibTimerC, LgR, LibSlice, LibSignal, LgT, LgO, LibEnd, LibEndB, LibEndC, LibTree, LibTreeB, LibTreeC, LibCtxA, LibCtxB, LibCtxC, LibCtxD, LibCtxE, LibCtxF, LibCtxG, LibCtxH, LibCtxI, LibCtxJ, LibCtxK, LibCtxL, LibCtxM, LibCtxN, LibCtxO, LibCtxP, LibLaw, GenE, LibLapseA, LibScriptA, LibScriptB, LibScriptC, LibScriptD, LibLapseD, LibScriptE, LibScriptF, LgN, LibRd, LibProg, LibProgB, LibProgC, LibExt of a proof of ProgTells, merged. -/
import Derived.Test.YtkfcecaoaplfkaaDoorTellsG3
import Derived.KernelRfl
import Derived.ChangeSlices
import Derived.WideShapes
import Derived.ChangeOld
import Derived.Carry
import Derived.ChangeArms
/- Logical memory: what is hidden is opened and shut; reading and writing known cells. -/
set_option linter.unusedVariables false
set_option linter.unusedSimpArgs false
namespace Go.AM

/-! ### two blocks, and many -/
def Lg.two (r b : Nat) (c d : LC) : Lg := fun m => if m = r then some c else if m = b then some d else none
theorem over_two (L : Lg) {r b : Nat} (h : b ≠ r) (c d : LC) : (Lg.two r b c d).over L = (L.put b d).put r c := by
  funext m
  unfold Lg.over Lg.two Lg.put
  by_cases h1 : m = r
  · simp [h1]
  · by_cases h2 : m = b
    · subst h2; simp [h1]
    · simp [h1, h2]
theorem over_del (M L : Lg) {r : Nat} (h : M r ≠ none) : M.over (L.del r) = M.over L := by
  funext m
  unfold Lg.over Lg.del
  by_cases h1 : m = r
  · subst h1
    cases h2 : M m with
    | none => exact absurd h2 h
    | some c => rfl
  · simp [h1]
/-- What is hidden at a name is opened ahead of a call. -/
theorem CallL.opens {F : Nat → Option AFn} {f : Nat} {vs : List AV} {L : Lg} {Q : AV → Lg → Prop} {r : Nat} {P : Hp → Prop} (e : L r = some (.abs P))
    (h : ∀ hm, P hm → ∃ M : Lg, Sat M hm ∧ M r ≠ none ∧ ((∀ b c, M b = some c → b ≠ r → L b = none) → CallL F f vs (M.over L) Q)) : CallL F f vs L Q := by
  apply CallL.unfold e
  intro hm hP
  obtain ⟨M, hs, hr, hc⟩ := h hm hP
  refine ⟨M, hs, fun hf => ?_⟩
  rw [over_del M L hr]
  exact hc hf
theorem Sees.shut {L M : Lg} {r : Nat} {P : Hp → Prop} (hf : ∀ b c, M b = some c → b ≠ r → L b = none) (hr : (∃ cs, M r = some (.raw (.cells cs))) ∨ ∃ Q, M r = some (.abs Q)) (hP : ∀ h, Sat M h → P h) : Sees (M.over L) (L.put r (.abs P)) := by
  have h1 := Sees.fold (L := M.over L) (M := M) (r := r) (P := P) (fun b c hb => by simp [Lg.over, hb]) hr hP
  have h2 : ((M.over L).minus M).put r (.abs P) = L.put r (.abs P) := by
    funext m
    unfold Lg.put
    by_cases hm : m = r
    · simp [hm]
    · simp only [hm, if_false]
      cases h3 : M m with
      | none => simp [Lg.over, Lg.minus, h3]
      | some c => simp only [Lg.minus, h3]; exact (hf m c h3 hm).symm
  rw [h2] at h1
  exact h1
/-- What may be seen at names of a kind becomes one thing; what else has come is let go. -/
theorem Sees.shutAt {L Lf : Lg} {r : Nat} {P : Hp → Prop} (ids : Nat → Prop) (hr : ids r) (h1 : ∀ b c, ¬ ids b → L b = some c → Lf b = some c) (h2 : ∀ b, ids b → b ≠ r → L b = none)
    (h3 : (∃ cs, Lf r = some (.raw (.cells cs))) ∨ ∃ Q, Lf r = some (.abs Q)) (hP : ∀ (M : Lg) h, (∀ b, ids b → M b = Lf b) → (∀ b, ¬ ids b → M b = none) → Sat M h → P h) : Sees Lf (L.put r (.abs P)) := by
  classical
  let M : Lg := fun b => if ids b then Lf b else none
  have hM : ∀ b, ids b → M b = Lf b := fun b hb => by simp [M, hb]
  have hN : ∀ b, ¬ ids b → M b = none := fun b hb => by simp [M, hb]
  have e1 : Sees Lf (M.over L) := by
    apply Sees.drop
    intro b c hb
    unfold Lg.over at hb
    by_cases hi : ids b
    · rw [hM b hi] at hb
      cases h4 : Lf b with
      | some d => rw [h4] at hb; exact hb
      | none =>
        rw [h4] at hb
        by_cases hbr : b = r
        · subst hbr; rcases h3 with ⟨cs, h3⟩ | ⟨Q, h3⟩ <;> rw [h3] at h4 <;> cases h4
        · rw [h2 b hi hbr] at hb; cases hb
    · rw [hN b hi] at hb
      exact h1 b c hi hb
  refine e1.trans (Sees.shut ?_ ?_ fun h hs => hP M h hM hN hs)
  · intro b c hb hbr
    by_cases hi : ids b
    · exact h2 b hi hbr
    · rw [hN b hi] at hb; cases hb
  · rw [hM r hr]; exact h3
theorem CallL.open2 {F : Nat → Option AFn} {f : Nat} {vs : List AV} {L : Lg} {Q : AV → Lg → Prop} {r : Nat} {P : Hp → Prop} (e : L r = some (.abs P))
    (h : ∀ hm, P hm → ∃ b c d, b ≠ r ∧ Sat (Lg.two r b c d) hm ∧ (L b = none → CallL F f vs ((L.put b d).put r c) Q)) : CallL F f vs L Q := by
  apply CallL.opens e
  intro hm hP
  obtain ⟨b, c, d, hb, hs, hc⟩ := h hm hP
  refine ⟨Lg.two r b c d, hs, by simp [Lg.two], fun hf => ?_⟩
  rw [over_two L hb]
  exact hc (hf b d (by simp [Lg.two, hb]) hb)
theorem Sees.shut2 {L : Lg} {r b : Nat} {cs : List AV} {d : LC} {P : Hp → Prop} (hb : b ≠ r) (hf : L b = none) (hP : ∀ h, Sat (Lg.two r b (.raw (.cells cs)) d) h → P h) : Sees ((L.put b d).put r (.raw (.cells cs))) (L.put r (.abs P)) := by
  rw [← over_two L hb]
  refine Sees.shut ?_ (.inl ⟨cs, by simp [Lg.two]⟩) hP
  intro b' c' h1 h2
  unfold Lg.two at h1
  simp only [h2, if_false] at h1
  split at h1
  · rename_i h3; subst h3; exact hf
  · cases h1

theorem Lg.put3 (L : Lg) {n m : Nat} (h : n ≠ m) (c d e : LC) : ((L.put n c).put m d).put n e = (L.put n e).put m d := by
  rw [Lg.put_comm _ (Ne.symm h), Lg.put_put]
/-! ### the same -/
@[simp] theorem kEq_self (j : IntKind) : kEq j j = true := by cases j <;> rfl
theorem beq_self (n : Nat) : Nat.beq n n = true := by rw [beq_nat]; simp
@[simp] theorem sameV_i (j : IntKind) (x : Int) : sameV (.i j x) (.i j x) = true := by simp [sameV, same1, iEq_eq]
@[simp] theorem sameV_b (x : Bool) : sameV (.b x) (.b x) = true := by simp [sameV, same1]
@[simp] theorem sameV_p (x : Option (Nat × Nat)) : sameV (.p x) (.p x) = true := by cases x <;> simp [sameV, same1, beq_self]
@[simp] theorem sameV_m (x : Option Nat) : sameV (.m x) (.m x) = true := by cases x <;> simp [sameV, same1, beq_self]
@[simp] theorem sameV_sl (a : Option (Nat × Nat)) (n c e : Nat) : sameV (.sl a n c e) (.sl a n c e) = true := by cases a <;> simp [sameV, same1, beq_self]
/-! ### cells -/
theorem splice_one (c : List AV) (o : Nat) (v : AV) (h : o < c.length) : splice c o [v] = c.set o v := by
  unfold splice
  rw [List.set_eq_take_append_cons_drop]
  simp [h]
theorem rdL_cell {L : Lg} {b o : Nat} {c : List AV} (h : L b = some (.raw (.cells c))) : rdL L (b, o) none = c[o]? := by
  simp [rdL, h, AB.read, look]
theorem rdL_cells {L : Lg} {b o n : Nat} {c : List AV} (h : L b = some (.raw (.cells c))) (hn : o + n ≤ c.length) : rdL L (b, o) (some n) = some (.agg ((c.drop o).take n)) := by
  simp [rdL, h, AB.read, look, cut, ble_nat, hn]
theorem rdL_ro {L : Lg} {b o : Nat} {c : List AV} (h : L b = some (.raw (.ro c))) : rdL L (b, o) none = c[o]? := by
  simp [rdL, h, AB.read, look]
theorem rdL_ros {L : Lg} {b o n : Nat} {c : List AV} (h : L b = some (.raw (.ro c))) (hn : o + n ≤ c.length) : rdL L (b, o) (some n) = some (.agg ((c.drop o).take n)) := by
  simp [rdL, h, AB.read, look, cut, ble_nat, hn]
theorem stL_cell {L : Lg} {b o : Nat} {c : List AV} {v : AV} {k : AV → Lg → Prop} (h : L b = some (.raw (.cells c))) (ho : o < c.length) (hv : v.cellsOf = some [v]) : stL 1 L k [.p (some (b, o)), v] = k .bad (L.put b (.raw (.cells (c.set o v)))) := by
  have h1 : v.one = true := by
    have := cellsOf_one hv
    simpa using this
  have h2 : o + 1 ≤ c.length := ho
  simp [stL, hv, wrL, h, h1, splice_one c o v ho, h2]
theorem stL_cells {L : Lg} {b o n : Nat} {c l : List AV} {k : AV → Lg → Prop} (h : L b = some (.raw (.cells c))) (hl : l.all AV.one = true) (hn : l.length = n) (ho : o + n ≤ c.length) : stL n L k [.p (some (b, o)), .agg l] = k .bad (L.put b (.raw (.cells (splice c o l)))) := by
  subst hn
  have hl' : ∀ x, x ∈ l → x.one = true := List.all_eq_true.1 hl
  simp only [stL, cellsOf_agg l hl, if_true, wrL, h, ho, hl, and_self]
/-- a box: a block of its own -/
theorem box_one (F : Nat → Option AFn) (v : AV) (L : Lg) (k : AV → Lg → Prop) (hv : v.cellsOf = some [v]) : wpOp F .box [v] L k = ∀ b, L b = none → k (.p (some (b, 0))) (L.put b (.raw (.cells [v]))) := by
  simp [newL, aBox, hv]
theorem box_agg (F : Nat → Option AFn) (l : List AV) (L : Lg) (k : AV → Lg → Prop) (hl : l.all AV.one = true) : wpOp F .box [.agg l] L k = ∀ b, L b = none → k (.p (some (b, 0))) (L.put b (.raw (.cells l))) := by
  simp [newL, aBox, cellsOf_agg l hl]
theorem cellsOf_agg' (l : List AV) : (AV.agg l).cellsOf = if l.all AV.one = true then some l else none := by
  simp only [AV.cellsOf]
  cases h : l.all AV.one <;> simp
theorem newL_box (v : AV) (L : Lg) (k : AV → Lg → Prop) {l : List AV} (hv : v.cellsOf = some l) : newL aBox [v] L k = ∀ b, L b = none → k (.p (some (b, 0))) (L.put b (.raw (.cells l))) := by
  simp [newL, aBox, hv]
theorem newL_box_agg (l : List AV) (L : Lg) (k : AV → Lg → Prop) (h : l.all AV.one = true) : newL aBox [.agg l] L k = ∀ b, L b = none → k (.p (some (b, 0))) (L.put b (.raw (.cells l))) := newL_box _ L k (cellsOf_agg l h)
@[simp] theorem newL_box_agg2 (x y : AV) (L : Lg) (k : AV → Lg → Prop) (h1 : x.one = true) (h2 : y.one = true) : newL aBox [.agg [x, y]] L k = ∀ b, L b = none → k (.p (some (b, 0))) (L.put b (.raw (.cells [x, y]))) := newL_box_agg _ L k (by simp [h1, h2])
@[simp] theorem newL_box_agg3 (x y z : AV) (L : Lg) (k : AV → Lg → Prop) (h1 : x.one = true) (h2 : y.one = true) (h3 : z.one = true) : newL aBox [.agg [x, y, z]] L k = ∀ b, L b = none → k (.p (some (b, 0))) (L.put b (.raw (.cells [x, y, z]))) := newL_box_agg _ L k (by simp [h1, h2, h3])
@[simp] theorem newL_box_agg5 (x y z u v : AV) (L : Lg) (k : AV → Lg → Prop) (h1 : x.one = true) (h2 : y.one = true) (h3 : z.one = true) (h4 : u.one = true) (h5 : v.one = true) : newL aBox [.agg [x, y, z, u, v]] L k = ∀ b, L b = none → k (.p (some (b, 0))) (L.put b (.raw (.cells [x, y, z, u, v]))) := newL_box_agg _ L k (by simp [h1, h2, h3, h4, h5])
@[simp] theorem newL_box_i (j n) (L : Lg) (k : AV → Lg → Prop) : newL aBox [.i j n] L k = ∀ b, L b = none → k (.p (some (b, 0))) (L.put b (.raw (.cells [.i j n]))) := newL_box _ L k rfl
@[simp] theorem newL_box_b (n) (L : Lg) (k : AV → Lg → Prop) : newL aBox [.b n] L k = ∀ b, L b = none → k (.p (some (b, 0))) (L.put b (.raw (.cells [.b n]))) := newL_box _ L k rfl
@[simp] theorem newL_box_p (n) (L : Lg) (k : AV → Lg → Prop) : newL aBox [.p n] L k = ∀ b, L b = none → k (.p (some (b, 0))) (L.put b (.raw (.cells [.p n]))) := newL_box _ L k rfl
@[simp] theorem newL_box_sl (a b c d) (L : Lg) (k : AV → Lg → Prop) : newL aBox [.sl a b c d] L k = ∀ r, L r = none → k (.p (some (r, 0))) (L.put r (.raw (.cells [.sl a b c d]))) := newL_box _ L k rfl
theorem newL_bslice {z : List AV} {len size : Nat} {ps : List Nat} {vs c : List AV} (L : Lg) (k : AV → Lg → Prop) (h : fillP (reps z len) (ps.map fun i => (i * size, size)) vs = some c) (h1 : c.all AV.one = true) :
    newL (aBslice z len size ps) vs L k = ∀ b, L b = none → k (.sl (some (b, 0)) len len 0) (L.put b (.raw (.cells c))) := by
  simp [newL, aBslice, h, h1]
theorem reps_one' (v : AV) : ∀ n, reps [v] n = List.replicate n v
  | 0 => rfl
  | n + 1 => by simp [reps, reps_one' v n, List.replicate_succ]

theorem loopW_intro {B : Env → Env → Lg → (Env → Lg → Prop) → Prop} {l : Env} {L : Lg} (I : Nat → Env → Lg → Prop) (n : Nat) (h0 : I n l L) (h : ∀ n l t L, I n l L → B l t L (fun l L => ∃ m, m < n ∧ I m l L)) : loopW B l L := ⟨I, ⟨n, h0⟩, h⟩
@[simp] theorem initE_cons (v : AV) (r : List AV) (i : Nat) : initE (v :: r) i = (initE r (i + 1)).put i v := rfl
@[simp] theorem initE_nil (i n : Nat) : initE [] i n = .bad := rfl
@[simp] theorem evO_c (l t : Env) (v : AV) : evO l t (.c v) = v := rfl
theorem res_cell_tmp (L : Lg) {b o n : Nat} {c : List AV} (v : AV) (h : L b = some (.raw (.cells c))) (hn : o + n ≤ c.length) : resVL Env.nil Env.nil L [.cell (.c (.p (some (b, o)))) (some n), .tmp (.c v)] = some (.tup [.agg ((c.drop o).take n), v]) := by
  simp [resVL, resLL, resOneL, rdL_cells h hn]
/-! ### a slice of one's own, that is appended to -/
def OwnSl (L : Lg) (v : AV) (cs : List AV) (n size : Nat) : Prop :=
  (n = 0 ∧ cs = [] ∧ v = .sl none 0 0 0) ∨ ∃ b, 0 < n ∧ v = .sl (some (b, 0)) n n size ∧ L b = some (.raw (.cells cs)) ∧ cs.length = n * size
/-- the block of a slice of one's own -/
def slB : AV → Option Nat
  | .sl (some (b, _)) _ _ _ => some b
  | _ => none
def Lg.delO (L : Lg) : Option Nat → Lg
  | none => L
  | some b => L.del b
/-- a slice that has come: nothing, or a block that was not there -/
def FreshSl (L : Lg) (v : AV) (cs : List AV) (n size : Nat) (L' : Lg) : Prop :=
  (n = 0 ∧ cs = [] ∧ v = .sl none 0 0 0 ∧ L' = L) ∨ ∃ b ex, L b = none ∧ 0 < n ∧ v = .sl (some (b, 0)) n n ex ∧ cs.length = n * size ∧ L' = L.put b (.raw (.cells cs))
/-- L' has all that L has -/
def Ext2 (L L' : Lg) : Prop := ∀ b c, L b = some c → L' b = some c
theorem Ext2.refl (L : Lg) : Ext2 L L := fun _ _ h => h
theorem Ext2.trans {L M K : Lg} (h : Ext2 L M) (k : Ext2 M K) : Ext2 L K := fun b c e => k b c (h b c e)
theorem Ext2.put {L M : Lg} (h : Ext2 L M) {b : Nat} (hb : L b = none) (c : LC) : Ext2 L (M.put b c) := fun d e hd => by
  have : d ≠ b := by rintro rfl; rw [hb] at hd; cases hd
  rw [Lg.put_ne _ _ _ this]; exact h d e hd
theorem Ext2.del {L M : Lg} (h : Ext2 L M) {b : Nat} (hb : L b = none) : Ext2 L (M.del b) := fun d e hd => by
  have : d ≠ b := by rintro rfl; rw [hb] at hd; cases hd
  rw [Lg.del_apply, if_neg this]; exact h d e hd
theorem Ext2.delO {L M : Lg} (h : Ext2 L M) {o : Option Nat} (hb : ∀ b, o = some b → L b = none) : Ext2 L (M.delO o) := by
  cases o with
  | none => exact h
  | some b => exact h.del (hb b rfl)
theorem Ext2.none {L M : Lg} (h : Ext2 L M) {b : Nat} (hb : M b = none) : L b = none := by
  cases e : L b with
  | none => rfl
  | some c => rw [h b c e] at hb; cases hb
theorem Ext2.sees {L M : Lg} (h : Ext2 L M) : Sees M L := Sees.drop h
theorem OwnSl.app {L : Lg} {v : AV} {cs : List AV} {n size bytes : Nat} (h : OwnSl L v cs n size) (hsz : 0 < size) {src : AV} {new : List AV} {m c e : Nat} {a : Option (Nat × Nat)} (hs : src = .sl a m c e) (hm : 0 < m) (hr : rdCellsL L a (m * size) = some new) (hn : new.length = m * size) (h1 : new.all AV.one = true) (hb : (n + m) * bytes ≤ 70368744177664)
    {k : AV → Lg → Prop} (hk : ∀ b, L b = none → k (.sl (some (b, 0)) (n + m) (n + m) size) ((L.delO (slB v)).put b (.raw (.cells (cs ++ new))))) : appW size bytes L k [v, src] := by
  subst hs
  rcases h with ⟨rfl, rfl, rfl⟩ | ⟨b, h0, rfl, hL, hl⟩
  · simp only [appW, hr, appL, h1, true_and]
    have h2 : ¬ (0 + m ≤ 0) := by omega
    simp only [h2, if_false, hb, true_and, Nat.zero_mul, rdCellsL, goneL, if_true, List.nil_append]
    exact hk
  · simp only [appW, hr, appL, h1, true_and]
    have h2 : ¬ (n + m ≤ n) := by omega
    have h3 : rdCellsL L (some (b, 0)) (n * size) = some cs := by
      simp only [rdCellsL, hL, AB.read, cut, ble_nat, Nat.zero_add, hl, Nat.le_refl, decide_true, cond_true, List.drop_zero]
      rw [← hl, List.take_length]
    have h4 : ¬ size = 0 := by omega
    simp only [h2, if_false, hb, true_and, h3, goneL, h4, if_true, hL]
    exact hk
theorem OwnSl.of_app {L : Lg} {v : AV} {cs new : List AV} {n m size b : Nat} (h : OwnSl L v cs n size) (hm : 0 < m) (hn : new.length = m * size) : OwnSl ((L.delO (slB v)).put b (.raw (.cells (cs ++ new)))) (.sl (some (b, 0)) (n + m) (n + m) size) (cs ++ new) (n + m) size := by
  refine .inr ⟨b, by omega, rfl, Lg.put_same _ _ _, ?_⟩
  rcases h with ⟨rfl, rfl, rfl⟩ | ⟨b, h0, rfl, hL, hl⟩
  · simp [hn]
  · simp [hl, hn, Nat.add_mul]
theorem appW_grow {L L' : Lg} {size bytes len cap ex m c e : Nat} {a b : Option (Nat × Nat)} {new old : List AV} {k : AV → Lg → Prop} (hr : rdCellsL L b (m * size) = some new) (h1 : new.all AV.one = true) (hlt : ¬ len + m ≤ cap)
    (hb : (len + m) * bytes ≤ 70368744177664) (ho : rdCellsL L a (len * size) = some old) (hg : goneL L a ex size = some L') (hk : ∀ b, L b = none → k (.sl (some (b, 0)) (len + m) (len + m) size) (L'.put b (.raw (.cells (old ++ new))))) :
    appW size bytes L k [.sl a len cap ex, .sl b m c e] := by
  simp only [appW, hr, appL, h1, true_and, hlt, if_false, hb, ho, hg]
  exact hk
theorem appW_room {L L' : Lg} {size bytes len cap ex m c e r o : Nat} {b : Option (Nat × Nat)} {new : List AV} {k : AV → Lg → Prop} (hr : rdCellsL L b (m * size) = some new) (h1 : new.all AV.one = true) (hle : len + m ≤ cap) (hm : m ≠ 0)
    (hw : wrL L (r, o + len * size) new = some L') (hk : k (.sl (some (r, o)) (len + m) cap ex) L') : appW size bytes L k [.sl (some (r, o)) len cap ex, .sl b m c e] := by
  simp only [appW, hr, appL, h1, true_and, hle, if_true, hm, if_false, hw]
  exact hk
end Go.AM

/- ring: what its functions do. -/
set_option linter.unusedVariables false
set_option linter.unusedSimpArgs false
namespace Go.AM
variable {N : Nat → Nat} {F : Nat → Option AFn}

def ints (zs : List Int) : List AV := zs.map (.i .i64 ·)
@[simp] theorem ints_length (zs : List Int) : (ints zs).length = zs.length := by simp [ints]
@[simp] theorem ints_get (zs : List Int) (i : Nat) : (ints zs)[i]? = (zs[i]?).map (.i .i64 ·) := by simp [ints]
/-- a ring's values, and its room -/
def RingP (r : Nat) (xs : List Int) (cap : Nat) (h : Hp) : Prop := ∃ (b fr : Nat) (zs : List Int), b ≠ r ∧ zs.length = cap ∧ xs.length ≤ cap ∧ cap ≤ 64 ∧ fr ≤ cap ∧ (0 < cap → fr < cap) ∧ (∀ i, i < xs.length → zs[(fr + i) % cap]? = xs[i]?) ∧
  Sat (Lg.two r b (.raw (.cells [.sl (some (b, 0)) cap cap 0, .i .i64 fr, .i .i64 xs.length])) (.raw (.cells (ints zs)))) h

section
variable {L : Lg} {r cap : Nat} {xs : List Int}
end
end Go.AM


/- wait: what its functions do. -/
set_option linter.unusedVariables false
set_option linter.unusedSimpArgs false
namespace Go.AM
variable {N : Nat → Nat} {F : Nat → Option AFn}

/-- one who waits -/
structure Wt where
  t : Int
  c : Int
  v : Int
  deriving DecidableEq
def Wt.cells (w : Wt) : List AV := [.i .i64 w.t, .i .i64 w.c, .i .i64 w.v]
def Wt.av (w : Wt) : AV := .agg w.cells
def Wt.zero : Wt := ⟨0, 0, 0⟩
def ptr (o : Option Nat) : AV := .p (o.map fun b => (b, 0))
@[simp] theorem ptr_none : ptr none = .p none := rfl
@[simp] theorem ptr_some (b : Nat) : ptr (some b) = .p (some (b, 0)) := rfl
@[simp] theorem ptr_cellsOf (o : Option Nat) : (ptr o).cellsOf = some [ptr o] := rfl
@[simp] theorem ptr_one (o : Option Nat) : (ptr o).one = true := rfl
def wnode (w : Wt) (p n : Option Nat) : LC := .raw (.cells [.i .i64 w.t, .i .i64 w.c, .i .i64 w.v, ptr p, ptr n])
def hd (n : Option Nat) : List (Nat × Wt) → Option Nat
  | [] => n
  | x :: _ => some x.1
def lst (p : Option Nat) : List (Nat × Wt) → Option Nat
  | [] => p
  | x :: r => lst (some x.1) r
def Seg (M : Lg) (p : Option Nat) : List (Nat × Wt) → Option Nat → Prop
  | [], _ => True
  | (i, w) :: r, n => M i = some (wnode w p (hd n r)) ∧ Seg M (some i) r n
def idsOf (l : List (Nat × Wt)) : List Nat := l.map (·.1)
@[simp] theorem hd_nil (n : Option Nat) : hd n [] = n := rfl
@[simp] theorem hd_cons (n : Option Nat) (x : Nat × Wt) (r : List (Nat × Wt)) : hd n (x :: r) = some x.1 := rfl
@[simp] theorem lst_nil (n : Option Nat) : lst n [] = n := rfl
@[simp] theorem lst_cons (n : Option Nat) (x : Nat × Wt) (r : List (Nat × Wt)) : lst n (x :: r) = lst (some x.1) r := rfl
theorem Seg.congr {M M' : Lg} : ∀ {l : List (Nat × Wt)} {p n : Option Nat}, (∀ i, i ∈ idsOf l → M' i = M i) → Seg M p l n → Seg M' p l n
  | [], _, _, _, _ => trivial
  | (i, w) :: r, p, n, h, hs => ⟨by rw [h i (by simp [idsOf])]; exact hs.1, Seg.congr (fun j hj => h j (by simp [idsOf] at hj ⊢; exact .inr hj)) hs.2⟩

theorem Seg.some {M : Lg} : ∀ {l : List (Nat × Wt)} {p n : Option Nat}, Seg M p l n → ∀ i, i ∈ idsOf l → M i ≠ none
  | [], _, _, _, i, hi => by simp [idsOf] at hi
  | (j, w) :: r, p, n, hs, i, hi => by
    simp only [idsOf, List.map_cons, List.mem_cons] at hi
    rcases hi with rfl | hi
    · rw [hs.1]; simp
    · exact Seg.some hs.2 i hi

/-- a queue: who waits, in order -/
def QueueP (q : Nat) (ws : List Wt) (h : Hp) : Prop := ∃ (l : List (Nat × Wt)) (M : Lg), l.map (·.2) = ws ∧ (q :: idsOf l).Nodup ∧ ws.length ≤ 1000000 ∧
  M q = some (.raw (.cells [ptr (hd none l), ptr (lst none l), .i .i64 ws.length])) ∧ Seg M none l none ∧ (∀ b, b ∉ q :: idsOf l → M b = none) ∧ Sat M h

section
variable {L : Lg} {q : Nat} {ws : List Wt}
/-- a queue, opened -/
structure QOpen (L : Lg) (q : Nat) (l : List (Nat × Wt)) (L1 : Lg) : Prop where
  nd : (q :: idsOf l).Nodup
  root : L1 q = some (.raw (.cells [ptr (hd none l), ptr (lst none l), .i .i64 l.length]))
  seg : Seg L1 none l none
  old : ∀ b c, b ∉ q :: idsOf l → L b = some c → L1 b = some c
  new : ∀ b, b ∈ idsOf l → L b = none
theorem QOpen.shut {l : List (Nat × Wt)} {L1 : Lg} (h : QOpen L q l L1) (hl : l.length ≤ 1000000) : Sees L1 (L.put q (.abs (QueueP q (l.map (·.2))))) := by
  refine Sees.shutAt (fun b => b ∈ q :: idsOf l) (List.mem_cons_self ..) h.old ?_ (.inl ⟨_, h.root⟩) ?_
  · intro b hb hbq
    rcases List.mem_cons.1 hb with rfl | hb
    · exact absurd rfl hbq
    · exact h.new b hb
  · intro M hp hM hN hs
    refine ⟨l, M, rfl, h.nd, by simpa using hl, ?_, ?_, hN, hs⟩
    · rw [hM q (List.mem_cons_self ..), h.root]; simp
    · exact Seg.congr (fun i hi => hM i (List.mem_cons_of_mem _ hi)) h.seg
@[simp] theorem idsOf_nil : idsOf [] = [] := rfl
theorem QOpen.put {l : List (Nat × Wt)} {L1 : Lg} (h : QOpen L q l L1) {rc : Nat} {c : LC} (h1 : rc ∉ q :: idsOf l) (h2 : L rc = none) : QOpen L q l (L1.put rc c) := by
  have h3 : ∀ b, b ∈ q :: idsOf l → (L1.put rc c) b = L1 b := fun b hb => Lg.put_ne _ _ _ (fun e => h1 (e ▸ hb))
  refine ⟨h.nd, ?_, Seg.congr (fun i hi => h3 i (List.mem_cons_of_mem _ hi)) h.seg, ?_, h.new⟩
  · rw [h3 q (List.mem_cons_self ..)]; exact h.root
  · intro b d hb hd
    have : b ≠ rc := by rintro rfl; rw [h2] at hd; cases hd
    rw [Lg.put_ne _ _ _ this]
    exact h.old b d hb hd
end
end Go.AM


/- chanq: what its functions do. -/
set_option linter.unusedVariables false
set_option linter.unusedSimpArgs false
namespace Go.AM
variable {N : Nat → Nat} {F : Nat → Option AFn}

/-- a channel -/
structure Ch where
  vals : List Int
  cap : Nat
  recvs : List Wt
  sends : List Wt
  timed : Bool
  signal : Bool
  closed : Bool
/-- one who waits no more -/
structure Wk where
  t : Int
  c : Int
  v : Int
  ok : Bool
  panic : Bool
  deriving DecidableEq
def Wk.cells (w : Wk) : List AV := [.i .i64 w.t, .i .i64 w.c, .i .i64 w.v, .b w.ok, .b w.panic]
def wkcells : List Wk → List AV
  | [] => []
  | w :: r => w.cells ++ wkcells r
def croot (rg q1 q2 : Nat) (x : Ch) : LC := .raw (.cells [.p (some (rg, 0)), .p (some (q1, 0)), .p (some (q2, 0)), .b x.timed, .b x.signal, .b x.closed])
/-- a channel, opened -/
structure COpen (L : Lg) (c : Nat) (x : Ch) (rg q1 q2 : Nat) (L1 : Lg) : Prop where
  n1 : rg ≠ c
  n2 : q1 ≠ c
  n3 : q2 ≠ c
  n4 : rg ≠ q1
  n5 : rg ≠ q2
  n6 : q1 ≠ q2
  root : L1 c = some (croot rg q1 q2 x)
  ring : L1 rg = some (.abs (RingP rg x.vals x.cap))
  rcv : L1 q1 = some (.abs (QueueP q1 x.recvs))
  snd : L1 q2 = some (.abs (QueueP q2 x.sends))
  old : ∀ b d, b ≠ c → b ≠ rg → b ≠ q1 → b ≠ q2 → L b = some d → L1 b = some d
  f1 : L rg = none
  f2 : L q1 = none
  f3 : L q2 = none
def ChanP (c : Nat) (x : Ch) (h : Hp) : Prop := ∃ (rg q1 q2 : Nat) (M : Lg), rg ≠ c ∧ q1 ≠ c ∧ q2 ≠ c ∧ rg ≠ q1 ∧ rg ≠ q2 ∧ q1 ≠ q2 ∧ M c = some (croot rg q1 q2 x) ∧ M rg = some (.abs (RingP rg x.vals x.cap)) ∧
  M q1 = some (.abs (QueueP q1 x.recvs)) ∧ M q2 = some (.abs (QueueP q2 x.sends)) ∧ (∀ b, b ≠ c → b ≠ rg → b ≠ q1 → b ≠ q2 → M b = none) ∧ Sat M h

section
variable {L L1 : Lg} {c rg q1 q2 : Nat} {x : Ch}
theorem COpen.shut (h : COpen L c x rg q1 q2 L1) : Sees L1 (L.put c (.abs (ChanP c x))) := by
  refine Sees.shutAt (fun b => b = c ∨ b = rg ∨ b = q1 ∨ b = q2) (.inl rfl) ?_ ?_ (.inl ⟨_, h.root⟩) ?_
  · intro b d hb hd
    simp only [not_or] at hb
    exact h.old b d hb.1 hb.2.1 hb.2.2.1 hb.2.2.2 hd
  · rintro b (rfl | rfl | rfl | rfl) hb
    · exact absurd rfl hb
    · exact h.f1
    · exact h.f2
    · exact h.f3
  · intro M hp hM hN hs
    refine ⟨rg, q1, q2, M, h.n1, h.n2, h.n3, h.n4, h.n5, h.n6, ?_, ?_, ?_, ?_, ?_, hs⟩
    · rw [hM c (.inl rfl)]; exact h.root
    · rw [hM rg (.inr (.inl rfl))]; exact h.ring
    · rw [hM q1 (.inr (.inr (.inl rfl)))]; exact h.rcv
    · rw [hM q2 (.inr (.inr (.inr rfl)))]; exact h.snd
    · intro b b1 b2 b3 b4; exact hN b (by simp [b1, b2, b3, b4])
theorem COpen.ext (h : COpen L c x rg q1 q2 L1) {L2 : Lg} (h2 : Ext2 L1 L2) : COpen L c x rg q1 q2 L2 :=
  ⟨h.n1, h.n2, h.n3, h.n4, h.n5, h.n6, h2 _ _ h.root, h2 _ _ h.ring, h2 _ _ h.rcv, h2 _ _ h.snd, fun b d b1 b2 b3 b4 hd => h2 _ _ (h.old b d b1 b2 b3 b4 hd), h.f1, h.f2, h.f3⟩
theorem COpen.back (h : COpen L c x rg q1 q2 L1) (e : L c = some (.abs (ChanP c x))) : Sees L1 L := by
  have := h.shut
  rwa [Lg.put_self L c _ e] at this
theorem COpen.none (h : COpen L c x rg q1 q2 L1) {b : Nat} (hb : L1 b = none) : b ≠ c ∧ L b = none := by
  have nb : ∀ {r : Nat} {k : LC}, L1 r = some k → b ≠ r := fun hr hrb => by rw [← hrb, hb] at hr; cases hr
  refine ⟨nb h.root, ?_⟩
  cases e : L b with
  | none => rfl
  | some d => rw [h.old b d (nb h.root) (nb h.ring) (nb h.rcv) (nb h.snd) e] at hb; cases hb

def Ch.free (x : Ch) (send : Bool) : Bool := if send = true then decide (x.vals.length < x.cap) else decide (0 < x.vals.length)
/-- what a value that is put makes of a channel: who is woken; whether it was kept -/
def Ch.put (x : Ch) (v : Int) : Ch × List Wk × Bool :=
  if x.timed = true then match x.recvs with
    | w :: ws => ({ x with recvs := ws }, [⟨w.t, w.c, v, true, false⟩], true)
    | [] => if x.vals.length = x.cap then (x, [], false) else ({ x with vals := x.vals ++ [v] }, [], true)
  else (x, [], false)
theorem FreshSl.ext {v : AV} {cs : List AV} {n size : Nat} {L' : Lg} (h : FreshSl L v cs n size L') : Ext2 L L' := by
  rcases h with ⟨h1, h2, rfl, rfl⟩ | ⟨b, ex, h1, h2, rfl, h3, rfl⟩
  · exact Ext2.refl _
  · exact (Ext2.refl _).put h1 _
end
end Go.AM


/- maps from whole numbers to whole numbers, as the code's memory holds them. -/
set_option linter.unusedVariables false
set_option linter.unusedSimpArgs false
namespace Go.AM

def enc (ks : List (Int × Int)) : List (AV × AV) := ks.map fun x => (.i .i64 x.1, .i .i64 x.2)
def look1 (k : Int) : List (Int × Int) → Option Int
  | [] => none
  | (a, v) :: r => if a = k then some v else look1 k r
def set1 (k v : Int) : List (Int × Int) → List (Int × Int)
  | [] => [(k, v)]
  | (a, u) :: r => if a = k then (a, v) :: r else (a, u) :: set1 k v r
def del1 (k : Int) : List (Int × Int) → List (Int × Int)
  | [] => []
  | (a, u) :: r => if a = k then r else (a, u) :: del1 k r
theorem set1_cons (k v a u : Int) (r : List (Int × Int)) : set1 k v ((a, u) :: r) = if a = k then (a, v) :: r else (a, u) :: set1 k v r := rfl
theorem del1_cons (k a u : Int) (r : List (Int × Int)) : del1 k ((a, u) :: r) = if a = k then r else (a, u) :: del1 k r := rfl
theorem kEq64 : kEq .i64 .i64 = true := rfl
theorem iEq_dec (a b : Int) : iEq a b = decide (a = b) := by rw [iEq_eq, beq_dec]
theorem msetL_enc (k v : Int) : ∀ ks, msetL .i64 k (.i .i64 v) (enc ks) = some (enc (set1 k v ks))
  | [] => rfl
  | (a, u) :: r => by
    show (bif kEq .i64 .i64 then (bif iEq k a then some ((AV.i .i64 a, AV.i .i64 v) :: enc r) else (msetL .i64 k (.i .i64 v) (enc r)).map ((AV.i .i64 a, AV.i .i64 u) :: ·)) else none) = _
    rw [kEq64, cond_true, msetL_enc k v r, iEq_dec]
    rw [set1_cons]
    by_cases h : a = k
    · simp [h, enc]
    · simp [h, Ne.symm h, enc]
theorem mdelL_enc (k : Int) : ∀ ks, mdelL .i64 k (enc ks) = some (enc (del1 k ks))
  | [] => rfl
  | (a, u) :: r => by
    show (bif kEq .i64 .i64 then (bif iEq k a then some (enc r) else (mdelL .i64 k (enc r)).map ((AV.i .i64 a, AV.i .i64 u) :: ·)) else none) = _
    rw [kEq64, cond_true, mdelL_enc k r, iEq_dec]
    rw [del1_cons]
    by_cases h : a = k
    · simp [h]
    · simp [h, Ne.symm h, enc]
theorem look1_set1 (k v j : Int) : ∀ ks, look1 j (set1 k v ks) = if k = j then some v else look1 j ks
  | [] => by simp [set1, look1]
  | (a, u) :: r => by
    rw [set1_cons]
    by_cases h : a = k
    · subst h; by_cases h2 : a = j <;> simp [look1, h2]
    · simp only [h, if_false, look1, look1_set1 k v j r]
      by_cases h2 : a = j
      · subst h2; simp [Ne.symm h]
      · simp [h2]
theorem look1_none (j : Int) : ∀ (ks : List (Int × Int)), j ∉ ks.map (·.1) → look1 j ks = none
  | [], _ => rfl
  | (a, u) :: r, h => by
    simp at h
    simp [look1, Ne.symm h.1, look1_none j r (by simpa using h.2)]
theorem set1_keys (k v : Int) : ∀ (ks : List (Int × Int)), (set1 k v ks).map (·.1) = if k ∈ ks.map (·.1) then ks.map (·.1) else ks.map (·.1) ++ [k]
  | [] => rfl
  | (a, u) :: r => by
    rw [set1_cons]
    by_cases h : a = k
    · simp [h]
    · simp only [h, if_false, List.map_cons, set1_keys k v r, List.mem_cons, Ne.symm h, false_or]
      split <;> simp
theorem del1_sub (k : Int) : ∀ (ks : List (Int × Int)), (del1 k ks).map (·.1) |>.Sublist (ks.map (·.1))
  | [] => List.Sublist.refl _
  | (a, u) :: r => by
    rw [del1_cons]
    by_cases h : a = k
    · simp [h]
    · simp only [h, if_false, List.map_cons]; exact (del1_sub k r).cons_cons _
theorem look1_del1 (k j : Int) : ∀ (ks : List (Int × Int)), (ks.map (·.1)).Nodup → look1 j (del1 k ks) = if k = j then none else look1 j ks
  | [], _ => by simp [del1, look1]
  | (a, u) :: r, h => by
    simp only [List.map_cons, List.nodup_cons] at h
    rw [del1_cons]
    by_cases h1 : a = k
    · subst h1
      by_cases h2 : a = j
      · subst h2; simp [look1_none a r h.1]
      · simp [look1, h2]
    · simp only [h1, if_false, look1, look1_del1 k j r h.2]
      by_cases h2 : a = j
      · subst h2; simp [Ne.symm h1]
      · simp [h2]
/-- a map's entries, and what they say -/
def MapI (es : List (AV × AV)) (f : Int → Option Int) : Prop := ∃ ks, es = enc ks ∧ (ks.map (·.1)).Nodup ∧ ∀ k, look1 k ks = f k
def updI (f : Int → Option Int) (k : Int) (v : Option Int) : Int → Option Int := fun j => if k = j then v else f j
theorem MapI.set {es : List (AV × AV)} {f : Int → Option Int} (h : MapI es f) (k v : Int) : ∃ es', msetL .i64 k (.i .i64 v) es = some es' ∧ MapI es' (updI f k (some v)) := by
  obtain ⟨ks, rfl, h1, h2⟩ := h
  refine ⟨_, msetL_enc k v ks, set1 k v ks, rfl, ?_, fun j => by rw [look1_set1, h2]; rfl⟩
  rw [set1_keys]
  split
  · exact h1
  · rename_i h3
    rw [List.nodup_append]
    exact ⟨h1, by simp, fun a ha b hb hab => by simp at hb; subst hb; subst hab; exact h3 ha⟩
theorem MapI.del {es : List (AV × AV)} {f : Int → Option Int} (h : MapI es f) (k : Int) : ∃ es', mdelL .i64 k es = some es' ∧ MapI es' (updI f k none) := by
  obtain ⟨ks, rfl, h1, h2⟩ := h
  exact ⟨_, mdelL_enc k ks, del1 k ks, rfl, (del1_sub k ks).nodup h1, fun j => by rw [look1_del1 k j ks h1, h2]; rfl⟩
end Go.AM


/- heap: items, the order, what is ahead. -/
set_option linter.unusedVariables false
set_option linter.unusedSimpArgs false
namespace Go.AM
variable {N : Nat → Nat} {F : Nat → Option AFn}

/-- an item -/
structure It where
  id : Int
  w : Int
  s : Int
  deriving DecidableEq
def It.cells (x : It) : List AV := [.i .i64 x.id, .i .i64 x.w, .i .i64 x.s]
def It.av (x : It) : AV := .agg x.cells
def It.zero : It := ⟨0, 0, 0⟩
def icells : List It → List AV
  | [] => []
  | x :: r => x.cells ++ icells r
def It.lt (a b : It) : Prop := a.w < b.w ∨ (a.w = b.w ∧ a.s < b.s)
instance (a b : It) : Decidable (a.lt b) := by unfold It.lt; exact inferInstance
theorem It.lt_irrefl (a : It) : ¬ a.lt a := by unfold It.lt; omega
theorem It.lt_asymm {a b : It} (h : a.lt b) : ¬ b.lt a := by unfold It.lt at *; omega
theorem It.lt_trans {a b c : It} (h : a.lt b) (k : b.lt c) : a.lt c := by unfold It.lt at *; omega
theorem It.ge_trans {a b c : It} (h : ¬ a.lt b) (k : ¬ b.lt c) : ¬ a.lt c := by unfold It.lt at *; omega
section
variable {L : Lg}
end
end Go.AM


/- heap: rows that are heaps; in plain Lean. -/
set_option linter.unusedVariables false
set_option linter.unusedSimpArgs false
namespace Go.AM

def par (i : Nat) : Nat := (i - 1) / 4
def gA (A : List It) (j : Nat) : It := A.getD j It.zero
theorem par_lt {j : Nat} (h : 0 < j) : par j < j := by unfold par; omega
theorem gA_set {A : List It} {i j : Nat} {x : It} (h : i < A.length) : gA (A.set i x) j = if i = j then x else gA A j := by
  unfold gA
  simp only [List.getD_eq_getElem?_getD, List.getElem?_set]
  by_cases hij : i = j
  · subst hij; simp [h]
  · simp [hij]
/-- all edges but those at i -/
def Exx (A : List It) (i : Nat) : Prop := (∀ j, 0 < j → j < A.length → j ≠ i → par j ≠ i → ¬ (gA A j).lt (gA A (par j))) ∧ ∀ j, 0 < j → j < A.length → par j = i → 0 < i → ¬ (gA A j).lt (gA A (par i))
/-- all edges but the one above i -/
def Up (A : List It) (i : Nat) : Prop := (∀ j, 0 < j → j < A.length → j ≠ i → ¬ (gA A j).lt (gA A (par j))) ∧ ∀ j, 0 < j → j < A.length → par j = i → 0 < i → ¬ (gA A j).lt (gA A (par i))
/-- all edges but those below i -/
def Dn (A : List It) (i : Nat) : Prop := (∀ j, 0 < j → j < A.length → par j ≠ i → ¬ (gA A j).lt (gA A (par j))) ∧ ∀ j, 0 < j → j < A.length → par j = i → 0 < i → ¬ (gA A j).lt (gA A (par i))
def HeapA (A : List It) : Prop := ∀ j, 0 < j → j < A.length → ¬ (gA A j).lt (gA A (par j))
def swap (A : List It) (i p : Nat) : List It := (A.set i (gA A p)).set p (gA A i)
theorem swap_length (A : List It) (i p : Nat) : (swap A i p).length = A.length := by simp [swap]
theorem gA_swap {A : List It} {i p : Nat} (hi : i < A.length) (hp : p < A.length) (j : Nat) : gA (swap A i p) j = if p = j then gA A i else if i = j then gA A p else gA A j := by
  unfold swap
  rw [gA_set (by simpa using hp), gA_set hi]
theorem Exx.up {A : List It} {i : Nat} (h : Exx A i) (hi : 0 < i) (hl : (gA A i).lt (gA A (par i))) : Up A i := by
  refine ⟨fun j h0 hj hji => ?_, h.2⟩
  by_cases hp : par j = i
  · rw [hp]
    have := h.2 j h0 hj hp hi
    exact fun h3 => this (It.lt_trans h3 hl)
  · exact h.1 j h0 hj hji hp
theorem Up.step {A : List It} {i : Nat} (h : Up A i) (hi : 0 < i) (hn : i < A.length) (hl : (gA A i).lt (gA A (par i))) : Up (swap A i (par i)) (par i) := by
  have hp : par i < i := par_lt hi
  have hpn : par i < A.length := by omega
  refine ⟨fun j h0 hj hji => ?_, fun j h0 hj hpj hp0 => ?_⟩
  · rw [swap_length] at hj
    rw [gA_swap hn hpn, gA_swap hn hpn]
    rw [if_neg (Ne.symm hji)]
    by_cases h1 : i = j
    · subst h1
      simp only [if_true]
      exact It.lt_asymm hl
    · rw [if_neg h1]
      by_cases h2 : par i = par j
      · rw [if_pos h2]
        have := h.1 j h0 hj (Ne.symm h1)
        rw [← h2] at this
        exact fun h3 => this (It.lt_trans h3 hl)
      · rw [if_neg h2]
        by_cases h3 : i = par j
        · rw [if_pos h3]
          exact h.2 j h0 hj h3.symm hi
        · rw [if_neg h3]
          exact h.1 j h0 hj (Ne.symm h1)
  · rw [swap_length] at hj
    have hpp : par (par i) < par i := par_lt hp0
    have hjp : j ≠ par i := by rintro rfl; omega
    rw [gA_swap hn hpn, gA_swap hn hpn, if_neg (Ne.symm hjp)]
    rw [if_neg (show par i ≠ par (par i) by omega), if_neg (show i ≠ par (par i) by omega)]
    have hb := h.1 (par i) hp0 hpn (by omega)
    by_cases h1 : i = j
    · rw [if_pos h1]; exact hb
    · rw [if_neg h1]
      have := h.1 j h0 hj (Ne.symm h1)
      rw [hpj] at this
      exact It.ge_trans this hb
theorem Up.heap {A : List It} {i : Nat} (h : Up A i) (hi : i = 0 ∨ ¬ (gA A i).lt (gA A (par i))) : HeapA A := by
  intro j h0 hj
  by_cases h1 : j = i
  · subst h1
    rcases hi with h2 | h2
    · omega
    · exact h2
  · exact h.1 j h0 hj h1
theorem Dn.step {A : List It} {i m : Nat} (h : Dn A i) (hm0 : 0 < m) (hm : m < A.length) (hpm : par m = i) (hmin : ∀ j, 0 < j → j < A.length → par j = i → ¬ (gA A j).lt (gA A m)) (hx : ¬ (gA A i).lt (gA A m)) : Dn (swap A i m) m := by
  have him : i < m := by rw [← hpm]; exact par_lt hm0
  have hn : i < A.length := by omega
  refine ⟨fun j h0 hj hp => ?_, fun j h0 hj hp _ => ?_⟩
  · rw [swap_length] at hj
    rw [gA_swap hn hm, gA_swap hn hm, if_neg (Ne.symm hp)]
    by_cases h1 : m = j
    · subst h1; rw [if_pos rfl, hpm, if_pos rfl]; exact hx
    · rw [if_neg h1]
      by_cases h2 : i = j
      · subst h2
        rw [if_pos rfl, if_neg (show i ≠ par i by have := par_lt h0; omega)]
        exact h.2 m hm0 hm hpm h0
      · rw [if_neg h2]
        by_cases h3 : i = par j
        · rw [if_pos h3]; exact hmin j h0 hj h3.symm
        · rw [if_neg h3]; exact h.1 j h0 hj (Ne.symm h3)
  · rw [swap_length] at hj
    have hjm : j ≠ m := by rintro rfl; have := par_lt h0; omega
    have hji : j ≠ i := by rintro rfl; have := par_lt h0; omega
    rw [gA_swap hn hm, gA_swap hn hm, if_neg (Ne.symm hjm), if_neg (Ne.symm hji), hpm, if_neg (show m ≠ i by omega), if_pos rfl]
    have := h.1 j h0 hj (by omega)
    rw [hp] at this
    exact this
theorem Dn.heap {A : List It} {i : Nat} (h : Dn A i) (hc : ∀ j, 0 < j → j < A.length → par j = i → ¬ (gA A j).lt (gA A i)) : HeapA A := by
  intro j h0 hj
  by_cases h1 : par j = i
  · rw [h1]; exact hc j h0 hj h1
  · exact h.1 j h0 hj h1
theorem HeapA.root {A : List It} (h : HeapA A) : ∀ j, j < A.length → ¬ (gA A j).lt (gA A 0) := by
  intro j
  induction j using Nat.strongRecOn with
  | ind j ih =>
    intro hj
    by_cases h0 : j = 0
    · subst h0; exact It.lt_irrefl _
    · have := par_lt (show 0 < j by omega)
      exact It.ge_trans (h j (by omega) hj) (ih _ this (by omega))
/-! ### who stands where -/
def Ids (A : List It) : Prop := ∀ j k, j < A.length → k < A.length → (gA A j).id = (gA A k).id → j = k
def Cons (A : List It) (mp : Int → Option Int) : Prop := Ids A ∧ (∀ j, j < A.length → mp (gA A j).id = some (j : Int)) ∧ ∀ k v, mp k = some v → ∃ j, j < A.length ∧ v = (j : Int) ∧ (gA A j).id = k
def ConsH (A : List It) (mp : Int → Option Int) (i : Nat) : Prop := Ids A ∧ (∀ j, j < A.length → j ≠ i → mp (gA A j).id = some (j : Int)) ∧ ∀ k v, mp k = some v → k = (gA A i).id ∨ ∃ j, j < A.length ∧ j ≠ i ∧ v = (j : Int) ∧ (gA A j).id = k
theorem Ids.swap {A : List It} (h : Ids A) {i p : Nat} (hi : i < A.length) (hp : p < A.length) : Ids (swap A i p) := by
  have key : ∀ j, gA (Go.AM.swap A i p) j = gA A (if p = j then i else if i = j then p else j) := by
    intro j
    rw [gA_swap hi hp]
    split
    · rfl
    · split <;> rfl
  intro j k hj hk
  rw [swap_length] at hj hk
  rw [key, key]
  intro e
  have := h _ _ (by split; exact hi; split; exact hp; exact hj) (by split; exact hi; split; exact hp; exact hk) e
  split at this <;> split at this <;> (try split at this) <;> (try split at this) <;> omega
theorem ConsH.step {A : List It} {mp : Int → Option Int} {i p : Nat} (h : ConsH A mp i) (hi : i < A.length) (hp : p < A.length) (hne : p ≠ i) : ConsH (swap A i p) (updI mp (gA A p).id (some (i : Int))) p := by
  refine ⟨h.1.swap hi hp, fun j hj hjp => ?_, fun k v hk => ?_⟩
  · rw [swap_length] at hj
    rw [gA_swap hi hp, if_neg (Ne.symm hjp)]
    unfold updI
    by_cases h1 : i = j
    · subst h1; simp
    · rw [if_neg h1]
      have h2 : (gA A p).id ≠ (gA A j).id := fun e => hjp (h.1 p j hp hj e).symm
      rw [if_neg h2]
      exact h.2.1 j hj (Ne.symm h1)
  · unfold updI at hk
    rw [gA_swap hi hp, if_pos rfl]
    by_cases h1 : (gA A p).id = k
    · rw [if_pos h1] at hk; cases hk
      refine .inr ⟨i, by rw [swap_length]; exact hi, Ne.symm hne, rfl, ?_⟩
      rw [gA_swap hi hp, if_neg hne, if_pos rfl]; exact h1
    · rw [if_neg h1] at hk
      rcases h.2.2 k v hk with h2 | ⟨j, h2, h3, h4, h5⟩
      · exact .inl h2
      · have hjp : j ≠ p := by rintro rfl; exact h1 h5
        refine .inr ⟨j, by rw [swap_length]; exact h2, hjp, h4, ?_⟩
        rw [gA_swap hi hp, if_neg (Ne.symm hjp), if_neg (Ne.symm h3)]; exact h5
end Go.AM


/- heap: put, up, down. -/
set_option linter.unusedVariables false
set_option linter.unusedSimpArgs false
namespace Go.AM
variable {N : Nat → Nat} {F : Nat → Option AFn}

def HSl (L : Lg) (h mb : Nat) (its : List It) (sv : AV) (K : Lg) : Prop :=
  (its = [] ∧ sv = .sl none 0 0 0) ∨ ∃ b cap sp, sv = .sl (some (b, 0)) its.length cap 3 ∧ K b = some (.raw (.cells (icells its ++ sp))) ∧ sp.length + its.length * 3 = cap * 3 ∧ b ≠ h ∧ b ≠ mb ∧ L b = none
/-- a heap, opened: its row, where each stands, and the count -/
def HOpen (L : Lg) (h : Nat) (its : List It) (mp : Int → Option Int) (seq : Int) (K : Lg) : Prop :=
  ∃ (sv : AV) (mb : Nat) (es : List (AV × AV)), K h = some (.raw (.cells [sv, .m (some mb), .i .i64 seq])) ∧ K mb = some (.raw (.map es)) ∧ MapI es mp ∧ mb ≠ h ∧ L mb = none ∧ HSl L h mb its sv K ∧
    ∀ r d, r ≠ h → L r = some d → K r = some d

section
variable {L K : Lg} {h : Nat} {its : List It} {mp : Int → Option Int} {seq : Int}
theorem HOpen.ext (ho : HOpen L h its mp seq K) {K' : Lg} (e : Ext2 K K') : HOpen L h its mp seq K' := by
  obtain ⟨sv, mb, es, h1, h2, h3, h4, h5, h6, h7⟩ := ho
  refine ⟨sv, mb, es, e _ _ h1, e _ _ h2, h3, h4, h5, ?_, fun r d hr hd => e _ _ (h7 r d hr hd)⟩
  rcases h6 with h6 | ⟨b, cap, sp, a1, a2, a3⟩
  · exact .inl h6
  · exact .inr ⟨b, cap, sp, a1, e _ _ a2, a3⟩
theorem HOpen.ne (ho : HOpen L h its mp seq K) {r : Nat} (hr : K r = none) : r ≠ h ∧ L r = none := by
  obtain ⟨sv, mb, es, h1, h2, h3, h4, h5, h6, h7⟩ := ho
  have n : r ≠ h := by rintro rfl; rw [h1] at hr; cases hr
  refine ⟨n, ?_⟩
  cases e : L r with
  | none => rfl
  | some d => rw [h7 r d n e] at hr; cases hr
theorem HOpen.old (ho : HOpen L h its mp seq K) {r : Nat} {d : LC} (hr : r ≠ h) (hd : L r = some d) : K r = some d := by
  obtain ⟨sv, mb, es, h1, h2, h3, h4, h5, h6, h7⟩ := ho
  exact h7 r d hr hd

end
end Go.AM


/- heap: add, remove, find, min, pop. -/
set_option linter.unusedVariables false
set_option linter.unusedSimpArgs false
namespace Go.AM
variable {N : Nat → Nat} {F : Nat → Option AFn}

/-! ### rows in order -/
def ins (x : It) : List It → List It
  | [] => [x]
  | y :: r => if x.lt y then x :: y :: r else y :: ins x r
theorem ins_perm (x : It) : ∀ l, (ins x l).Perm (x :: l)
  | [] => List.Perm.refl _
  | y :: r => by
    unfold ins
    split
    · exact List.Perm.refl _
    · exact ((ins_perm x r).cons y).trans (List.Perm.swap x y r)
theorem ins_sorted {x : It} : ∀ {l : List It}, l.Pairwise It.lt → (∀ y, y ∈ l → x.s ≠ y.s) → (ins x l).Pairwise It.lt
  | [], _, _ => by simp [ins]
  | y :: r, h, hx => by
    rw [List.pairwise_cons] at h
    unfold ins
    split
    · rename_i hlt
      rw [List.pairwise_cons]
      refine ⟨fun z hz => ?_, List.pairwise_cons.2 h⟩
      rcases List.mem_cons.1 hz with rfl | hz
      · exact hlt
      · exact It.lt_trans hlt (h.1 z hz)
    · rename_i hlt
      have hyx : y.lt x := by
        have := hx y (by simp)
        unfold It.lt at *
        omega
      rw [List.pairwise_cons]
      refine ⟨fun z hz => ?_, ins_sorted h.2 (fun z hz => hx z (by simp [hz]))⟩
      rcases List.mem_cons.1 ((ins_perm x r).mem_iff.1 hz) with rfl | hz
      · exact hyx
      · exact h.1 z hz
def rmId (id : Int) (l : List It) : List It := l.filter fun y => !decide (y.id = id)
/-- a heap: its items in order, and the count -/
def HeapP (h : Nat) (l : List It) (seq : Int) (hp : Hp) : Prop := ∃ its mp M, HOpen Lg.nil h its mp seq M ∧ Cons its mp ∧ HeapA its ∧ its.Perm l ∧ Sat M hp

section
variable {L K : Lg} {h : Nat} {its l : List It} {mp : Int → Option Int} {seq : Int}
theorem HOpen.shut (ho : HOpen L h its mp seq K) (hc : Cons its mp) (hh : HeapA its) (hp : its.Perm l) : Sees K (L.put h (.abs (HeapP h l seq))) := by
  obtain ⟨sv, mb, es, h1, h2, h3, h4, h5, h6, h7⟩ := ho
  rcases h6 with ⟨rfl, rfl⟩ | ⟨b, cap, sp, rfl, a2, a3, a4, a5, a6⟩
  · refine Sees.shutAt (fun r => r = h ∨ r = mb) (.inl rfl) ?_ ?_ (.inl ⟨_, h1⟩) ?_
    · intro r d hr hd; simp only [not_or] at hr; exact h7 r d hr.1 hd
    · rintro r (rfl | rfl) hr
      · exact absurd rfl hr
      · exact h5
    · intro M hm hM hN hs
      refine ⟨[], mp, M, ⟨_, mb, es, by rw [hM h (.inl rfl)]; exact h1, by rw [hM mb (.inr rfl)]; exact h2, h3, h4, rfl, .inl ⟨rfl, rfl⟩, fun r d _ hd => by cases hd⟩, hc, hh, hp, hs⟩
  · refine Sees.shutAt (fun r => r = h ∨ r = mb ∨ r = b) (.inl rfl) ?_ ?_ (.inl ⟨_, h1⟩) ?_
    · intro r d hr hd; simp only [not_or] at hr; exact h7 r d hr.1 hd
    · rintro r (rfl | rfl | rfl) hr
      · exact absurd rfl hr
      · exact h5
      · exact a6
    · intro M hm hM hN hs
      refine ⟨its, mp, M, ⟨_, mb, es, by rw [hM h (.inl rfl)]; exact h1, by rw [hM mb (.inr (.inl rfl))]; exact h2, h3, h4, rfl, .inr ⟨b, cap, sp, rfl, by rw [hM b (.inr (.inr rfl))]; exact a2, a3, a4, a5, rfl⟩, fun r d _ hd => by cases hd⟩, hc, hh, hp, hs⟩
theorem HOpen.back (ho : HOpen L h its mp seq K) (hc : Cons its mp) (hh : HeapA its) (hp : its.Perm l) (e : L h = some (.abs (HeapP h l seq))) : Sees K L := by
  have := ho.shut hc hh hp
  rwa [Lg.put_self L h _ e] at this
end
end Go.AM


/- heap: remove, pop. -/
set_option linter.unusedVariables false
set_option linter.unusedSimpArgs false
namespace Go.AM
variable {N : Nat → Nat} {F : Nat → Option AFn}

theorem slc_hi {s r o len cap ex m : Nat} {j : IntKind} (h1 : m ≤ cap) (h2 : ex = 0 ∨ ex = s) : slcV s false true false [.sl (some (r, o)) len cap ex, .i j (m : Int)] = some (.sl (some (r, o)) m cap ex) := by
  show (bif Nat.ble 0 m && Nat.ble m cap && Nat.ble cap cap && (Nat.beq ex 0 || Nat.beq ex s) then _ else _) = _
  have : (Nat.beq ex 0 || Nat.beq ex s) = true := by rcases h2 with rfl | rfl <;> simp [beq_nat]
  simp [ble_nat, h1, this]
section
variable {L L0 K : Lg} {h : Nat} {its l : List It} {mp : Int → Option Int} {seq : Int}
theorem HOpen.sub (ho : HOpen L0 h its mp seq K) (hs : ∀ r d, r ≠ h → L r = some d → L0 r = some d) : HOpen L h its mp seq K := by
  obtain ⟨sv, mb, es, h1, h2, h3, h4, h5, h6, h7⟩ := ho
  have hn : ∀ r, r ≠ h → L0 r = none → L r = none := by
    intro r hr h0
    cases e : L r with
    | none => rfl
    | some d => rw [hs r d hr e] at h0; cases h0
  refine ⟨sv, mb, es, h1, h2, h3, h4, hn mb h4 h5, ?_, fun r d hr hd => h7 r d hr (hs r d hr hd)⟩
  rcases h6 with h6 | ⟨b, cap, sp, a1, a2, a3, a4, a5, a6⟩
  · exact .inl h6
  · exact .inr ⟨b, cap, sp, a1, a2, a3, a4, a5, hn b a4 a6⟩
/-! ### one less -/
end
end Go.AM


/- expire: what its functions do. -/
set_option linter.unusedVariables false
set_option linter.unusedSimpArgs false
namespace Go.AM
variable {N : Nat → Nat} {F : Nat → Option AFn}

/-- what will be due: in order; the count; the periods -/
structure Xs where
  l : List It
  seq : Int
  pf : Int → Option Int
structure Xs.ok (x : Xs) (n : Nat) : Prop where
  sorted : x.l.Pairwise It.lt
  len : x.l.length ≤ n
  below : ∀ y, y ∈ x.l → y.s ≤ x.seq
  pos : 0 ≤ x.seq
def Xs.stop (x : Xs) (id : Int) : Xs := { x with l := rmId id x.l, pf := updI x.pf id none }
def Xs.armed (x : Xs) (id when period : Int) : Xs := { l := ins ⟨id, when, x.seq + 1⟩ (rmId id x.l), seq := x.seq + 1, pf := updI (updI x.pf id none) id (some period) }
def badT (a b : Int) : Bool := decide (min a b < 0) || decide (4611686018427387904 < max a b)
def Xs.arm (x : Xs) (id when period : Int) : Xs × Int := if badT when period = true then (x, 1) else (x.armed id when period, 0)
def Xs.next (x : Xs) : Int × Bool := match x.l.head? with
  | some y => (y.w, true)
  | none => (0, false)
def Xs.take (x : Xs) (now : Int) : Xs × (Int × Int × Int) × Bool := match x.l.head? with
  | none => (x, (0, 0, 0), false)
  | some y => if now < 0 ∨ now < y.w then (x, (0, 0, 0), false) else
    let p := (x.pf y.id).getD 0
    let z : Xs := x.stop y.id
    let c := clockNext y.w p now
    (if c.2 = 0 ∧ now < c.1 then (z.arm y.id c.1 p).1 else z, (y.id, y.w, now), true)
def TmP (t : Nat) (x : Xs) (hp : Hp) : Prop := ∃ (h pm : Nat) (es : List (AV × AV)) (M : Lg), M t = some (.raw (.cells [.p (some (h, 0)), .m (some pm)])) ∧ M h = some (.abs (HeapP h x.l x.seq)) ∧ M pm = some (.raw (.map es)) ∧ MapI es x.pf ∧ h ≠ t ∧ pm ≠ t ∧ pm ≠ h ∧ Sat M hp
structure XOpen (L : Lg) (t : Nat) (x : Xs) (h pm : Nat) (K : Lg) : Prop where
  root : K t = some (.raw (.cells [.p (some (h, 0)), .m (some pm)]))
  heap : K h = some (.abs (HeapP h x.l x.seq))
  per : ∃ es, K pm = some (.raw (.map es)) ∧ MapI es x.pf
  n1 : h ≠ t
  n2 : pm ≠ t
  n3 : pm ≠ h
  f1 : L h = none
  f2 : L pm = none
  old : ∀ r d, r ≠ t → L r = some d → K r = some d

section
variable {L L0 K : Lg} {t h pm : Nat} {x : Xs}
theorem XOpen.shut (o : XOpen L t x h pm K) : Sees K (L.put t (.abs (TmP t x))) := by
  obtain ⟨es, e1, e2⟩ := o.per
  refine Sees.shutAt (fun r => r = t ∨ r = h ∨ r = pm) (.inl rfl) ?_ ?_ (.inl ⟨_, o.root⟩) ?_
  · intro r d hr hd; simp only [not_or] at hr; exact o.old r d hr.1 hd
  · rintro r (rfl | rfl | rfl) hr
    · exact absurd rfl hr
    · exact o.f1
    · exact o.f2
  · intro M hm hM hN hs
    exact ⟨h, pm, es, M, by rw [hM t (.inl rfl)]; exact o.root, by rw [hM h (.inr (.inl rfl))]; exact o.heap, by rw [hM pm (.inr (.inr rfl))]; exact e1, e2, o.n1, o.n2, o.n3, hs⟩
theorem XOpen.ne (o : XOpen L t x h pm K) {r : Nat} (hr : K r = none) : r ≠ t ∧ L r = none := by
  have n : r ≠ t := by rintro rfl; rw [o.root] at hr; cases hr
  refine ⟨n, ?_⟩
  cases e : L r with
  | none => rfl
  | some d => rw [o.old r d n e] at hr; cases hr
theorem XOpen.sub (o : XOpen L0 t x h pm K) (hs : ∀ r d, r ≠ t → L r = some d → L0 r = some d) : XOpen L t x h pm K := by
  have hn : ∀ r, r ≠ t → L0 r = none → L r = none := by
    intro r hr h0
    cases e : L r with
    | none => rfl
    | some d => rw [hs r d hr e] at h0; cases h0
  exact ⟨o.root, o.heap, o.per, o.n1, o.n2, o.n3, hn h o.n1 o.f1, hn pm o.n2 o.f2, fun r d hr hd => o.old r d hr (hs r d hr hd)⟩
theorem XOpen.back (o : XOpen L t x h pm K) (e : L t = some (.abs (TmP t x))) : Sees K L := by
  have := o.shut
  rwa [Lg.put_self L t _ e] at this

end
end Go.AM


/- The code of functions, with names for their numbers, and what is left of its weakest preconditions. PRINTED by our printgen.py. -/
set_option linter.unusedVariables false
set_option maxRecDepth 100000
namespace Go.AM
end Go.AM

/- timer: the set of timers, opened; small functions. -/
set_option linter.unusedVariables false
set_option linter.unusedSimpArgs false
namespace Go.AM
variable {N : Nat → Nat} {F : Nat → Option AFn}

section
variable {L : Lg} {t : Nat} {x : Xs}
end

/-- a timer -/
structure On where
  kind : Int
  data : Int
  c : Option Nat
  gen : Int
def On.cells (o : On) : List AV := [.i .i64 o.kind, .i .i64 o.data, ptr o.c, .i .i64 o.gen]
def ocells : List On → List AV
  | [] => []
  | o :: r => o.cells ++ ocells r
/-- timers: each; what will be due; how many have names -/
structure Tms where
  ones : List On
  x : Xs
  named : Int
def SSl (L : Lg) (s t : Nat) (ones : List On) (sv : AV) (K : Lg) : Prop :=
  (ones = [] ∧ sv = .sl none 0 0 0) ∨ ∃ b, sv = .sl (some (b, 0)) ones.length ones.length 4 ∧ K b = some (.raw (.cells (ocells ones))) ∧ b ≠ s ∧ b ≠ t ∧ L b = none ∧ 0 < ones.length
def SOpen (L : Lg) (s : Nat) (σ : Tms) (t : Nat) (K : Lg) : Prop :=
  ∃ sv, K s = some (.raw (.cells [sv, .p (some (t, 0)), .i .i64 σ.named])) ∧ K t = some (.abs (TmP t σ.x)) ∧ t ≠ s ∧ L t = none ∧ SSl L s t σ.ones sv K ∧ ∀ r d, r ≠ s → L r = some d → K r = some d
def SetP (s : Nat) (σ : Tms) (hp : Hp) : Prop := ∃ t M, SOpen Lg.nil s σ t M ∧ Sat M hp
section
variable {L L0 K : Lg} {s t : Nat} {σ : Tms}
theorem SOpen.shut (o : SOpen L s σ t K) : Sees K (L.put s (.abs (SetP s σ))) := by
  obtain ⟨sv, h1, h2, h3, h4, h5, h6⟩ := o
  rcases h5 with ⟨g1, rfl⟩ | ⟨b, rfl, a2, a3, a4, a5, a6⟩
  · refine Sees.shutAt (fun r => r = s ∨ r = t) (.inl rfl) ?_ ?_ (.inl ⟨_, h1⟩) ?_
    · intro r d hr hd; simp only [not_or] at hr; exact h6 r d hr.1 hd
    · rintro r (rfl | rfl) hr
      · exact absurd rfl hr
      · exact h4
    · intro M hm hM hN hs
      exact ⟨t, M, ⟨_, by rw [hM s (.inl rfl)]; exact h1, by rw [hM t (.inr rfl)]; exact h2, h3, rfl, .inl ⟨g1, rfl⟩, fun r d _ hd => by cases hd⟩, hs⟩
  · refine Sees.shutAt (fun r => r = s ∨ r = t ∨ r = b) (.inl rfl) ?_ ?_ (.inl ⟨_, h1⟩) ?_
    · intro r d hr hd; simp only [not_or] at hr; exact h6 r d hr.1 hd
    · rintro r (rfl | rfl | rfl) hr
      · exact absurd rfl hr
      · exact h4
      · exact a5
    · intro M hm hM hN hs
      exact ⟨t, M, ⟨_, by rw [hM s (.inl rfl)]; exact h1, by rw [hM t (.inr (.inl rfl))]; exact h2, h3, rfl, .inr ⟨b, rfl, by rw [hM b (.inr (.inr rfl))]; exact a2, a3, a4, rfl, a6⟩, fun r d _ hd => by cases hd⟩, hs⟩
theorem SOpen.back (o : SOpen L s σ t K) (e : L s = some (.abs (SetP s σ))) : Sees K L := by
  have := o.shut
  rwa [Lg.put_self L s _ e] at this
theorem SOpen.ne (o : SOpen L s σ t K) {r : Nat} (hr : K r = none) : r ≠ s ∧ L r = none := by
  obtain ⟨sv, h1, h2, h3, h4, h5, h6⟩ := o
  have n : r ≠ s := by rintro rfl; rw [h1] at hr; cases hr
  refine ⟨n, ?_⟩
  cases e : L r with
  | none => rfl
  | some d => rw [h6 r d n e] at hr; cases hr
theorem SOpen.old (o : SOpen L s σ t K) {r : Nat} {d : LC} (hr : r ≠ s) (hd : L r = some d) : K r = some d := by
  obtain ⟨sv, h1, h2, h3, h4, h5, h6⟩ := o
  exact h6 r d hr hd
theorem SOpen.sub (o : SOpen L0 s σ t K) (hs : ∀ r d, r ≠ s → L r = some d → L0 r = some d) : SOpen L s σ t K := by
  obtain ⟨sv, h1, h2, h3, h4, h5, h6⟩ := o
  have hn : ∀ r, r ≠ s → L0 r = none → L r = none := by
    intro r hr h0
    cases e : L r with
    | none => rfl
    | some d => rw [hs r d hr e] at h0; cases h0
  refine ⟨sv, h1, h2, h3, hn t h3 h4, ?_, fun r d hr hd => h6 r d hr (hs r d hr hd)⟩
  rcases h5 with h5 | ⟨b, a1, a2, a3, a4, a5, a6⟩
  · exact .inl h5
  · exact .inr ⟨b, a1, a2, a3, a4, hn b a3 a5, a6⟩
def Tms.has (σ : Tms) (id : Int) : Bool := decide (0 ≤ id) && decide (id < σ.ones.length)
def Tms.one (σ : Tms) (id : Int) : Option On := if σ.has id = true then σ.ones[id.toNat]? else none
end
end Go.AM


/- timer: arm, make. -/
set_option linter.unusedVariables false
set_option linter.unusedSimpArgs false
namespace Go.AM
variable {N : Nat → Nat} {F : Nat → Option AFn}

def Tms.armed (σ : Tms) (i : Nat) (w : On) (now d : Int) : Tms :=
  { σ with ones := σ.ones.set i { w with gen := w.gen + 1 }, x := (σ.x.arm i (clockAdd now (max d 0)) (if w.kind = 2 then min d 4611686018427387904 else 0)).1 }
section
variable {L K : Lg} {s t : Nat} {σ : Tms}
end
end Go.AM


/- timer: channel, Timer, Ticker, Func, Lapse, Stop, Reset. -/
set_option linter.unusedVariables false
set_option linter.unusedSimpArgs false
namespace Go.AM
variable {N : Nat → Nat} {F : Nat → Option AFn}

theorem CallL.opq {f : Nat} {vs : List AV} {L : Lg} {Q0 : AV → Lg → Prop} (h : ∀ Q : AV → Lg → Prop, (∀ v L, Q0 v L → Q v L) → CallL F f vs L Q) : CallL F f vs L Q0 := h Q0 fun _ _ h => h
section
variable {L K : Lg} {s t : Nat} {σ : Tms}
def Ch.left (x : Ch) : Bool := decide (0 < x.vals.length)
end
end Go.AM


/- a row's arguments: slices that are read only. -/
set_option linter.unusedVariables false
namespace Go.AM
open Go.RowKit

/-- what stands for the arguments' memory -/
structure AR (W : World) (S : St) (β : Bt) (L : Lg) : Prop where
  mod : Mod S L
  rel : Rel β W.heap.size S.h W
  wf : S.wf
  free : ∀ k, S.nx ≤ k → β k = none
theorem AR.start (W : World) (hgn : GN ≤ W.heap.size) (hgw : GW W) : AR W S0 B0g Lg.nil := ⟨mod_S0, rel_S0 hgn hgw, wf_S0, fun k hk => if_neg (by have : GN ≤ k := hk; omega)⟩
def Bt.put (β : Bt) (n : Nat) (x : Nat × Nat × Nat) : Bt := fun m => if m = n then some x else β m
theorem AR.ext {W : World} {S : St} {β : Bt} {L : Lg} (h : AR W S β L) (x : Nat × Nat × Nat) : Ext β (Bt.put β S.nx x) := by
  intro n y e
  unfold Bt.put
  split
  · rename_i h9; subst h9; rw [h.free _ (Nat.le_refl _)] at e; cases e
  · exact e
theorem AR.slice {W : World} {S : St} {β : Bt} {L : Lg} (h : AR W S β L) {b off : Nat} {c : List AV} {cur t fr} (hb : W.heap[b]? = some (.cells cur t fr)) (hc : CellsR β c off cur) :
    AR W ⟨S.h.set S.nx (some (.ro c)), S.nx + 1⟩ (Bt.put β S.nx (b, off, 0)) (L.put S.nx (.raw (.ro c))) := by
  have he := h.ext (b, off, 0)
  have hlt : b < W.heap.size := (Array.getElem?_eq_some_iff.1 hb).1
  refine ⟨h.mod.new _, ⟨?_, ?_, h.rel.le, h.rel.gl.mono he fun _ _ => rfl⟩, ?_, ?_⟩
  · intro n bl b' o z hg hn
    rw [PM.get_set] at hg
    unfold Bt.put at hn
    split at hg
    · rename_i h9
      rw [if_pos h9] at hn
      cases hg; cases hn
      exact ⟨cur, t, fr, hb, hc.mono he⟩
    · rename_i h9
      rw [if_neg h9] at hn
      exact (h.rel.blk n bl b' o z hg hn).mono he
  · intro n m bl bm b' x y hg hm ho hn hm2
    rw [PM.get_set] at hg hm
    unfold Bt.put at hn hm2
    split at hg
    · cases hg; simp [AB.own] at ho
    · rename_i h9
      rw [if_neg h9] at hn
      have hbase := (h.rel.blk n bl b' x.1 x.2 hg hn).le ho
      split at hm
      · rename_i h8
        rw [if_pos h8] at hm2
        simp only [Option.some.injEq, Prod.mk.injEq] at hm2
        have := hm2.1
        have h3 := h.rel.lt hg hn
        have h4 := h.rel.le
        omega
      · rename_i h8
        rw [if_neg h8] at hm2
        exact h.rel.inj n m bl bm b' x y hg hm ho hn hm2
  · intro n bl hg
    rw [PM.get_set] at hg
    split at hg
    · rename_i h9; subst h9; exact Nat.lt_succ_self _
    · exact Nat.lt_succ_of_lt (h.wf n bl hg)
  · intro k hk
    have h9 : k ≠ S.nx := by have : S.nx + 1 ≤ k := hk; omega
    unfold Bt.put
    rw [if_neg h9]
    exact h.free k (by have : S.nx + 1 ≤ k := hk; omega)
/-- a name without a block -/
theorem AR.hole {W : World} {S : St} {β : Bt} {L : Lg} (h : AR W S β L) (x : Nat × Nat × Nat) : AR W ⟨S.h, S.nx + 1⟩ (Bt.put β S.nx x) L := by
  have he := h.ext x
  have hne : ∀ n bl, S.h.get n = some bl → n ≠ S.nx := fun n bl hg e => by have : n < S.nx := h.wf n bl hg; omega
  refine ⟨?_, ⟨?_, ?_, h.rel.le, h.rel.gl.mono he fun _ _ => rfl⟩, ?_, ?_⟩
  · obtain ⟨h0, hs, hb⟩ := h.mod
    exact ⟨h0, hs, fun b y e => ⟨(hb b y e).1, Nat.lt_succ_of_lt (hb b y e).2⟩⟩
  · intro n bl b' o z hg hn
    unfold Bt.put at hn
    rw [if_neg (hne n bl hg)] at hn
    exact (h.rel.blk n bl b' o z hg hn).mono he
  · intro n m bl bm b' x y hg hm ho hn hm2
    unfold Bt.put at hn hm2
    rw [if_neg (hne n bl hg)] at hn
    rw [if_neg (hne m bm hm)] at hm2
    exact h.rel.inj n m bl bm b' x y hg hm ho hn hm2
  · intro n bl hg
    exact Nat.lt_succ_of_lt (h.wf n bl hg)
  · intro k hk
    have h9 : k ≠ S.nx := by have : S.nx + 1 ≤ k := hk; omega
    unfold Bt.put
    rw [if_neg h9]
    exact h.free k (by have : S.nx + 1 ≤ k := hk; omega)
/-- a call that answers true, at a row's arguments -/
theorem AR.calls {W : World} {S : St} {β : Bt} {L : Lg} (h : AR W S β L) {P : Program} {F : Nat → Option AFn} (hm : P.follows .mixedOrders = true) (hF : TblOk P F) {f : Nat} {vs : List AV} {as : Array Value} (hv : VRs β vs as.toList)
    (hc : CallL F f vs L fun v _ => v = .b true) : Calls P f as W fun e w' => e = .returned (.bool true) ∧ Below W.heap.size W w' := by
  obtain ⟨n, v, S', h1, L', h2, rfl⟩ := hc S h.mod
  exact calls_true hm hF h1 h.wf hv h.rel (fun k h3 _ => h.free k h3)
/-- a slice's stand-in -/
def ArgSl (L : Lg) (v : AV) (cs : List AV) (n size : Nat) : Prop := cs.length = n * size ∧ ((n = 0 ∧ v = .sl none 0 0 0) ∨ ∃ b cap, v = .sl (some (b, 0)) n cap 0 ∧ L b = some (.raw (.ro cs)))
theorem ArgSl.len {F : Nat → Option AFn} {L : Lg} {a : AV} {cs : List AV} {n size : Nat} (h : ArgSl L a cs n size) (M : Lg) (k : AV → Lg → Prop) : wpOp F .lenSl [a] M k = k (.i .i64 n) M := by
  obtain ⟨_, ⟨rfl, rfl⟩ | ⟨b, cap, rfl, _⟩⟩ := h
  · simp
  · simp
theorem ArgSl.get {L : Lg} {a : AV} {cs : List AV} {n size : Nat} (h : ArgSl L a cs n size) {i : Nat} (hi : i < n) : ∃ b cap, a = .sl (some (b, 0)) n cap 0 ∧ L b = some (.raw (.ro cs)) := by
  obtain ⟨_, ⟨rfl, rfl⟩ | ⟨b, cap, rfl, e⟩⟩ := h
  · omega
  · exact ⟨b, cap, rfl, e⟩
theorem ArgSl.ext {L L' : Lg} {v : AV} {cs : List AV} {n size : Nat} (h : ArgSl L v cs n size) (e : Ext2 L L') : ArgSl L' v cs n size := by
  obtain ⟨h1, h2 | ⟨b, cap, h2, h3⟩⟩ := h
  · exact ⟨h1, .inl h2⟩
  · exact ⟨h1, .inr ⟨b, cap, h2, e b _ h3⟩⟩
def icl (l : List Int) : List AV := l.map fun n => .i .i64 n
/-- a slice of numbers among the arguments -/
theorem AR.ints {H : Type} {enc : TypeId × Value → H} {P : Program} {W : World} {S : St} {β : Bt} {L : Lg} (h : AR W S β L) {t e : TypeId} {v : Value} {d : DataW H} {ps : List MemPlace} (ht : P.underlying t = some (.slice e)) (he : P.underlying e = some (.int .i64)) (hc : P.cellsOf e = 1)
    {base : Nat} (hval : Value.okWide P W .any base t v) (hd : DataW.Trod enc P W 0 (fun _ => true) true t v d ps) :
    ∃ (l : List Int) (S' : St) (β' : Bt) (L' : Lg) (a : AV), AR W S' β' L' ∧ Ext β β' ∧ Ext2 L L' ∧ VR β' a v ∧ ArgSl L' a (icl l) l.length 1 := by
  obtain ⟨a0, len, cap, rfl⟩ := Go.WideShapes.okWide_slice ht hval
  obtain ⟨fuel, hf⟩ := hd
  have hf : DataW.trod enc P W 0 (fun _ => true) true fuel t [.slice a0 len cap] = some (d, ps) := hf
  rcases Go.ChangeShapes.open_ints ht he hc hf with ⟨h0, _⟩ | ⟨a, len', cap', zs, h0, hb, hl, hm, hz, _, hcell, hw⟩
  · cases h0
    exact ⟨[], S, β, L, _, h, Ext.refl β, Ext2.refl L, .sln, by simp [icl], .inl ⟨rfl, rfl⟩⟩
  · cases h0
    have hok : Cell.ok P W .any base t (.slice (some a) len cap) := by
      simp only [Value.okWide, ht, Cell.okWide] at hval
      exact hval
    simp only [Cell.ok, ht] at hok
    obtain ⟨_, _, _, hsp, row, cells, hsh, _⟩ := hok
    obtain ⟨ab, aoff, asp⟩ := a
    simp only at hsp
    subst hsp
    have hsh' : ∃ cur t fr, W.heap[ab]? = some (.cells cur t fr) := by
      unfold World.shape? at hsh
      split at hsh
      · rename_i cur el fr hh; exact ⟨_, _, _, hh⟩
      · cases hsh
    obtain ⟨cur, tt, fr, hh⟩ := hsh'
    have hzl : zs.length = cap := by simpa using hz
    have hcr : CellsR β (icl (zs.take len)) aoff cur := by
      intro i x hx
      unfold icl at hx
      rw [List.getElem?_map] at hx
      simp only [Option.map_eq_some_iff] at hx
      obtain ⟨n, hn, rfl⟩ := hx
      have hi : i < zs.length := by
        have := (List.getElem?_eq_some_iff.1 hn).1
        simp at this; omega
      have := hcell i hi
      refine ⟨.int .i64 n, ?_, .i _ _⟩
      rw [Go.WideShapes.add_plain] at this
      simp only [World.cell?, hh, Option.isSome_none, Bool.false_eq_true, if_false] at this
      rw [this]
      have h5 : zs[i]? = some n := by
        rw [List.getElem?_take] at hn
        split at hn
        · exact hn
        · cases hn
      simp [List.getD, h5]
    have hlen : (zs.take len).length = len := by simp; omega
    refine ⟨zs.take len, _, _, _, .sl (some (S.nx, 0)) len cap 0, h.slice hh hcr, h.ext _, ?_, ?_, ?_⟩
    · exact (Ext2.refl L).put (h.mod.fresh (Nat.le_refl _)) _
    · exact .sl (b := ab) (o := aoff) (z := 0) (by simp [Bt.put]) hl (Nat.le_refl _) (fun _ => rfl) (fun h9 => absurd rfl h9) (.inr (by simp))
    · refine ⟨by simp [icl], .inr ⟨S.nx, cap, by rw [hlen], Lg.put_same _ _ _⟩⟩
end Go.AM

/- slices of numbers of one's own, with room behind them: Index, Clone. -/
set_option linter.unusedVariables false
set_option linter.unusedSimpArgs false
namespace Go.AM
variable {N : Nat → Nat} {F : Nat → Option AFn}
/-- a slice's value, its numbers, and the block it lies in -/
def KSl (v : AV) (l : List Int) (bo : Option Nat) (K : Lg) : Prop := match bo with
  | none => v = .sl none 0 0 0 ∧ l = []
  | some b => ∃ cap sp ex, v = .sl (some (b, 0)) l.length cap ex ∧ K b = some (.raw (.cells (icl l ++ sp))) ∧ l.length + sp.length = cap ∧ (ex = 0 ∨ ex = 1)
theorem icl_length (l : List Int) : (icl l).length = l.length := by simp [icl]
theorem icl_get (l : List Int) (sp : List AV) {i : Nat} (h : i < l.length) : (icl l ++ sp)[i]? = some (.i .i64 l[i]) := by
  rw [List.getElem?_append_left (by simpa [icl] using h)]
  simp [icl, h]
theorem KSl.len {v : AV} {l : List Int} {bo : Option Nat} {L : Lg} (h : KSl v l bo L) (M : Lg) (k : AV → Lg → Prop) : wpOp F .lenSl [v] M k = k (.i .i64 l.length) M := by
  cases bo with
  | none => obtain ⟨rfl, rfl⟩ := h; simp
  | some b => obtain ⟨cap, sp, ex, rfl, _⟩ := h; simp
theorem icl_one (l : List Int) : (icl l).all AV.one = true := by
  rw [List.all_eq_true]
  intro x hx
  simp only [icl, List.mem_map] at hx
  obtain ⟨n, _, rfl⟩ := hx
  rfl
theorem KSl.cells {b cap : Nat} {l : List Int} {sp : List AV} {K : Lg} (hb : K b = some (.raw (.cells (icl l ++ sp)))) : rdCellsL K (some (b, 0)) (l.length * 1) = some (icl l) := by
  have : l.length ≤ (icl l ++ sp).length := by rw [List.length_append, icl_length]; omega
  simp only [rdCellsL, hb, AB.read, cut, ble_nat, Nat.zero_add, Nat.mul_one, this, decide_true, cond_true, List.drop_zero]
  rw [← icl_length l, List.take_left]
theorem slcL {s r o len cap ex l : Nat} (h1 : l ≤ len) (h2 : len ≤ cap) (h4 : ex = 0 ∨ ex = s) : slcV s true false false [.sl (some (r, o)) len cap ex, .i .i64 (l : Int)] = some (.sl (some (r, o + l * s)) (len - l) (cap - l) ex) := by
  show (bif Nat.ble l len && Nat.ble len cap && Nat.ble cap cap && (Nat.beq ex 0 || Nat.beq ex s) then _ else _) = _
  have : (Nat.beq ex 0 || Nat.beq ex s) = true := by rcases h4 with rfl | rfl <;> simp [beq_nat]
  simp [ble_nat, h1, h2, this]
theorem splice_app (A X vs : List AV) : splice (A ++ X) A.length vs = A ++ vs ++ X.drop vs.length := by
  unfold splice
  rw [List.take_left, ← List.drop_drop, List.drop_left]
theorem icl_snoc (l : List Int) (x : Int) : icl (l ++ [x]) = icl l ++ [AV.i .i64 x] := by simp [icl]
/-- one is put behind -/
theorem KSl.push {K : Lg} {v : AV} {l : List Int} {bo : Option Nat} (h : KSl v l bo K) (hl : l.length ≤ 1000000) {x : Int} {src : Option (Nat × Nat)} {c e : Nat} (hr : rdCellsL K src (1 * 1) = some [.i .i64 x]) {k : AV → Lg → Prop}
    (hk : ∀ w q K', KSl w (l ++ [x]) (some q) K' → (bo = some q ∨ K q = none) → (∀ r, r ≠ q → bo ≠ some r → K' r = K r) → k w K') : appW 1 8 K k [v, .sl src 1 c e] := by
  cases bo with
  | none =>
    obtain ⟨rfl, rfl⟩ := h
    refine appW_grow (m := 1) hr (by simp) (by omega) (by omega) (old := []) (by simp [rdCellsL]) (by simp [goneL]; rfl) ?_
    intro b hb
    refine hk _ b _ ⟨1, [], 1, by simp, by simp [Lg.put_apply, icl], by simp, .inr rfl⟩ (.inr hb) ?_
    intro r hr _
    rw [Lg.put_ne _ _ _ hr]
  | some b =>
    obtain ⟨cap, sp, ex, rfl, hb, hc, he⟩ := h
    by_cases hcap : l.length + 1 ≤ cap
    · have hsp : ∃ y r, sp = y :: r := by
        cases sp with
        | nil => simp at hc; omega
        | cons y r => exact ⟨y, r, rfl⟩
      obtain ⟨y, r, rfl⟩ := hsp
      have hw : wrL K (b, 0 + l.length * 1) [.i .i64 x] = some (K.put b (.raw (.cells (icl (l ++ [x]) ++ r)))) := by
        have h1 : l.length + [AV.i .i64 x].length ≤ (icl l ++ y :: r).length := by simp [icl_length]
        have h2 := splice_app (icl l) (y :: r) [.i .i64 x]
        rw [icl_length] at h2
        simp only [wrL, hb, Nat.zero_add, Nat.mul_one, h1, h2, icl_snoc]
        simp
      refine appW_room (m := 1) hr (by simp) hcap (by omega) hw ?_
      refine hk _ b _ ⟨cap, r, ex, by simp, Lg.put_same _ _ _, by simp at hc ⊢; omega, he⟩ (.inl rfl) ?_
      intro q hq _
      rw [Lg.put_ne _ _ _ hq]
    · have hsp : sp = [] := List.length_eq_zero_iff.1 (by omega)
      subst hsp
      have hg : ∃ M, goneL K (some (b, 0)) ex 1 = some M ∧ (∀ r, r ≠ b → M r = K r) := by
        rcases he with rfl | rfl
        · exact ⟨K, by simp [goneL], fun _ _ => rfl⟩
        · exact ⟨K.del b, by simp [goneL, hb], fun r hr => by rw [Lg.del_apply, if_neg hr]⟩
      obtain ⟨M, hM, hMr⟩ := hg
      refine appW_grow (m := 1) hr (by simp) hcap (by omega) (KSl.cells (cap := cap) hb) hM ?_
      intro q hq
      refine hk _ q _ ⟨l.length + 1, [], 1, by simp, by simp [Lg.put_apply, icl_snoc], by simp, .inr rfl⟩ (.inr hq) ?_
      intro r hr hbr
      rw [Lg.put_ne _ _ _ hr]
      exact hMr r (fun h9 => hbr (by rw [h9]))
end Go.AM


/- chanq: signals: Signal, End. -/
set_option linter.unusedVariables false
set_option linter.unusedSimpArgs false
namespace Go.AM
variable {N : Nat → Nat} {F : Nat → Option AFn} {L : Lg}
/-- a slice of those who wake, as it may be read -/
def SlK (L : Lg) (s : AV) (ws : List Wk) : Prop := (ws = [] ∧ s = .sl none 0 0 0) ∨ ∃ b ex, s = .sl (some (b, 0)) ws.length ws.length ex ∧ L b = some (.raw (.cells (wkcells ws)))
theorem wkcells_append : ∀ (a b : List Wk), wkcells (a ++ b) = wkcells a ++ wkcells b
  | [], _ => rfl
  | w :: r, b => by simp [wkcells, wkcells_append r b]
theorem COpen.keep {c rg q1 q2 : Nat} {x : Ch} {K K' : Lg} (h : COpen L c x rg q1 q2 K) (e : ∀ r, (r = c ∨ r = rg ∨ r = q1 ∨ r = q2 ∨ L r ≠ (Option.none : Option LC)) → K' r = K r) : COpen L c x rg q1 q2 K' :=
  ⟨h.n1, h.n2, h.n3, h.n4, h.n5, h.n6, by rw [e c (.inl rfl)]; exact h.root, by rw [e rg (.inr (.inl rfl))]; exact h.ring, by rw [e q1 (.inr (.inr (.inl rfl)))]; exact h.rcv, by rw [e q2 (.inr (.inr (.inr (.inl rfl))))]; exact h.snd,
    fun b d h1 h2 h3 h4 hd => by rw [e b (.inr (.inr (.inr (.inr (by rw [hd]; simp)))))]; exact h.old b d h1 h2 h3 h4 hd, h.f1, h.f2, h.f3⟩
section
variable {c rg q1 q2 : Nat} {x : Ch} {K : Lg} {Q : AV → Lg → Prop}
/-- a slice of wakes of one's own, apart from a channel and from what was -/
structure EI (L : Lg) (c rg q1 q2 : Nat) (x : Ch) (acc : List Wk) (v : AV) (K : Lg) : Prop where
  op : COpen L c x rg q1 q2 K
  own : OwnSl K v (wkcells acc) acc.length 5
  ap : ∀ b, slB v = some b → b ≠ c ∧ b ≠ rg ∧ b ≠ q1 ∧ b ≠ q2 ∧ L b = Option.none
theorem EI.junk {acc : List Wk} {v : AV} (h : EI L c rg q1 q2 x acc v K) {a : Nat} (ha : K a = Option.none) (z : LC) : EI L c rg q1 q2 x acc v (K.put a z) := by
  refine ⟨h.op.ext ((Ext2.refl _).put ha _), ?_, h.ap⟩
  rcases h.own with h1 | ⟨b, h1, h2, h3, h4⟩
  · exact .inl h1
  · have hn : b ≠ a := by
      rintro rfl
      rw [ha] at h3; cases h3
    exact .inr ⟨b, h1, h2, by rw [Lg.put_ne _ _ _ hn]; exact h3, h4⟩
theorem EI.push {acc : List Wk} {v : AV} (h : EI L c rg q1 q2 x acc v K) {w : Wk} {src : AV} {b1 : Nat} {ex cp : Nat} (hs : src = .sl (some (b1, 0)) 1 cp ex) (hb : K b1 = some (.raw (.cells w.cells))) (hn : acc.length ≤ 1000000) {k : AV → Lg → Prop}
    (hk : ∀ v' K', EI L c rg q1 q2 x (acc ++ [w]) v' K' → (∀ r d, K r = some d → slB v ≠ some r → K' r = some d) → (∀ b, slB v' = some b → K b = none) → k v' K') : appW 5 32 K k [v, src] := by
  have h1 : w.cells.all AV.one = true := by simp [Wk.cells]
  refine h.own.app (m := 1) (by omega) hs (by omega) (new := w.cells) (by simp [rdCellsL, hb, AB.read, cut, ble_nat, Wk.cells]) (by simp [Wk.cells]) h1 (by omega) ?_
  intro b2 hb2
  have hd : ∀ r d, K r = some d → slB v ≠ some r → ((K.delO (slB v)).put b2 (.raw (.cells (wkcells acc ++ w.cells)))) r = some d := by
    intro r d hr hne
    have n2 : r ≠ b2 := by rintro rfl; rw [hb2] at hr; cases hr
    rw [Lg.put_ne _ _ _ n2]
    cases hh : slB v with
    | none => exact hr
    | some b => rw [hh] at hne; simp only [Lg.delO]; rw [Lg.del_apply, if_neg]; exact hr; intro h9; exact hne (by rw [h9])
  have hkeep : ∀ r, (r = c ∨ r = rg ∨ r = q1 ∨ r = q2 ∨ L r ≠ (Option.none : Option LC)) → ((K.delO (slB v)).put b2 (.raw (.cells (wkcells acc ++ w.cells)))) r = K r := by
    intro r hr
    have hne : slB v ≠ some r := by
      intro h9
      have := h.ap r h9
      rcases hr with h8 | h8 | h8 | h8 | h8
      · exact this.1 h8
      · exact this.2.1 h8
      · exact this.2.2.1 h8
      · exact this.2.2.2.1 h8
      · exact h8 this.2.2.2.2
    have hex : ∃ d, K r = some d := by
      rcases hr with rfl | rfl | rfl | rfl | h8
      · exact ⟨_, h.op.root⟩
      · exact ⟨_, h.op.ring⟩
      · exact ⟨_, h.op.rcv⟩
      · exact ⟨_, h.op.snd⟩
      · cases hL : L r with
        | none => exact absurd hL h8
        | some d =>
          by_cases e1 : r = c
          · subst e1; exact ⟨_, h.op.root⟩
          by_cases e2 : r = rg
          · subst e2; exact ⟨_, h.op.ring⟩
          by_cases e3 : r = q1
          · subst e3; exact ⟨_, h.op.rcv⟩
          by_cases e4 : r = q2
          · subst e4; exact ⟨_, h.op.snd⟩
          exact ⟨d, h.op.old r d e1 e2 e3 e4 hL⟩
    obtain ⟨d, hd1⟩ := hex
    rw [hd1]; exact hd r d hd1 hne
  have hw : wkcells acc ++ w.cells = wkcells (acc ++ [w]) := by rw [wkcells_append]; simp [wkcells]
  refine hk _ _ ⟨h.op.keep hkeep, ?_, ?_⟩ hd (fun b h9 => by simp [slB] at h9; subst h9; exact hb2)
  · have := h.own.of_app (m := 1) (b := b2) (new := w.cells) (by omega) (by simp [Wk.cells])
    rw [hw] at this
    rw [hw]
    simpa using this
  · intro b hb'
    simp [slB] at hb'
    subst hb'
    have nk : ∀ {y : Nat} {k : LC}, K y = some k → b2 ≠ y := fun hx hxr => by rw [← hxr, hb2] at hx; cases hx
    exact ⟨nk h.op.root, nk h.op.ring, nk h.op.rcv, nk h.op.snd, (h.op.none hb2).2⟩
end
end Go.AM


/- a row's arguments: slices of structs of scalars. -/
set_option linter.unusedVariables false
namespace Go.AM
open Go.RowKit
theorem flat_get {X : Type} {f : X → List AV} {z : Nat} : ∀ (l : List X), (∀ x ∈ l, (f x).length = z) → ∀ (k : Nat) (v : AV), (l.flatMap f)[k]? = some v → ∃ i j x, l[i]? = some x ∧ (f x)[j]? = some v ∧ k = i * z + j
  | [], _, k, v, h => by simp at h
  | y :: r, hz, k, v, h => by
    have hy := hz y (by simp)
    rw [List.flatMap_cons] at h
    by_cases hk : k < z
    · rw [List.getElem?_append_left (by omega)] at h
      exact ⟨0, k, y, rfl, h, by omega⟩
    · rw [List.getElem?_append_right (by omega), hy] at h
      obtain ⟨i, j, x, h1, h2, h3⟩ := flat_get r (fun x hx => hz x (by simp [hx])) (k - z) v h
      exact ⟨i + 1, j, x, by simpa using h1, h2, by rw [Nat.add_mul]; omega⟩
theorem flat_len {X : Type} {f : X → List AV} {z : Nat} : ∀ (l : List X), (∀ x ∈ l, (f x).length = z) → (l.flatMap f).length = l.length * z
  | [], _ => by simp
  | y :: r, hz => by
    rw [List.flatMap_cons, List.length_append, hz y (by simp), flat_len r (fun x hx => hz x (by simp [hx])), List.length_cons, Nat.add_mul]
    omega
/-- a slice of what is open by f -/
theorem AR.rows {X : Type} [Inhabited X] (f : X → List AV) {z : Nat} {H : Type} {enc : TypeId × Value → H} {P : Program} {W : World} {S : St} {β : Bt} {L : Lg} (h : AR W S β L) {t e : TypeId} {v : Value} {d : DataW H} {ps : List MemPlace} (ht : P.underlying t = some (.slice e)) (hc : P.cellsOf e = z) (hfz : ∀ x, (f x).length = z)
    (hX : ∀ n cs y, DataW.trod enc P W 0 (fun _ => true) true n e cs = some y → ∃ x, VRs (fun _ => none) (f x) cs) {base : Nat} (hval : Value.okWide P W .any base t v) (hd : DataW.Trod enc P W 0 (fun _ => true) true t v d ps) :
    ∃ (l : List X) (S' : St) (β' : Bt) (L' : Lg) (a : AV), AR W S' β' L' ∧ Ext β β' ∧ Ext2 L L' ∧ VR β' a v ∧ ArgSl L' a (l.flatMap f) l.length z := by
  obtain ⟨a0, len, cap, rfl⟩ := Go.WideShapes.okWide_slice ht hval
  obtain ⟨fuel, hf⟩ := hd
  have hf : DataW.trod enc P W 0 (fun _ => true) true fuel t [.slice a0 len cap] = some (d, ps) := hf
  rcases DataW.trod_slice ht hf with ⟨h0, _⟩ | ⟨a, len', cap', elems, rest, n, _, h0, _, hb, hl, hm, hlen, hel, _, _⟩
  · cases h0
    exact ⟨[], S, β, L, _, h, Ext.refl β, Ext2.refl L, .sln, by simp, .inl ⟨rfl, rfl⟩⟩
  · cases h0
    have hok : Cell.ok P W .any base t (.slice (some a) len cap) := by
      simp only [Value.okWide, ht, Cell.okWide] at hval
      exact hval
    simp only [Cell.ok, ht] at hok
    obtain ⟨_, _, _, hsp, row, cells, hsh, _⟩ := hok
    obtain ⟨ab, aoff, asp⟩ := a
    simp only at hsp
    subst hsp
    have hsh' : ∃ cur t fr, W.heap[ab]? = some (.cells cur t fr) := by
      unfold World.shape? at hsh
      split at hsh
      · rename_i cur el fr hh; exact ⟨_, _, _, hh⟩
      · cases hsh
    obtain ⟨cur, tt, fr, hh⟩ := hsh'
    have hx : ∀ i, ∃ x : X, i < len → ∀ (j : Nat) (u : AV), (f x)[j]? = some u → ∃ w, cur[aoff + (i * z + j)]? = some w ∧ VR (fun _ => none) u w := by
      intro i
      by_cases hi : i < len
      · have h1 := hel i hi
        have h2 : ∃ y, elems[i]? = some y := ⟨_, List.getElem?_eq_getElem (by omega)⟩
        obtain ⟨y, hy⟩ := h2
        rw [hy, Option.bind_eq_some_iff] at h1
        obtain ⟨cs, hcs, hty⟩ := h1
        obtain ⟨x, hxv⟩ := hX _ _ _ hty
        refine ⟨x, fun _ j u hu => ?_⟩
        obtain ⟨w, hw, hr⟩ := hxv.get hu
        refine ⟨w, ?_, hr⟩
        unfold World.cells? at hcs
        rw [if_pos (by omega)] at hcs
        have hjz : j < z := by have := (List.getElem?_eq_some_iff.1 hu).1; rw [hfz] at this; exact this
        have := mapM_some_get hcs j j (by simp [hc, hjz])
        rw [hw, hc, Go.WideShapes.add_plain, Go.WideShapes.add_plain] at this
        simp only [World.cell?, hh, Option.isSome_none, Bool.false_eq_true, if_false] at this
        rw [← this, Nat.add_assoc]
      · exact ⟨default, fun h9 => absurd h9 hi⟩
    obtain ⟨g, hg⟩ := Classical.axiomOfChoice hx
    have hall : ∀ x ∈ (List.range len).map g, (f x).length = z := fun x _ => hfz x
    have hcr : CellsR β (((List.range len).map g).flatMap f) aoff cur := by
      intro k u hu
      obtain ⟨i, j, x, h1, h2, h3⟩ := flat_get _ hall k u hu
      rw [List.getElem?_map] at h1
      simp only [Option.map_eq_some_iff] at h1
      obtain ⟨i', h4, h5⟩ := h1
      have hi : i < len ∧ i' = i := by
        have h6 := List.getElem?_eq_some_iff.1 h4
        obtain ⟨h7, h8⟩ := h6
        simp at h7 h8
        exact ⟨h7, h8.symm⟩
      obtain ⟨hi, rfl⟩ := hi
      subst h5
      obtain ⟨w, hw, hr⟩ := hg i' hi j u h2
      rw [h3]
      exact ⟨w, hw, hr.mono (fun _ _ h9 => by cases h9)⟩
    have hlen2 : ((List.range len).map g).length = len := by simp
    refine ⟨(List.range len).map g, _, _, _, .sl (some (S.nx, 0)) len cap 0, h.slice hh hcr, h.ext _, ?_, ?_, ?_⟩
    · exact (Ext2.refl L).put (h.mod.fresh (Nat.le_refl _)) _
    · exact .sl (b := ab) (o := aoff) (z := 0) (by simp [Bt.put]) hl (Nat.le_refl _) (fun _ => rfl) (fun h9 => absurd rfl h9) (.inr (by simp))
    · exact ⟨flat_len _ hall, .inr ⟨S.nx, cap, by rw [hlen2], Lg.put_same _ _ _⟩⟩
/-- a struct of three numbers -/
def t3 (x : Int × Int × Int) : List AV := [.i .i64 x.1, .i .i64 x.2.1, .i .i64 x.2.2]
def tcl (l : List (Int × Int × Int)) : List AV := l.flatMap t3
theorem open_t3 {H : Type} {enc : TypeId × Value → H} {P : Program} {W : World} {e ti : TypeId} {fs : Array Field} (he : P.underlying e = some (.struct fs)) (h3 : fs.size = 3) (hfs : ∀ (i : Nat) (f : Field), fs[i]? = some f → f.offset = i ∧ f.type = ti) (hi : P.underlying ti = some (.int .i64)) (hc1 : P.cellsOf ti = 1) (hc3 : P.cellsOf e = 3)
    (n : Nat) (cs : List Value) (y : DataW H × List MemPlace) (h : DataW.trod enc P W 0 (fun _ => true) true n e cs = some y) : ∃ x, VRs (fun _ => none) (t3 x) cs := by
  obtain ⟨xs, m, _, _, hl, hxl, hf⟩ := DataW.trod_struct he h
  rw [hc3] at hl
  match cs, hl with
  | [c0, c1, c2], _ =>
    have one : ∀ i, i < 3 → ∃ k, ([c0, c1, c2].drop i).take 1 = [.int .i64 k] := by
      intro i hi3
      have h5 : ∃ f, fs[i]? = some f := ⟨_, Array.getElem?_eq_getElem (by omega)⟩
      obtain ⟨f, hfi⟩ := h5
      have h6 := hf i f hfi
      obtain ⟨o1, o2⟩ := hfs i f hfi
      rw [o1, o2, hc1] at h6
      have h7 : ∃ y, xs[i]? = some y := ⟨_, List.getElem?_eq_getElem (by omega)⟩
      obtain ⟨y', hy'⟩ := h7
      rw [hy'] at h6
      obtain ⟨k, hk, _⟩ := DataW.trod_int hi h6
      exact ⟨k, hk⟩
    obtain ⟨k0, e0⟩ := one 0 (by omega)
    obtain ⟨k1, e1⟩ := one 1 (by omega)
    obtain ⟨k2, e2⟩ := one 2 (by omega)
    simp at e0 e1 e2
    subst e0 e1 e2
    exact ⟨(k0, k1, k2), .cons (.i _ _) (.cons (.i _ _) (.cons (.i _ _) .nil))⟩
theorem AR.acts {H : Type} {enc : TypeId × Value → H} {P : Program} {W : World} {S : St} {β : Bt} {L : Lg} (h : AR W S β L) {t e ti : TypeId} {fs : Array Field} {v : Value} {d : DataW H} {ps : List MemPlace} (ht : P.underlying t = some (.slice e)) (he : P.underlying e = some (.struct fs)) (h3 : fs.size = 3) (hfs : ∀ (i : Nat) (f : Field), fs[i]? = some f → f.offset = i ∧ f.type = ti)
    (hi : P.underlying ti = some (.int .i64)) (hc1 : P.cellsOf ti = 1) (hc3 : P.cellsOf e = 3) {base : Nat} (hval : Value.okWide P W .any base t v) (hd : DataW.Trod enc P W 0 (fun _ => true) true t v d ps) :
    ∃ (l : List (Int × Int × Int)) (S' : St) (β' : Bt) (L' : Lg) (a : AV), AR W S' β' L' ∧ Ext β β' ∧ Ext2 L L' ∧ VR β' a v ∧ ArgSl L' a (tcl l) l.length 3 :=
  h.rows t3 ht hc3 (fun x => rfl) (fun n cs y hy => open_t3 he h3 hfs hi hc1 hc3 n cs y hy) hval hd
def bcl (l : List Bool) : List AV := l.map fun n => .b n
theorem bcl_flat (l : List Bool) : (l.flatMap fun b => [AV.b b]) = bcl l := by
  induction l with
  | nil => rfl
  | cons a r ih => simp only [List.flatMap_cons, ih, bcl, List.map_cons]; rfl
/-- a slice of truths among the arguments -/
theorem AR.bools {H : Type} {enc : TypeId × Value → H} {P : Program} {W : World} {S : St} {β : Bt} {L : Lg} (h : AR W S β L) {t e : TypeId} {v : Value} {d : DataW H} {ps : List MemPlace} (ht : P.underlying t = some (.slice e)) (he : P.underlying e = some .bool) (hc : P.cellsOf e = 1)
    {base : Nat} (hval : Value.okWide P W .any base t v) (hd : DataW.Trod enc P W 0 (fun _ => true) true t v d ps) :
    ∃ (l : List Bool) (S' : St) (β' : Bt) (L' : Lg) (a : AV), AR W S' β' L' ∧ Ext β β' ∧ Ext2 L L' ∧ VR β' a v ∧ ArgSl L' a (bcl l) l.length 1 := by
  obtain ⟨l, S', β', L', a, h1, h2, h3, h4, h5⟩ := h.rows (fun b : Bool => [AV.b b]) ht hc (fun _ => rfl) (fun n cs y hy => by
    obtain ⟨b', hb, _⟩ := DataW.trod_bool he hy
    subst hb
    exact ⟨b', .cons (.b _) .nil⟩) hval hd
  rw [bcl_flat] at h5
  exact ⟨l, S', β', L', a, h1, h2, h3, h4, h5⟩
end Go.AM

/- Things, opened: what is hidden at a name lies over all else. -/
set_option linter.unusedVariables false
set_option linter.unusedSimpArgs false
namespace Go.AM
section
variable {M L : Lg} {r b : Nat} {d : LC}
theorem over_put (M L : Lg) (b : Nat) (d : LC) : (M.over L).put b d = (M.put b d).over L := by
  funext m; unfold Lg.put Lg.over; by_cases h : m = b <;> simp [h]
theorem over_putL (h : M b = none) (d : LC) : (M.over L).put b d = M.over (L.put b d) := by
  funext m; unfold Lg.put Lg.over; by_cases hm : m = b
  · subst hm; simp [h]
  · simp [hm]
theorem over_some (h : M b = some d) : (M.over L) b = some d := by simp [Lg.over, h]
theorem over_skip (h : M b = none) : (M.over L) b = L b := by simp [Lg.over, h]
theorem over_none : (M.over L) b = none ↔ M b = none ∧ L b = none := by
  unfold Lg.over; cases h : M b <;> simp
theorem over_delO (hL : L b = none) : (M.over L).del b = (M.del b).over L := by
  funext m; unfold Lg.del Lg.over; by_cases h : m = b
  · subst h; simp [hL]
  · simp [h]
theorem over_delL (hM : M b = none) : (M.over L).del b = M.over (L.del b) := by
  funext m; unfold Lg.del Lg.over; by_cases h : m = b
  · subst h; simp [hM]
  · simp [h]
/-- what lies over is not below, but for its root -/
def Apart (M L : Lg) (r : Nat) : Prop := ∀ b, b ≠ r → M b ≠ none → L b = none
theorem Apart.low (h : Apart M L r) (hb : b ≠ r) (e : L b = some d) : M b = none := by
  cases h1 : M b with
  | none => rfl
  | some c => have := h b hb (by rw [h1]; simp); rw [e] at this; cases this
theorem Apart.get (h : Apart M L r) (hb : b ≠ r) (e : L b = some d) : (M.over L) b = some d := by rw [over_skip (h.low hb e)]; exact e
theorem Apart.putL (h : Apart M L r) (hb : M b = none) (d : LC) : Apart M (L.put b d) r := by
  intro c hc hM
  have : c ≠ b := by rintro rfl; exact hM hb
  rw [Lg.put_ne _ _ _ this]; exact h c hc hM
theorem Apart.put (h : Apart M L r) (hb : b = r ∨ L b = none) (d : LC) : Apart (M.put b d) L r := by
  intro c hc hM
  by_cases e : c = b
  · subst e; rcases hb with h1 | h1
    · exact absurd h1 hc
    · exact h1
  · rw [Lg.put_ne _ _ _ e] at hM; exact h c hc hM
theorem Apart.own (h : Apart M L r) (hb : M b ≠ none) (d : LC) : Apart (M.put b d) L r := h.put (by by_cases e : b = r; exact .inl e; exact .inr (h b e hb)) d
theorem Apart.del (h : Apart M L r) (b : Nat) : Apart (M.del b) L r := by
  intro c hc hM
  rw [Lg.del_apply] at hM
  split at hM
  · exact absurd rfl hM
  · exact h c hc hM
theorem Apart.mono {L' : Lg} (h : Apart M L r) (hl : ∀ b, b ≠ r → M b ≠ none → L b = none → L' b = none) : Apart M L' r := fun c hc hM => hl c hc hM (h c hc hM)
def Thing (D : Lg → Prop) (hp : Hp) : Prop := ∃ M, D M ∧ Sat M hp
theorem CallL.openD {F : Nat → Option AFn} {f : Nat} {vs : List AV} {Q : AV → Lg → Prop} {D : Lg → Prop} (e : L r = some (.abs (Thing D))) (hr : ∀ M, D M → M r ≠ none)
    (H : ∀ M, D M → Apart M L r → CallL F f vs (M.over L) Q) : CallL F f vs L Q := by
  apply CallL.opens e
  rintro hm ⟨M, hD, hs⟩
  refine ⟨M, hs, hr M hD, fun hf => H M hD ?_⟩
  intro c hc hM
  cases h1 : M c with
  | none => exact absurd h1 hM
  | some x => exact hf c x h1 hc
theorem Sees.shutD {D : Lg → Prop} (hD : D M) (hr : ∃ cs, M r = some (.raw (.cells cs))) (ha : Apart M L r) : Sees (M.over L) (L.put r (.abs (Thing D))) :=
  Sees.shut (fun b c h hb => ha b hb (by rw [h]; simp)) (.inl hr) fun h hs => ⟨M, hD, hs⟩
theorem Sees.backD {D : Lg → Prop} (hD : D M) (hr : ∃ cs, M r = some (.raw (.cells cs))) (ha : Apart M L r) (e : L r = some (.abs (Thing D))) : Sees (M.over L) L := by
  have := Sees.shutD hD hr ha
  rwa [Lg.put_self L r _ e] at this
/-- another's block is let go -/
theorem Sees.junk {M L : Lg} (hb : L b = none) (d : LC) : Sees (M.over (L.put b d)) (M.over L) := by
  apply Sees.drop
  intro c e hc
  cases h1 : M c with
  | some x => rw [over_some h1] at hc ⊢; exact hc
  | none =>
    rw [over_skip h1] at hc ⊢
    rw [Lg.put_ne _ _ _ (by rintro rfl; rw [hb] at hc; cases hc)]; exact hc
theorem Sees.put {L L' : Lg} (h : ∀ b c, L' b = some c → L b = some c) (r : Nat) (d : LC) : Sees (L.put r d) (L'.put r d) := by
  apply Sees.drop
  intro c e hc
  rw [Lg.put_apply] at hc ⊢
  split
  · rename_i h9; rw [if_pos h9] at hc; exact hc
  · rename_i h9; rw [if_neg h9] at hc; exact h c e hc
end
/-! ### slices of one's own -/
/-- a slice of its own block, full, as it may be read and appended to -/
def OSl (K : Lg) (v : AV) (cs : List AV) (n size : Nat) : Prop :=
  (n = 0 ∧ cs = [] ∧ v = .sl none 0 0 0) ∨ ∃ b ex, 0 < n ∧ v = .sl (some (b, 0)) n n ex ∧ (ex = 0 ∨ ex = size) ∧ K b = some (.raw (.cells cs)) ∧ cs.length = n * size
section
variable {K K' : Lg} {v : AV} {cs : List AV} {n size : Nat}
theorem OSl.nil (K : Lg) (size : Nat) : OSl K (.sl none 0 0 0) [] 0 size := .inl ⟨rfl, rfl, rfl⟩
theorem OSl.mono (h : OSl K v cs n size) (e : ∀ b, slB v = some b → K' b = K b) : OSl K' v cs n size := by
  rcases h with h | ⟨b, ex, h1, h2, h3, h4, h5⟩
  · exact .inl h
  · exact .inr ⟨b, ex, h1, h2, h3, by rw [e b (by rw [h2]; rfl)]; exact h4, h5⟩
theorem OSl.block (h : OSl K v cs n size) {b : Nat} (e : slB v = some b) : K b = some (.raw (.cells cs)) := by
  rcases h with ⟨_, _, h3⟩ | ⟨b', ex, h1, h2, h3, h4, h5⟩
  · rw [h3] at e; cases e
  · rw [h2] at e; simp [slB] at e; subst e; exact h4
theorem OSl.len {F : Nat → Option AFn} (h : OSl K v cs n size) (L : Lg) (k : AV → Lg → Prop) : wpOp F .lenSl [v] L k = k (.i .i64 n) L := by
  rcases h with ⟨h1, _, h3⟩ | ⟨b', ex, h1, h2, h3, h4, h5⟩
  · rw [h3, h1]; simp
  · rw [h2]; simp
theorem OSl.iad {F : Nat → Option AFn} (h : OSl K v cs n size) {x : Int} (h0 : 0 ≤ x) (h1 : x < n) : ∃ b, slB v = some b ∧ K b = some (.raw (.cells cs)) ∧ cs.length = n * size ∧ ∀ (L : Lg) (k : AV → Lg → Prop) (j : IntKind), wpOp F (.iad size) [v, .i j x] L k = k (.p (some (b, x.toNat * size))) L := by
  rcases h with ⟨e1, _, h3⟩ | ⟨b', ex, g1, g2, g3, g4, g5⟩
  · omega
  · refine ⟨b', by rw [g2]; rfl, g4, g5, fun L k j => ?_⟩
    rw [g2, wp_iad F L k size b' 0 n n ex j x h0 h1]
    simp
theorem OSl.one (h : OSl K v cs n size) : v.one = true := by
  rcases h with ⟨_, _, h3⟩ | ⟨b', ex, g1, g2, g3, g4, g5⟩
  · rw [h3]; rfl
  · rw [g2]; rfl
theorem OSl.cellsOf (h : OSl K v cs n size) : v.cellsOf = some [v] := by
  rcases h with ⟨_, _, h3⟩ | ⟨b', ex, g1, g2, g3, g4, g5⟩
  · rw [h3]; rfl
  · rw [g2]; rfl
theorem OSl.rdAll (h : OSl K v cs n size) : ∃ a ex, v = .sl a n n ex ∧ rdCellsL K a (n * size) = some cs ∧ (n = 0 → ex = 0) := by
  rcases h with ⟨h1, h2, h3⟩ | ⟨b', ex, g1, g2, g3, g4, g5⟩
  · exact ⟨none, 0, by rw [h3, h1], by simp [rdCellsL, h1, h2], fun _ => rfl⟩
  · refine ⟨_, ex, g2, ?_, fun h => by omega⟩
    simp only [rdCellsL, g4, AB.read, cut, ble_nat, Nat.zero_add, g5, Nat.le_refl, decide_true, cond_true, List.drop_zero]
    rw [← g5, List.take_length]
/-- K1 is K, but that a slice's block may be gone and another has come -/
structure Grown (K : Lg) (v : AV) (b : Nat) (cs : List AV) (K1 : Lg) : Prop where
  fresh : K b = none
  now : K1 b = some (.raw (.cells cs))
  same : ∀ r, r ≠ b → slB v ≠ some r → K1 r = K r
  gone : ∀ r, r ≠ b → K1 r = none ∨ K1 r = K r
/-- a slice is appended to: it has another block then -/
theorem OSl.app {bytes m : Nat} {src : AV} {new : List AV} (h : OSl K v cs n size) (hsz : 0 < size) {a : Option (Nat × Nat)} {c e : Nat} (hs : src = .sl a m c e) (hm : 0 < m) (hr : rdCellsL K a (m * size) = some new) (hn : new.length = m * size) (h1 : new.all AV.one = true)
    (hb : (n + m) * bytes ≤ 70368744177664) {k : AV → Lg → Prop} (hk : ∀ b K1, Grown K v b (cs ++ new) K1 → OSl K1 (.sl (some (b, 0)) (n + m) (n + m) size) (cs ++ new) (n + m) size → k (.sl (some (b, 0)) (n + m) (n + m) size) K1) : appW size bytes K k [v, src] := by
  subst hs
  obtain ⟨av, ex, hv, hrd, hz⟩ := h.rdAll
  have hlen : cs.length = n * size := by
    rcases h with ⟨h1, h2, h3⟩ | ⟨b', ex, g1, g2, g3, g4, g5⟩
    · simp [h1, h2]
    · exact g5
  have key : ∀ K1 : Lg, (K1 = K ∨ ∃ q, slB v = some q ∧ K1 = K.del q) → goneL K av ex size = some K1 → appW size bytes K k [v, .sl a m c e] := by
    intro K1 hK1 hg
    rw [hv]
    refine appW_grow (L' := K1) hr h1 (by omega) hb hrd hg ?_
    intro b hbn
    refine hk b _ ⟨hbn, Lg.put_same _ _ _, ?_, ?_⟩ (.inr ⟨b, size, by omega, rfl, .inr rfl, Lg.put_same _ _ _, by simp [hlen, hn, Nat.add_mul]⟩)
    · intro r hr hq
      rw [Lg.put_ne _ _ _ hr]
      rcases hK1 with rfl | ⟨q, hq1, rfl⟩
      · rfl
      · rw [Lg.del_apply, if_neg]; rintro rfl; exact hq hq1
    · intro r hr
      rw [Lg.put_ne _ _ _ hr]
      rcases hK1 with rfl | ⟨q, hq1, rfl⟩
      · exact .inr rfl
      · rw [Lg.del_apply]; split
        · exact .inl rfl
        · exact .inr rfl
  rcases h with ⟨h1, h2, h3⟩ | ⟨b', ex', g1, g2, g3, g4, g5⟩
  · have : ex = 0 := hz h1
    exact key K (.inl rfl) (by rw [this]; simp [goneL])
  · have hv2 := hv
    rw [g2] at hv2
    cases hv2
    rcases g3 with g3 | g3
    · exact key K (.inl rfl) (by simp [goneL, g3])
    · refine key (K.del b') (.inr ⟨b', by rw [g2]; rfl, rfl⟩) ?_
      have : ¬ size = 0 := by omega
      simp [goneL, this, g4, g3]
theorem OSl.app0 {bytes : Nat} {src : AV} (h : OSl K v cs n size) {a : Option (Nat × Nat)} {c e : Nat} (hs : src = .sl a 0 c e) (hr : rdCellsL K a 0 = some []) {k : AV → Lg → Prop} (hk : k v K) : appW size bytes K k [v, src] := by
  subst hs
  rcases h with ⟨h1, h2, h3⟩ | ⟨b', ex', g1, g2, g3, g4, g5⟩
  · rw [h3]; rw [h3] at hk
    simp only [appW, Nat.zero_mul, hr, appL]
    simpa using hk
  · rw [g2]; rw [g2] at hk
    simp only [appW, Nat.zero_mul, hr, appL]
    simpa using hk
end
/-- the cells of structs in a row -/
def flatc {α : Type} (f : α → List AV) : List α → List AV
  | [] => []
  | x :: r => f x ++ flatc f r
section
variable {α : Type} {f : α → List AV} {k : Nat}
theorem flatc_append : ∀ (a b : List α), flatc f (a ++ b) = flatc f a ++ flatc f b
  | [], _ => rfl
  | x :: r, b => by simp [flatc, flatc_append r b]
theorem flatc_length (hf : ∀ x, (f x).length = k) : ∀ (a : List α), (flatc f a).length = a.length * k
  | [] => by simp [flatc]
  | x :: r => by
    simp only [flatc, List.length_append, hf, flatc_length hf r, List.length_cons, Nat.add_mul, Nat.one_mul]; omega
theorem flatc_one (h1 : ∀ x, (f x).all AV.one = true) : ∀ (a : List α), (flatc f a).all AV.one = true
  | [] => rfl
  | x :: r => by simp [flatc, List.all_append, h1, flatc_one h1 r]
theorem flatc_at (hf : ∀ x, (f x).length = k) : ∀ (l : List α) (i : Nat) (x : α), l[i]? = some x → ((flatc f l).drop (i * k)).take k = f x ∧ i * k + k ≤ (flatc f l).length
  | [], i, x, h => by simp at h
  | a :: r, 0, x, h => by
    simp at h; subst h
    have := hf a
    simp only [flatc, Nat.zero_mul, List.drop_zero, List.length_append, this, Nat.zero_add]
    exact ⟨by rw [← this, List.take_left], by omega⟩
  | a :: r, i + 1, x, h => by
    have := flatc_at hf r i x (by simpa using h)
    have e : (i + 1) * k = (f a).length + i * k := by rw [hf, Nat.add_mul]; omega
    rw [e]
    simp only [flatc, List.length_append]
    rw [← List.drop_drop, List.drop_left]
    exact ⟨this.1, by omega⟩
theorem flatc_get (hf : ∀ x, (f x).length = k) (l : List α) (i j : Nat) (x : α) (h : l[i]? = some x) (hj : j < k) : (flatc f l)[i * k + j]? = (f x)[j]? := by
  have h1 := flatc_at hf l i x h
  rw [← h1.1, List.getElem?_take_of_lt hj, List.getElem?_drop]
theorem flatc_setc (hf : ∀ x, (f x).length = k) : ∀ (l : List α) (i : Nat) (x y : α) (j : Nat) (v : AV), l[i]? = some x → j < k → (f x).set j v = f y → (flatc f l).set (i * k + j) v = flatc f (l.set i y)
  | [], i, x, y, j, v, h, _, _ => by simp at h
  | a :: r, 0, x, y, j, v, h, hj, e => by
    simp at h; subst h
    have := hf a
    simp only [flatc, Nat.zero_mul, Nat.zero_add, List.set_cons_zero]
    rw [List.set_append_left _ _ (by omega), e]
  | a :: r, i + 1, x, y, j, v, h, hj, e => by
    have := flatc_setc hf r i x y j v (by simpa using h) hj e
    have e2 : (i + 1) * k + j = (f a).length + (i * k + j) := by rw [hf, Nat.add_mul]; omega
    rw [e2]
    simp only [flatc, List.set_cons_succ]
    rw [List.set_append_right _ _ (by omega), Nat.add_sub_cancel_left, this]
end
end Go.AM

/- chanq: end, End, Closed: a channel is closed, and all wake. -/
set_option linter.unusedVariables false
set_option linter.unusedSimpArgs false
namespace Go.AM
variable {N : Nat → Nat} {F : Nat → Option AFn}
def wakeP (p : Bool) (acc : List Wk) (w : Wt) : List Wk := if (acc.any fun y => decide (y.t = w.t)) = true then acc else acc ++ [⟨w.t, w.c, 0, false, p⟩]
def Ch.wakes (x : Ch) : List Wk := x.sends.foldl (wakeP true) (x.recvs.foldl (wakeP false) [])
def Ch.ended (x : Ch) : Ch := { x with recvs := [], sends := [], closed := true }
section
variable {L K : Lg} {c rg q1 q2 : Nat} {x : Ch} {Q : AV → Lg → Prop}
theorem EI.keep {acc : List Wk} {v : AV} (h : EI L c rg q1 q2 x acc v K) {K' : Lg} (e : ∀ r, (r = c ∨ r = rg ∨ r = q1 ∨ r = q2 ∨ L r ≠ (Option.none : Option LC) ∨ slB v = some r) → K' r = K r) : EI L c rg q1 q2 x acc v K' := by
  refine ⟨h.op.keep fun r hr => e r (by rcases hr with h | h | h | h | h <;> simp [h]), ?_, h.ap⟩
  rcases h.own with h1 | ⟨b, h1, h2, h3, h4⟩
  · exact .inl h1
  · exact .inr ⟨b, h1, h2, by rw [e b (by simp [h2, slB])]; exact h3, h4⟩
end
end Go.AM


/- chanq: end's loops. -/
set_option linter.unusedVariables false
set_option linter.unusedSimpArgs false
namespace Go.AM
variable {N : Nat → Nat} {F : Nat → Option AFn}
section
variable {L K : Lg} {c rg q1 q2 : Nat} {x : Ch} {Q : AV → Lg → Prop}
theorem EI.fresh {acc : List Wk} {v : AV} (h : EI L c rg q1 q2 x acc v K) {b : Nat} (hb : K b = Option.none) : slB v ≠ some b ∧ b ≠ c ∧ b ≠ rg ∧ b ≠ q1 ∧ b ≠ q2 ∧ L b = Option.none := by
  refine ⟨?_, ?_, ?_, ?_, ?_, (h.op.none hb).2⟩
  · intro h9
    rcases h.own with ⟨_, _, h1⟩ | ⟨b', h1, h2, h3, h4⟩
    · rw [h1] at h9; cases h9
    · rw [h2] at h9; simp [slB] at h9; subst h9; rw [hb] at h3; cases h3
  · rintro rfl; have := h.op.root; rw [hb] at this; cases this
  · rintro rfl; have := h.op.ring; rw [hb] at this; cases this
  · rintro rfl; have := h.op.rcv; rw [hb] at this; cases this
  · rintro rfl; have := h.op.snd; rw [hb] at this; cases this
end
end Go.AM


/- chanq: End, whole; Closed. -/
set_option linter.unusedVariables false
set_option linter.unusedSimpArgs false
namespace Go.AM
variable {N : Nat → Nat} {F : Nat → Option AFn}
section
variable {L K : Lg} {c rg q1 q2 : Nat} {x : Ch} {Q : AV → Lg → Prop}
theorem COpen.adopt (op : COpen L c x rg q1 q2 K) {b : Nat} {d : LC} (hb : K b = some d) (hn : b ≠ rg ∧ b ≠ q1 ∧ b ≠ q2) : COpen (L.put b d) c x rg q1 q2 K :=
  ⟨op.n1, op.n2, op.n3, op.n4, op.n5, op.n6, op.root, op.ring, op.rcv, op.snd, fun r e h1 h2 h3 h4 he => by
    rw [Lg.put_apply] at he
    split at he
    · rename_i h9; subst h9; cases he; exact hb
    · exact op.old r e h1 h2 h3 h4 he, by rw [Lg.put_ne _ _ _ (Ne.symm hn.1)]; exact op.f1, by rw [Lg.put_ne _ _ _ (Ne.symm hn.2.1)]; exact op.f2, by rw [Lg.put_ne _ _ _ (Ne.symm hn.2.2)]; exact op.f3⟩
/-- a new slice of wakes -/
def WkNew (L : Lg) (v : AV) (ws : List Wk) (L' : Lg) : Prop := (ws = [] ∧ v = .sl none 0 0 0 ∧ L' = L) ∨ ∃ b ex, L b = none ∧ 0 < ws.length ∧ v = .sl (some (b, 0)) ws.length ws.length ex ∧ (ex = 0 ∨ ex = 5) ∧ L' = L.put b (.raw (.cells (wkcells ws)))
theorem EI.fin {acc : List Wk} {v : AV} (h : EI L c rg q1 q2 x acc v K) (hL : ∃ d, L c = some d) : ∃ L', WkNew (L.put c (.abs (ChanP c x))) v acc L' ∧ Sees K L' := by
  rcases h.own with ⟨h1, h2, h3⟩ | ⟨b, h1, h2, h3, h4⟩
  · exact ⟨_, .inl ⟨List.length_eq_zero_iff.1 h1, h3, rfl⟩, h.op.shut⟩
  · have ap := h.ap b (by rw [h2]; rfl)
    have := (h.op.adopt h3 ⟨ap.2.1, ap.2.2.1, ap.2.2.2.1⟩).shut
    rw [Lg.put_comm _ ap.1] at this
    exact ⟨_, .inr ⟨b, 5, by rw [Lg.put_ne _ _ _ ap.1]; exact ap.2.2.2.2, h1, h2, .inr rfl, rfl⟩, this⟩
/-- what End makes -/
def Ch.endS (x : Ch) : Ch × List Wk := if x.signal = true ∧ x.closed = false then (x.ended, x.wakes) else (x, [])
end
end Go.AM


/- tree: what its functions do. -/
set_option linter.unusedVariables false
set_option linter.unusedSimpArgs false
namespace Go.AM
variable {N : Nat → Nat} {F : Nat → Option AFn}
/-- one of a tree -/
structure Nd where
  parent : Int
  linked : Bool
  kids : List Int
def ncells : List Nd → (Nat → AV) → Nat → List AV
  | [], _, _ => []
  | n :: r, kv, j => [.i .i64 n.parent, .b n.linked, kv j] ++ ncells r kv (j + 1)
theorem ncells_link : ∀ (ns : List Nd) (kv : Nat → AV) (j i : Nat) (n : Nd) (b : Bool), ns[i]? = some n → (ncells ns kv j).set (i * 3 + 1) (.b b) = ncells (ns.set i { n with linked := b }) kv j
  | [], _, _, i, n, b, h => by simp at h
  | a :: r, kv, j, 0, n, b, h => by
    simp at h; subst h
    simp [ncells]
  | a :: r, kv, j, i + 1, n, b, h => by
    have := ncells_link r kv (j + 1) i n b (by simpa using h)
    have e : (i + 1) * 3 + 1 = (i * 3 + 1) + 1 + 1 + 1 := by omega
    rw [e]
    simp only [ncells, List.cons_append, List.nil_append, List.set_cons_succ, this]
def NSl (sv : AV) (ns : List Nd) (kv : Nat → AV) (nb : Option Nat) (t : Nat) (L K : Lg) : Prop := match nb with
  | none => sv = .sl none 0 0 0 ∧ ns = []
  | some b => sv = .sl (some (b, 0)) ns.length ns.length 3 ∧ K b = some (.raw (.cells (ncells ns kv 0))) ∧ b ≠ t ∧ L b = none ∧ 0 < ns.length
/-- a tree, opened -/
structure TOpen (L : Lg) (t : Nat) (ns : List Nd) (sv : AV) (kv : Nat → AV) (nb : Option Nat) (kb : Nat → Option Nat) (K : Lg) : Prop where
  root : K t = some (.raw (.cells [sv]))
  arr : NSl sv ns kv nb t L K
  kid : ∀ (j : Nat) (n : Nd), ns[j]? = some n → KSl (kv j) n.kids (kb j) K
  kne : ∀ (j q : Nat), j < ns.length → kb j = some q → q ≠ t ∧ nb ≠ some q ∧ L q = none
  kap : ∀ i j q : Nat, i < ns.length → j < ns.length → kb i = some q → kb j = some q → i = j
  old : ∀ r d, r ≠ t → L r = some d → K r = some d
def TreeP (t : Nat) (ns : List Nd) (hp : Hp) : Prop := ∃ sv kv nb kb M, TOpen Lg.nil t ns sv kv nb kb M ∧ Sat M hp
theorem KSl.mono {v : AV} {l : List Int} {bo : Option Nat} {K M : Lg} (h : KSl v l bo K) (e : ∀ q, bo = some q → M q = K q) : KSl v l bo M := by
  cases bo with
  | none => exact h
  | some b =>
    obtain ⟨cap, sp, ex, h1, h2, h3, h4⟩ := h
    exact ⟨cap, sp, ex, h1, by rw [e b rfl]; exact h2, h3, h4⟩
theorem NSl.mono {sv : AV} {ns : List Nd} {kv : Nat → AV} {nb : Option Nat} {t : Nat} {L L' K M : Lg} (h : NSl sv ns kv nb t L K) (e : ∀ q, nb = some q → M q = K q) (f : ∀ q, nb = some q → L' q = none) : NSl sv ns kv nb t L' M := by
  cases nb with
  | none => exact h
  | some b =>
    obtain ⟨h1, h2, h3, h4, h5⟩ := h
    exact ⟨h1, by rw [e b rfl]; exact h2, h3, f b rfl, h5⟩
section
variable {L L0 K : Lg} {t : Nat} {ns : List Nd} {sv : AV} {kv : Nat → AV} {nb : Option Nat} {kb : Nat → Option Nat}
theorem TOpen.shut (o : TOpen L t ns sv kv nb kb K) : Sees K (L.put t (.abs (TreeP t ns))) := by
  refine Sees.shutAt (fun r => r = t ∨ nb = some r ∨ ∃ j, j < ns.length ∧ kb j = some r) (.inl rfl) ?_ ?_ (.inl ⟨_, o.root⟩) ?_
  · intro r d hr hd; simp only [not_or] at hr; exact o.old r d hr.1 hd
  · rintro r (rfl | h | ⟨j, hj, hq⟩) hr
    · exact absurd rfl hr
    · have := o.arr; rw [h] at this; exact this.2.2.2.1
    · exact (o.kne j r hj hq).2.2
  · intro M hm hM hN hs
    refine ⟨sv, kv, nb, kb, M, ⟨by rw [hM t (.inl rfl)]; exact o.root, o.arr.mono (fun q hq => hM q (.inr (.inl hq))) (fun _ _ => rfl), ?_, ?_, o.kap, fun r d _ hd => by cases hd⟩, hs⟩
    · intro j n hn
      have hj : j < ns.length := (List.getElem?_eq_some_iff.1 hn).1
      exact (o.kid j n hn).mono fun q hq => hM q (.inr (.inr ⟨j, hj, hq⟩))
    · intro j q hj hq
      have := o.kne j q hj hq
      exact ⟨this.1, this.2.1, rfl⟩
theorem TOpen.back (o : TOpen L t ns sv kv nb kb K) (e : L t = some (.abs (TreeP t ns))) : Sees K L := by
  have := o.shut
  rwa [Lg.put_self L t _ e] at this
theorem TOpen.ne (o : TOpen L t ns sv kv nb kb K) {r : Nat} (hr : K r = none) : r ≠ t ∧ L r = none := by
  have n : r ≠ t := by rintro rfl; rw [o.root] at hr; cases hr
  refine ⟨n, ?_⟩
  cases e : L r with
  | none => rfl
  | some d => rw [o.old r d n e] at hr; cases hr
theorem NSl.len (h : NSl sv ns kv nb t L K) (M : Lg) (k : AV → Lg → Prop) : wpOp F .lenSl [sv] M k = k (.i .i64 ns.length) M := by
  cases nb with
  | none => obtain ⟨rfl, rfl⟩ := h; simp
  | some b => obtain ⟨rfl, _⟩ := h; simp
def hasT (ns : List Nd) (id : Int) : Bool := decide (0 ≤ id) && decide (id < ns.length)
theorem hasT_nat {ns : List Nd} {id : Int} (h : hasT ns id = true) : ∃ i : Nat, id = (i : Int) ∧ i < ns.length := by
  simp [hasT] at h
  obtain ⟨i, rfl⟩ := Int.eq_ofNat_of_zero_le h.1
  exact ⟨i, rfl, by omega⟩
end
end Go.AM


/- tree: Add. -/
set_option linter.unusedVariables false
set_option linter.unusedSimpArgs false
namespace Go.AM
variable {N : Nat → Nat} {F : Nat → Option AFn}
def addKid (ns : List Nd) (i : Nat) (x : Int) : List Nd := match ns[i]? with
  | some n => ns.set i { n with kids := n.kids ++ [x] }
  | none => ns
def treeAdd (ns : List Nd) (parent : Int) (linked : Bool) : List Nd × Int × Int :=
  if parent ≠ -1 ∧ hasT ns parent = false then (ns, 0, 1) else if 1000 ≤ ns.length then (ns, 0, 3)
  else ((if (linked && decide (parent ≠ -1)) = true then addKid ns parent.toNat ns.length else ns) ++ [⟨parent, linked && decide (parent ≠ -1), []⟩], ns.length, 0)
section
variable {L L0 K : Lg} {t : Nat} {ns : List Nd} {sv : AV} {kv : Nat → AV} {nb : Option Nat} {kb : Nat → Option Nat} {Q : AV → Lg → Prop}
theorem KSl.one {v : AV} {l : List Int} {bo : Option Nat} (h : KSl v l bo K) : v.one = true := by
  cases bo with
  | none => obtain ⟨rfl, _⟩ := h; rfl
  | some b => obtain ⟨_, _, _, rfl, _⟩ := h; rfl
theorem TOpen.sub (o : TOpen L0 t ns sv kv nb kb K) (hs : ∀ r d, r ≠ t → L r = some d → L0 r = some d) : TOpen L t ns sv kv nb kb K := by
  have hn : ∀ r, r ≠ t → L0 r = none → L r = none := by
    intro r hr h0
    cases e : L r with
    | none => rfl
    | some d => rw [hs r d hr e] at h0; cases h0
  refine ⟨o.root, o.arr.mono (fun _ _ => rfl) (fun q hq => ?_), o.kid, fun j q hj hq => ?_, o.kap, fun r d hr hd => o.old r d hr (hs r d hr hd)⟩
  · have := o.arr; rw [hq] at this; exact hn q this.2.2.1 this.2.2.2.1
  · have := o.kne j q hj hq; exact ⟨this.1, this.2.1, hn q this.1 this.2.2⟩
theorem KSl.cellsOf {v : AV} {l : List Int} {bo : Option Nat} (h : KSl v l bo K) : v.cellsOf = some [v] := by
  cases bo with
  | none => obtain ⟨rfl, _⟩ := h; rfl
  | some b => obtain ⟨_, _, _, rfl, _⟩ := h; rfl
end
end Go.AM


/- tree: Detach. -/
set_option linter.unusedVariables false
set_option linter.unusedSimpArgs false
namespace Go.AM
variable {N : Nat → Nat} {F : Nat → Option AFn}
section
variable {L L0 K : Lg} {t : Nat} {ns : List Nd} {sv : AV} {kv : Nat → AV} {nb : Option Nat} {kb : Nat → Option Nat} {Q : AV → Lg → Prop}
theorem TOpen.link (o : TOpen L t ns sv kv nb kb K) {i : Nat} {n : Nd} (hn : ns[i]? = some n) {b : Nat} (hb : nb = some b) (v : Bool) : TOpen L t (ns.set i { n with linked := v }) sv kv nb kb (K.put b (.raw (.cells ((ncells ns kv 0).set (i * 3 + 1) (.b v))))) := by
  have hi : i < ns.length := (List.getElem?_eq_some_iff.1 hn).1
  have ha := o.arr
  rw [hb] at ha
  obtain ⟨a1, a2, a3, a4, a5⟩ := ha
  refine ⟨by rw [Lg.put_ne _ _ _ (Ne.symm a3)]; exact o.root, ?_, ?_, ?_, ?_, ?_⟩
  · rw [hb]
    exact ⟨by simp [a1], by rw [Lg.put_same, ncells_link ns kv 0 i n v hn], a3, a4, by simpa using a5⟩
  · intro j m hm
    have hjl : j < ns.length := by have := (List.getElem?_eq_some_iff.1 hm).1; simpa using this
    have hkk : KSl (kv j) m.kids (kb j) K := by
      by_cases hj : j = i
      · subst hj
        rw [List.getElem?_set_self hi] at hm
        simp at hm; subst hm
        exact o.kid j n hn
      · rw [List.getElem?_set_ne (Ne.symm hj)] at hm
        exact o.kid j m hm
    refine hkk.mono fun r hr => ?_
    have h4 := o.kne j r hjl hr
    exact Lg.put_ne _ _ _ (fun h9 => h4.2.1 (by rw [hb, h9]))
  · intro j r hj hr
    simp at hj
    exact o.kne j r hj hr
  · intro j k r hj hk hrj hrk
    simp at hj hk
    exact o.kap j k r hj hk hrj hrk
  · intro r d hr hd
    have h1 : r ≠ b := by rintro rfl; rw [a4] at hd; cases hd
    rw [Lg.put_ne _ _ _ h1]; exact o.old r d hr hd
end
end Go.AM


/- ctx: contexts, opened; has, room. -/
set_option linter.unusedVariables false
set_option linter.unusedSimpArgs false
namespace Go.AM
variable {N : Nat → Nat} {F : Nat → Option AFn}
/-- a context -/
structure One where
  node : Int
  free : Bool
  c : Option Nat
  err : Int
  cause : Int
  when : Int
  has : Bool
  own : Bool
  timer : Int
  deriving DecidableEq
def One.cells (o : One) : List AV := [.i .i64 o.node, .b o.free, ptr o.c, .i .i64 o.err, .i .i64 o.cause, .i .i64 o.when, .b o.has, .b o.own, .i .i64 o.timer]
/-- what starts a program -/
structure Aft where
  node : Int
  prog : Int
  over : Bool
  deriving DecidableEq
def Aft.cells (o : Aft) : List AV := [.i .i64 o.node, .i .i64 o.prog, .b o.over]
/-- contexts -/
structure Cs where
  t : Option Nat
  tree : List Nd
  ones : List One
  afts : List Aft
  who : Int → Option Int
theorem One.len (o : One) : o.cells.length = 9 := rfl
theorem Aft.len (o : Aft) : o.cells.length = 3 := rfl
theorem One.one (o : One) : o.cells.all AV.one = true := rfl
theorem Aft.one (o : Aft) : o.cells.all AV.one = true := rfl
structure CtxD (c : Nat) (σ : Cs) (t mb : Nat) (osl asl : AV) (M : Lg) : Prop where
  root : M c = some (.raw (.cells [ptr σ.t, .p (some (t, 0)), osl, asl, .m (some mb)]))
  tree : M t = some (.abs (TreeP t σ.tree))
  map : ∃ es, M mb = some (.raw (.map es)) ∧ MapI es σ.who
  ones : OSl M osl (flatc One.cells σ.ones) σ.ones.length 9
  afts : OSl M asl (flatc Aft.cells σ.afts) σ.afts.length 3
  n1 : c ≠ t
  n2 : c ≠ mb
  n3 : t ≠ mb
  no : ∀ b, slB osl = some b → b ≠ c ∧ b ≠ t ∧ b ≠ mb
  na : ∀ b, slB asl = some b → b ≠ c ∧ b ≠ t ∧ b ≠ mb ∧ slB osl ≠ some b
  dom : ∀ b, M b ≠ none → b = c ∨ b = t ∨ b = mb ∨ slB osl = some b ∨ slB asl = some b
def CtxP (c : Nat) (σ : Cs) : Hp → Prop := Thing fun M => ∃ t mb osl asl, CtxD c σ t mb osl asl M
section
variable {M L : Lg} {c t mb : Nat} {osl asl : AV} {σ : Cs} {Q : AV → Lg → Prop}
theorem CtxD.shut (h : CtxD c σ t mb osl asl M) (ha : Apart M L c) : Sees (M.over L) (L.put c (.abs (CtxP c σ))) := Sees.shutD ⟨t, mb, osl, asl, h⟩ ⟨_, h.root⟩ ha
theorem CtxD.back (h : CtxD c σ t mb osl asl M) (ha : Apart M L c) (e : L c = some (.abs (CtxP c σ))) : Sees (M.over L) L := Sees.backD ⟨t, mb, osl, asl, h⟩ ⟨_, h.root⟩ ha e
theorem CtxD.f0 (h : CtxD c σ t mb osl asl M) (L : Lg) : rdL (M.over L) (c, 0) none = some (ptr σ.t) := by rw [rdL_cell (over_some h.root)]; rfl
theorem CtxD.f1 (h : CtxD c σ t mb osl asl M) (L : Lg) : rdL (M.over L) (c, 1) none = some (.p (some (t, 0))) := by rw [rdL_cell (over_some h.root)]; rfl
theorem CtxD.f2 (h : CtxD c σ t mb osl asl M) (L : Lg) : rdL (M.over L) (c, 2) none = some osl := by rw [rdL_cell (over_some h.root)]; rfl
theorem CtxD.f3 (h : CtxD c σ t mb osl asl M) (L : Lg) : rdL (M.over L) (c, 3) none = some asl := by rw [rdL_cell (over_some h.root)]; rfl
theorem CtxD.f4 (h : CtxD c σ t mb osl asl M) (L : Lg) : rdL (M.over L) (c, 4) none = some (.m (some mb)) := by rw [rdL_cell (over_some h.root)]; rfl
/-! ### what is put -/
theorem CtxD.setTree (h : CtxD c σ t mb osl asl M) (ns : List Nd) : CtxD c { σ with tree := ns } t mb osl asl (M.put t (.abs (TreeP t ns))) := by
  refine ⟨by rw [Lg.put_ne _ _ _ h.n1]; exact h.root, Lg.put_same _ _ _, ?_, h.ones.mono fun b hb => Lg.put_ne _ _ _ (h.no b hb).2.1, h.afts.mono fun b hb => Lg.put_ne _ _ _ (h.na b hb).2.1, h.n1, h.n2, h.n3, h.no, h.na, ?_⟩
  · obtain ⟨es, h1, h2⟩ := h.map; exact ⟨es, by rw [Lg.put_ne _ _ _ (Ne.symm h.n3)]; exact h1, h2⟩
  · intro b hb
    by_cases e : b = t
    · exact .inr (.inl e)
    · rw [Lg.put_ne _ _ _ e] at hb; exact h.dom b hb
theorem CtxD.setOne (h : CtxD c σ t mb osl asl M) {b i j : Nat} {o o' : One} {v : AV} (hi : σ.ones[i]? = some o) (hb : slB osl = some b) (hj : j < 9) (e : o.cells.set j v = o'.cells) :
    CtxD c { σ with ones := σ.ones.set i o' } t mb osl asl (M.put b (.raw (.cells ((flatc One.cells σ.ones).set (i * 9 + j) v)))) := by
  have hn := h.no b hb
  have hf := flatc_setc One.len σ.ones i o o' j v hi hj e
  refine ⟨by rw [Lg.put_ne _ _ _ (Ne.symm hn.1)]; exact h.root, by rw [Lg.put_ne _ _ _ (Ne.symm hn.2.1)]; exact h.tree, ?_, ?_, h.afts.mono fun b' hb' => Lg.put_ne _ _ _ (fun h9 => (h.na b' hb').2.2.2 (by rw [h9]; exact hb)), h.n1, h.n2, h.n3, h.no, h.na, ?_⟩
  · obtain ⟨es, h1, h2⟩ := h.map; exact ⟨es, by rw [Lg.put_ne _ _ _ (Ne.symm hn.2.2)]; exact h1, h2⟩
  · rcases h.ones with ⟨h1, h2, h3⟩ | ⟨b', ex, h1, h2, h3, h4, h5⟩
    · rw [h3] at hb; cases hb
    · rw [h2] at hb; simp [slB] at hb; subst hb
      exact .inr ⟨b', ex, by simpa using h1, by simpa using h2, h3, by rw [Lg.put_same, hf], by rw [← hf]; simpa using h5⟩
  · intro q hq
    by_cases e : q = b
    · subst e; exact .inr (.inr (.inr (.inl hb)))
    · rw [Lg.put_ne _ _ _ e] at hq; exact h.dom q hq
/-- what is new lies not in it -/
theorem CtxD.fresh (h : CtxD c σ t mb osl asl M) {b : Nat} (hb : M b = none) : b ≠ c ∧ b ≠ t ∧ b ≠ mb ∧ slB osl ≠ some b ∧ slB asl ≠ some b := by
  refine ⟨?_, ?_, ?_, ?_, ?_⟩
  · rintro rfl; rw [h.root] at hb; cases hb
  · rintro rfl; rw [h.tree] at hb; cases hb
  · rintro rfl; obtain ⟨es, h1, _⟩ := h.map; rw [h1] at hb; cases hb
  · intro h9; have := h.ones.block h9; rw [hb] at this; cases this
  · intro h9; have := h.afts.block h9; rw [hb] at this; cases this
/-! ### has, room -/
def Cs.has (σ : Cs) (id : Int) : Bool := decide (0 ≤ id) && decide (id < σ.ones.length)
end
end Go.AM


/- ctx: add, start. -/
set_option linter.unusedVariables false
set_option linter.unusedSimpArgs false
namespace Go.AM
variable {N : Nat → Nat} {F : Nat → Option AFn}
def Cs.add (σ : Cs) (o : One) (parent : Int) : Cs :=
  let r := treeAdd σ.tree parent (!o.free)
  { σ with tree := r.1, who := updI σ.who r.2.1 (some σ.ones.length), ones := σ.ones ++ [{ o with node := r.2.1, timer := -1 }] }
section
variable {M L : Lg} {c t mb : Nat} {osl asl : AV} {σ : Cs} {Q : AV → Lg → Prop}
end
end Go.AM


/- ctx: what cancel does, in plain; the slices that it tells. -/
set_option linter.unusedVariables false
set_option linter.unusedSimpArgs false
namespace Go.AM
variable {N : Nat → Nat} {F : Nat → Option AFn}
/-- a context that is done now -/
structure Lap where
  id : Int
  err : Int
  cause : Int
  wakes : List Wk
/-- contexts, their timers, their channels -/
structure CX where
  σ : Cs
  τ : Tms
  χ : Nat → Ch
def updC (f : Nat → Ch) (a : Nat) (x : Ch) : Nat → Ch := fun b => if b = a then x else f b
abbrev CRes := CX × List Lap × List (Int × Int)
def CX.setOne (S : CX) (i : Nat) (x : One) : CX := { S with σ := { S.σ with ones := S.σ.ones.set i x } }
def CX.setTree (S : CX) (ns : List Nd) : CX := { S with σ := { S.σ with tree := ns } }
def Cs.names (σ : Cs) : List (Option Nat × Int) := σ.ones.map fun o => (o.c, o.node)
structure OutC (c : Nat) (S : CX) (L : Lg) : Prop where
  tms : ∀ s, S.σ.t = some s → s ≠ c ∧ L s = some (.abs (SetP s S.τ))
  chs : ∀ o ∈ S.σ.ones, ∀ a, o.c = some a → a ≠ c ∧ S.σ.t ≠ some a ∧ L a = some (.abs (ChanP a (S.χ a)))
/-- what is none of its own is as it was -/
def FrC (σ : Cs) (L L' : Lg) : Prop := ∀ r, L r ≠ none → σ.t ≠ some r → (∀ o ∈ σ.ones, o.c ≠ some r) → L' r = L r
structure SameC (σ σ' : Cs) : Prop where
  t : σ'.t = σ.t
  names : σ'.names = σ.names
theorem SameC.refl (σ : Cs) : SameC σ σ := ⟨rfl, rfl⟩
theorem SameC.trans {a b d : Cs} (h : SameC a b) (k : SameC b d) : SameC a d := ⟨k.t.trans h.t, k.names.trans h.names⟩
theorem SameC.get {a b : Cs} (h : SameC a b) {i : Nat} {o : One} (hi : b.ones[i]? = some o) : ∃ o', a.ones[i]? = some o' ∧ o'.c = o.c ∧ o'.node = o.node := by
  have := congrArg (fun l => l[i]?) h.names
  simp only [Cs.names, List.getElem?_map, hi, Option.map_some] at this
  cases e : a.ones[i]? with
  | none => rw [e] at this; cases this
  | some o' => rw [e] at this; simp at this; exact ⟨o', rfl, this.1.symm, this.2.symm⟩
theorem SameC.cs {a b : Cs} (h : SameC a b) {x : Option Nat} (hx : ∃ o ∈ b.ones, o.c = x) : ∃ o ∈ a.ones, o.c = x := by
  obtain ⟨o, ho, e⟩ := hx
  obtain ⟨i, hi⟩ := List.mem_iff_getElem?.1 ho
  obtain ⟨o', h1, h2, _⟩ := h.get hi
  exact ⟨o', List.mem_of_getElem? h1, h2.trans e⟩
theorem FrC.refl (σ : Cs) (L : Lg) : FrC σ L L := fun _ _ _ _ => rfl
theorem FrC.trans {σ σ' : Cs} {L L1 L2 : Lg} (s : SameC σ σ') (h : FrC σ L L1) (k : FrC σ' L1 L2) : FrC σ L L2 := fun r hr h1 h2 => by
  have e := h r hr h1 h2
  rw [k r (by rw [e]; exact hr) (by rw [s.t]; exact h1) (fun o ho h9 => by
    obtain ⟨o', h3, h4⟩ := s.cs ⟨o, ho, h9⟩
    exact h2 o' h3 h4), e]
/-- what there was is there -/
theorem FrC.has {c : Nat} {S S' : CX} {L L' : Lg} (s : SameC S.σ S'.σ) (h : FrC S.σ L L') (o : OutC c S' L') {r : Nat} (hr : L r ≠ none) : L' r ≠ none := by
  by_cases h1 : S.σ.t = some r
  · rw [(o.tms r (by rw [s.t]; exact h1)).2]; simp
  · by_cases h2 : ∃ o ∈ S.σ.ones, o.c = some r
    · obtain ⟨o', ho', he⟩ := SameC.cs (a := S'.σ) (b := S.σ) ⟨s.t.symm, s.names.symm⟩ h2
      rw [(o.chs o' ho' r he).2.2]; simp
    · rw [h r hr h1 (fun o ho h9 => h2 ⟨o, ho, h9⟩)]; exact hr
/-! ### the slices that it tells -/
def lapc (p : Lap × AV) : List AV := [.i .i64 p.1.id, .i .i64 p.1.err, .i .i64 p.1.cause, p.2]
def stc (p : Int × Int) : List AV := [.i .i64 p.1, .i .i64 p.2]
theorem flatc_oneM {α : Type} {f : α → List AV} : ∀ (a : List α), (∀ x ∈ a, (f x).all AV.one = true) → (flatc f a).all AV.one = true
  | [], _ => rfl
  | x :: r, h => by
    simp only [flatc, List.all_append, h x (by simp), flatc_oneM r (fun y hy => h y (by simp [hy])), Bool.and_self]
theorem SlK.one {L : Lg} {v : AV} {ws : List Wk} (h : SlK L v ws) : v.one = true := by
  rcases h with ⟨_, rfl⟩ | ⟨b, ex, rfl, _⟩ <;> rfl
theorem SlK.mono {L L' : Lg} {v : AV} {ws : List Wk} (h : SlK L v ws) (e : ∀ b, slB v = some b → L' b = L b) : SlK L' v ws := by
  rcases h with ⟨h1, h2⟩ | ⟨b, ex, h1, h2⟩
  · exact .inl ⟨h1, h2⟩
  · exact .inr ⟨b, ex, h1, by rw [e b (by rw [h1]; rfl)]; exact h2⟩
theorem SlK.has {L : Lg} {v : AV} {ws : List Wk} (h : SlK L v ws) {b : Nat} (e : slB v = some b) : L b ≠ none := by
  rcases h with ⟨_, rfl⟩ | ⟨b', ex, rfl, h2⟩
  · cases e
  · simp [slB] at e; subst e; rw [h2]; simp
structure ResP (L0 K : Lg) (v1 v2 : AV) (ps : List (Lap × AV)) (sts : List (Int × Int)) : Prop where
  o1 : OSl K v1 (flatc lapc ps) ps.length 4
  o2 : OSl K v2 (flatc stc sts) sts.length 2
  ins : ∀ p ∈ ps, SlK K p.2 p.1.wakes ∧ ∀ b, slB p.2 = some b → L0 b = none ∧ slB v1 ≠ some b ∧ slB v2 ≠ some b
  f1 : ∀ b, slB v1 = some b → L0 b = none ∧ slB v2 ≠ some b
  f2 : ∀ b, slB v2 = some b → L0 b = none
def ResW (L0 K : Lg) (v1 v2 : AV) (laps : List Lap) (sts : List (Int × Int)) : Prop := ∃ ps, ps.map (·.1) = laps ∧ ResP L0 K v1 v2 ps sts
section
variable {L0 K K' : Lg} {v1 v2 : AV} {ps : List (Lap × AV)} {sts : List (Int × Int)}
theorem ResP.mono (h : ResP L0 K v1 v2 ps sts) (e : ∀ b, L0 b = none → K b ≠ none → K' b = K b) : ResP L0 K' v1 v2 ps sts :=
  ⟨h.o1.mono fun b hb => e b (h.f1 b hb).1 (by rw [h.o1.block hb]; simp), h.o2.mono fun b hb => e b (h.f2 b hb) (by rw [h.o2.block hb]; simp), fun p hp => ⟨(h.ins p hp).1.mono fun b hb => e b ((h.ins p hp).2 b hb).1 ((h.ins p hp).1.has hb), (h.ins p hp).2⟩, h.f1, h.f2⟩
theorem ResP.nil (L0 K : Lg) : ResP L0 K (.sl none 0 0 0) (.sl none 0 0 0) [] [] := ⟨.inl ⟨rfl, rfl, rfl⟩, .inl ⟨rfl, rfl, rfl⟩, fun p hp => by simp at hp, fun b hb => (by cases hb), fun b hb => (by cases hb)⟩
theorem ResP.one (h : ResP L0 K v1 v2 ps sts) : (flatc lapc ps).all AV.one = true := flatc_oneM ps fun p hp => by
  have := (h.ins p hp).1.one
  simp [lapc, this]
end
end Go.AM


/- ctx: cancel. -/
set_option linter.unusedVariables false
set_option linter.unusedSimpArgs false
namespace Go.AM
variable {N : Nat → Nat} {F : Nat → Option AFn}
section
variable {M L L0 : Lg} {c t mb : Nat} {osl asl : AV} {S S' : CX} {Q : AV → Lg → Prop}
theorem OutC.put (o : OutC c S L) {b : Nat} (hb : L b = none) (d : LC) : OutC c S (L.put b d) := by
  have key : ∀ r e, L r = some e → (L.put b d) r = some e := by
    intro r e hr
    rw [Lg.put_ne]; exact hr
    rintro rfl; rw [hb] at hr; cases hr
  exact ⟨fun s hs => ⟨(o.tms s hs).1, key _ _ (o.tms s hs).2⟩, fun o1 h1 a h2 => ⟨(o.chs o1 h1 a h2).1, (o.chs o1 h1 a h2).2.1, key _ _ (o.chs o1 h1 a h2).2.2⟩⟩
theorem FrC.put {σ : Cs} {L1 : Lg} (h : FrC σ L L1) {b : Nat} (hb : L b = none) (d : LC) : FrC σ L (L1.put b d) := fun r hr h1 h2 => by
  rw [Lg.put_ne]; exact h r hr h1 h2
  rintro rfl; exact hr hb
end
end Go.AM


/- ctx: cancel, proved. -/
set_option linter.unusedVariables false
set_option linter.unusedSimpArgs false
namespace Go.AM
variable {N : Nat → Nat} {F : Nat → Option AFn}
section
variable {M L L0 : Lg} {c t mb : Nat} {osl asl : AV} {S S' : CX} {Q : AV → Lg → Prop}
theorem OSl.up {v : AV} {cs : List AV} {n size : Nat} (h : OSl L v cs n size) (hv : ∀ q, slB v = some q → M q = none) : OSl (M.over L) v cs n size := h.mono fun b hb => over_skip (hv b hb)
theorem OSl.has {v : AV} {cs : List AV} {n size : Nat} (h : OSl L v cs n size) {q : Nat} (hq : slB v = some q) : L q ≠ none := by rw [h.block hq]; simp
theorem OSl.raw {v : AV} {cs : List AV} {n size : Nat} (h : OSl L v cs n size) : ∀ q, slB v = some q → ∃ d, L q = some (.raw d) := fun q hq => ⟨_, h.block hq⟩
end
end Go.AM


/- ctx: cancel, whole. -/
set_option linter.unusedVariables false
set_option linter.unusedSimpArgs false
namespace Go.AM
variable {N : Nat → Nat} {F : Nat → Option AFn}
section
variable {M L L0 : Lg} {c t mb : Nat} {osl asl : AV} {S S' : CX} {Q : AV → Lg → Prop}
theorem OutC.same {S2 : CX} (o : OutC c S L) (h : SameC S.σ S2.σ) (h1 : S2.τ = S.τ) (h2 : S2.χ = S.χ) : OutC c S2 L := by
  refine ⟨fun s hs => ?_, fun o1 ho a ha => ?_⟩
  · rw [h1]; exact o.tms s (by rw [← h.t]; exact hs)
  · obtain ⟨o', ho', he⟩ := h.cs ⟨o1, ho, ha⟩
    have := o.chs o' ho' a he
    exact ⟨this.1, by rw [h.t]; exact this.2.1, by rw [h2]; exact this.2.2⟩
end
end Go.AM


/- ctx: begin, Cancels, Without, Deadline. -/
set_option linter.unusedVariables false
set_option linter.unusedSimpArgs false
namespace Go.AM
variable {N : Nat → Nat} {F : Nat → Option AFn}
structure SubC (σ σ' : Cs) : Prop where
  t : σ'.t = σ.t
  names : ∃ l, σ'.names = σ.names ++ l
theorem SameC.sub {σ σ' : Cs} (h : SameC σ σ') : SubC σ σ' := ⟨h.t, [], by simp [h.names]⟩
theorem SubC.trans {a b d : Cs} (h : SubC a b) (k : SubC b d) : SubC a d := by
  obtain ⟨l, hl⟩ := h.names
  obtain ⟨m, hm⟩ := k.names
  exact ⟨k.t.trans h.t, l ++ m, by rw [hm, hl, List.append_assoc]⟩
theorem SubC.cs {a b : Cs} (h : SubC a b) {x : Option Nat} (hx : ∃ o ∈ a.ones, o.c = x) : ∃ o ∈ b.ones, o.c = x := by
  obtain ⟨o, ho, e⟩ := hx
  obtain ⟨l, hl⟩ := h.names
  have : (o.c, o.node) ∈ b.names := by rw [hl]; exact List.mem_append_left _ (List.mem_map.2 ⟨o, ho, rfl⟩)
  obtain ⟨o', ho', he⟩ := List.mem_map.1 this
  exact ⟨o', ho', by rw [← e]; exact congrArg Prod.fst he⟩
/-- contexts, opened, behind a call -/
structure CO (c t mb : Nat) (S S' : CX) (L : Lg) (osl asl : AV) (M' L' : Lg) : Prop where
  d : CtxD c S'.σ t mb osl asl M'
  ap : Apart M' L' c
  out : OutC c S' L'
  sub : SubC S.σ S'.σ
  fr : FrC S.σ L L'
  has : ∀ r, L' r = none → L r = none
/-- contexts behind a call -/
structure CDone (c : Nat) (S S' : CX) (L L2 : Lg) : Prop where
  own : L2 c = some (.abs (CtxP c S'.σ))
  out : OutC c S' L2
  sub : SubC S.σ S'.σ
  fr : ∀ r, L r ≠ none → r ≠ c → S.σ.t ≠ some r → (∀ o ∈ S.σ.ones, o.c ≠ some r) → L2 r = L r
  has : ∀ r, L2 r = none → L r = none
section
variable {M L L0 : Lg} {c t mb : Nat} {osl asl : AV} {S S' : CX} {Q : AV → Lg → Prop}
theorem OutC.putN (o : OutC c S L) (d : LC) : OutC c S (L.put c d) := by
  refine ⟨fun s hs => ⟨(o.tms s hs).1, ?_⟩, fun o1 h1 a h2 => ⟨(o.chs o1 h1 a h2).1, (o.chs o1 h1 a h2).2.1, ?_⟩⟩
  · rw [Lg.put_ne _ _ _ (o.tms s hs).1]; exact (o.tms s hs).2
  · rw [Lg.put_ne _ _ _ (o.chs o1 h1 a h2).1]; exact (o.chs o1 h1 a h2).2.2
theorem CO.shut {M' L' : Lg} (h : CO c t mb S S' L osl asl M' L') (hc : L c ≠ none) : Sees (M'.over L') (L'.put c (.abs (CtxP c S'.σ))) ∧ CDone c S S' L (L'.put c (.abs (CtxP c S'.σ))) := by
  refine ⟨h.d.shut h.ap, Lg.put_same _ _ _, h.out.putN _, h.sub, ?_, ?_⟩
  · intro r hr h1 h2 h3
    rw [Lg.put_ne _ _ _ h1]; exact h.fr r hr h2 h3
  · intro r hr
    by_cases e : r = c
    · subst e; rw [Lg.put_same] at hr; cases hr
    · rw [Lg.put_ne _ _ _ e] at hr; exact h.has r hr
theorem ResW.shut {v1 v2 : AV} {laps : List Lap} {sts : List (Int × Int)} {L' : Lg} (h : ResW L L' v1 v2 laps sts) (hc : L c ≠ none) (d : LC) : ResW L (L'.put c d) v1 v2 laps sts := by
  obtain ⟨ps, h1, h2⟩ := h
  exact ⟨ps, h1, h2.mono fun b hb hK => Lg.put_ne _ _ _ (by rintro rfl; exact hc hb)⟩
def One.zero : One := ⟨0, false, none, 0, 0, 0, false, false, 0⟩
theorem CO.refl (hd : CtxD c S.σ t mb osl asl M) (ha : Apart M L c) (ho : OutC c S L) : CO c t mb S S L osl asl M L := ⟨hd, ha, ho, (SameC.refl _).sub, FrC.refl _ _, fun _ h => h⟩
end
end Go.AM


/- ctx: Lapse, Unafter, After, Deadline. -/
set_option linter.unusedVariables false
set_option linter.unusedSimpArgs false
namespace Go.AM
variable {N : Nat → Nat} {F : Nat → Option AFn}
section
variable {M L L0 : Lg} {c t mb : Nat} {osl asl : AV} {S S' : CX} {Q : AV → Lg → Prop}
/-- After -/
def Cs.aft (σ : Cs) (up : One) (prog : Int) : Cs :=
  let r := treeAdd σ.tree up.node true
  { σ with tree := r.1, who := updI σ.who r.2.1 (some (-(σ.afts.length : Int) - 1)), afts := σ.afts ++ [⟨r.2.1, prog, false⟩] }
end
end Go.AM


/- ctx: Deadline, what is asked, New; all, closed. -/
set_option linter.unusedVariables false
set_option linter.unusedSimpArgs false
namespace Go.AM
variable {N : Nat → Nat} {F : Nat → Option AFn}
section
variable {M L L0 : Lg} {c t mb : Nat} {osl asl : AV} {S S' : CX} {Q : AV → Lg → Prop}
end
end Go.AM


/- ctx: what is asked, New; all, closed. -/
set_option linter.unusedVariables false
set_option linter.unusedSimpArgs false
namespace Go.AM
variable {N : Nat → Nat} {F : Nat → Option AFn}
section
variable {M L L0 : Lg} {c t mb : Nat} {osl asl : AV} {S S' : CX} {σ : Cs} {Q : AV → Lg → Prop}
/-- a context by its number -/
def Cs.one (σ : Cs) (id : Int) : Option One := if σ.has id = true then σ.ones[id.toNat]? else none
/-- the background alone -/
def Cs.new (t : Option Nat) : Cs := (⟨t, [], [], [], fun _ => none⟩ : Cs).add { One.zero with free := true } (-1)
/-! ### closed -/
theorem OutC.ne (ho : OutC c S L) : True := trivial
end
end Go.AM


/- trees, in plain Lean: kids, what is taken out, walks. -/
set_option linter.unusedVariables false
set_option linter.unusedSimpArgs false
namespace Go.AM
/-- who hangs on one -/
def hangs (ns : List Nd) (k : Int) (i : Nat) : Bool := match ns[i]? with | some n => n.linked && decide (n.parent = k) | none => false
def kidsOf (ns : List Nd) (k : Int) : List Nat := (List.range ns.length).filter (hangs ns k)
structure TreeOk (ns : List Nd) : Prop where
  len : ns.length ≤ 1000
  kids : ∀ (k : Nat) (n : Nd), ns[k]? = some n → n.kids = (kidsOf ns (k : Int)).map fun (i : Nat) => (i : Int)
  par : ∀ (k : Nat) (n : Nd), ns[k]? = some n → n.linked = true → 0 ≤ n.parent ∧ n.parent < k
theorem kidsOf_mem {ns : List Nd} {k : Int} {i : Nat} : i ∈ kidsOf ns k ↔ ∃ n, ns[i]? = some n ∧ n.linked = true ∧ n.parent = k := by
  simp only [kidsOf, List.mem_filter, List.mem_range, hangs]
  constructor
  · rintro ⟨h1, h2⟩
    rw [List.getElem?_eq_getElem h1] at h2 ⊢
    simp at h2
    exact ⟨_, rfl, h2.1, h2.2⟩
  · rintro ⟨n, h1, h2, h3⟩
    exact ⟨(List.getElem?_eq_some_iff.1 h1).1, by simp [h1, h2, h3]⟩
theorem kidsOf_lt {ns : List Nd} (h : TreeOk ns) {k i : Nat} (hi : i ∈ kidsOf ns (k : Int)) : k < i ∧ i < ns.length := by
  obtain ⟨n, h1, h2, h3⟩ := kidsOf_mem.1 hi
  have := h.par i n h1 h2
  exact ⟨by omega, (List.getElem?_eq_some_iff.1 h1).1⟩
/-! ### added -/
theorem addKid_length (ns : List Nd) (i : Nat) (x : Int) : (addKid ns i x).length = ns.length := by
  unfold addKid; split <;> simp
theorem addKid_get (ns : List Nd) (i : Nat) (x : Int) (j : Nat) : (addKid ns i x)[j]? = (ns[j]?).map fun n => if j = i then { n with kids := n.kids ++ [x] } else n := by
  unfold addKid
  split
  · rename_i n hn
    by_cases e : i = j
    · subst e
      have hi : i < ns.length := (List.getElem?_eq_some_iff.1 hn).1
      rw [List.getElem?_set_self hi, hn]; simp
    · rw [List.getElem?_set_ne e]
      cases ns[j]? with
      | none => rfl
      | some m => simp [Ne.symm e]
  · rename_i hn
    cases e : ns[j]? with
    | none => rfl
    | some m =>
      have : j ≠ i := by rintro rfl; rw [hn] at e; cases e
      simp [this]
/-- one more, as it should be -/
structure Added (ns : List Nd) (parent : Int) (lk : Bool) (ms : List Nd) : Prop where
  len : ms.length = ns.length + 1
  old : ∀ (j : Nat) (n : Nd), ns[j]? = some n → ∃ m : Nd, ms[j]? = some m ∧ m.parent = n.parent ∧ m.linked = n.linked
  new : ∃ m : Nd, ms[ns.length]? = some m ∧ m.parent = parent ∧ m.linked = lk
  ok : TreeOk ms
theorem treeAdd_ok {ns : List Nd} (h : TreeOk ns) (hl : ns.length < 1000) {parent : Int} {linked : Bool} (hp : parent = -1 ∨ hasT ns parent = true) :
    ∃ ms, treeAdd ns parent linked = (ms, (ns.length : Int), 0) ∧ Added ns parent (linked && decide (parent ≠ -1)) ms := by
  unfold treeAdd
  have c1 : ¬ (parent ≠ -1 ∧ hasT ns parent = false) := by
    rintro ⟨h1, h2⟩
    rcases hp with h3 | h3
    · exact h1 h3
    · rw [h2] at h3; cases h3
  rw [if_neg c1, if_neg (by omega)]
  refine ⟨_, rfl, ?_⟩
  generalize hlk : (linked && decide (parent ≠ -1)) = lk
  have hpar : lk = true → ∃ p : Nat, parent = (p : Int) ∧ p < ns.length := by
    intro h1
    rw [← hlk] at h1
    simp at h1
    rcases hp with h3 | h3
    · exact absurd h3 h1.2
    · exact hasT_nat h3
  generalize hbase : (if lk = true then addKid ns parent.toNat ns.length else ns) = base
  have hblen : base.length = ns.length := by rw [← hbase]; split <;> simp [addKid_length]
  have hbget : ∀ (j : Nat) (n : Nd), ns[j]? = some n → ∃ m : Nd, base[j]? = some m ∧ m.parent = n.parent ∧ m.linked = n.linked ∧ m.kids = n.kids ++ (if lk = true ∧ parent = (j : Int) then [(ns.length : Int)] else []) := by
    intro j n hn
    rw [← hbase]
    by_cases h1 : lk = true
    · obtain ⟨p, hp1, hp2⟩ := hpar h1
      rw [if_pos h1, addKid_get, hn, hp1]
      by_cases e : j = p
      · subst e; simp [h1]
      · have : ¬ ((p : Int) = (j : Int)) := by omega
        simp [e, this]
    · rw [if_neg h1]
      exact ⟨n, hn, rfl, rfl, by simp [h1]⟩
  have hget : ∀ j, j < ns.length → (base ++ [(⟨parent, lk, []⟩ : Nd)])[j]? = base[j]? := fun j hj => List.getElem?_append_left (by omega)
  have hgetn : (base ++ [(⟨parent, lk, []⟩ : Nd)])[ns.length]? = some ⟨parent, lk, []⟩ := by
    rw [List.getElem?_append_right (by omega), hblen]; simp
  have hhang : ∀ (k : Int) (i : Nat), hangs (base ++ [(⟨parent, lk, []⟩ : Nd)]) k i = if i = ns.length then (lk && decide (parent = k)) else hangs ns k i := by
    intro k i
    unfold hangs
    by_cases e : i = ns.length
    · subst e; rw [hgetn]; simp
    · rw [if_neg e]
      by_cases hi : i < ns.length
      · rw [hget i hi]
        obtain ⟨m, h1, h2, h3, _⟩ := hbget i _ (List.getElem?_eq_getElem hi)
        rw [h1, List.getElem?_eq_getElem hi]; simp [h2, h3]
      · rw [List.getElem?_eq_none (by simp; omega), List.getElem?_eq_none (by omega)]
  have hkids : ∀ k : Int, kidsOf (base ++ [(⟨parent, lk, []⟩ : Nd)]) k = kidsOf ns k ++ (if lk = true ∧ parent = k then [ns.length] else []) := by
    intro k
    unfold kidsOf
    rw [List.length_append, hblen, List.length_singleton, List.range_succ, List.filter_append]
    congr 1
    · apply List.filter_congr
      intro i hi
      have : i ≠ ns.length := by have := List.mem_range.1 hi; omega
      rw [hhang, if_neg this]
    · simp only [List.filter_cons, List.filter_nil, hhang, if_true]
      by_cases h1 : lk = true <;> by_cases h2 : parent = k <;> simp [h1, h2]
  refine ⟨by simp [hblen], ?_, ⟨_, hgetn, rfl, rfl⟩, ⟨by simp [hblen]; omega, ?_, ?_⟩⟩
  · intro j n hn
    have hj : j < ns.length := (List.getElem?_eq_some_iff.1 hn).1
    obtain ⟨m, h1, h2, h3, _⟩ := hbget j n hn
    exact ⟨m, by rw [hget j hj]; exact h1, h2, h3⟩
  · intro k n hn
    rw [hkids]
    by_cases hk : k < ns.length
    · rw [hget k hk] at hn
      obtain ⟨m, h1, h2, h3, h4⟩ := hbget k _ (List.getElem?_eq_getElem hk)
      rw [hn] at h1; cases h1
      rw [h4, h.kids k _ (List.getElem?_eq_getElem hk), List.map_append]
      congr 1
      split <;> simp
    · have hk2 : k = ns.length := by
        have := (List.getElem?_eq_some_iff.1 hn).1
        simp [hblen] at this; omega
      subst hk2
      rw [hgetn] at hn; cases hn
      have e1 : kidsOf ns (ns.length : Int) = [] := by
        rw [List.eq_nil_iff_forall_not_mem]
        intro i hi
        have := kidsOf_lt h hi
        omega
      have e2 : ¬ (lk = true ∧ parent = (ns.length : Int)) := by
        rintro ⟨h1, h2⟩
        obtain ⟨p, h3, h4⟩ := hpar h1
        omega
      simp [e1, e2]
  · intro k n hn hl2
    by_cases hk : k < ns.length
    · rw [hget k hk] at hn
      obtain ⟨m, h1, h2, h3, h4⟩ := hbget k _ (List.getElem?_eq_getElem hk)
      rw [hn] at h1; cases h1
      rw [h2]
      exact h.par k _ (List.getElem?_eq_getElem hk) (by rw [← h3]; exact hl2)
    · have hk2 : k = ns.length := by
        have := (List.getElem?_eq_some_iff.1 hn).1
        simp [hblen] at this; omega
      subst hk2
      rw [hgetn] at hn; cases hn
      obtain ⟨p, h3, h4⟩ := hpar hl2
      simp only
      omega
/-! ### taken out -/
/-! ### walks -/
end Go.AM


/- ctx: what cancel does, as a walk down the tree; in plain Lean. -/
set_option linter.unusedVariables false
set_option linter.unusedSimpArgs false
namespace Go.AM
/-! ### one is hit -/
def CX.endT (S : CX) : Option Nat → CX × List Wk
  | none => (S, [])
  | some a => ({ S with χ := updC S.χ a (S.χ a).endS.1 }, (S.χ a).endS.2)
def CX.stopT (S : CX) (id : Int) : CX := match S.σ.t with
  | none => S
  | some _ => match S.τ.one id with
    | none => S
    | some _ => { S with τ := { S.τ with x := S.τ.x.stop id } }
def hitL (err cause : Int) (acc : CRes) (node : Nat) : CRes :=
  let w := (acc.1.σ.who node).getD 0
  if w < 0 then match acc.1.σ.afts[(-w - 1).toNat]? with
    | some x => ({ acc.1 with σ := { acc.1.σ with afts := acc.1.σ.afts.set (-w - 1).toNat { x with over := true } } }, acc.2.1, acc.2.2 ++ [(-w - 1, x.prog)])
    | none => acc
  else match acc.1.σ.ones[w.toNat]? with
    | some x =>
      let r := (acc.1.setOne w.toNat { x with err := err, cause := cause }).endT x.c
      (r.1.stopT x.timer, acc.2.1 ++ [⟨w, err, cause, r.2⟩], acc.2.2)
    | none => acc
/-- one that may be hit -/
def LiveAt (T : List Nd) (S : CX) (i : Nat) : Prop :=
  (∃ (w : Nat) (x : One), S.σ.who i = some (w : Int) ∧ S.σ.ones[w]? = some x ∧ x.node = i ∧ x.free = false ∧ x.err = 0 ∧ (∀ a, x.c = some a → (S.χ a).recvs.length + (S.χ a).sends.length ≤ 1000000) ∧ (∀ s o, S.σ.t = some s → S.τ.one x.timer = some o → o.c = none)) ∨
  (∃ (k : Nat) (x : Aft), S.σ.who i = some (-(k : Int) - 1) ∧ k ≤ 1000 ∧ S.σ.afts[k]? = some x ∧ x.node = i ∧ kidsOf T (i : Int) = [])
theorem rmId_len (id : Int) (l : List It) : (rmId id l).length ≤ l.length := List.length_filter_le _ _
theorem stopT_len (S : CX) (id : Int) : (S.stopT id).τ.x.l.length ≤ S.τ.x.l.length := by
  unfold CX.stopT
  cases S.σ.t with
  | none => exact Nat.le_refl _
  | some s =>
    simp only []
    cases S.τ.one id with
    | none => exact Nat.le_refl _
    | some o => exact rmId_len _ _
theorem stopT_facts (S : CX) (id : Int) : (S.stopT id).σ = S.σ ∧ (S.stopT id).χ = S.χ ∧ (S.stopT id).τ.ones = S.τ.ones := by
  unfold CX.stopT
  cases S.σ.t with
  | none => exact ⟨rfl, rfl, rfl⟩
  | some s =>
    simp only []
    cases S.τ.one id <;> exact ⟨rfl, rfl, rfl⟩
theorem endT_facts (S : CX) (a : Option Nat) : (S.endT a).1.σ = S.σ ∧ (S.endT a).1.τ = S.τ ∧ ∀ b n, (S.χ b).recvs.length + (S.χ b).sends.length ≤ n → ((S.endT a).1.χ b).recvs.length + ((S.endT a).1.χ b).sends.length ≤ n := by
  cases a with
  | none => exact ⟨rfl, rfl, fun _ _ h => h⟩
  | some a =>
    refine ⟨rfl, rfl, fun b n h => ?_⟩
    simp only [CX.endT, updC]
    split
    · rename_i e; subst e
      unfold Ch.endS
      split
      · simp [Ch.ended]
      · exact h
    · exact h
/-- what a hit keeps -/
theorem hitL_keeps (err cause : Int) (acc : CRes) (i : Nat) : (hitL err cause acc i).1.σ.who = acc.1.σ.who ∧ (hitL err cause acc i).1.σ.tree = acc.1.σ.tree ∧ (hitL err cause acc i).1.σ.t = acc.1.σ.t ∧ (hitL err cause acc i).1.τ.ones = acc.1.τ.ones ∧ (hitL err cause acc i).1.τ.x.l.length ≤ acc.1.τ.x.l.length ∧
    (∀ b n, (acc.1.χ b).recvs.length + (acc.1.χ b).sends.length ≤ n → ((hitL err cause acc i).1.χ b).recvs.length + ((hitL err cause acc i).1.χ b).sends.length ≤ n) ∧ (hitL err cause acc i).2.1.length ≤ acc.2.1.length + 1 ∧ (hitL err cause acc i).2.2.length ≤ acc.2.2.length + 1 := by
  unfold hitL
  simp only
  split
  · split <;> simp
  · split
    · rename_i x hx
      have h1 := stopT_facts ((acc.1.setOne ((acc.1.σ.who i).getD 0).toNat { x with err := err, cause := cause }).endT x.c).1 x.timer
      have h2 := endT_facts (acc.1.setOne ((acc.1.σ.who i).getD 0).toNat { x with err := err, cause := cause }) x.c
      have h3 := stopT_len ((acc.1.setOne ((acc.1.σ.who i).getD 0).toNat { x with err := err, cause := cause }).endT x.c).1 x.timer
      simp only
      rw [h1.1, h1.2.1, h1.2.2, h2.1]
      rw [h2.2.1] at h3
      refine ⟨rfl, rfl, rfl, by rw [h2.2.1]; rfl, h3, ?_, by simp, by simp⟩
      intro b n hb
      exact h2.2.2 b n hb
    · simp
theorem one_eq {τ τ' : Tms} (h : τ'.ones = τ.ones) (id : Int) : τ'.one id = τ.one id := by
  unfold Tms.one Tms.has; rw [h]
theorem LiveAt.hit {T : List Nd} {acc : CRes} {i j : Nat} (err cause : Int) (h : LiveAt T acc.1 i) (hj : LiveAt T acc.1 j) (hij : i ≠ j) : LiveAt T (hitL err cause acc j).1 i := by
  have hk := hitL_keeps err cause acc j
  have hones : ∀ (w : Nat) (x : One), acc.1.σ.ones[w]? = some x → x.node = i → (hitL err cause acc j).1.σ.ones[w]? = some x := by
    intro w x hx hn
    unfold hitL
    simp only
    split
    · split <;> exact hx
    · rename_i hneg
      split
      · rename_i y hy
        simp only
        rw [(stopT_facts _ _).1, (endT_facts _ _).1]
        show (acc.1.σ.ones.set _ _)[w]? = _
        rw [List.getElem?_set_ne]
        · exact hx
        · intro e
          rcases hj with ⟨w2, y2, q1, q2, q3, _⟩ | ⟨k2, y2, q1, _⟩
          · rw [q1] at e hy
            simp at e hy
            rw [q2] at hy; cases hy
            subst e
            rw [q2] at hx; cases hx
            omega
          · rw [q1] at hneg; simp at hneg; omega
      · exact hx
  have hafts : ∀ (k : Nat) (x : Aft), acc.1.σ.afts[k]? = some x → x.node = i → (hitL err cause acc j).1.σ.afts[k]? = some x := by
    intro w x hx hn
    unfold hitL
    simp only
    split
    · rename_i hneg
      split
      · rename_i y hy
        show (acc.1.σ.afts.set _ _)[w]? = _
        rw [List.getElem?_set_ne]
        · exact hx
        · intro e
          rcases hj with ⟨w2, y2, q1, _⟩ | ⟨k2, y2, q1, q5, q2, q3, _⟩
          · rw [q1] at hneg; simp at hneg; omega
          · rw [q1] at e hy
            have e2 : (-(-(k2 : Int) - 1) - 1).toNat = k2 := by omega
            simp only [Option.getD_some, e2] at e hy
            rw [q2] at hy; cases hy
            subst e
            rw [q2] at hx; cases hx
            omega
      · exact hx
    · split
      · simp only
        rw [(stopT_facts _ _).1, (endT_facts _ _).1]
        exact hx
      · exact hx
  rcases h with ⟨w, x, h1, h2, h3, h4, h5, h6, h7⟩ | ⟨k, x, h1, h2, h3, h4, h5⟩
  · exact .inl ⟨w, x, by rw [hk.1]; exact h1, hones w x h2 h3, h3, h4, h5, fun a ha => hk.2.2.2.2.2.1 a _ (h6 a ha), fun s o hs ho => h7 s o (by rw [← hk.2.2.1]; exact hs) (by rw [← one_eq hk.2.2.2.1]; exact ho)⟩
  · exact .inr ⟨k, x, by rw [hk.1]; exact h1, h2, hafts k x h3 h4, h4, h5⟩
theorem LiveAt.tree {T : List Nd} {S : CX} {i : Nat} (h : LiveAt T S i) (ns : List Nd) : LiveAt T (S.setTree ns) i := h
end Go.AM


/- ctx: cancel is a walk. -/
set_option linter.unusedVariables false
set_option linter.unusedSimpArgs false
namespace Go.AM
end Go.AM


/- ctx: what is so of contexts; what is made, and who is cancelled; in plain Lean. -/
set_option linter.unusedVariables false
set_option linter.unusedSimpArgs false
namespace Go.AM
structure WF (S : CX) : Prop where
  tr : TreeOk S.σ.tree
  sz : S.σ.ones.length ≤ 64 ∧ S.σ.afts.length ≤ 64
  len : S.σ.tree.length = S.σ.ones.length + S.σ.afts.length
  who1 : ∀ (i : Nat) (x : One), S.σ.ones[i]? = some x → ∃ k : Nat, x.node = (k : Int) ∧ k < S.σ.tree.length ∧ S.σ.who k = some (i : Int)
  who2 : ∀ (j : Nat) (x : Aft), S.σ.afts[j]? = some x → ∃ k : Nat, x.node = (k : Int) ∧ k < S.σ.tree.length ∧ S.σ.who k = some (-(j : Int) - 1) ∧ kidsOf S.σ.tree (k : Int) = []
  cover : ∀ k : Nat, k < S.σ.tree.length → (∃ (i : Nat) (x : One), S.σ.who k = some (i : Int) ∧ S.σ.ones[i]? = some x ∧ x.node = (k : Int)) ∨ (∃ (j : Nat) (x : Aft), S.σ.who k = some (-(j : Int) - 1) ∧ S.σ.afts[j]? = some x ∧ x.node = (k : Int))
  live : ∀ (i k : Nat) (x : One) (n : Nd), S.σ.ones[i]? = some x → x.node = (k : Int) → S.σ.tree[k]? = some n → (n.linked = true ↔ x.free = false ∧ x.err = 0)
  chs : ∀ x ∈ S.σ.ones, ∀ a, x.c = some a → (S.χ a).recvs.length + (S.χ a).sends.length ≤ 1000000
  tms : ∀ x ∈ S.σ.ones, ∀ s o, S.σ.t = some s → S.τ.one x.timer = some o → o.c = none
  tlen : S.τ.x.l.length ≤ 1000000
/-! ### what hits make of each -/
structure Whos (S : CX) : Prop where
  w1 : ∀ (i : Nat) (x : One), S.σ.ones[i]? = some x → ∃ k : Nat, x.node = (k : Int) ∧ S.σ.who k = some (i : Int)
  w2 : ∀ (j : Nat) (x : Aft), S.σ.afts[j]? = some x → ∃ k : Nat, x.node = (k : Int) ∧ S.σ.who k = some (-(j : Int) - 1)
theorem hitL_ones (err cause : Int) {acc : CRes} {j : Nat} {T : List Nd} (hw : Whos acc.1) (hj : LiveAt T acc.1 j) :
    (∀ w : Nat, (hitL err cause acc j).1.σ.ones[w]? = (acc.1.σ.ones[w]?).map fun (x : One) => if x.node = (j : Int) then { x with err := err, cause := cause } else x) ∧
    (∀ w : Nat, (hitL err cause acc j).1.σ.afts[w]? = (acc.1.σ.afts[w]?).map fun (x : Aft) => if x.node = (j : Int) then { x with over := true } else x) := by
  rcases hj with ⟨w0, x0, q1, q2, q3, _⟩ | ⟨k0, x0, q1, q5, q2, q3, _⟩
  · have hnn : ¬ ((w0 : Int) < 0) := by omega
    have e : hitL err cause acc j = ((((acc.1.setOne w0 { x0 with err := err, cause := cause }).endT x0.c).1.stopT x0.timer), acc.2.1 ++ [⟨w0, err, cause, ((acc.1.setOne w0 { x0 with err := err, cause := cause }).endT x0.c).2⟩], acc.2.2) := by
      unfold hitL
      simp only [q1, Option.getD_some, hnn, if_false, Int.toNat_natCast, q2]
    rw [e]
    simp only
    rw [(stopT_facts _ _).1, (endT_facts _ _).1]
    refine ⟨fun w => ?_, fun w => ?_⟩
    · show (acc.1.σ.ones.set w0 _)[w]? = _
      by_cases hww : w0 = w
      · subst hww
        have hl : w0 < acc.1.σ.ones.length := (List.getElem?_eq_some_iff.1 q2).1
        rw [List.getElem?_set_self hl, q2]; simp [q3]
      · rw [List.getElem?_set_ne hww]
        cases hx : acc.1.σ.ones[w]? with
        | none => rfl
        | some y =>
          have : y.node ≠ (j : Int) := by
            intro h9
            obtain ⟨k, h1, h2⟩ := hw.w1 w y hx
            have : k = j := by omega
            subst this
            rw [q1] at h2; simp at h2; omega
          simp [this]
    · show acc.1.σ.afts[w]? = _
      cases hx : acc.1.σ.afts[w]? with
      | none => rfl
      | some y =>
        have : y.node ≠ (j : Int) := by
          intro h9
          obtain ⟨k, h1, h2⟩ := hw.w2 w y hx
          have : k = j := by omega
          subst this
          rw [q1] at h2; simp at h2; omega
        simp [this]
  · have hneg : (-(k0 : Int) - 1) < 0 := by omega
    have hk : (-(-(k0 : Int) - 1) - 1) = (k0 : Int) := by omega
    have e : hitL err cause acc j = ({ acc.1 with σ := { acc.1.σ with afts := acc.1.σ.afts.set k0 { x0 with over := true } } }, acc.2.1, acc.2.2 ++ [((k0 : Int), x0.prog)]) := by
      unfold hitL
      simp only [q1, Option.getD_some, hneg, if_true, hk, Int.toNat_natCast, q2]
    rw [e]
    refine ⟨fun w => ?_, fun w => ?_⟩
    · show acc.1.σ.ones[w]? = _
      cases hx : acc.1.σ.ones[w]? with
      | none => rfl
      | some y =>
        have : y.node ≠ (j : Int) := by
          intro h9
          obtain ⟨k, h1, h2⟩ := hw.w1 w y hx
          have : k = j := by omega
          subst this
          rw [q1] at h2; simp at h2; omega
        simp [this]
    · show (acc.1.σ.afts.set k0 _)[w]? = _
      by_cases hww : k0 = w
      · subst hww
        have hl : k0 < acc.1.σ.afts.length := (List.getElem?_eq_some_iff.1 q2).1
        rw [List.getElem?_set_self hl, q2]; simp [q3]
      · rw [List.getElem?_set_ne hww]
        cases hx : acc.1.σ.afts[w]? with
        | none => rfl
        | some y =>
          have : y.node ≠ (j : Int) := by
            intro h9
            obtain ⟨k, h1, h2⟩ := hw.w2 w y hx
            have : k = j := by omega
            subst this
            rw [q1] at h2; simp at h2; omega
          simp [this]
theorem Whos.hit {T : List Nd} (err cause : Int) {acc : CRes} {j : Nat} (hw : Whos acc.1) (hj : LiveAt T acc.1 j) : Whos (hitL err cause acc j).1 := by
  have hk := hitL_keeps err cause acc j
  obtain ⟨h1, h2⟩ := hitL_ones err cause hw hj
  refine ⟨fun i x hx => ?_, fun i x hx => ?_⟩
  · rw [h1] at hx
    cases e : acc.1.σ.ones[i]? with
    | none => rw [e] at hx; cases hx
    | some y =>
      rw [e] at hx
      obtain ⟨k, k1, k2⟩ := hw.w1 i y e
      simp at hx; subst hx
      exact ⟨k, by split <;> exact k1, by rw [hk.1]; exact k2⟩
  · rw [h2] at hx
    cases e : acc.1.σ.afts[i]? with
    | none => rw [e] at hx; cases hx
    | some y =>
      rw [e] at hx
      obtain ⟨k, k1, k2⟩ := hw.w2 i y e
      simp at hx; subst hx
      exact ⟨k, by split <;> exact k1, by rw [hk.1]; exact k2⟩
end Go.AM


/- ctx: what is made is as it should be; in plain Lean. -/
set_option linter.unusedVariables false
set_option linter.unusedSimpArgs false
namespace Go.AM
theorem Added.back {ns ms : List Nd} {parent : Int} {lk : Bool} (h : Added ns parent lk ms) {j : Nat} {m : Nd} (hm : ms[j]? = some m) : (j < ns.length ∧ ∃ n, ns[j]? = some n ∧ m.parent = n.parent ∧ m.linked = n.linked) ∨ (j = ns.length ∧ m.parent = parent ∧ m.linked = lk) := by
  have hj : j < ms.length := (List.getElem?_eq_some_iff.1 hm).1
  rw [h.len] at hj
  by_cases e : j < ns.length
  · obtain ⟨m', h1, h2, h3⟩ := h.old j _ (List.getElem?_eq_getElem e)
    rw [hm] at h1; cases h1
    exact .inl ⟨e, _, List.getElem?_eq_getElem e, h2, h3⟩
  · have : j = ns.length := by omega
    subst this
    obtain ⟨m', h1, h2, h3⟩ := h.new
    rw [hm] at h1; cases h1
    exact .inr ⟨rfl, h2, h3⟩
theorem Added.kids {ns ms : List Nd} {parent : Int} {lk : Bool} (h : Added ns parent lk ms) {k : Int} (hk : kidsOf ns k = []) (hp : parent ≠ k ∨ lk = false) : kidsOf ms k = [] := by
  rw [List.eq_nil_iff_forall_not_mem]
  intro i hi
  obtain ⟨m, h1, h2, h3⟩ := kidsOf_mem.1 hi
  rcases h.back h1 with ⟨_, n, e1, e2, e3⟩ | ⟨_, e2, e3⟩
  · have : i ∈ kidsOf ns k := kidsOf_mem.2 ⟨n, e1, by rw [← e3]; exact h2, by rw [← e2]; exact h3⟩
    rw [hk] at this; cases this
  · rcases hp with hp | hp
    · exact hp (by rw [← e2]; exact h3)
    · rw [h2] at e3; rw [hp] at e3; cases e3
theorem WF.node {S : CX} (h : WF S) {p : Nat} {up : One} (hup : S.σ.ones[p]? = some up) : hasT S.σ.tree up.node = true ∧ up.node ≠ -1 := by
  obtain ⟨k, h1, h2, _⟩ := h.who1 p up hup
  refine ⟨?_, by omega⟩
  simp [hasT, h1]; omega
theorem WF.not_aft {S : CX} (h : WF S) {p j : Nat} {up : One} {x : Aft} (hup : S.σ.ones[p]? = some up) (hx : S.σ.afts[j]? = some x) : up.node ≠ x.node := by
  intro e
  obtain ⟨k, h1, h2, h3⟩ := h.who1 p up hup
  obtain ⟨k', g1, g2, g3, _⟩ := h.who2 j x hx
  have : k = k' := by omega
  subst this
  rw [h3] at g3; simp at g3; omega
/-- a context more -/
theorem WF.add {S : CX} (h : WF S) {p : Nat} {up o : One} {χ' : Nat → Ch} (hup : S.σ.ones[p]? = some up) (hlen : S.σ.ones.length < 64) (ho : o.err = 0)
    (hχ : ∀ a n, (S.χ a).recvs.length + (S.χ a).sends.length ≤ n → (χ' a).recvs.length + (χ' a).sends.length ≤ n) (hc : ∀ a, o.c = some a → (χ' a).recvs.length + (χ' a).sends.length ≤ 1000000) :
    WF ({ S with σ := S.σ.add o up.node, χ := χ' } : CX) ∧ (S.σ.add o up.node).ones = S.σ.ones ++ [{ o with node := S.σ.tree.length, timer := -1 }] ∧ Added S.σ.tree up.node (!o.free) (S.σ.add o up.node).tree ∧ (S.σ.add o up.node).who = updI S.σ.who S.σ.tree.length (some (S.σ.ones.length : Int)) := by
  have hn := h.node hup
  have hlt : S.σ.tree.length < 1000 := by have := h.len; have := h.sz; omega
  obtain ⟨ms, e, had⟩ := treeAdd_ok (linked := !o.free) h.tr hlt (.inr hn.1)
  have hlk : ((!o.free) && decide (up.node ≠ -1)) = !o.free := by simp [hn.2]
  rw [hlk] at had
  have eo : (S.σ.add o up.node).ones = S.σ.ones ++ [{ o with node := S.σ.tree.length, timer := -1 }] := by simp [Cs.add, e]
  have et : (S.σ.add o up.node).tree = ms := by simp [Cs.add, e]
  have ew : (S.σ.add o up.node).who = updI S.σ.who S.σ.tree.length (some (S.σ.ones.length : Int)) := by simp [Cs.add, e]
  have ea : (S.σ.add o up.node).afts = S.σ.afts := rfl
  have oback : ∀ (w : Nat) (x : One), (S.σ.add o up.node).ones[w]? = some x → (w < S.σ.ones.length ∧ S.σ.ones[w]? = some x) ∨ (w = S.σ.ones.length ∧ x = { o with node := S.σ.tree.length, timer := -1 }) := by
    intro w x hx
    rw [eo] at hx
    by_cases hw : w < S.σ.ones.length
    · rw [List.getElem?_append_left hw] at hx; exact .inl ⟨hw, hx⟩
    · rw [List.getElem?_append_right (by omega)] at hx
      have hz : w - S.σ.ones.length = 0 := by
        rcases Nat.eq_zero_or_pos (w - S.σ.ones.length) with h9 | h9
        · exact h9
        · rw [List.getElem?_eq_none (by simp; omega)] at hx; cases hx
      rw [hz] at hx; simp at hx
      exact .inr ⟨by omega, hx.symm⟩
  have ofwd : ∀ (w : Nat) (x : One), S.σ.ones[w]? = some x → (S.σ.add o up.node).ones[w]? = some x := by
    intro w x hx
    have hw : w < S.σ.ones.length := (List.getElem?_eq_some_iff.1 hx).1
    rw [eo, List.getElem?_append_left hw]; exact hx
  have who_old : ∀ k : Nat, k < S.σ.tree.length → (S.σ.add o up.node).who k = S.σ.who k := by
    intro k hk
    rw [ew]; unfold updI
    rw [if_neg (by omega)]
  refine ⟨⟨by rw [et]; exact had.ok, ⟨by rw [eo]; simp; omega, h.sz.2⟩, ?_, ?_, ?_, ?_, ?_, ?_, ?_, h.tlen⟩, eo, by rw [et]; exact had, ew⟩
  · show (S.σ.add o up.node).tree.length = (S.σ.add o up.node).ones.length + S.σ.afts.length
    rw [et, had.len, eo, h.len]; simp; omega
  · intro w x hx
    show ∃ k, _ ∧ k < (S.σ.add o up.node).tree.length ∧ (S.σ.add o up.node).who k = _
    rw [et, had.len]
    rcases oback w x hx with ⟨_, h1⟩ | ⟨rfl, rfl⟩
    · obtain ⟨k, k1, k2, k3⟩ := h.who1 w x h1
      exact ⟨k, k1, by omega, by rw [who_old k k2]; exact k3⟩
    · exact ⟨S.σ.tree.length, rfl, by omega, by rw [ew]; simp [updI]⟩
  · intro w x hx
    show ∃ k, _ ∧ k < (S.σ.add o up.node).tree.length ∧ (S.σ.add o up.node).who k = _ ∧ kidsOf (S.σ.add o up.node).tree k = []
    rw [et, had.len]
    obtain ⟨k, k1, k2, k3, k4⟩ := h.who2 w x hx
    refine ⟨k, k1, by omega, by rw [who_old k k2]; exact k3, had.kids k4 (.inl ?_)⟩
    have := h.not_aft hup hx
    omega
  · intro k hk
    have hk' : k < (S.σ.add o up.node).tree.length := hk
    rw [et, had.len] at hk'
    by_cases e1 : k < S.σ.tree.length
    · rcases h.cover k e1 with ⟨w, x, c1, c2, c3⟩ | ⟨w, x, c1, c2, c3⟩
      · exact .inl ⟨w, x, by show (S.σ.add o up.node).who k = _; rw [who_old k e1]; exact c1, ofwd w x c2, c3⟩
      · exact .inr ⟨w, x, by show (S.σ.add o up.node).who k = _; rw [who_old k e1]; exact c1, c2, c3⟩
    · have : k = S.σ.tree.length := by omega
      subst this
      refine .inl ⟨S.σ.ones.length, { o with node := S.σ.tree.length, timer := -1 }, ?_, ?_, rfl⟩
      · show (S.σ.add o up.node).who _ = _
        rw [ew]; simp [updI]
      · show (S.σ.add o up.node).ones[_]? = _
        rw [eo]; simp
  · intro w k x n hx hk hn2
    have hn2' : ms[k]? = some n := by rw [← et]; exact hn2
    rcases had.back hn2' with ⟨b1, m, b2, b3, b4⟩ | ⟨b1, b3, b4⟩
    · rcases oback w x hx with ⟨_, h1⟩ | ⟨rfl, rfl⟩
      · rw [b4]; exact h.live w k x m h1 hk b2
      · simp at hk; omega
    · rcases oback w x hx with ⟨_, h1⟩ | ⟨rfl, rfl⟩
      · obtain ⟨k2, k3, k4, _⟩ := h.who1 w x h1
        omega
      · rw [b4]; simp [ho]
  · intro x hx a ha
    obtain ⟨w, hw⟩ := List.mem_iff_getElem?.1 hx
    rcases oback w x hw with ⟨_, h1⟩ | ⟨rfl, rfl⟩
    · exact hχ a _ (h.chs x (List.mem_of_getElem? h1) a ha)
    · exact hc a ha
  · intro x hx s o2 hs ho2
    obtain ⟨w, hw⟩ := List.mem_iff_getElem?.1 hx
    rcases oback w x hw with ⟨_, h1⟩ | ⟨rfl, rfl⟩
    · exact h.tms x (List.mem_of_getElem? h1) s o2 hs ho2
    · simp [Tms.one, Tms.has] at ho2
/-- an after more -/
theorem WF.aft {S : CX} (h : WF S) {p : Nat} {up : One} (hup : S.σ.ones[p]? = some up) (hlen : S.σ.afts.length < 64) (prog : Int) :
    WF ({ S with σ := S.σ.aft up prog } : CX) ∧ (S.σ.aft up prog).afts = S.σ.afts ++ [⟨S.σ.tree.length, prog, false⟩] ∧ Added S.σ.tree up.node true (S.σ.aft up prog).tree ∧ (S.σ.aft up prog).who = updI S.σ.who S.σ.tree.length (some (-(S.σ.afts.length : Int) - 1)) := by
  have hn := h.node hup
  have hlt : S.σ.tree.length < 1000 := by have := h.len; have := h.sz; omega
  obtain ⟨ms, e, had⟩ := treeAdd_ok (linked := true) h.tr hlt (.inr hn.1)
  have hlk : (true && decide (up.node ≠ -1)) = true := by simp [hn.2]
  rw [hlk] at had
  have eo : (S.σ.aft up prog).afts = S.σ.afts ++ [⟨S.σ.tree.length, prog, false⟩] := by simp [Cs.aft, e]
  have et : (S.σ.aft up prog).tree = ms := by simp [Cs.aft, e]
  have ew : (S.σ.aft up prog).who = updI S.σ.who S.σ.tree.length (some (-(S.σ.afts.length : Int) - 1)) := by simp [Cs.aft, e]
  have ea : (S.σ.aft up prog).ones = S.σ.ones := rfl
  have oback : ∀ (w : Nat) (x : Aft), (S.σ.aft up prog).afts[w]? = some x → (w < S.σ.afts.length ∧ S.σ.afts[w]? = some x) ∨ (w = S.σ.afts.length ∧ x = ⟨S.σ.tree.length, prog, false⟩) := by
    intro w x hx
    rw [eo] at hx
    by_cases hw : w < S.σ.afts.length
    · rw [List.getElem?_append_left hw] at hx; exact .inl ⟨hw, hx⟩
    · rw [List.getElem?_append_right (by omega)] at hx
      have hz : w - S.σ.afts.length = 0 := by
        rcases Nat.eq_zero_or_pos (w - S.σ.afts.length) with h9 | h9
        · exact h9
        · rw [List.getElem?_eq_none (by simp; omega)] at hx; cases hx
      rw [hz] at hx; simp at hx
      exact .inr ⟨by omega, hx.symm⟩
  have ofwd : ∀ (w : Nat) (x : Aft), S.σ.afts[w]? = some x → (S.σ.aft up prog).afts[w]? = some x := by
    intro w x hx
    have hw : w < S.σ.afts.length := (List.getElem?_eq_some_iff.1 hx).1
    rw [eo, List.getElem?_append_left hw]; exact hx
  have who_old : ∀ k : Nat, k < S.σ.tree.length → (S.σ.aft up prog).who k = S.σ.who k := by
    intro k hk
    rw [ew]; unfold updI
    rw [if_neg (by omega)]
  have kn : kidsOf S.σ.tree (S.σ.tree.length : Int) = [] := by
    rw [List.eq_nil_iff_forall_not_mem]
    intro i hi
    have := kidsOf_lt h.tr hi
    omega
  obtain ⟨kp, hkp1, hkp2, _⟩ := h.who1 p up hup
  refine ⟨⟨by rw [et]; exact had.ok, ⟨h.sz.1, by rw [eo]; simp; omega⟩, ?_, ?_, ?_, ?_, ?_, h.chs, h.tms, h.tlen⟩, eo, by rw [et]; exact had, ew⟩
  · show (S.σ.aft up prog).tree.length = S.σ.ones.length + (S.σ.aft up prog).afts.length
    rw [et, had.len, eo, h.len]; simp; omega
  · intro w x hx
    show ∃ k, _ ∧ k < (S.σ.aft up prog).tree.length ∧ (S.σ.aft up prog).who k = _
    rw [et, had.len]
    obtain ⟨k, k1, k2, k3⟩ := h.who1 w x hx
    exact ⟨k, k1, by omega, by rw [who_old k k2]; exact k3⟩
  · intro w x hx
    show ∃ k, _ ∧ k < (S.σ.aft up prog).tree.length ∧ (S.σ.aft up prog).who k = _ ∧ kidsOf (S.σ.aft up prog).tree k = []
    rw [et, had.len]
    rcases oback w x hx with ⟨_, h1⟩ | ⟨rfl, rfl⟩
    · obtain ⟨k, k1, k2, k3, k4⟩ := h.who2 w x h1
      refine ⟨k, k1, by omega, by rw [who_old k k2]; exact k3, had.kids k4 (.inl ?_)⟩
      have := h.not_aft hup h1
      omega
    · exact ⟨S.σ.tree.length, rfl, by omega, by rw [ew]; simp [updI], had.kids kn (.inl (by omega))⟩
  · intro k hk
    have hk' : k < (S.σ.aft up prog).tree.length := hk
    rw [et, had.len] at hk'
    by_cases e1 : k < S.σ.tree.length
    · rcases h.cover k e1 with ⟨w, x, c1, c2, c3⟩ | ⟨w, x, c1, c2, c3⟩
      · exact .inl ⟨w, x, by show (S.σ.aft up prog).who k = _; rw [who_old k e1]; exact c1, c2, c3⟩
      · exact .inr ⟨w, x, by show (S.σ.aft up prog).who k = _; rw [who_old k e1]; exact c1, ofwd w x c2, c3⟩
    · have : k = S.σ.tree.length := by omega
      subst this
      refine .inr ⟨S.σ.afts.length, ⟨S.σ.tree.length, prog, false⟩, ?_, ?_, rfl⟩
      · show (S.σ.aft up prog).who _ = _
        rw [ew]; simp [updI]
      · show (S.σ.aft up prog).afts[_]? = _
        rw [eo]; simp
  · intro w k x n hx hk hn2
    have hn2' : ms[k]? = some n := by rw [← et]; exact hn2
    rcases had.back hn2' with ⟨b1, m, b2, b3, b4⟩ | ⟨b1, b3, b4⟩
    · rw [b4]; exact h.live w k x m hx hk b2
    · obtain ⟨k2, k3, k4, _⟩ := h.who1 w x hx
      omega
end Go.AM


/- ctx: what a walk tells; what laws keep of memory. -/
set_option linter.unusedVariables false
set_option linter.unusedSimpArgs false
namespace Go.AM
/-! ### what laws keep of memory -/
section
variable {c : Nat} {S S' : CX} {L L2 : Lg}
theorem CDone.raw (h : CDone c S S' L L2) (e : L c = some (.abs (CtxP c S.σ))) (ho : OutC c S L) {r : Nat} {x : AB} (hr : L r = some (.raw x)) : L2 r = some (.raw x) := by
  rw [h.fr r (by rw [hr]; simp) (by rintro rfl; rw [hr] at e; cases e) (fun h9 => by have := (ho.tms r h9).2; rw [hr] at this; cases this) (fun o h8 h9 => by have := (ho.chs o h8 r h9).2.2; rw [hr] at this; cases this)]
  exact hr
/-- all raw blocks are kept -/
def RawK (L L2 : Lg) : Prop := ∀ r x, L r = some (.raw x) → L2 r = some (.raw x)
theorem RawK.refl (L : Lg) : RawK L L := fun _ _ h => h
theorem RawK.trans {L3 : Lg} (h : RawK L L2) (k : RawK L2 L3) : RawK L L3 := fun r x hr => k r x (h r x hr)
theorem RawK.osl (h : RawK L L2) {v : AV} {cs : List AV} {n size : Nat} (o : OSl L v cs n size) : OSl L2 v cs n size := o.mono fun b hb => by rw [o.block hb]; exact h _ _ (o.block hb)
theorem RawK.put (L : Lg) {b : Nat} (hb : L b = none) (d : LC) : RawK L (L.put b d) := fun r x hr => by
  rw [Lg.put_ne _ _ _ (by rintro rfl; rw [hb] at hr; cases hr)]; exact hr
end
theorem OutC.chan {c : Nat} {S : CX} {L : Lg} (ho : OutC c S L) {a : Nat} (hm : ∃ o ∈ S.σ.ones, o.c = some a) (y : Ch) : OutC c ({ S with χ := updC S.χ a y } : CX) (L.put a (.abs (ChanP a y))) := by
  obtain ⟨o1, h1, h2⟩ := hm
  have hs := ho.chs o1 h1 a h2
  refine ⟨fun s ht => ?_, fun o2 ho2 a2 ha2 => ?_⟩
  · have := ho.tms s ht
    refine ⟨this.1, ?_⟩
    rw [Lg.put_ne]; exact this.2
    rintro rfl; exact hs.2.1 ht
  · have := ho.chs o2 ho2 a2 ha2
    refine ⟨this.1, this.2.1, ?_⟩
    by_cases e : a2 = a
    · subst e; rw [Lg.put_same]; simp [updC]
    · rw [Lg.put_ne _ _ _ e]; simp [updC, e, this.2.2]
/-- a row of slices, read -/
theorem ResP.get {L0 K : Lg} {v1 v2 : AV} {ps : List (Lap × AV)} {sts : List (Int × Int)} {F : Nat → Option AFn} (h : ResP L0 K v1 v2 ps sts) {i : Nat} {p : Lap × AV} (hi : ps[i]? = some p) : ∃ b, K b = some (.raw (.cells (flatc lapc ps))) ∧
    (∀ (X : Lg) (k : AV → Lg → Prop), wpOp F (.iad 4) [v1, .i .i64 i] X k = k (.p (some (b, i * 4))) X) ∧ (∀ X : Lg, X b = K b → ∀ j, j < 4 → rdL X (b, i * 4 + j) none = (lapc p)[j]?) := by
  have hl : i < ps.length := (List.getElem?_eq_some_iff.1 hi).1
  obtain ⟨b, h1, h2, h3, h4⟩ := h.o1.iad (F := F) (x := (i : Int)) (by omega) (by omega)
  refine ⟨b, h2, fun X k => by simpa using h4 X k .i64, fun X hX j hj => ?_⟩
  rw [rdL_cell (by rw [hX]; exact h2), flatc_get (k := 4) (fun _ => rfl) ps i j p hi hj]
end Go.AM


/- what laws do with slices of their own. -/
set_option linter.unusedVariables false
set_option linter.unusedSimpArgs false
namespace Go.AM
variable {N : Nat → Nat} {F : Nat → Option AFn}
/-- all that was is there, but one block -/
def KeepE (o : Option Nat) (K K1 : Lg) : Prop := ∀ r d, K r = some d → o ≠ some r → K1 r = some d
theorem KeepE.osl {o : Option Nat} {K K1 : Lg} (h : KeepE o K K1) {v : AV} {cs : List AV} {n size : Nat} (s : OSl K v cs n size) (hn : ∀ b, slB v = some b → o ≠ some b) : OSl K1 v cs n size := s.mono fun b hb => by rw [s.block hb]; exact h b _ (s.block hb) (hn b hb)
end Go.AM


/- The code of functions, with names for their numbers, and what is left of its weakest preconditions. PRINTED by our printgen.py. -/
set_option linter.unusedVariables false
set_option maxRecDepth 100000
namespace Go.AM
end Go.AM

/- lapse: views, in plain; code, hangs, over, Sound, Behind. -/
set_option linter.unusedVariables false
set_option linter.unusedSimpArgs false
namespace Go.AM
variable {N : Nat → Nat} {F : Nat → Option AFn}
/-- all is there still -/
def SubL (K K' : Lg) : Prop := ∀ r d, K r = some d → K' r = some d
theorem SubL.refl (K : Lg) : SubL K K := fun _ _ h => h
theorem SubL.trans {A B C : Lg} (h : SubL A B) (k : SubL B C) : SubL A C := fun r d e => k r d (h r d e)
theorem SubL.put {K K' : Lg} (h : SubL K K') {b : Nat} (hb : K' b = none) (x : LC) : SubL K (K'.put b x) := fun r d e => by
  have := h r d e
  rw [Lg.put_ne]; exact this
  rintro rfl; rw [hb] at this; cases this
theorem SubL.sees {K K' : Lg} (h : SubL K K') : Sees K' K := Sees.drop h
structure View where
  par : Int
  link : Bool
  err : Int
  cause : Int
  dl : Int
  has : Bool
instance : Inhabited View := ⟨⟨0, false, 0, 0, 0, false⟩⟩
def vcl (v : View) : List AV := [.i .i64 v.par, .b v.link, .i .i64 v.err, .i .i64 v.cause, .i .i64 v.dl, .b v.has]
def View.code (v : View) : Bool := if v.err = 0 then decide (v.cause = 0) else if v.err = 1 then decide (1 ≤ v.cause) else if v.err = 2 then decide (1 ≤ v.cause) else false
def View.hangs (v up : View) : Bool := (decide (up.err = 0) || !decide (v.err = 0)) && (!up.has || (v.has && decide (v.dl ≤ up.dl)))
/-- a slice of views that is read -/
def SlR (K : Lg) (v : AV) (l : List View) : Prop := ∃ a cap ex, v = .sl a l.length cap ex ∧ (l = [] ∨ ∃ b off cs, a = some (b, off) ∧ (K b = some (.raw (.cells cs)) ∨ K b = some (.raw (.ro cs))) ∧ ∀ (i : Nat) (x : View), l[i]? = some x → off + i * 6 + 6 ≤ cs.length ∧ (cs.drop (off + i * 6)).take 6 = vcl x)
theorem SlR.len {K : Lg} {v : AV} {l : List View} (h : SlR K v l) (X : Lg) (k : AV → Lg → Prop) : wpOp F .lenSl [v] X k = k (.i .i64 l.length) X := by
  obtain ⟨a, cap, ex, rfl, _⟩ := h
  simp
theorem SlR.mono {K K' : Lg} {v : AV} {l : List View} (h : SlR K v l) (e : SubL K K') : SlR K' v l := by
  obtain ⟨a, cap, ex, rfl, h1 | ⟨b, off, cs, rfl, h2, h3⟩⟩ := h
  · exact ⟨_, _, _, rfl, .inl h1⟩
  · exact ⟨_, _, _, rfl, .inr ⟨b, off, cs, rfl, h2.imp (e _ _) (e _ _), h3⟩⟩
theorem drop_get {cs : List AV} {o n : Nat} {f : List AV} (h : (cs.drop o).take n = f) {j : Nat} (hj : j < n) : cs[o + j]? = f[j]? := by
  rw [← h, List.getElem?_take_of_lt hj, List.getElem?_drop]
theorem SlR.get {K : Lg} {v : AV} {l : List View} (h : SlR K v l) {i : Nat} {x : View} (hi : l[i]? = some x) : ∃ b o, (∀ (X : Lg) (k : AV → Lg → Prop), wpOp F (.iad 6) [v, .i .i64 i] X k = k (.p (some (b, o))) X) ∧
    (∀ X : Lg, SubL K X → (∀ j, j < 6 → rdL X (b, o + j) none = (vcl x)[j]?) ∧ rdL X (b, o) (some 6) = some (.agg (vcl x))) ∧ K b ≠ none := by
  obtain ⟨a, cap, ex, rfl, h1 | ⟨b, off, cs, rfl, h2, h3⟩⟩ := h
  · subst h1; simp at hi
  · have hl := (List.getElem?_eq_some_iff.1 hi).1
    obtain ⟨h4, h5⟩ := h3 i x hi
    refine ⟨b, off + i * 6, fun X k => ?_, fun X hX => ?_, ?_⟩
    · rw [wp_iad F X k 6 b off l.length cap ex .i64 i (by omega) (by omega)]
      simp
    · rcases h2 with h2 | h2
      · refine ⟨fun j hj => ?_, ?_⟩
        · rw [rdL_cell (hX _ _ h2), drop_get h5 hj]
        · rw [rdL_cells (hX _ _ h2) h4, h5]
      · refine ⟨fun j hj => ?_, ?_⟩
        · rw [rdL_ro (hX _ _ h2), drop_get h5 hj]
        · rw [rdL_ros (hX _ _ h2) h4, h5]
    · rcases h2 with h2 | h2 <;> rw [h2] <;> simp
end Go.AM


/- script: entries as bytes. -/
set_option linter.unusedVariables false
set_option linter.unusedSimpArgs false
namespace Go.AM
variable {N : Nat → Nat} {F : Nat → Option AFn}
/-- a slice that is read -/
def SlG {α : Type} (f : α → List AV) (z : Nat) (K : Lg) (v : AV) (l : List α) : Prop := ∃ a cap ex, v = .sl a l.length cap ex ∧ l.length ≤ cap ∧ (ex = 0 ∨ ex = z) ∧ ((l = [] ∧ a = none) ∨ ∃ b off cs, a = some (b, off) ∧ (K b = some (.raw (.cells cs)) ∨ K b = some (.raw (.ro cs))) ∧ off + l.length * z ≤ cs.length ∧ ∀ (i : Nat) (x : α), l[i]? = some x → (cs.drop (off + i * z)).take z = f x)
section
variable {α : Type} {f : α → List AV} {z : Nat}
theorem SlG.len {K : Lg} {v : AV} {l : List α} (h : SlG f z K v l) (X : Lg) (k : AV → Lg → Prop) : wpOp F .lenSl [v] X k = k (.i .i64 l.length) X := by
  obtain ⟨a, cap, ex, rfl, _⟩ := h
  simp
theorem SlG.mono {K K' : Lg} {v : AV} {l : List α} (h : SlG f z K v l) (e : SubL K K') : SlG f z K' v l := by
  obtain ⟨a, cap, ex, rfl, hc, he, h1 | ⟨b, off, cs, rfl, h2, h3⟩⟩ := h
  · exact ⟨_, _, _, rfl, hc, he, .inl h1⟩
  · exact ⟨_, _, _, rfl, hc, he, .inr ⟨b, off, cs, rfl, h2.imp (e _ _) (e _ _), h3⟩⟩
theorem row_le {i n z off m : Nat} (hi : i < n) (h : off + n * z ≤ m) : off + i * z + z ≤ m := by
  have : i * z + z ≤ n * z := by rw [← Nat.succ_mul]; exact Nat.mul_le_mul_right _ hi
  omega
theorem SlG.get {K : Lg} {v : AV} {l : List α} (h : SlG f z K v l) {i : Nat} {x : α} (hi : l[i]? = some x) : ∃ b o, (∀ (X : Lg) (k : AV → Lg → Prop), wpOp F (.iad z) [v, .i .i64 i] X k = k (.p (some (b, o))) X) ∧
    (∀ X : Lg, SubL K X → (∀ j, j < z → rdL X (b, o + j) none = (f x)[j]?) ∧ rdL X (b, o) (some z) = some (.agg (f x))) ∧ K b ≠ none := by
  obtain ⟨a, cap, ex, rfl, hc, he, ⟨h1, _⟩ | ⟨b, off, cs, rfl, h2, h6, h3⟩⟩ := h
  · subst h1; simp at hi
  · have hl := (List.getElem?_eq_some_iff.1 hi).1
    have h4 := row_le hl h6
    have h5 := h3 i x hi
    refine ⟨b, off + i * z, fun X k => ?_, fun X hX => ?_, ?_⟩
    · rw [wp_iad F X k z b off l.length cap ex .i64 i (by omega) (by omega)]
      simp
    · rcases h2 with h2 | h2
      · refine ⟨fun j hj => ?_, ?_⟩
        · rw [rdL_cell (hX _ _ h2), drop_get h5 hj]
        · rw [rdL_cells (hX _ _ h2) h4, h5]
      · refine ⟨fun j hj => ?_, ?_⟩
        · rw [rdL_ro (hX _ _ h2), drop_get h5 hj]
        · rw [rdL_ros (hX _ _ h2) h4, h5]
    · rcases h2 with h2 | h2 <;> rw [h2] <;> simp
/-- all its cells, at once -/
theorem SlG.all {K : Lg} {v : AV} {l : List α} (hf : ∀ x, (f x).length = z) (h : SlG f z K v l) : ∃ a cap ex, v = .sl a l.length cap ex ∧ ∀ X : Lg, SubL K X → rdCellsL X a (l.length * z) = some (flatc f l) := by
  obtain ⟨a, cap, ex, rfl, hc, he, ⟨h1, rfl⟩ | ⟨b, off, cs, rfl, h2, h6, h3⟩⟩ := h
  · subst h1
    exact ⟨none, cap, ex, rfl, fun X _ => by simp [rdCellsL, flatc]⟩
  · refine ⟨_, cap, ex, rfl, fun X hX => ?_⟩
    have hcells : ∀ (l : List α) (o : Nat), o + l.length * z ≤ cs.length → (∀ (i : Nat) (x : α), l[i]? = some x → (cs.drop (o + i * z)).take z = f x) → (cs.drop o).take (l.length * z) = flatc f l := by
      intro l
      induction l with
      | nil => intro o _ _; simp [flatc]
      | cons x r ih =>
        intro o ho hg
        have h0 := hg 0 x rfl
        have e1 : (x :: r).length * z = z + r.length * z := by rw [List.length_cons, Nat.add_mul, Nat.one_mul]; omega
        rw [e1] at ho ⊢
        rw [List.take_add, List.drop_drop]
        rw [ih (o + z) (by omega) (fun i y hy => by
          have := hg (i + 1) y hy
          have e2 : o + (i + 1) * z = o + z + i * z := by rw [Nat.add_mul]; omega
          rw [e2] at this; exact this)]
        simp only [Nat.zero_mul, Nat.add_zero] at h0
        rw [h0]; rfl
    have hcut : cut cs off (l.length * z) = some (flatc f l) := by
      simp [cut, ble_nat, h6, hcells l off h6 h3]
    rcases h2 with h2 | h2 <;> simp [rdCellsL, hX _ _ h2, AB.read, hcut]
end
/-! ### bytes -/
/-- a number's byte -/
def bt (n : Int) (i : Nat) : Int := wr .u8 ((wr .u64 n).fdiv (2 ^ (8 * i)))
def b8 (n : Int) : List Int := (List.range 8).map (bt n)
abbrev Ent := Int × Int × Int
def e3 (x : Ent) : List AV := [.i .i64 x.1, .i .i64 x.2.1, .i .i64 x.2.2]
end Go.AM


/- script: bytes as numbers; in plain Lean. -/
set_option linter.unusedVariables false
set_option linter.unusedSimpArgs false
namespace Go.AM
def isB (b : Int) : Prop := 0 ≤ b ∧ b < 256
end Go.AM


/- script: bytes as entries. -/
set_option linter.unusedVariables false
set_option linter.unusedSimpArgs false
namespace Go.AM
variable {N : Nat → Nat} {F : Nat → Option AFn}
end Go.AM


/- script: what is written is read; in plain Lean. -/
set_option linter.unusedVariables false
set_option linter.unusedSimpArgs false
namespace Go.AM
def in64 (n : Int) : Prop := -9223372036854775808 ≤ n ∧ n < 9223372036854775808
def inE (x : Ent) : Prop := in64 x.1 ∧ in64 x.2.1 ∧ in64 x.2.2
end Go.AM


/- rows: a slice of views among the arguments. -/
set_option linter.unusedVariables false
set_option linter.unusedSimpArgs false
namespace Go.AM
open Go.RowKit
end Go.AM


/- script: same, bytes, odd; rows with entries, with bytes. -/
set_option linter.unusedVariables false
set_option linter.unusedSimpArgs false
namespace Go.AM
open Go.RowKit
variable {N : Nat → Nat} {F : Nat → Option AFn}
/-! ### rows -/
def REnt := { x : Ent // inE x }
instance : Inhabited REnt := ⟨⟨(0, 0, 0), by unfold inE in64; simp⟩⟩
def RByt := { x : Int // isB x }
instance : Inhabited RByt := ⟨⟨0, by unfold isB; simp⟩⟩
end Go.AM


/- slices that begin as an empty literal. -/
set_option linter.unusedVariables false
set_option linter.unusedSimpArgs false
namespace Go.AM
variable {N : Nat → Nat} {F : Nat → Option AFn}
/-- a slice of one's own, or an empty one with a block -/
def OSe (K : Lg) (v : AV) (cs : List AV) (n size : Nat) : Prop := OSl K v cs n size ∨ (n = 0 ∧ cs = [] ∧ ∃ b, v = .sl (some (b, 0)) 0 0 0 ∧ K b = some (.raw (.cells [])))
theorem OSe.block {K : Lg} {v : AV} {cs : List AV} {n size : Nat} (h : OSe K v cs n size) {b : Nat} (e : slB v = some b) : K b = some (.raw (.cells cs)) := by
  rcases h with h | ⟨_, rfl, b', rfl, h⟩
  · exact h.block e
  · simp [slB] at e; subst e; exact h
/-- a slice is put behind one's own -/
theorem OSe.appF {α : Type} {f : α → List AV} {z bytes n : Nat} {K : Lg} {v src : AV} {cs : List AV} {l : List α} (hf : ∀ x, (f x).length = z) (h1 : (flatc f l).all AV.one = true) (hz : 0 < z) (h : OSe K v cs n z) (hs : SlG f z K src l) (hb : (n + l.length) * bytes ≤ 70368744177664)
    {k : AV → Lg → Prop} (hk : ∀ (v' : AV) (K1 : Lg), OSe K1 v' (cs ++ flatc f l) (n + l.length) z → KeepE (slB v) K K1 → (∀ b, slB v' = some b → K b = none ∨ slB v = some b) → k v' K1) : wpOp F (.app z bytes) [v, src] K k := by
  obtain ⟨a, cap, ex, rfl, hall⟩ := hs.all hf
  have hr := hall K (SubL.refl K)
  rw [wp_app]
  by_cases h0 : l.length = 0
  · have hl := List.length_eq_zero_iff.1 h0
    subst hl
    have same : k v K := hk v K (by simpa [flatc] using h) (fun r d hr _ => hr) (fun b hb => .inr hb)
    simp only [List.length_nil, Nat.zero_mul] at hr
    rcases h with h | ⟨_, _, b, rfl, _⟩
    · exact h.app0 rfl (by simpa [flatc] using hr) same
    · simp only [appW, List.length_nil, Nat.zero_mul, hr, appL]
      simpa [flatc] using same
  · have hlen := flatc_length (f := f) (k := z) hf l
    rcases h with h | ⟨rfl, rfl, b, rfl, hb'⟩
    · refine h.app (m := l.length) hz rfl (by omega) hr hlen h1 hb ?_
      intro b K1 g hO
      refine hk _ _ (.inl hO) ?_ ?_
      · intro r d hr hne
        have r2 : r ≠ b := by rintro rfl; rw [g.fresh] at hr; cases hr
        rw [g.same r r2 hne]; exact hr
      · intro q hq; simp [slB] at hq; subst hq; exact .inl g.fresh
    · refine appW_grow (L' := K) (old := []) hr h1 (by omega) hb (by simp [rdCellsL, hb', AB.read, cut, ble_nat]) (by simp [goneL]) ?_
      intro q hq
      refine hk _ _ (.inl (.inr ⟨q, z, by omega, rfl, .inr rfl, Lg.put_same _ _ _, by simp [hlen]⟩)) ?_ ?_
      · intro r d hr _
        rw [Lg.put_ne]; exact hr
        rintro rfl; rw [hq] at hr; cases hr
      · intro q' hq'; simp [slB] at hq'; subst hq'; exact .inl hq
theorem OSe.app {α : Type} {f : α → List AV} {z bytes n : Nat} {K : Lg} {v src : AV} {cs : List AV} {l : List α} (hf : ∀ x, (f x).length = z) (h1 : ∀ x, (f x).all AV.one = true) (hz : 0 < z) (h : OSe K v cs n z) (hs : SlG f z K src l) (hb : (n + l.length) * bytes ≤ 70368744177664)
    {k : AV → Lg → Prop} (hk : ∀ (v' : AV) (K1 : Lg), OSe K1 v' (cs ++ flatc f l) (n + l.length) z → KeepE (slB v) K K1 → (∀ b, slB v' = some b → K b = none ∨ slB v = some b) → k v' K1) : wpOp F (.app z bytes) [v, src] K k :=
  OSe.appF hf (flatc_one h1 l) hz h hs hb hk
end Go.AM


/- a row's arguments: slices whose cells hold slices. -/
set_option linter.unusedVariables false
namespace Go.AM
open Go.RowKit
/-- a slice that is read: what is in it, by f -/
def SlN {X : Type} (f : X → List AV) (K : Lg) (v : AV) (l : List X) : Prop := ∃ a cap, v = .sl a l.length cap 0 ∧ l.length ≤ cap ∧ ((l = [] ∧ (a = none → cap = 0)) ∨ ∃ b, a = some (b, 0) ∧ K b = some (.raw (.ro (l.flatMap f))))
theorem SlN.mono {X : Type} {f : X → List AV} {K K' : Lg} {v : AV} {l : List X} (h : SlN f K v l) (e : Ext2 K K') : SlN f K' v l := by
  obtain ⟨a, cap, h1, h2, h3⟩ := h
  exact ⟨a, cap, h1, h2, h3.imp id fun ⟨b, h4, h5⟩ => ⟨b, h4, e b _ h5⟩⟩
theorem cells_plain {w : World} {a : Addr} {z : Nat} {cs : List Value} (h : w.cells? 0 a z = some cs) (hz : 0 < z) : a.spot = none ∧ ∃ cur t fr, w.heap[a.block]? = some (.cells cur t fr) := by
  unfold World.cells? at h
  rw [if_pos (Nat.zero_le _)] at h
  have := mapM_some_get h 0 0 (by simp [hz])
  have h1 : w.cell? (a.add 0) = some (cs[0]'(by have := mapM_some_length h; simp at this; omega)) := by
    rw [this]; exact List.getElem?_eq_getElem _
  have h2 : a.add 0 = a := rfl
  rw [h2] at h1
  unfold World.cell? at h1
  split at h1
  · rename_i cur t fr hh
    split at h1
    · cases h1
    · rename_i hs
      refine ⟨by cases hsp : a.spot with | none => rfl | some y => rw [hsp] at hs; simp at hs, cur, t, fr, hh⟩
  · cases h1
/-- a slice of what is open by f, which may open more -/
theorem AR.nest {X : Type} (f : X → List AV) (R : Lg → X → Prop) (Rm : ∀ L L' x, Ext2 L L' → R L x → R L' x) {z : Nat} {H : Type} {enc : TypeId × Value → H} {P : Program} {W : World} {S : St} {β : Bt} {L : Lg} (h : AR W S β L) {t e : TypeId} {cs : List Value} {fuel : Nat} {y : DataW H × List MemPlace} (ht : P.underlying t = some (.slice e)) (hc : P.cellsOf e = z) (hz : 0 < z) (hfz : ∀ x, (f x).length = z)
    (hX : ∀ S β L, AR W S β L → ∀ n cs y, DataW.trod enc P W 0 (fun _ => true) true n e cs = some y → ∃ x S' β' L', AR W S' β' L' ∧ Ext β β' ∧ Ext2 L L' ∧ VRs β' (f x) cs ∧ R L' x)
    (hd : DataW.trod enc P W 0 (fun _ => true) true fuel t cs = some y) :
    ∃ v a l S' β' L', cs = [v] ∧ AR W S' β' L' ∧ Ext β β' ∧ Ext2 L L' ∧ VR β' a v ∧ SlN f L' a l ∧ ∀ x, x ∈ l → R L' x := by
  rcases DataW.trod_slice ht hd with ⟨h0, _⟩ | ⟨a, len, cap, elems, rest, n, _, h0, _, hb, hl, hm, hlen, hel, hre, _⟩
  · exact ⟨_, .sl none 0 0 0, [], S, β, L, h0, h, Ext.refl β, Ext2.refl L, .sln, ⟨none, 0, rfl, Nat.le_refl _, .inl ⟨rfl, fun _ => rfl⟩⟩, fun x hx => by cases hx⟩
  · rw [hc] at hel
    obtain ⟨hrl, hre⟩ := hre rfl
    rw [hc] at hre
    by_cases hcap : cap = 0
    · have hl0 : len = 0 := by omega
      subst hcap hl0
      refine ⟨_, .sl (some (S.nx, 0)) 0 0 0, [], _, _, L, h0, h.hole (0, 0, 0), h.ext _, Ext2.refl L, .sl (b := 0) (o := 0) (z := 0) (by simp [Bt.put]) (Nat.le_refl _) (Nat.le_refl _) (fun _ => rfl) (fun h9 => absurd rfl h9) (.inl rfl), ⟨_, 0, rfl, Nat.le_refl _, .inl ⟨rfl, fun h9 => by cases h9⟩⟩, fun x hx => by cases hx⟩
    · -- the address is a plain one
      have hone : ∃ cs0, W.cells? 0 a z = some cs0 := by
        by_cases hl0 : len = 0
        · have h1 := hre 0 (by omega)
          have h2 : ∃ y, rest[0]? = some y := ⟨_, List.getElem?_eq_getElem (by omega)⟩
          obtain ⟨y, hy⟩ := h2
          rw [hy, Option.bind_eq_some_iff] at h1
          obtain ⟨cs0, hcs, _⟩ := h1
          subst hl0
          simp only [Nat.add_zero, Nat.zero_mul] at hcs
          exact ⟨cs0, hcs⟩
        · have h1 := hel 0 (by omega)
          have h2 : ∃ y, elems[0]? = some y := ⟨_, List.getElem?_eq_getElem (by omega)⟩
          obtain ⟨y, hy⟩ := h2
          rw [hy, Option.bind_eq_some_iff] at h1
          obtain ⟨cs0, hcs, _⟩ := h1
          simp only [Nat.zero_mul] at hcs
          exact ⟨cs0, hcs⟩
      obtain ⟨cs0, hcs0⟩ := hone
      obtain ⟨hsp, cur, tt, fr, hh⟩ := cells_plain hcs0 hz
      obtain ⟨ab, aoff, asp⟩ := a
      simp only at hsp hh
      subst hsp
      -- element by element
      have step : ∀ i, i ≤ len → ∃ (l : List X) (S' : St) (β' : Bt) (L' : Lg), l.length = i ∧ AR W S' β' L' ∧ Ext β β' ∧ Ext2 L L' ∧ (∀ x, x ∈ l → R L' x) ∧
          ∀ (j : Nat) (x : X), l[j]? = some x → ∃ cj, W.cells? 0 (Addr.add ⟨ab, aoff, none⟩ (j * z)) z = some cj ∧ VRs β' (f x) cj := by
        intro i
        induction i with
        | zero => exact fun _ => ⟨[], S, β, L, rfl, h, Ext.refl β, Ext2.refl L, (fun x hx => by cases hx), (fun j x hx => by simp at hx)⟩
        | succ i ih =>
          intro hi
          obtain ⟨l, S1, β1, L1, g1, g2, g3, g4, g5, g6⟩ := ih (by omega)
          have h1 := hel i (by omega)
          have h2 : ∃ y, elems[i]? = some y := ⟨_, List.getElem?_eq_getElem (by omega)⟩
          obtain ⟨y, hy⟩ := h2
          rw [hy, Option.bind_eq_some_iff] at h1
          obtain ⟨ci, hci, hty⟩ := h1
          obtain ⟨x, S2, β2, L2, k1, k2, k3, k4, k5⟩ := hX S1 β1 L1 g2 _ _ _ hty
          refine ⟨l ++ [x], S2, β2, L2, by simp [g1], k1, g3.trans k2, g4.trans k3, ?_, ?_⟩
          · intro u hu
            rcases List.mem_append.1 hu with hu | hu
            · exact Rm _ _ _ k3 (g5 u hu)
            · simp at hu; rw [hu]; exact k5
          · intro j u hu
            by_cases hj : j < l.length
            · rw [List.getElem?_append_left hj] at hu
              obtain ⟨cj, q1, q2⟩ := g6 j u hu
              exact ⟨cj, q1, q2.mono k2⟩
            · rw [List.getElem?_append_right (by omega)] at hu
              have hj0 : j - l.length = 0 := by
                have := (List.getElem?_eq_some_iff.1 hu).1
                simp at this; omega
              rw [hj0] at hu
              simp only [List.getElem?_cons_zero, Option.some.injEq] at hu
              subst hu
              have : j = i := by omega
              subst this
              exact ⟨ci, hci, k4⟩
      obtain ⟨l, S1, β1, L1, g1, g2, g3, g4, g5, g6⟩ := step len (Nat.le_refl _)
      have hcr : CellsR β1 (l.flatMap f) aoff cur := by
        intro k u hu
        obtain ⟨i, j, x, h1, h2, h3⟩ := flat_get l (fun x _ => hfz x) k u hu
        obtain ⟨ci, hci, hv⟩ := g6 i x h1
        obtain ⟨w, hw, hr⟩ := hv.get h2
        refine ⟨w, ?_, hr⟩
        unfold World.cells? at hci
        rw [if_pos (Nat.zero_le _)] at hci
        have hjz : j < z := by have := (List.getElem?_eq_some_iff.1 h2).1; rw [hfz] at this; exact this
        have := mapM_some_get hci j j (by simp [hjz])
        rw [hw, Go.WideShapes.add_plain, Go.WideShapes.add_plain] at this
        simp only [World.cell?, hh, Option.isSome_none, Bool.false_eq_true, if_false] at this
        rw [h3, ← this, Nat.add_assoc]
      refine ⟨_, .sl (some (S1.nx, 0)) len cap 0, l, _, _, _, h0, g2.slice hh hcr, g3.trans (g2.ext _), g4.trans ((Ext2.refl L1).put (g2.mod.fresh (Nat.le_refl _)) _), .sl (b := ab) (o := aoff) (z := 0) (by simp [Bt.put]) hl (Nat.le_refl _) (fun _ => rfl) (fun h9 => absurd rfl h9) (.inr (by simp)), ⟨some (S1.nx, 0), cap, by rw [g1], by omega, .inr ⟨S1.nx, rfl, Lg.put_same _ _ _⟩⟩, fun x hx => Rm _ _ _ ((Ext2.refl L1).put (g2.mod.fresh (Nat.le_refl _)) _) (g5 x hx)⟩
end Go.AM

/- slices that are read, empty ones wherever they lie. -/
set_option linter.unusedVariables false
set_option linter.unusedSimpArgs false
namespace Go.AM
variable {N : Nat → Nat} {F : Nat → Option AFn}
def SlQ {α : Type} (f : α → List AV) (z : Nat) (K : Lg) (v : AV) (l : List α) : Prop := ∃ a cap ex, v = .sl a l.length cap ex ∧ l.length ≤ cap ∧ (ex = 0 ∨ ex = z) ∧ (l = [] ∨ ∃ b off cs, a = some (b, off) ∧ (K b = some (.raw (.cells cs)) ∨ K b = some (.raw (.ro cs))) ∧ off + l.length * z ≤ cs.length ∧ ∀ (i : Nat) (x : α), l[i]? = some x → (cs.drop (off + i * z)).take z = f x)
section
variable {α : Type} {f : α → List AV} {z : Nat}
theorem SlG.toQ {K : Lg} {v : AV} {l : List α} (h : SlG f z K v l) : SlQ f z K v l := by
  obtain ⟨a, cap, ex, h1, h2, h3, h4⟩ := h
  exact ⟨a, cap, ex, h1, h2, h3, h4.imp (fun h => h.1) id⟩
theorem SlQ.len {K : Lg} {v : AV} {l : List α} (h : SlQ f z K v l) (X : Lg) (k : AV → Lg → Prop) : wpOp F .lenSl [v] X k = k (.i .i64 l.length) X := by
  obtain ⟨a, cap, ex, rfl, _⟩ := h
  simp
theorem SlQ.mono {K K' : Lg} {v : AV} {l : List α} (h : SlQ f z K v l) (e : SubL K K') : SlQ f z K' v l := by
  obtain ⟨a, cap, ex, rfl, hc, he, h1 | ⟨b, off, cs, rfl, h2, h3⟩⟩ := h
  · exact ⟨_, _, _, rfl, hc, he, .inl h1⟩
  · exact ⟨_, _, _, rfl, hc, he, .inr ⟨b, off, cs, rfl, h2.imp (e _ _) (e _ _), h3⟩⟩
theorem SlQ.toG {K : Lg} {v : AV} {l : List α} (h : SlQ f z K v l) (hl : l ≠ []) : SlG f z K v l := by
  obtain ⟨a, cap, ex, h1, h2, h3, h4⟩ := h
  exact ⟨a, cap, ex, h1, h2, h3, .inr (h4.resolve_left hl)⟩
theorem SlQ.get {K : Lg} {v : AV} {l : List α} (h : SlQ f z K v l) {i : Nat} {x : α} (hi : l[i]? = some x) : ∃ b o, (∀ (X : Lg) (k : AV → Lg → Prop), wpOp F (.iad z) [v, .i .i64 i] X k = k (.p (some (b, o))) X) ∧
    (∀ X : Lg, SubL K X → (∀ j, j < z → rdL X (b, o + j) none = (f x)[j]?) ∧ rdL X (b, o) (some z) = some (.agg (f x))) ∧ K b ≠ none :=
  (h.toG (by rintro rfl; simp at hi)).get hi
theorem flatc_flatQ (f : α → List AV) : ∀ l : List α, l.flatMap f = flatc f l
  | [] => rfl
  | x :: r => by rw [List.flatMap_cons, flatc_flatQ f r]; rfl
theorem SlN.toQ {K : Lg} {v : AV} {l : List α} (hf : ∀ x, (f x).length = z) (h : SlN f K v l) : SlQ f z K v l := by
  obtain ⟨a, cap, rfl, hc, ⟨h1, _⟩ | ⟨b, rfl, h3⟩⟩ := h
  · exact ⟨_, _, _, rfl, hc, .inl rfl, .inl h1⟩
  · refine ⟨_, cap, 0, rfl, hc, .inl rfl, .inr ⟨b, 0, flatc f l, rfl, .inr (by rw [← flatc_flatQ]; exact h3), by rw [flatc_length hf]; omega, fun i x hi => ?_⟩⟩
    have := flatc_at (f := f) (k := z) hf l i x hi
    simpa using this.1
end
end Go.AM


/- prog: which programs may be. -/
set_option linter.unusedVariables false
set_option linter.unusedSimpArgs false
namespace Go.AM
variable {N : Nat → Nat} {F : Nat → Option AFn}
def regP (n : Int) : Bool := decide (0 ≤ n) && decide (n < 8)
theorem register_spec (hf : H_prog_register N F) (n : Int) (L : Lg) : CallL F (N k_prog_register) [.i .i64 n] L fun v L' => v = .b (regP n) ∧ L' = L := by
  refine CallL.opq ?_
  intro Q hQ
  apply r_prog_register hf.code
  unfold D_prog_register_1
  by_cases c1 : 0 ≤ n
  · simp [c1]
    exact ⟨_, Sees.refl _, hQ _ _ ⟨by simp [regP, c1], rfl⟩⟩
  · simp [c1]
    exact ⟨_, Sees.refl _, hQ _ _ ⟨by simp [regP, c1], rfl⟩⟩
def mayP (k n pl : Int) : Bool := if k = 114 then regP n else if k = 112 then decide (0 ≤ n) && decide (n ≤ pl) else if k = 103 then decide (0 ≤ n) && decide (n < 16) else if k = 45 then decide (n = 0) else true
theorem may_spec (hf : H_prog_may N F) (k n pl : Int) (L : Lg) : CallL F (N k_prog_may) [.i .u8 k, .i .i64 n, .i .i64 pl] L fun v L' => v = .b (mayP k n pl) ∧ L' = L := by
  refine CallL.opq ?_
  intro Q hQ
  apply r_prog_may hf.code
  unfold D_prog_may_1
  by_cases c1 : k = 114
  · simp [c1]
    refine (register_spec hf.prog_register n L).mono ?_
    rintro _ K' ⟨rfl, rfl⟩
    simp
    exact ⟨_, Sees.refl _, hQ _ _ ⟨by simp [mayP, c1], rfl⟩⟩
  by_cases c2 : k = 112
  · by_cases d1 : 0 ≤ n
    · simp [c1, c2, d1]
      exact ⟨_, Sees.refl _, hQ _ _ ⟨by simp [mayP, c1, c2, d1], rfl⟩⟩
    · simp [c1, c2, d1]
      exact ⟨_, Sees.refl _, hQ _ _ ⟨by simp [mayP, c1, c2, d1], rfl⟩⟩
  by_cases c3 : k = 103
  · by_cases d1 : 0 ≤ n
    · simp [c1, c2, c3, d1]
      exact ⟨_, Sees.refl _, hQ _ _ ⟨by simp [mayP, c1, c2, c3, d1], rfl⟩⟩
    · simp [c1, c2, c3, d1]
      exact ⟨_, Sees.refl _, hQ _ _ ⟨by simp [mayP, c1, c2, c3, d1], rfl⟩⟩
  by_cases c4 : k = 45
  · simp [c1, c2, c3, c4]
    exact ⟨_, Sees.refl _, hQ _ _ ⟨by simp [mayP, c1, c2, c3, c4], rfl⟩⟩
  · simp [c1, c2, c3, c4]
    exact ⟨_, Sees.refl _, hQ _ _ ⟨by simp [mayP, c1, c2, c3, c4], rfl⟩⟩
structure Cs3 where
  send : Bool
  chan : Int
  val : Int
  deriving DecidableEq
def Cs3.cells (c : Cs3) : List AV := [.b c.send, .i .i64 c.chan, .i .i64 c.val]
theorem Cs3.len (c : Cs3) : c.cells.length = 3 := rfl
def badC (c : Cs3) : Bool := !regP c.chan || !regP c.val || (!c.send && decide (c.val ≠ 0))
theorem good1_spec (hf : H_prog_good_1 N F) (c : Cs3) (L : Lg) : CallL F (N k_prog_good_1) [.agg c.cells] L fun v L' => v = .b (badC c) ∧ L' = L := by
  refine CallL.opq ?_
  intro Q hQ
  apply r_prog_good_1 hf.code
  unfold D_prog_good_1_1
  simp
  rw [newL_box_agg _ _ _ (by rfl)]
  intro b hb
  have h0 : (L.put b (.raw (.cells c.cells))) b = some (.raw (.cells c.cells)) := Lg.put_same _ _ _
  have f0 : rdL (L.put b (.raw (.cells c.cells))) (b, 0) none = some (.b c.send) := by rw [rdL_cell h0]; rfl
  have f1 : rdL (L.put b (.raw (.cells c.cells))) (b, 1) none = some (.i .i64 c.chan) := by rw [rdL_cell h0]; rfl
  have f2 : rdL (L.put b (.raw (.cells c.cells))) (b, 2) none = some (.i .i64 c.val) := by rw [rdL_cell h0]; rfl
  have se : Sees (L.put b (.raw (.cells c.cells))) L := ((Ext2.refl L).put hb _).sees
  simp [f1]
  refine (register_spec hf.prog_register c.chan _).mono ?_
  rintro _ K' ⟨rfl, hK⟩
  subst hK
  cases e1 : regP c.chan with
  | false =>
    simp
    exact ⟨_, se, hQ _ _ ⟨by simp [badC, e1], rfl⟩⟩
  | true =>
    simp [f2]
    refine (register_spec hf.prog_register c.val _).mono ?_
    rintro _ K' ⟨rfl, hK⟩
    subst hK
    cases e2 : regP c.val with
    | false =>
      simp
      exact ⟨_, se, hQ _ _ ⟨by simp [badC, e1, e2], rfl⟩⟩
    | true =>
      cases e3 : c.send with
      | true =>
        simp [f0, e3]
        exact ⟨_, se, hQ _ _ ⟨by simp [badC, e1, e2, e3], rfl⟩⟩
      | false =>
        simp [f0, f2, e3]
        exact ⟨_, se, hQ _ _ ⟨by simp [badC, e1, e2, e3], rfl⟩⟩
theorem containsC_spec (hf : H_slices_ContainsFunc_CaseCase N F) {L : Lg} {α : Type} {g : α → List AV} {s : AV} {ws : List α} (hs : SlQ g 3 L s ws) (hl : ws.length ≤ 1000000) {f : Nat} {fst cap : List AV} {p : α → Bool}
    (hso : ∀ w, w ∈ ws → CallL F f (fst ++ (.agg (g w)) :: cap) L fun v L' => v = .b (p w) ∧ L' = L) : CallL F (N k_slices_ContainsFunc_CaseCase) [s, .fn f fst cap] L fun v L' => v = .b (ws.any p) ∧ L' = L := by
  apply r_slices_ContainsFunc_CaseCase hf.code
  unfold D_slices_ContainsFunc_CaseCase_1
  have key : CallL F (N k_slices_IndexFunc_CaseCase) [s, .fn f fst cap] L fun v L' => (∃ i : Int, v = .i .i64 i ∧ (decide (0 ≤ i) = ws.any p)) ∧ L' = L := by
    apply r_slices_IndexFunc_CaseCase hf.slices_IndexFunc_CaseCase.code
    unfold D_slices_IndexFunc_CaseCase_1 D_slices_IndexFunc_CaseCase_4
    have hlen := fun X k => hs.len (F := F) X k
    simp [D_slices_IndexFunc_CaseCase_6, hlen]
    refine loopW_intro (fun n l' L' => ∃ i : Nat, i ≤ ws.length ∧ n = ws.length - i ∧ (∀ x, x ∈ ws.take i → p x = false) ∧ L' = L ∧ l' 0 = s ∧ l' 1 = .fn f fst cap ∧ l' 7 = .i .i64 ws.length ∧ l' 8 = .i .i64 i)
      ws.length ⟨0, by omega, by omega, by simp, rfl, by simp, by simp, by simp, by simp⟩ ?_
    rintro n l' t L' ⟨i, hi, hn, hA, rfl, l0, l1, l7, l8⟩
    unfold D_slices_IndexFunc_CaseCase_7
    rw [l0, l1, l7, l8]
    by_cases hlt : i < ws.length
    · have hw : ws[i]? = some ws[i] := List.getElem?_eq_getElem hlt
      obtain ⟨b, o, h1, h2, h3⟩ := hs.get (F := F) hw
      have h4 := (h2 L' (fun _ _ h => h)).2
      have e1 : ((i : Int) < (ws.length : Int)) := by omega
      simp [hlt, h1, h4]
      refine (hso ws[i] (List.getElem_mem _)).mono ?_
      rintro _ L2 ⟨rfl, rfl⟩
      rw [condW_bool]
      refine ⟨fun hp => ?_, fun hp => ?_⟩
      · simp
        have : ws.any p = true := List.any_eq_true.2 ⟨ws[i], List.getElem_mem _, hp⟩
        simpa using this
      · have e2 : wr .i64 ((i : Int) + 1) = ((i + 1 : Nat) : Int) := by rw [wr_id (by omega) (by omega)]; omega
        simp
        refine ⟨ws.length - (i + 1), by omega, i + 1, by omega, rfl, ?_, l0, l1, l7, e2⟩
        intro x hx
        rw [List.take_add_one, hw] at hx
        rcases List.mem_append.1 hx with hx | hx
        · exact hA x hx
        · simp at hx; rw [hx]; exact hp
    · have e1 : ¬ ((i : Int) < (ws.length : Int)) := by omega
      have e2 : i = ws.length := by omega
      simp [hlt, D_slices_IndexFunc_CaseCase_3]
      rw [e2, List.take_length] at hA
      simpa using hA
  refine key.mono ?_
  rintro _ _ ⟨⟨i, rfl, hi⟩, rfl⟩
  simp [← hi]
theorem containsI_spec (hf : H_slices_ContainsFunc_InstrInstr N F) {L : Lg} {α : Type} {g : α → List AV} {s : AV} {ws : List α} (hs : SlQ g 6 L s ws) (hl : ws.length ≤ 1000000) {f : Nat} {fst cap : List AV} {p : α → Bool}
    (hso : ∀ w, w ∈ ws → CallL F f (fst ++ (.agg (g w)) :: cap) L fun v L' => v = .b (p w) ∧ L' = L) : CallL F (N k_slices_ContainsFunc_InstrInstr) [s, .fn f fst cap] L fun v L' => v = .b (ws.any p) ∧ L' = L := by
  apply r_slices_ContainsFunc_InstrInstr hf.code
  unfold D_slices_ContainsFunc_InstrInstr_1
  have key : CallL F (N k_slices_IndexFunc_InstrInstr) [s, .fn f fst cap] L fun v L' => (∃ i : Int, v = .i .i64 i ∧ (decide (0 ≤ i) = ws.any p)) ∧ L' = L := by
    apply r_slices_IndexFunc_InstrInstr hf.slices_IndexFunc_InstrInstr.code
    unfold D_slices_IndexFunc_InstrInstr_1 D_slices_IndexFunc_InstrInstr_4
    have hlen := fun X k => hs.len (F := F) X k
    simp [D_slices_IndexFunc_InstrInstr_6, hlen]
    refine loopW_intro (fun n l' L' => ∃ i : Nat, i ≤ ws.length ∧ n = ws.length - i ∧ (∀ x, x ∈ ws.take i → p x = false) ∧ L' = L ∧ l' 0 = s ∧ l' 1 = .fn f fst cap ∧ l' 7 = .i .i64 ws.length ∧ l' 8 = .i .i64 i)
      ws.length ⟨0, by omega, by omega, by simp, rfl, by simp, by simp, by simp, by simp⟩ ?_
    rintro n l' t L' ⟨i, hi, hn, hA, rfl, l0, l1, l7, l8⟩
    unfold D_slices_IndexFunc_InstrInstr_7
    rw [l0, l1, l7, l8]
    by_cases hlt : i < ws.length
    · have hw : ws[i]? = some ws[i] := List.getElem?_eq_getElem hlt
      obtain ⟨b, o, h1, h2, h3⟩ := hs.get (F := F) hw
      have h4 := (h2 L' (fun _ _ h => h)).2
      have e1 : ((i : Int) < (ws.length : Int)) := by omega
      simp [hlt, h1, h4]
      refine (hso ws[i] (List.getElem_mem _)).mono ?_
      rintro _ L2 ⟨rfl, rfl⟩
      rw [condW_bool]
      refine ⟨fun hp => ?_, fun hp => ?_⟩
      · simp
        have : ws.any p = true := List.any_eq_true.2 ⟨ws[i], List.getElem_mem _, hp⟩
        simpa using this
      · have e2 : wr .i64 ((i : Int) + 1) = ((i + 1 : Nat) : Int) := by rw [wr_id (by omega) (by omega)]; omega
        simp
        refine ⟨ws.length - (i + 1), by omega, i + 1, by omega, rfl, ?_, l0, l1, l7, e2⟩
        intro x hx
        rw [List.take_add_one, hw] at hx
        rcases List.mem_append.1 hx with hx | hx
        · exact hA x hx
        · simp at hx; rw [hx]; exact hp
    · have e1 : ¬ ((i : Int) < (ws.length : Int)) := by omega
      have e2 : i = ws.length := by omega
      simp [hlt, D_slices_IndexFunc_InstrInstr_3]
      rw [e2, List.take_length] at hA
      simpa using hA
  refine key.mono ?_
  rintro _ _ ⟨⟨i, rfl, hi⟩, rfl⟩
  simp [← hi]
/-! ### an instruction -/
def fieldsL : List UInt8 := [114, 110, 45, 114, 114, 45, 114, 110, 45, 112, 45, 45, 114, 112, 45, 114, 45, 45, 45, 45, 45, 114, 103, 45, 114, 110, 45, 114, 114, 45, 114, 114, 114, 114, 45, 45, 114, 114, 45, 114, 114, 45, 114, 114, 114, 114, 45, 45, 114, 114, 114, 114, 114, 114, 114, 114, 103, 114, 114, 45, 114, 114, 114, 114, 114, 45, 114, 114, 114, 114, 114, 114, 114, 114, 45, 114, 114, 45, 114, 114, 45, 114, 114, 45, 114, 114, 45, 114, 114, 114, 114, 114, 103, 114, 114, 45]
structure Ins where
  op : Int
  a : Int
  b : Int
  c : Int
  cs : List Cs3
  df : Bool
  deriving DecidableEq
def Ins.cells (i : Ins) (cv : AV) : List AV := [.i .i64 i.op, .i .i64 i.a, .i .i64 i.b, .i .i64 i.c, cv, .b i.df]
def Ins.abc (i : Ins) : List Int := [i.a, i.b, i.c]
def fldB (op : Int) (k : Nat) : Int := ((fieldsL.getD (3 * (op - 1) + k).toNat 0).toNat : Int)
def fldOk (i : Ins) (pl : Int) (k : Nat) : Bool := mayP (fldB i.op k) (i.abc.getD k 0) pl
def goodP (i : Ins) (pl : Int) : Bool := decide (1 ≤ i.op) && decide (i.op ≤ 32) && (decide (i.op = 15) || (i.cs.isEmpty && !i.df)) && decide (i.cs.length ≤ 16) && (fldOk i pl 0 && fldOk i pl 1 && fldOk i pl 2) && !(i.cs.any badC)
theorem good5_spec (hf : H_prog_good N F) {L : Lg} {i : Ins} {cv : AV} (hc : SlQ Cs3.cells 3 L cv i.cs) (hn : i.cs.length ≤ 16) (h1 : 1 ≤ i.op) (h2 : i.op ≤ 32) {pl : Int} {b1 : Nat} {K : Lg} (hb : K b1 = some (.raw (.cells (i.cells cv)))) (hs : SubL L K)
    {l : Env} (l1 : l 1 = .i .i64 pl) (l2 : l 2 = .p (some (b1, 0))) {Q : AV → Lg → Prop} (hQ : ∀ K', SubL L K' → ∃ L', Sees K' L' ∧ Q (.b (fldOk i pl 0 && fldOk i pl 1 && fldOk i pl 2 && !(i.cs.any badC))) L') : D_prog_good_5 F N Q l K := by
  have f0 : ∀ K', SubL K K' → rdL K' (b1, 0) none = some (.i .i64 i.op) := fun K' h => by rw [rdL_cell (h _ _ hb)]; rfl
  have f1 : rdL K (b1, 1) none = some (.i .i64 i.a) := by rw [rdL_cell hb]; rfl
  have f2 : rdL K (b1, 2) none = some (.i .i64 i.b) := by rw [rdL_cell hb]; rfl
  have f3 : rdL K (b1, 3) none = some (.i .i64 i.c) := by rw [rdL_cell hb]; rfl
  have f4 : ∀ K', SubL K K' → rdL K' (b1, 4) none = some cv := fun K' h => by rw [rdL_cell (h _ _ hb)]; rfl
  unfold D_prog_good_5
  simp [l2, f1, f2, f3]
  rw [newL_bslice (c := [.i .i64 i.a, .i .i64 i.b, .i .i64 i.c]) _ _ (by simp [reps, fillP, splice, ble_nat, beq_nat, AV.cellsOf]) (by simp)]
  intro b2 hb2
  have s2 : SubL K (K.put b2 (.raw (.cells [.i .i64 i.a, .i .i64 i.b, .i .i64 i.c]))) := fun r d hd => by rw [Lg.put_ne _ _ _ (by rintro rfl; rw [hb2] at hd; cases hd)]; exact hd
  have hb2' : (K.put b2 (.raw (.cells [.i .i64 i.a, .i .i64 i.b, .i .i64 i.c]))) b2 = some (.raw (.cells [.i .i64 i.a, .i .i64 i.b, .i .i64 i.c])) := Lg.put_same _ _ _
  generalize hK2 : K.put b2 (.raw (.cells [.i .i64 i.a, .i .i64 i.b, .i .i64 i.c])) = K2 at s2 hb2'
  simp
  unfold D_prog_good_7
  obtain ⟨I, hI⟩ : ∃ I : Nat → Env → Lg → Prop, I = fun m E K' => ∃ k : Nat, m + k = 3 ∧ K' = K2 ∧ E 1 = .i .i64 pl ∧ E 2 = .p (some (b1, 0)) ∧ E 42 = .sl (some (b2, 0)) 3 3 0 ∧ E 43 = .i .i64 3 ∧ E 44 = .i .i64 k ∧ (∀ j, j < k → fldOk i pl j = true) := ⟨_, rfl⟩
  refine loopW_intro I 3 ?_ ?_
  · rw [hI]
    exact ⟨0, by omega, rfl, by simp [l1], by simp [l2], by simp, by simp, by simp, by omega⟩
  intro m E t K' hi
  rw [hI] at hi
  obtain ⟨k, hm, rfl, e1, e2, e42, e43, e44, hall⟩ := hi
  unfold D_prog_good_8
  rw [e1, e2, e42, e43, e44]
  by_cases hk : k < 3
  · have e3 : (k : Int) < 3 := by omega
    have hg : rdL K' (b2, k) none = some (.i .i64 (i.abc.getD k 0)) := by
      rw [rdL_cell hb2']
      have : k = 0 ∨ k = 1 ∨ k = 2 := by omega
      rcases this with rfl | rfl | rfl <;> rfl
    have w1 : wr .i64 (i.op - 1) = i.op - 1 := wr_id (by omega) (by omega)
    have w2 : wr .i64 (3 * (i.op - 1)) = 3 * (i.op - 1) := wr_id (by omega) (by omega)
    have w3 : wr .i64 (3 * (i.op - 1) + k) = 3 * (i.op - 1) + k := wr_id (by omega) (by omega)
    simp [e3, wp_iad _ _ _ 1 b2 0 3 3 0 .i64 (k : Int) (Int.natCast_nonneg _) e3, hg, f0 K' s2, w1, w2, w3]
    have hx0 : 0 ≤ 3 * (i.op - 1) + k := by omega
    have hx1 : 3 * (i.op - 1) + k < ((fieldsL.length : Nat) : Int) := by have : fieldsL.length = 96 := rfl; omega
    have hby : ((fieldsL[(3 * (i.op - 1) + k).toNat]'(by omega)).toNat : Int) = fldB i.op k := by
      unfold fldB
      rw [List.getD, List.getElem?_eq_getElem (by omega)]; rfl
    have ei := fun (k' : AV → Lg → Prop) => wp_ixS (F := F) (L := K') (k := k') fieldsL .i64 _ hx0 hx1
    refine Eq.mpr (ei _) ?_
    rw [hby]
    refine (may_spec hf.prog_may (fldB i.op k) (i.abc[k]?.getD 0) pl K').mono ?_
    rintro _ K3 ⟨rfl, hK3⟩
    subst hK3
    have hok : mayP (fldB i.op k) (i.abc[k]?.getD 0) pl = fldOk i pl k := rfl
    rw [hok]
    cases hv : fldOk i pl k with
    | false =>
      simp
      have hfin : (fldOk i pl 0 && fldOk i pl 1 && fldOk i pl 2 && !(i.cs.any badC)) = false := by
        have : k = 0 ∨ k = 1 ∨ k = 2 := by omega
        rcases this with rfl | rfl | rfl <;> simp [hv]
      show ∃ L', Sees _ L' ∧ Q (.b false) L'
      rw [← hfin]
      exact hQ _ fun r d hd => s2 r d (hs r d hd)
    | true =>
      have w4 : wr .i64 ((k : Int) + 1) = ((k + 1 : Nat) : Int) := by rw [wr_id (by omega) (by omega)]; omega
      simp [w4]
      rw [hI]
      refine ⟨m - 1, by omega, k + 1, by omega, rfl, by simp [e1], by simp [e2], by simp [e42], by simp [e43], by simp, ?_⟩
      intro j hj
      by_cases hjk : j = k
      · rw [hjk]; exact hv
      · exact hall j (by omega)
  · have e3 : ¬ (k : Int) < 3 := by omega
    simp [e3]
    unfold D_prog_good_4
    simp [f4 K' s2]
    refine (containsC_spec hf.slices_ContainsFunc_CaseCase (hc.mono fun r d hd => s2 r d (hs r d hd)) (by omega) (p := badC) fun w _ => ?_).mono ?_
    · exact good1_spec hf.prog_good_1 w K'
    rintro _ K3 ⟨rfl, hK3⟩
    subst hK3
    have hfin : (fldOk i pl 0 && fldOk i pl 1 && fldOk i pl 2 && !(i.cs.any badC)) = !(i.cs.any badC) := by
      rw [hall 0 (by omega), hall 1 (by omega), hall 2 (by omega)]; simp
    have := hQ K3 fun r d hd => s2 r d (hs r d hd)
    rw [hfin] at this
    simp
    obtain ⟨L', g1, g2⟩ := this
    exact ⟨L', g1, by simpa using g2⟩
theorem good_spec (hf : H_prog_good N F) {L : Lg} {i : Ins} {cv : AV} (hc : SlQ Cs3.cells 3 L cv i.cs) (pl : Int) : CallL F (N k_prog_good) [.agg (i.cells cv), .i .i64 pl] L fun v L' => v = .b (goodP i pl) ∧ L' = L := by
  refine CallL.opq ?_
  intro Q hQ
  apply r_prog_good hf.code
  unfold D_prog_good_1
  have hcv : cv.one = true := by obtain ⟨a, cap, ex, rfl, _⟩ := hc; rfl
  have hone : (i.cells cv).all AV.one = true := by simp [Ins.cells, hcv]
  simp
  rw [newL_box_agg _ _ _ hone]
  intro b1 hb1
  have hb : (L.put b1 (.raw (.cells (i.cells cv)))) b1 = some (.raw (.cells (i.cells cv))) := Lg.put_same _ _ _
  have hs : SubL L (L.put b1 (.raw (.cells (i.cells cv)))) := fun r d hd => by rw [Lg.put_ne _ _ _ (by rintro rfl; rw [hb1] at hd; cases hd)]; exact hd
  generalize hK : L.put b1 (.raw (.cells (i.cells cv))) = K at hb hs
  have f0 : rdL K (b1, 0) none = some (.i .i64 i.op) := by rw [rdL_cell hb]; rfl
  have f4 : rdL K (b1, 4) none = some cv := by rw [rdL_cell hb]; rfl
  have f5 : rdL K (b1, 5) none = some (.b i.df) := by rw [rdL_cell hb]; rfl
  have hlen := fun X k => hc.len (F := F) X k
  have no : goodP i pl = false → Q (.b false) L := fun h => by have := hQ (.b (goodP i pl)) L ⟨rfl, rfl⟩; rwa [h] at this
  have se : Sees K L := Ext2.sees hs
  have D5 : 1 ≤ i.op → i.op ≤ 32 → i.cs.length ≤ 16 → (i.op = 15 ∨ (i.cs = [] ∧ i.df = false)) → ∀ {l : Env}, l 1 = .i .i64 pl → l 2 = .p (some (b1, 0)) → D_prog_good_5 F N Q l K := by
    intro c1 c2 c3 c4 l l1 l2
    refine good5_spec hf hc c3 c1 c2 hb hs l1 l2 fun K' hK' => ⟨L, Ext2.sees hK', ?_⟩
    have : goodP i pl = (fldOk i pl 0 && fldOk i pl 1 && fldOk i pl 2 && !(i.cs.any badC)) := by
      rcases c4 with c4 | ⟨c4, c5⟩ <;> simp [goodP, c1, c2, c3, c4, *]
    rw [← this]
    exact hQ _ _ ⟨rfl, rfl⟩
  unfold D_prog_good_2
  by_cases c1 : i.op < 1
  · simp [f0, c1]
    exact ⟨_, se, no (by have : ¬ 1 ≤ i.op := by omega
                         simp [goodP, this])⟩
  by_cases c2 : 32 < i.op
  · simp [f0, c1, c2]
    exact ⟨_, se, no (by have : ¬ i.op ≤ 32 := by omega
                         simp [goodP, this])⟩
  have d1 : 1 ≤ i.op := by omega
  have d2 : i.op ≤ 32 := by omega
  by_cases c3 : i.op = 15
  · by_cases c6 : 16 < i.cs.length
    · have e6 : (16 : Int) < (i.cs.length : Int) := by omega
      simp [f0, f4, c1, c2, c3, hlen, e6]
      exact ⟨_, se, no (by have : ¬ i.cs.length ≤ 16 := by omega
                           simp [goodP, this])⟩
    · have e6 : ¬ (16 : Int) < (i.cs.length : Int) := by omega
      simp [f0, f4, c1, c2, c3, hlen, e6]
      exact D5 d1 d2 (by omega) (.inl c3) (by simp) (by simp)
  · by_cases c4 : i.cs = []
    · have e4 : i.cs.length = 0 := by rw [c4]; rfl
      cases c5 : i.df with
      | true =>
        simp [f0, f4, f5, c1, c2, c3, hlen, e4, c5]
        exact ⟨_, se, no (by simp [goodP, c3, c5])⟩
      | false =>
        simp [f0, f4, f5, c1, c2, c3, hlen, e4, c5]
        exact D5 d1 d2 (by omega) (.inr ⟨c4, c5⟩) (by simp) (by simp)
    · have e4 : 0 < i.cs.length := List.length_pos_iff.2 c4
      simp [f0, f4, f5, c1, c2, c3, hlen, e4, c4]
      exact ⟨_, se, no (by simp [goodP, c3, c4])⟩
/-- a program, as it is read: each instruction, and its cases' slice -/
def PrL (L : Lg) (v : AV) (p : List (Ins × AV)) : Prop := SlQ (fun x : Ins × AV => x.1.cells x.2) 6 L v p ∧ ∀ x, x ∈ p → SlQ Cs3.cells 3 L x.2 x.1.cs
def checkP (p : List Ins) : Bool := decide (p.length ≤ 100) && p.all fun i => goodP i p.length
theorem check1_spec (hf : H_prog_Check_1 N F) {L : Lg} {v : AV} {p : List (Ins × AV)} (hp : PrL L v p) {b : Nat} (hb : L b = some (.raw (.cells [v]))) {x : Ins × AV} (hx : x ∈ p) :
    CallL F (N k_prog_Check_1) ([] ++ (.agg (x.1.cells x.2)) :: [.p (some (b, 0))]) L fun y L' => y = .b (!goodP x.1 p.length) ∧ L' = L := by
  refine CallL.opq ?_
  intro Q hQ
  apply r_prog_Check_1 hf.code
  unfold D_prog_Check_1_1
  have hc := hp.2 x hx
  have hcv : x.2.one = true := by obtain ⟨a, cap, ex, e, _⟩ := hc; rw [e]; rfl
  have hone : (x.1.cells x.2).all AV.one = true := by simp [Ins.cells, hcv]
  simp
  rw [newL_box_agg _ _ _ hone]
  intro b1 hb1
  have h1 : (L.put b1 (.raw (.cells (x.1.cells x.2)))) b1 = some (.raw (.cells (x.1.cells x.2))) := Lg.put_same _ _ _
  have hs : SubL L (L.put b1 (.raw (.cells (x.1.cells x.2)))) := fun r d hd => by rw [Lg.put_ne _ _ _ (by rintro rfl; rw [hb1] at hd; cases hd)]; exact hd
  have g6 : rdL (L.put b1 (.raw (.cells (x.1.cells x.2)))) (b1, 0) (some 6) = some (.agg (x.1.cells x.2)) := by rw [rdL_cells h1 (by simp [Ins.cells])]; rfl
  have g0 : rdL (L.put b1 (.raw (.cells (x.1.cells x.2)))) (b, 0) none = some v := by rw [rdL_cell (hs _ _ hb)]; rfl
  simp [g6, g0, hp.1.len]
  refine (good_spec hf.prog_good (hc.mono hs) p.length).mono ?_
  rintro _ K3 ⟨rfl, hK3⟩
  rw [hK3]
  simp
  exact ⟨_, Ext2.sees hs, hQ _ _ ⟨by simp, rfl⟩⟩
theorem check_spec (hf : H_prog_Check N F) {L : Lg} {v : AV} {p : List (Ins × AV)} (hp : PrL L v p) (hl : p.length ≤ 1000000) :
    CallL F (N k_prog_Check) [v] L fun y L' => y = .i .i64 (if checkP (p.map (·.1)) = true then 0 else 1) ∧ L' = L := by
  refine CallL.opq ?_
  intro Q hQ
  apply r_prog_Check hf.code
  unfold D_prog_Check_1
  have hv : v.cellsOf = some [v] := by obtain ⟨a, cap, ex, e, _⟩ := hp.1; rw [e]; rfl
  have hlen := fun X k => hp.1.len (F := F) X k
  simp
  rw [newL_box v L _ hv]
  intro b hb
  have h1 : (L.put b (.raw (.cells [v]))) b = some (.raw (.cells [v])) := Lg.put_same _ _ _
  have hs : SubL L (L.put b (.raw (.cells [v]))) := fun r d hd => by rw [Lg.put_ne _ _ _ (by rintro rfl; rw [hb] at hd; cases hd)]; exact hd
  have g0 : rdL (L.put b (.raw (.cells [v]))) (b, 0) none = some v := by rw [rdL_cell h1]; rfl
  by_cases c1 : 100 < p.length
  · have e1 : (100 : Int) < (p.length : Int) := by omega
    have e3 : ¬ (p.length : Int) ≤ 100 := by omega
    simp [g0, hlen, e1, e3]
    exact ⟨_, Ext2.sees hs, hQ _ _ ⟨by have : ¬ p.length ≤ 100 := by omega
                                       simp [checkP, this], rfl⟩⟩
  · have e1 : ¬ (100 : Int) < (p.length : Int) := by omega
    simp [g0, hlen, e1]
    refine (containsI_spec hf.slices_ContainsFunc_InstrInstr (hp.1.mono hs) hl (p := fun x => !goodP x.1 p.length) fun x hx => check1_spec hf.prog_Check_1 ⟨hp.1.mono hs, fun x hx => (hp.2 x hx).mono hs⟩ h1 hx).mono ?_
    rintro _ K3 ⟨rfl, hK3⟩
    rw [hK3]
    have e2 : checkP (p.map (·.1)) = !(p.any fun x => !goodP x.1 p.length) := by
      have : p.length ≤ 100 := by omega
      simp [checkP, this, List.all_map, List.all_eq_not_any_not]
      rfl
    cases hh : p.any fun x => !goodP x.1 p.length with
    | true =>
      rw [hh] at e2
      have e4 : (p.length : Int) ≤ 100 := by omega
      simp [e4, e1]
      exact ⟨_, Ext2.sees hs, hQ _ _ ⟨by rw [e2]; rfl, rfl⟩⟩
    | false =>
      rw [hh] at e2
      have e4 : (p.length : Int) ≤ 100 := by omega
      simp [e4, e1]
      exact ⟨_, Ext2.sees hs, hQ _ _ ⟨by rw [e2]; rfl, rfl⟩⟩
end Go.AM


/- prog: All. -/
set_option linter.unusedVariables false
set_option linter.unusedSimpArgs false
namespace Go.AM
variable {N : Nat → Nat} {F : Nat → Option AFn}
def startsP (i : Ins) : Int := if i.op = 8 then i.b else if i.op = 19 then i.c else if i.op = 31 then i.c else -1
theorem starts_spec (hf : H_prog_starts N F) (i : Ins) {cv : AV} (hcv : cv.one = true) (L : Lg) : CallL F (N k_prog_starts) [.agg (i.cells cv)] L fun v L' => v = .i .i64 (startsP i) ∧ L' = L := by
  refine CallL.opq ?_
  intro Q hQ
  apply r_prog_starts hf.code
  unfold D_prog_starts_1
  have hone : (i.cells cv).all AV.one = true := by simp [Ins.cells, hcv]
  simp
  rw [newL_box_agg _ _ _ hone]
  intro b1 hb1
  have hb : (L.put b1 (.raw (.cells (i.cells cv)))) b1 = some (.raw (.cells (i.cells cv))) := Lg.put_same _ _ _
  have se : Sees (L.put b1 (.raw (.cells (i.cells cv)))) L := ((Ext2.refl L).put hb1 _).sees
  generalize hK : L.put b1 (.raw (.cells (i.cells cv))) = K at hb se
  have f0 : rdL K (b1, 0) none = some (.i .i64 i.op) := by rw [rdL_cell hb]; rfl
  have f2 : rdL K (b1, 2) none = some (.i .i64 i.b) := by rw [rdL_cell hb]; rfl
  have f3 : rdL K (b1, 3) none = some (.i .i64 i.c) := by rw [rdL_cell hb]; rfl
  by_cases c1 : i.op = 8
  · simp [f0, f2, c1]
    exact ⟨_, se, hQ _ _ ⟨by simp [startsP, c1], rfl⟩⟩
  by_cases c2 : i.op = 19
  · simp [f0, f3, c1, c2]
    exact ⟨_, se, hQ _ _ ⟨by simp [startsP, c1, c2], rfl⟩⟩
  by_cases c3 : i.op = 31
  · simp [f0, f3, c1, c2, c3]
    exact ⟨_, se, hQ _ _ ⟨by simp [startsP, c1, c2, c3], rfl⟩⟩
  · simp [f0, f3, c1, c2, c3]
    exact ⟨_, se, hQ _ _ ⟨by simp [startsP, c1, c2, c3], rfl⟩⟩
/-- programs, as they are read -/
def PsL (L : Lg) (v : AV) (ps : List (AV × List (Ins × AV))) : Prop := SlQ (fun x : AV × List (Ins × AV) => [x.1]) 1 L v ps ∧ ∀ x, x ∈ ps → PrL L x.1 x.2 ∧ x.2.length ≤ 1000000
def insOf (p : List (Ins × AV)) : List Ins := p.map (·.1)
def allP (ps : List (List Ins)) : Bool := decide (1 ≤ ps.length) && decide (ps.length ≤ 16) && ps.all fun p => checkP p && !(p.any fun i => decide ((ps.length : Int) ≤ startsP i))
theorem all1_spec (hf : H_prog_All_1 N F) {L : Lg} {v : AV} {n : Nat} (hv : ∀ (X : Lg) (k : AV → Lg → Prop), wpOp F .lenSl [v] X k = k (.i .i64 n) X) {b : Nat} (hb : L b = some (.raw (.cells [v]))) {x : Ins × AV} (hx : x.2.one = true) (hsl : ∃ a m c e, v = .sl a m c e) :
    CallL F (N k_prog_All_1) ([] ++ (.agg (x.1.cells x.2)) :: [.p (some (b, 0))]) L fun y L' => y = .b (decide ((n : Int) ≤ startsP x.1)) ∧ L' = L := by
  refine CallL.opq ?_
  intro Q hQ
  apply r_prog_All_1 hf.code
  unfold D_prog_All_1_1
  have hone : (x.1.cells x.2).all AV.one = true := by simp [Ins.cells, hx]
  simp
  rw [newL_box_agg _ _ _ hone]
  intro b1 hb1
  have h1 : (L.put b1 (.raw (.cells (x.1.cells x.2)))) b1 = some (.raw (.cells (x.1.cells x.2))) := Lg.put_same _ _ _
  have hs : SubL L (L.put b1 (.raw (.cells (x.1.cells x.2)))) := fun r d hd => by rw [Lg.put_ne _ _ _ (by rintro rfl; rw [hb1] at hd; cases hd)]; exact hd
  have g6 : rdL (L.put b1 (.raw (.cells (x.1.cells x.2)))) (b1, 0) (some 6) = some (.agg (x.1.cells x.2)) := by rw [rdL_cells h1 (by simp [Ins.cells])]; rfl
  have g0 : rdL (L.put b1 (.raw (.cells (x.1.cells x.2)))) (b, 0) none = some v := by rw [rdL_cell (hs _ _ hb)]; rfl
  simp [g6]
  refine (starts_spec hf.prog_starts x.1 hx _).mono ?_
  rintro _ K3 ⟨rfl, hK3⟩
  rw [hK3]
  simp [g0, hv]
  refine ⟨?_, ⟨_, Ext2.sees hs, hQ _ _ ⟨by simp, rfl⟩⟩⟩
  obtain ⟨a, m, c, e, rfl⟩ := hsl
  rcases a with _ | ⟨x1, x2⟩ <;> simp [againV, semRL, rLdL, g0, sameV, same1]
theorem all_spec (hf : H_prog_All N F) {L : Lg} {v : AV} {ps : List (AV × List (Ins × AV))} (hp : PsL L v ps) (hl : ps.length ≤ 1000000) :
    CallL F (N k_prog_All) [v] L fun y L' => y = .i .i64 (if allP (ps.map fun x => insOf x.2) = true then 0 else 1) ∧ L' = L := by
  refine CallL.opq ?_
  intro Q hQ
  apply r_prog_All hf.code
  unfold D_prog_All_1
  have hv : v.cellsOf = some [v] := by obtain ⟨a, cap, ex, e, _⟩ := hp.1; rw [e]; rfl
  have hlen := fun X k => hp.1.len (F := F) X k
  simp
  rw [newL_box v L _ hv]
  intro b hb
  have h1 : (L.put b (.raw (.cells [v]))) b = some (.raw (.cells [v])) := Lg.put_same _ _ _
  have hs : SubL L (L.put b (.raw (.cells [v]))) := fun r d hd => by rw [Lg.put_ne _ _ _ (by rintro rfl; rw [hb] at hd; cases hd)]; exact hd
  generalize hK : L.put b (.raw (.cells [v])) = K at h1 hs
  have se : Sees K L := Ext2.sees hs
  have g0 : rdL K (b, 0) none = some v := by rw [rdL_cell h1]; rfl
  have no : allP (ps.map fun x => insOf x.2) = false → Q (.i .i64 1) L := fun h => by have := hQ (.i .i64 (if allP (ps.map fun x => insOf x.2) = true then 0 else 1)) L ⟨rfl, rfl⟩; rw [h] at this; exact this
  unfold D_prog_All_2
  by_cases c1 : ps.length < 1
  · have e1 : (ps.length : Int) < 1 := by omega
    simp [g0, hlen, e1]
    exact ⟨_, se, no (by have : ¬ 1 ≤ ps.length := by omega
                         simp [allP, this])⟩
  by_cases c2 : 16 < ps.length
  · have e1 : ¬ (ps.length : Int) < 1 := by omega
    have e2 : (16 : Int) < (ps.length : Int) := by omega
    simp [g0, hlen, e1, e2]
    exact ⟨_, se, no (by have : ¬ ps.length ≤ 16 := by omega
                         simp [allP, this])⟩
  have e1 : ¬ (ps.length : Int) < 1 := by omega
  have e2 : ¬ (16 : Int) < (ps.length : Int) := by omega
  simp [g0, hlen, e1, e2]
  unfold D_prog_All_5
  simp [g0, hlen]
  unfold D_prog_All_7
  have bad : ∀ x, x ∈ ps → (checkP (insOf x.2) && !((insOf x.2).any fun i => decide ((ps.length : Int) ≤ startsP i))) = false → Q (.i .i64 1) L := fun x hx h => no (by
    have : (ps.map fun x => insOf x.2).all (fun p => checkP p && !(p.any fun i => decide (((ps.map fun x => insOf x.2).length : Int) ≤ startsP i))) = false := by
      rw [List.all_eq_false]
      refine ⟨insOf x.2, List.mem_map.2 ⟨x, hx, rfl⟩, ?_⟩
      rw [List.length_map, h]; simp
    unfold allP
    rw [this]; simp)
  obtain ⟨I, hI⟩ : ∃ I : Nat → Env → Lg → Prop, I = fun m E K' => ∃ k : Nat, m + k = ps.length ∧ K' = K ∧ E 1 = .p (some (b, 0)) ∧ E 13 = v ∧ E 14 = .i .i64 ps.length ∧ E 15 = .i .i64 k ∧
      (∀ x, x ∈ ps.take k → (checkP (insOf x.2) && !((insOf x.2).any fun i => decide ((ps.length : Int) ≤ startsP i))) = true) := ⟨_, rfl⟩
  refine loopW_intro I ps.length ?_ ?_
  · rw [hI]
    exact ⟨0, by omega, rfl, by simp, by simp, by simp, by simp, by simp⟩
  intro m E t K' hi
  rw [hI] at hi
  obtain ⟨k, hm, rfl, e1', e13, e14, e15, hall⟩ := hi
  unfold D_prog_All_8
  rw [e1', e13, e14, e15]
  by_cases hk : k < ps.length
  · have hw : ps[k]? = some ps[k] := List.getElem?_eq_getElem hk
    obtain ⟨bb, o, q1, q2, q3⟩ := hp.1.get (F := F) hw
    have q4 := (q2 K' hs).1 0 (by omega)
    have q5 : rdL K' (bb, o) none = some ps[k].1 := by simpa using q4
    have e3 : (k : Int) < (ps.length : Int) := by omega
    obtain ⟨hpr, hpl⟩ := hp.2 ps[k] (List.getElem_mem _)
    have hpr' : PrL K' ps[k].1 ps[k].2 := ⟨hpr.1.mono hs, fun x hx => (hpr.2 x hx).mono hs⟩
    simp [hk, q1, q5]
    refine (check_spec hf.prog_Check hpr' hpl).mono ?_
    rintro _ K3 ⟨rfl, hK3⟩
    rw [hK3]
    cases hc : checkP (insOf ps[k].2) with
    | false =>
      have hc' : checkP (ps[k].2.map (·.1)) = false := hc
      simp [hc']
      exact ⟨_, se, bad ps[k] (List.getElem_mem _) (by rw [hc]; rfl)⟩
    | true =>
      have hc' : checkP (ps[k].2.map (·.1)) = true := hc
      simp [hc']
      have hsl : ∃ a m c e, v = .sl a m c e := by obtain ⟨a, cap, ex, e, _⟩ := hp.1; exact ⟨a, _, cap, ex, e⟩
      refine (containsI_spec hf.slices_ContainsFunc_InstrInstr hpr'.1 hpl (p := fun x => decide ((ps.length : Int) ≤ startsP x.1)) fun x hx => ?_).mono ?_
      · exact all1_spec hf.prog_All_1 hlen h1 (by obtain ⟨a, cap, ex, e, _⟩ := hpr'.2 x hx; rw [e]; rfl) hsl
      rintro _ K4 ⟨rfl, hK4⟩
      rw [hK4]
      have ha : (ps[k].2.any fun x => decide ((ps.length : Int) ≤ startsP x.1)) = (insOf ps[k].2).any fun i => decide ((ps.length : Int) ≤ startsP i) := by
        unfold insOf; rw [List.any_map]; rfl
      rw [ha]
      cases hy : (insOf ps[k].2).any fun i => decide ((ps.length : Int) ≤ startsP i) with
      | true =>
        simp
        exact ⟨_, se, bad ps[k] (List.getElem_mem _) (by rw [hy]; simp)⟩
      | false =>
        have w4 : wr .i64 ((k : Int) + 1) = ((k + 1 : Nat) : Int) := by rw [wr_id (by omega) (by omega)]; omega
        simp [w4]
        rw [hI]
        refine ⟨m - 1, by omega, k + 1, by omega, rfl, by simp [e1'], by simp [e13], by simp [e14], by simp, ?_⟩
        intro x hx
        rw [List.take_add_one, hw] at hx
        rcases List.mem_append.1 hx with hx | hx
        · exact hall x hx
        · simp at hx; rw [hx, hc, hy]; rfl
  · have e3 : ¬ (k : Int) < (ps.length : Int) := by omega
    have e4 : k = ps.length := by omega
    simp [hk, D_prog_All_4]
    rw [e4, List.take_length] at hall
    have hy : allP (ps.map fun x => insOf x.2) = true := by
      unfold allP
      have a1 : 1 ≤ ps.length := by omega
      have a2 : ps.length ≤ 16 := by omega
      simp only [List.length_map, a1, a2, decide_true, Bool.true_and]
      rw [List.all_eq_true]
      intro p hp2
      obtain ⟨x, hx, rfl⟩ := List.mem_map.1 hp2
      exact hall x hx
    have := hQ (.i .i64 (if allP (ps.map fun x => insOf x.2) = true then 0 else 1)) L ⟨rfl, rfl⟩
    rw [hy] at this
    exact ⟨_, se, this⟩
end Go.AM


/- tarpaulinalike.Progs: which programs are looked at. -/
set_option linter.unusedVariables false
set_option linter.unusedSimpArgs false
namespace Go.AM
variable {N : Nat → Nat} {F : Nat → Option AFn}
def progP (p : List Ins) : Bool := decide (p.length ≤ 60) && p.all fun i => decide (i.cs.length ≤ 20)
def progsP (ps : List (List Ins)) : Bool := (ps.take 20).all progP && decide (ps.length ≤ 17)
/-- programs, however long -/
def PsW (L : Lg) (v : AV) (ps : List (AV × List (Ins × AV))) : Prop := SlQ (fun x : AV × List (Ins × AV) => [x.1]) 1 L v ps ∧ ∀ x, x ∈ ps → PrL L x.1 x.2
theorem take_snocP {α : Type} {p : α → Prop} {l : List α} {k : Nat} {y : α} (hk : l[k]? = some y) (h : ∀ x, x ∈ l.take k → p x) (hy : p y) : ∀ x, x ∈ l.take (k + 1) → p x := by
  intro x hx
  rw [List.take_add_one, hk] at hx
  rcases List.mem_append.1 hx with hx | hx
  · exact h x hx
  · simp at hx; rw [hx]; exact hy
theorem progs_spec (hf : H_tarpaulinalike_Progs N F) {L : Lg} {v : AV} {ps : List (AV × List (Ins × AV))} (hp : PsW L v ps) :
    CallL F (N k_tarpaulinalike_Progs) [v] L fun y L' => y = .b (progsP (ps.map fun x => insOf x.2)) ∧ L' = L := by
  refine CallL.opq ?_
  intro Q hQ
  apply r_tarpaulinalike_Progs hf.code
  unfold D_tarpaulinalike_Progs_1 D_tarpaulinalike_Progs_4 D_tarpaulinalike_Progs_6
  have hlen := fun X k => hp.1.len (F := F) X k
  have bad : ∀ x, x ∈ ps.take 20 → progP (insOf x.2) = false → fin1 (some (.b false)) Q L := fun x hx h => ⟨_, Sees.refl _, hQ _ _ ⟨by
    have : ((ps.map fun x => insOf x.2).take 20).all progP = false := by
      rw [List.all_eq_false]
      exact ⟨insOf x.2, by rw [← List.map_take]; exact List.mem_map.2 ⟨x, hx, rfl⟩, by rw [h]; simp⟩
    unfold progsP
    rw [this]; rfl, rfl⟩⟩
  obtain ⟨I, hI⟩ : ∃ I : Nat → Env → Lg → Prop, I = fun m E K' => ∃ k : Nat, m + k = 20 ∧ k ≤ ps.length ∧ K' = L ∧ E 0 = v ∧ E 3 = .i .i64 k ∧ (∀ x, x ∈ ps.take k → progP (insOf x.2) = true) := ⟨_, rfl⟩
  refine loopW_intro I 20 ?_ ?_
  · rw [hI]
    exact ⟨0, by omega, by omega, rfl, by simp, by simp, by simp⟩
  intro m E t K' hi
  rw [hI] at hi
  obtain ⟨k, hm, hkl, rfl, e0, e3, hall⟩ := hi
  unfold D_tarpaulinalike_Progs_7 D_tarpaulinalike_Progs_3
  rw [e0, e3]
  by_cases hk : k < ps.length
  · by_cases hk2 : k < 20
    · have c1 : (k : Int) < (ps.length : Int) := by omega
      have c2 : (k : Int) < 20 := by omega
      have hw : ps[k]? = some ps[k] := List.getElem?_eq_getElem hk
      obtain ⟨bb, o, q1, q2, q3⟩ := hp.1.get (F := F) hw
      have q4 := (q2 K' (SubL.refl _)).1 0 (by omega)
      have q5 : rdL K' (bb, o) none = some ps[k].1 := by simpa using q4
      have hpr := hp.2 ps[k] (List.getElem_mem _)
      have hin : ps[k] ∈ ps.take 20 := by
        rw [List.mem_iff_getElem?]; exact ⟨k, by rw [List.getElem?_take, if_pos hk2]; exact hw⟩
      have hpl := fun X q => hpr.1.len (F := F) X q
      simp [c1, c2, hlen]
      unfold D_tarpaulinalike_Progs_11
      simp [e0, e3, q1, q5, hpl]
      by_cases h60 : 60 < ps[k].2.length
      · have c3 : (60 : Int) < (ps[k].2.length : Int) := by omega
        simp [c3]
        refine ⟨bad ps[k] hin ?_, fun h => by omega⟩
        have : ¬ ps[k].2.length ≤ 60 := by omega
        simp [progP, insOf, this]
      have c3 : ¬ (60 : Int) < (ps[k].2.length : Int) := by omega
      simp [c3]
      intro _
      unfold D_tarpaulinalike_Progs_12 D_tarpaulinalike_Progs_14
      obtain ⟨J, hJ⟩ : ∃ J : Nat → Env → Lg → Prop, J = fun m E2 K2 => ∃ j : Nat, m + j = ps[k].2.length ∧ K2 = K' ∧ E2 0 = v ∧ E2 3 = .i .i64 k ∧ E2 4 = .i .i64 j ∧ (∀ x, x ∈ ps[k].2.take j → x.1.cs.length ≤ 20) := ⟨_, rfl⟩
      refine loopW_intro J ps[k].2.length ?_ ?_
      · rw [hJ]
        exact ⟨0, by omega, rfl, by simp [e0], by simp [e3], by simp, by simp⟩
      intro m2 E2 t2 K2 hj
      rw [hJ] at hj
      obtain ⟨j, hm2, rfl, f0, f3, f4, hallj⟩ := hj
      unfold D_tarpaulinalike_Progs_15 D_tarpaulinalike_Progs_9
      rw [f0, f3, f4]
      by_cases hj2 : j < ps[k].2.length
      · have d1 : (j : Int) < (ps[k].2.length : Int) := by omega
        have hwj : ps[k].2[j]? = some ps[k].2[j] := List.getElem?_eq_getElem hj2
        obtain ⟨b3, o3, u1, u2, u3⟩ := hpr.1.get (F := F) hwj
        have u4 := (u2 K2 (SubL.refl _)).1 4 (by omega)
        have u5 : rdL K2 (b3, o3 + 4) none = some ps[k].2[j].2 := by rw [u4]; rfl
        have hcl := fun X q => (hpr.2 _ (List.getElem_mem hj2)).len (F := F) X q
        simp [q1, q5, hpl, hj2, u1, u5, hcl]
        by_cases h20 : 20 < ps[k].2[j].1.cs.length
        · have d2 : (20 : Int) < (ps[k].2[j].1.cs.length : Int) := by omega
          refine ⟨fun _ => bad ps[k] hin ?_, fun h => by omega⟩
          unfold progP
          have : ((insOf ps[k].2).all fun i => decide (i.cs.length ≤ 20)) = false := by
            rw [List.all_eq_false]
            exact ⟨ps[k].2[j].1, List.mem_map.2 ⟨_, List.getElem_mem _, rfl⟩, by simp; omega⟩
          rw [this, Bool.and_false]
        · have d2 : ¬ (20 : Int) < (ps[k].2[j].1.cs.length : Int) := by omega
          have w1 : wr .i64 ((j : Int) + 1) = ((j + 1 : Nat) : Int) := by rw [wr_id (by omega) (by omega)]; omega
          refine ⟨fun h => by omega, fun _ => ?_⟩
          rw [hJ]
          refine ⟨m2 - 1, by omega, j + 1, by omega, rfl, by simp [f0], by simp [f3], by simp [w1], take_snocP hwj hallj (by omega)⟩
      · have d1 : ¬ (j : Int) < (ps[k].2.length : Int) := by omega
        have hjj : j = ps[k].2.length := by omega
        have w1 : wr .i64 ((k : Int) + 1) = ((k + 1 : Nat) : Int) := by rw [wr_id (by omega) (by omega)]; omega
        simp [q1, q5, hpl, hj2]
        rw [hI]
        refine ⟨m - 1, by omega, k + 1, by omega, by omega, rfl, by simp [f0], by simp [w1], take_snocP hw hall ?_⟩
        rw [hjj, List.take_length] at hallj
        unfold progP
        rw [Bool.and_eq_true]
        refine ⟨by simp [insOf]; omega, List.all_eq_true.2 fun i hi => ?_⟩
        obtain ⟨x, hx, rfl⟩ := List.mem_map.1 hi
        simpa using hallj x hx
    · have c1 : (k : Int) < (ps.length : Int) := by omega
      have c2 : ¬ (k : Int) < 20 := by omega
      have c4 : ¬ (ps.length : Int) ≤ 17 := by omega
      simp [c1, c2, hlen]
      refine ⟨_, Sees.refl _, hQ _ _ ⟨?_, rfl⟩⟩
      have c5 : ¬ ps.length ≤ 17 := by omega
      simp [progsP, c5]
      omega
  · have c1 : ¬ (k : Int) < (ps.length : Int) := by omega
    simp [c1, hlen]
    refine ⟨_, Sees.refl _, hQ _ _ ⟨?_, rfl⟩⟩
    have hkk : k = ps.length := by omega
    rw [hkk, List.take_length] at hall
    have : ((ps.map fun x => insOf x.2).take 20).all progP = true := by
      rw [List.all_eq_true]
      intro p hp2
      obtain ⟨x, hx, rfl⟩ := List.mem_map.1 (List.mem_of_mem_take hp2)
      exact hall x hx
    unfold progsP
    rw [this]
    simp
    omega
end Go.AM


/- functions of the library: what a call of them does. -/
set_option linter.unusedVariables false
set_option linter.unusedSimpArgs false
namespace Go.AM
variable {N : Nat → Nat} {F : Nat → Option AFn}
theorem CallL.ext {f k : Nat} {vs : List AV} {L : Lg} {Q : AV → Lg → Prop} (hf : F f = some (kExt k)) (h : ∀ S, Mod S L → ∃ v S', extSem k vs S = some (v, S') ∧ ∃ L', Mod S' L' ∧ Q v L') : CallL F f vs L Q := by
  intro S m
  obtain ⟨v, S', he, L', m', hq⟩ := h S m
  refine ⟨1, v, S', ?_, L', m', hq⟩
  have e : exec F 1 (kExt k).body (initT vs) S = some (.ret, { initT vs with l := [(0, v)] }, S') := by
    show (match extSem k ((initT vs).l.map fun x => x.2) S with | some (v, S') => some (Ex.ret, { initT vs with l := [((0 : Nat), v)] }, S') | none => none) = _
    have e3 : (initT vs).l.map (fun x => x.2) = vs := initL_vals vs 0
    rw [e3, he]
  unfold acall callOf
  rw [hf]
  simp only [e]
  rfl
end Go.AM

