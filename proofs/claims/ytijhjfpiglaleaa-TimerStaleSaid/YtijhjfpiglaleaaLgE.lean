/- Logical memory: what is hidden is opened and shut; reading and writing known cells. -/
import Derived.Test.YtijhjfpiglaleaaLgD
set_option linter.unusedVariables false
set_option linter.unusedSimpArgs false
namespace Go.AM

/-! ### two blocks, and many -/
def Lg.two (r b : Nat) (c d : LC) : Lg := fun m => if m = r then some c else if m = b then some d else none
theorem over_two (L : Lg) {r b : Nat} (h : b ≠ r) (c d : LC) : (Lg.two r b c d).over L = (L.put b d).put r c := by
  funext m
  unfold Lg.over Lg.two Lg.put
  by_cases h1 : m = r
  · simp [h1]
  · by_cases h2 : m = b
    · subst h2; simp [h1]
    · simp [h1, h2]
theorem over_del (M L : Lg) {r : Nat} (h : M r ≠ none) : M.over (L.del r) = M.over L := by
  funext m
  unfold Lg.over Lg.del
  by_cases h1 : m = r
  · subst h1
    cases h2 : M m with
    | none => exact absurd h2 h
    | some c => rfl
  · simp [h1]
/-- What is hidden at a name is opened ahead of a call. -/
theorem CallL.opens {F : Nat → Option AFn} {f : Nat} {vs : List AV} {L : Lg} {Q : AV → Lg → Prop} {r : Nat} {P : Hp → Prop} (e : L r = some (.abs P))
    (h : ∀ hm, P hm → ∃ M : Lg, Sat M hm ∧ M r ≠ none ∧ ((∀ b c, M b = some c → b ≠ r → L b = none) → CallL F f vs (M.over L) Q)) : CallL F f vs L Q := by
  apply CallL.unfold e
  intro hm hP
  obtain ⟨M, hs, hr, hc⟩ := h hm hP
  refine ⟨M, hs, fun hf => ?_⟩
  rw [over_del M L hr]
  exact hc hf
theorem Sees.shut {L M : Lg} {r : Nat} {P : Hp → Prop} (hf : ∀ b c, M b = some c → b ≠ r → L b = none) (hr : (∃ cs, M r = some (.raw (.cells cs))) ∨ ∃ Q, M r = some (.abs Q)) (hP : ∀ h, Sat M h → P h) : Sees (M.over L) (L.put r (.abs P)) := by
  have h1 := Sees.fold (L := M.over L) (M := M) (r := r) (P := P) (fun b c hb => by simp [Lg.over, hb]) hr hP
  have h2 : ((M.over L).minus M).put r (.abs P) = L.put r (.abs P) := by
    funext m
    unfold Lg.put
    by_cases hm : m = r
    · simp [hm]
    · simp only [hm, if_false]
      cases h3 : M m with
      | none => simp [Lg.over, Lg.minus, h3]
      | some c => simp only [Lg.minus, h3]; exact (hf m c h3 hm).symm
  rw [h2] at h1
  exact h1
/-- What may be seen at names of a kind becomes one thing; what else has come is let go. -/
theorem Sees.shutAt {L Lf : Lg} {r : Nat} {P : Hp → Prop} (ids : Nat → Prop) (hr : ids r) (h1 : ∀ b c, ¬ ids b → L b = some c → Lf b = some c) (h2 : ∀ b, ids b → b ≠ r → L b = none)
    (h3 : (∃ cs, Lf r = some (.raw (.cells cs))) ∨ ∃ Q, Lf r = some (.abs Q)) (hP : ∀ (M : Lg) h, (∀ b, ids b → M b = Lf b) → (∀ b, ¬ ids b → M b = none) → Sat M h → P h) : Sees Lf (L.put r (.abs P)) := by
  classical
  let M : Lg := fun b => if ids b then Lf b else none
  have hM : ∀ b, ids b → M b = Lf b := fun b hb => by simp [M, hb]
  have hN : ∀ b, ¬ ids b → M b = none := fun b hb => by simp [M, hb]
  have e1 : Sees Lf (M.over L) := by
    apply Sees.drop
    intro b c hb
    unfold Lg.over at hb
    by_cases hi : ids b
    · rw [hM b hi] at hb
      cases h4 : Lf b with
      | some d => rw [h4] at hb; exact hb
      | none =>
        rw [h4] at hb
        by_cases hbr : b = r
        · subst hbr; rcases h3 with ⟨cs, h3⟩ | ⟨Q, h3⟩ <;> rw [h3] at h4 <;> cases h4
        · rw [h2 b hi hbr] at hb; cases hb
    · rw [hN b hi] at hb
      exact h1 b c hi hb
  refine e1.trans (Sees.shut ?_ ?_ fun h hs => hP M h hM hN hs)
  · intro b c hb hbr
    by_cases hi : ids b
    · exact h2 b hi hbr
    · rw [hN b hi] at hb; cases hb
  · rw [hM r hr]; exact h3
theorem CallL.open2 {F : Nat → Option AFn} {f : Nat} {vs : List AV} {L : Lg} {Q : AV → Lg → Prop} {r : Nat} {P : Hp → Prop} (e : L r = some (.abs P))
    (h : ∀ hm, P hm → ∃ b c d, b ≠ r ∧ Sat (Lg.two r b c d) hm ∧ (L b = none → CallL F f vs ((L.put b d).put r c) Q)) : CallL F f vs L Q := by
  apply CallL.opens e
  intro hm hP
  obtain ⟨b, c, d, hb, hs, hc⟩ := h hm hP
  refine ⟨Lg.two r b c d, hs, by simp [Lg.two], fun hf => ?_⟩
  rw [over_two L hb]
  exact hc (hf b d (by simp [Lg.two, hb]) hb)
theorem Sees.shut2 {L : Lg} {r b : Nat} {cs : List AV} {d : LC} {P : Hp → Prop} (hb : b ≠ r) (hf : L b = none) (hP : ∀ h, Sat (Lg.two r b (.raw (.cells cs)) d) h → P h) : Sees ((L.put b d).put r (.raw (.cells cs))) (L.put r (.abs P)) := by
  rw [← over_two L hb]
  refine Sees.shut ?_ (.inl ⟨cs, by simp [Lg.two]⟩) hP
  intro b' c' h1 h2
  unfold Lg.two at h1
  simp only [h2, if_false] at h1
  split at h1
  · rename_i h3; subst h3; exact hf
  · cases h1

theorem Lg.put3 (L : Lg) {n m : Nat} (h : n ≠ m) (c d e : LC) : ((L.put n c).put m d).put n e = (L.put n e).put m d := by
  rw [Lg.put_comm _ (Ne.symm h), Lg.put_put]
/-! ### the same -/
@[simp] theorem kEq_self (j : IntKind) : kEq j j = true := by cases j <;> rfl
theorem beq_self (n : Nat) : Nat.beq n n = true := by rw [beq_nat]; simp
@[simp] theorem sameV_i (j : IntKind) (x : Int) : sameV (.i j x) (.i j x) = true := by simp [sameV, same1, iEq_eq]
@[simp] theorem sameV_b (x : Bool) : sameV (.b x) (.b x) = true := by simp [sameV, same1]
@[simp] theorem sameV_p (x : Option (Nat × Nat)) : sameV (.p x) (.p x) = true := by cases x <;> simp [sameV, same1, beq_self]
@[simp] theorem sameV_m (x : Option Nat) : sameV (.m x) (.m x) = true := by cases x <;> simp [sameV, same1, beq_self]
@[simp] theorem sameV_sl (a : Option (Nat × Nat)) (n c e : Nat) : sameV (.sl a n c e) (.sl a n c e) = true := by cases a <;> simp [sameV, same1, beq_self]
/-! ### cells -/
theorem splice_one (c : List AV) (o : Nat) (v : AV) (h : o < c.length) : splice c o [v] = c.set o v := by
  unfold splice
  rw [List.set_eq_take_append_cons_drop]
  simp [h]
theorem rdL_cell {L : Lg} {b o : Nat} {c : List AV} (h : L b = some (.raw (.cells c))) : rdL L (b, o) none = c[o]? := by
  simp [rdL, h, AB.read, look]
theorem rdL_cells {L : Lg} {b o n : Nat} {c : List AV} (h : L b = some (.raw (.cells c))) (hn : o + n ≤ c.length) : rdL L (b, o) (some n) = some (.agg ((c.drop o).take n)) := by
  simp [rdL, h, AB.read, look, cut, ble_nat, hn]
theorem rdL_ro {L : Lg} {b o : Nat} {c : List AV} (h : L b = some (.raw (.ro c))) : rdL L (b, o) none = c[o]? := by
  simp [rdL, h, AB.read, look]
theorem rdL_ros {L : Lg} {b o n : Nat} {c : List AV} (h : L b = some (.raw (.ro c))) (hn : o + n ≤ c.length) : rdL L (b, o) (some n) = some (.agg ((c.drop o).take n)) := by
  simp [rdL, h, AB.read, look, cut, ble_nat, hn]
theorem stL_cell {L : Lg} {b o : Nat} {c : List AV} {v : AV} {k : AV → Lg → Prop} (h : L b = some (.raw (.cells c))) (ho : o < c.length) (hv : v.cellsOf = some [v]) : stL 1 L k [.p (some (b, o)), v] = k .bad (L.put b (.raw (.cells (c.set o v)))) := by
  have h1 : v.one = true := by
    have := cellsOf_one hv
    simpa using this
  have h2 : o + 1 ≤ c.length := ho
  simp [stL, hv, wrL, h, h1, splice_one c o v ho, h2]
theorem stL_cells {L : Lg} {b o n : Nat} {c l : List AV} {k : AV → Lg → Prop} (h : L b = some (.raw (.cells c))) (hl : l.all AV.one = true) (hn : l.length = n) (ho : o + n ≤ c.length) : stL n L k [.p (some (b, o)), .agg l] = k .bad (L.put b (.raw (.cells (splice c o l)))) := by
  subst hn
  have hl' : ∀ x, x ∈ l → x.one = true := List.all_eq_true.1 hl
  simp only [stL, cellsOf_agg l hl, if_true, wrL, h, ho, hl, and_self]
/-- a box: a block of its own -/
theorem box_one (F : Nat → Option AFn) (v : AV) (L : Lg) (k : AV → Lg → Prop) (hv : v.cellsOf = some [v]) : wpOp F .box [v] L k = ∀ b, L b = none → k (.p (some (b, 0))) (L.put b (.raw (.cells [v]))) := by
  simp [newL, aBox, hv]
theorem box_agg (F : Nat → Option AFn) (l : List AV) (L : Lg) (k : AV → Lg → Prop) (hl : l.all AV.one = true) : wpOp F .box [.agg l] L k = ∀ b, L b = none → k (.p (some (b, 0))) (L.put b (.raw (.cells l))) := by
  simp [newL, aBox, cellsOf_agg l hl]
theorem cellsOf_agg' (l : List AV) : (AV.agg l).cellsOf = if l.all AV.one = true then some l else none := by
  simp only [AV.cellsOf]
  cases h : l.all AV.one <;> simp
theorem newL_box (v : AV) (L : Lg) (k : AV → Lg → Prop) {l : List AV} (hv : v.cellsOf = some l) : newL aBox [v] L k = ∀ b, L b = none → k (.p (some (b, 0))) (L.put b (.raw (.cells l))) := by
  simp [newL, aBox, hv]
theorem newL_box_agg (l : List AV) (L : Lg) (k : AV → Lg → Prop) (h : l.all AV.one = true) : newL aBox [.agg l] L k = ∀ b, L b = none → k (.p (some (b, 0))) (L.put b (.raw (.cells l))) := newL_box _ L k (cellsOf_agg l h)
@[simp] theorem newL_box_agg2 (x y : AV) (L : Lg) (k : AV → Lg → Prop) (h1 : x.one = true) (h2 : y.one = true) : newL aBox [.agg [x, y]] L k = ∀ b, L b = none → k (.p (some (b, 0))) (L.put b (.raw (.cells [x, y]))) := newL_box_agg _ L k (by simp [h1, h2])
@[simp] theorem newL_box_agg3 (x y z : AV) (L : Lg) (k : AV → Lg → Prop) (h1 : x.one = true) (h2 : y.one = true) (h3 : z.one = true) : newL aBox [.agg [x, y, z]] L k = ∀ b, L b = none → k (.p (some (b, 0))) (L.put b (.raw (.cells [x, y, z]))) := newL_box_agg _ L k (by simp [h1, h2, h3])
@[simp] theorem newL_box_agg5 (x y z u v : AV) (L : Lg) (k : AV → Lg → Prop) (h1 : x.one = true) (h2 : y.one = true) (h3 : z.one = true) (h4 : u.one = true) (h5 : v.one = true) : newL aBox [.agg [x, y, z, u, v]] L k = ∀ b, L b = none → k (.p (some (b, 0))) (L.put b (.raw (.cells [x, y, z, u, v]))) := newL_box_agg _ L k (by simp [h1, h2, h3, h4, h5])
@[simp] theorem newL_box_i (j n) (L : Lg) (k : AV → Lg → Prop) : newL aBox [.i j n] L k = ∀ b, L b = none → k (.p (some (b, 0))) (L.put b (.raw (.cells [.i j n]))) := newL_box _ L k rfl
@[simp] theorem newL_box_b (n) (L : Lg) (k : AV → Lg → Prop) : newL aBox [.b n] L k = ∀ b, L b = none → k (.p (some (b, 0))) (L.put b (.raw (.cells [.b n]))) := newL_box _ L k rfl
@[simp] theorem newL_box_p (n) (L : Lg) (k : AV → Lg → Prop) : newL aBox [.p n] L k = ∀ b, L b = none → k (.p (some (b, 0))) (L.put b (.raw (.cells [.p n]))) := newL_box _ L k rfl
@[simp] theorem newL_box_sl (a b c d) (L : Lg) (k : AV → Lg → Prop) : newL aBox [.sl a b c d] L k = ∀ r, L r = none → k (.p (some (r, 0))) (L.put r (.raw (.cells [.sl a b c d]))) := newL_box _ L k rfl
theorem newL_bslice {z : List AV} {len size : Nat} {ps : List Nat} {vs c : List AV} (L : Lg) (k : AV → Lg → Prop) (h : fillP (reps z len) (ps.map fun i => (i * size, size)) vs = some c) (h1 : c.all AV.one = true) :
    newL (aBslice z len size ps) vs L k = ∀ b, L b = none → k (.sl (some (b, 0)) len len 0) (L.put b (.raw (.cells c))) := by
  simp [newL, aBslice, h, h1]
theorem reps_one' (v : AV) : ∀ n, reps [v] n = List.replicate n v
  | 0 => rfl
  | n + 1 => by simp [reps, reps_one' v n, List.replicate_succ]

theorem loopW_intro {B : Env → Env → Lg → (Env → Lg → Prop) → Prop} {l : Env} {L : Lg} (I : Nat → Env → Lg → Prop) (n : Nat) (h0 : I n l L) (h : ∀ n l t L, I n l L → B l t L (fun l L => ∃ m, m < n ∧ I m l L)) : loopW B l L := ⟨I, ⟨n, h0⟩, h⟩
@[simp] theorem initE_cons (v : AV) (r : List AV) (i : Nat) : initE (v :: r) i = (initE r (i + 1)).put i v := rfl
@[simp] theorem initE_nil (i n : Nat) : initE [] i n = .bad := rfl
@[simp] theorem evO_c (l t : Env) (v : AV) : evO l t (.c v) = v := rfl
theorem res_cell_tmp (L : Lg) {b o n : Nat} {c : List AV} (v : AV) (h : L b = some (.raw (.cells c))) (hn : o + n ≤ c.length) : resVL Env.nil Env.nil L [.cell (.c (.p (some (b, o)))) (some n), .tmp (.c v)] = some (.tup [.agg ((c.drop o).take n), v]) := by
  simp [resVL, resLL, resOneL, rdL_cells h hn]
/-! ### a slice of one's own, that is appended to -/
def OwnSl (L : Lg) (v : AV) (cs : List AV) (n size : Nat) : Prop :=
  (n = 0 ∧ cs = [] ∧ v = .sl none 0 0 0) ∨ ∃ b, 0 < n ∧ v = .sl (some (b, 0)) n n size ∧ L b = some (.raw (.cells cs)) ∧ cs.length = n * size
/-- the block of a slice of one's own -/
def slB : AV → Option Nat
  | .sl (some (b, _)) _ _ _ => some b
  | _ => none
def Lg.delO (L : Lg) : Option Nat → Lg
  | none => L
  | some b => L.del b
/-- a slice that has come: nothing, or a block that was not there -/
def FreshSl (L : Lg) (v : AV) (cs : List AV) (n size : Nat) (L' : Lg) : Prop :=
  (n = 0 ∧ cs = [] ∧ v = .sl none 0 0 0 ∧ L' = L) ∨ ∃ b ex, L b = none ∧ 0 < n ∧ v = .sl (some (b, 0)) n n ex ∧ cs.length = n * size ∧ L' = L.put b (.raw (.cells cs))
/-- L' has all that L has -/
def Ext2 (L L' : Lg) : Prop := ∀ b c, L b = some c → L' b = some c
theorem Ext2.refl (L : Lg) : Ext2 L L := fun _ _ h => h
theorem Ext2.trans {L M K : Lg} (h : Ext2 L M) (k : Ext2 M K) : Ext2 L K := fun b c e => k b c (h b c e)
theorem Ext2.put {L M : Lg} (h : Ext2 L M) {b : Nat} (hb : L b = none) (c : LC) : Ext2 L (M.put b c) := fun d e hd => by
  have : d ≠ b := by rintro rfl; rw [hb] at hd; cases hd
  rw [Lg.put_ne _ _ _ this]; exact h d e hd
theorem Ext2.del {L M : Lg} (h : Ext2 L M) {b : Nat} (hb : L b = none) : Ext2 L (M.del b) := fun d e hd => by
  have : d ≠ b := by rintro rfl; rw [hb] at hd; cases hd
  rw [Lg.del_apply, if_neg this]; exact h d e hd
theorem Ext2.delO {L M : Lg} (h : Ext2 L M) {o : Option Nat} (hb : ∀ b, o = some b → L b = none) : Ext2 L (M.delO o) := by
  cases o with
  | none => exact h
  | some b => exact h.del (hb b rfl)
theorem Ext2.none {L M : Lg} (h : Ext2 L M) {b : Nat} (hb : M b = none) : L b = none := by
  cases e : L b with
  | none => rfl
  | some c => rw [h b c e] at hb; cases hb
theorem Ext2.sees {L M : Lg} (h : Ext2 L M) : Sees M L := Sees.drop h
theorem OwnSl.app {L : Lg} {v : AV} {cs : List AV} {n size bytes : Nat} (h : OwnSl L v cs n size) (hsz : 0 < size) {src : AV} {new : List AV} {m c e : Nat} {a : Option (Nat × Nat)} (hs : src = .sl a m c e) (hm : 0 < m) (hr : rdCellsL L a (m * size) = some new) (hn : new.length = m * size) (h1 : new.all AV.one = true) (hb : (n + m) * bytes ≤ 70368744177664)
    {k : AV → Lg → Prop} (hk : ∀ b, L b = none → k (.sl (some (b, 0)) (n + m) (n + m) size) ((L.delO (slB v)).put b (.raw (.cells (cs ++ new))))) : appW size bytes L k [v, src] := by
  subst hs
  rcases h with ⟨rfl, rfl, rfl⟩ | ⟨b, h0, rfl, hL, hl⟩
  · simp only [appW, hr, appL, h1, true_and]
    have h2 : ¬ (0 + m ≤ 0) := by omega
    simp only [h2, if_false, hb, true_and, Nat.zero_mul, rdCellsL, goneL, if_true, List.nil_append]
    exact hk
  · simp only [appW, hr, appL, h1, true_and]
    have h2 : ¬ (n + m ≤ n) := by omega
    have h3 : rdCellsL L (some (b, 0)) (n * size) = some cs := by
      simp only [rdCellsL, hL, AB.read, cut, ble_nat, Nat.zero_add, hl, Nat.le_refl, decide_true, cond_true, List.drop_zero]
      rw [← hl, List.take_length]
    have h4 : ¬ size = 0 := by omega
    simp only [h2, if_false, hb, true_and, h3, goneL, h4, if_true, hL]
    exact hk
theorem OwnSl.of_app {L : Lg} {v : AV} {cs new : List AV} {n m size b : Nat} (h : OwnSl L v cs n size) (hm : 0 < m) (hn : new.length = m * size) : OwnSl ((L.delO (slB v)).put b (.raw (.cells (cs ++ new)))) (.sl (some (b, 0)) (n + m) (n + m) size) (cs ++ new) (n + m) size := by
  refine .inr ⟨b, by omega, rfl, Lg.put_same _ _ _, ?_⟩
  rcases h with ⟨rfl, rfl, rfl⟩ | ⟨b, h0, rfl, hL, hl⟩
  · simp [hn]
  · simp [hl, hn, Nat.add_mul]
theorem appW_grow {L L' : Lg} {size bytes len cap ex m c e : Nat} {a b : Option (Nat × Nat)} {new old : List AV} {k : AV → Lg → Prop} (hr : rdCellsL L b (m * size) = some new) (h1 : new.all AV.one = true) (hlt : ¬ len + m ≤ cap)
    (hb : (len + m) * bytes ≤ 70368744177664) (ho : rdCellsL L a (len * size) = some old) (hg : goneL L a ex size = some L') (hk : ∀ b, L b = none → k (.sl (some (b, 0)) (len + m) (len + m) size) (L'.put b (.raw (.cells (old ++ new))))) :
    appW size bytes L k [.sl a len cap ex, .sl b m c e] := by
  simp only [appW, hr, appL, h1, true_and, hlt, if_false, hb, ho, hg]
  exact hk
theorem appW_room {L L' : Lg} {size bytes len cap ex m c e r o : Nat} {b : Option (Nat × Nat)} {new : List AV} {k : AV → Lg → Prop} (hr : rdCellsL L b (m * size) = some new) (h1 : new.all AV.one = true) (hle : len + m ≤ cap) (hm : m ≠ 0)
    (hw : wrL L (r, o + len * size) new = some L') (hk : k (.sl (some (r, o)) (len + m) cap ex) L') : appW size bytes L k [.sl (some (r, o)) len cap ex, .sl b m c e] := by
  simp only [appW, hr, appL, h1, true_and, hle, if_true, hm, if_false, hw]
  exact hk
end Go.AM
