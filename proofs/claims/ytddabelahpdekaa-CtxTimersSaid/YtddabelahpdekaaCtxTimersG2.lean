/- The texts LgE, LibRing, LibWait, GenB, LibChan, LibMap, LibHeapA, LibHeapP of a proof of CtxTimers, merged. -/
import Derived.Test.YtddabelahpdekaaCtxTimersG1
import Derived.KernelRfl
/- Logical memory: what is hidden is opened and shut; reading and writing known cells. -/
set_option linter.unusedVariables false
set_option linter.unusedSimpArgs false
namespace Go.AM

/-! ### two blocks, and many -/
def Lg.two (r b : Nat) (c d : LC) : Lg := fun m => if m = r then some c else if m = b then some d else none
theorem over_two (L : Lg) {r b : Nat} (h : b ≠ r) (c d : LC) : (Lg.two r b c d).over L = (L.put b d).put r c := by
  funext m
  unfold Lg.over Lg.two Lg.put
  by_cases h1 : m = r
  · simp [h1]
  · by_cases h2 : m = b
    · subst h2; simp [h1]
    · simp [h1, h2]
theorem over_del (M L : Lg) {r : Nat} (h : M r ≠ none) : M.over (L.del r) = M.over L := by
  funext m
  unfold Lg.over Lg.del
  by_cases h1 : m = r
  · subst h1
    cases h2 : M m with
    | none => exact absurd h2 h
    | some c => rfl
  · simp [h1]
/-- What is hidden at a name is opened ahead of a call. -/
theorem CallL.opens {F : Nat → Option AFn} {f : Nat} {vs : List AV} {L : Lg} {Q : AV → Lg → Prop} {r : Nat} {P : Hp → Prop} (e : L r = some (.abs P))
    (h : ∀ hm, P hm → ∃ M : Lg, Sat M hm ∧ M r ≠ none ∧ ((∀ b c, M b = some c → b ≠ r → L b = none) → CallL F f vs (M.over L) Q)) : CallL F f vs L Q := by
  apply CallL.unfold e
  intro hm hP
  obtain ⟨M, hs, hr, hc⟩ := h hm hP
  refine ⟨M, hs, fun hf => ?_⟩
  rw [over_del M L hr]
  exact hc hf
theorem Sees.shut {L M : Lg} {r : Nat} {P : Hp → Prop} (hf : ∀ b c, M b = some c → b ≠ r → L b = none) (hr : (∃ cs, M r = some (.raw (.cells cs))) ∨ ∃ Q, M r = some (.abs Q)) (hP : ∀ h, Sat M h → P h) : Sees (M.over L) (L.put r (.abs P)) := by
  have h1 := Sees.fold (L := M.over L) (M := M) (r := r) (P := P) (fun b c hb => by simp [Lg.over, hb]) hr hP
  have h2 : ((M.over L).minus M).put r (.abs P) = L.put r (.abs P) := by
    funext m
    unfold Lg.put
    by_cases hm : m = r
    · simp [hm]
    · simp only [hm, if_false]
      cases h3 : M m with
      | none => simp [Lg.over, Lg.minus, h3]
      | some c => simp only [Lg.minus, h3]; exact (hf m c h3 hm).symm
  rw [h2] at h1
  exact h1
/-- What may be seen at names of a kind becomes one thing; what else has come is let go. -/
theorem Sees.shutAt {L Lf : Lg} {r : Nat} {P : Hp → Prop} (ids : Nat → Prop) (hr : ids r) (h1 : ∀ b c, ¬ ids b → L b = some c → Lf b = some c) (h2 : ∀ b, ids b → b ≠ r → L b = none)
    (h3 : (∃ cs, Lf r = some (.raw (.cells cs))) ∨ ∃ Q, Lf r = some (.abs Q)) (hP : ∀ (M : Lg) h, (∀ b, ids b → M b = Lf b) → (∀ b, ¬ ids b → M b = none) → Sat M h → P h) : Sees Lf (L.put r (.abs P)) := by
  classical
  let M : Lg := fun b => if ids b then Lf b else none
  have hM : ∀ b, ids b → M b = Lf b := fun b hb => by simp [M, hb]
  have hN : ∀ b, ¬ ids b → M b = none := fun b hb => by simp [M, hb]
  have e1 : Sees Lf (M.over L) := by
    apply Sees.drop
    intro b c hb
    unfold Lg.over at hb
    by_cases hi : ids b
    · rw [hM b hi] at hb
      cases h4 : Lf b with
      | some d => rw [h4] at hb; exact hb
      | none =>
        rw [h4] at hb
        by_cases hbr : b = r
        · subst hbr; rcases h3 with ⟨cs, h3⟩ | ⟨Q, h3⟩ <;> rw [h3] at h4 <;> cases h4
        · rw [h2 b hi hbr] at hb; cases hb
    · rw [hN b hi] at hb
      exact h1 b c hi hb
  refine e1.trans (Sees.shut ?_ ?_ fun h hs => hP M h hM hN hs)
  · intro b c hb hbr
    by_cases hi : ids b
    · exact h2 b hi hbr
    · rw [hN b hi] at hb; cases hb
  · rw [hM r hr]; exact h3
theorem CallL.open2 {F : Nat → Option AFn} {f : Nat} {vs : List AV} {L : Lg} {Q : AV → Lg → Prop} {r : Nat} {P : Hp → Prop} (e : L r = some (.abs P))
    (h : ∀ hm, P hm → ∃ b c d, b ≠ r ∧ Sat (Lg.two r b c d) hm ∧ (L b = none → CallL F f vs ((L.put b d).put r c) Q)) : CallL F f vs L Q := by
  apply CallL.opens e
  intro hm hP
  obtain ⟨b, c, d, hb, hs, hc⟩ := h hm hP
  refine ⟨Lg.two r b c d, hs, by simp [Lg.two], fun hf => ?_⟩
  rw [over_two L hb]
  exact hc (hf b d (by simp [Lg.two, hb]) hb)
theorem Sees.shut2 {L : Lg} {r b : Nat} {cs : List AV} {d : LC} {P : Hp → Prop} (hb : b ≠ r) (hf : L b = none) (hP : ∀ h, Sat (Lg.two r b (.raw (.cells cs)) d) h → P h) : Sees ((L.put b d).put r (.raw (.cells cs))) (L.put r (.abs P)) := by
  rw [← over_two L hb]
  refine Sees.shut ?_ (.inl ⟨cs, by simp [Lg.two]⟩) hP
  intro b' c' h1 h2
  unfold Lg.two at h1
  simp only [h2, if_false] at h1
  split at h1
  · rename_i h3; subst h3; exact hf
  · cases h1

theorem Lg.put3 (L : Lg) {n m : Nat} (h : n ≠ m) (c d e : LC) : ((L.put n c).put m d).put n e = (L.put n e).put m d := by
  rw [Lg.put_comm _ (Ne.symm h), Lg.put_put]
/-! ### the same -/
@[simp] theorem kEq_self (j : IntKind) : kEq j j = true := by cases j <;> rfl
theorem beq_self (n : Nat) : Nat.beq n n = true := by rw [beq_nat]; simp
@[simp] theorem sameV_i (j : IntKind) (x : Int) : sameV (.i j x) (.i j x) = true := by simp [sameV, same1, iEq_eq]
@[simp] theorem sameV_b (x : Bool) : sameV (.b x) (.b x) = true := by simp [sameV, same1]
@[simp] theorem sameV_p (x : Option (Nat × Nat)) : sameV (.p x) (.p x) = true := by cases x <;> simp [sameV, same1, beq_self]
@[simp] theorem sameV_m (x : Option Nat) : sameV (.m x) (.m x) = true := by cases x <;> simp [sameV, same1, beq_self]
@[simp] theorem sameV_sl (a : Option (Nat × Nat)) (n c e : Nat) : sameV (.sl a n c e) (.sl a n c e) = true := by cases a <;> simp [sameV, same1, beq_self]
/-! ### cells -/
theorem splice_one (c : List AV) (o : Nat) (v : AV) (h : o < c.length) : splice c o [v] = c.set o v := by
  unfold splice
  rw [List.set_eq_take_append_cons_drop]
  simp [h]
theorem rdL_cell {L : Lg} {b o : Nat} {c : List AV} (h : L b = some (.raw (.cells c))) : rdL L (b, o) none = c[o]? := by
  simp [rdL, h, AB.read, look]
theorem rdL_cells {L : Lg} {b o n : Nat} {c : List AV} (h : L b = some (.raw (.cells c))) (hn : o + n ≤ c.length) : rdL L (b, o) (some n) = some (.agg ((c.drop o).take n)) := by
  simp [rdL, h, AB.read, look, cut, ble_nat, hn]
theorem rdL_ro {L : Lg} {b o : Nat} {c : List AV} (h : L b = some (.raw (.ro c))) : rdL L (b, o) none = c[o]? := by
  simp [rdL, h, AB.read, look]
theorem rdL_ros {L : Lg} {b o n : Nat} {c : List AV} (h : L b = some (.raw (.ro c))) (hn : o + n ≤ c.length) : rdL L (b, o) (some n) = some (.agg ((c.drop o).take n)) := by
  simp [rdL, h, AB.read, look, cut, ble_nat, hn]
theorem stL_cell {L : Lg} {b o : Nat} {c : List AV} {v : AV} {k : AV → Lg → Prop} (h : L b = some (.raw (.cells c))) (ho : o < c.length) (hv : v.cellsOf = some [v]) : stL 1 L k [.p (some (b, o)), v] = k .bad (L.put b (.raw (.cells (c.set o v)))) := by
  have h1 : v.one = true := by
    have := cellsOf_one hv
    simpa using this
  have h2 : o + 1 ≤ c.length := ho
  simp [stL, hv, wrL, h, h1, splice_one c o v ho, h2]
theorem stL_cells {L : Lg} {b o n : Nat} {c l : List AV} {k : AV → Lg → Prop} (h : L b = some (.raw (.cells c))) (hl : l.all AV.one = true) (hn : l.length = n) (ho : o + n ≤ c.length) : stL n L k [.p (some (b, o)), .agg l] = k .bad (L.put b (.raw (.cells (splice c o l)))) := by
  subst hn
  have hl' : ∀ x, x ∈ l → x.one = true := List.all_eq_true.1 hl
  simp only [stL, cellsOf_agg l hl, if_true, wrL, h, ho, hl, and_self]
/-- a box: a block of its own -/
theorem box_one (F : Nat → Option AFn) (v : AV) (L : Lg) (k : AV → Lg → Prop) (hv : v.cellsOf = some [v]) : wpOp F .box [v] L k = ∀ b, L b = none → k (.p (some (b, 0))) (L.put b (.raw (.cells [v]))) := by
  simp [newL, aBox, hv]
theorem box_agg (F : Nat → Option AFn) (l : List AV) (L : Lg) (k : AV → Lg → Prop) (hl : l.all AV.one = true) : wpOp F .box [.agg l] L k = ∀ b, L b = none → k (.p (some (b, 0))) (L.put b (.raw (.cells l))) := by
  simp [newL, aBox, cellsOf_agg l hl]
theorem cellsOf_agg' (l : List AV) : (AV.agg l).cellsOf = if l.all AV.one = true then some l else none := by
  simp only [AV.cellsOf]
  cases h : l.all AV.one <;> simp
theorem newL_box (v : AV) (L : Lg) (k : AV → Lg → Prop) {l : List AV} (hv : v.cellsOf = some l) : newL aBox [v] L k = ∀ b, L b = none → k (.p (some (b, 0))) (L.put b (.raw (.cells l))) := by
  simp [newL, aBox, hv]
theorem newL_box_agg (l : List AV) (L : Lg) (k : AV → Lg → Prop) (h : l.all AV.one = true) : newL aBox [.agg l] L k = ∀ b, L b = none → k (.p (some (b, 0))) (L.put b (.raw (.cells l))) := newL_box _ L k (cellsOf_agg l h)
@[simp] theorem newL_box_agg2 (x y : AV) (L : Lg) (k : AV → Lg → Prop) (h1 : x.one = true) (h2 : y.one = true) : newL aBox [.agg [x, y]] L k = ∀ b, L b = none → k (.p (some (b, 0))) (L.put b (.raw (.cells [x, y]))) := newL_box_agg _ L k (by simp [h1, h2])
@[simp] theorem newL_box_agg3 (x y z : AV) (L : Lg) (k : AV → Lg → Prop) (h1 : x.one = true) (h2 : y.one = true) (h3 : z.one = true) : newL aBox [.agg [x, y, z]] L k = ∀ b, L b = none → k (.p (some (b, 0))) (L.put b (.raw (.cells [x, y, z]))) := newL_box_agg _ L k (by simp [h1, h2, h3])
@[simp] theorem newL_box_agg5 (x y z u v : AV) (L : Lg) (k : AV → Lg → Prop) (h1 : x.one = true) (h2 : y.one = true) (h3 : z.one = true) (h4 : u.one = true) (h5 : v.one = true) : newL aBox [.agg [x, y, z, u, v]] L k = ∀ b, L b = none → k (.p (some (b, 0))) (L.put b (.raw (.cells [x, y, z, u, v]))) := newL_box_agg _ L k (by simp [h1, h2, h3, h4, h5])
@[simp] theorem newL_box_i (j n) (L : Lg) (k : AV → Lg → Prop) : newL aBox [.i j n] L k = ∀ b, L b = none → k (.p (some (b, 0))) (L.put b (.raw (.cells [.i j n]))) := newL_box _ L k rfl
@[simp] theorem newL_box_b (n) (L : Lg) (k : AV → Lg → Prop) : newL aBox [.b n] L k = ∀ b, L b = none → k (.p (some (b, 0))) (L.put b (.raw (.cells [.b n]))) := newL_box _ L k rfl
@[simp] theorem newL_box_p (n) (L : Lg) (k : AV → Lg → Prop) : newL aBox [.p n] L k = ∀ b, L b = none → k (.p (some (b, 0))) (L.put b (.raw (.cells [.p n]))) := newL_box _ L k rfl
@[simp] theorem newL_box_sl (a b c d) (L : Lg) (k : AV → Lg → Prop) : newL aBox [.sl a b c d] L k = ∀ r, L r = none → k (.p (some (r, 0))) (L.put r (.raw (.cells [.sl a b c d]))) := newL_box _ L k rfl
theorem newL_bslice {z : List AV} {len size : Nat} {ps : List Nat} {vs c : List AV} (L : Lg) (k : AV → Lg → Prop) (h : fillP (reps z len) (ps.map fun i => (i * size, size)) vs = some c) (h1 : c.all AV.one = true) :
    newL (aBslice z len size ps) vs L k = ∀ b, L b = none → k (.sl (some (b, 0)) len len 0) (L.put b (.raw (.cells c))) := by
  simp [newL, aBslice, h, h1]
theorem reps_one' (v : AV) : ∀ n, reps [v] n = List.replicate n v
  | 0 => rfl
  | n + 1 => by simp [reps, reps_one' v n, List.replicate_succ]

theorem loopW_intro {B : Env → Env → Lg → (Env → Lg → Prop) → Prop} {l : Env} {L : Lg} (I : Nat → Env → Lg → Prop) (n : Nat) (h0 : I n l L) (h : ∀ n l t L, I n l L → B l t L (fun l L => ∃ m, m < n ∧ I m l L)) : loopW B l L := ⟨I, ⟨n, h0⟩, h⟩
@[simp] theorem initE_cons (v : AV) (r : List AV) (i : Nat) : initE (v :: r) i = (initE r (i + 1)).put i v := rfl
@[simp] theorem initE_nil (i n : Nat) : initE [] i n = .bad := rfl
@[simp] theorem evO_c (l t : Env) (v : AV) : evO l t (.c v) = v := rfl
theorem res_cell_tmp (L : Lg) {b o n : Nat} {c : List AV} (v : AV) (h : L b = some (.raw (.cells c))) (hn : o + n ≤ c.length) : resVL Env.nil Env.nil L [.cell (.c (.p (some (b, o)))) (some n), .tmp (.c v)] = some (.tup [.agg ((c.drop o).take n), v]) := by
  simp [resVL, resLL, resOneL, rdL_cells h hn]
/-! ### a slice of one's own, that is appended to -/
def OwnSl (L : Lg) (v : AV) (cs : List AV) (n size : Nat) : Prop :=
  (n = 0 ∧ cs = [] ∧ v = .sl none 0 0 0) ∨ ∃ b, 0 < n ∧ v = .sl (some (b, 0)) n n size ∧ L b = some (.raw (.cells cs)) ∧ cs.length = n * size
/-- the block of a slice of one's own -/
def slB : AV → Option Nat
  | .sl (some (b, _)) _ _ _ => some b
  | _ => none
def Lg.delO (L : Lg) : Option Nat → Lg
  | none => L
  | some b => L.del b
/-- a slice that has come: nothing, or a block that was not there -/
def FreshSl (L : Lg) (v : AV) (cs : List AV) (n size : Nat) (L' : Lg) : Prop :=
  (n = 0 ∧ cs = [] ∧ v = .sl none 0 0 0 ∧ L' = L) ∨ ∃ b ex, L b = none ∧ 0 < n ∧ v = .sl (some (b, 0)) n n ex ∧ cs.length = n * size ∧ L' = L.put b (.raw (.cells cs))
/-- L' has all that L has -/
def Ext2 (L L' : Lg) : Prop := ∀ b c, L b = some c → L' b = some c
theorem Ext2.refl (L : Lg) : Ext2 L L := fun _ _ h => h
theorem Ext2.trans {L M K : Lg} (h : Ext2 L M) (k : Ext2 M K) : Ext2 L K := fun b c e => k b c (h b c e)
theorem Ext2.put {L M : Lg} (h : Ext2 L M) {b : Nat} (hb : L b = none) (c : LC) : Ext2 L (M.put b c) := fun d e hd => by
  have : d ≠ b := by rintro rfl; rw [hb] at hd; cases hd
  rw [Lg.put_ne _ _ _ this]; exact h d e hd
theorem Ext2.del {L M : Lg} (h : Ext2 L M) {b : Nat} (hb : L b = none) : Ext2 L (M.del b) := fun d e hd => by
  have : d ≠ b := by rintro rfl; rw [hb] at hd; cases hd
  rw [Lg.del_apply, if_neg this]; exact h d e hd
theorem Ext2.delO {L M : Lg} (h : Ext2 L M) {o : Option Nat} (hb : ∀ b, o = some b → L b = none) : Ext2 L (M.delO o) := by
  cases o with
  | none => exact h
  | some b => exact h.del (hb b rfl)
theorem Ext2.none {L M : Lg} (h : Ext2 L M) {b : Nat} (hb : M b = none) : L b = none := by
  cases e : L b with
  | none => rfl
  | some c => rw [h b c e] at hb; cases hb
theorem Ext2.sees {L M : Lg} (h : Ext2 L M) : Sees M L := Sees.drop h
theorem OwnSl.app {L : Lg} {v : AV} {cs : List AV} {n size bytes : Nat} (h : OwnSl L v cs n size) (hsz : 0 < size) {src : AV} {new : List AV} {m c e : Nat} {a : Option (Nat × Nat)} (hs : src = .sl a m c e) (hm : 0 < m) (hr : rdCellsL L a (m * size) = some new) (hn : new.length = m * size) (h1 : new.all AV.one = true) (hb : (n + m) * bytes ≤ 70368744177664)
    {k : AV → Lg → Prop} (hk : ∀ b, L b = none → k (.sl (some (b, 0)) (n + m) (n + m) size) ((L.delO (slB v)).put b (.raw (.cells (cs ++ new))))) : appW size bytes L k [v, src] := by
  subst hs
  rcases h with ⟨rfl, rfl, rfl⟩ | ⟨b, h0, rfl, hL, hl⟩
  · simp only [appW, hr, appL, h1, true_and]
    have h2 : ¬ (0 + m ≤ 0) := by omega
    simp only [h2, if_false, hb, true_and, Nat.zero_mul, rdCellsL, goneL, if_true, List.nil_append]
    exact hk
  · simp only [appW, hr, appL, h1, true_and]
    have h2 : ¬ (n + m ≤ n) := by omega
    have h3 : rdCellsL L (some (b, 0)) (n * size) = some cs := by
      simp only [rdCellsL, hL, AB.read, cut, ble_nat, Nat.zero_add, hl, Nat.le_refl, decide_true, cond_true, List.drop_zero]
      rw [← hl, List.take_length]
    have h4 : ¬ size = 0 := by omega
    simp only [h2, if_false, hb, true_and, h3, goneL, h4, if_true, hL]
    exact hk
theorem OwnSl.of_app {L : Lg} {v : AV} {cs new : List AV} {n m size b : Nat} (h : OwnSl L v cs n size) (hm : 0 < m) (hn : new.length = m * size) : OwnSl ((L.delO (slB v)).put b (.raw (.cells (cs ++ new)))) (.sl (some (b, 0)) (n + m) (n + m) size) (cs ++ new) (n + m) size := by
  refine .inr ⟨b, by omega, rfl, Lg.put_same _ _ _, ?_⟩
  rcases h with ⟨rfl, rfl, rfl⟩ | ⟨b, h0, rfl, hL, hl⟩
  · simp [hn]
  · simp [hl, hn, Nat.add_mul]
theorem appW_grow {L L' : Lg} {size bytes len cap ex m c e : Nat} {a b : Option (Nat × Nat)} {new old : List AV} {k : AV → Lg → Prop} (hr : rdCellsL L b (m * size) = some new) (h1 : new.all AV.one = true) (hlt : ¬ len + m ≤ cap)
    (hb : (len + m) * bytes ≤ 70368744177664) (ho : rdCellsL L a (len * size) = some old) (hg : goneL L a ex size = some L') (hk : ∀ b, L b = none → k (.sl (some (b, 0)) (len + m) (len + m) size) (L'.put b (.raw (.cells (old ++ new))))) :
    appW size bytes L k [.sl a len cap ex, .sl b m c e] := by
  simp only [appW, hr, appL, h1, true_and, hlt, if_false, hb, ho, hg]
  exact hk
theorem appW_room {L L' : Lg} {size bytes len cap ex m c e r o : Nat} {b : Option (Nat × Nat)} {new : List AV} {k : AV → Lg → Prop} (hr : rdCellsL L b (m * size) = some new) (h1 : new.all AV.one = true) (hle : len + m ≤ cap) (hm : m ≠ 0)
    (hw : wrL L (r, o + len * size) new = some L') (hk : k (.sl (some (r, o)) (len + m) cap ex) L') : appW size bytes L k [.sl (some (r, o)) len cap ex, .sl b m c e] := by
  simp only [appW, hr, appL, h1, true_and, hle, if_true, hm, if_false, hw]
  exact hk
end Go.AM

/- ring: what its functions do. -/
set_option linter.unusedVariables false
set_option linter.unusedSimpArgs false
namespace Go.AM
variable {N : Nat → Nat} {F : Nat → Option AFn}

def ints (zs : List Int) : List AV := zs.map (.i .i64 ·)
@[simp] theorem ints_length (zs : List Int) : (ints zs).length = zs.length := by simp [ints]
@[simp] theorem ints_get (zs : List Int) (i : Nat) : (ints zs)[i]? = (zs[i]?).map (.i .i64 ·) := by simp [ints]
theorem ints_set (zs : List Int) (i : Nat) (v : Int) : (ints zs).set i (.i .i64 v) = ints (zs.set i v) := by simp [ints, List.map_set]
/-- a ring's values, and its room -/
def RingP (r : Nat) (xs : List Int) (cap : Nat) (h : Hp) : Prop := ∃ (b fr : Nat) (zs : List Int), b ≠ r ∧ zs.length = cap ∧ xs.length ≤ cap ∧ cap ≤ 64 ∧ fr ≤ cap ∧ (0 < cap → fr < cap) ∧ (∀ i, i < xs.length → zs[(fr + i) % cap]? = xs[i]?) ∧
  Sat (Lg.two r b (.raw (.cells [.sl (some (b, 0)) cap cap 0, .i .i64 fr, .i .i64 xs.length])) (.raw (.cells (ints zs)))) h

section
variable {L : Lg} {r cap : Nat} {xs : List Int}
theorem ringLen_raw (h : H_ring_Ring_Len N F) {a b : AV} {n : Int} (e : L r = some (.raw (.cells [a, b, .i .i64 n]))) : CallL F (N k_ring_Ring_Len) [.p (some (r, 0))] L fun w L' => w = .i .i64 n ∧ L' = L := by
  apply r_ring_Ring_Len h.code
  simp [D_ring_Ring_Len_1, rdL, AB.read, look, e]
theorem ringPush_spec (h : H_ring_Ring_Push N F) (e : L r = some (.abs (RingP r xs cap))) (v : Int) : CallL F (N k_ring_Ring_Push) [.p (some (r, 0)), .i .i64 v] L fun w L' =>
    if xs.length = cap then w = .b false ∧ L' = L else w = .b true ∧ L' = L.put r (.abs (RingP r (xs ++ [v]) cap)) := by
  apply CallL.open2 e
  rintro hm ⟨b, fr, zs, hne, h1, h2, h3, h4, h5, h6, hs⟩
  refine ⟨b, _, _, hne, hs, fun hb => ?_⟩
  apply r_ring_Ring_Push h.code
  unfold D_ring_Ring_Push_1 D_ring_Ring_Push_2
  by_cases hf : xs.length = cap
  · simp [rdL, AB.read, look, hf]
    have := Sees.shut2 (P := RingP r xs cap) hne hb (fun h hs => ⟨b, fr, zs, hne, h1, h2, h3, h4, h5, h6, hs⟩)
    rwa [Lg.put_self L r _ e, hf] at this
  · have hi : ¬ ((xs.length : Int) = cap) := by omega
    have hc : (cap : Int) ≠ 0 := by omega
    have e1 : wr .i64 ((fr : Int) + xs.length) = (fr : Int) + xs.length := wr_id (by omega) (by omega)
    obtain ⟨m, hm'⟩ : ∃ m, m = (fr + xs.length) % cap := ⟨_, rfl⟩
    have e2 : ((fr : Int) + xs.length).tmod cap = (m : Int) := by rw [hm', ← Int.natCast_add, Int.ofNat_tmod]
    obtain ⟨n1, hn1⟩ : ∃ n1, n1 = xs.length + 1 := ⟨_, rfl⟩
    have e3 : wr .i64 ((xs.length : Int) + 1) = (n1 : Int) := by rw [wr_id (by omega) (by omega)]; omega
    have hlt : m < cap := by rw [hm']; exact Nat.mod_lt _ (by omega)
    have e5 : (m : Int) < cap := by omega
    have e6 : m + 1 ≤ cap := hlt
    simp [rdL, AB.read, look, hf, hi, D_ring_Ring_Push_3, e1, e2, wp_rem _ _ _ _ _ _ hc, wp_iad _ _ _ 1 b 0 cap cap 0 .i64 (m : Int) (Int.natCast_nonneg _) e5,
      stL, wrL, splice_one, ints_set, Lg.put_apply, hne, Ne.symm hne, h1, hlt, e3, e6, Lg.put3 _ hne]
    apply Sees.shut2 hne hb
    intro h hs
    refine ⟨b, fr, zs.set m v, hne, by simpa using h1, by simp; omega, h3, h4, h5, ?_, by simpa [hn1] using hs⟩
    intro i hi'
    rw [List.length_append, List.length_singleton] at hi'
    rw [List.getElem?_set, List.getElem?_append]
    by_cases h7 : i < xs.length
    · have : m ≠ (fr + i) % cap := by
        rw [hm']; intro h8
        have h9 : (fr + xs.length) % cap = (fr + i) % cap := h8
        have := Nat.mod_lt (fr + i) (show 0 < cap by omega)
        have a1 := Nat.div_add_mod (fr + xs.length) cap
        have a2 := Nat.div_add_mod (fr + i) cap
        have a3 : (fr + i) / cap ≤ (fr + xs.length) / cap := Nat.div_le_div_right (by omega)
        rcases Nat.lt_or_ge ((fr + i) / cap) ((fr + xs.length) / cap) with a4 | a4
        · have a5 := Nat.mul_le_mul_left cap (show (fr + i) / cap + 1 ≤ (fr + xs.length) / cap from a4)
          rw [Nat.mul_add] at a5
          omega
        · have : (fr + i) / cap = (fr + xs.length) / cap := by omega
          rw [this] at a2
          omega
      simp only [this, if_false, h7, if_true]
      exact h6 i h7
    · have : i = xs.length := by omega
      subst this
      simp [hm']
      rw [← hm']
      simp [h1, hlt]
theorem ringClear_spec (h : H_ring_Ring_Clear N F) (e : L r = some (.abs (RingP r xs cap))) : CallL F (N k_ring_Ring_Clear) [.p (some (r, 0))] L fun w L' => w = .i .i64 xs.length ∧ L' = L.put r (.abs (RingP r [] cap)) := by
  apply CallL.open2 e
  rintro hm ⟨b, fr, zs, hne, h1, h2, h3, h4, h5, h6, hs⟩
  refine ⟨b, _, _, hne, hs, fun hb => ?_⟩
  apply r_ring_Ring_Clear h.code
  unfold D_ring_Ring_Clear_1
  have key : Sees ((L.put b (.raw (.cells (ints zs)))).put r (.raw (.cells [.sl (some (b, 0)) cap cap 0, .i .i64 fr, .i .i64 (0 : Nat)]))) (L.put r (.abs (RingP r [] cap))) :=
    Sees.shut2 hne hb (fun h hs => ⟨b, fr, zs, hne, h1, by simp, h3, h4, h5, by simp, hs⟩)
  refine (ringLen_raw (r := r) h.ring_Ring_Len (Lg.put_same _ _ _)).mono ?_
  rintro _ _ ⟨rfl, rfl⟩
  by_cases h0 : xs.length = 0
  · have h0' : ((0 : Nat) : Int) = 0 := rfl
    rw [h0] at hs ⊢
    simpa [h0'] using key
  · have hp : (0 : Int) < xs.length := by omega
    have hp2 : 0 < xs.length := by omega
    simpa [hp, hp2, rdL, AB.read, look, stL, wrL, splice_one] using key
theorem ringNew_spec (h : H_ring_New N F) (n : Nat) (hn : n ≤ 64) : CallL F (N k_ring_New) [.i .i64 n] L fun w L' => ∃ r, L r = none ∧ w = .tup [.p (some (r, 0)), .i .i64 0] ∧ L' = L.put r (.abs (RingP r [] n)) := by
  apply r_ring_New h.code
  have h1 : ¬ ((n : Int) < 0) := by omega
  have h2 : ¬ ((64 : Int) < n) := by omega
  have h2' : ¬ (64 < n) := by omega
  simp [D_ring_New_1, h1, h2, h2', wp_mksl F _ _ [.i .i64 0] 8 .i64 .i64 n n (Nat.le_refl n) (by omega)]
  intro b hb
  simp [fillP, splice, Nat.ble]
  · intro r hr
    have hrb : r ≠ b := by rintro rfl; simp at hr
    rw [Lg.put_ne _ _ _ hrb] at hr
    refine ⟨L.put r (.abs (RingP r [] n)), ?_, r, hr, rfl, rfl⟩
    refine Sees.shut2 (Ne.symm hrb) hb ?_
    intro h hs
    refine ⟨b, 0, List.replicate n 0, Ne.symm hrb, by simp, by simp, hn, by omega, fun h => h, by simp, ?_⟩
    have : ints (List.replicate n 0) = reps [.i .i64 0] n := by simp [ints, reps_one']
    rw [this]
    exact hs
end
end Go.AM


/- wait: what its functions do. -/
set_option linter.unusedVariables false
set_option linter.unusedSimpArgs false
namespace Go.AM
variable {N : Nat → Nat} {F : Nat → Option AFn}

/-- one who waits -/
structure Wt where
  t : Int
  c : Int
  v : Int
  deriving DecidableEq
def Wt.cells (w : Wt) : List AV := [.i .i64 w.t, .i .i64 w.c, .i .i64 w.v]
def Wt.av (w : Wt) : AV := .agg w.cells
def Wt.zero : Wt := ⟨0, 0, 0⟩
def ptr (o : Option Nat) : AV := .p (o.map fun b => (b, 0))
@[simp] theorem ptr_none : ptr none = .p none := rfl
@[simp] theorem ptr_some (b : Nat) : ptr (some b) = .p (some (b, 0)) := rfl
@[simp] theorem ptr_cellsOf (o : Option Nat) : (ptr o).cellsOf = some [ptr o] := rfl
@[simp] theorem ptr_one (o : Option Nat) : (ptr o).one = true := rfl
def wnode (w : Wt) (p n : Option Nat) : LC := .raw (.cells [.i .i64 w.t, .i .i64 w.c, .i .i64 w.v, ptr p, ptr n])
def hd (n : Option Nat) : List (Nat × Wt) → Option Nat
  | [] => n
  | x :: _ => some x.1
def lst (p : Option Nat) : List (Nat × Wt) → Option Nat
  | [] => p
  | x :: r => lst (some x.1) r
def Seg (M : Lg) (p : Option Nat) : List (Nat × Wt) → Option Nat → Prop
  | [], _ => True
  | (i, w) :: r, n => M i = some (wnode w p (hd n r)) ∧ Seg M (some i) r n
def idsOf (l : List (Nat × Wt)) : List Nat := l.map (·.1)
@[simp] theorem hd_nil (n : Option Nat) : hd n [] = n := rfl
@[simp] theorem hd_cons (n : Option Nat) (x : Nat × Wt) (r : List (Nat × Wt)) : hd n (x :: r) = some x.1 := rfl
@[simp] theorem lst_nil (n : Option Nat) : lst n [] = n := rfl
@[simp] theorem lst_cons (n : Option Nat) (x : Nat × Wt) (r : List (Nat × Wt)) : lst n (x :: r) = lst (some x.1) r := rfl
theorem hd_append (n : Option Nat) : ∀ (A B : List (Nat × Wt)), hd n (A ++ B) = hd (hd n B) A
  | [], _ => rfl
  | _ :: _, _ => rfl
theorem lst_append : ∀ (A B : List (Nat × Wt)) (p : Option Nat), lst p (A ++ B) = lst (lst p A) B
  | [], _, _ => rfl
  | _ :: A, B, _ => lst_append A B _
theorem Seg.append (M : Lg) : ∀ (A B : List (Nat × Wt)) (p n : Option Nat), Seg M p (A ++ B) n ↔ Seg M p A (hd n B) ∧ Seg M (lst p A) B n
  | [], _, _, _ => by simp [Seg, lst]
  | (i, w) :: A, B, p, n => by
    simp only [List.cons_append, Seg, lst, hd_append, Seg.append M A B, and_assoc]
theorem Seg.congr {M M' : Lg} : ∀ {l : List (Nat × Wt)} {p n : Option Nat}, (∀ i, i ∈ idsOf l → M' i = M i) → Seg M p l n → Seg M' p l n
  | [], _, _, _, _ => trivial
  | (i, w) :: r, p, n, h, hs => ⟨by rw [h i (by simp [idsOf])]; exact hs.1, Seg.congr (fun j hj => h j (by simp [idsOf] at hj ⊢; exact .inr hj)) hs.2⟩

theorem Seg.some {M : Lg} : ∀ {l : List (Nat × Wt)} {p n : Option Nat}, Seg M p l n → ∀ i, i ∈ idsOf l → M i ≠ none
  | [], _, _, _, i, hi => by simp [idsOf] at hi
  | (j, w) :: r, p, n, hs, i, hi => by
    simp only [idsOf, List.map_cons, List.mem_cons] at hi
    rcases hi with rfl | hi
    · rw [hs.1]; simp
    · exact Seg.some hs.2 i hi

/-- a queue: who waits, in order -/
def QueueP (q : Nat) (ws : List Wt) (h : Hp) : Prop := ∃ (l : List (Nat × Wt)) (M : Lg), l.map (·.2) = ws ∧ (q :: idsOf l).Nodup ∧ ws.length ≤ 1000000 ∧
  M q = some (.raw (.cells [ptr (hd none l), ptr (lst none l), .i .i64 ws.length])) ∧ Seg M none l none ∧ (∀ b, b ∉ q :: idsOf l → M b = none) ∧ Sat M h

section
variable {L : Lg} {q : Nat} {ws : List Wt}
/-- a queue, opened -/
structure QOpen (L : Lg) (q : Nat) (l : List (Nat × Wt)) (L1 : Lg) : Prop where
  nd : (q :: idsOf l).Nodup
  root : L1 q = some (.raw (.cells [ptr (hd none l), ptr (lst none l), .i .i64 l.length]))
  seg : Seg L1 none l none
  old : ∀ b c, b ∉ q :: idsOf l → L b = some c → L1 b = some c
  new : ∀ b, b ∈ idsOf l → L b = none
theorem QOpen.shut {l : List (Nat × Wt)} {L1 : Lg} (h : QOpen L q l L1) (hl : l.length ≤ 1000000) : Sees L1 (L.put q (.abs (QueueP q (l.map (·.2))))) := by
  refine Sees.shutAt (fun b => b ∈ q :: idsOf l) (List.mem_cons_self ..) h.old ?_ (.inl ⟨_, h.root⟩) ?_
  · intro b hb hbq
    rcases List.mem_cons.1 hb with rfl | hb
    · exact absurd rfl hbq
    · exact h.new b hb
  · intro M hp hM hN hs
    refine ⟨l, M, rfl, h.nd, by simpa using hl, ?_, ?_, hN, hs⟩
    · rw [hM q (List.mem_cons_self ..), h.root]; simp
    · exact Seg.congr (fun i hi => hM i (List.mem_cons_of_mem _ hi)) h.seg
theorem CallL.openQ {f : Nat} {vs : List AV} {Q : AV → Lg → Prop} (e : L q = some (.abs (QueueP q ws)))
    (h : ∀ l L1, l.map (·.2) = ws → l.length ≤ 1000000 → QOpen L q l L1 → (∀ b, b ∉ q :: idsOf l → L1 b = L b) → CallL F f vs L1 Q) : CallL F f vs L Q := by
  apply CallL.opens e
  rintro hm ⟨l, M, h1, h2, h3, h4, h5, h6, hs⟩
  refine ⟨M, hs, by rw [h4]; simp, fun hf => ?_⟩
  have hover : ∀ b c, M b = some c → (M.over L) b = some c := fun b c hb => by simp [Lg.over, hb]
  have hseg : ∀ {l : List (Nat × Wt)} {p n : Option Nat}, Seg M p l n → Seg (M.over L) p l n := by
    intro l
    induction l with
    | nil => intros; trivial
    | cons x r ih => intro p n hs; exact ⟨hover _ _ hs.1, ih hs.2⟩
  have hin : ∀ {l : List (Nat × Wt)} {p n : Option Nat}, Seg M p l n → ∀ i, i ∈ idsOf l → ∃ c, M i = some c := by
    intro l
    induction l with
    | nil => intro p n hs i hi; simp [idsOf] at hi
    | cons x r ih =>
      intro p n hs i hi
      simp only [idsOf, List.map_cons, List.mem_cons] at hi
      rcases hi with rfl | hi
      · exact ⟨_, hs.1⟩
      · exact ih hs.2 i hi
  have hlen : l.length = ws.length := by rw [← h1]; simp
  refine h l (M.over L) h1 (by omega) ⟨h2, ?_, hseg h5, ?_, ?_⟩ ?_
  · rw [hlen]; exact hover q _ h4
  · intro b c hb hL; simp [Lg.over, h6 b hb, hL]
  · intro b hb
    obtain ⟨c, hc⟩ := hin h5 b hb
    refine hf b c hc ?_
    rintro rfl
    exact (List.nodup_cons.1 h2).1 hb
  · intro b hb; simp [Lg.over, h6 b hb]

theorem queueNew_spec (h : H_wait_New N F) : CallL F (N k_wait_New) [] L fun v L' => ∃ q, L q = none ∧ v = .p (some (q, 0)) ∧ L' = L.put q (.abs (QueueP q [])) := by
  apply r_wait_New h.code
  simp [D_wait_New_1, fillP]
  intro b hb
  refine ⟨L.put b (.abs (QueueP b [])), ?_, b, hb, rfl, rfl⟩
  have : QOpen L b [] (L.put b (.raw (.cells [.p none, .p none, .i .i64 0]))) :=
    ⟨by simp [idsOf], by simp [hd, lst], trivial, fun c d h1 h2 => by simp [idsOf] at h1; rw [Lg.put_ne _ _ _ h1]; exact h2, fun c hc => by simp [idsOf] at hc⟩
  exact this.shut (by simp)
theorem idsOf_append (A B : List (Nat × Wt)) : idsOf (A ++ B) = idsOf A ++ idsOf B := by simp [idsOf]
theorem idsOf_cons (x : Nat × Wt) (B : List (Nat × Wt)) : idsOf (x :: B) = x.1 :: idsOf B := rfl
@[simp] theorem idsOf_nil : idsOf [] = [] := rfl
theorem QOpen.dropped {A B : List (Nat × Wt)} {i : Nat} {w : Wt} {L1 : Lg} (hq : QOpen L q (A ++ (i, w) :: B) L1) {Lf : Lg}
    (f1 : Lf q = some (.raw (.cells [ptr (hd none (A ++ B)), ptr (lst none (A ++ B)), .i .i64 (A ++ B).length])))
    (f2 : ∀ A' j u, A = A' ++ [(j, u)] → Lf j = some (wnode u (lst none A') (hd none B)))
    (f3 : ∀ k z B', B = (k, z) :: B' → Lf k = some (wnode z (lst none A) (hd none B')))
    (f4 : ∀ b, b ≠ q → (∀ A' j u, A = A' ++ [(j, u)] → b ≠ j) → (∀ k z B', B = (k, z) :: B' → b ≠ k) → Lf b = L1 b) : QOpen L q (A ++ B) Lf := by
  have hseg := (Seg.append L1 A ((i, w) :: B) none none).1 hq.seg
  have hnd := hq.nd
  rw [idsOf_append, idsOf_cons] at hnd
  have h1 := (List.nodup_cons.1 hnd).1
  have h2 := List.nodup_append.1 (List.nodup_cons.1 hnd).2
  have h3 := List.nodup_cons.1 h2.2.1
  refine ⟨?_, f1, ?_, ?_, ?_⟩
  · rw [idsOf_append, List.nodup_cons, List.nodup_append]
    refine ⟨fun h => h1 ?_, h2.1, h3.2, fun a ha b hb => h2.2.2 a ha b (List.mem_cons_of_mem _ hb)⟩
    rw [List.mem_append] at h ⊢
    exact h.imp id (List.mem_cons_of_mem _)
  · rw [Seg.append]
    refine ⟨?_, ?_⟩
    · rcases List.eq_nil_or_concat A with rfl | ⟨A', ⟨j, u⟩, rfl⟩
      · trivial
      · simp only [List.concat_eq_append] at *
        have hs := (Seg.append L1 A' [(j, u)] none (some i)).1 hseg.1
        rw [Seg.append]
        refine ⟨Seg.congr ?_ hs.1, f2 A' j u rfl, trivial⟩
        intro b hb
        have hnA := h2.1
        rw [idsOf_append, List.nodup_append] at hnA
        refine f4 b ?_ ?_ ?_
        · rintro rfl; exact h1 (by rw [idsOf_append]; simp [hb])
        · intro A'' j' u' e hbj
          have := (List.append_inj' e rfl).2
          simp at this
          subst hbj
          exact hnA.2.2 b hb j (by simp [idsOf]) this.1.symm
        · intro k z B' e hbk
          subst hbk
          refine h2.2.2 b (by rw [idsOf_append]; simp [hb]) b ?_ rfl
          rw [e, idsOf_cons]; simp
    · cases B with
      | nil => trivial
      | cons x B' =>
        obtain ⟨k, z⟩ := x
        refine ⟨f3 k z B' rfl, Seg.congr ?_ hseg.2.2.2⟩
        intro b hb
        rw [idsOf_cons] at h3
        have h4 := List.nodup_cons.1 h3.2
        refine f4 b ?_ ?_ ?_
        · rintro rfl; exact h1 (by rw [idsOf_cons]; simp [hb])
        · intro A' j u e hbj
          subst hbj
          refine h2.2.2 b (by rw [e, idsOf_append]; simp [idsOf]) b (by rw [idsOf_cons]; simp [hb]) rfl
        · intro k' z' B'' e hbk
          simp at e
          subst hbk
          rw [← e.1.1] at hb
          exact h4.1 hb
  · intro b c hb hc
    rw [idsOf_append] at hb
    by_cases hbi : b = i
    · subst hbi
      have := hq.new b (by rw [idsOf_append, idsOf_cons]; simp)
      rw [this] at hc; cases hc
    · have hb' : b ∉ q :: idsOf (A ++ (i, w) :: B) := by
        rw [idsOf_append, idsOf_cons]
        simp at hb ⊢
        exact ⟨hb.1, hb.2.1, hbi, hb.2.2⟩
      simp at hb
      rw [f4 b hb.1 ?_ ?_]
      · exact hq.old b c hb' hc
      · rintro A' j u rfl rfl; exact hb.2.1 (by simp [idsOf])
      · rintro k z B' rfl rfl; exact hb.2.2 (by simp [idsOf])
  · intro b hb
    refine hq.new b ?_
    rw [idsOf_append, idsOf_cons]
    rw [idsOf_append] at hb
    rw [List.mem_append] at hb ⊢
    exact hb.imp id (List.mem_cons_of_mem _)
theorem queueDrop_open (h : H_wait_Queue_drop N F) {A B : List (Nat × Wt)} {i : Nat} {w : Wt} {L1 : Lg} (hq : QOpen L q (A ++ (i, w) :: B) L1) (hl : (A ++ (i, w) :: B).length ≤ 1000000) :
    CallL F (N k_wait_Queue_drop) [.p (some (q, 0)), .p (some (i, 0))] L1 fun v L' => v = .tup [] ∧ QOpen L q (A ++ B) L' ∧ L' i = some (wnode w (lst none A) (hd none B)) ∧ ∀ b, b ∉ q :: idsOf (A ++ B) → L' b = L1 b := by
  apply r_wait_Queue_drop h.code
  have hseg := (Seg.append L1 A ((i, w) :: B) none none).1 hq.seg
  have hnd := hq.nd
  rw [idsOf_append, idsOf_cons] at hnd
  have h1 := (List.nodup_cons.1 hnd).1
  have h2 := List.nodup_append.1 (List.nodup_cons.1 hnd).2
  have h3 := List.nodup_cons.1 h2.2.1
  have hiq : i ≠ q := by rintro rfl; exact h1 (by simp)
  have hi : L1 i = some (wnode w (lst none A) (hd none B)) := hseg.2.1
  have hroot := hq.root
  unfold D_wait_Queue_drop_1 D_wait_Queue_drop_2
  have e1 : wr .i64 ((((A ++ (i, w) :: B).length : Nat) : Int) - 1) = ((A ++ B).length : Nat) := by rw [wr_id (by simp at hl ⊢; omega) (by omega)]; simp; omega
  have hr1 : hd none (A ++ (i, w) :: B) = hd (some i) A := by rw [hd_append]; rfl
  have hr2 : lst none (A ++ (i, w) :: B) = lst (some i) B := by rw [lst_append]; rfl
  rw [hr1, hr2] at hroot
  obtain ⟨n, hn⟩ : ∃ n, n = (A ++ (i, w) :: B).length := ⟨_, rfl⟩
  obtain ⟨m, hm⟩ : ∃ m, m = (A ++ B).length := ⟨_, rfl⟩
  rw [← hn] at e1 hroot
  rw [← hm] at e1
  rcases List.eq_nil_or_concat A with rfl | ⟨A', ⟨j, u⟩, rfl⟩
  · cases B with
    | nil =>
      simp [rdL, AB.read, look, hi, wnode, hroot, stL, wrL, splice_one, Lg.put_apply, hiq, Ne.symm hiq, e1]
      refine ⟨_, Sees.refl _, hq.dropped ?_ ?_ ?_ ?_, ?_, ?_⟩
      · simp [hm]
      · intro A' j u e; simp at e
      · intro k z B' e; simp at e
      · intro b b1 b2 b3; simp [Lg.put_apply, b1]
      · simp [Lg.put_apply, hiq, hi, wnode]
      · intro b b1; simp [Lg.put_apply, b1]
    | cons x B' =>
      obtain ⟨k, z⟩ := x
      have hk : L1 k = some (wnode z (some i) (hd none B')) := hseg.2.2.1
      have hkq : k ≠ q := by rintro rfl; exact h1 (by simp [idsOf])
      have hki : k ≠ i := by rintro rfl; exact h3.1 (by simp [idsOf])
      simp [rdL, AB.read, look, hi, hk, wnode, hroot, stL, wrL, splice_one, Lg.put_apply, hiq, Ne.symm hiq, hkq, Ne.symm hkq, hki, Ne.symm hki, e1]
      refine ⟨_, Sees.refl _, hq.dropped ?_ ?_ ?_ ?_, ?_, ?_⟩
      · simp [hm]
      · intro A' j u e; simp at e
      · intro k' z' B'' e
        simp at e
        obtain ⟨⟨rfl, rfl⟩, rfl⟩ := e
        simp [Lg.put_apply, hkq, wnode]
      · intro b b1 b2 b3
        have : b ≠ k := b3 k z B' rfl
        simp [Lg.put_apply, b1, this]
      · simp [Lg.put_apply, hiq, Ne.symm hki, hi, wnode]
      · intro b b1 b2
        have b3 : b ≠ k := by rintro rfl; exact b2 (by simp [idsOf])
        simp [Lg.put_apply, b1, b3]
  · simp only [List.concat_eq_append] at *
    have hsA := (Seg.append L1 A' [(j, u)] none _).1 hseg.1
    have hj : L1 j = some (wnode u (lst none A') (some i)) := hsA.2.1
    have hjq : j ≠ q := by rintro rfl; exact h1 (by simp [idsOf])
    have hji : j ≠ i := fun e => h2.2.2 j (by simp [idsOf]) i (by simp) e
    have hl1 : lst none (A' ++ [(j, u)]) = some j := by simp [lst_append]
    have hh1 : hd (some i) (A' ++ [(j, u)]) = hd (some j) A' := by simp [hd_append]
    rw [hl1] at hi
    rw [hh1] at hroot
    cases B with
    | nil =>
      simp [rdL, AB.read, look, hi, hj, wnode, hroot, stL, wrL, splice_one, Lg.put_apply, hiq, Ne.symm hiq, hjq, Ne.symm hjq, hji, Ne.symm hji, e1]
      refine ⟨_, Sees.refl _, ?_, ?_, ?_⟩
      rw [← List.append_nil (A' ++ [(j, u)])]
      refine hq.dropped ?_ ?_ ?_ ?_
      · have : hd none (A' ++ [(j, u)]) = hd (some j) A' := by simp [hd_append]
        rw [hm]; simp [this, hl1]
      · intro A'' j' u' e
        obtain ⟨rfl, e2⟩ := List.append_inj' e rfl
        simp at e2
        obtain ⟨rfl, rfl⟩ := e2
        simp [Lg.put_apply, hjq, wnode]
      · intro k z B' e; simp at e
      · intro b b1 b2 b3
        have : b ≠ j := b2 A' j u rfl
        simp [Lg.put_apply, b1, this]
      · simp [Lg.put_apply, hiq, Ne.symm hji, hi, wnode, hl1]
      · intro b b1 b2
        have b3 : b ≠ j := by rintro rfl; exact b2 (by simp [idsOf])
        simp [Lg.put_apply, b1, b3]
    | cons x B' =>
      obtain ⟨k, z⟩ := x
      have hk : L1 k = some (wnode z (some i) (hd none B')) := hseg.2.2.1
      have hkq : k ≠ q := by rintro rfl; exact h1 (by simp [idsOf])
      have hki : k ≠ i := by rintro rfl; exact h3.1 (by simp [idsOf])
      have hkj : k ≠ j := fun e => h2.2.2 j (by simp [idsOf]) k (by simp [idsOf]) e.symm
      simp [rdL, AB.read, look, hi, hj, hk, wnode, hroot, stL, wrL, splice_one, Lg.put_apply, hiq, Ne.symm hiq, hjq, Ne.symm hjq, hji, Ne.symm hji, hkq, Ne.symm hkq, hki, Ne.symm hki, hkj, Ne.symm hkj, e1]
      refine ⟨_, Sees.refl _, ?_, ?_, ?_⟩
      rw [show A' ++ (j, u) :: (k, z) :: B' = A' ++ [(j, u)] ++ (k, z) :: B' by simp]
      refine hq.dropped ?_ ?_ ?_ ?_
      · have : hd none (A' ++ [(j, u)] ++ (k, z) :: B') = hd (some j) A' := by rw [hd_append, hd_append]; simp
        have h9 : lst none (A' ++ [(j, u)] ++ (k, z) :: B') = lst (some k) B' := by rw [lst_append]; simp
        rw [this, h9, ← hm]
        simp [Lg.put_apply]
      · intro A'' j' u' e
        obtain ⟨rfl, e2⟩ := List.append_inj' e rfl
        simp at e2
        obtain ⟨rfl, rfl⟩ := e2
        simp [Lg.put_apply, hjq, Ne.symm hkj, wnode]
      · intro k' z' B'' e
        simp at e
        obtain ⟨⟨rfl, rfl⟩, rfl⟩ := e
        simp [Lg.put_apply, hkq, hkj, wnode, hl1]
      · intro b b1 b2 b3
        have c1 : b ≠ k := b3 k z B' rfl
        have c2 : b ≠ j := b2 A' j u rfl
        simp [Lg.put_apply, b1, c1, c2]
      · simp [Lg.put_apply, hiq, Ne.symm hji, Ne.symm hki, hi, wnode, hl1]
      · intro b b1 b2
        have b3 : b ≠ j := by rintro rfl; exact b2 (by simp [idsOf])
        have b4 : b ≠ k := by rintro rfl; exact b2 (by simp [idsOf])
        simp [Lg.put_apply, b1, b3, b4]

theorem QOpen.other {l : List (Nat × Wt)} {L1 : Lg} (h : QOpen L q l L1) {L2 : Lg} (h2 : ∀ b c, L1 b = some c → L2 b = some c) : QOpen L q l L2 := by
  refine ⟨h.nd, h2 _ _ h.root, ?_, fun b c hb hc => h2 _ _ (h.old b c hb hc), h.new⟩
  have : ∀ {l : List (Nat × Wt)} {p n : Option Nat}, Seg L1 p l n → Seg L2 p l n := by
    intro l
    induction l with
    | nil => intros; trivial
    | cons x r ih => intro p n hs; exact ⟨h2 _ _ hs.1, ih hs.2⟩
  exact this h.seg
theorem QOpen.put {l : List (Nat × Wt)} {L1 : Lg} (h : QOpen L q l L1) {rc : Nat} {c : LC} (h1 : rc ∉ q :: idsOf l) (h2 : L rc = none) : QOpen L q l (L1.put rc c) := by
  have h3 : ∀ b, b ∈ q :: idsOf l → (L1.put rc c) b = L1 b := fun b hb => Lg.put_ne _ _ _ (fun e => h1 (e ▸ hb))
  refine ⟨h.nd, ?_, Seg.congr (fun i hi => h3 i (List.mem_cons_of_mem _ hi)) h.seg, ?_, h.new⟩
  · rw [h3 q (List.mem_cons_self ..)]; exact h.root
  · intro b d hb hd
    have : b ≠ rc := by rintro rfl; rw [h2] at hd; cases hd
    rw [Lg.put_ne _ _ _ this]
    exact h.old b d hb hd
theorem QOpen.keeps {l : List (Nat × Wt)} {L1 : Lg} (h : QOpen L q l L1) {b : Nat} {c : LC} (hb : b ≠ q) (hc : L b = some c) : L1 b = some c := by
  by_cases hi : b ∈ idsOf l
  · rw [h.new b hi] at hc; cases hc
  · exact h.old b c (by simp [hb, hi]) hc
/-- the first of them that is so, and the others -/
def takeW (p : Wt → Bool) : List Wt → Option (Wt × List Wt)
  | [] => none
  | w :: r => if p w = true then some (w, r) else (takeW p r).map fun x => (x.1, w :: x.2)
theorem takeW_skip (p : Wt → Bool) (w : Wt) (B : List Wt) : ∀ (A : List Wt), (∀ x, x ∈ A → p x = false) → p w = true → takeW p (A ++ w :: B) = some (w, A ++ B)
  | [], _, hw => by simp [takeW, hw]
  | a :: A, hA, hw => by simp [takeW, hA a (by simp), takeW_skip p w B A (fun x hx => hA x (by simp [hx])) hw]
theorem takeW_none (p : Wt → Bool) : ∀ (A : List Wt), (∀ x, x ∈ A → p x = false) → takeW p A = none
  | [], _ => rfl
  | a :: A, hA => by simp [takeW, hA a (by simp), takeW_none p A (fun x hx => hA x (by simp [hx]))]
theorem queueTake_spec (h : H_wait_Queue_take N F) (e : L q = some (.abs (QueueP q ws))) {f : Nat} {fst cap : List AV} {p : Wt → Bool}
    (hso : ∀ (w : Wt) L', (∀ b c, b ≠ q → L b = some c → L' b = some c) → CallL F f (fst ++ w.av :: cap) L' fun v L'' => v = .b (p w) ∧ L'' = L') :
    CallL F (N k_wait_Queue_take) [.p (some (q, 0)), .fn f fst cap] L fun v L' => match (generalizing := false) takeW p ws with
      | none => v = .tup [Wt.zero.av, .b false] ∧ L' = L
      | some (w, r) => v = .tup [w.av, .b true] ∧ L' = L.put q (.abs (QueueP q r)) := by
  apply CallL.openQ e
  intro l L1 h1 h2 hq hn
  apply r_wait_Queue_take h.code
  unfold D_wait_Queue_take_1 D_wait_Queue_take_2 D_wait_Queue_take_5
  generalize hQ : (fun (v : AV) (L' : Lg) => match takeW p ws with
      | none => v = AV.tup [Wt.zero.av, .b false] ∧ L' = L
      | some (w, r) => v = AV.tup [w.av, .b true] ∧ L' = L.put q (.abs (QueueP q r))) = Q
  simp [initE]
  intro rc hrc
  have hrq : rc ≠ q := by rintro rfl; rw [hq.root] at hrc; cases hrc
  simp [Env.put_apply, rdL, AB.read, look, Lg.put_apply, Ne.symm hrq, hq.root, D_wait_Queue_take_7]
  have hq2 : QOpen L q l (L1.put rc (.raw (.cells [.i .i64 0, .i .i64 0, .i .i64 0]))) := hq.other (fun b c hb => by
    have : b ≠ rc := by rintro rfl; rw [hrc] at hb; cases hb
    rw [Lg.put_ne _ _ _ this]; exact hb)
  refine loopW_intro (fun n l' L' => ∃ A B, l = A ++ B ∧ (∀ x, x ∈ A → p x.2 = false) ∧ n = B.length ∧ L' = L1.put rc (.raw (.cells [.i .i64 0, .i .i64 0, .i .i64 0])) ∧ l' 0 = .p (some (q, 0)) ∧ l' 1 = .fn f fst cap ∧ l' 4 = .p (some (rc, 0)) ∧ l' 6 = ptr (hd none B))
    l.length ⟨[], l, rfl, by simp, rfl, rfl, by simp [Env.put_apply], by simp [Env.put_apply], by simp [Env.put_apply], by simp [Env.put_apply]⟩ ?_
  rintro n l' t L' ⟨A, B, rfl, hA, hnB, rfl, l0, l1, l4, l6⟩
  unfold D_wait_Queue_take_8
  rw [l0, l1, l4, l6]
  have h0 : ∀ b c, b ≠ q → L b = some c → (L1.put rc (.raw (.cells [.i .i64 0, .i .i64 0, .i .i64 0]))) b = some c := fun b c hb hc => hq2.keeps hb hc
  cases B with
  | nil =>
    simp [D_wait_Queue_take_4, fillP, stL_cells (Lg.put_same _ _ _), splice, res_cell_tmp _ _ (Lg.put_same _ _ _)]
    refine ⟨L, ?_, ?_⟩
    · have := hq2.shut h2
      rwa [h1, Lg.put_self L q _ e] at this
    · subst hQ
      have : takeW p ws = none := takeW_none p ws (by rw [← h1]; intro x hx; simp at hx; obtain ⟨a, hx⟩ := hx; exact hA _ hx)
      simp only [this]
      exact ⟨rfl, trivial⟩
  | cons x B =>
    obtain ⟨i, w⟩ := x
    have hseg := (Seg.append _ A ((i, w) :: B) none none).1 hq2.seg
    have hi := hseg.2.1
    simp [rdL, AB.read, look, hi, wnode, cut, ble_nat]
    refine (hso w _ h0).mono ?_
    rintro _ _ ⟨rfl, rfl⟩
    rw [condW_bool]
    refine ⟨fun hw => ?_, fun hw => ?_⟩
    · refine (queueDrop_open h.wait_Queue_drop hq2 h2).mono ?_
      rintro _ L3 ⟨rfl, hq3, h3i, h3o⟩
      have hrc3 : L3 rc = some (.raw (.cells [.i .i64 0, .i .i64 0, .i .i64 0])) := by
        rw [h3o rc, Lg.put_same]
        intro hm
        rw [idsOf_append] at hm
        have : rc ∈ idsOf (A ++ (i, w) :: B) := by
          rw [idsOf_append, idsOf_cons]
          simp at hm ⊢
          rcases hm with hm | hm | hm
          · exact absurd hm hrq
          · exact .inl hm
          · exact .inr (.inr hm)
        exact Seg.some hq.seg rc this hrc
      simp [rdL, AB.read, look, h3i, wnode, cut, ble_nat, stL_cells hrc3, splice, res_cell_tmp _ _ (Lg.put_same _ _ _)]
      have hrcL : L rc = none := by
        cases hL : L rc with
        | none => rfl
        | some c => rw [hq.keeps hrq hL] at hrc; cases hrc
      have hrc4 : rc ∉ q :: idsOf (A ++ B) := by
        intro hm
        rcases List.mem_cons.1 hm with hm | hm
        · exact hrq hm
        · have h7 := Seg.some hq3.seg rc hm
          have : rc ∈ idsOf (A ++ (i, w) :: B) := by
            rw [idsOf_append] at hm
            rw [idsOf_append, idsOf_cons]
            simp at hm ⊢
            rcases hm with hm | hm
            · exact .inl hm
            · exact .inr (.inr hm)
          exact Seg.some hq.seg rc this hrc
      refine ⟨_, (hq3.put hrc4 hrcL).shut ?_, ?_⟩
      · simp at h2 ⊢; omega
      · subst hQ
        have : takeW p ws = some (w, (A ++ B).map (·.2)) := by
          rw [← h1]; simpa using takeW_skip p w (B.map (·.2)) (A.map (·.2)) (by intro x hx; simp at hx; obtain ⟨a, hx⟩ := hx; exact hA _ hx) hw
        simp only [this]
        exact ⟨rfl, trivial⟩
    · simp [rdL, AB.read, look, hi, wnode]
      refine ⟨B.length, by simp at hnB; omega, A ++ [(i, w)], B, by simp, ?_, rfl, l0, l1, l4, rfl⟩
      intro a b hx
      rcases List.mem_append.1 hx with hx | hx
      · exact hA _ hx
      · simp at hx; obtain ⟨_, rfl⟩ := hx; exact hw
theorem queuePop_spec (h : H_wait_Queue_Pop N F) (e : L q = some (.abs (QueueP q ws))) :
    CallL F (N k_wait_Queue_Pop) [.p (some (q, 0))] L fun v L' => match (generalizing := false) ws with
      | [] => v = .tup [Wt.zero.av, .b false] ∧ L' = L
      | w :: r => v = .tup [w.av, .b true] ∧ L' = L.put q (.abs (QueueP q r)) := by
  apply r_wait_Queue_Pop h.code
  unfold D_wait_Queue_Pop_1
  simp
  intro rc hrc
  have hrq : rc ≠ q := by rintro rfl; rw [e] at hrc; cases hrc
  have e2 : (L.put rc (.raw (.cells [.i .i64 0, .i .i64 0, .i .i64 0]))) q = some (.abs (QueueP q ws)) := by rw [Lg.put_ne _ _ _ (Ne.symm hrq)]; exact e
  refine (queueTake_spec h.wait_Queue_take e2 (f := N k_wait_Queue_Pop_1) (fst := []) (cap := []) (p := fun _ => true) ?_).mono ?_
  · intro w L' hL'
    apply r_wait_Queue_Pop_1 h.wait_Queue_Pop_1.code
    simp [D_wait_Queue_Pop_1_1, Wt.av]
    rw [newL_box_agg _ _ _ (by simp [Wt.cells])]
    intro b hb
    exact Sees.drop fun c d hc => by
      have : c ≠ b := by rintro rfl; rw [hb] at hc; cases hc
      rw [Lg.put_ne _ _ _ this]; exact hc
  · intro v L' hv
    have hs1 : Sees (L.put rc (.raw (.cells [.i .i64 0, .i .i64 0, .i .i64 0]))) L := Sees.drop fun c d hc => by
      have : c ≠ rc := by rintro rfl; rw [hrc] at hc; cases hc
      rw [Lg.put_ne _ _ _ this]; exact hc
    cases ws with
    | nil =>
      simp only [takeW] at hv
      obtain ⟨rfl, rfl⟩ := hv
      simp [Wt.av, Wt.cells, Wt.zero, stL_cells (Lg.put_same _ _ _), splice, res_cell_tmp _ _ (Lg.put_same _ _ _)]
      simpa using hs1
    | cons w r =>
      simp only [takeW, if_true] at hv
      obtain ⟨rfl, rfl⟩ := hv
      have e3 : ((L.put rc (.raw (.cells [.i .i64 0, .i .i64 0, .i .i64 0]))).put q (.abs (QueueP q r))) rc = some (.raw (.cells [.i .i64 0, .i .i64 0, .i .i64 0])) := by
        rw [Lg.put_ne _ _ _ hrq, Lg.put_same]
      simp [Wt.av, Wt.cells, stL_cells e3, splice, res_cell_tmp _ _ (Lg.put_same _ _ _)]
      apply Sees.drop
      intro c d hc
      have : c ≠ rc := by
        rintro rfl
        rw [Lg.put_ne _ _ _ hrq, hrc] at hc; cases hc
      rw [Lg.put_ne _ _ _ this, Lg.put_apply]
      rw [Lg.put_apply] at hc
      split
      · rename_i h9; rw [if_pos h9] at hc; exact hc
      · rename_i h9; rw [if_neg h9] at hc; rw [Lg.put_ne _ _ _ this]; exact hc
theorem QOpen.onto {l : List (Nat × Wt)} {L1 : Lg} (h : QOpen L q l L1) {b : Nat} {c : LC} {L2 : Lg} (hb : L1 b = none) (h2 : Ext2 L1 L2) (h3 : L2 b = some c) : QOpen (L.put b c) q l L2 := by
  have hx := h.other h2
  refine ⟨hx.nd, hx.root, hx.seg, ?_, ?_⟩
  · intro d e hd he
    rw [Lg.put_apply] at he
    split at he
    · rename_i h4; subst h4; cases he; exact h3
    · exact hx.old d e hd he
  · intro d hd
    have : d ≠ b := by rintro rfl; exact Seg.some h.seg d hd hb
    rw [Lg.put_ne _ _ _ this]
    exact h.new d hd
end
end Go.AM


/- The code of functions, with names for their numbers, and what is left of its weakest preconditions. PRINTED by our printgen.py. -/
set_option linter.unusedVariables false
set_option maxRecDepth 100000
namespace Go.AM
def k_heap_New : Nat := 19
def k_expire_New : Nat := 20
def k_timer_New : Nat := 21
def k_chanq_New : Nat := 22
def k_timer_bad : Nat := 24
def k_heap_Heap_Find : Nat := 25
def k_heap_Heap_put : Nat := 26
def k_cmp_isNaN_int : Nat := 27
def k_cmp_Compare_int : Nat := 28
def k_cmp_Or_int : Nat := 29
def k_heap_ahead : Nat := 30
def k_heap_Heap_up : Nat := 31
def k_heap_Heap_down : Nat := 32
def k_heap_Heap_Remove : Nat := 33
def k_expire_Timers_Stop : Nat := 34
def k_heap_Heap_Add : Nat := 35
def k_expire_Timers_Arm : Nat := 36
def k_timer_Set_arm : Nat := 37
def k_timer_Set_make : Nat := 38
def k_heap_Heap_Len : Nat := 41
def k_heap_Heap_Min : Nat := 42
def k_expire_Timers_Next : Nat := 43
def k_heap_Heap_Pop : Nat := 44
def k_expire_Timers_Take : Nat := 45
def k_chanq_Chan_deliver : Nat := 46
def k_chanq_Chan_Put : Nat := 47
def k_timer_Set_Fire : Nat := 48
def k_timer_Set_has : Nat := 49
def k_chanq_Chan_Drop : Nat := 50
def k_timer_Set_Stop : Nat := 51
def k_timer_Set_Lapse : Nat := 55
def k_timer_Set_Next : Nat := 102
def q_heap_New_1 (N : TN) : ACode := (.seq (.reg [⟨.l 0, none, .mv, [.c (.p none)]⟩]) (.seq (.reg [⟨.t 1, none, .mkmap, []⟩, ⟨.t 2, none, .build [.sl none 0 0 0, .m none, .i .i64 0] [(1, 1)], [.t 1]⟩, ⟨.t 3, none, .box, [.t 2]⟩, ⟨.l 0, none, .mv, [.t 3]⟩]) .ret))
noncomputable def D_heap_New_1 (F : TF) (N : TN) (Q : TQ) (L : Lg) : Prop :=
 wpOp F .mkmap [] L fun v1 L1 =>
 wpOp F (.build [.sl none 0 0 0, .m none, .i .i64 0] [(1, 1)]) [v1] L1 fun v2 L2 =>
 wpOp F .box [v2] L2 fun v3 L3 =>
 fin1 (some v3) Q L3
theorem e_heap_New_1 (F : TF) (N : TN) (Q : TQ) (l t : Env) (L : Lg) : wp F (q_heap_New_1 N) l t L (fin [.tmp (.l 0)] Q) nE (fin [.tmp (.l 0)] Q) = D_heap_New_1 F N Q L := by kernel_rfl
/-- tarpaulin/heap.New -/
def c_heap_New (N : TN) : AFn := ⟨q_heap_New_1 N, [.tmp (.l 0)]⟩
structure H_heap_New (N : TN) (F : TF) : Prop where
  code : F (N k_heap_New) = some (c_heap_New N)
theorem r_heap_New {F : TF} {N : TN} (h : F (N k_heap_New) = some (c_heap_New N)) {Q : TQ} {L : Lg} (e : D_heap_New_1 F N Q L) : CallL F (N k_heap_New) [] L Q :=
  CallL.of_wp h (Eq.mpr (Eq.trans (e_heap_New_1 F N Q (initE [] 0) Env.nil L) (by kernel_rfl : _ = D_heap_New_1 F N Q L)) e)
def q_expire_New_1 (N : TN) : ACode := (.seq (.reg [⟨.l 0, none, .mv, [.c (.p none)]⟩]) (.seq (.reg [⟨.t 1, none, .call (N k_heap_New), []⟩, ⟨.t 2, none, .mkmap, []⟩, ⟨.t 3, none, .build [.p none, .m none] [(0, 1), (1, 1)], [.t 1, .t 2]⟩, ⟨.t 4, none, .box, [.t 3]⟩, ⟨.l 0, none, .mv, [.t 4]⟩]) .ret))
noncomputable def D_expire_New_1 (F : TF) (N : TN) (Q : TQ) (L : Lg) : Prop :=
 CallL F (N k_heap_New) [] L fun v1 L1 =>
 wpOp F .mkmap [] L1 fun v2 L2 =>
 wpOp F (.build [.p none, .m none] [(0, 1), (1, 1)]) [v1, v2] L2 fun v3 L3 =>
 wpOp F .box [v3] L3 fun v4 L4 =>
 fin1 (some v4) Q L4
theorem e_expire_New_1 (F : TF) (N : TN) (Q : TQ) (l t : Env) (L : Lg) : wp F (q_expire_New_1 N) l t L (fin [.tmp (.l 0)] Q) nE (fin [.tmp (.l 0)] Q) = D_expire_New_1 F N Q L := by kernel_rfl
/-- tarpaulin/expire.New -/
def c_expire_New (N : TN) : AFn := ⟨q_expire_New_1 N, [.tmp (.l 0)]⟩
structure H_expire_New (N : TN) (F : TF) : Prop where
  code : F (N k_expire_New) = some (c_expire_New N)
  heap_New : H_heap_New N F
theorem r_expire_New {F : TF} {N : TN} (h : F (N k_expire_New) = some (c_expire_New N)) {Q : TQ} {L : Lg} (e : D_expire_New_1 F N Q L) : CallL F (N k_expire_New) [] L Q :=
  CallL.of_wp h (Eq.mpr (Eq.trans (e_expire_New_1 F N Q (initE [] 0) Env.nil L) (by kernel_rfl : _ = D_expire_New_1 F N Q L)) e)
def q_timer_New_1 (N : TN) : ACode := (.seq (.reg [⟨.l 0, none, .mv, [.c (.p none)]⟩]) (.seq (.reg [⟨.t 1, none, .call (N k_expire_New), []⟩, ⟨.t 2, none, .build [.sl none 0 0 0, .p none, .i .i64 0] [(1, 1)], [.t 1]⟩, ⟨.t 3, none, .box, [.t 2]⟩, ⟨.l 0, none, .mv, [.t 3]⟩]) .ret))
noncomputable def D_timer_New_1 (F : TF) (N : TN) (Q : TQ) (L : Lg) : Prop :=
 CallL F (N k_expire_New) [] L fun v1 L1 =>
 wpOp F (.build [.sl none 0 0 0, .p none, .i .i64 0] [(1, 1)]) [v1] L1 fun v2 L2 =>
 wpOp F .box [v2] L2 fun v3 L3 =>
 fin1 (some v3) Q L3
theorem e_timer_New_1 (F : TF) (N : TN) (Q : TQ) (l t : Env) (L : Lg) : wp F (q_timer_New_1 N) l t L (fin [.tmp (.l 0)] Q) nE (fin [.tmp (.l 0)] Q) = D_timer_New_1 F N Q L := by kernel_rfl
/-- tarpaulin/timer.New -/
def c_timer_New (N : TN) : AFn := ⟨q_timer_New_1 N, [.tmp (.l 0)]⟩
structure H_timer_New (N : TN) (F : TF) : Prop where
  code : F (N k_timer_New) = some (c_timer_New N)
  expire_New : H_expire_New N F
theorem r_timer_New {F : TF} {N : TN} (h : F (N k_timer_New) = some (c_timer_New N)) {Q : TQ} {L : Lg} (e : D_timer_New_1 F N Q L) : CallL F (N k_timer_New) [] L Q :=
  CallL.of_wp h (Eq.mpr (Eq.trans (e_timer_New_1 F N Q (initE [] 0) Env.nil L) (by kernel_rfl : _ = D_timer_New_1 F N Q L)) e)
def q_chanq_New_1 (N : TN) : ACode := (.seq (.reg [⟨.l 2, none, .mv, [.c (.p none)]⟩, ⟨.l 3, none, .mv, [.c (.i .i64 0)]⟩]) (.seq (.reg [⟨.t 7, none, .mv, [.l 0]⟩, ⟨.t 8, none, .call (N k_ring_New), [.t 7]⟩, ⟨.t 6, none, .mv, [.t 8]⟩, ⟨.t 9, none, .ext 0, [.t 6]⟩, ⟨.t 10, none, .ext 1, [.t 6]⟩, ⟨.l 4, none, .mv, [.t 9]⟩, ⟨.l 5, none, .mv, [.t 10]⟩]) (.seq (.seq (.reg [⟨.t 11, none, .mv, [.l 5]⟩, ⟨.t 12, none, .bin .neq, [.t 11, .c (.i .i64 0)]⟩]) (.cond (.t 12) (.seq (.reg [⟨.t 13, none, .mv, [.l 5]⟩, ⟨.l 2, none, .mv, [.c (.p none)]⟩, ⟨.l 3, none, .mv, [.t 13]⟩]) .ret) .skip)) (.seq (.reg [⟨.t 14, none, .mv, [.l 4]⟩, ⟨.t 15, none, .call (N k_wait_New), []⟩, ⟨.t 16, none, .call (N k_wait_New), []⟩, ⟨.t 17, none, .build [.p none, .p none, .p none, .b false, .b false, .b false] [(0, 1), (1, 1), (2, 1)], [.t 14, .t 15, .t 16]⟩, ⟨.t 18, none, .box, [.t 17]⟩, ⟨.l 2, none, .mv, [.t 18]⟩, ⟨.l 3, none, .mv, [.c (.i .i64 0)]⟩]) .ret))))
noncomputable def D_chanq_New_1 (F : TF) (N : TN) (Q : TQ) (x0 : AV) (L : Lg) : Prop :=
 CallL F (N k_ring_New) [x0] L fun v1 L1 =>
 wpOp F (.ext 0) [v1] L1 fun v2 L2 =>
 wpOp F (.ext 1) [v1] L2 fun v3 L3 =>
 wpOp F (.bin .neq) [v3, (.i .i64 0)] L3 fun v4 L4 =>
 condW v4
 (fin1 (some (.tup [(.p none), v3])) Q L4)
 (CallL F (N k_wait_New) [] L4 fun v5 L5 =>
 CallL F (N k_wait_New) [] L5 fun v6 L6 =>
 wpOp F (.build [.p none, .p none, .p none, .b false, .b false, .b false] [(0, 1), (1, 1), (2, 1)]) [v2, v5, v6] L6 fun v7 L7 =>
 wpOp F .box [v7] L7 fun v8 L8 =>
 fin1 (some (.tup [v8, (.i .i64 0)])) Q L8)
theorem e_chanq_New_1 (F : TF) (N : TN) (Q : TQ) (l t : Env) (L : Lg) : wp F (q_chanq_New_1 N) l t L (fin [.tmp (.l 2), .tmp (.l 3)] Q) nE (fin [.tmp (.l 2), .tmp (.l 3)] Q) = D_chanq_New_1 F N Q (l 0) L := by kernel_rfl
/-- tarpaulin/chanq.New -/
def c_chanq_New (N : TN) : AFn := ⟨q_chanq_New_1 N, [.tmp (.l 2), .tmp (.l 3)]⟩
structure H_chanq_New (N : TN) (F : TF) : Prop where
  code : F (N k_chanq_New) = some (c_chanq_New N)
  ring_New : H_ring_New N F
  wait_New : H_wait_New N F
theorem r_chanq_New {F : TF} {N : TN} (h : F (N k_chanq_New) = some (c_chanq_New N)) {Q : TQ} {a0 : AV} {L : Lg} (e : D_chanq_New_1 F N Q a0 L) : CallL F (N k_chanq_New) [a0] L Q :=
  CallL.of_wp h (Eq.mpr (Eq.trans (e_chanq_New_1 F N Q (initE [a0] 0) Env.nil L) (by kernel_rfl : _ = D_chanq_New_1 F N Q a0 L)) e)
def q_timer_bad_1 (N : TN) : ACode := (.seq (.reg [⟨.l 2, none, .mv, [.c (.b false)]⟩]) (.seq (.reg [⟨.t 3, none, .mv, [.l 0]⟩, ⟨.t 4, none, .bin .lss, [.t 3, .c (.i .i64 0)]⟩, ⟨.t 5, none, .mv, [.t 4]⟩, ⟨.t 6, some (.t 5, false), .mv, [.l 0]⟩, ⟨.t 7, some (.t 5, false), .bin .gtr, [.t 6, .c (.i .i64 4611686018427387904)]⟩, ⟨.t 8, none, .pick, [.t 5, .c (.b true), .t 7]⟩, ⟨.l 2, none, .mv, [.t 8]⟩]) .ret))
noncomputable def D_timer_bad_1 (F : TF) (N : TN) (Q : TQ) (x0 : AV) (L : Lg) : Prop :=
 wpOp F (.bin .lss) [x0, (.i .i64 0)] L fun v1 L1 =>
 gdOp F v1 false .mv [x0] L1 fun v2 L2 =>
 gdOp F v1 false (.bin .gtr) [v2, (.i .i64 4611686018427387904)] L2 fun v3 L3 =>
 wpOp F .pick [v1, (.b true), v3] L3 fun v4 L4 =>
 fin1 (some v4) Q L4
theorem e_timer_bad_1 (F : TF) (N : TN) (Q : TQ) (l t : Env) (L : Lg) : wp F (q_timer_bad_1 N) l t L (fin [.tmp (.l 2)] Q) nE (fin [.tmp (.l 2)] Q) = D_timer_bad_1 F N Q (l 0) L := by kernel_rfl
/-- tarpaulin/timer.bad -/
def c_timer_bad (N : TN) : AFn := ⟨q_timer_bad_1 N, [.tmp (.l 2)]⟩
structure H_timer_bad (N : TN) (F : TF) : Prop where
  code : F (N k_timer_bad) = some (c_timer_bad N)
theorem r_timer_bad {F : TF} {N : TN} (h : F (N k_timer_bad) = some (c_timer_bad N)) {Q : TQ} {a0 : AV} {L : Lg} (e : D_timer_bad_1 F N Q a0 L) : CallL F (N k_timer_bad) [a0] L Q :=
  CallL.of_wp h (Eq.mpr (Eq.trans (e_timer_bad_1 F N Q (initE [a0] 0) Env.nil L) (by kernel_rfl : _ = D_timer_bad_1 F N Q a0 L)) e)
def q_heap_Heap_Find_1 (N : TN) : ACode := (.seq (.reg [⟨.l 4, none, .alloc [.i .i64 0, .i .i64 0, .i .i64 0], []⟩, ⟨.l 5, none, .mv, [.c (.b false)]⟩]) (.seq (.seq (.reg [⟨.t 8, none, .mv, [.l 0]⟩, ⟨.t 9, none, .eq false .ptr, [.t 8, .c (.p none)]⟩]) (.cond (.t 9) (.seq (.reg [⟨.t 10, none, .build [.i .i64 0, .i .i64 0, .i .i64 0] [], []⟩, ⟨.no, none, .st 3, [.l 4, .t 10]⟩, ⟨.l 5, none, .mv, [.c (.b false)]⟩]) .ret) .skip)) (.seq (.reg [⟨.t 12, none, .mv, [.l 0]⟩, ⟨.t 13, none, .nilchk, [.t 12]⟩, ⟨.t 14, none, .fad 1, [.t 13]⟩, ⟨.t 15, none, .ld none, [.t 14]⟩, ⟨.t 16, none, .mv, [.l 1]⟩, ⟨.t 17, none, .lkup (.i .i64 0) true, [.t 15, .t 16]⟩, ⟨.t 11, none, .mv, [.t 17]⟩, ⟨.t 18, none, .ext 0, [.t 11]⟩, ⟨.t 19, none, .ext 1, [.t 11]⟩, ⟨.l 6, none, .mv, [.t 18]⟩, ⟨.l 7, none, .mv, [.t 19]⟩]) (.seq (.seq (.reg [⟨.t 20, none, .mv, [.l 7]⟩, ⟨.t 21, none, .un .not, [.t 20]⟩]) (.cond (.t 21) (.seq (.reg [⟨.t 22, none, .build [.i .i64 0, .i .i64 0, .i .i64 0] [], []⟩, ⟨.no, none, .st 3, [.l 4, .t 22]⟩, ⟨.l 5, none, .mv, [.c (.b false)]⟩]) .ret) .skip)) (.seq (.reg [⟨.t 23, none, .mv, [.l 0]⟩, ⟨.t 24, none, .nilchk, [.t 23]⟩, ⟨.t 25, none, .fad 0, [.t 24]⟩, ⟨.t 26, none, .ld none, [.t 25]⟩, ⟨.t 27, none, .mv, [.l 6]⟩, ⟨.t 28, none, .iad 3, [.t 26, .t 27]⟩, ⟨.t 29, none, .ld (some 3), [.t 28]⟩, ⟨.no, none, .st 3, [.l 4, .t 29]⟩, ⟨.l 5, none, .mv, [.c (.b true)]⟩]) .ret)))))
noncomputable def D_heap_Heap_Find_1 (F : TF) (N : TN) (Q : TQ) (x0 : AV) (x1 : AV) (L : Lg) : Prop :=
 wpOp F (.alloc [.i .i64 0, .i .i64 0, .i .i64 0]) [] L fun v1 L1 =>
 wpOp F (.eq false .ptr) [x0, (.p none)] L1 fun v2 L2 =>
 condW v2
 (wpOp F (.build [.i .i64 0, .i .i64 0, .i .i64 0] []) [] L2 fun v3 L3 =>
 wpOp F (.st 3) [v1, v3] L3 fun _ L4 =>
 fin1 (resVL Env.nil Env.nil L4 [.cell (.c v1) (some 3), .tmp (.c (.b false))]) Q L4)
 (wpOp F .nilchk [x0] L2 fun v5 L5 =>
 wpOp F (.fad 1) [v5] L5 fun v6 L6 =>
 wpOp F (.ld none) [v6] L6 fun v7 L7 =>
 wpOp F (.lkup (.i .i64 0) true) [v7, x1] L7 fun v8 L8 =>
 wpOp F (.ext 0) [v8] L8 fun v9 L9 =>
 wpOp F (.ext 1) [v8] L9 fun v10 L10 =>
 wpOp F (.un .not) [v10] L10 fun v11 L11 =>
 condW v11
 (wpOp F (.build [.i .i64 0, .i .i64 0, .i .i64 0] []) [] L11 fun v12 L12 =>
 wpOp F (.st 3) [v1, v12] L12 fun _ L13 =>
 fin1 (resVL Env.nil Env.nil L13 [.cell (.c v1) (some 3), .tmp (.c (.b false))]) Q L13)
 (wpOp F .nilchk [x0] L11 fun v14 L14 =>
 wpOp F (.fad 0) [v14] L14 fun v15 L15 =>
 wpOp F (.ld none) [v15] L15 fun v16 L16 =>
 wpOp F (.iad 3) [v16, v9] L16 fun v17 L17 =>
 wpOp F (.ld (some 3)) [v17] L17 fun v18 L18 =>
 wpOp F (.st 3) [v1, v18] L18 fun _ L19 =>
 fin1 (resVL Env.nil Env.nil L19 [.cell (.c v1) (some 3), .tmp (.c (.b true))]) Q L19))
theorem e_heap_Heap_Find_1 (F : TF) (N : TN) (Q : TQ) (l t : Env) (L : Lg) : wp F (q_heap_Heap_Find_1 N) l t L (fin [.cell (.l 4) (some 3), .tmp (.l 5)] Q) nE (fin [.cell (.l 4) (some 3), .tmp (.l 5)] Q) = D_heap_Heap_Find_1 F N Q (l 0) (l 1) L := by kernel_rfl
/-- (*tarpaulin/heap.Heap).Find -/
def c_heap_Heap_Find (N : TN) : AFn := ⟨q_heap_Heap_Find_1 N, [.cell (.l 4) (some 3), .tmp (.l 5)]⟩
structure H_heap_Heap_Find (N : TN) (F : TF) : Prop where
  code : F (N k_heap_Heap_Find) = some (c_heap_Heap_Find N)
theorem r_heap_Heap_Find {F : TF} {N : TN} (h : F (N k_heap_Heap_Find) = some (c_heap_Heap_Find N)) {Q : TQ} {a0 a1 : AV} {L : Lg} (e : D_heap_Heap_Find_1 F N Q a0 a1 L) : CallL F (N k_heap_Heap_Find) [a0, a1] L Q :=
  CallL.of_wp h (Eq.mpr (Eq.trans (e_heap_Heap_Find_1 F N Q (initE [a0, a1] 0) Env.nil L) (by kernel_rfl : _ = D_heap_Heap_Find_1 F N Q a0 a1 L)) e)
def q_heap_Heap_put_1 (N : TN) : ACode := (.seq (.reg [⟨.l 5, none, .box, [.l 2]⟩]) (.seq (.reg [⟨.t 6, none, .mv, [.l 0]⟩, ⟨.t 7, none, .nilchk, [.t 6]⟩, ⟨.t 8, none, .fad 0, [.t 7]⟩, ⟨.t 9, none, .ld none, [.t 8]⟩, ⟨.t 10, none, .mv, [.l 1]⟩, ⟨.t 11, none, .ld (some 3), [.l 5]⟩, ⟨.t 12, none, .iad 3, [.t 9, .t 10]⟩, ⟨.no, none, .st 3, [.t 12, .t 11]⟩]) (.reg [⟨.t 13, none, .mv, [.l 0]⟩, ⟨.t 14, none, .nilchk, [.t 13]⟩, ⟨.t 15, none, .fad 1, [.t 14]⟩, ⟨.t 16, none, .ld none, [.t 15]⟩, ⟨.t 17, none, .fad 0, [.l 5]⟩, ⟨.t 18, none, .ld none, [.t 17]⟩, ⟨.t 19, none, .mv, [.l 1]⟩, ⟨.no, none, .mset, [.t 16, .t 18, .t 19]⟩])))
noncomputable def D_heap_Heap_put_1 (F : TF) (N : TN) (Q : TQ) (x0 : AV) (x1 : AV) (x2 : AV) (L : Lg) : Prop :=
 wpOp F .box [x2] L fun v1 L1 =>
 wpOp F .nilchk [x0] L1 fun v2 L2 =>
 wpOp F (.fad 0) [v2] L2 fun v3 L3 =>
 wpOp F (.ld none) [v3] L3 fun v4 L4 =>
 wpOp F (.ld (some 3)) [v1] L4 fun v5 L5 =>
 wpOp F (.iad 3) [v4, x1] L5 fun v6 L6 =>
 wpOp F (.st 3) [v6, v5] L6 fun _ L7 =>
 wpOp F .nilchk [x0] L7 fun v8 L8 =>
 wpOp F (.fad 1) [v8] L8 fun v9 L9 =>
 wpOp F (.ld none) [v9] L9 fun v10 L10 =>
 wpOp F (.fad 0) [v1] L10 fun v11 L11 =>
 wpOp F (.ld none) [v11] L11 fun v12 L12 =>
 wpOp F .mset [v10, v12, x1] L12 fun _ L13 =>
 fin1 (some (.tup [])) Q L13
theorem e_heap_Heap_put_1 (F : TF) (N : TN) (Q : TQ) (l t : Env) (L : Lg) : wp F (q_heap_Heap_put_1 N) l t L (fin [] Q) nE (fin [] Q) = D_heap_Heap_put_1 F N Q (l 0) (l 1) (l 2) L := by kernel_rfl
/-- (*tarpaulin/heap.Heap).put -/
def c_heap_Heap_put (N : TN) : AFn := ⟨q_heap_Heap_put_1 N, []⟩
structure H_heap_Heap_put (N : TN) (F : TF) : Prop where
  code : F (N k_heap_Heap_put) = some (c_heap_Heap_put N)
theorem r_heap_Heap_put {F : TF} {N : TN} (h : F (N k_heap_Heap_put) = some (c_heap_Heap_put N)) {Q : TQ} {a0 a1 a2 : AV} {L : Lg} (e : D_heap_Heap_put_1 F N Q a0 a1 a2 L) : CallL F (N k_heap_Heap_put) [a0, a1, a2] L Q :=
  CallL.of_wp h (Eq.mpr (Eq.trans (e_heap_Heap_put_1 F N Q (initE [a0, a1, a2] 0) Env.nil L) (by kernel_rfl : _ = D_heap_Heap_put_1 F N Q a0 a1 a2 L)) e)
def q_cmp_isNaN_int_1 (N : TN) : ACode := (.seq (.reg [⟨.l 2, none, .mv, [.c (.b false)]⟩]) (.seq (.reg [⟨.t 3, none, .mv, [.l 0]⟩, ⟨.t 4, none, .mv, [.l 0]⟩, ⟨.t 5, none, .bin .neq, [.t 3, .t 4]⟩, ⟨.l 2, none, .mv, [.t 5]⟩]) .ret))
noncomputable def D_cmp_isNaN_int_1 (F : TF) (N : TN) (Q : TQ) (x0 : AV) (L : Lg) : Prop :=
 wpOp F (.bin .neq) [x0, x0] L fun v1 L1 =>
 fin1 (some v1) Q L1
theorem e_cmp_isNaN_int_1 (F : TF) (N : TN) (Q : TQ) (l t : Env) (L : Lg) : wp F (q_cmp_isNaN_int_1 N) l t L (fin [.tmp (.l 2)] Q) nE (fin [.tmp (.l 2)] Q) = D_cmp_isNaN_int_1 F N Q (l 0) L := by kernel_rfl
/-- cmp.isNaN[int] -/
def c_cmp_isNaN_int (N : TN) : AFn := ⟨q_cmp_isNaN_int_1 N, [.tmp (.l 2)]⟩
structure H_cmp_isNaN_int (N : TN) (F : TF) : Prop where
  code : F (N k_cmp_isNaN_int) = some (c_cmp_isNaN_int N)
theorem r_cmp_isNaN_int {F : TF} {N : TN} (h : F (N k_cmp_isNaN_int) = some (c_cmp_isNaN_int N)) {Q : TQ} {a0 : AV} {L : Lg} (e : D_cmp_isNaN_int_1 F N Q a0 L) : CallL F (N k_cmp_isNaN_int) [a0] L Q :=
  CallL.of_wp h (Eq.mpr (Eq.trans (e_cmp_isNaN_int_1 F N Q (initE [a0] 0) Env.nil L) (by kernel_rfl : _ = D_cmp_isNaN_int_1 F N Q a0 L)) e)
def q_cmp_Compare_int_1 (N : TN) : ACode := (.seq (.reg [⟨.l 4, none, .mv, [.c (.i .i64 0)]⟩]) (.seq (.reg [⟨.t 7, none, .mv, [.l 0]⟩, ⟨.t 8, none, .call (N k_cmp_isNaN_int), [.t 7]⟩, ⟨.l 5, none, .mv, [.t 8]⟩]) (.seq (.reg [⟨.t 9, none, .mv, [.l 1]⟩, ⟨.t 10, none, .call (N k_cmp_isNaN_int), [.t 9]⟩, ⟨.l 6, none, .mv, [.t 10]⟩]) (.seq (.seq (.reg [⟨.t 11, none, .mv, [.l 5]⟩]) (.cond (.t 11) (.seq (.seq (.reg [⟨.t 12, none, .mv, [.l 6]⟩]) (.cond (.t 12) (.seq (.reg [⟨.l 4, none, .mv, [.c (.i .i64 0)]⟩]) .ret) .skip)) (.seq (.reg [⟨.l 4, none, .mv, [.c (.i .i64 (-1))]⟩]) .ret)) .skip)) (.seq (.seq (.reg [⟨.t 13, none, .mv, [.l 6]⟩]) (.cond (.t 13) (.seq (.reg [⟨.l 4, none, .mv, [.c (.i .i64 1)]⟩]) .ret) .skip)) (.seq (.seq (.reg [⟨.t 14, none, .mv, [.l 0]⟩, ⟨.t 15, none, .mv, [.l 1]⟩, ⟨.t 16, none, .bin .lss, [.t 14, .t 15]⟩]) (.cond (.t 16) (.seq (.reg [⟨.l 4, none, .mv, [.c (.i .i64 (-1))]⟩]) .ret) .skip)) (.seq (.seq (.reg [⟨.t 17, none, .mv, [.l 0]⟩, ⟨.t 18, none, .mv, [.l 1]⟩, ⟨.t 19, none, .bin .gtr, [.t 17, .t 18]⟩]) (.cond (.t 19) (.seq (.reg [⟨.l 4, none, .mv, [.c (.i .i64 1)]⟩]) .ret) .skip)) (.seq (.reg [⟨.l 4, none, .mv, [.c (.i .i64 0)]⟩]) .ret))))))))
noncomputable def D_cmp_Compare_int_1 (F : TF) (N : TN) (Q : TQ) (x0 : AV) (x1 : AV) (L : Lg) : Prop :=
 CallL F (N k_cmp_isNaN_int) [x0] L fun v1 L1 =>
 CallL F (N k_cmp_isNaN_int) [x1] L1 fun v2 L2 =>
 condW v1
 (condW v2
 (fin1 (some (.i .i64 0)) Q L2)
 (fin1 (some (.i .i64 (-1))) Q L2))
 (condW v2
 (fin1 (some (.i .i64 1)) Q L2)
 (wpOp F (.bin .lss) [x0, x1] L2 fun v3 L3 =>
 condW v3
 (fin1 (some (.i .i64 (-1))) Q L3)
 (wpOp F (.bin .gtr) [x0, x1] L3 fun v4 L4 =>
 condW v4
 (fin1 (some (.i .i64 1)) Q L4)
 (fin1 (some (.i .i64 0)) Q L4))))
theorem e_cmp_Compare_int_1 (F : TF) (N : TN) (Q : TQ) (l t : Env) (L : Lg) : wp F (q_cmp_Compare_int_1 N) l t L (fin [.tmp (.l 4)] Q) nE (fin [.tmp (.l 4)] Q) = D_cmp_Compare_int_1 F N Q (l 0) (l 1) L := by kernel_rfl
/-- cmp.Compare[int] -/
def c_cmp_Compare_int (N : TN) : AFn := ⟨q_cmp_Compare_int_1 N, [.tmp (.l 4)]⟩
structure H_cmp_Compare_int (N : TN) (F : TF) : Prop where
  code : F (N k_cmp_Compare_int) = some (c_cmp_Compare_int N)
  cmp_isNaN_int : H_cmp_isNaN_int N F
theorem r_cmp_Compare_int {F : TF} {N : TN} (h : F (N k_cmp_Compare_int) = some (c_cmp_Compare_int N)) {Q : TQ} {a0 a1 : AV} {L : Lg} (e : D_cmp_Compare_int_1 F N Q a0 a1 L) : CallL F (N k_cmp_Compare_int) [a0, a1] L Q :=
  CallL.of_wp h (Eq.mpr (Eq.trans (e_cmp_Compare_int_1 F N Q (initE [a0, a1] 0) Env.nil L) (by kernel_rfl : _ = D_cmp_Compare_int_1 F N Q a0 a1 L)) e)
def q_cmp_Or_int_4 (N : TN) : ACode := (.seq (.reg [⟨.t 17, none, .mv, [.l 3]⟩, ⟨.l 2, none, .mv, [.t 17]⟩]) .ret)
noncomputable def D_cmp_Or_int_4 (F : TF) (N : TN) (Q : TQ) (x3 : AV) (L : Lg) : Prop :=
 fin1 (some x3) Q L
theorem e_cmp_Or_int_4 (F : TF) (N : TN) (Q : TQ) (l t : Env) (L : Lg) : wp F (q_cmp_Or_int_4 N) l t L (fin [.tmp (.l 2)] Q) nE (fin [.tmp (.l 2)] Q) = D_cmp_Or_int_4 F N Q (l 3) L := by kernel_rfl
def y_cmp_Or_int_6 (F : TF) (N : TN) (Q : TQ) : Nat → Kn := (fun (j : Nat) (l t : Env) (L : Lg) => bif Nat.beq j 0 then (fun (l t : Env) (L : Lg) => D_cmp_Or_int_4 F N Q (l 3) L) l t L else nE j l t L)
def q_cmp_Or_int_8 (N : TN) : ACode := (.seq (.reg [⟨.t 9, none, .bin .lss, [.l 8, .l 7]⟩]) (.seq (.cond (.t 9) .skip (.exit 0)) (.seq (.block 1 (.seq (.reg [⟨.t 10, none, .iad 1, [.l 6, .l 8]⟩, ⟨.t 11, none, .ld none, [.t 10]⟩, ⟨.l 5, none, .mv, [.t 11]⟩]) (.seq (.reg [⟨.t 12, none, .mv, [.l 5]⟩, ⟨.t 13, none, .mv, [.l 3]⟩, ⟨.t 14, none, .bin .neq, [.t 12, .t 13]⟩]) (.cond (.t 14) (.seq (.reg [⟨.t 15, none, .mv, [.l 5]⟩, ⟨.l 2, none, .mv, [.t 15]⟩]) .ret) .skip)))) (.reg [⟨.t 16, none, .bin .add, [.l 8, .c (.i .i64 1)]⟩, ⟨.l 8, none, .mv, [.t 16]⟩]))))
noncomputable def D_cmp_Or_int_8 (F : TF) (N : TN) (Q : TQ) (k1 : TK) (l : Env) (L : Lg) : Prop :=
 wpOp F (.bin .lss) [(l 8), (l 7)] L fun v1 L1 =>
 condW v1
 (wpOp F (.iad 1) [(l 6), (l 8)] L1 fun v2 L2 =>
 wpOp F (.ld none) [v2] L2 fun v3 L3 =>
 wpOp F (.bin .neq) [v3, (l 3)] L3 fun v4 L4 =>
 condW v4
 (fin1 (some v3) Q L4)
 (wpOp F (.bin .add) [(l 8), (.i .i64 1)] L4 fun v5 L5 =>
 k1 (Env.put (Env.put l 5 v3) 8 v5) L5))
 (D_cmp_Or_int_4 F N Q (l 3) L1)
theorem e_cmp_Or_int_8 (F : TF) (N : TN) (Q : TQ) (k1 : TK) (l t : Env) (L : Lg) : wp F (q_cmp_Or_int_8 N) l t L (fun (l _ : Env) (L : Lg) => k1 l L) (y_cmp_Or_int_6 F N Q) (fin [.tmp (.l 2)] Q) = D_cmp_Or_int_8 F N Q k1 l L := by kernel_rfl
def q_cmp_Or_int_7 (N : TN) : ACode := (.loop (q_cmp_Or_int_8 N))
noncomputable def D_cmp_Or_int_7 (F : TF) (N : TN) (Q : TQ) (l : Env) (L : Lg) : Prop :=
 loopW (fun l t L k1 => D_cmp_Or_int_8 F N Q k1 l L) l L
theorem e_cmp_Or_int_7 (F : TF) (N : TN) (Q : TQ) (l t : Env) (L : Lg) : wp F (q_cmp_Or_int_7 N) l t L (fun (l t : Env) (L : Lg) => D_cmp_Or_int_4 F N Q (l 3) L) (y_cmp_Or_int_6 F N Q) (fin [.tmp (.l 2)] Q) = D_cmp_Or_int_7 F N Q l L := wpL (fun l t L k1 => e_cmp_Or_int_8 F N Q k1 l t L) (by kernel_rfl)
def q_cmp_Or_int_6 (N : TN) : ACode := (.block 0 (q_cmp_Or_int_7 N))
theorem e_cmp_Or_int_6 (F : TF) (N : TN) (Q : TQ) (l t : Env) (L : Lg) : wp F (q_cmp_Or_int_6 N) l t L (fun (l t : Env) (L : Lg) => D_cmp_Or_int_4 F N Q (l 3) L) nE (fin [.tmp (.l 2)] Q) = D_cmp_Or_int_7 F N Q l L := wpB (e_cmp_Or_int_7 F N Q l t L)
def q_cmp_Or_int_5a (N : TN) : ACode := (.reg [⟨.l 6, none, .mv, [.l 0]⟩, ⟨.l 7, none, .lenSl, [.l 6]⟩, ⟨.l 8, none, .mv, [.c (.i .i64 0)]⟩])
def q_cmp_Or_int_5 (N : TN) : ACode := (.seq (q_cmp_Or_int_5a N) (q_cmp_Or_int_6 N))
noncomputable def D_cmp_Or_int_5 (F : TF) (N : TN) (Q : TQ) (l : Env) (L : Lg) : Prop :=
 wpOp F .lenSl [(l 0)] L fun v1 L1 =>
 D_cmp_Or_int_7 F N Q (Env.put (Env.put (Env.put l 6 (l 0)) 7 v1) 8 (.i .i64 0)) L1
theorem e_cmp_Or_int_5 (F : TF) (N : TN) (Q : TQ) (l t : Env) (L : Lg) : wp F (q_cmp_Or_int_5 N) l t L (fun (l t : Env) (L : Lg) => D_cmp_Or_int_4 F N Q (l 3) L) nE (fin [.tmp (.l 2)] Q) = D_cmp_Or_int_5 F N Q l L := wpS (e_cmp_Or_int_6 F N Q) (by kernel_rfl)
def q_cmp_Or_int_3 (N : TN) : ACode := (.seq (q_cmp_Or_int_5 N) (q_cmp_Or_int_4 N))
theorem e_cmp_Or_int_3 (F : TF) (N : TN) (Q : TQ) (l t : Env) (L : Lg) : wp F (q_cmp_Or_int_3 N) l t L (fin [.tmp (.l 2)] Q) nE (fin [.tmp (.l 2)] Q) = D_cmp_Or_int_5 F N Q l L := wpS (e_cmp_Or_int_4 F N Q) (e_cmp_Or_int_5 F N Q l t L)
def q_cmp_Or_int_2a (N : TN) : ACode := (.reg [⟨.l 3, none, .mv, [.c (.i .i64 0)]⟩])
def q_cmp_Or_int_2 (N : TN) : ACode := (.seq (q_cmp_Or_int_2a N) (q_cmp_Or_int_3 N))
noncomputable def D_cmp_Or_int_2 (F : TF) (N : TN) (Q : TQ) (l : Env) (L : Lg) : Prop :=
 D_cmp_Or_int_5 F N Q (Env.put l 3 (.i .i64 0)) L
theorem e_cmp_Or_int_2 (F : TF) (N : TN) (Q : TQ) (l t : Env) (L : Lg) : wp F (q_cmp_Or_int_2 N) l t L (fin [.tmp (.l 2)] Q) nE (fin [.tmp (.l 2)] Q) = D_cmp_Or_int_2 F N Q l L := wpS (e_cmp_Or_int_3 F N Q) (by kernel_rfl)
def q_cmp_Or_int_1a (N : TN) : ACode := (.reg [⟨.l 2, none, .mv, [.c (.i .i64 0)]⟩])
def q_cmp_Or_int_1 (N : TN) : ACode := (.seq (q_cmp_Or_int_1a N) (q_cmp_Or_int_2 N))
noncomputable def D_cmp_Or_int_1 (F : TF) (N : TN) (Q : TQ) (l : Env) (L : Lg) : Prop :=
 D_cmp_Or_int_2 F N Q (Env.put l 2 (.i .i64 0)) L
theorem e_cmp_Or_int_1 (F : TF) (N : TN) (Q : TQ) (l t : Env) (L : Lg) : wp F (q_cmp_Or_int_1 N) l t L (fin [.tmp (.l 2)] Q) nE (fin [.tmp (.l 2)] Q) = D_cmp_Or_int_1 F N Q l L := wpS (e_cmp_Or_int_2 F N Q) (by kernel_rfl)
/-- cmp.Or[int] -/
def c_cmp_Or_int (N : TN) : AFn := ⟨q_cmp_Or_int_1 N, [.tmp (.l 2)]⟩
structure H_cmp_Or_int (N : TN) (F : TF) : Prop where
  code : F (N k_cmp_Or_int) = some (c_cmp_Or_int N)
theorem r_cmp_Or_int {F : TF} {N : TN} (h : F (N k_cmp_Or_int) = some (c_cmp_Or_int N)) {Q : TQ} {a0 : AV} {L : Lg} (e : D_cmp_Or_int_1 F N Q (initE [a0] 0) L) : CallL F (N k_cmp_Or_int) [a0] L Q :=
  CallL.of_wp h (Eq.mpr (Eq.trans (e_cmp_Or_int_1 F N Q (initE [a0] 0) Env.nil L) (by kernel_rfl : _ = D_cmp_Or_int_1 F N Q (initE [a0] 0) L)) e)
def q_heap_ahead_1 (N : TN) : ACode := (.seq (.reg [⟨.l 2, none, .box, [.l 0]⟩, ⟨.l 3, none, .box, [.l 1]⟩, ⟨.l 4, none, .mv, [.c (.i .i64 0)]⟩]) (.seq (.regD [⟨.t 5, none, .fad 1, [.l 2]⟩, ⟨.t 6, none, .ld none, [.t 5]⟩, ⟨.t 7, none, .fad 1, [.l 3]⟩, ⟨.t 8, none, .ld none, [.t 7]⟩, ⟨.t 9, none, .call (N k_cmp_Compare_int), [.t 6, .t 8]⟩, ⟨.t 10, none, .fad 2, [.l 2]⟩, ⟨.t 11, none, .ld none, [.t 10]⟩, ⟨.t 12, none, .fad 2, [.l 3]⟩, ⟨.t 13, none, .ld none, [.t 12]⟩, ⟨.t 14, none, .call (N k_cmp_Compare_int), [.t 11, .t 13]⟩, ⟨.t 15, none, .bslice [.i .i64 0] 2 1 [0, 1], [.t 9, .t 14]⟩, ⟨.t 16, none, .call (N k_cmp_Or_int), [.t 15]⟩, ⟨.l 4, none, .mv, [.t 16]⟩] [(6, 0), (8, 0)]) .ret))
noncomputable def D_heap_ahead_1 (F : TF) (N : TN) (Q : TQ) (x0 : AV) (x1 : AV) (L : Lg) : Prop :=
 wpOp F .box [x0] L fun v1 L1 =>
 wpOp F .box [x1] L1 fun v2 L2 =>
 wpOp F (.fad 1) [v1] L2 fun v3 L3 =>
 wpOp F (.ld none) [v3] L3 fun v4 L4 =>
 wpOp F (.fad 1) [v2] L4 fun v5 L5 =>
 wpOp F (.ld none) [v5] L5 fun v6 L6 =>
 CallL F (N k_cmp_Compare_int) [v4, v6] L6 fun v7 L7 =>
 wpOp F (.fad 2) [v1] L7 fun v8 L8 =>
 wpOp F (.ld none) [v8] L8 fun v9 L9 =>
 wpOp F (.fad 2) [v2] L9 fun v10 L10 =>
 wpOp F (.ld none) [v10] L10 fun v11 L11 =>
 CallL F (N k_cmp_Compare_int) [v9, v11] L11 fun v12 L12 =>
 wpOp F (.bslice [.i .i64 0] 2 1 [0, 1]) [v7, v12] L12 fun v13 L13 =>
 CallL F (N k_cmp_Or_int) [v13] L13 fun v14 L14 =>
 (againV (.ld none) [v8] L8 L2 ∧ againV (.ld none) [v10] L10 L2 ∧ True) ∧ (fin1 (some v14) Q L14)
theorem e_heap_ahead_1 (F : TF) (N : TN) (Q : TQ) (l t : Env) (L : Lg) : wp F (q_heap_ahead_1 N) l t L (fin [.tmp (.l 4)] Q) nE (fin [.tmp (.l 4)] Q) = D_heap_ahead_1 F N Q (l 0) (l 1) L := by kernel_rfl
/-- tarpaulin/heap.ahead -/
def c_heap_ahead (N : TN) : AFn := ⟨q_heap_ahead_1 N, [.tmp (.l 4)]⟩
structure H_heap_ahead (N : TN) (F : TF) : Prop where
  code : F (N k_heap_ahead) = some (c_heap_ahead N)
  cmp_Compare_int : H_cmp_Compare_int N F
  cmp_Or_int : H_cmp_Or_int N F
theorem r_heap_ahead {F : TF} {N : TN} (h : F (N k_heap_ahead) = some (c_heap_ahead N)) {Q : TQ} {a0 a1 : AV} {L : Lg} (e : D_heap_ahead_1 F N Q a0 a1 L) : CallL F (N k_heap_ahead) [a0, a1] L Q :=
  CallL.of_wp h (Eq.mpr (Eq.trans (e_heap_ahead_1 F N Q (initE [a0, a1] 0) Env.nil L) (by kernel_rfl : _ = D_heap_ahead_1 F N Q a0 a1 L)) e)
def q_heap_Heap_up_3 (N : TN) : ACode := (.reg [⟨.t 43, none, .mv, [.l 0]⟩, ⟨.t 44, none, .mv, [.l 1]⟩, ⟨.t 45, none, .ld (some 3), [.l 4]⟩, ⟨.t 46, none, .call (N k_heap_Heap_put), [.t 43, .t 44, .t 45]⟩])
noncomputable def D_heap_Heap_up_3 (F : TF) (N : TN) (Q : TQ) (x0 : AV) (x1 : AV) (x4 : AV) (L : Lg) : Prop :=
 wpOp F (.ld (some 3)) [x4] L fun v1 L1 =>
 CallL F (N k_heap_Heap_put) [x0, x1, v1] L1 fun v2 L2 =>
 fin1 (some (.tup [])) Q L2
theorem e_heap_Heap_up_3 (F : TF) (N : TN) (Q : TQ) (l t : Env) (L : Lg) : wp F (q_heap_Heap_up_3 N) l t L (fin [] Q) nE (fin [] Q) = D_heap_Heap_up_3 F N Q (l 0) (l 1) (l 4) L := by kernel_rfl
def w_heap_Heap_up_2 (F : TF) (N : TN) (Q : TQ) : Kn := (fun (l t : Env) (L : Lg) => D_heap_Heap_up_3 F N Q (l 0) (l 1) (l 4) L)
def y_heap_Heap_up_4 (F : TF) (N : TN) (Q : TQ) : Nat → Kn := (fun (j : Nat) (l t : Env) (L : Lg) => bif Nat.beq j 0 then (w_heap_Heap_up_2 F N Q) l t L else nE j l t L)
def q_heap_Heap_up_6 (N : TN) : ACode := (.seq (.seq (.reg [⟨.t 12, none, .mv, [.l 1]⟩, ⟨.t 13, none, .bin .gtr, [.t 12, .c (.i .i64 0)]⟩, ⟨.t 14, none, .mv, [.t 13]⟩, ⟨.t 15, some (.t 14, true), .ld (some 3), [.l 4]⟩, ⟨.t 16, some (.t 14, true), .mv, [.l 0]⟩, ⟨.t 17, some (.t 14, true), .nilchk, [.t 16]⟩, ⟨.t 18, some (.t 14, true), .fad 0, [.t 17]⟩, ⟨.t 19, some (.t 14, true), .ld none, [.t 18]⟩, ⟨.t 20, some (.t 14, true), .mv, [.l 1]⟩, ⟨.t 21, some (.t 14, true), .bin .sub, [.t 20, .c (.i .i64 1)]⟩, ⟨.t 22, some (.t 14, true), .bin .quo, [.t 21, .c (.i .i64 4)]⟩, ⟨.t 23, some (.t 14, true), .iad 3, [.t 19, .t 22]⟩, ⟨.t 24, some (.t 14, true), .ld (some 3), [.t 23]⟩, ⟨.t 25, some (.t 14, true), .call (N k_heap_ahead), [.t 15, .t 24]⟩, ⟨.t 26, some (.t 14, true), .bin .lss, [.t 25, .c (.i .i64 0)]⟩, ⟨.t 27, none, .pick, [.t 14, .t 26, .c (.b false)]⟩]) (.cond (.t 27) .skip (.exit 0))) (.block 1 (.seq (.reg [⟨.t 28, none, .mv, [.l 0]⟩, ⟨.t 29, none, .mv, [.l 1]⟩, ⟨.t 30, none, .mv, [.l 0]⟩, ⟨.t 31, none, .nilchk, [.t 30]⟩, ⟨.t 32, none, .fad 0, [.t 31]⟩, ⟨.t 33, none, .ld none, [.t 32]⟩, ⟨.t 34, none, .mv, [.l 1]⟩, ⟨.t 35, none, .bin .sub, [.t 34, .c (.i .i64 1)]⟩, ⟨.t 36, none, .bin .quo, [.t 35, .c (.i .i64 4)]⟩, ⟨.t 37, none, .iad 3, [.t 33, .t 36]⟩, ⟨.t 38, none, .ld (some 3), [.t 37]⟩, ⟨.t 39, none, .call (N k_heap_Heap_put), [.t 28, .t 29, .t 38]⟩]) (.reg [⟨.t 40, none, .mv, [.l 1]⟩, ⟨.t 41, none, .bin .sub, [.t 40, .c (.i .i64 1)]⟩, ⟨.t 42, none, .bin .quo, [.t 41, .c (.i .i64 4)]⟩, ⟨.l 1, none, .mv, [.t 42]⟩]))))
noncomputable def D_heap_Heap_up_6 (F : TF) (N : TN) (Q : TQ) (k1 : TK) (l : Env) (L : Lg) : Prop :=
 wpOp F (.bin .gtr) [(l 1), (.i .i64 0)] L fun v1 L1 =>
 gdOp F v1 true (.ld (some 3)) [(l 4)] L1 fun v2 L2 =>
 gdOp F v1 true .mv [(l 0)] L2 fun v3 L3 =>
 gdOp F v1 true .nilchk [v3] L3 fun v4 L4 =>
 gdOp F v1 true (.fad 0) [v4] L4 fun v5 L5 =>
 gdOp F v1 true (.ld none) [v5] L5 fun v6 L6 =>
 gdOp F v1 true .mv [(l 1)] L6 fun v7 L7 =>
 gdOp F v1 true (.bin .sub) [v7, (.i .i64 1)] L7 fun v8 L8 =>
 gdOp F v1 true (.bin .quo) [v8, (.i .i64 4)] L8 fun v9 L9 =>
 gdOp F v1 true (.iad 3) [v6, v9] L9 fun v10 L10 =>
 gdOp F v1 true (.ld (some 3)) [v10] L10 fun v11 L11 =>
 gdOp F v1 true (.call (N k_heap_ahead)) [v2, v11] L11 fun v12 L12 =>
 gdOp F v1 true (.bin .lss) [v12, (.i .i64 0)] L12 fun v13 L13 =>
 wpOp F .pick [v1, v13, (.b false)] L13 fun v14 L14 =>
 condW v14
 (wpOp F .nilchk [(l 0)] L14 fun v15 L15 =>
 wpOp F (.fad 0) [v15] L15 fun v16 L16 =>
 wpOp F (.ld none) [v16] L16 fun v17 L17 =>
 wpOp F (.bin .sub) [(l 1), (.i .i64 1)] L17 fun v18 L18 =>
 wpOp F (.bin .quo) [v18, (.i .i64 4)] L18 fun v19 L19 =>
 wpOp F (.iad 3) [v17, v19] L19 fun v20 L20 =>
 wpOp F (.ld (some 3)) [v20] L20 fun v21 L21 =>
 CallL F (N k_heap_Heap_put) [(l 0), (l 1), v21] L21 fun v22 L22 =>
 wpOp F (.bin .sub) [(l 1), (.i .i64 1)] L22 fun v23 L23 =>
 wpOp F (.bin .quo) [v23, (.i .i64 4)] L23 fun v24 L24 =>
 k1 (Env.put l 1 v24) L24)
 (D_heap_Heap_up_3 F N Q (l 0) (l 1) (l 4) L14)
theorem e_heap_Heap_up_6 (F : TF) (N : TN) (Q : TQ) (k1 : TK) (l t : Env) (L : Lg) : wp F (q_heap_Heap_up_6 N) l t L (fun (l _ : Env) (L : Lg) => k1 l L) (y_heap_Heap_up_4 F N Q) (fin [] Q) = D_heap_Heap_up_6 F N Q k1 l L := by kernel_rfl
def q_heap_Heap_up_5 (N : TN) : ACode := (.loop (q_heap_Heap_up_6 N))
noncomputable def D_heap_Heap_up_5 (F : TF) (N : TN) (Q : TQ) (l : Env) (L : Lg) : Prop :=
 loopW (fun l t L k1 => D_heap_Heap_up_6 F N Q k1 l L) l L
theorem e_heap_Heap_up_5 (F : TF) (N : TN) (Q : TQ) (l t : Env) (L : Lg) : wp F (q_heap_Heap_up_5 N) l t L (w_heap_Heap_up_2 F N Q) (y_heap_Heap_up_4 F N Q) (fin [] Q) = D_heap_Heap_up_5 F N Q l L := wpL (fun l t L k1 => e_heap_Heap_up_6 F N Q k1 l t L) (by kernel_rfl)
def q_heap_Heap_up_4 (N : TN) : ACode := (.block 0 (q_heap_Heap_up_5 N))
theorem e_heap_Heap_up_4 (F : TF) (N : TN) (Q : TQ) (l t : Env) (L : Lg) : wp F (q_heap_Heap_up_4 N) l t L (w_heap_Heap_up_2 F N Q) nE (fin [] Q) = D_heap_Heap_up_5 F N Q l L := wpB (e_heap_Heap_up_5 F N Q l t L)
def q_heap_Heap_up_2 (N : TN) : ACode := (.seq (q_heap_Heap_up_4 N) (q_heap_Heap_up_3 N))
theorem e_heap_Heap_up_2 (F : TF) (N : TN) (Q : TQ) (l t : Env) (L : Lg) : wp F (q_heap_Heap_up_2 N) l t L (fin [] Q) nE (fin [] Q) = D_heap_Heap_up_5 F N Q l L := wpS (e_heap_Heap_up_3 F N Q) (e_heap_Heap_up_4 F N Q l t L)
def q_heap_Heap_up_1a (N : TN) : ACode := (.reg [⟨.t 5, none, .mv, [.l 0]⟩, ⟨.t 6, none, .nilchk, [.t 5]⟩, ⟨.t 7, none, .fad 0, [.t 6]⟩, ⟨.t 8, none, .ld none, [.t 7]⟩, ⟨.t 9, none, .mv, [.l 1]⟩, ⟨.t 10, none, .iad 3, [.t 8, .t 9]⟩, ⟨.t 11, none, .ld (some 3), [.t 10]⟩, ⟨.l 4, none, .alloc [.i .i64 0, .i .i64 0, .i .i64 0], []⟩, ⟨.no, none, .st 3, [.l 4, .t 11]⟩])
def q_heap_Heap_up_1 (N : TN) : ACode := (.seq (q_heap_Heap_up_1a N) (q_heap_Heap_up_2 N))
noncomputable def D_heap_Heap_up_1 (F : TF) (N : TN) (Q : TQ) (l : Env) (L : Lg) : Prop :=
 wpOp F .nilchk [(l 0)] L fun v1 L1 =>
 wpOp F (.fad 0) [v1] L1 fun v2 L2 =>
 wpOp F (.ld none) [v2] L2 fun v3 L3 =>
 wpOp F (.iad 3) [v3, (l 1)] L3 fun v4 L4 =>
 wpOp F (.ld (some 3)) [v4] L4 fun v5 L5 =>
 wpOp F (.alloc [.i .i64 0, .i .i64 0, .i .i64 0]) [] L5 fun v6 L6 =>
 wpOp F (.st 3) [v6, v5] L6 fun _ L7 =>
 D_heap_Heap_up_5 F N Q (Env.put l 4 v6) L7
theorem e_heap_Heap_up_1 (F : TF) (N : TN) (Q : TQ) (l t : Env) (L : Lg) : wp F (q_heap_Heap_up_1 N) l t L (fin [] Q) nE (fin [] Q) = D_heap_Heap_up_1 F N Q l L := wpS (e_heap_Heap_up_2 F N Q) (by kernel_rfl)
/-- (*tarpaulin/heap.Heap).up -/
def c_heap_Heap_up (N : TN) : AFn := ⟨q_heap_Heap_up_1 N, []⟩
structure H_heap_Heap_up (N : TN) (F : TF) : Prop where
  code : F (N k_heap_Heap_up) = some (c_heap_Heap_up N)
  heap_ahead : H_heap_ahead N F
  heap_Heap_put : H_heap_Heap_put N F
theorem r_heap_Heap_up {F : TF} {N : TN} (h : F (N k_heap_Heap_up) = some (c_heap_Heap_up N)) {Q : TQ} {a0 a1 : AV} {L : Lg} (e : D_heap_Heap_up_1 F N Q (initE [a0, a1] 0) L) : CallL F (N k_heap_Heap_up) [a0, a1] L Q :=
  CallL.of_wp h (Eq.mpr (Eq.trans (e_heap_Heap_up_1 F N Q (initE [a0, a1] 0) Env.nil L) (by kernel_rfl : _ = D_heap_Heap_up_1 F N Q (initE [a0, a1] 0) L)) e)
def q_heap_Heap_down_3 (N : TN) : ACode := (.reg [⟨.t 78, none, .mv, [.l 0]⟩, ⟨.t 79, none, .mv, [.l 1]⟩, ⟨.t 80, none, .ld (some 3), [.l 4]⟩, ⟨.t 81, none, .call (N k_heap_Heap_put), [.t 78, .t 79, .t 80]⟩])
noncomputable def D_heap_Heap_down_3 (F : TF) (N : TN) (Q : TQ) (x0 : AV) (x1 : AV) (x4 : AV) (L : Lg) : Prop :=
 wpOp F (.ld (some 3)) [x4] L fun v1 L1 =>
 CallL F (N k_heap_Heap_put) [x0, x1, v1] L1 fun v2 L2 =>
 fin1 (some (.tup [])) Q L2
theorem e_heap_Heap_down_3 (F : TF) (N : TN) (Q : TQ) (l t : Env) (L : Lg) : wp F (q_heap_Heap_down_3 N) l t L (fin [] Q) nE (fin [] Q) = D_heap_Heap_down_3 F N Q (l 0) (l 1) (l 4) L := by kernel_rfl
def w_heap_Heap_down_2 (F : TF) (N : TN) (Q : TQ) : Kn := (fun (l t : Env) (L : Lg) => D_heap_Heap_down_3 F N Q (l 0) (l 1) (l 4) L)
def y_heap_Heap_down_4 (F : TF) (N : TN) (Q : TQ) : Nat → Kn := (fun (j : Nat) (l t : Env) (L : Lg) => bif Nat.beq j 0 then (w_heap_Heap_down_2 F N Q) l t L else nE j l t L)
def y_heap_Heap_down_6 (F : TF) (N : TN) (Q : TQ) (k1 : TK) : Nat → Kn := (fun (j : Nat) (l t : Env) (L : Lg) => bif Nat.beq j 1 then (fun (l _ : Env) (L : Lg) => k1 l L) l t L else (y_heap_Heap_down_4 F N Q) j l t L)
def q_heap_Heap_down_11 (N : TN) : ACode := (.seq (.seq (.reg [⟨.t 57, none, .ld (some 3), [.l 4]⟩, ⟨.t 58, none, .mv, [.l 0]⟩, ⟨.t 59, none, .nilchk, [.t 58]⟩, ⟨.t 60, none, .fad 0, [.t 59]⟩, ⟨.t 61, none, .ld none, [.t 60]⟩, ⟨.t 62, none, .mv, [.l 6]⟩, ⟨.t 63, none, .iad 3, [.t 61, .t 62]⟩, ⟨.t 64, none, .ld (some 3), [.t 63]⟩, ⟨.t 65, none, .call (N k_heap_ahead), [.t 57, .t 64]⟩, ⟨.t 66, none, .bin .lss, [.t 65, .c (.i .i64 0)]⟩]) (.cond (.t 66) (.exit 0) .skip)) (.seq (.reg [⟨.t 67, none, .mv, [.l 0]⟩, ⟨.t 68, none, .mv, [.l 1]⟩, ⟨.t 69, none, .mv, [.l 0]⟩, ⟨.t 70, none, .nilchk, [.t 69]⟩, ⟨.t 71, none, .fad 0, [.t 70]⟩, ⟨.t 72, none, .ld none, [.t 71]⟩, ⟨.t 73, none, .mv, [.l 6]⟩, ⟨.t 74, none, .iad 3, [.t 72, .t 73]⟩, ⟨.t 75, none, .ld (some 3), [.t 74]⟩, ⟨.t 76, none, .call (N k_heap_Heap_put), [.t 67, .t 68, .t 75]⟩]) (.reg [⟨.t 77, none, .mv, [.l 6]⟩, ⟨.l 1, none, .mv, [.t 77]⟩])))
noncomputable def D_heap_Heap_down_11 (F : TF) (N : TN) (Q : TQ) (k1 : TK) (l : Env) (L : Lg) : Prop :=
 wpOp F (.ld (some 3)) [(l 4)] L fun v1 L1 =>
 wpOp F .nilchk [(l 0)] L1 fun v2 L2 =>
 wpOp F (.fad 0) [v2] L2 fun v3 L3 =>
 wpOp F (.ld none) [v3] L3 fun v4 L4 =>
 wpOp F (.iad 3) [v4, (l 6)] L4 fun v5 L5 =>
 wpOp F (.ld (some 3)) [v5] L5 fun v6 L6 =>
 CallL F (N k_heap_ahead) [v1, v6] L6 fun v7 L7 =>
 wpOp F (.bin .lss) [v7, (.i .i64 0)] L7 fun v8 L8 =>
 condW v8
 (D_heap_Heap_down_3 F N Q (l 0) (l 1) (l 4) L8)
 (wpOp F .nilchk [(l 0)] L8 fun v9 L9 =>
 wpOp F (.fad 0) [v9] L9 fun v10 L10 =>
 wpOp F (.ld none) [v10] L10 fun v11 L11 =>
 wpOp F (.iad 3) [v11, (l 6)] L11 fun v12 L12 =>
 wpOp F (.ld (some 3)) [v12] L12 fun v13 L13 =>
 CallL F (N k_heap_Heap_put) [(l 0), (l 1), v13] L13 fun v14 L14 =>
 k1 (Env.put l 1 (l 6)) L14)
theorem e_heap_Heap_down_11 (F : TF) (N : TN) (Q : TQ) (k1 : TK) (l t : Env) (L : Lg) : wp F (q_heap_Heap_down_11 N) l t L (fun (l _ : Env) (L : Lg) => k1 l L) (y_heap_Heap_down_6 F N Q k1) (fin [] Q) = D_heap_Heap_down_11 F N Q k1 l L := by kernel_rfl
def w_heap_Heap_down_10 (F : TF) (N : TN) (Q : TQ) (k1 : TK) : Kn := (fun (l t : Env) (L : Lg) => D_heap_Heap_down_11 F N Q k1 l L)
def y_heap_Heap_down_13 (F : TF) (N : TN) (Q : TQ) (k1 : TK) : Nat → Kn := (fun (j : Nat) (l t : Env) (L : Lg) => bif Nat.beq j 2 then (w_heap_Heap_down_10 F N Q k1) l t L else (y_heap_Heap_down_6 F N Q k1) j l t L)
def q_heap_Heap_down_15 (N : TN) : ACode := (.seq (.seq (.reg [⟨.t 28, none, .mv, [.l 7]⟩, ⟨.t 29, none, .mv, [.l 5]⟩, ⟨.t 30, none, .bin .add, [.t 29, .c (.i .i64 4)]⟩, ⟨.t 31, none, .mv, [.l 0]⟩, ⟨.t 32, none, .nilchk, [.t 31]⟩, ⟨.t 33, none, .fad 0, [.t 32]⟩, ⟨.t 34, none, .ld none, [.t 33]⟩, ⟨.t 35, none, .lenSl, [.t 34]⟩, ⟨.t 36, none, .min, [.t 30, .t 35]⟩, ⟨.t 37, none, .bin .lss, [.t 28, .t 36]⟩]) (.cond (.t 37) .skip (.exit 2))) (.seq (.block 3 (.seq (.reg [⟨.t 40, none, .mv, [.l 0]⟩, ⟨.t 41, none, .nilchk, [.t 40]⟩, ⟨.t 42, none, .fad 0, [.t 41]⟩, ⟨.t 43, none, .ld none, [.t 42]⟩, ⟨.t 44, none, .mv, [.l 7]⟩, ⟨.t 45, none, .iad 3, [.t 43, .t 44]⟩, ⟨.t 46, none, .ld (some 3), [.t 45]⟩, ⟨.t 47, none, .mv, [.l 0]⟩, ⟨.t 48, none, .nilchk, [.t 47]⟩, ⟨.t 49, none, .fad 0, [.t 48]⟩, ⟨.t 50, none, .ld none, [.t 49]⟩, ⟨.t 51, none, .mv, [.l 6]⟩, ⟨.t 52, none, .iad 3, [.t 50, .t 51]⟩, ⟨.t 53, none, .ld (some 3), [.t 52]⟩, ⟨.t 54, none, .call (N k_heap_ahead), [.t 46, .t 53]⟩, ⟨.t 55, none, .bin .lss, [.t 54, .c (.i .i64 0)]⟩]) (.cond (.t 55) (.reg [⟨.t 56, none, .mv, [.l 7]⟩, ⟨.l 6, none, .mv, [.t 56]⟩]) .skip))) (.reg [⟨.t 38, none, .mv, [.l 7]⟩, ⟨.t 39, none, .bin .add, [.t 38, .c (.i .i64 1)]⟩, ⟨.l 7, none, .mv, [.t 39]⟩])))
noncomputable def D_heap_Heap_down_15 (F : TF) (N : TN) (Q : TQ) (k1 : TK) (k2 : TK) (l : Env) (L : Lg) : Prop :=
 wpOp F (.bin .add) [(l 5), (.i .i64 4)] L fun v1 L1 =>
 wpOp F .nilchk [(l 0)] L1 fun v2 L2 =>
 wpOp F (.fad 0) [v2] L2 fun v3 L3 =>
 wpOp F (.ld none) [v3] L3 fun v4 L4 =>
 wpOp F .lenSl [v4] L4 fun v5 L5 =>
 wpOp F .min [v1, v5] L5 fun v6 L6 =>
 wpOp F (.bin .lss) [(l 7), v6] L6 fun v7 L7 =>
 condW v7
 (wpOp F .nilchk [(l 0)] L7 fun v8 L8 =>
 wpOp F (.fad 0) [v8] L8 fun v9 L9 =>
 wpOp F (.ld none) [v9] L9 fun v10 L10 =>
 wpOp F (.iad 3) [v10, (l 7)] L10 fun v11 L11 =>
 wpOp F (.ld (some 3)) [v11] L11 fun v12 L12 =>
 wpOp F .nilchk [(l 0)] L12 fun v13 L13 =>
 wpOp F (.fad 0) [v13] L13 fun v14 L14 =>
 wpOp F (.ld none) [v14] L14 fun v15 L15 =>
 wpOp F (.iad 3) [v15, (l 6)] L15 fun v16 L16 =>
 wpOp F (.ld (some 3)) [v16] L16 fun v17 L17 =>
 CallL F (N k_heap_ahead) [v12, v17] L17 fun v18 L18 =>
 wpOp F (.bin .lss) [v18, (.i .i64 0)] L18 fun v19 L19 =>
 condW v19
 (wpOp F (.bin .add) [(l 7), (.i .i64 1)] L19 fun v20 L20 =>
 k2 (Env.put (Env.put l 6 (l 7)) 7 v20) L20)
 (wpOp F (.bin .add) [(l 7), (.i .i64 1)] L19 fun v21 L21 =>
 k2 (Env.put l 7 v21) L21))
 (D_heap_Heap_down_11 F N Q k1 l L7)
theorem e_heap_Heap_down_15 (F : TF) (N : TN) (Q : TQ) (k1 : TK) (k2 : TK) (l t : Env) (L : Lg) : wp F (q_heap_Heap_down_15 N) l t L (fun (l _ : Env) (L : Lg) => k2 l L) (y_heap_Heap_down_13 F N Q k1) (fin [] Q) = D_heap_Heap_down_15 F N Q k1 k2 l L := by kernel_rfl
def q_heap_Heap_down_14 (N : TN) : ACode := (.loop (q_heap_Heap_down_15 N))
noncomputable def D_heap_Heap_down_14 (F : TF) (N : TN) (Q : TQ) (k1 : TK) (l : Env) (L : Lg) : Prop :=
 loopW (fun l t L k2 => D_heap_Heap_down_15 F N Q k1 k2 l L) l L
theorem e_heap_Heap_down_14 (F : TF) (N : TN) (Q : TQ) (k1 : TK) (l t : Env) (L : Lg) : wp F (q_heap_Heap_down_14 N) l t L (w_heap_Heap_down_10 F N Q k1) (y_heap_Heap_down_13 F N Q k1) (fin [] Q) = D_heap_Heap_down_14 F N Q k1 l L := wpL (fun l t L k2 => e_heap_Heap_down_15 F N Q k1 k2 l t L) (by kernel_rfl)
def q_heap_Heap_down_13 (N : TN) : ACode := (.block 2 (q_heap_Heap_down_14 N))
theorem e_heap_Heap_down_13 (F : TF) (N : TN) (Q : TQ) (k1 : TK) (l t : Env) (L : Lg) : wp F (q_heap_Heap_down_13 N) l t L (w_heap_Heap_down_10 F N Q k1) (y_heap_Heap_down_6 F N Q k1) (fin [] Q) = D_heap_Heap_down_14 F N Q k1 l L := wpB (e_heap_Heap_down_14 F N Q k1 l t L)
def q_heap_Heap_down_12a (N : TN) : ACode := (.reg [⟨.t 26, none, .mv, [.l 5]⟩, ⟨.t 27, none, .bin .add, [.t 26, .c (.i .i64 1)]⟩, ⟨.l 7, none, .mv, [.t 27]⟩])
def q_heap_Heap_down_12 (N : TN) : ACode := (.seq (q_heap_Heap_down_12a N) (q_heap_Heap_down_13 N))
noncomputable def D_heap_Heap_down_12 (F : TF) (N : TN) (Q : TQ) (k1 : TK) (l : Env) (L : Lg) : Prop :=
 wpOp F (.bin .add) [(l 5), (.i .i64 1)] L fun v1 L1 =>
 D_heap_Heap_down_14 F N Q k1 (Env.put l 7 v1) L1
theorem e_heap_Heap_down_12 (F : TF) (N : TN) (Q : TQ) (k1 : TK) (l t : Env) (L : Lg) : wp F (q_heap_Heap_down_12 N) l t L (w_heap_Heap_down_10 F N Q k1) (y_heap_Heap_down_6 F N Q k1) (fin [] Q) = D_heap_Heap_down_12 F N Q k1 l L := wpS (e_heap_Heap_down_13 F N Q k1) (by kernel_rfl)
def q_heap_Heap_down_10 (N : TN) : ACode := (.seq (q_heap_Heap_down_12 N) (q_heap_Heap_down_11 N))
theorem e_heap_Heap_down_10 (F : TF) (N : TN) (Q : TQ) (k1 : TK) (l t : Env) (L : Lg) : wp F (q_heap_Heap_down_10 N) l t L (fun (l _ : Env) (L : Lg) => k1 l L) (y_heap_Heap_down_6 F N Q k1) (fin [] Q) = D_heap_Heap_down_12 F N Q k1 l L := wpS (e_heap_Heap_down_11 F N Q k1) (e_heap_Heap_down_12 F N Q k1 l t L)
def q_heap_Heap_down_9a (N : TN) : ACode := (.reg [⟨.t 25, none, .mv, [.l 5]⟩, ⟨.l 6, none, .mv, [.t 25]⟩])
def q_heap_Heap_down_9 (N : TN) : ACode := (.seq (q_heap_Heap_down_9a N) (q_heap_Heap_down_10 N))
noncomputable def D_heap_Heap_down_9 (F : TF) (N : TN) (Q : TQ) (k1 : TK) (l : Env) (L : Lg) : Prop :=
 D_heap_Heap_down_12 F N Q k1 (Env.put l 6 (l 5)) L
theorem e_heap_Heap_down_9 (F : TF) (N : TN) (Q : TQ) (k1 : TK) (l t : Env) (L : Lg) : wp F (q_heap_Heap_down_9 N) l t L (fun (l _ : Env) (L : Lg) => k1 l L) (y_heap_Heap_down_6 F N Q k1) (fin [] Q) = D_heap_Heap_down_9 F N Q k1 l L := wpS (e_heap_Heap_down_10 F N Q k1) (by kernel_rfl)
def q_heap_Heap_down_8a (N : TN) : ACode := (.seq (.reg [⟨.t 18, none, .mv, [.l 5]⟩, ⟨.t 19, none, .mv, [.l 0]⟩, ⟨.t 20, none, .nilchk, [.t 19]⟩, ⟨.t 21, none, .fad 0, [.t 20]⟩, ⟨.t 22, none, .ld none, [.t 21]⟩, ⟨.t 23, none, .lenSl, [.t 22]⟩, ⟨.t 24, none, .bin .geq, [.t 18, .t 23]⟩]) (.cond (.t 24) (.exit 0) .skip))
def q_heap_Heap_down_8 (N : TN) : ACode := (.seq (q_heap_Heap_down_8a N) (q_heap_Heap_down_9 N))
noncomputable def D_heap_Heap_down_8 (F : TF) (N : TN) (Q : TQ) (k1 : TK) (l : Env) (L : Lg) : Prop :=
 wpOp F .nilchk [(l 0)] L fun v1 L1 =>
 wpOp F (.fad 0) [v1] L1 fun v2 L2 =>
 wpOp F (.ld none) [v2] L2 fun v3 L3 =>
 wpOp F .lenSl [v3] L3 fun v4 L4 =>
 wpOp F (.bin .geq) [(l 5), v4] L4 fun v5 L5 =>
 condW v5
 (D_heap_Heap_down_3 F N Q (l 0) (l 1) (l 4) L5)
 (D_heap_Heap_down_9 F N Q k1 l L5)
theorem e_heap_Heap_down_8 (F : TF) (N : TN) (Q : TQ) (k1 : TK) (l t : Env) (L : Lg) : wp F (q_heap_Heap_down_8 N) l t L (fun (l _ : Env) (L : Lg) => k1 l L) (y_heap_Heap_down_6 F N Q k1) (fin [] Q) = D_heap_Heap_down_8 F N Q k1 l L := wpS (e_heap_Heap_down_9 F N Q k1) (by kernel_rfl)
def q_heap_Heap_down_7a (N : TN) : ACode := (.reg [⟨.t 15, none, .mv, [.l 1]⟩, ⟨.t 16, none, .bin .mul, [.c (.i .i64 4), .t 15]⟩, ⟨.t 17, none, .bin .add, [.t 16, .c (.i .i64 1)]⟩, ⟨.l 5, none, .mv, [.t 17]⟩])
def q_heap_Heap_down_7 (N : TN) : ACode := (.seq (q_heap_Heap_down_7a N) (q_heap_Heap_down_8 N))
noncomputable def D_heap_Heap_down_7 (F : TF) (N : TN) (Q : TQ) (k1 : TK) (l : Env) (L : Lg) : Prop :=
 wpOp F (.bin .mul) [(.i .i64 4), (l 1)] L fun v1 L1 =>
 wpOp F (.bin .add) [v1, (.i .i64 1)] L1 fun v2 L2 =>
 D_heap_Heap_down_8 F N Q k1 (Env.put l 5 v2) L2
theorem e_heap_Heap_down_7 (F : TF) (N : TN) (Q : TQ) (k1 : TK) (l t : Env) (L : Lg) : wp F (q_heap_Heap_down_7 N) l t L (fun (l _ : Env) (L : Lg) => k1 l L) (y_heap_Heap_down_6 F N Q k1) (fin [] Q) = D_heap_Heap_down_7 F N Q k1 l L := wpS (e_heap_Heap_down_8 F N Q k1) (by kernel_rfl)
def q_heap_Heap_down_6 (N : TN) : ACode := (.block 1 (q_heap_Heap_down_7 N))
theorem e_heap_Heap_down_6 (F : TF) (N : TN) (Q : TQ) (k1 : TK) (l t : Env) (L : Lg) : wp F (q_heap_Heap_down_6 N) l t L (fun (l _ : Env) (L : Lg) => k1 l L) (y_heap_Heap_down_4 F N Q) (fin [] Q) = D_heap_Heap_down_7 F N Q k1 l L := wpB (e_heap_Heap_down_7 F N Q k1 l t L)
def q_heap_Heap_down_5 (N : TN) : ACode := (.loop (q_heap_Heap_down_6 N))
noncomputable def D_heap_Heap_down_5 (F : TF) (N : TN) (Q : TQ) (l : Env) (L : Lg) : Prop :=
 loopW (fun l t L k1 => D_heap_Heap_down_7 F N Q k1 l L) l L
theorem e_heap_Heap_down_5 (F : TF) (N : TN) (Q : TQ) (l t : Env) (L : Lg) : wp F (q_heap_Heap_down_5 N) l t L (w_heap_Heap_down_2 F N Q) (y_heap_Heap_down_4 F N Q) (fin [] Q) = D_heap_Heap_down_5 F N Q l L := wpL (fun l t L k1 => e_heap_Heap_down_6 F N Q k1 l t L) (by kernel_rfl)
def q_heap_Heap_down_4 (N : TN) : ACode := (.block 0 (q_heap_Heap_down_5 N))
theorem e_heap_Heap_down_4 (F : TF) (N : TN) (Q : TQ) (l t : Env) (L : Lg) : wp F (q_heap_Heap_down_4 N) l t L (w_heap_Heap_down_2 F N Q) nE (fin [] Q) = D_heap_Heap_down_5 F N Q l L := wpB (e_heap_Heap_down_5 F N Q l t L)
def q_heap_Heap_down_2 (N : TN) : ACode := (.seq (q_heap_Heap_down_4 N) (q_heap_Heap_down_3 N))
theorem e_heap_Heap_down_2 (F : TF) (N : TN) (Q : TQ) (l t : Env) (L : Lg) : wp F (q_heap_Heap_down_2 N) l t L (fin [] Q) nE (fin [] Q) = D_heap_Heap_down_5 F N Q l L := wpS (e_heap_Heap_down_3 F N Q) (e_heap_Heap_down_4 F N Q l t L)
def q_heap_Heap_down_1a (N : TN) : ACode := (.reg [⟨.t 8, none, .mv, [.l 0]⟩, ⟨.t 9, none, .nilchk, [.t 8]⟩, ⟨.t 10, none, .fad 0, [.t 9]⟩, ⟨.t 11, none, .ld none, [.t 10]⟩, ⟨.t 12, none, .mv, [.l 1]⟩, ⟨.t 13, none, .iad 3, [.t 11, .t 12]⟩, ⟨.t 14, none, .ld (some 3), [.t 13]⟩, ⟨.l 4, none, .alloc [.i .i64 0, .i .i64 0, .i .i64 0], []⟩, ⟨.no, none, .st 3, [.l 4, .t 14]⟩])
def q_heap_Heap_down_1 (N : TN) : ACode := (.seq (q_heap_Heap_down_1a N) (q_heap_Heap_down_2 N))
noncomputable def D_heap_Heap_down_1 (F : TF) (N : TN) (Q : TQ) (l : Env) (L : Lg) : Prop :=
 wpOp F .nilchk [(l 0)] L fun v1 L1 =>
 wpOp F (.fad 0) [v1] L1 fun v2 L2 =>
 wpOp F (.ld none) [v2] L2 fun v3 L3 =>
 wpOp F (.iad 3) [v3, (l 1)] L3 fun v4 L4 =>
 wpOp F (.ld (some 3)) [v4] L4 fun v5 L5 =>
 wpOp F (.alloc [.i .i64 0, .i .i64 0, .i .i64 0]) [] L5 fun v6 L6 =>
 wpOp F (.st 3) [v6, v5] L6 fun _ L7 =>
 D_heap_Heap_down_5 F N Q (Env.put l 4 v6) L7
theorem e_heap_Heap_down_1 (F : TF) (N : TN) (Q : TQ) (l t : Env) (L : Lg) : wp F (q_heap_Heap_down_1 N) l t L (fin [] Q) nE (fin [] Q) = D_heap_Heap_down_1 F N Q l L := wpS (e_heap_Heap_down_2 F N Q) (by kernel_rfl)
/-- (*tarpaulin/heap.Heap).down -/
def c_heap_Heap_down (N : TN) : AFn := ⟨q_heap_Heap_down_1 N, []⟩
structure H_heap_Heap_down (N : TN) (F : TF) : Prop where
  code : F (N k_heap_Heap_down) = some (c_heap_Heap_down N)
  heap_ahead : H_heap_ahead N F
  heap_Heap_put : H_heap_Heap_put N F
theorem r_heap_Heap_down {F : TF} {N : TN} (h : F (N k_heap_Heap_down) = some (c_heap_Heap_down N)) {Q : TQ} {a0 a1 : AV} {L : Lg} (e : D_heap_Heap_down_1 F N Q (initE [a0, a1] 0) L) : CallL F (N k_heap_Heap_down) [a0, a1] L Q :=
  CallL.of_wp h (Eq.mpr (Eq.trans (e_heap_Heap_down_1 F N Q (initE [a0, a1] 0) Env.nil L) (by kernel_rfl : _ = D_heap_Heap_down_1 F N Q (initE [a0, a1] 0) L)) e)
def q_heap_Heap_Remove_7 (N : TN) : ACode := (.seq (.reg [⟨.t 48, none, .mv, [.l 0]⟩, ⟨.t 49, none, .nilchk, [.t 48]⟩, ⟨.t 50, none, .fad 1, [.t 49]⟩, ⟨.t 51, none, .ld none, [.t 50]⟩, ⟨.t 52, none, .mv, [.l 1]⟩, ⟨.no, none, .mdel, [.t 51, .t 52]⟩]) (.seq (.seq (.reg [⟨.t 53, none, .mv, [.l 8]⟩, ⟨.t 54, none, .mv, [.l 9]⟩, ⟨.t 55, none, .bin .lss, [.t 53, .t 54]⟩]) (.cond (.t 55) (.seq (.reg [⟨.t 56, none, .mv, [.l 0]⟩, ⟨.t 57, none, .mv, [.l 8]⟩, ⟨.t 58, none, .ld (some 3), [.l 10]⟩, ⟨.t 59, none, .call (N k_heap_Heap_put), [.t 56, .t 57, .t 58]⟩]) (.seq (.reg [⟨.t 60, none, .mv, [.l 0]⟩, ⟨.t 61, none, .mv, [.l 8]⟩, ⟨.t 62, none, .call (N k_heap_Heap_up), [.t 60, .t 61]⟩]) (.reg [⟨.t 63, none, .mv, [.l 0]⟩, ⟨.t 64, none, .mv, [.l 0]⟩, ⟨.t 65, none, .nilchk, [.t 64]⟩, ⟨.t 66, none, .fad 1, [.t 65]⟩, ⟨.t 67, none, .ld none, [.t 66]⟩, ⟨.t 68, none, .fad 0, [.l 10]⟩, ⟨.t 69, none, .ld none, [.t 68]⟩, ⟨.t 70, none, .lkup (.i .i64 0) false, [.t 67, .t 69]⟩, ⟨.t 71, none, .call (N k_heap_Heap_down), [.t 63, .t 70]⟩]))) .skip)) (.seq (.reg [⟨.t 72, none, .ld (some 3), [.l 6]⟩, ⟨.no, none, .st 3, [.l 4, .t 72]⟩, ⟨.l 5, none, .mv, [.c (.b true)]⟩]) .ret)))
noncomputable def D_heap_Heap_Remove_7 (F : TF) (N : TN) (Q : TQ) (x0 : AV) (x1 : AV) (x4 : AV) (x6 : AV) (x8 : AV) (x9 : AV) (x10 : AV) (L : Lg) : Prop :=
 wpOp F .nilchk [x0] L fun v1 L1 =>
 wpOp F (.fad 1) [v1] L1 fun v2 L2 =>
 wpOp F (.ld none) [v2] L2 fun v3 L3 =>
 wpOp F .mdel [v3, x1] L3 fun _ L4 =>
 wpOp F (.bin .lss) [x8, x9] L4 fun v5 L5 =>
 condW v5
 (wpOp F (.ld (some 3)) [x10] L5 fun v6 L6 =>
 CallL F (N k_heap_Heap_put) [x0, x8, v6] L6 fun v7 L7 =>
 CallL F (N k_heap_Heap_up) [x0, x8] L7 fun v8 L8 =>
 wpOp F .nilchk [x0] L8 fun v9 L9 =>
 wpOp F (.fad 1) [v9] L9 fun v10 L10 =>
 wpOp F (.ld none) [v10] L10 fun v11 L11 =>
 wpOp F (.fad 0) [x10] L11 fun v12 L12 =>
 wpOp F (.ld none) [v12] L12 fun v13 L13 =>
 wpOp F (.lkup (.i .i64 0) false) [v11, v13] L13 fun v14 L14 =>
 CallL F (N k_heap_Heap_down) [x0, v14] L14 fun v15 L15 =>
 wpOp F (.ld (some 3)) [x6] L15 fun v16 L16 =>
 wpOp F (.st 3) [x4, v16] L16 fun _ L17 =>
 fin1 (resVL Env.nil Env.nil L17 [.cell (.c x4) (some 3), .tmp (.c (.b true))]) Q L17)
 (wpOp F (.ld (some 3)) [x6] L5 fun v18 L18 =>
 wpOp F (.st 3) [x4, v18] L18 fun _ L19 =>
 fin1 (resVL Env.nil Env.nil L19 [.cell (.c x4) (some 3), .tmp (.c (.b true))]) Q L19)
theorem e_heap_Heap_Remove_7 (F : TF) (N : TN) (Q : TQ) (l t : Env) (L : Lg) : wp F (q_heap_Heap_Remove_7 N) l t L (fin [.cell (.l 4) (some 3), .tmp (.l 5)] Q) nE (fin [.cell (.l 4) (some 3), .tmp (.l 5)] Q) = D_heap_Heap_Remove_7 F N Q (l 0) (l 1) (l 4) (l 6) (l 8) (l 9) (l 10) L := by kernel_rfl
def q_heap_Heap_Remove_6a (N : TN) : ACode := (.reg [⟨.t 39, none, .mv, [.l 0]⟩, ⟨.t 40, none, .mv, [.l 0]⟩, ⟨.t 41, none, .nilchk, [.t 40]⟩, ⟨.t 42, none, .fad 0, [.t 41]⟩, ⟨.t 43, none, .ld none, [.t 42]⟩, ⟨.t 44, none, .mv, [.l 9]⟩, ⟨.t 45, none, .slc 3 false true false, [.t 43, .t 44]⟩, ⟨.t 46, none, .nilchk, [.t 39]⟩, ⟨.t 47, none, .fad 0, [.t 46]⟩, ⟨.no, none, .st 1, [.t 47, .t 45]⟩])
def q_heap_Heap_Remove_6 (N : TN) : ACode := (.seq (q_heap_Heap_Remove_6a N) (q_heap_Heap_Remove_7 N))
noncomputable def D_heap_Heap_Remove_6 (F : TF) (N : TN) (Q : TQ) (x0 : AV) (x1 : AV) (x4 : AV) (x6 : AV) (x8 : AV) (x9 : AV) (x10 : AV) (L : Lg) : Prop :=
 wpOp F .nilchk [x0] L fun v1 L1 =>
 wpOp F (.fad 0) [v1] L1 fun v2 L2 =>
 wpOp F (.ld none) [v2] L2 fun v3 L3 =>
 wpOp F (.slc 3 false true false) [v3, x9] L3 fun v4 L4 =>
 wpOp F .nilchk [x0] L4 fun v5 L5 =>
 wpOp F (.fad 0) [v5] L5 fun v6 L6 =>
 wpOp F (.st 1) [v6, v4] L6 fun _ L7 =>
 D_heap_Heap_Remove_7 F N Q x0 x1 x4 x6 x8 x9 x10 L7
theorem e_heap_Heap_Remove_6 (F : TF) (N : TN) (Q : TQ) (l t : Env) (L : Lg) : wp F (q_heap_Heap_Remove_6 N) l t L (fin [.cell (.l 4) (some 3), .tmp (.l 5)] Q) nE (fin [.cell (.l 4) (some 3), .tmp (.l 5)] Q) = D_heap_Heap_Remove_6 F N Q (l 0) (l 1) (l 4) (l 6) (l 8) (l 9) (l 10) L := wpS (e_heap_Heap_Remove_7 F N Q) (by kernel_rfl)
def q_heap_Heap_Remove_5a (N : TN) : ACode := (.reg [⟨.t 32, none, .mv, [.l 0]⟩, ⟨.t 33, none, .nilchk, [.t 32]⟩, ⟨.t 34, none, .fad 0, [.t 33]⟩, ⟨.t 35, none, .ld none, [.t 34]⟩, ⟨.t 36, none, .mv, [.l 9]⟩, ⟨.t 37, none, .iad 3, [.t 35, .t 36]⟩, ⟨.t 38, none, .ld (some 3), [.t 37]⟩, ⟨.l 10, none, .alloc [.i .i64 0, .i .i64 0, .i .i64 0], []⟩, ⟨.no, none, .st 3, [.l 10, .t 38]⟩])
def q_heap_Heap_Remove_5 (N : TN) : ACode := (.seq (q_heap_Heap_Remove_5a N) (q_heap_Heap_Remove_6 N))
noncomputable def D_heap_Heap_Remove_5 (F : TF) (N : TN) (Q : TQ) (x0 : AV) (x1 : AV) (x4 : AV) (x6 : AV) (x8 : AV) (x9 : AV) (L : Lg) : Prop :=
 wpOp F .nilchk [x0] L fun v1 L1 =>
 wpOp F (.fad 0) [v1] L1 fun v2 L2 =>
 wpOp F (.ld none) [v2] L2 fun v3 L3 =>
 wpOp F (.iad 3) [v3, x9] L3 fun v4 L4 =>
 wpOp F (.ld (some 3)) [v4] L4 fun v5 L5 =>
 wpOp F (.alloc [.i .i64 0, .i .i64 0, .i .i64 0]) [] L5 fun v6 L6 =>
 wpOp F (.st 3) [v6, v5] L6 fun _ L7 =>
 D_heap_Heap_Remove_6 F N Q x0 x1 x4 x6 x8 x9 v6 L7
theorem e_heap_Heap_Remove_5 (F : TF) (N : TN) (Q : TQ) (l t : Env) (L : Lg) : wp F (q_heap_Heap_Remove_5 N) l t L (fin [.cell (.l 4) (some 3), .tmp (.l 5)] Q) nE (fin [.cell (.l 4) (some 3), .tmp (.l 5)] Q) = D_heap_Heap_Remove_5 F N Q (l 0) (l 1) (l 4) (l 6) (l 8) (l 9) L := wpS (e_heap_Heap_Remove_6 F N Q) (by kernel_rfl)
def q_heap_Heap_Remove_4a (N : TN) : ACode := (.reg [⟨.t 20, none, .mv, [.l 0]⟩, ⟨.t 21, none, .nilchk, [.t 20]⟩, ⟨.t 22, none, .fad 1, [.t 21]⟩, ⟨.t 23, none, .ld none, [.t 22]⟩, ⟨.t 24, none, .mv, [.l 1]⟩, ⟨.t 25, none, .lkup (.i .i64 0) false, [.t 23, .t 24]⟩, ⟨.t 26, none, .mv, [.l 0]⟩, ⟨.t 27, none, .nilchk, [.t 26]⟩, ⟨.t 28, none, .fad 0, [.t 27]⟩, ⟨.t 29, none, .ld none, [.t 28]⟩, ⟨.t 30, none, .lenSl, [.t 29]⟩, ⟨.t 31, none, .bin .sub, [.t 30, .c (.i .i64 1)]⟩, ⟨.l 8, none, .mv, [.t 25]⟩, ⟨.l 9, none, .mv, [.t 31]⟩])
def q_heap_Heap_Remove_4 (N : TN) : ACode := (.seq (q_heap_Heap_Remove_4a N) (q_heap_Heap_Remove_5 N))
noncomputable def D_heap_Heap_Remove_4 (F : TF) (N : TN) (Q : TQ) (x0 : AV) (x1 : AV) (x4 : AV) (x6 : AV) (L : Lg) : Prop :=
 wpOp F .nilchk [x0] L fun v1 L1 =>
 wpOp F (.fad 1) [v1] L1 fun v2 L2 =>
 wpOp F (.ld none) [v2] L2 fun v3 L3 =>
 wpOp F (.lkup (.i .i64 0) false) [v3, x1] L3 fun v4 L4 =>
 wpOp F .nilchk [x0] L4 fun v5 L5 =>
 wpOp F (.fad 0) [v5] L5 fun v6 L6 =>
 wpOp F (.ld none) [v6] L6 fun v7 L7 =>
 wpOp F .lenSl [v7] L7 fun v8 L8 =>
 wpOp F (.bin .sub) [v8, (.i .i64 1)] L8 fun v9 L9 =>
 D_heap_Heap_Remove_5 F N Q x0 x1 x4 x6 v4 v9 L9
theorem e_heap_Heap_Remove_4 (F : TF) (N : TN) (Q : TQ) (l t : Env) (L : Lg) : wp F (q_heap_Heap_Remove_4 N) l t L (fin [.cell (.l 4) (some 3), .tmp (.l 5)] Q) nE (fin [.cell (.l 4) (some 3), .tmp (.l 5)] Q) = D_heap_Heap_Remove_4 F N Q (l 0) (l 1) (l 4) (l 6) L := wpS (e_heap_Heap_Remove_5 F N Q) (by kernel_rfl)
def q_heap_Heap_Remove_3a (N : TN) : ACode := (.seq (.reg [⟨.t 17, none, .mv, [.l 7]⟩, ⟨.t 18, none, .un .not, [.t 17]⟩]) (.cond (.t 18) (.seq (.reg [⟨.t 19, none, .build [.i .i64 0, .i .i64 0, .i .i64 0] [], []⟩, ⟨.no, none, .st 3, [.l 4, .t 19]⟩, ⟨.l 5, none, .mv, [.c (.b false)]⟩]) .ret) .skip))
def q_heap_Heap_Remove_3 (N : TN) : ACode := (.seq (q_heap_Heap_Remove_3a N) (q_heap_Heap_Remove_4 N))
noncomputable def D_heap_Heap_Remove_3 (F : TF) (N : TN) (Q : TQ) (x0 : AV) (x1 : AV) (x4 : AV) (x6 : AV) (x7 : AV) (L : Lg) : Prop :=
 wpOp F (.un .not) [x7] L fun v1 L1 =>
 condW v1
 (wpOp F (.build [.i .i64 0, .i .i64 0, .i .i64 0] []) [] L1 fun v2 L2 =>
 wpOp F (.st 3) [x4, v2] L2 fun _ L3 =>
 fin1 (resVL Env.nil Env.nil L3 [.cell (.c x4) (some 3), .tmp (.c (.b false))]) Q L3)
 (D_heap_Heap_Remove_4 F N Q x0 x1 x4 x6 L1)
theorem e_heap_Heap_Remove_3 (F : TF) (N : TN) (Q : TQ) (l t : Env) (L : Lg) : wp F (q_heap_Heap_Remove_3 N) l t L (fin [.cell (.l 4) (some 3), .tmp (.l 5)] Q) nE (fin [.cell (.l 4) (some 3), .tmp (.l 5)] Q) = D_heap_Heap_Remove_3 F N Q (l 0) (l 1) (l 4) (l 6) (l 7) L := wpS (e_heap_Heap_Remove_4 F N Q) (by kernel_rfl)
def q_heap_Heap_Remove_2a (N : TN) : ACode := (.reg [⟨.t 12, none, .mv, [.l 0]⟩, ⟨.t 13, none, .mv, [.l 1]⟩, ⟨.t 14, none, .call (N k_heap_Heap_Find), [.t 12, .t 13]⟩, ⟨.t 11, none, .mv, [.t 14]⟩, ⟨.t 15, none, .ext 0, [.t 11]⟩, ⟨.t 16, none, .ext 1, [.t 11]⟩, ⟨.l 6, none, .alloc [.i .i64 0, .i .i64 0, .i .i64 0], []⟩, ⟨.no, none, .st 3, [.l 6, .t 15]⟩, ⟨.l 7, none, .mv, [.t 16]⟩])
def q_heap_Heap_Remove_2 (N : TN) : ACode := (.seq (q_heap_Heap_Remove_2a N) (q_heap_Heap_Remove_3 N))
noncomputable def D_heap_Heap_Remove_2 (F : TF) (N : TN) (Q : TQ) (x0 : AV) (x1 : AV) (x4 : AV) (L : Lg) : Prop :=
 CallL F (N k_heap_Heap_Find) [x0, x1] L fun v1 L1 =>
 wpOp F (.ext 0) [v1] L1 fun v2 L2 =>
 wpOp F (.ext 1) [v1] L2 fun v3 L3 =>
 wpOp F (.alloc [.i .i64 0, .i .i64 0, .i .i64 0]) [] L3 fun v4 L4 =>
 wpOp F (.st 3) [v4, v2] L4 fun _ L5 =>
 D_heap_Heap_Remove_3 F N Q x0 x1 x4 v4 v3 L5
theorem e_heap_Heap_Remove_2 (F : TF) (N : TN) (Q : TQ) (l t : Env) (L : Lg) : wp F (q_heap_Heap_Remove_2 N) l t L (fin [.cell (.l 4) (some 3), .tmp (.l 5)] Q) nE (fin [.cell (.l 4) (some 3), .tmp (.l 5)] Q) = D_heap_Heap_Remove_2 F N Q (l 0) (l 1) (l 4) L := wpS (e_heap_Heap_Remove_3 F N Q) (by kernel_rfl)
def q_heap_Heap_Remove_1a (N : TN) : ACode := (.reg [⟨.l 4, none, .alloc [.i .i64 0, .i .i64 0, .i .i64 0], []⟩, ⟨.l 5, none, .mv, [.c (.b false)]⟩])
def q_heap_Heap_Remove_1 (N : TN) : ACode := (.seq (q_heap_Heap_Remove_1a N) (q_heap_Heap_Remove_2 N))
noncomputable def D_heap_Heap_Remove_1 (F : TF) (N : TN) (Q : TQ) (x0 : AV) (x1 : AV) (L : Lg) : Prop :=
 wpOp F (.alloc [.i .i64 0, .i .i64 0, .i .i64 0]) [] L fun v1 L1 =>
 D_heap_Heap_Remove_2 F N Q x0 x1 v1 L1
theorem e_heap_Heap_Remove_1 (F : TF) (N : TN) (Q : TQ) (l t : Env) (L : Lg) : wp F (q_heap_Heap_Remove_1 N) l t L (fin [.cell (.l 4) (some 3), .tmp (.l 5)] Q) nE (fin [.cell (.l 4) (some 3), .tmp (.l 5)] Q) = D_heap_Heap_Remove_1 F N Q (l 0) (l 1) L := wpS (e_heap_Heap_Remove_2 F N Q) (by kernel_rfl)
/-- (*tarpaulin/heap.Heap).Remove -/
def c_heap_Heap_Remove (N : TN) : AFn := ⟨q_heap_Heap_Remove_1 N, [.cell (.l 4) (some 3), .tmp (.l 5)]⟩
structure H_heap_Heap_Remove (N : TN) (F : TF) : Prop where
  code : F (N k_heap_Heap_Remove) = some (c_heap_Heap_Remove N)
  heap_Heap_Find : H_heap_Heap_Find N F
  heap_Heap_put : H_heap_Heap_put N F
  heap_Heap_up : H_heap_Heap_up N F
  heap_Heap_down : H_heap_Heap_down N F
theorem r_heap_Heap_Remove {F : TF} {N : TN} (h : F (N k_heap_Heap_Remove) = some (c_heap_Heap_Remove N)) {Q : TQ} {a0 a1 : AV} {L : Lg} (e : D_heap_Heap_Remove_1 F N Q a0 a1 L) : CallL F (N k_heap_Heap_Remove) [a0, a1] L Q :=
  CallL.of_wp h (Eq.mpr (Eq.trans (e_heap_Heap_Remove_1 F N Q (initE [a0, a1] 0) Env.nil L) (by kernel_rfl : _ = D_heap_Heap_Remove_1 F N Q a0 a1 L)) e)
def q_expire_Timers_Stop_1 (N : TN) : ACode := (.seq (.reg [⟨.l 4, none, .mv, [.c (.b false)]⟩]) (.seq (.seq (.reg [⟨.t 7, none, .mv, [.l 0]⟩, ⟨.t 8, none, .eq false .ptr, [.t 7, .c (.p none)]⟩]) (.cond (.t 8) (.seq (.reg [⟨.l 4, none, .mv, [.c (.b false)]⟩]) .ret) .skip)) (.seq (.reg [⟨.t 10, none, .mv, [.l 0]⟩, ⟨.t 11, none, .nilchk, [.t 10]⟩, ⟨.t 12, none, .fad 0, [.t 11]⟩, ⟨.t 13, none, .ld none, [.t 12]⟩, ⟨.t 14, none, .mv, [.l 1]⟩, ⟨.t 15, none, .call (N k_heap_Heap_Remove), [.t 13, .t 14]⟩, ⟨.t 9, none, .mv, [.t 15]⟩, ⟨.t 16, none, .ext 0, [.t 9]⟩, ⟨.t 17, none, .ext 1, [.t 9]⟩, ⟨.t 5, none, .alloc [.i .i64 0, .i .i64 0, .i .i64 0], []⟩, ⟨.no, none, .st 3, [.t 5, .t 16]⟩, ⟨.l 6, none, .mv, [.t 17]⟩]) (.seq (.reg [⟨.t 18, none, .mv, [.l 0]⟩, ⟨.t 19, none, .nilchk, [.t 18]⟩, ⟨.t 20, none, .fad 1, [.t 19]⟩, ⟨.t 21, none, .ld none, [.t 20]⟩, ⟨.t 22, none, .mv, [.l 1]⟩, ⟨.no, none, .mdel, [.t 21, .t 22]⟩]) (.seq (.reg [⟨.t 23, none, .mv, [.l 6]⟩, ⟨.l 4, none, .mv, [.t 23]⟩]) .ret)))))
noncomputable def D_expire_Timers_Stop_1 (F : TF) (N : TN) (Q : TQ) (x0 : AV) (x1 : AV) (L : Lg) : Prop :=
 wpOp F (.eq false .ptr) [x0, (.p none)] L fun v1 L1 =>
 condW v1
 (fin1 (some (.b false)) Q L1)
 (wpOp F .nilchk [x0] L1 fun v2 L2 =>
 wpOp F (.fad 0) [v2] L2 fun v3 L3 =>
 wpOp F (.ld none) [v3] L3 fun v4 L4 =>
 CallL F (N k_heap_Heap_Remove) [v4, x1] L4 fun v5 L5 =>
 wpOp F (.ext 0) [v5] L5 fun v6 L6 =>
 wpOp F (.ext 1) [v5] L6 fun v7 L7 =>
 wpOp F (.alloc [.i .i64 0, .i .i64 0, .i .i64 0]) [] L7 fun v8 L8 =>
 wpOp F (.st 3) [v8, v6] L8 fun _ L9 =>
 wpOp F .nilchk [x0] L9 fun v10 L10 =>
 wpOp F (.fad 1) [v10] L10 fun v11 L11 =>
 wpOp F (.ld none) [v11] L11 fun v12 L12 =>
 wpOp F .mdel [v12, x1] L12 fun _ L13 =>
 fin1 (some v7) Q L13)
theorem e_expire_Timers_Stop_1 (F : TF) (N : TN) (Q : TQ) (l t : Env) (L : Lg) : wp F (q_expire_Timers_Stop_1 N) l t L (fin [.tmp (.l 4)] Q) nE (fin [.tmp (.l 4)] Q) = D_expire_Timers_Stop_1 F N Q (l 0) (l 1) L := by kernel_rfl
/-- (*tarpaulin/expire.Timers).Stop -/
def c_expire_Timers_Stop (N : TN) : AFn := ⟨q_expire_Timers_Stop_1 N, [.tmp (.l 4)]⟩
structure H_expire_Timers_Stop (N : TN) (F : TF) : Prop where
  code : F (N k_expire_Timers_Stop) = some (c_expire_Timers_Stop N)
  heap_Heap_Remove : H_heap_Heap_Remove N F
theorem r_expire_Timers_Stop {F : TF} {N : TN} (h : F (N k_expire_Timers_Stop) = some (c_expire_Timers_Stop N)) {Q : TQ} {a0 a1 : AV} {L : Lg} (e : D_expire_Timers_Stop_1 F N Q a0 a1 L) : CallL F (N k_expire_Timers_Stop) [a0, a1] L Q :=
  CallL.of_wp h (Eq.mpr (Eq.trans (e_expire_Timers_Stop_1 F N Q (initE [a0, a1] 0) Env.nil L) (by kernel_rfl : _ = D_expire_Timers_Stop_1 F N Q a0 a1 L)) e)
def q_heap_Heap_Add_4 (N : TN) : ACode := (.seq (.reg [⟨.t 21, none, .mv, [.l 0]⟩, ⟨.t 22, none, .nilchk, [.t 21]⟩, ⟨.t 23, none, .fad 2, [.t 22]⟩, ⟨.t 24, none, .ld none, [.t 23]⟩, ⟨.t 25, none, .bin .add, [.t 24, .c (.i .i64 1)]⟩, ⟨.t 26, none, .nilchk, [.t 21]⟩, ⟨.t 27, none, .fad 2, [.t 26]⟩, ⟨.no, none, .st 1, [.t 27, .t 25]⟩]) (.seq (.reg [⟨.t 28, none, .mv, [.l 0]⟩, ⟨.t 29, none, .mv, [.l 0]⟩, ⟨.t 30, none, .nilchk, [.t 29]⟩, ⟨.t 31, none, .fad 0, [.t 30]⟩, ⟨.t 32, none, .ld none, [.t 31]⟩, ⟨.t 33, none, .mv, [.l 1]⟩, ⟨.t 34, none, .mv, [.l 2]⟩, ⟨.t 35, none, .mv, [.l 0]⟩, ⟨.t 36, none, .nilchk, [.t 35]⟩, ⟨.t 37, none, .fad 2, [.t 36]⟩, ⟨.t 38, none, .ld none, [.t 37]⟩, ⟨.t 39, none, .build [.i .i64 0, .i .i64 0, .i .i64 0] [(0, 1), (1, 1), (2, 1)], [.t 33, .t 34, .t 38]⟩, ⟨.t 40, none, .bslice [.i .i64 0, .i .i64 0, .i .i64 0] 1 3 [0], [.t 39]⟩, ⟨.t 41, none, .app 3 24, [.t 32, .t 40]⟩, ⟨.t 42, none, .nilchk, [.t 28]⟩, ⟨.t 43, none, .fad 0, [.t 42]⟩, ⟨.no, none, .st 1, [.t 43, .t 41]⟩]) (.seq (.reg [⟨.t 44, none, .mv, [.l 0]⟩, ⟨.t 45, none, .mv, [.l 0]⟩, ⟨.t 46, none, .nilchk, [.t 45]⟩, ⟨.t 47, none, .fad 0, [.t 46]⟩, ⟨.t 48, none, .ld none, [.t 47]⟩, ⟨.t 49, none, .lenSl, [.t 48]⟩, ⟨.t 50, none, .bin .sub, [.t 49, .c (.i .i64 1)]⟩, ⟨.t 51, none, .call (N k_heap_Heap_up), [.t 44, .t 50]⟩]) (.seq (.reg [⟨.l 6, none, .mv, [.c (.i .i64 0)]⟩]) .ret))))
noncomputable def D_heap_Heap_Add_4 (F : TF) (N : TN) (Q : TQ) (x0 : AV) (x1 : AV) (x2 : AV) (L : Lg) : Prop :=
 wpOp F .nilchk [x0] L fun v1 L1 =>
 wpOp F (.fad 2) [v1] L1 fun v2 L2 =>
 wpOp F (.ld none) [v2] L2 fun v3 L3 =>
 wpOp F (.bin .add) [v3, (.i .i64 1)] L3 fun v4 L4 =>
 wpOp F .nilchk [x0] L4 fun v5 L5 =>
 wpOp F (.fad 2) [v5] L5 fun v6 L6 =>
 wpOp F (.st 1) [v6, v4] L6 fun _ L7 =>
 wpOp F .nilchk [x0] L7 fun v8 L8 =>
 wpOp F (.fad 0) [v8] L8 fun v9 L9 =>
 wpOp F (.ld none) [v9] L9 fun v10 L10 =>
 wpOp F .nilchk [x0] L10 fun v11 L11 =>
 wpOp F (.fad 2) [v11] L11 fun v12 L12 =>
 wpOp F (.ld none) [v12] L12 fun v13 L13 =>
 wpOp F (.build [.i .i64 0, .i .i64 0, .i .i64 0] [(0, 1), (1, 1), (2, 1)]) [x1, x2, v13] L13 fun v14 L14 =>
 wpOp F (.bslice [.i .i64 0, .i .i64 0, .i .i64 0] 1 3 [0]) [v14] L14 fun v15 L15 =>
 wpOp F (.app 3 24) [v10, v15] L15 fun v16 L16 =>
 wpOp F .nilchk [x0] L16 fun v17 L17 =>
 wpOp F (.fad 0) [v17] L17 fun v18 L18 =>
 wpOp F (.st 1) [v18, v16] L18 fun _ L19 =>
 wpOp F .nilchk [x0] L19 fun v20 L20 =>
 wpOp F (.fad 0) [v20] L20 fun v21 L21 =>
 wpOp F (.ld none) [v21] L21 fun v22 L22 =>
 wpOp F .lenSl [v22] L22 fun v23 L23 =>
 wpOp F (.bin .sub) [v23, (.i .i64 1)] L23 fun v24 L24 =>
 CallL F (N k_heap_Heap_up) [x0, v24] L24 fun v25 L25 =>
 fin1 (some (.i .i64 0)) Q L25
theorem e_heap_Heap_Add_4 (F : TF) (N : TN) (Q : TQ) (l t : Env) (L : Lg) : wp F (q_heap_Heap_Add_4 N) l t L (fin [.tmp (.l 6)] Q) nE (fin [.tmp (.l 6)] Q) = D_heap_Heap_Add_4 F N Q (l 0) (l 1) (l 2) L := by kernel_rfl
def q_heap_Heap_Add_3a (N : TN) : ACode := (.seq (.reg [⟨.t 12, none, .mv, [.l 0]⟩, ⟨.t 13, none, .nilchk, [.t 12]⟩, ⟨.t 14, none, .fad 1, [.t 13]⟩, ⟨.t 15, none, .ld none, [.t 14]⟩, ⟨.t 16, none, .mv, [.l 1]⟩, ⟨.t 17, none, .lkup (.i .i64 0) true, [.t 15, .t 16]⟩, ⟨.t 11, none, .mv, [.t 17]⟩, ⟨.t 18, none, .ext 0, [.t 11]⟩, ⟨.t 19, none, .ext 1, [.t 11]⟩, ⟨.t 7, none, .mv, [.t 18]⟩, ⟨.l 8, none, .mv, [.t 19]⟩]) (.seq (.reg [⟨.t 20, none, .mv, [.l 8]⟩]) (.cond (.t 20) (.seq (.reg [⟨.l 6, none, .mv, [.c (.i .i64 1)]⟩]) .ret) .skip)))
def q_heap_Heap_Add_3 (N : TN) : ACode := (.seq (q_heap_Heap_Add_3a N) (q_heap_Heap_Add_4 N))
noncomputable def D_heap_Heap_Add_3 (F : TF) (N : TN) (Q : TQ) (x0 : AV) (x1 : AV) (x2 : AV) (L : Lg) : Prop :=
 wpOp F .nilchk [x0] L fun v1 L1 =>
 wpOp F (.fad 1) [v1] L1 fun v2 L2 =>
 wpOp F (.ld none) [v2] L2 fun v3 L3 =>
 wpOp F (.lkup (.i .i64 0) true) [v3, x1] L3 fun v4 L4 =>
 wpOp F (.ext 0) [v4] L4 fun v5 L5 =>
 wpOp F (.ext 1) [v4] L5 fun v6 L6 =>
 condW v6
 (fin1 (some (.i .i64 1)) Q L6)
 (D_heap_Heap_Add_4 F N Q x0 x1 x2 L6)
theorem e_heap_Heap_Add_3 (F : TF) (N : TN) (Q : TQ) (l t : Env) (L : Lg) : wp F (q_heap_Heap_Add_3 N) l t L (fin [.tmp (.l 6)] Q) nE (fin [.tmp (.l 6)] Q) = D_heap_Heap_Add_3 F N Q (l 0) (l 1) (l 2) L := wpS (e_heap_Heap_Add_4 F N Q) (by kernel_rfl)
def q_heap_Heap_Add_2a (N : TN) : ACode := (.seq (.reg [⟨.t 9, none, .mv, [.l 0]⟩, ⟨.t 10, none, .eq false .ptr, [.t 9, .c (.p none)]⟩]) (.cond (.t 10) (.seq (.reg [⟨.l 6, none, .mv, [.c (.i .i64 1)]⟩]) .ret) .skip))
def q_heap_Heap_Add_2 (N : TN) : ACode := (.seq (q_heap_Heap_Add_2a N) (q_heap_Heap_Add_3 N))
noncomputable def D_heap_Heap_Add_2 (F : TF) (N : TN) (Q : TQ) (x0 : AV) (x1 : AV) (x2 : AV) (L : Lg) : Prop :=
 wpOp F (.eq false .ptr) [x0, (.p none)] L fun v1 L1 =>
 condW v1
 (fin1 (some (.i .i64 1)) Q L1)
 (D_heap_Heap_Add_3 F N Q x0 x1 x2 L1)
theorem e_heap_Heap_Add_2 (F : TF) (N : TN) (Q : TQ) (l t : Env) (L : Lg) : wp F (q_heap_Heap_Add_2 N) l t L (fin [.tmp (.l 6)] Q) nE (fin [.tmp (.l 6)] Q) = D_heap_Heap_Add_2 F N Q (l 0) (l 1) (l 2) L := wpS (e_heap_Heap_Add_3 F N Q) (by kernel_rfl)
def q_heap_Heap_Add_1a (N : TN) : ACode := (.reg [⟨.l 6, none, .mv, [.c (.i .i64 0)]⟩])
def q_heap_Heap_Add_1 (N : TN) : ACode := (.seq (q_heap_Heap_Add_1a N) (q_heap_Heap_Add_2 N))
noncomputable def D_heap_Heap_Add_1 (F : TF) (N : TN) (Q : TQ) (x0 : AV) (x1 : AV) (x2 : AV) (L : Lg) : Prop :=
 D_heap_Heap_Add_2 F N Q x0 x1 x2 L
theorem e_heap_Heap_Add_1 (F : TF) (N : TN) (Q : TQ) (l t : Env) (L : Lg) : wp F (q_heap_Heap_Add_1 N) l t L (fin [.tmp (.l 6)] Q) nE (fin [.tmp (.l 6)] Q) = D_heap_Heap_Add_1 F N Q (l 0) (l 1) (l 2) L := wpS (e_heap_Heap_Add_2 F N Q) (by kernel_rfl)
/-- (*tarpaulin/heap.Heap).Add -/
def c_heap_Heap_Add (N : TN) : AFn := ⟨q_heap_Heap_Add_1 N, [.tmp (.l 6)]⟩
structure H_heap_Heap_Add (N : TN) (F : TF) : Prop where
  code : F (N k_heap_Heap_Add) = some (c_heap_Heap_Add N)
  heap_Heap_up : H_heap_Heap_up N F
theorem r_heap_Heap_Add {F : TF} {N : TN} (h : F (N k_heap_Heap_Add) = some (c_heap_Heap_Add N)) {Q : TQ} {a0 a1 a2 : AV} {L : Lg} (e : D_heap_Heap_Add_1 F N Q a0 a1 a2 L) : CallL F (N k_heap_Heap_Add) [a0, a1, a2] L Q :=
  CallL.of_wp h (Eq.mpr (Eq.trans (e_heap_Heap_Add_1 F N Q (initE [a0, a1, a2] 0) Env.nil L) (by kernel_rfl : _ = D_heap_Heap_Add_1 F N Q a0 a1 a2 L)) e)
def q_expire_Timers_Arm_1 (N : TN) : ACode := (.seq (.reg [⟨.l 8, none, .mv, [.c (.i .i64 0)]⟩]) (.seq (.seq (.reg [⟨.t 9, none, .mv, [.l 0]⟩, ⟨.t 10, none, .eq false .ptr, [.t 9, .c (.p none)]⟩, ⟨.t 11, none, .mv, [.t 10]⟩, ⟨.t 12, some (.t 11, false), .mv, [.l 2]⟩, ⟨.t 13, some (.t 11, false), .mv, [.l 3]⟩, ⟨.t 14, some (.t 11, false), .min, [.t 12, .t 13]⟩, ⟨.t 15, some (.t 11, false), .bin .lss, [.t 14, .c (.i .i64 0)]⟩, ⟨.t 16, none, .pick, [.t 11, .c (.b true), .t 15]⟩, ⟨.t 17, none, .mv, [.t 16]⟩, ⟨.t 18, some (.t 17, false), .mv, [.l 2]⟩, ⟨.t 19, some (.t 17, false), .mv, [.l 3]⟩, ⟨.t 20, some (.t 17, false), .max, [.t 18, .t 19]⟩, ⟨.t 21, some (.t 17, false), .bin .gtr, [.t 20, .c (.i .i64 4611686018427387904)]⟩, ⟨.t 22, none, .pick, [.t 17, .c (.b true), .t 21]⟩]) (.cond (.t 22) (.seq (.reg [⟨.l 8, none, .mv, [.c (.i .i64 1)]⟩]) .ret) .skip)) (.seq (.reg [⟨.t 23, none, .mv, [.l 0]⟩, ⟨.t 24, none, .mv, [.l 1]⟩, ⟨.t 25, none, .call (N k_expire_Timers_Stop), [.t 23, .t 24]⟩]) (.seq (.reg [⟨.t 26, none, .mv, [.l 0]⟩, ⟨.t 27, none, .nilchk, [.t 26]⟩, ⟨.t 28, none, .fad 1, [.t 27]⟩, ⟨.t 29, none, .ld none, [.t 28]⟩, ⟨.t 30, none, .mv, [.l 1]⟩, ⟨.t 31, none, .mv, [.l 3]⟩, ⟨.no, none, .mset, [.t 29, .t 30, .t 31]⟩]) (.seq (.reg [⟨.t 32, none, .mv, [.l 0]⟩, ⟨.t 33, none, .nilchk, [.t 32]⟩, ⟨.t 34, none, .fad 0, [.t 33]⟩, ⟨.t 35, none, .ld none, [.t 34]⟩, ⟨.t 36, none, .mv, [.l 1]⟩, ⟨.t 37, none, .mv, [.l 2]⟩, ⟨.t 38, none, .call (N k_heap_Heap_Add), [.t 35, .t 36, .t 37]⟩, ⟨.l 8, none, .mv, [.t 38]⟩]) .ret)))))
noncomputable def D_expire_Timers_Arm_1 (F : TF) (N : TN) (Q : TQ) (x0 : AV) (x1 : AV) (x2 : AV) (x3 : AV) (L : Lg) : Prop :=
 wpOp F (.eq false .ptr) [x0, (.p none)] L fun v1 L1 =>
 gdOp F v1 false .mv [x2] L1 fun v2 L2 =>
 gdOp F v1 false .mv [x3] L2 fun v3 L3 =>
 gdOp F v1 false .min [v2, v3] L3 fun v4 L4 =>
 gdOp F v1 false (.bin .lss) [v4, (.i .i64 0)] L4 fun v5 L5 =>
 wpOp F .pick [v1, (.b true), v5] L5 fun v6 L6 =>
 gdOp F v6 false .mv [x2] L6 fun v7 L7 =>
 gdOp F v6 false .mv [x3] L7 fun v8 L8 =>
 gdOp F v6 false .max [v7, v8] L8 fun v9 L9 =>
 gdOp F v6 false (.bin .gtr) [v9, (.i .i64 4611686018427387904)] L9 fun v10 L10 =>
 wpOp F .pick [v6, (.b true), v10] L10 fun v11 L11 =>
 condW v11
 (fin1 (some (.i .i64 1)) Q L11)
 (CallL F (N k_expire_Timers_Stop) [x0, x1] L11 fun v12 L12 =>
 wpOp F .nilchk [x0] L12 fun v13 L13 =>
 wpOp F (.fad 1) [v13] L13 fun v14 L14 =>
 wpOp F (.ld none) [v14] L14 fun v15 L15 =>
 wpOp F .mset [v15, x1, x3] L15 fun _ L16 =>
 wpOp F .nilchk [x0] L16 fun v17 L17 =>
 wpOp F (.fad 0) [v17] L17 fun v18 L18 =>
 wpOp F (.ld none) [v18] L18 fun v19 L19 =>
 CallL F (N k_heap_Heap_Add) [v19, x1, x2] L19 fun v20 L20 =>
 fin1 (some v20) Q L20)
theorem e_expire_Timers_Arm_1 (F : TF) (N : TN) (Q : TQ) (l t : Env) (L : Lg) : wp F (q_expire_Timers_Arm_1 N) l t L (fin [.tmp (.l 8)] Q) nE (fin [.tmp (.l 8)] Q) = D_expire_Timers_Arm_1 F N Q (l 0) (l 1) (l 2) (l 3) L := by kernel_rfl
/-- (*tarpaulin/expire.Timers).Arm -/
def c_expire_Timers_Arm (N : TN) : AFn := ⟨q_expire_Timers_Arm_1 N, [.tmp (.l 8)]⟩
structure H_expire_Timers_Arm (N : TN) (F : TF) : Prop where
  code : F (N k_expire_Timers_Arm) = some (c_expire_Timers_Arm N)
  expire_Timers_Stop : H_expire_Timers_Stop N F
  heap_Heap_Add : H_heap_Heap_Add N F
theorem r_expire_Timers_Arm {F : TF} {N : TN} (h : F (N k_expire_Timers_Arm) = some (c_expire_Timers_Arm N)) {Q : TQ} {a0 a1 a2 a3 : AV} {L : Lg} (e : D_expire_Timers_Arm_1 F N Q a0 a1 a2 a3 L) : CallL F (N k_expire_Timers_Arm) [a0, a1, a2, a3] L Q :=
  CallL.of_wp h (Eq.mpr (Eq.trans (e_expire_Timers_Arm_1 F N Q (initE [a0, a1, a2, a3] 0) Env.nil L) (by kernel_rfl : _ = D_expire_Timers_Arm_1 F N Q a0 a1 a2 a3 L)) e)
def q_timer_Set_arm_3 (N : TN) : ACode := (.seq (.regD [⟨.t 20, none, .mv, [.l 0]⟩, ⟨.t 21, none, .nilchk, [.t 20]⟩, ⟨.t 22, none, .fad 1, [.t 21]⟩, ⟨.t 23, none, .ld none, [.t 22]⟩, ⟨.t 24, none, .mv, [.l 1]⟩, ⟨.t 25, none, .mv, [.l 2]⟩, ⟨.t 26, none, .mv, [.l 3]⟩, ⟨.t 27, none, .max, [.t 26, .c (.i .i64 0)]⟩, ⟨.t 28, none, .call (N k_clock_Add), [.t 25, .t 27]⟩, ⟨.t 29, none, .mv, [.l 8]⟩, ⟨.t 30, none, .call (N k_expire_Timers_Arm), [.t 23, .t 24, .t 28, .t 29]⟩] [(3, 9)]) (.reg [⟨.t 31, none, .mv, [.l 0]⟩, ⟨.t 32, none, .nilchk, [.t 31]⟩, ⟨.t 33, none, .fad 0, [.t 32]⟩, ⟨.t 34, none, .ld none, [.t 33]⟩, ⟨.t 35, none, .mv, [.l 1]⟩, ⟨.t 36, none, .iad 4, [.t 34, .t 35]⟩, ⟨.t 37, none, .fad 3, [.t 36]⟩, ⟨.t 38, none, .ld none, [.t 37]⟩, ⟨.t 39, none, .bin .add, [.t 38, .c (.i .i64 1)]⟩, ⟨.t 40, none, .iad 4, [.t 34, .t 35]⟩, ⟨.t 41, none, .fad 3, [.t 40]⟩, ⟨.no, none, .st 1, [.t 41, .t 39]⟩]))
noncomputable def D_timer_Set_arm_3 (F : TF) (N : TN) (Q : TQ) (x0 : AV) (x1 : AV) (x2 : AV) (x3 : AV) (x8 : AV) (L : Lg) : Prop :=
 wpOp F .nilchk [x0] L fun v1 L1 =>
 wpOp F (.fad 1) [v1] L1 fun v2 L2 =>
 wpOp F (.ld none) [v2] L2 fun v3 L3 =>
 wpOp F .max [x3, (.i .i64 0)] L3 fun v4 L4 =>
 CallL F (N k_clock_Add) [x2, v4] L4 fun v5 L5 =>
 CallL F (N k_expire_Timers_Arm) [v3, x1, v5, x8] L5 fun v6 L6 =>
 (againV (.ld none) [v2] L2 L5 ∧ True) ∧ (wpOp F .nilchk [x0] L6 fun v7 L7 =>
 wpOp F (.fad 0) [v7] L7 fun v8 L8 =>
 wpOp F (.ld none) [v8] L8 fun v9 L9 =>
 wpOp F (.iad 4) [v9, x1] L9 fun v10 L10 =>
 wpOp F (.fad 3) [v10] L10 fun v11 L11 =>
 wpOp F (.ld none) [v11] L11 fun v12 L12 =>
 wpOp F (.bin .add) [v12, (.i .i64 1)] L12 fun v13 L13 =>
 wpOp F (.iad 4) [v9, x1] L13 fun v14 L14 =>
 wpOp F (.fad 3) [v14] L14 fun v15 L15 =>
 wpOp F (.st 1) [v15, v13] L15 fun _ L16 =>
 fin1 (some (.tup [])) Q L16)
theorem e_timer_Set_arm_3 (F : TF) (N : TN) (Q : TQ) (l t : Env) (L : Lg) : wp F (q_timer_Set_arm_3 N) l t L (fin [] Q) nE (fin [] Q) = D_timer_Set_arm_3 F N Q (l 0) (l 1) (l 2) (l 3) (l 8) L := by kernel_rfl
def q_timer_Set_arm_2a (N : TN) : ACode := (.seq (.reg [⟨.t 9, none, .mv, [.l 0]⟩, ⟨.t 10, none, .nilchk, [.t 9]⟩, ⟨.t 11, none, .fad 0, [.t 10]⟩, ⟨.t 12, none, .ld none, [.t 11]⟩, ⟨.t 13, none, .mv, [.l 1]⟩, ⟨.t 14, none, .iad 4, [.t 12, .t 13]⟩, ⟨.t 15, none, .fad 0, [.t 14]⟩, ⟨.t 16, none, .ld none, [.t 15]⟩, ⟨.t 17, none, .bin .eql, [.t 16, .c (.i .i64 2)]⟩]) (.cond (.t 17) (.reg [⟨.t 18, none, .mv, [.l 3]⟩, ⟨.t 19, none, .min, [.t 18, .c (.i .i64 4611686018427387904)]⟩, ⟨.l 8, none, .mv, [.t 19]⟩]) .skip))
def q_timer_Set_arm_2 (N : TN) : ACode := (.seq (q_timer_Set_arm_2a N) (q_timer_Set_arm_3 N))
noncomputable def D_timer_Set_arm_2 (F : TF) (N : TN) (Q : TQ) (x0 : AV) (x1 : AV) (x2 : AV) (x3 : AV) (x8 : AV) (L : Lg) : Prop :=
 wpOp F .nilchk [x0] L fun v1 L1 =>
 wpOp F (.fad 0) [v1] L1 fun v2 L2 =>
 wpOp F (.ld none) [v2] L2 fun v3 L3 =>
 wpOp F (.iad 4) [v3, x1] L3 fun v4 L4 =>
 wpOp F (.fad 0) [v4] L4 fun v5 L5 =>
 wpOp F (.ld none) [v5] L5 fun v6 L6 =>
 wpOp F (.bin .eql) [v6, (.i .i64 2)] L6 fun v7 L7 =>
 condW v7
 (wpOp F .min [x3, (.i .i64 4611686018427387904)] L7 fun v8 L8 =>
 D_timer_Set_arm_3 F N Q x0 x1 x2 x3 v8 L8)
 (D_timer_Set_arm_3 F N Q x0 x1 x2 x3 x8 L7)
theorem e_timer_Set_arm_2 (F : TF) (N : TN) (Q : TQ) (l t : Env) (L : Lg) : wp F (q_timer_Set_arm_2 N) l t L (fin [] Q) nE (fin [] Q) = D_timer_Set_arm_2 F N Q (l 0) (l 1) (l 2) (l 3) (l 8) L := wpS (e_timer_Set_arm_3 F N Q) (by kernel_rfl)
def q_timer_Set_arm_1a (N : TN) : ACode := (.reg [⟨.l 8, none, .mv, [.c (.i .i64 0)]⟩])
def q_timer_Set_arm_1 (N : TN) : ACode := (.seq (q_timer_Set_arm_1a N) (q_timer_Set_arm_2 N))
noncomputable def D_timer_Set_arm_1 (F : TF) (N : TN) (Q : TQ) (x0 : AV) (x1 : AV) (x2 : AV) (x3 : AV) (L : Lg) : Prop :=
 D_timer_Set_arm_2 F N Q x0 x1 x2 x3 (.i .i64 0) L
theorem e_timer_Set_arm_1 (F : TF) (N : TN) (Q : TQ) (l t : Env) (L : Lg) : wp F (q_timer_Set_arm_1 N) l t L (fin [] Q) nE (fin [] Q) = D_timer_Set_arm_1 F N Q (l 0) (l 1) (l 2) (l 3) L := wpS (e_timer_Set_arm_2 F N Q) (by kernel_rfl)
/-- (*tarpaulin/timer.Set).arm -/
def c_timer_Set_arm (N : TN) : AFn := ⟨q_timer_Set_arm_1 N, []⟩
structure H_timer_Set_arm (N : TN) (F : TF) : Prop where
  code : F (N k_timer_Set_arm) = some (c_timer_Set_arm N)
  clock_Add : H_clock_Add N F
  expire_Timers_Arm : H_expire_Timers_Arm N F
theorem r_timer_Set_arm {F : TF} {N : TN} (h : F (N k_timer_Set_arm) = some (c_timer_Set_arm N)) {Q : TQ} {a0 a1 a2 a3 : AV} {L : Lg} (e : D_timer_Set_arm_1 F N Q a0 a1 a2 a3 L) : CallL F (N k_timer_Set_arm) [a0, a1, a2, a3] L Q :=
  CallL.of_wp h (Eq.mpr (Eq.trans (e_timer_Set_arm_1 F N Q (initE [a0, a1, a2, a3] 0) Env.nil L) (by kernel_rfl : _ = D_timer_Set_arm_1 F N Q a0 a1 a2 a3 L)) e)
def q_timer_Set_make_4 (N : TN) : ACode := (.seq (.reg [⟨.t 50, none, .mv, [.l 0]⟩, ⟨.t 51, none, .mv, [.l 0]⟩, ⟨.t 52, none, .nilchk, [.t 51]⟩, ⟨.t 53, none, .fad 0, [.t 52]⟩, ⟨.t 54, none, .ld none, [.t 53]⟩, ⟨.t 55, none, .ld (some 4), [.l 5]⟩, ⟨.t 56, none, .bslice [.i .i64 0, .i .i64 0, .p none, .i .i64 0] 1 4 [0], [.t 55]⟩, ⟨.t 57, none, .app 4 32, [.t 54, .t 56]⟩, ⟨.t 58, none, .nilchk, [.t 50]⟩, ⟨.t 59, none, .fad 0, [.t 58]⟩, ⟨.no, none, .st 1, [.t 59, .t 57]⟩]) (.seq (.reg [⟨.t 60, none, .mv, [.l 0]⟩, ⟨.t 61, none, .mv, [.l 0]⟩, ⟨.t 62, none, .nilchk, [.t 61]⟩, ⟨.t 63, none, .fad 0, [.t 62]⟩, ⟨.t 64, none, .ld none, [.t 63]⟩, ⟨.t 65, none, .lenSl, [.t 64]⟩, ⟨.t 66, none, .bin .sub, [.t 65, .c (.i .i64 1)]⟩, ⟨.t 67, none, .mv, [.l 2]⟩, ⟨.t 68, none, .mv, [.l 3]⟩, ⟨.t 69, none, .call (N k_timer_Set_arm), [.t 60, .t 66, .t 67, .t 68]⟩]) (.seq (.reg [⟨.t 70, none, .mv, [.l 0]⟩, ⟨.t 71, none, .nilchk, [.t 70]⟩, ⟨.t 72, none, .fad 0, [.t 71]⟩, ⟨.t 73, none, .ld none, [.t 72]⟩, ⟨.t 74, none, .lenSl, [.t 73]⟩, ⟨.t 75, none, .bin .sub, [.t 74, .c (.i .i64 1)]⟩, ⟨.l 8, none, .mv, [.t 75]⟩, ⟨.l 9, none, .mv, [.c (.i .i64 0)]⟩]) .ret)))
noncomputable def D_timer_Set_make_4 (F : TF) (N : TN) (Q : TQ) (x0 : AV) (x2 : AV) (x3 : AV) (x5 : AV) (L : Lg) : Prop :=
 wpOp F .nilchk [x0] L fun v1 L1 =>
 wpOp F (.fad 0) [v1] L1 fun v2 L2 =>
 wpOp F (.ld none) [v2] L2 fun v3 L3 =>
 wpOp F (.ld (some 4)) [x5] L3 fun v4 L4 =>
 wpOp F (.bslice [.i .i64 0, .i .i64 0, .p none, .i .i64 0] 1 4 [0]) [v4] L4 fun v5 L5 =>
 wpOp F (.app 4 32) [v3, v5] L5 fun v6 L6 =>
 wpOp F .nilchk [x0] L6 fun v7 L7 =>
 wpOp F (.fad 0) [v7] L7 fun v8 L8 =>
 wpOp F (.st 1) [v8, v6] L8 fun _ L9 =>
 wpOp F .nilchk [x0] L9 fun v10 L10 =>
 wpOp F (.fad 0) [v10] L10 fun v11 L11 =>
 wpOp F (.ld none) [v11] L11 fun v12 L12 =>
 wpOp F .lenSl [v12] L12 fun v13 L13 =>
 wpOp F (.bin .sub) [v13, (.i .i64 1)] L13 fun v14 L14 =>
 CallL F (N k_timer_Set_arm) [x0, v14, x2, x3] L14 fun v15 L15 =>
 wpOp F .nilchk [x0] L15 fun v16 L16 =>
 wpOp F (.fad 0) [v16] L16 fun v17 L17 =>
 wpOp F (.ld none) [v17] L17 fun v18 L18 =>
 wpOp F .lenSl [v18] L18 fun v19 L19 =>
 wpOp F (.bin .sub) [v19, (.i .i64 1)] L19 fun v20 L20 =>
 fin1 (some (.tup [v20, (.i .i64 0)])) Q L20
theorem e_timer_Set_make_4 (F : TF) (N : TN) (Q : TQ) (l t : Env) (L : Lg) : wp F (q_timer_Set_make_4 N) l t L (fin [.tmp (.l 8), .tmp (.l 9)] Q) nE (fin [.tmp (.l 8), .tmp (.l 9)] Q) = D_timer_Set_make_4 F N Q (l 0) (l 2) (l 3) (l 5) L := by kernel_rfl
def q_timer_Set_make_3a (N : TN) : ACode := (.seq (.reg [⟨.t 40, none, .fad 0, [.l 5]⟩, ⟨.t 41, none, .ld none, [.t 40]⟩, ⟨.t 42, none, .bin .neq, [.t 41, .c (.i .i64 4)]⟩]) (.cond (.t 42) (.reg [⟨.t 43, none, .mv, [.l 0]⟩, ⟨.t 44, none, .nilchk, [.t 43]⟩, ⟨.t 45, none, .fad 2, [.t 44]⟩, ⟨.t 46, none, .ld none, [.t 45]⟩, ⟨.t 47, none, .bin .add, [.t 46, .c (.i .i64 1)]⟩, ⟨.t 48, none, .nilchk, [.t 43]⟩, ⟨.t 49, none, .fad 2, [.t 48]⟩, ⟨.no, none, .st 1, [.t 49, .t 47]⟩]) .skip))
def q_timer_Set_make_3 (N : TN) : ACode := (.seq (q_timer_Set_make_3a N) (q_timer_Set_make_4 N))
noncomputable def D_timer_Set_make_3 (F : TF) (N : TN) (Q : TQ) (x0 : AV) (x2 : AV) (x3 : AV) (x5 : AV) (L : Lg) : Prop :=
 wpOp F (.fad 0) [x5] L fun v1 L1 =>
 wpOp F (.ld none) [v1] L1 fun v2 L2 =>
 wpOp F (.bin .neq) [v2, (.i .i64 4)] L2 fun v3 L3 =>
 condW v3
 (wpOp F .nilchk [x0] L3 fun v4 L4 =>
 wpOp F (.fad 2) [v4] L4 fun v5 L5 =>
 wpOp F (.ld none) [v5] L5 fun v6 L6 =>
 wpOp F (.bin .add) [v6, (.i .i64 1)] L6 fun v7 L7 =>
 wpOp F .nilchk [x0] L7 fun v8 L8 =>
 wpOp F (.fad 2) [v8] L8 fun v9 L9 =>
 wpOp F (.st 1) [v9, v7] L9 fun _ L10 =>
 D_timer_Set_make_4 F N Q x0 x2 x3 x5 L10)
 (D_timer_Set_make_4 F N Q x0 x2 x3 x5 L3)
theorem e_timer_Set_make_3 (F : TF) (N : TN) (Q : TQ) (l t : Env) (L : Lg) : wp F (q_timer_Set_make_3 N) l t L (fin [.tmp (.l 8), .tmp (.l 9)] Q) nE (fin [.tmp (.l 8), .tmp (.l 9)] Q) = D_timer_Set_make_3 F N Q (l 0) (l 2) (l 3) (l 5) L := wpS (e_timer_Set_make_4 F N Q) (by kernel_rfl)
def q_timer_Set_make_2a (N : TN) : ACode := (.block 0 (.seq (.reg [⟨.t 11, none, .mv, [.l 2]⟩, ⟨.t 12, none, .call (N k_timer_bad), [.t 11]⟩, ⟨.t 13, none, .mv, [.t 12]⟩, ⟨.t 14, some (.t 13, false), .fad 1, [.l 5]⟩, ⟨.t 15, some (.t 13, false), .ld none, [.t 14]⟩, ⟨.t 16, some (.t 13, false), .bin .lss, [.t 15, .c (.i .i64 0)]⟩, ⟨.t 17, none, .pick, [.t 13, .c (.b true), .t 16]⟩, ⟨.t 18, none, .mv, [.t 17]⟩, ⟨.t 19, some (.t 18, false), .fad 0, [.l 5]⟩, ⟨.t 20, some (.t 18, false), .ld none, [.t 19]⟩, ⟨.t 21, some (.t 18, false), .bin .eql, [.t 20, .c (.i .i64 2)]⟩, ⟨.t 22, some (.t 18, false), .mv, [.t 21]⟩, ⟨.t 23, some (.t 22, true), .mv, [.l 3]⟩, ⟨.t 24, some (.t 22, true), .bin .lss, [.t 23, .c (.i .i64 1)]⟩, ⟨.t 25, some (.t 18, false), .pick, [.t 22, .t 24, .c (.b false)]⟩, ⟨.t 26, none, .pick, [.t 18, .c (.b true), .t 25]⟩, ⟨.t 10, none, .mv, [.t 26]⟩]) (.cond (.t 10) (.seq (.reg [⟨.l 8, none, .mv, [.c (.i .i64 0)]⟩, ⟨.l 9, none, .mv, [.c (.i .i64 1)]⟩]) .ret) (.seq (.seq (.reg [⟨.t 28, none, .mv, [.l 0]⟩, ⟨.t 29, none, .eq false .ptr, [.t 28, .c (.p none)]⟩, ⟨.t 27, none, .mv, [.t 29]⟩]) (.cond (.t 27) .skip (.reg [⟨.t 30, none, .fad 0, [.l 5]⟩, ⟨.t 31, none, .ld none, [.t 30]⟩, ⟨.t 32, none, .bin .neq, [.t 31, .c (.i .i64 4)]⟩, ⟨.t 33, none, .mv, [.t 32]⟩, ⟨.t 34, some (.t 33, true), .mv, [.l 0]⟩, ⟨.t 35, some (.t 33, true), .nilchk, [.t 34]⟩, ⟨.t 36, some (.t 33, true), .fad 2, [.t 35]⟩, ⟨.t 37, some (.t 33, true), .ld none, [.t 36]⟩, ⟨.t 38, some (.t 33, true), .bin .geq, [.t 37, .c (.i .i64 64)]⟩, ⟨.t 39, none, .pick, [.t 33, .t 38, .c (.b false)]⟩, ⟨.t 27, none, .mv, [.t 39]⟩]))) (.cond (.t 27) (.seq (.reg [⟨.l 8, none, .mv, [.c (.i .i64 0)]⟩, ⟨.l 9, none, .mv, [.c (.i .i64 3)]⟩]) .ret) .skip)))))
def q_timer_Set_make_2 (N : TN) : ACode := (.seq (q_timer_Set_make_2a N) (q_timer_Set_make_3 N))
noncomputable def D_timer_Set_make_2 (F : TF) (N : TN) (Q : TQ) (x0 : AV) (x2 : AV) (x3 : AV) (x5 : AV) (L : Lg) : Prop :=
 CallL F (N k_timer_bad) [x2] L fun v1 L1 =>
 gdOp F v1 false (.fad 1) [x5] L1 fun v2 L2 =>
 gdOp F v1 false (.ld none) [v2] L2 fun v3 L3 =>
 gdOp F v1 false (.bin .lss) [v3, (.i .i64 0)] L3 fun v4 L4 =>
 wpOp F .pick [v1, (.b true), v4] L4 fun v5 L5 =>
 gdOp F v5 false (.fad 0) [x5] L5 fun v6 L6 =>
 gdOp F v5 false (.ld none) [v6] L6 fun v7 L7 =>
 gdOp F v5 false (.bin .eql) [v7, (.i .i64 2)] L7 fun v8 L8 =>
 gdOp F v5 false .mv [v8] L8 fun v9 L9 =>
 gdOp F v9 true .mv [x3] L9 fun v10 L10 =>
 gdOp F v9 true (.bin .lss) [v10, (.i .i64 1)] L10 fun v11 L11 =>
 gdOp F v5 false .pick [v9, v11, (.b false)] L11 fun v12 L12 =>
 wpOp F .pick [v5, (.b true), v12] L12 fun v13 L13 =>
 condW v13
 (fin1 (some (.tup [(.i .i64 0), (.i .i64 1)])) Q L13)
 (wpOp F (.eq false .ptr) [x0, (.p none)] L13 fun v14 L14 =>
 condW v14
 (condW v14
 (fin1 (some (.tup [(.i .i64 0), (.i .i64 3)])) Q L14)
 (D_timer_Set_make_3 F N Q x0 x2 x3 x5 L14))
 (wpOp F (.fad 0) [x5] L14 fun v15 L15 =>
 wpOp F (.ld none) [v15] L15 fun v16 L16 =>
 wpOp F (.bin .neq) [v16, (.i .i64 4)] L16 fun v17 L17 =>
 gdOp F v17 true .mv [x0] L17 fun v18 L18 =>
 gdOp F v17 true .nilchk [v18] L18 fun v19 L19 =>
 gdOp F v17 true (.fad 2) [v19] L19 fun v20 L20 =>
 gdOp F v17 true (.ld none) [v20] L20 fun v21 L21 =>
 gdOp F v17 true (.bin .geq) [v21, (.i .i64 64)] L21 fun v22 L22 =>
 wpOp F .pick [v17, v22, (.b false)] L22 fun v23 L23 =>
 condW v23
 (fin1 (some (.tup [(.i .i64 0), (.i .i64 3)])) Q L23)
 (D_timer_Set_make_3 F N Q x0 x2 x3 x5 L23)))
theorem e_timer_Set_make_2 (F : TF) (N : TN) (Q : TQ) (l t : Env) (L : Lg) : wp F (q_timer_Set_make_2 N) l t L (fin [.tmp (.l 8), .tmp (.l 9)] Q) nE (fin [.tmp (.l 8), .tmp (.l 9)] Q) = D_timer_Set_make_2 F N Q (l 0) (l 2) (l 3) (l 5) L := wpS (e_timer_Set_make_3 F N Q) (by kernel_rfl)
def q_timer_Set_make_1a (N : TN) : ACode := (.reg [⟨.l 5, none, .box, [.l 1]⟩, ⟨.l 8, none, .mv, [.c (.i .i64 0)]⟩, ⟨.l 9, none, .mv, [.c (.i .i64 0)]⟩])
def q_timer_Set_make_1 (N : TN) : ACode := (.seq (q_timer_Set_make_1a N) (q_timer_Set_make_2 N))
noncomputable def D_timer_Set_make_1 (F : TF) (N : TN) (Q : TQ) (x0 : AV) (x1 : AV) (x2 : AV) (x3 : AV) (L : Lg) : Prop :=
 wpOp F .box [x1] L fun v1 L1 =>
 D_timer_Set_make_2 F N Q x0 x2 x3 v1 L1
theorem e_timer_Set_make_1 (F : TF) (N : TN) (Q : TQ) (l t : Env) (L : Lg) : wp F (q_timer_Set_make_1 N) l t L (fin [.tmp (.l 8), .tmp (.l 9)] Q) nE (fin [.tmp (.l 8), .tmp (.l 9)] Q) = D_timer_Set_make_1 F N Q (l 0) (l 1) (l 2) (l 3) L := wpS (e_timer_Set_make_2 F N Q) (by kernel_rfl)
/-- (*tarpaulin/timer.Set).make -/
def c_timer_Set_make (N : TN) : AFn := ⟨q_timer_Set_make_1 N, [.tmp (.l 8), .tmp (.l 9)]⟩
structure H_timer_Set_make (N : TN) (F : TF) : Prop where
  code : F (N k_timer_Set_make) = some (c_timer_Set_make N)
  timer_bad : H_timer_bad N F
  timer_Set_arm : H_timer_Set_arm N F
theorem r_timer_Set_make {F : TF} {N : TN} (h : F (N k_timer_Set_make) = some (c_timer_Set_make N)) {Q : TQ} {a0 a1 a2 a3 : AV} {L : Lg} (e : D_timer_Set_make_1 F N Q a0 a1 a2 a3 L) : CallL F (N k_timer_Set_make) [a0, a1, a2, a3] L Q :=
  CallL.of_wp h (Eq.mpr (Eq.trans (e_timer_Set_make_1 F N Q (initE [a0, a1, a2, a3] 0) Env.nil L) (by kernel_rfl : _ = D_timer_Set_make_1 F N Q a0 a1 a2 a3 L)) e)
def q_heap_Heap_Len_1 (N : TN) : ACode := (.seq (.reg [⟨.l 2, none, .mv, [.c (.i .i64 0)]⟩]) (.seq (.seq (.reg [⟨.t 3, none, .mv, [.l 0]⟩, ⟨.t 4, none, .eq false .ptr, [.t 3, .c (.p none)]⟩]) (.cond (.t 4) (.seq (.reg [⟨.l 2, none, .mv, [.c (.i .i64 0)]⟩]) .ret) .skip)) (.seq (.reg [⟨.t 5, none, .mv, [.l 0]⟩, ⟨.t 6, none, .nilchk, [.t 5]⟩, ⟨.t 7, none, .fad 0, [.t 6]⟩, ⟨.t 8, none, .ld none, [.t 7]⟩, ⟨.t 9, none, .lenSl, [.t 8]⟩, ⟨.l 2, none, .mv, [.t 9]⟩]) .ret)))
noncomputable def D_heap_Heap_Len_1 (F : TF) (N : TN) (Q : TQ) (x0 : AV) (L : Lg) : Prop :=
 wpOp F (.eq false .ptr) [x0, (.p none)] L fun v1 L1 =>
 condW v1
 (fin1 (some (.i .i64 0)) Q L1)
 (wpOp F .nilchk [x0] L1 fun v2 L2 =>
 wpOp F (.fad 0) [v2] L2 fun v3 L3 =>
 wpOp F (.ld none) [v3] L3 fun v4 L4 =>
 wpOp F .lenSl [v4] L4 fun v5 L5 =>
 fin1 (some v5) Q L5)
theorem e_heap_Heap_Len_1 (F : TF) (N : TN) (Q : TQ) (l t : Env) (L : Lg) : wp F (q_heap_Heap_Len_1 N) l t L (fin [.tmp (.l 2)] Q) nE (fin [.tmp (.l 2)] Q) = D_heap_Heap_Len_1 F N Q (l 0) L := by kernel_rfl
/-- (*tarpaulin/heap.Heap).Len -/
def c_heap_Heap_Len (N : TN) : AFn := ⟨q_heap_Heap_Len_1 N, [.tmp (.l 2)]⟩
structure H_heap_Heap_Len (N : TN) (F : TF) : Prop where
  code : F (N k_heap_Heap_Len) = some (c_heap_Heap_Len N)
theorem r_heap_Heap_Len {F : TF} {N : TN} (h : F (N k_heap_Heap_Len) = some (c_heap_Heap_Len N)) {Q : TQ} {a0 : AV} {L : Lg} (e : D_heap_Heap_Len_1 F N Q a0 L) : CallL F (N k_heap_Heap_Len) [a0] L Q :=
  CallL.of_wp h (Eq.mpr (Eq.trans (e_heap_Heap_Len_1 F N Q (initE [a0] 0) Env.nil L) (by kernel_rfl : _ = D_heap_Heap_Len_1 F N Q a0 L)) e)
def q_heap_Heap_Min_1 (N : TN) : ACode := (.seq (.reg [⟨.l 2, none, .alloc [.i .i64 0, .i .i64 0, .i .i64 0], []⟩, ⟨.l 3, none, .mv, [.c (.b false)]⟩]) (.seq (.seq (.reg [⟨.t 4, none, .mv, [.l 0]⟩, ⟨.t 5, none, .call (N k_heap_Heap_Len), [.t 4]⟩, ⟨.t 6, none, .bin .eql, [.t 5, .c (.i .i64 0)]⟩]) (.cond (.t 6) (.seq (.reg [⟨.t 7, none, .build [.i .i64 0, .i .i64 0, .i .i64 0] [], []⟩, ⟨.no, none, .st 3, [.l 2, .t 7]⟩, ⟨.l 3, none, .mv, [.c (.b false)]⟩]) .ret) .skip)) (.seq (.reg [⟨.t 8, none, .mv, [.l 0]⟩, ⟨.t 9, none, .nilchk, [.t 8]⟩, ⟨.t 10, none, .fad 0, [.t 9]⟩, ⟨.t 11, none, .ld none, [.t 10]⟩, ⟨.t 12, none, .iad 3, [.t 11, .c (.i .i64 0)]⟩, ⟨.t 13, none, .ld (some 3), [.t 12]⟩, ⟨.no, none, .st 3, [.l 2, .t 13]⟩, ⟨.l 3, none, .mv, [.c (.b true)]⟩]) .ret)))
noncomputable def D_heap_Heap_Min_1 (F : TF) (N : TN) (Q : TQ) (x0 : AV) (L : Lg) : Prop :=
 wpOp F (.alloc [.i .i64 0, .i .i64 0, .i .i64 0]) [] L fun v1 L1 =>
 CallL F (N k_heap_Heap_Len) [x0] L1 fun v2 L2 =>
 wpOp F (.bin .eql) [v2, (.i .i64 0)] L2 fun v3 L3 =>
 condW v3
 (wpOp F (.build [.i .i64 0, .i .i64 0, .i .i64 0] []) [] L3 fun v4 L4 =>
 wpOp F (.st 3) [v1, v4] L4 fun _ L5 =>
 fin1 (resVL Env.nil Env.nil L5 [.cell (.c v1) (some 3), .tmp (.c (.b false))]) Q L5)
 (wpOp F .nilchk [x0] L3 fun v6 L6 =>
 wpOp F (.fad 0) [v6] L6 fun v7 L7 =>
 wpOp F (.ld none) [v7] L7 fun v8 L8 =>
 wpOp F (.iad 3) [v8, (.i .i64 0)] L8 fun v9 L9 =>
 wpOp F (.ld (some 3)) [v9] L9 fun v10 L10 =>
 wpOp F (.st 3) [v1, v10] L10 fun _ L11 =>
 fin1 (resVL Env.nil Env.nil L11 [.cell (.c v1) (some 3), .tmp (.c (.b true))]) Q L11)
theorem e_heap_Heap_Min_1 (F : TF) (N : TN) (Q : TQ) (l t : Env) (L : Lg) : wp F (q_heap_Heap_Min_1 N) l t L (fin [.cell (.l 2) (some 3), .tmp (.l 3)] Q) nE (fin [.cell (.l 2) (some 3), .tmp (.l 3)] Q) = D_heap_Heap_Min_1 F N Q (l 0) L := by kernel_rfl
/-- (*tarpaulin/heap.Heap).Min -/
def c_heap_Heap_Min (N : TN) : AFn := ⟨q_heap_Heap_Min_1 N, [.cell (.l 2) (some 3), .tmp (.l 3)]⟩
structure H_heap_Heap_Min (N : TN) (F : TF) : Prop where
  code : F (N k_heap_Heap_Min) = some (c_heap_Heap_Min N)
  heap_Heap_Len : H_heap_Heap_Len N F
theorem r_heap_Heap_Min {F : TF} {N : TN} (h : F (N k_heap_Heap_Min) = some (c_heap_Heap_Min N)) {Q : TQ} {a0 : AV} {L : Lg} (e : D_heap_Heap_Min_1 F N Q a0 L) : CallL F (N k_heap_Heap_Min) [a0] L Q :=
  CallL.of_wp h (Eq.mpr (Eq.trans (e_heap_Heap_Min_1 F N Q (initE [a0] 0) Env.nil L) (by kernel_rfl : _ = D_heap_Heap_Min_1 F N Q a0 L)) e)
def q_expire_Timers_Next_1 (N : TN) : ACode := (.seq (.reg [⟨.l 2, none, .mv, [.c (.i .i64 0)]⟩, ⟨.l 3, none, .mv, [.c (.b false)]⟩]) (.seq (.seq (.reg [⟨.t 6, none, .mv, [.l 0]⟩, ⟨.t 7, none, .eq false .ptr, [.t 6, .c (.p none)]⟩]) (.cond (.t 7) (.seq (.reg [⟨.l 2, none, .mv, [.c (.i .i64 0)]⟩, ⟨.l 3, none, .mv, [.c (.b false)]⟩]) .ret) .skip)) (.seq (.reg [⟨.t 9, none, .mv, [.l 0]⟩, ⟨.t 10, none, .nilchk, [.t 9]⟩, ⟨.t 11, none, .fad 0, [.t 10]⟩, ⟨.t 12, none, .ld none, [.t 11]⟩, ⟨.t 13, none, .call (N k_heap_Heap_Min), [.t 12]⟩, ⟨.t 8, none, .mv, [.t 13]⟩, ⟨.t 14, none, .ext 0, [.t 8]⟩, ⟨.t 15, none, .ext 1, [.t 8]⟩, ⟨.l 4, none, .alloc [.i .i64 0, .i .i64 0, .i .i64 0], []⟩, ⟨.no, none, .st 3, [.l 4, .t 14]⟩, ⟨.l 5, none, .mv, [.t 15]⟩]) (.seq (.reg [⟨.t 16, none, .fad 1, [.l 4]⟩, ⟨.t 17, none, .ld none, [.t 16]⟩, ⟨.t 18, none, .mv, [.l 5]⟩, ⟨.l 2, none, .mv, [.t 17]⟩, ⟨.l 3, none, .mv, [.t 18]⟩]) .ret))))
noncomputable def D_expire_Timers_Next_1 (F : TF) (N : TN) (Q : TQ) (x0 : AV) (L : Lg) : Prop :=
 wpOp F (.eq false .ptr) [x0, (.p none)] L fun v1 L1 =>
 condW v1
 (fin1 (some (.tup [(.i .i64 0), (.b false)])) Q L1)
 (wpOp F .nilchk [x0] L1 fun v2 L2 =>
 wpOp F (.fad 0) [v2] L2 fun v3 L3 =>
 wpOp F (.ld none) [v3] L3 fun v4 L4 =>
 CallL F (N k_heap_Heap_Min) [v4] L4 fun v5 L5 =>
 wpOp F (.ext 0) [v5] L5 fun v6 L6 =>
 wpOp F (.ext 1) [v5] L6 fun v7 L7 =>
 wpOp F (.alloc [.i .i64 0, .i .i64 0, .i .i64 0]) [] L7 fun v8 L8 =>
 wpOp F (.st 3) [v8, v6] L8 fun _ L9 =>
 wpOp F (.fad 1) [v8] L9 fun v10 L10 =>
 wpOp F (.ld none) [v10] L10 fun v11 L11 =>
 fin1 (some (.tup [v11, v7])) Q L11)
theorem e_expire_Timers_Next_1 (F : TF) (N : TN) (Q : TQ) (l t : Env) (L : Lg) : wp F (q_expire_Timers_Next_1 N) l t L (fin [.tmp (.l 2), .tmp (.l 3)] Q) nE (fin [.tmp (.l 2), .tmp (.l 3)] Q) = D_expire_Timers_Next_1 F N Q (l 0) L := by kernel_rfl
/-- (*tarpaulin/expire.Timers).Next -/
def c_expire_Timers_Next (N : TN) : AFn := ⟨q_expire_Timers_Next_1 N, [.tmp (.l 2), .tmp (.l 3)]⟩
structure H_expire_Timers_Next (N : TN) (F : TF) : Prop where
  code : F (N k_expire_Timers_Next) = some (c_expire_Timers_Next N)
  heap_Heap_Min : H_heap_Heap_Min N F
theorem r_expire_Timers_Next {F : TF} {N : TN} (h : F (N k_expire_Timers_Next) = some (c_expire_Timers_Next N)) {Q : TQ} {a0 : AV} {L : Lg} (e : D_expire_Timers_Next_1 F N Q a0 L) : CallL F (N k_expire_Timers_Next) [a0] L Q :=
  CallL.of_wp h (Eq.mpr (Eq.trans (e_expire_Timers_Next_1 F N Q (initE [a0] 0) Env.nil L) (by kernel_rfl : _ = D_expire_Timers_Next_1 F N Q a0 L)) e)
def q_heap_Heap_Pop_1 (N : TN) : ACode := (.seq (.reg [⟨.l 2, none, .alloc [.i .i64 0, .i .i64 0, .i .i64 0], []⟩, ⟨.l 3, none, .mv, [.c (.b false)]⟩]) (.seq (.reg [⟨.t 7, none, .mv, [.l 0]⟩, ⟨.t 8, none, .call (N k_heap_Heap_Min), [.t 7]⟩, ⟨.t 6, none, .mv, [.t 8]⟩, ⟨.t 9, none, .ext 0, [.t 6]⟩, ⟨.t 10, none, .ext 1, [.t 6]⟩, ⟨.l 4, none, .alloc [.i .i64 0, .i .i64 0, .i .i64 0], []⟩, ⟨.no, none, .st 3, [.l 4, .t 9]⟩, ⟨.l 5, none, .mv, [.t 10]⟩]) (.seq (.seq (.reg [⟨.t 11, none, .mv, [.l 5]⟩]) (.cond (.t 11) (.reg [⟨.t 12, none, .mv, [.l 0]⟩, ⟨.t 13, none, .fad 0, [.l 4]⟩, ⟨.t 14, none, .ld none, [.t 13]⟩, ⟨.t 15, none, .call (N k_heap_Heap_Remove), [.t 12, .t 14]⟩]) .skip)) (.seq (.reg [⟨.t 16, none, .ld (some 3), [.l 4]⟩, ⟨.t 17, none, .mv, [.l 5]⟩, ⟨.no, none, .st 3, [.l 2, .t 16]⟩, ⟨.l 3, none, .mv, [.t 17]⟩]) .ret))))
noncomputable def D_heap_Heap_Pop_1 (F : TF) (N : TN) (Q : TQ) (x0 : AV) (L : Lg) : Prop :=
 wpOp F (.alloc [.i .i64 0, .i .i64 0, .i .i64 0]) [] L fun v1 L1 =>
 CallL F (N k_heap_Heap_Min) [x0] L1 fun v2 L2 =>
 wpOp F (.ext 0) [v2] L2 fun v3 L3 =>
 wpOp F (.ext 1) [v2] L3 fun v4 L4 =>
 wpOp F (.alloc [.i .i64 0, .i .i64 0, .i .i64 0]) [] L4 fun v5 L5 =>
 wpOp F (.st 3) [v5, v3] L5 fun _ L6 =>
 condW v4
 (wpOp F (.fad 0) [v5] L6 fun v7 L7 =>
 wpOp F (.ld none) [v7] L7 fun v8 L8 =>
 CallL F (N k_heap_Heap_Remove) [x0, v8] L8 fun v9 L9 =>
 wpOp F (.ld (some 3)) [v5] L9 fun v10 L10 =>
 wpOp F (.st 3) [v1, v10] L10 fun _ L11 =>
 fin1 (resVL Env.nil Env.nil L11 [.cell (.c v1) (some 3), .tmp (.c v4)]) Q L11)
 (wpOp F (.ld (some 3)) [v5] L6 fun v12 L12 =>
 wpOp F (.st 3) [v1, v12] L12 fun _ L13 =>
 fin1 (resVL Env.nil Env.nil L13 [.cell (.c v1) (some 3), .tmp (.c v4)]) Q L13)
theorem e_heap_Heap_Pop_1 (F : TF) (N : TN) (Q : TQ) (l t : Env) (L : Lg) : wp F (q_heap_Heap_Pop_1 N) l t L (fin [.cell (.l 2) (some 3), .tmp (.l 3)] Q) nE (fin [.cell (.l 2) (some 3), .tmp (.l 3)] Q) = D_heap_Heap_Pop_1 F N Q (l 0) L := by kernel_rfl
/-- (*tarpaulin/heap.Heap).Pop -/
def c_heap_Heap_Pop (N : TN) : AFn := ⟨q_heap_Heap_Pop_1 N, [.cell (.l 2) (some 3), .tmp (.l 3)]⟩
structure H_heap_Heap_Pop (N : TN) (F : TF) : Prop where
  code : F (N k_heap_Heap_Pop) = some (c_heap_Heap_Pop N)
  heap_Heap_Min : H_heap_Heap_Min N F
  heap_Heap_Remove : H_heap_Heap_Remove N F
theorem r_heap_Heap_Pop {F : TF} {N : TN} (h : F (N k_heap_Heap_Pop) = some (c_heap_Heap_Pop N)) {Q : TQ} {a0 : AV} {L : Lg} (e : D_heap_Heap_Pop_1 F N Q a0 L) : CallL F (N k_heap_Heap_Pop) [a0] L Q :=
  CallL.of_wp h (Eq.mpr (Eq.trans (e_heap_Heap_Pop_1 F N Q (initE [a0] 0) Env.nil L) (by kernel_rfl : _ = D_heap_Heap_Pop_1 F N Q a0 L)) e)
def q_expire_Timers_Take_7 (N : TN) : ACode := (.seq (.seq (.reg [⟨.t 52, none, .mv, [.l 6]⟩, ⟨.t 53, none, .mv, [.l 10]⟩, ⟨.t 54, none, .mv, [.l 1]⟩, ⟨.t 55, none, .call (N k_clock_Next), [.t 52, .t 53, .t 54]⟩, ⟨.t 51, none, .mv, [.t 55]⟩, ⟨.t 56, none, .ext 0, [.t 51]⟩, ⟨.t 57, none, .ext 1, [.t 51]⟩, ⟨.l 11, none, .mv, [.t 56]⟩, ⟨.l 12, none, .mv, [.t 57]⟩]) (.seq (.reg [⟨.t 58, none, .mv, [.l 12]⟩, ⟨.t 59, none, .bin .eql, [.t 58, .c (.i .i64 0)]⟩, ⟨.t 60, none, .mv, [.t 59]⟩, ⟨.t 61, some (.t 60, true), .mv, [.l 11]⟩, ⟨.t 62, some (.t 60, true), .mv, [.l 1]⟩, ⟨.t 63, some (.t 60, true), .bin .gtr, [.t 61, .t 62]⟩, ⟨.t 64, none, .pick, [.t 60, .t 63, .c (.b false)]⟩]) (.cond (.t 64) (.reg [⟨.t 65, none, .mv, [.l 0]⟩, ⟨.t 66, none, .fad 0, [.l 8]⟩, ⟨.t 67, none, .ld none, [.t 66]⟩, ⟨.t 68, none, .mv, [.l 11]⟩, ⟨.t 69, none, .mv, [.l 10]⟩, ⟨.t 70, none, .call (N k_expire_Timers_Arm), [.t 65, .t 67, .t 68, .t 69]⟩]) .skip))) (.seq (.reg [⟨.t 71, none, .fad 0, [.l 8]⟩, ⟨.t 72, none, .ld none, [.t 71]⟩, ⟨.t 73, none, .mv, [.l 6]⟩, ⟨.t 74, none, .mv, [.l 1]⟩, ⟨.t 75, none, .build [.i .i64 0, .i .i64 0, .i .i64 0] [(0, 1), (1, 1), (2, 1)], [.t 72, .t 73, .t 74]⟩, ⟨.no, none, .st 3, [.l 4, .t 75]⟩, ⟨.l 5, none, .mv, [.c (.b true)]⟩]) .ret))
noncomputable def D_expire_Timers_Take_7 (F : TF) (N : TN) (Q : TQ) (x0 : AV) (x1 : AV) (x4 : AV) (x6 : AV) (x8 : AV) (x10 : AV) (L : Lg) : Prop :=
 CallL F (N k_clock_Next) [x6, x10, x1] L fun v1 L1 =>
 wpOp F (.ext 0) [v1] L1 fun v2 L2 =>
 wpOp F (.ext 1) [v1] L2 fun v3 L3 =>
 wpOp F (.bin .eql) [v3, (.i .i64 0)] L3 fun v4 L4 =>
 gdOp F v4 true .mv [v2] L4 fun v5 L5 =>
 gdOp F v4 true .mv [x1] L5 fun v6 L6 =>
 gdOp F v4 true (.bin .gtr) [v5, v6] L6 fun v7 L7 =>
 wpOp F .pick [v4, v7, (.b false)] L7 fun v8 L8 =>
 condW v8
 (wpOp F (.fad 0) [x8] L8 fun v9 L9 =>
 wpOp F (.ld none) [v9] L9 fun v10 L10 =>
 CallL F (N k_expire_Timers_Arm) [x0, v10, v2, x10] L10 fun v11 L11 =>
 wpOp F (.fad 0) [x8] L11 fun v12 L12 =>
 wpOp F (.ld none) [v12] L12 fun v13 L13 =>
 wpOp F (.build [.i .i64 0, .i .i64 0, .i .i64 0] [(0, 1), (1, 1), (2, 1)]) [v13, x6, x1] L13 fun v14 L14 =>
 wpOp F (.st 3) [x4, v14] L14 fun _ L15 =>
 fin1 (resVL Env.nil Env.nil L15 [.cell (.c x4) (some 3), .tmp (.c (.b true))]) Q L15)
 (wpOp F (.fad 0) [x8] L8 fun v16 L16 =>
 wpOp F (.ld none) [v16] L16 fun v17 L17 =>
 wpOp F (.build [.i .i64 0, .i .i64 0, .i .i64 0] [(0, 1), (1, 1), (2, 1)]) [v17, x6, x1] L17 fun v18 L18 =>
 wpOp F (.st 3) [x4, v18] L18 fun _ L19 =>
 fin1 (resVL Env.nil Env.nil L19 [.cell (.c x4) (some 3), .tmp (.c (.b true))]) Q L19)
theorem e_expire_Timers_Take_7 (F : TF) (N : TN) (Q : TQ) (l t : Env) (L : Lg) : wp F (q_expire_Timers_Take_7 N) l t L (fin [.cell (.l 4) (some 3), .tmp (.l 5)] Q) nE (fin [.cell (.l 4) (some 3), .tmp (.l 5)] Q) = D_expire_Timers_Take_7 F N Q (l 0) (l 1) (l 4) (l 6) (l 8) (l 10) L := by kernel_rfl
def q_expire_Timers_Take_6a (N : TN) : ACode := (.reg [⟨.t 45, none, .mv, [.l 0]⟩, ⟨.t 46, none, .nilchk, [.t 45]⟩, ⟨.t 47, none, .fad 1, [.t 46]⟩, ⟨.t 48, none, .ld none, [.t 47]⟩, ⟨.t 49, none, .fad 0, [.l 8]⟩, ⟨.t 50, none, .ld none, [.t 49]⟩, ⟨.no, none, .mdel, [.t 48, .t 50]⟩])
def q_expire_Timers_Take_6 (N : TN) : ACode := (.seq (q_expire_Timers_Take_6a N) (q_expire_Timers_Take_7 N))
noncomputable def D_expire_Timers_Take_6 (F : TF) (N : TN) (Q : TQ) (x0 : AV) (x1 : AV) (x4 : AV) (x6 : AV) (x8 : AV) (x10 : AV) (L : Lg) : Prop :=
 wpOp F .nilchk [x0] L fun v1 L1 =>
 wpOp F (.fad 1) [v1] L1 fun v2 L2 =>
 wpOp F (.ld none) [v2] L2 fun v3 L3 =>
 wpOp F (.fad 0) [x8] L3 fun v4 L4 =>
 wpOp F (.ld none) [v4] L4 fun v5 L5 =>
 wpOp F .mdel [v3, v5] L5 fun _ L6 =>
 D_expire_Timers_Take_7 F N Q x0 x1 x4 x6 x8 x10 L6
theorem e_expire_Timers_Take_6 (F : TF) (N : TN) (Q : TQ) (l t : Env) (L : Lg) : wp F (q_expire_Timers_Take_6 N) l t L (fin [.cell (.l 4) (some 3), .tmp (.l 5)] Q) nE (fin [.cell (.l 4) (some 3), .tmp (.l 5)] Q) = D_expire_Timers_Take_6 F N Q (l 0) (l 1) (l 4) (l 6) (l 8) (l 10) L := wpS (e_expire_Timers_Take_7 F N Q) (by kernel_rfl)
def q_expire_Timers_Take_5a (N : TN) : ACode := (.reg [⟨.t 38, none, .mv, [.l 0]⟩, ⟨.t 39, none, .nilchk, [.t 38]⟩, ⟨.t 40, none, .fad 1, [.t 39]⟩, ⟨.t 41, none, .ld none, [.t 40]⟩, ⟨.t 42, none, .fad 0, [.l 8]⟩, ⟨.t 43, none, .ld none, [.t 42]⟩, ⟨.t 44, none, .lkup (.i .i64 0) false, [.t 41, .t 43]⟩, ⟨.l 10, none, .mv, [.t 44]⟩])
def q_expire_Timers_Take_5 (N : TN) : ACode := (.seq (q_expire_Timers_Take_5a N) (q_expire_Timers_Take_6 N))
noncomputable def D_expire_Timers_Take_5 (F : TF) (N : TN) (Q : TQ) (x0 : AV) (x1 : AV) (x4 : AV) (x6 : AV) (x8 : AV) (L : Lg) : Prop :=
 wpOp F .nilchk [x0] L fun v1 L1 =>
 wpOp F (.fad 1) [v1] L1 fun v2 L2 =>
 wpOp F (.ld none) [v2] L2 fun v3 L3 =>
 wpOp F (.fad 0) [x8] L3 fun v4 L4 =>
 wpOp F (.ld none) [v4] L4 fun v5 L5 =>
 wpOp F (.lkup (.i .i64 0) false) [v3, v5] L5 fun v6 L6 =>
 D_expire_Timers_Take_6 F N Q x0 x1 x4 x6 x8 v6 L6
theorem e_expire_Timers_Take_5 (F : TF) (N : TN) (Q : TQ) (l t : Env) (L : Lg) : wp F (q_expire_Timers_Take_5 N) l t L (fin [.cell (.l 4) (some 3), .tmp (.l 5)] Q) nE (fin [.cell (.l 4) (some 3), .tmp (.l 5)] Q) = D_expire_Timers_Take_5 F N Q (l 0) (l 1) (l 4) (l 6) (l 8) L := wpS (e_expire_Timers_Take_6 F N Q) (by kernel_rfl)
def q_expire_Timers_Take_4a (N : TN) : ACode := (.reg [⟨.t 31, none, .mv, [.l 0]⟩, ⟨.t 32, none, .nilchk, [.t 31]⟩, ⟨.t 33, none, .fad 0, [.t 32]⟩, ⟨.t 34, none, .ld none, [.t 33]⟩, ⟨.t 35, none, .call (N k_heap_Heap_Pop), [.t 34]⟩, ⟨.t 30, none, .mv, [.t 35]⟩, ⟨.t 36, none, .ext 0, [.t 30]⟩, ⟨.t 37, none, .ext 1, [.t 30]⟩, ⟨.l 8, none, .alloc [.i .i64 0, .i .i64 0, .i .i64 0], []⟩, ⟨.no, none, .st 3, [.l 8, .t 36]⟩, ⟨.t 9, none, .mv, [.t 37]⟩])
def q_expire_Timers_Take_4 (N : TN) : ACode := (.seq (q_expire_Timers_Take_4a N) (q_expire_Timers_Take_5 N))
noncomputable def D_expire_Timers_Take_4 (F : TF) (N : TN) (Q : TQ) (x0 : AV) (x1 : AV) (x4 : AV) (x6 : AV) (L : Lg) : Prop :=
 wpOp F .nilchk [x0] L fun v1 L1 =>
 wpOp F (.fad 0) [v1] L1 fun v2 L2 =>
 wpOp F (.ld none) [v2] L2 fun v3 L3 =>
 CallL F (N k_heap_Heap_Pop) [v3] L3 fun v4 L4 =>
 wpOp F (.ext 0) [v4] L4 fun v5 L5 =>
 wpOp F (.ext 1) [v4] L5 fun v6 L6 =>
 wpOp F (.alloc [.i .i64 0, .i .i64 0, .i .i64 0]) [] L6 fun v7 L7 =>
 wpOp F (.st 3) [v7, v5] L7 fun _ L8 =>
 D_expire_Timers_Take_5 F N Q x0 x1 x4 x6 v7 L8
theorem e_expire_Timers_Take_4 (F : TF) (N : TN) (Q : TQ) (l t : Env) (L : Lg) : wp F (q_expire_Timers_Take_4 N) l t L (fin [.cell (.l 4) (some 3), .tmp (.l 5)] Q) nE (fin [.cell (.l 4) (some 3), .tmp (.l 5)] Q) = D_expire_Timers_Take_4 F N Q (l 0) (l 1) (l 4) (l 6) L := wpS (e_expire_Timers_Take_5 F N Q) (by kernel_rfl)
def q_expire_Timers_Take_3a (N : TN) : ACode := (.seq (.reg [⟨.t 18, none, .mv, [.l 7]⟩, ⟨.t 19, none, .un .not, [.t 18]⟩, ⟨.t 20, none, .mv, [.t 19]⟩, ⟨.t 21, some (.t 20, false), .mv, [.l 1]⟩, ⟨.t 22, some (.t 20, false), .bin .lss, [.t 21, .c (.i .i64 0)]⟩, ⟨.t 23, none, .pick, [.t 20, .c (.b true), .t 22]⟩, ⟨.t 24, none, .mv, [.t 23]⟩, ⟨.t 25, some (.t 24, false), .mv, [.l 6]⟩, ⟨.t 26, some (.t 24, false), .mv, [.l 1]⟩, ⟨.t 27, some (.t 24, false), .bin .gtr, [.t 25, .t 26]⟩, ⟨.t 28, none, .pick, [.t 24, .c (.b true), .t 27]⟩]) (.cond (.t 28) (.seq (.reg [⟨.t 29, none, .build [.i .i64 0, .i .i64 0, .i .i64 0] [], []⟩, ⟨.no, none, .st 3, [.l 4, .t 29]⟩, ⟨.l 5, none, .mv, [.c (.b false)]⟩]) .ret) .skip))
def q_expire_Timers_Take_3 (N : TN) : ACode := (.seq (q_expire_Timers_Take_3a N) (q_expire_Timers_Take_4 N))
noncomputable def D_expire_Timers_Take_3 (F : TF) (N : TN) (Q : TQ) (x0 : AV) (x1 : AV) (x4 : AV) (x6 : AV) (x7 : AV) (L : Lg) : Prop :=
 wpOp F (.un .not) [x7] L fun v1 L1 =>
 gdOp F v1 false .mv [x1] L1 fun v2 L2 =>
 gdOp F v1 false (.bin .lss) [v2, (.i .i64 0)] L2 fun v3 L3 =>
 wpOp F .pick [v1, (.b true), v3] L3 fun v4 L4 =>
 gdOp F v4 false .mv [x6] L4 fun v5 L5 =>
 gdOp F v4 false .mv [x1] L5 fun v6 L6 =>
 gdOp F v4 false (.bin .gtr) [v5, v6] L6 fun v7 L7 =>
 wpOp F .pick [v4, (.b true), v7] L7 fun v8 L8 =>
 condW v8
 (wpOp F (.build [.i .i64 0, .i .i64 0, .i .i64 0] []) [] L8 fun v9 L9 =>
 wpOp F (.st 3) [x4, v9] L9 fun _ L10 =>
 fin1 (resVL Env.nil Env.nil L10 [.cell (.c x4) (some 3), .tmp (.c (.b false))]) Q L10)
 (D_expire_Timers_Take_4 F N Q x0 x1 x4 x6 L8)
theorem e_expire_Timers_Take_3 (F : TF) (N : TN) (Q : TQ) (l t : Env) (L : Lg) : wp F (q_expire_Timers_Take_3 N) l t L (fin [.cell (.l 4) (some 3), .tmp (.l 5)] Q) nE (fin [.cell (.l 4) (some 3), .tmp (.l 5)] Q) = D_expire_Timers_Take_3 F N Q (l 0) (l 1) (l 4) (l 6) (l 7) L := wpS (e_expire_Timers_Take_4 F N Q) (by kernel_rfl)
def q_expire_Timers_Take_2a (N : TN) : ACode := (.reg [⟨.t 14, none, .mv, [.l 0]⟩, ⟨.t 15, none, .call (N k_expire_Timers_Next), [.t 14]⟩, ⟨.t 13, none, .mv, [.t 15]⟩, ⟨.t 16, none, .ext 0, [.t 13]⟩, ⟨.t 17, none, .ext 1, [.t 13]⟩, ⟨.l 6, none, .mv, [.t 16]⟩, ⟨.l 7, none, .mv, [.t 17]⟩])
def q_expire_Timers_Take_2 (N : TN) : ACode := (.seq (q_expire_Timers_Take_2a N) (q_expire_Timers_Take_3 N))
noncomputable def D_expire_Timers_Take_2 (F : TF) (N : TN) (Q : TQ) (x0 : AV) (x1 : AV) (x4 : AV) (L : Lg) : Prop :=
 CallL F (N k_expire_Timers_Next) [x0] L fun v1 L1 =>
 wpOp F (.ext 0) [v1] L1 fun v2 L2 =>
 wpOp F (.ext 1) [v1] L2 fun v3 L3 =>
 D_expire_Timers_Take_3 F N Q x0 x1 x4 v2 v3 L3
theorem e_expire_Timers_Take_2 (F : TF) (N : TN) (Q : TQ) (l t : Env) (L : Lg) : wp F (q_expire_Timers_Take_2 N) l t L (fin [.cell (.l 4) (some 3), .tmp (.l 5)] Q) nE (fin [.cell (.l 4) (some 3), .tmp (.l 5)] Q) = D_expire_Timers_Take_2 F N Q (l 0) (l 1) (l 4) L := wpS (e_expire_Timers_Take_3 F N Q) (by kernel_rfl)
def q_expire_Timers_Take_1a (N : TN) : ACode := (.reg [⟨.l 4, none, .alloc [.i .i64 0, .i .i64 0, .i .i64 0], []⟩, ⟨.l 5, none, .mv, [.c (.b false)]⟩])
def q_expire_Timers_Take_1 (N : TN) : ACode := (.seq (q_expire_Timers_Take_1a N) (q_expire_Timers_Take_2 N))
noncomputable def D_expire_Timers_Take_1 (F : TF) (N : TN) (Q : TQ) (x0 : AV) (x1 : AV) (L : Lg) : Prop :=
 wpOp F (.alloc [.i .i64 0, .i .i64 0, .i .i64 0]) [] L fun v1 L1 =>
 D_expire_Timers_Take_2 F N Q x0 x1 v1 L1
theorem e_expire_Timers_Take_1 (F : TF) (N : TN) (Q : TQ) (l t : Env) (L : Lg) : wp F (q_expire_Timers_Take_1 N) l t L (fin [.cell (.l 4) (some 3), .tmp (.l 5)] Q) nE (fin [.cell (.l 4) (some 3), .tmp (.l 5)] Q) = D_expire_Timers_Take_1 F N Q (l 0) (l 1) L := wpS (e_expire_Timers_Take_2 F N Q) (by kernel_rfl)
/-- (*tarpaulin/expire.Timers).Take -/
def c_expire_Timers_Take (N : TN) : AFn := ⟨q_expire_Timers_Take_1 N, [.cell (.l 4) (some 3), .tmp (.l 5)]⟩
structure H_expire_Timers_Take (N : TN) (F : TF) : Prop where
  code : F (N k_expire_Timers_Take) = some (c_expire_Timers_Take N)
  expire_Timers_Next : H_expire_Timers_Next N F
  heap_Heap_Pop : H_heap_Heap_Pop N F
  clock_Next : H_clock_Next N F
  expire_Timers_Arm : H_expire_Timers_Arm N F
theorem r_expire_Timers_Take {F : TF} {N : TN} (h : F (N k_expire_Timers_Take) = some (c_expire_Timers_Take N)) {Q : TQ} {a0 a1 : AV} {L : Lg} (e : D_expire_Timers_Take_1 F N Q a0 a1 L) : CallL F (N k_expire_Timers_Take) [a0, a1] L Q :=
  CallL.of_wp h (Eq.mpr (Eq.trans (e_expire_Timers_Take_1 F N Q (initE [a0, a1] 0) Env.nil L) (by kernel_rfl : _ = D_expire_Timers_Take_1 F N Q a0 a1 L)) e)
def q_chanq_Chan_deliver_1 (N : TN) : ACode := (.seq (.reg [⟨.l 4, none, .mv, [.c (.sl none 0 0 0)]⟩]) (.seq (.reg [⟨.t 8, none, .mv, [.l 0]⟩, ⟨.t 9, none, .nilchk, [.t 8]⟩, ⟨.t 10, none, .fad 1, [.t 9]⟩, ⟨.t 11, none, .ld none, [.t 10]⟩, ⟨.t 12, none, .call (N k_wait_Queue_Pop), [.t 11]⟩, ⟨.t 7, none, .mv, [.t 12]⟩, ⟨.t 13, none, .ext 0, [.t 7]⟩, ⟨.t 14, none, .ext 1, [.t 7]⟩, ⟨.l 5, none, .alloc [.i .i64 0, .i .i64 0, .i .i64 0], []⟩, ⟨.no, none, .st 3, [.l 5, .t 13]⟩, ⟨.l 6, none, .mv, [.t 14]⟩]) (.seq (.seq (.reg [⟨.t 15, none, .mv, [.l 6]⟩, ⟨.t 16, none, .un .not, [.t 15]⟩]) (.cond (.t 16) (.seq (.reg [⟨.l 4, none, .mv, [.c (.sl none 0 0 0)]⟩]) .ret) .skip)) (.seq (.reg [⟨.t 17, none, .fad 0, [.l 5]⟩, ⟨.t 18, none, .ld none, [.t 17]⟩, ⟨.t 19, none, .fad 1, [.l 5]⟩, ⟨.t 20, none, .ld none, [.t 19]⟩, ⟨.t 21, none, .mv, [.l 1]⟩, ⟨.t 22, none, .build [.i .i64 0, .i .i64 0, .i .i64 0, .b false, .b false] [(0, 1), (1, 1), (2, 1), (3, 1)], [.t 18, .t 20, .t 21, .c (.b true)]⟩, ⟨.t 23, none, .bslice [.i .i64 0, .i .i64 0, .i .i64 0, .b false, .b false] 1 5 [0], [.t 22]⟩, ⟨.l 4, none, .mv, [.t 23]⟩]) .ret))))
noncomputable def D_chanq_Chan_deliver_1 (F : TF) (N : TN) (Q : TQ) (x0 : AV) (x1 : AV) (L : Lg) : Prop :=
 wpOp F .nilchk [x0] L fun v1 L1 =>
 wpOp F (.fad 1) [v1] L1 fun v2 L2 =>
 wpOp F (.ld none) [v2] L2 fun v3 L3 =>
 CallL F (N k_wait_Queue_Pop) [v3] L3 fun v4 L4 =>
 wpOp F (.ext 0) [v4] L4 fun v5 L5 =>
 wpOp F (.ext 1) [v4] L5 fun v6 L6 =>
 wpOp F (.alloc [.i .i64 0, .i .i64 0, .i .i64 0]) [] L6 fun v7 L7 =>
 wpOp F (.st 3) [v7, v5] L7 fun _ L8 =>
 wpOp F (.un .not) [v6] L8 fun v9 L9 =>
 condW v9
 (fin1 (some (.sl none 0 0 0)) Q L9)
 (wpOp F (.fad 0) [v7] L9 fun v10 L10 =>
 wpOp F (.ld none) [v10] L10 fun v11 L11 =>
 wpOp F (.fad 1) [v7] L11 fun v12 L12 =>
 wpOp F (.ld none) [v12] L12 fun v13 L13 =>
 wpOp F (.build [.i .i64 0, .i .i64 0, .i .i64 0, .b false, .b false] [(0, 1), (1, 1), (2, 1), (3, 1)]) [v11, v13, x1, (.b true)] L13 fun v14 L14 =>
 wpOp F (.bslice [.i .i64 0, .i .i64 0, .i .i64 0, .b false, .b false] 1 5 [0]) [v14] L14 fun v15 L15 =>
 fin1 (some v15) Q L15)
theorem e_chanq_Chan_deliver_1 (F : TF) (N : TN) (Q : TQ) (l t : Env) (L : Lg) : wp F (q_chanq_Chan_deliver_1 N) l t L (fin [.tmp (.l 4)] Q) nE (fin [.tmp (.l 4)] Q) = D_chanq_Chan_deliver_1 F N Q (l 0) (l 1) L := by kernel_rfl
/-- (*tarpaulin/chanq.Chan).deliver -/
def c_chanq_Chan_deliver (N : TN) : AFn := ⟨q_chanq_Chan_deliver_1 N, [.tmp (.l 4)]⟩
structure H_chanq_Chan_deliver (N : TN) (F : TF) : Prop where
  code : F (N k_chanq_Chan_deliver) = some (c_chanq_Chan_deliver N)
  wait_Queue_Pop : H_wait_Queue_Pop N F
theorem r_chanq_Chan_deliver {F : TF} {N : TN} (h : F (N k_chanq_Chan_deliver) = some (c_chanq_Chan_deliver N)) {Q : TQ} {a0 a1 : AV} {L : Lg} (e : D_chanq_Chan_deliver_1 F N Q a0 a1 L) : CallL F (N k_chanq_Chan_deliver) [a0, a1] L Q :=
  CallL.of_wp h (Eq.mpr (Eq.trans (e_chanq_Chan_deliver_1 F N Q (initE [a0, a1] 0) Env.nil L) (by kernel_rfl : _ = D_chanq_Chan_deliver_1 F N Q a0 a1 L)) e)
def q_chanq_Chan_Put_1 (N : TN) : ACode := (.seq (.reg [⟨.l 4, none, .mv, [.c (.sl none 0 0 0)]⟩, ⟨.l 5, none, .mv, [.c (.b false)]⟩]) (.seq (.seq (.reg [⟨.t 6, none, .mv, [.l 0]⟩, ⟨.t 7, none, .eq false .ptr, [.t 6, .c (.p none)]⟩, ⟨.t 8, none, .mv, [.t 7]⟩, ⟨.t 9, some (.t 8, false), .mv, [.l 0]⟩, ⟨.t 10, some (.t 8, false), .nilchk, [.t 9]⟩, ⟨.t 11, some (.t 8, false), .fad 3, [.t 10]⟩, ⟨.t 12, some (.t 8, false), .ld none, [.t 11]⟩, ⟨.t 13, some (.t 8, false), .un .not, [.t 12]⟩, ⟨.t 14, none, .pick, [.t 8, .c (.b true), .t 13]⟩]) (.cond (.t 14) (.seq (.reg [⟨.l 4, none, .mv, [.c (.sl none 0 0 0)]⟩, ⟨.l 5, none, .mv, [.c (.b false)]⟩]) .ret) .skip)) (.seq (.seq (.reg [⟨.t 15, none, .mv, [.l 0]⟩, ⟨.t 16, none, .mv, [.l 1]⟩, ⟨.t 17, none, .call (N k_chanq_Chan_deliver), [.t 15, .t 16]⟩, ⟨.l 4, none, .mv, [.t 17]⟩]) (.seq (.reg [⟨.t 18, none, .mv, [.l 4]⟩, ⟨.t 19, none, .lenSl, [.t 18]⟩, ⟨.t 20, none, .bin .gtr, [.t 19, .c (.i .i64 0)]⟩]) (.cond (.t 20) (.seq (.reg [⟨.t 21, none, .mv, [.l 4]⟩, ⟨.l 4, none, .mv, [.t 21]⟩, ⟨.l 5, none, .mv, [.c (.b true)]⟩]) .ret) .skip))) (.seq (.reg [⟨.t 22, none, .mv, [.l 0]⟩, ⟨.t 23, none, .nilchk, [.t 22]⟩, ⟨.t 24, none, .fad 0, [.t 23]⟩, ⟨.t 25, none, .ld none, [.t 24]⟩, ⟨.t 26, none, .mv, [.l 1]⟩, ⟨.t 27, none, .call (N k_ring_Ring_Push), [.t 25, .t 26]⟩, ⟨.l 4, none, .mv, [.c (.sl none 0 0 0)]⟩, ⟨.l 5, none, .mv, [.t 27]⟩]) .ret))))
noncomputable def D_chanq_Chan_Put_1 (F : TF) (N : TN) (Q : TQ) (x0 : AV) (x1 : AV) (L : Lg) : Prop :=
 wpOp F (.eq false .ptr) [x0, (.p none)] L fun v1 L1 =>
 gdOp F v1 false .mv [x0] L1 fun v2 L2 =>
 gdOp F v1 false .nilchk [v2] L2 fun v3 L3 =>
 gdOp F v1 false (.fad 3) [v3] L3 fun v4 L4 =>
 gdOp F v1 false (.ld none) [v4] L4 fun v5 L5 =>
 gdOp F v1 false (.un .not) [v5] L5 fun v6 L6 =>
 wpOp F .pick [v1, (.b true), v6] L6 fun v7 L7 =>
 condW v7
 (fin1 (some (.tup [(.sl none 0 0 0), (.b false)])) Q L7)
 (CallL F (N k_chanq_Chan_deliver) [x0, x1] L7 fun v8 L8 =>
 wpOp F .lenSl [v8] L8 fun v9 L9 =>
 wpOp F (.bin .gtr) [v9, (.i .i64 0)] L9 fun v10 L10 =>
 condW v10
 (fin1 (some (.tup [v8, (.b true)])) Q L10)
 (wpOp F .nilchk [x0] L10 fun v11 L11 =>
 wpOp F (.fad 0) [v11] L11 fun v12 L12 =>
 wpOp F (.ld none) [v12] L12 fun v13 L13 =>
 CallL F (N k_ring_Ring_Push) [v13, x1] L13 fun v14 L14 =>
 fin1 (some (.tup [(.sl none 0 0 0), v14])) Q L14))
theorem e_chanq_Chan_Put_1 (F : TF) (N : TN) (Q : TQ) (l t : Env) (L : Lg) : wp F (q_chanq_Chan_Put_1 N) l t L (fin [.tmp (.l 4), .tmp (.l 5)] Q) nE (fin [.tmp (.l 4), .tmp (.l 5)] Q) = D_chanq_Chan_Put_1 F N Q (l 0) (l 1) L := by kernel_rfl
/-- (*tarpaulin/chanq.Chan).Put -/
def c_chanq_Chan_Put (N : TN) : AFn := ⟨q_chanq_Chan_Put_1 N, [.tmp (.l 4), .tmp (.l 5)]⟩
structure H_chanq_Chan_Put (N : TN) (F : TF) : Prop where
  code : F (N k_chanq_Chan_Put) = some (c_chanq_Chan_Put N)
  chanq_Chan_deliver : H_chanq_Chan_deliver N F
  ring_Ring_Push : H_ring_Ring_Push N F
theorem r_chanq_Chan_Put {F : TF} {N : TN} (h : F (N k_chanq_Chan_Put) = some (c_chanq_Chan_Put N)) {Q : TQ} {a0 a1 : AV} {L : Lg} (e : D_chanq_Chan_Put_1 F N Q a0 a1 L) : CallL F (N k_chanq_Chan_Put) [a0, a1] L Q :=
  CallL.of_wp h (Eq.mpr (Eq.trans (e_chanq_Chan_Put_1 F N Q (initE [a0, a1] 0) Env.nil L) (by kernel_rfl : _ = D_chanq_Chan_Put_1 F N Q a0 a1 L)) e)
def q_timer_Set_Fire_5 (N : TN) : ACode := (.seq (.reg [⟨.t 25, none, .mv, [.l 0]⟩, ⟨.t 26, none, .nilchk, [.t 25]⟩, ⟨.t 27, none, .fad 0, [.t 26]⟩, ⟨.t 28, none, .ld none, [.t 27]⟩, ⟨.t 29, none, .fad 0, [.l 6]⟩, ⟨.t 30, none, .ld none, [.t 29]⟩, ⟨.t 31, none, .iad 4, [.t 28, .t 30]⟩, ⟨.t 32, none, .ld (some 4), [.t 31]⟩, ⟨.l 8, none, .alloc [.i .i64 0, .i .i64 0, .p none, .i .i64 0], []⟩, ⟨.no, none, .st 4, [.l 8, .t 32]⟩]) (.seq (.reg [⟨.t 33, none, .fad 0, [.l 6]⟩, ⟨.t 34, none, .ld none, [.t 33]⟩, ⟨.t 35, none, .fad 0, [.l 8]⟩, ⟨.t 36, none, .ld none, [.t 35]⟩, ⟨.t 37, none, .fad 1, [.l 6]⟩, ⟨.t 38, none, .ld none, [.t 37]⟩, ⟨.t 39, none, .fad 2, [.l 6]⟩, ⟨.t 40, none, .ld none, [.t 39]⟩, ⟨.t 41, none, .fad 1, [.l 8]⟩, ⟨.t 42, none, .ld none, [.t 41]⟩, ⟨.t 43, none, .build [.i .i64 0, .i .i64 0, .i .i64 0, .i .i64 0, .i .i64 0, .sl none 0 0 0, .b false] [(0, 1), (1, 1), (2, 1), (3, 1), (4, 1)], [.t 34, .t 36, .t 38, .t 40, .t 42]⟩, ⟨.l 9, none, .alloc [.i .i64 0, .i .i64 0, .i .i64 0, .i .i64 0, .i .i64 0, .sl none 0 0 0, .b false], []⟩, ⟨.no, none, .st 7, [.l 9, .t 43]⟩]) (.seq (.reg [⟨.t 45, none, .fad 2, [.l 8]⟩, ⟨.t 46, none, .ld none, [.t 45]⟩, ⟨.t 47, none, .mv, [.l 1]⟩, ⟨.t 48, none, .call (N k_chanq_Chan_Put), [.t 46, .t 47]⟩, ⟨.t 44, none, .mv, [.t 48]⟩, ⟨.t 49, none, .ext 0, [.t 44]⟩, ⟨.t 50, none, .ext 1, [.t 44]⟩, ⟨.t 51, none, .fad 5, [.l 9]⟩, ⟨.no, none, .st 1, [.t 51, .t 49]⟩, ⟨.t 52, none, .fad 6, [.l 9]⟩, ⟨.no, none, .st 1, [.t 52, .t 50]⟩]) (.seq (.reg [⟨.t 53, none, .ld (some 7), [.l 9]⟩, ⟨.no, none, .st 7, [.l 4, .t 53]⟩, ⟨.l 5, none, .mv, [.c (.b true)]⟩]) .ret))))
noncomputable def D_timer_Set_Fire_5 (F : TF) (N : TN) (Q : TQ) (x0 : AV) (x1 : AV) (x4 : AV) (x6 : AV) (L : Lg) : Prop :=
 wpOp F .nilchk [x0] L fun v1 L1 =>
 wpOp F (.fad 0) [v1] L1 fun v2 L2 =>
 wpOp F (.ld none) [v2] L2 fun v3 L3 =>
 wpOp F (.fad 0) [x6] L3 fun v4 L4 =>
 wpOp F (.ld none) [v4] L4 fun v5 L5 =>
 wpOp F (.iad 4) [v3, v5] L5 fun v6 L6 =>
 wpOp F (.ld (some 4)) [v6] L6 fun v7 L7 =>
 wpOp F (.alloc [.i .i64 0, .i .i64 0, .p none, .i .i64 0]) [] L7 fun v8 L8 =>
 wpOp F (.st 4) [v8, v7] L8 fun _ L9 =>
 wpOp F (.fad 0) [x6] L9 fun v10 L10 =>
 wpOp F (.ld none) [v10] L10 fun v11 L11 =>
 wpOp F (.fad 0) [v8] L11 fun v12 L12 =>
 wpOp F (.ld none) [v12] L12 fun v13 L13 =>
 wpOp F (.fad 1) [x6] L13 fun v14 L14 =>
 wpOp F (.ld none) [v14] L14 fun v15 L15 =>
 wpOp F (.fad 2) [x6] L15 fun v16 L16 =>
 wpOp F (.ld none) [v16] L16 fun v17 L17 =>
 wpOp F (.fad 1) [v8] L17 fun v18 L18 =>
 wpOp F (.ld none) [v18] L18 fun v19 L19 =>
 wpOp F (.build [.i .i64 0, .i .i64 0, .i .i64 0, .i .i64 0, .i .i64 0, .sl none 0 0 0, .b false] [(0, 1), (1, 1), (2, 1), (3, 1), (4, 1)]) [v11, v13, v15, v17, v19] L19 fun v20 L20 =>
 wpOp F (.alloc [.i .i64 0, .i .i64 0, .i .i64 0, .i .i64 0, .i .i64 0, .sl none 0 0 0, .b false]) [] L20 fun v21 L21 =>
 wpOp F (.st 7) [v21, v20] L21 fun _ L22 =>
 wpOp F (.fad 2) [v8] L22 fun v23 L23 =>
 wpOp F (.ld none) [v23] L23 fun v24 L24 =>
 CallL F (N k_chanq_Chan_Put) [v24, x1] L24 fun v25 L25 =>
 wpOp F (.ext 0) [v25] L25 fun v26 L26 =>
 wpOp F (.ext 1) [v25] L26 fun v27 L27 =>
 wpOp F (.fad 5) [v21] L27 fun v28 L28 =>
 wpOp F (.st 1) [v28, v26] L28 fun _ L29 =>
 wpOp F (.fad 6) [v21] L29 fun v30 L30 =>
 wpOp F (.st 1) [v30, v27] L30 fun _ L31 =>
 wpOp F (.ld (some 7)) [v21] L31 fun v32 L32 =>
 wpOp F (.st 7) [x4, v32] L32 fun _ L33 =>
 fin1 (resVL Env.nil Env.nil L33 [.cell (.c x4) (some 7), .tmp (.c (.b true))]) Q L33
theorem e_timer_Set_Fire_5 (F : TF) (N : TN) (Q : TQ) (l t : Env) (L : Lg) : wp F (q_timer_Set_Fire_5 N) l t L (fin [.cell (.l 4) (some 7), .tmp (.l 5)] Q) nE (fin [.cell (.l 4) (some 7), .tmp (.l 5)] Q) = D_timer_Set_Fire_5 F N Q (l 0) (l 1) (l 4) (l 6) L := by kernel_rfl
def q_timer_Set_Fire_4a (N : TN) : ACode := (.seq (.reg [⟨.t 22, none, .mv, [.l 7]⟩, ⟨.t 23, none, .un .not, [.t 22]⟩]) (.cond (.t 23) (.seq (.reg [⟨.t 24, none, .build [.i .i64 0, .i .i64 0, .i .i64 0, .i .i64 0, .i .i64 0, .sl none 0 0 0, .b false] [], []⟩, ⟨.no, none, .st 7, [.l 4, .t 24]⟩, ⟨.l 5, none, .mv, [.c (.b false)]⟩]) .ret) .skip))
def q_timer_Set_Fire_4 (N : TN) : ACode := (.seq (q_timer_Set_Fire_4a N) (q_timer_Set_Fire_5 N))
noncomputable def D_timer_Set_Fire_4 (F : TF) (N : TN) (Q : TQ) (x0 : AV) (x1 : AV) (x4 : AV) (x6 : AV) (x7 : AV) (L : Lg) : Prop :=
 wpOp F (.un .not) [x7] L fun v1 L1 =>
 condW v1
 (wpOp F (.build [.i .i64 0, .i .i64 0, .i .i64 0, .i .i64 0, .i .i64 0, .sl none 0 0 0, .b false] []) [] L1 fun v2 L2 =>
 wpOp F (.st 7) [x4, v2] L2 fun _ L3 =>
 fin1 (resVL Env.nil Env.nil L3 [.cell (.c x4) (some 7), .tmp (.c (.b false))]) Q L3)
 (D_timer_Set_Fire_5 F N Q x0 x1 x4 x6 L1)
theorem e_timer_Set_Fire_4 (F : TF) (N : TN) (Q : TQ) (l t : Env) (L : Lg) : wp F (q_timer_Set_Fire_4 N) l t L (fin [.cell (.l 4) (some 7), .tmp (.l 5)] Q) nE (fin [.cell (.l 4) (some 7), .tmp (.l 5)] Q) = D_timer_Set_Fire_4 F N Q (l 0) (l 1) (l 4) (l 6) (l 7) L := wpS (e_timer_Set_Fire_5 F N Q) (by kernel_rfl)
def q_timer_Set_Fire_3a (N : TN) : ACode := (.reg [⟨.t 14, none, .mv, [.l 0]⟩, ⟨.t 15, none, .nilchk, [.t 14]⟩, ⟨.t 16, none, .fad 1, [.t 15]⟩, ⟨.t 17, none, .ld none, [.t 16]⟩, ⟨.t 18, none, .mv, [.l 1]⟩, ⟨.t 19, none, .call (N k_expire_Timers_Take), [.t 17, .t 18]⟩, ⟨.t 13, none, .mv, [.t 19]⟩, ⟨.t 20, none, .ext 0, [.t 13]⟩, ⟨.t 21, none, .ext 1, [.t 13]⟩, ⟨.l 6, none, .alloc [.i .i64 0, .i .i64 0, .i .i64 0], []⟩, ⟨.no, none, .st 3, [.l 6, .t 20]⟩, ⟨.l 7, none, .mv, [.t 21]⟩])
def q_timer_Set_Fire_3 (N : TN) : ACode := (.seq (q_timer_Set_Fire_3a N) (q_timer_Set_Fire_4 N))
noncomputable def D_timer_Set_Fire_3 (F : TF) (N : TN) (Q : TQ) (x0 : AV) (x1 : AV) (x4 : AV) (L : Lg) : Prop :=
 wpOp F .nilchk [x0] L fun v1 L1 =>
 wpOp F (.fad 1) [v1] L1 fun v2 L2 =>
 wpOp F (.ld none) [v2] L2 fun v3 L3 =>
 CallL F (N k_expire_Timers_Take) [v3, x1] L3 fun v4 L4 =>
 wpOp F (.ext 0) [v4] L4 fun v5 L5 =>
 wpOp F (.ext 1) [v4] L5 fun v6 L6 =>
 wpOp F (.alloc [.i .i64 0, .i .i64 0, .i .i64 0]) [] L6 fun v7 L7 =>
 wpOp F (.st 3) [v7, v5] L7 fun _ L8 =>
 D_timer_Set_Fire_4 F N Q x0 x1 x4 v7 v6 L8
theorem e_timer_Set_Fire_3 (F : TF) (N : TN) (Q : TQ) (l t : Env) (L : Lg) : wp F (q_timer_Set_Fire_3 N) l t L (fin [.cell (.l 4) (some 7), .tmp (.l 5)] Q) nE (fin [.cell (.l 4) (some 7), .tmp (.l 5)] Q) = D_timer_Set_Fire_3 F N Q (l 0) (l 1) (l 4) L := wpS (e_timer_Set_Fire_4 F N Q) (by kernel_rfl)
def q_timer_Set_Fire_2a (N : TN) : ACode := (.seq (.reg [⟨.t 10, none, .mv, [.l 0]⟩, ⟨.t 11, none, .eq false .ptr, [.t 10, .c (.p none)]⟩]) (.cond (.t 11) (.seq (.reg [⟨.t 12, none, .build [.i .i64 0, .i .i64 0, .i .i64 0, .i .i64 0, .i .i64 0, .sl none 0 0 0, .b false] [], []⟩, ⟨.no, none, .st 7, [.l 4, .t 12]⟩, ⟨.l 5, none, .mv, [.c (.b false)]⟩]) .ret) .skip))
def q_timer_Set_Fire_2 (N : TN) : ACode := (.seq (q_timer_Set_Fire_2a N) (q_timer_Set_Fire_3 N))
noncomputable def D_timer_Set_Fire_2 (F : TF) (N : TN) (Q : TQ) (x0 : AV) (x1 : AV) (x4 : AV) (L : Lg) : Prop :=
 wpOp F (.eq false .ptr) [x0, (.p none)] L fun v1 L1 =>
 condW v1
 (wpOp F (.build [.i .i64 0, .i .i64 0, .i .i64 0, .i .i64 0, .i .i64 0, .sl none 0 0 0, .b false] []) [] L1 fun v2 L2 =>
 wpOp F (.st 7) [x4, v2] L2 fun _ L3 =>
 fin1 (resVL Env.nil Env.nil L3 [.cell (.c x4) (some 7), .tmp (.c (.b false))]) Q L3)
 (D_timer_Set_Fire_3 F N Q x0 x1 x4 L1)
theorem e_timer_Set_Fire_2 (F : TF) (N : TN) (Q : TQ) (l t : Env) (L : Lg) : wp F (q_timer_Set_Fire_2 N) l t L (fin [.cell (.l 4) (some 7), .tmp (.l 5)] Q) nE (fin [.cell (.l 4) (some 7), .tmp (.l 5)] Q) = D_timer_Set_Fire_2 F N Q (l 0) (l 1) (l 4) L := wpS (e_timer_Set_Fire_3 F N Q) (by kernel_rfl)
def q_timer_Set_Fire_1a (N : TN) : ACode := (.reg [⟨.l 4, none, .alloc [.i .i64 0, .i .i64 0, .i .i64 0, .i .i64 0, .i .i64 0, .sl none 0 0 0, .b false], []⟩, ⟨.l 5, none, .mv, [.c (.b false)]⟩])
def q_timer_Set_Fire_1 (N : TN) : ACode := (.seq (q_timer_Set_Fire_1a N) (q_timer_Set_Fire_2 N))
noncomputable def D_timer_Set_Fire_1 (F : TF) (N : TN) (Q : TQ) (x0 : AV) (x1 : AV) (L : Lg) : Prop :=
 wpOp F (.alloc [.i .i64 0, .i .i64 0, .i .i64 0, .i .i64 0, .i .i64 0, .sl none 0 0 0, .b false]) [] L fun v1 L1 =>
 D_timer_Set_Fire_2 F N Q x0 x1 v1 L1
theorem e_timer_Set_Fire_1 (F : TF) (N : TN) (Q : TQ) (l t : Env) (L : Lg) : wp F (q_timer_Set_Fire_1 N) l t L (fin [.cell (.l 4) (some 7), .tmp (.l 5)] Q) nE (fin [.cell (.l 4) (some 7), .tmp (.l 5)] Q) = D_timer_Set_Fire_1 F N Q (l 0) (l 1) L := wpS (e_timer_Set_Fire_2 F N Q) (by kernel_rfl)
/-- (*tarpaulin/timer.Set).Fire -/
def c_timer_Set_Fire (N : TN) : AFn := ⟨q_timer_Set_Fire_1 N, [.cell (.l 4) (some 7), .tmp (.l 5)]⟩
structure H_timer_Set_Fire (N : TN) (F : TF) : Prop where
  code : F (N k_timer_Set_Fire) = some (c_timer_Set_Fire N)
  expire_Timers_Take : H_expire_Timers_Take N F
  chanq_Chan_Put : H_chanq_Chan_Put N F
theorem r_timer_Set_Fire {F : TF} {N : TN} (h : F (N k_timer_Set_Fire) = some (c_timer_Set_Fire N)) {Q : TQ} {a0 a1 : AV} {L : Lg} (e : D_timer_Set_Fire_1 F N Q a0 a1 L) : CallL F (N k_timer_Set_Fire) [a0, a1] L Q :=
  CallL.of_wp h (Eq.mpr (Eq.trans (e_timer_Set_Fire_1 F N Q (initE [a0, a1] 0) Env.nil L) (by kernel_rfl : _ = D_timer_Set_Fire_1 F N Q a0 a1 L)) e)
def q_timer_Set_has_1 (N : TN) : ACode := (.seq (.reg [⟨.l 4, none, .mv, [.c (.b false)]⟩]) (.seq (.reg [⟨.t 5, none, .mv, [.l 0]⟩, ⟨.t 6, none, .eq true .ptr, [.t 5, .c (.p none)]⟩, ⟨.t 7, none, .mv, [.t 6]⟩, ⟨.t 8, some (.t 7, true), .mv, [.l 1]⟩, ⟨.t 9, some (.t 7, true), .bin .geq, [.t 8, .c (.i .i64 0)]⟩, ⟨.t 10, none, .pick, [.t 7, .t 9, .c (.b false)]⟩, ⟨.t 11, none, .mv, [.t 10]⟩, ⟨.t 12, some (.t 11, true), .mv, [.l 1]⟩, ⟨.t 13, some (.t 11, true), .mv, [.l 0]⟩, ⟨.t 14, some (.t 11, true), .nilchk, [.t 13]⟩, ⟨.t 15, some (.t 11, true), .fad 0, [.t 14]⟩, ⟨.t 16, some (.t 11, true), .ld none, [.t 15]⟩, ⟨.t 17, some (.t 11, true), .lenSl, [.t 16]⟩, ⟨.t 18, some (.t 11, true), .bin .lss, [.t 12, .t 17]⟩, ⟨.t 19, none, .pick, [.t 11, .t 18, .c (.b false)]⟩, ⟨.l 4, none, .mv, [.t 19]⟩]) .ret))
noncomputable def D_timer_Set_has_1 (F : TF) (N : TN) (Q : TQ) (x0 : AV) (x1 : AV) (L : Lg) : Prop :=
 wpOp F (.eq true .ptr) [x0, (.p none)] L fun v1 L1 =>
 gdOp F v1 true .mv [x1] L1 fun v2 L2 =>
 gdOp F v1 true (.bin .geq) [v2, (.i .i64 0)] L2 fun v3 L3 =>
 wpOp F .pick [v1, v3, (.b false)] L3 fun v4 L4 =>
 gdOp F v4 true .mv [x1] L4 fun v5 L5 =>
 gdOp F v4 true .mv [x0] L5 fun v6 L6 =>
 gdOp F v4 true .nilchk [v6] L6 fun v7 L7 =>
 gdOp F v4 true (.fad 0) [v7] L7 fun v8 L8 =>
 gdOp F v4 true (.ld none) [v8] L8 fun v9 L9 =>
 gdOp F v4 true .lenSl [v9] L9 fun v10 L10 =>
 gdOp F v4 true (.bin .lss) [v5, v10] L10 fun v11 L11 =>
 wpOp F .pick [v4, v11, (.b false)] L11 fun v12 L12 =>
 fin1 (some v12) Q L12
theorem e_timer_Set_has_1 (F : TF) (N : TN) (Q : TQ) (l t : Env) (L : Lg) : wp F (q_timer_Set_has_1 N) l t L (fin [.tmp (.l 4)] Q) nE (fin [.tmp (.l 4)] Q) = D_timer_Set_has_1 F N Q (l 0) (l 1) L := by kernel_rfl
/-- (*tarpaulin/timer.Set).has -/
def c_timer_Set_has (N : TN) : AFn := ⟨q_timer_Set_has_1 N, [.tmp (.l 4)]⟩
structure H_timer_Set_has (N : TN) (F : TF) : Prop where
  code : F (N k_timer_Set_has) = some (c_timer_Set_has N)
theorem r_timer_Set_has {F : TF} {N : TN} (h : F (N k_timer_Set_has) = some (c_timer_Set_has N)) {Q : TQ} {a0 a1 : AV} {L : Lg} (e : D_timer_Set_has_1 F N Q a0 a1 L) : CallL F (N k_timer_Set_has) [a0, a1] L Q :=
  CallL.of_wp h (Eq.mpr (Eq.trans (e_timer_Set_has_1 F N Q (initE [a0, a1] 0) Env.nil L) (by kernel_rfl : _ = D_timer_Set_has_1 F N Q a0 a1 L)) e)
def q_chanq_Chan_Drop_1 (N : TN) : ACode := (.seq (.reg [⟨.l 2, none, .mv, [.c (.b false)]⟩]) (.seq (.reg [⟨.t 3, none, .mv, [.l 0]⟩, ⟨.t 4, none, .eq true .ptr, [.t 3, .c (.p none)]⟩, ⟨.t 5, none, .mv, [.t 4]⟩, ⟨.t 6, some (.t 5, true), .mv, [.l 0]⟩, ⟨.t 7, some (.t 5, true), .nilchk, [.t 6]⟩, ⟨.t 8, some (.t 5, true), .fad 3, [.t 7]⟩, ⟨.t 9, some (.t 5, true), .ld none, [.t 8]⟩, ⟨.t 10, none, .pick, [.t 5, .t 9, .c (.b false)]⟩, ⟨.t 11, none, .mv, [.t 10]⟩, ⟨.t 12, some (.t 11, true), .mv, [.l 0]⟩, ⟨.t 13, some (.t 11, true), .nilchk, [.t 12]⟩, ⟨.t 14, some (.t 11, true), .fad 0, [.t 13]⟩, ⟨.t 15, some (.t 11, true), .ld none, [.t 14]⟩, ⟨.t 16, some (.t 11, true), .call (N k_ring_Ring_Clear), [.t 15]⟩, ⟨.t 17, some (.t 11, true), .bin .gtr, [.t 16, .c (.i .i64 0)]⟩, ⟨.t 18, none, .pick, [.t 11, .t 17, .c (.b false)]⟩, ⟨.l 2, none, .mv, [.t 18]⟩]) .ret))
noncomputable def D_chanq_Chan_Drop_1 (F : TF) (N : TN) (Q : TQ) (x0 : AV) (L : Lg) : Prop :=
 wpOp F (.eq true .ptr) [x0, (.p none)] L fun v1 L1 =>
 gdOp F v1 true .mv [x0] L1 fun v2 L2 =>
 gdOp F v1 true .nilchk [v2] L2 fun v3 L3 =>
 gdOp F v1 true (.fad 3) [v3] L3 fun v4 L4 =>
 gdOp F v1 true (.ld none) [v4] L4 fun v5 L5 =>
 wpOp F .pick [v1, v5, (.b false)] L5 fun v6 L6 =>
 gdOp F v6 true .mv [x0] L6 fun v7 L7 =>
 gdOp F v6 true .nilchk [v7] L7 fun v8 L8 =>
 gdOp F v6 true (.fad 0) [v8] L8 fun v9 L9 =>
 gdOp F v6 true (.ld none) [v9] L9 fun v10 L10 =>
 gdOp F v6 true (.call (N k_ring_Ring_Clear)) [v10] L10 fun v11 L11 =>
 gdOp F v6 true (.bin .gtr) [v11, (.i .i64 0)] L11 fun v12 L12 =>
 wpOp F .pick [v6, v12, (.b false)] L12 fun v13 L13 =>
 fin1 (some v13) Q L13
theorem e_chanq_Chan_Drop_1 (F : TF) (N : TN) (Q : TQ) (l t : Env) (L : Lg) : wp F (q_chanq_Chan_Drop_1 N) l t L (fin [.tmp (.l 2)] Q) nE (fin [.tmp (.l 2)] Q) = D_chanq_Chan_Drop_1 F N Q (l 0) L := by kernel_rfl
/-- (*tarpaulin/chanq.Chan).Drop -/
def c_chanq_Chan_Drop (N : TN) : AFn := ⟨q_chanq_Chan_Drop_1 N, [.tmp (.l 2)]⟩
structure H_chanq_Chan_Drop (N : TN) (F : TF) : Prop where
  code : F (N k_chanq_Chan_Drop) = some (c_chanq_Chan_Drop N)
  ring_Ring_Clear : H_ring_Ring_Clear N F
theorem r_chanq_Chan_Drop {F : TF} {N : TN} (h : F (N k_chanq_Chan_Drop) = some (c_chanq_Chan_Drop N)) {Q : TQ} {a0 : AV} {L : Lg} (e : D_chanq_Chan_Drop_1 F N Q a0 L) : CallL F (N k_chanq_Chan_Drop) [a0] L Q :=
  CallL.of_wp h (Eq.mpr (Eq.trans (e_chanq_Chan_Drop_1 F N Q (initE [a0] 0) Env.nil L) (by kernel_rfl : _ = D_chanq_Chan_Drop_1 F N Q a0 L)) e)
def q_timer_Set_Stop_1 (N : TN) : ACode := (.seq (.reg [⟨.l 4, none, .mv, [.c (.b false)]⟩, ⟨.l 5, none, .mv, [.c (.i .i64 0)]⟩]) (.seq (.seq (.reg [⟨.t 7, none, .mv, [.l 0]⟩, ⟨.t 8, none, .mv, [.l 1]⟩, ⟨.t 9, none, .call (N k_timer_Set_has), [.t 7, .t 8]⟩, ⟨.t 10, none, .un .not, [.t 9]⟩]) (.cond (.t 10) (.seq (.reg [⟨.l 4, none, .mv, [.c (.b false)]⟩, ⟨.l 5, none, .mv, [.c (.i .i64 4)]⟩]) .ret) .skip)) (.seq (.reg [⟨.t 11, none, .mv, [.l 0]⟩, ⟨.t 12, none, .nilchk, [.t 11]⟩, ⟨.t 13, none, .fad 1, [.t 12]⟩, ⟨.t 14, none, .ld none, [.t 13]⟩, ⟨.t 15, none, .mv, [.l 1]⟩, ⟨.t 16, none, .call (N k_expire_Timers_Stop), [.t 14, .t 15]⟩, ⟨.l 6, none, .mv, [.t 16]⟩]) (.seq (.reg [⟨.t 17, none, .mv, [.l 0]⟩, ⟨.t 18, none, .nilchk, [.t 17]⟩, ⟨.t 19, none, .fad 0, [.t 18]⟩, ⟨.t 20, none, .ld none, [.t 19]⟩, ⟨.t 21, none, .mv, [.l 1]⟩, ⟨.t 22, none, .iad 4, [.t 20, .t 21]⟩, ⟨.t 23, none, .fad 2, [.t 22]⟩, ⟨.t 24, none, .ld none, [.t 23]⟩, ⟨.t 25, none, .call (N k_chanq_Chan_Drop), [.t 24]⟩, ⟨.t 26, none, .mv, [.t 25]⟩, ⟨.t 27, some (.t 26, false), .mv, [.l 6]⟩, ⟨.t 28, none, .pick, [.t 26, .c (.b true), .t 27]⟩, ⟨.l 4, none, .mv, [.t 28]⟩, ⟨.l 5, none, .mv, [.c (.i .i64 0)]⟩]) .ret))))
noncomputable def D_timer_Set_Stop_1 (F : TF) (N : TN) (Q : TQ) (x0 : AV) (x1 : AV) (L : Lg) : Prop :=
 CallL F (N k_timer_Set_has) [x0, x1] L fun v1 L1 =>
 wpOp F (.un .not) [v1] L1 fun v2 L2 =>
 condW v2
 (fin1 (some (.tup [(.b false), (.i .i64 4)])) Q L2)
 (wpOp F .nilchk [x0] L2 fun v3 L3 =>
 wpOp F (.fad 1) [v3] L3 fun v4 L4 =>
 wpOp F (.ld none) [v4] L4 fun v5 L5 =>
 CallL F (N k_expire_Timers_Stop) [v5, x1] L5 fun v6 L6 =>
 wpOp F .nilchk [x0] L6 fun v7 L7 =>
 wpOp F (.fad 0) [v7] L7 fun v8 L8 =>
 wpOp F (.ld none) [v8] L8 fun v9 L9 =>
 wpOp F (.iad 4) [v9, x1] L9 fun v10 L10 =>
 wpOp F (.fad 2) [v10] L10 fun v11 L11 =>
 wpOp F (.ld none) [v11] L11 fun v12 L12 =>
 CallL F (N k_chanq_Chan_Drop) [v12] L12 fun v13 L13 =>
 gdOp F v13 false .mv [v6] L13 fun v14 L14 =>
 wpOp F .pick [v13, (.b true), v14] L14 fun v15 L15 =>
 fin1 (some (.tup [v15, (.i .i64 0)])) Q L15)
theorem e_timer_Set_Stop_1 (F : TF) (N : TN) (Q : TQ) (l t : Env) (L : Lg) : wp F (q_timer_Set_Stop_1 N) l t L (fin [.tmp (.l 4), .tmp (.l 5)] Q) nE (fin [.tmp (.l 4), .tmp (.l 5)] Q) = D_timer_Set_Stop_1 F N Q (l 0) (l 1) L := by kernel_rfl
/-- (*tarpaulin/timer.Set).Stop -/
def c_timer_Set_Stop (N : TN) : AFn := ⟨q_timer_Set_Stop_1 N, [.tmp (.l 4), .tmp (.l 5)]⟩
structure H_timer_Set_Stop (N : TN) (F : TF) : Prop where
  code : F (N k_timer_Set_Stop) = some (c_timer_Set_Stop N)
  timer_Set_has : H_timer_Set_has N F
  expire_Timers_Stop : H_expire_Timers_Stop N F
  chanq_Chan_Drop : H_chanq_Chan_Drop N F
theorem r_timer_Set_Stop {F : TF} {N : TN} (h : F (N k_timer_Set_Stop) = some (c_timer_Set_Stop N)) {Q : TQ} {a0 a1 : AV} {L : Lg} (e : D_timer_Set_Stop_1 F N Q a0 a1 L) : CallL F (N k_timer_Set_Stop) [a0, a1] L Q :=
  CallL.of_wp h (Eq.mpr (Eq.trans (e_timer_Set_Stop_1 F N Q (initE [a0, a1] 0) Env.nil L) (by kernel_rfl : _ = D_timer_Set_Stop_1 F N Q a0 a1 L)) e)
def q_timer_Set_Lapse_1 (N : TN) : ACode := (.seq (.reg [⟨.l 6, none, .mv, [.c (.i .i64 0)]⟩, ⟨.l 7, none, .mv, [.c (.i .i64 0)]⟩]) (.seq (.reg [⟨.t 8, none, .mv, [.l 0]⟩, ⟨.t 9, none, .mv, [.l 2]⟩, ⟨.t 10, none, .build [.i .i64 0, .i .i64 0, .p none, .i .i64 0] [(0, 1), (1, 1)], [.c (.i .i64 4), .t 9]⟩, ⟨.t 11, none, .mv, [.l 1]⟩, ⟨.t 12, none, .call (N k_timer_Set_make), [.t 8, .t 10, .c (.i .i64 0), .t 11]⟩, ⟨.t 13, none, .ext 0, [.t 12]⟩, ⟨.t 14, none, .ext 1, [.t 12]⟩, ⟨.l 6, none, .mv, [.t 13]⟩, ⟨.l 7, none, .mv, [.t 14]⟩]) .ret))
noncomputable def D_timer_Set_Lapse_1 (F : TF) (N : TN) (Q : TQ) (x0 : AV) (x1 : AV) (x2 : AV) (L : Lg) : Prop :=
 wpOp F (.build [.i .i64 0, .i .i64 0, .p none, .i .i64 0] [(0, 1), (1, 1)]) [(.i .i64 4), x2] L fun v1 L1 =>
 CallL F (N k_timer_Set_make) [x0, v1, (.i .i64 0), x1] L1 fun v2 L2 =>
 wpOp F (.ext 0) [v2] L2 fun v3 L3 =>
 wpOp F (.ext 1) [v2] L3 fun v4 L4 =>
 fin1 (some (.tup [v3, v4])) Q L4
theorem e_timer_Set_Lapse_1 (F : TF) (N : TN) (Q : TQ) (l t : Env) (L : Lg) : wp F (q_timer_Set_Lapse_1 N) l t L (fin [.tmp (.l 6), .tmp (.l 7)] Q) nE (fin [.tmp (.l 6), .tmp (.l 7)] Q) = D_timer_Set_Lapse_1 F N Q (l 0) (l 1) (l 2) L := by kernel_rfl
/-- (*tarpaulin/timer.Set).Lapse -/
def c_timer_Set_Lapse (N : TN) : AFn := ⟨q_timer_Set_Lapse_1 N, [.tmp (.l 6), .tmp (.l 7)]⟩
structure H_timer_Set_Lapse (N : TN) (F : TF) : Prop where
  code : F (N k_timer_Set_Lapse) = some (c_timer_Set_Lapse N)
  timer_Set_make : H_timer_Set_make N F
theorem r_timer_Set_Lapse {F : TF} {N : TN} (h : F (N k_timer_Set_Lapse) = some (c_timer_Set_Lapse N)) {Q : TQ} {a0 a1 a2 : AV} {L : Lg} (e : D_timer_Set_Lapse_1 F N Q a0 a1 a2 L) : CallL F (N k_timer_Set_Lapse) [a0, a1, a2] L Q :=
  CallL.of_wp h (Eq.mpr (Eq.trans (e_timer_Set_Lapse_1 F N Q (initE [a0, a1, a2] 0) Env.nil L) (by kernel_rfl : _ = D_timer_Set_Lapse_1 F N Q a0 a1 a2 L)) e)
def q_timer_Set_Next_1 (N : TN) : ACode := (.seq (.reg [⟨.l 2, none, .mv, [.c (.i .i64 0)]⟩, ⟨.l 3, none, .mv, [.c (.b false)]⟩]) (.seq (.seq (.reg [⟨.t 4, none, .mv, [.l 0]⟩, ⟨.t 5, none, .eq false .ptr, [.t 4, .c (.p none)]⟩]) (.cond (.t 5) (.seq (.reg [⟨.l 2, none, .mv, [.c (.i .i64 0)]⟩, ⟨.l 3, none, .mv, [.c (.b false)]⟩]) .ret) .skip)) (.seq (.reg [⟨.t 6, none, .mv, [.l 0]⟩, ⟨.t 7, none, .nilchk, [.t 6]⟩, ⟨.t 8, none, .fad 1, [.t 7]⟩, ⟨.t 9, none, .ld none, [.t 8]⟩, ⟨.t 10, none, .call (N k_expire_Timers_Next), [.t 9]⟩, ⟨.t 11, none, .ext 0, [.t 10]⟩, ⟨.t 12, none, .ext 1, [.t 10]⟩, ⟨.l 2, none, .mv, [.t 11]⟩, ⟨.l 3, none, .mv, [.t 12]⟩]) .ret)))
noncomputable def D_timer_Set_Next_1 (F : TF) (N : TN) (Q : TQ) (x0 : AV) (L : Lg) : Prop :=
 wpOp F (.eq false .ptr) [x0, (.p none)] L fun v1 L1 =>
 condW v1
 (fin1 (some (.tup [(.i .i64 0), (.b false)])) Q L1)
 (wpOp F .nilchk [x0] L1 fun v2 L2 =>
 wpOp F (.fad 1) [v2] L2 fun v3 L3 =>
 wpOp F (.ld none) [v3] L3 fun v4 L4 =>
 CallL F (N k_expire_Timers_Next) [v4] L4 fun v5 L5 =>
 wpOp F (.ext 0) [v5] L5 fun v6 L6 =>
 wpOp F (.ext 1) [v5] L6 fun v7 L7 =>
 fin1 (some (.tup [v6, v7])) Q L7)
theorem e_timer_Set_Next_1 (F : TF) (N : TN) (Q : TQ) (l t : Env) (L : Lg) : wp F (q_timer_Set_Next_1 N) l t L (fin [.tmp (.l 2), .tmp (.l 3)] Q) nE (fin [.tmp (.l 2), .tmp (.l 3)] Q) = D_timer_Set_Next_1 F N Q (l 0) L := by kernel_rfl
/-- (*tarpaulin/timer.Set).Next -/
def c_timer_Set_Next (N : TN) : AFn := ⟨q_timer_Set_Next_1 N, [.tmp (.l 2), .tmp (.l 3)]⟩
structure H_timer_Set_Next (N : TN) (F : TF) : Prop where
  code : F (N k_timer_Set_Next) = some (c_timer_Set_Next N)
  expire_Timers_Next : H_expire_Timers_Next N F
theorem r_timer_Set_Next {F : TF} {N : TN} (h : F (N k_timer_Set_Next) = some (c_timer_Set_Next N)) {Q : TQ} {a0 : AV} {L : Lg} (e : D_timer_Set_Next_1 F N Q a0 L) : CallL F (N k_timer_Set_Next) [a0] L Q :=
  CallL.of_wp h (Eq.mpr (Eq.trans (e_timer_Set_Next_1 F N Q (initE [a0] 0) Env.nil L) (by kernel_rfl : _ = D_timer_Set_Next_1 F N Q a0 L)) e)
end Go.AM

/- chanq: what its functions do. -/
set_option linter.unusedVariables false
set_option linter.unusedSimpArgs false
namespace Go.AM
variable {N : Nat → Nat} {F : Nat → Option AFn}

/-- a channel -/
structure Ch where
  vals : List Int
  cap : Nat
  recvs : List Wt
  sends : List Wt
  timed : Bool
  signal : Bool
  closed : Bool
/-- one who waits no more -/
structure Wk where
  t : Int
  c : Int
  v : Int
  ok : Bool
  panic : Bool
  deriving DecidableEq
def Wk.cells (w : Wk) : List AV := [.i .i64 w.t, .i .i64 w.c, .i .i64 w.v, .b w.ok, .b w.panic]
def wkcells : List Wk → List AV
  | [] => []
  | w :: r => w.cells ++ wkcells r
def croot (rg q1 q2 : Nat) (x : Ch) : LC := .raw (.cells [.p (some (rg, 0)), .p (some (q1, 0)), .p (some (q2, 0)), .b x.timed, .b x.signal, .b x.closed])
/-- a channel, opened -/
structure COpen (L : Lg) (c : Nat) (x : Ch) (rg q1 q2 : Nat) (L1 : Lg) : Prop where
  n1 : rg ≠ c
  n2 : q1 ≠ c
  n3 : q2 ≠ c
  n4 : rg ≠ q1
  n5 : rg ≠ q2
  n6 : q1 ≠ q2
  root : L1 c = some (croot rg q1 q2 x)
  ring : L1 rg = some (.abs (RingP rg x.vals x.cap))
  rcv : L1 q1 = some (.abs (QueueP q1 x.recvs))
  snd : L1 q2 = some (.abs (QueueP q2 x.sends))
  old : ∀ b d, b ≠ c → b ≠ rg → b ≠ q1 → b ≠ q2 → L b = some d → L1 b = some d
  f1 : L rg = none
  f2 : L q1 = none
  f3 : L q2 = none
def ChanP (c : Nat) (x : Ch) (h : Hp) : Prop := ∃ (rg q1 q2 : Nat) (M : Lg), rg ≠ c ∧ q1 ≠ c ∧ q2 ≠ c ∧ rg ≠ q1 ∧ rg ≠ q2 ∧ q1 ≠ q2 ∧ M c = some (croot rg q1 q2 x) ∧ M rg = some (.abs (RingP rg x.vals x.cap)) ∧
  M q1 = some (.abs (QueueP q1 x.recvs)) ∧ M q2 = some (.abs (QueueP q2 x.sends)) ∧ (∀ b, b ≠ c → b ≠ rg → b ≠ q1 → b ≠ q2 → M b = none) ∧ Sat M h

section
variable {L L1 : Lg} {c rg q1 q2 : Nat} {x : Ch}
theorem COpen.shut (h : COpen L c x rg q1 q2 L1) : Sees L1 (L.put c (.abs (ChanP c x))) := by
  refine Sees.shutAt (fun b => b = c ∨ b = rg ∨ b = q1 ∨ b = q2) (.inl rfl) ?_ ?_ (.inl ⟨_, h.root⟩) ?_
  · intro b d hb hd
    simp only [not_or] at hb
    exact h.old b d hb.1 hb.2.1 hb.2.2.1 hb.2.2.2 hd
  · rintro b (rfl | rfl | rfl | rfl) hb
    · exact absurd rfl hb
    · exact h.f1
    · exact h.f2
    · exact h.f3
  · intro M hp hM hN hs
    refine ⟨rg, q1, q2, M, h.n1, h.n2, h.n3, h.n4, h.n5, h.n6, ?_, ?_, ?_, ?_, ?_, hs⟩
    · rw [hM c (.inl rfl)]; exact h.root
    · rw [hM rg (.inr (.inl rfl))]; exact h.ring
    · rw [hM q1 (.inr (.inr (.inl rfl)))]; exact h.rcv
    · rw [hM q2 (.inr (.inr (.inr rfl)))]; exact h.snd
    · intro b b1 b2 b3 b4; exact hN b (by simp [b1, b2, b3, b4])
theorem CallL.openC {f : Nat} {vs : List AV} {Q : AV → Lg → Prop} (e : L c = some (.abs (ChanP c x)))
    (h : ∀ rg q1 q2 L1, COpen L c x rg q1 q2 L1 → CallL F f vs L1 Q) : CallL F f vs L Q := by
  apply CallL.opens e
  rintro hm ⟨rg, q1, q2, M, n1, n2, n3, n4, n5, n6, m1, m2, m3, m4, m5, hs⟩
  refine ⟨M, hs, by rw [m1]; simp, fun hf => ?_⟩
  have hover : ∀ b d, M b = some d → (M.over L) b = some d := fun b d hb => by simp [Lg.over, hb]
  exact h rg q1 q2 (M.over L) ⟨n1, n2, n3, n4, n5, n6, hover _ _ m1, hover _ _ m2, hover _ _ m3, hover _ _ m4,
    fun b d b1 b2 b3 b4 hd => by simp [Lg.over, m5 b b1 b2 b3 b4, hd], hf _ _ m2 n1, hf _ _ m3 n2, hf _ _ m4 n3⟩
theorem COpen.ext (h : COpen L c x rg q1 q2 L1) {L2 : Lg} (h2 : Ext2 L1 L2) : COpen L c x rg q1 q2 L2 :=
  ⟨h.n1, h.n2, h.n3, h.n4, h.n5, h.n6, h2 _ _ h.root, h2 _ _ h.ring, h2 _ _ h.rcv, h2 _ _ h.snd, fun b d b1 b2 b3 b4 hd => h2 _ _ (h.old b d b1 b2 b3 b4 hd), h.f1, h.f2, h.f3⟩
theorem COpen.setRing (h : COpen L c x rg q1 q2 L1) (ys : List Int) : COpen L c { x with vals := ys } rg q1 q2 (L1.put rg (.abs (RingP rg ys x.cap))) :=
  ⟨h.n1, h.n2, h.n3, h.n4, h.n5, h.n6, by rw [Lg.put_ne _ _ _ (Ne.symm h.n1)]; exact h.root, Lg.put_same _ _ _, by rw [Lg.put_ne _ _ _ (Ne.symm h.n4)]; exact h.rcv, by rw [Lg.put_ne _ _ _ (Ne.symm h.n5)]; exact h.snd,
    fun b d b1 b2 b3 b4 hd => by rw [Lg.put_ne _ _ _ b2]; exact h.old b d b1 b2 b3 b4 hd, h.f1, h.f2, h.f3⟩
theorem COpen.setRcv (h : COpen L c x rg q1 q2 L1) (ws : List Wt) : COpen L c { x with recvs := ws } rg q1 q2 (L1.put q1 (.abs (QueueP q1 ws))) :=
  ⟨h.n1, h.n2, h.n3, h.n4, h.n5, h.n6, by rw [Lg.put_ne _ _ _ (Ne.symm h.n2)]; exact h.root, by rw [Lg.put_ne _ _ _ h.n4]; exact h.ring, Lg.put_same _ _ _, by rw [Lg.put_ne _ _ _ (Ne.symm h.n6)]; exact h.snd,
    fun b d b1 b2 b3 b4 hd => by rw [Lg.put_ne _ _ _ b3]; exact h.old b d b1 b2 b3 b4 hd, h.f1, h.f2, h.f3⟩
theorem COpen.setSnd (h : COpen L c x rg q1 q2 L1) (ws : List Wt) : COpen L c { x with sends := ws } rg q1 q2 (L1.put q2 (.abs (QueueP q2 ws))) :=
  ⟨h.n1, h.n2, h.n3, h.n4, h.n5, h.n6, by rw [Lg.put_ne _ _ _ (Ne.symm h.n3)]; exact h.root, by rw [Lg.put_ne _ _ _ h.n5]; exact h.ring, by rw [Lg.put_ne _ _ _ h.n6]; exact h.rcv, Lg.put_same _ _ _,
    fun b d b1 b2 b3 b4 hd => by rw [Lg.put_ne _ _ _ b4]; exact h.old b d b1 b2 b3 b4 hd, h.f1, h.f2, h.f3⟩
theorem COpen.setRoot (h : COpen L c x rg q1 q2 L1) (a b d : Bool) : COpen L c { x with timed := a, signal := b, closed := d } rg q1 q2 (L1.put c (croot rg q1 q2 { x with timed := a, signal := b, closed := d })) :=
  ⟨h.n1, h.n2, h.n3, h.n4, h.n5, h.n6, Lg.put_same _ _ _, by rw [Lg.put_ne _ _ _ h.n1]; exact h.ring, by rw [Lg.put_ne _ _ _ h.n2]; exact h.rcv, by rw [Lg.put_ne _ _ _ h.n3]; exact h.snd,
    fun b d b1 b2 b3 b4 hd => by rw [Lg.put_ne _ _ _ b1]; exact h.old b d b1 b2 b3 b4 hd, h.f1, h.f2, h.f3⟩
theorem COpen.back (h : COpen L c x rg q1 q2 L1) (e : L c = some (.abs (ChanP c x))) : Sees L1 L := by
  have := h.shut
  rwa [Lg.put_self L c _ e] at this
/-- a channel, and a block that has come beside it -/
theorem COpen.onto (h : COpen L c x rg q1 q2 L1) {b : Nat} {d : LC} (hb : L1 b = none) : COpen (L.put b d) c x rg q1 q2 (L1.put b d) := by
  have e := h.ext ((Ext2.refl L1).put hb d)
  have nb : ∀ {r : Nat} {k : LC}, L1 r = some k → r ≠ b := fun hr hrb => by rw [hrb, hb] at hr; cases hr
  refine ⟨h.n1, h.n2, h.n3, h.n4, h.n5, h.n6, e.root, e.ring, e.rcv, e.snd, ?_, ?_, ?_, ?_⟩
  · intro r k b1 b2 b3 b4 hk
    rw [Lg.put_apply] at hk ⊢
    split
    · rename_i h9; rw [if_pos h9] at hk; exact hk
    · rename_i h9; rw [if_neg h9] at hk; exact h.old r k b1 b2 b3 b4 hk
  · rw [Lg.put_ne _ _ _ (nb h.ring)]; exact h.f1
  · rw [Lg.put_ne _ _ _ (nb h.rcv)]; exact h.f2
  · rw [Lg.put_ne _ _ _ (nb h.snd)]; exact h.f3
theorem COpen.none (h : COpen L c x rg q1 q2 L1) {b : Nat} (hb : L1 b = none) : b ≠ c ∧ L b = none := by
  have nb : ∀ {r : Nat} {k : LC}, L1 r = some k → b ≠ r := fun hr hrb => by rw [← hrb, hb] at hr; cases hr
  refine ⟨nb h.root, ?_⟩
  cases e : L b with
  | none => rfl
  | some d => rw [h.old b d (nb h.root) (nb h.ring) (nb h.rcv) (nb h.snd) e] at hb; cases hb

def Ch.free (x : Ch) (send : Bool) : Bool := if send = true then decide (x.vals.length < x.cap) else decide (0 < x.vals.length)
theorem drop_spec (hf : H_chanq_Chan_Drop N F) (e : L c = some (.abs (ChanP c x))) : CallL F (N k_chanq_Chan_Drop) [.p (some (c, 0))] L fun v L' =>
    if x.timed = true then v = .b (decide (0 < x.vals.length)) ∧ L' = L.put c (.abs (ChanP c { x with vals := [] })) else v = .b false ∧ L' = L := by
  apply CallL.openC e
  intro rg q1 q2 L1 h
  apply r_chanq_Chan_Drop hf.code
  unfold D_chanq_Chan_Drop_1
  cases ht : x.timed
  · simpa [rdL, AB.read, look, h.root, croot, ht] using h.back e
  · simp [rdL, AB.read, look, h.root, croot, ht]
    refine (ringClear_spec hf.ring_Ring_Clear h.ring).mono ?_
    rintro _ L2 ⟨rfl, rfl⟩
    simpa [ht] using (h.setRing []).shut
theorem dropNil_spec (hf : H_chanq_Chan_Drop N F) : CallL F (N k_chanq_Chan_Drop) [.p none] L fun v L' => v = .b false ∧ L' = L := by
  apply r_chanq_Chan_Drop hf.code
  simp [D_chanq_Chan_Drop_1]
theorem putNil_spec (hf : H_chanq_Chan_Put N F) (v : Int) : CallL F (N k_chanq_Chan_Put) [.p none, .i .i64 v] L fun v L' => v = .tup [.sl none 0 0 0, .b false] ∧ L' = L := by
  apply r_chanq_Chan_Put hf.code
  simp [D_chanq_Chan_Put_1]
/-- a value is handed to the first who waits for one -/
theorem deliver_open (hf : H_chanq_Chan_deliver N F) (h : COpen L c x rg q1 q2 L1) (v : Int) : CallL F (N k_chanq_Chan_deliver) [.p (some (c, 0)), .i .i64 v] L1 fun r L' => match (generalizing := false) x.recvs with
    | [] => r = .sl none 0 0 0 ∧ L' = L1
    | w :: ws => FreshSl (L1.put q1 (.abs (QueueP q1 ws))) r (wkcells [⟨w.t, w.c, v, true, false⟩]) 1 5 L' := by
  apply r_chanq_Chan_deliver hf.code
  unfold D_chanq_Chan_deliver_1
  simp [rdL, AB.read, look, h.root, croot]
  refine (queuePop_spec hf.wait_Queue_Pop h.rcv).mono ?_
  intro r L' hr
  cases hx : x.recvs with
  | nil =>
    simp only [hx] at hr
    obtain ⟨rfl, rfl⟩ := hr
    simp [Wt.av]
    intro b hb
    rw [stL_cells (Lg.put_same _ _ _) (by simp [Wt.cells]) (by simp [Wt.cells]) (by simp)]
    simp
    exact ((Ext2.refl L').put hb _).sees
  | cons w ws =>
    simp only [hx] at hr
    obtain ⟨rfl, rfl⟩ := hr
    simp [Wt.av]
    intro b hb
    rw [stL_cells (Lg.put_same _ _ _) (by simp [Wt.cells]) (by simp [Wt.cells]) (by simp), Lg.put_put]
    simp [Wt.cells, splice, rdL, AB.read, look, fillP, beq_nat, ble_nat]
    rw [newL_bslice (c := [.i .i64 w.t, .i .i64 w.c, .i .i64 v, .b true, .b false]) _ _ (by simp [reps, fillP, cellsOf_agg', splice, ble_nat, beq_nat]) (by simp)]
    intro d hd
    have hdb : d ≠ b := by rintro rfl; simp at hd
    rw [Lg.put_ne _ _ _ hdb] at hd
    refine ⟨(L1.put q1 (.abs (QueueP q1 ws))).put d (.raw (.cells [.i .i64 w.t, .i .i64 w.c, .i .i64 v, .b true, .b false])), ?_, .inr ⟨d, 0, hd, by omega, rfl, rfl, by simp [wkcells, Wk.cells]⟩⟩
    rw [Lg.put_comm _ (Ne.symm hdb)]
    apply Ext2.sees
    refine (Ext2.refl _).put ?_ _
    rw [Lg.put_ne _ _ _ (Ne.symm hdb)]; exact hb
/-- what a value that is put makes of a channel: who is woken; whether it was kept -/
def Ch.put (x : Ch) (v : Int) : Ch × List Wk × Bool :=
  if x.timed = true then match x.recvs with
    | w :: ws => ({ x with recvs := ws }, [⟨w.t, w.c, v, true, false⟩], true)
    | [] => if x.vals.length = x.cap then (x, [], false) else ({ x with vals := x.vals ++ [v] }, [], true)
  else (x, [], false)
theorem put_spec (hf : H_chanq_Chan_Put N F) (e : L c = some (.abs (ChanP c x))) (v : Int) : CallL F (N k_chanq_Chan_Put) [.p (some (c, 0)), .i .i64 v] L fun r L' => ∃ s, r = .tup [s, .b (x.put v).2.2] ∧
    FreshSl (L.put c (.abs (ChanP c (x.put v).1))) s (wkcells (x.put v).2.1) (x.put v).2.1.length 5 L' := by
  apply CallL.openC e
  intro rg q1 q2 L1 h
  apply r_chanq_Chan_Put hf.code
  unfold D_chanq_Chan_Put_1
  cases ht : x.timed
  · simp [rdL, AB.read, look, h.root, croot, ht, Ch.put]
    exact ⟨L, h.back e, .inl ⟨rfl, rfl, rfl, by simp [e]⟩⟩
  · simp [rdL, AB.read, look, h.root, croot, ht]
    refine (deliver_open hf.chanq_Chan_deliver h v).mono ?_
    intro r L' hr
    cases hx : x.recvs with
    | nil =>
      simp only [hx] at hr
      obtain ⟨rfl, rfl⟩ := hr
      simp [rdL, AB.read, look, h.root, croot]
      refine (ringPush_spec hf.ring_Ring_Push h.ring v).mono ?_
      intro r L2 hr
      by_cases hc : x.vals.length = x.cap
      · simp only [hc, if_true] at hr
        obtain ⟨rfl, rfl⟩ := hr
        simp [Ch.put, ht, hx, hc]
        exact ⟨L, h.back e, .inl ⟨rfl, rfl, rfl, by simp [e]⟩⟩
      · simp only [hc, if_false] at hr
        obtain ⟨rfl, rfl⟩ := hr
        simp [Ch.put, ht, hx, hc]
        exact ⟨_, (h.setRing (x.vals ++ [v])).shut, .inl ⟨rfl, rfl, rfl, by simp [ht, hx]⟩⟩
    | cons w ws =>
      simp only [hx] at hr
      rcases hr with ⟨h1, _⟩ | ⟨b, ex, hb, h0, rfl, h2, rfl⟩
      · cases h1
      · simp [Ch.put, ht, hx]
        have h3 := h.setRcv ws
        have hn := h3.none hb
        refine ⟨_, (h3.onto hb).shut, .inr ⟨b, ex, ?_, by omega, rfl, rfl, ?_⟩⟩
        · rw [Lg.put_ne _ _ _ hn.1]; exact hn.2
        · rw [Lg.put_comm _ hn.1]; simp [ht]
/-- a channel that has come -/
theorem chanNew_open (hf : H_chanq_New N F) (n : Nat) (hn : n ≤ 64) : CallL F (N k_chanq_New) [.i .i64 n] L fun r L' => ∃ c rg q1 q2, L c = none ∧ r = .tup [.p (some (c, 0)), .i .i64 0] ∧ COpen L c ⟨[], n, [], [], false, false, false⟩ rg q1 q2 L' := by
  apply r_chanq_New hf.code
  unfold D_chanq_New_1
  refine (ringNew_spec hf.ring_New n hn).mono ?_
  rintro _ _ ⟨rg, hrg, rfl, rfl⟩
  simp
  refine (queueNew_spec hf.wait_New).mono ?_
  rintro _ _ ⟨q1, h1, rfl, rfl⟩
  refine (queueNew_spec hf.wait_New).mono ?_
  rintro _ _ ⟨q2, h2, rfl, rfl⟩
  have n1 : q1 ≠ rg := by rintro rfl; simp at h1
  have n2 : q2 ≠ q1 := by rintro rfl; simp at h2
  have n3 : q2 ≠ rg := by rintro rfl; rw [Lg.put_ne _ _ _ n2, Lg.put_same] at h2; cases h2
  rw [Lg.put_ne _ _ _ n1] at h1
  rw [Lg.put_ne _ _ _ n2, Lg.put_ne _ _ _ n3] at h2
  simp [fillP, splice, ble_nat, beq_nat]
  rw [newL_box_agg _ _ _ (by simp)]
  intro c hc
  have n4 : c ≠ q2 := by rintro rfl; simp at hc
  have n5 : c ≠ q1 := by rintro rfl; simp [Lg.put_apply, Ne.symm n2] at hc
  have n6 : c ≠ rg := by rintro rfl; simp [Lg.put_apply, Ne.symm n1, Ne.symm n3] at hc
  rw [Lg.put_ne _ _ _ n4, Lg.put_ne _ _ _ n5, Lg.put_ne _ _ _ n6] at hc
  refine ⟨_, Sees.refl _, c, rg, q1, q2, hc, rfl, Ne.symm n6, Ne.symm n5, Ne.symm n4, Ne.symm n1, Ne.symm n3, Ne.symm n2, Lg.put_same _ _ _, ?_, ?_, ?_, ?_, hrg, h1, h2⟩
  · simp [Lg.put_apply, Ne.symm n6, Ne.symm n1, Ne.symm n3]
  · simp [Lg.put_apply, Ne.symm n5, Ne.symm n2]
  · simp [Lg.put_apply, Ne.symm n4]
  · intro b d b1 b2 b3 b4 hd; simp [Lg.put_apply, b1, b2, b3, b4, hd]
theorem FreshSl.ext {v : AV} {cs : List AV} {n size : Nat} {L' : Lg} (h : FreshSl L v cs n size L') : Ext2 L L' := by
  rcases h with ⟨h1, h2, rfl, rfl⟩ | ⟨b, ex, h1, h2, rfl, h3, rfl⟩
  · exact Ext2.refl _
  · exact (Ext2.refl _).put h1 _
end
end Go.AM


/- maps from whole numbers to whole numbers, as the code's memory holds them. -/
set_option linter.unusedVariables false
set_option linter.unusedSimpArgs false
namespace Go.AM

def enc (ks : List (Int × Int)) : List (AV × AV) := ks.map fun x => (.i .i64 x.1, .i .i64 x.2)
def look1 (k : Int) : List (Int × Int) → Option Int
  | [] => none
  | (a, v) :: r => if a = k then some v else look1 k r
def set1 (k v : Int) : List (Int × Int) → List (Int × Int)
  | [] => [(k, v)]
  | (a, u) :: r => if a = k then (a, v) :: r else (a, u) :: set1 k v r
def del1 (k : Int) : List (Int × Int) → List (Int × Int)
  | [] => []
  | (a, u) :: r => if a = k then r else (a, u) :: del1 k r
theorem look1_cons (k a v : Int) (r : List (Int × Int)) : look1 k ((a, v) :: r) = if a = k then some v else look1 k r := rfl
theorem set1_cons (k v a u : Int) (r : List (Int × Int)) : set1 k v ((a, u) :: r) = if a = k then (a, v) :: r else (a, u) :: set1 k v r := rfl
theorem del1_cons (k a u : Int) (r : List (Int × Int)) : del1 k ((a, u) :: r) = if a = k then r else (a, u) :: del1 k r := rfl
theorem kEq64 : kEq .i64 .i64 = true := rfl
theorem iEq_dec (a b : Int) : iEq a b = decide (a = b) := by rw [iEq_eq, beq_dec]
theorem mfind_enc (k : Int) : ∀ ks, mfind .i64 k (enc ks) = some ((look1 k ks).map (.i .i64 ·))
  | [] => rfl
  | (a, v) :: r => by
    show (bif kEq .i64 .i64 then (bif iEq k a then some (some (AV.i .i64 v)) else mfind .i64 k (enc r)) else none) = _
    rw [kEq64, cond_true, mfind_enc k r, iEq_dec]
    rw [look1_cons]
    by_cases h : a = k
    · simp [h]
    · simp [h, Ne.symm h]
theorem msetL_enc (k v : Int) : ∀ ks, msetL .i64 k (.i .i64 v) (enc ks) = some (enc (set1 k v ks))
  | [] => rfl
  | (a, u) :: r => by
    show (bif kEq .i64 .i64 then (bif iEq k a then some ((AV.i .i64 a, AV.i .i64 v) :: enc r) else (msetL .i64 k (.i .i64 v) (enc r)).map ((AV.i .i64 a, AV.i .i64 u) :: ·)) else none) = _
    rw [kEq64, cond_true, msetL_enc k v r, iEq_dec]
    rw [set1_cons]
    by_cases h : a = k
    · simp [h, enc]
    · simp [h, Ne.symm h, enc]
theorem mdelL_enc (k : Int) : ∀ ks, mdelL .i64 k (enc ks) = some (enc (del1 k ks))
  | [] => rfl
  | (a, u) :: r => by
    show (bif kEq .i64 .i64 then (bif iEq k a then some (enc r) else (mdelL .i64 k (enc r)).map ((AV.i .i64 a, AV.i .i64 u) :: ·)) else none) = _
    rw [kEq64, cond_true, mdelL_enc k r, iEq_dec]
    rw [del1_cons]
    by_cases h : a = k
    · simp [h]
    · simp [h, Ne.symm h, enc]
theorem look1_set1 (k v j : Int) : ∀ ks, look1 j (set1 k v ks) = if k = j then some v else look1 j ks
  | [] => by simp [set1, look1]
  | (a, u) :: r => by
    rw [set1_cons]
    by_cases h : a = k
    · subst h; by_cases h2 : a = j <;> simp [look1, h2]
    · simp only [h, if_false, look1, look1_set1 k v j r]
      by_cases h2 : a = j
      · subst h2; simp [Ne.symm h]
      · simp [h2]
theorem look1_none (j : Int) : ∀ (ks : List (Int × Int)), j ∉ ks.map (·.1) → look1 j ks = none
  | [], _ => rfl
  | (a, u) :: r, h => by
    simp at h
    simp [look1, Ne.symm h.1, look1_none j r (by simpa using h.2)]
theorem set1_keys (k v : Int) : ∀ (ks : List (Int × Int)), (set1 k v ks).map (·.1) = if k ∈ ks.map (·.1) then ks.map (·.1) else ks.map (·.1) ++ [k]
  | [] => rfl
  | (a, u) :: r => by
    rw [set1_cons]
    by_cases h : a = k
    · simp [h]
    · simp only [h, if_false, List.map_cons, set1_keys k v r, List.mem_cons, Ne.symm h, false_or]
      split <;> simp
theorem del1_sub (k : Int) : ∀ (ks : List (Int × Int)), (del1 k ks).map (·.1) |>.Sublist (ks.map (·.1))
  | [] => List.Sublist.refl _
  | (a, u) :: r => by
    rw [del1_cons]
    by_cases h : a = k
    · simp [h]
    · simp only [h, if_false, List.map_cons]; exact (del1_sub k r).cons_cons _
theorem look1_del1 (k j : Int) : ∀ (ks : List (Int × Int)), (ks.map (·.1)).Nodup → look1 j (del1 k ks) = if k = j then none else look1 j ks
  | [], _ => by simp [del1, look1]
  | (a, u) :: r, h => by
    simp only [List.map_cons, List.nodup_cons] at h
    rw [del1_cons]
    by_cases h1 : a = k
    · subst h1
      by_cases h2 : a = j
      · subst h2; simp [look1_none a r h.1]
      · simp [look1, h2]
    · simp only [h1, if_false, look1, look1_del1 k j r h.2]
      by_cases h2 : a = j
      · subst h2; simp [Ne.symm h1]
      · simp [h2]
/-- a map's entries, and what they say -/
def MapI (es : List (AV × AV)) (f : Int → Option Int) : Prop := ∃ ks, es = enc ks ∧ (ks.map (·.1)).Nodup ∧ ∀ k, look1 k ks = f k
def updI (f : Int → Option Int) (k : Int) (v : Option Int) : Int → Option Int := fun j => if k = j then v else f j
theorem mapI_nil : MapI [] fun _ => none := ⟨[], rfl, by simp, fun _ => rfl⟩
theorem MapI.find {es : List (AV × AV)} {f : Int → Option Int} (h : MapI es f) (k : Int) : mfind .i64 k es = some ((f k).map (.i .i64 ·)) := by
  obtain ⟨ks, rfl, _, h2⟩ := h; rw [mfind_enc, h2]
theorem MapI.set {es : List (AV × AV)} {f : Int → Option Int} (h : MapI es f) (k v : Int) : ∃ es', msetL .i64 k (.i .i64 v) es = some es' ∧ MapI es' (updI f k (some v)) := by
  obtain ⟨ks, rfl, h1, h2⟩ := h
  refine ⟨_, msetL_enc k v ks, set1 k v ks, rfl, ?_, fun j => by rw [look1_set1, h2]; rfl⟩
  rw [set1_keys]
  split
  · exact h1
  · rename_i h3
    rw [List.nodup_append]
    exact ⟨h1, by simp, fun a ha b hb hab => by simp at hb; subst hb; subst hab; exact h3 ha⟩
theorem MapI.del {es : List (AV × AV)} {f : Int → Option Int} (h : MapI es f) (k : Int) : ∃ es', mdelL .i64 k es = some es' ∧ MapI es' (updI f k none) := by
  obtain ⟨ks, rfl, h1, h2⟩ := h
  exact ⟨_, mdelL_enc k ks, del1 k ks, rfl, (del1_sub k ks).nodup h1, fun j => by rw [look1_del1 k j ks h1, h2]; rfl⟩
end Go.AM


/- heap: items, the order, what is ahead. -/
set_option linter.unusedVariables false
set_option linter.unusedSimpArgs false
namespace Go.AM
variable {N : Nat → Nat} {F : Nat → Option AFn}

/-- an item -/
structure It where
  id : Int
  w : Int
  s : Int
  deriving DecidableEq
def It.cells (x : It) : List AV := [.i .i64 x.id, .i .i64 x.w, .i .i64 x.s]
def It.av (x : It) : AV := .agg x.cells
def It.zero : It := ⟨0, 0, 0⟩
def icells : List It → List AV
  | [] => []
  | x :: r => x.cells ++ icells r
theorem icells_append : ∀ (A B : List It), icells (A ++ B) = icells A ++ icells B
  | [], _ => rfl
  | w :: A, B => by simp [icells, icells_append A B]
theorem icells_length : ∀ (A : List It), (icells A).length = A.length * 3
  | [] => rfl
  | w :: A => by simp [icells, icells_length A, It.cells]; omega
theorem icells_at : ∀ (ws : List It) (i : Nat) (w : It) (sp : List AV), ws[i]? = some w → ((icells ws ++ sp).drop (i * 3)).take 3 = w.cells ∧ i * 3 + 3 ≤ (icells ws ++ sp).length
  | [], i, w, sp, h => by simp at h
  | a :: r, 0, w, sp, h => by simp at h; subst h; simp [icells, It.cells]
  | a :: r, i + 1, w, sp, h => by
    have := icells_at r i w sp (by simpa using h)
    have e : (i + 1) * 3 = i * 3 + 1 + 1 + 1 := by omega
    rw [e]
    simp only [icells, It.cells, List.cons_append, List.nil_append, List.drop_succ_cons, List.length_cons]
    exact ⟨this.1, by omega⟩
theorem splice_cons (a : AV) (c : List AV) (n : Nat) (vs : List AV) : splice (a :: c) (n + 1) vs = a :: splice c n vs := by
  have : n + 1 + vs.length = (n + vs.length) + 1 := by omega
  simp [splice, this]
theorem icells_set : ∀ (ws : List It) (i : Nat) (w : It) (sp : List AV), i < ws.length → splice (icells ws ++ sp) (i * 3) w.cells = icells (ws.set i w) ++ sp
  | [], i, w, sp, h => by simp at h
  | a :: r, 0, w, sp, h => by simp [splice, icells, It.cells]
  | a :: r, i + 1, w, sp, h => by
    have e : (i + 1) * 3 = i * 3 + 1 + 1 + 1 := by omega
    rw [e, List.set_cons_succ]
    simp only [icells, It.cells, List.cons_append, List.nil_append]
    rw [splice_cons, splice_cons, splice_cons]
    have := icells_set r i w sp (by simpa using h)
    simp only [It.cells] at this
    rw [this]
def It.lt (a b : It) : Prop := a.w < b.w ∨ (a.w = b.w ∧ a.s < b.s)
instance (a b : It) : Decidable (a.lt b) := by unfold It.lt; exact inferInstance
theorem It.lt_irrefl (a : It) : ¬ a.lt a := by unfold It.lt; omega
theorem It.lt_asymm {a b : It} (h : a.lt b) : ¬ b.lt a := by unfold It.lt at *; omega
theorem It.lt_trans {a b c : It} (h : a.lt b) (k : b.lt c) : a.lt c := by unfold It.lt at *; omega
theorem It.ge_trans {a b c : It} (h : ¬ a.lt b) (k : ¬ b.lt c) : ¬ a.lt c := by unfold It.lt at *; omega
def cmpZ (x y : Int) : Int := if x < y then -1 else if y < x then 1 else 0
def It.cmp (a b : It) : Int := if cmpZ a.w b.w ≠ 0 then cmpZ a.w b.w else cmpZ a.s b.s
theorem It.cmp_neg (a b : It) : a.cmp b < 0 ↔ a.lt b := by unfold It.cmp It.lt cmpZ; split <;> split <;> (try split) <;> (try split) <;> omega
section
variable {L : Lg}
theorem compare_spec (h : H_cmp_Compare_int N F) (x y : Int) : CallL F (N k_cmp_Compare_int) [.i .i64 x, .i .i64 y] L fun v L' => v = .i .i64 (cmpZ x y) ∧ L' = L := by
  apply r_cmp_Compare_int h.code
  unfold D_cmp_Compare_int_1
  have nan : ∀ (z : Int) (L : Lg), CallL F (N k_cmp_isNaN_int) [.i .i64 z] L fun v L' => v = .b false ∧ L' = L := by
    intro z L
    apply r_cmp_isNaN_int h.cmp_isNaN_int.code
    simp [D_cmp_isNaN_int_1]
  refine (nan x L).mono ?_
  rintro _ _ ⟨rfl, rfl⟩
  refine (nan y _).mono ?_
  rintro _ _ ⟨rfl, rfl⟩
  by_cases h1 : x < y
  · simp [h1, cmpZ]
  · by_cases h2 : y < x <;> simp [h1, h2, cmpZ]
theorem or_spec (h : H_cmp_Or_int N F) {b : Nat} {x y : Int} {cp ex : Nat} (hL : L b = some (.raw (.cells [.i .i64 x, .i .i64 y]))) : CallL F (N k_cmp_Or_int) [.sl (some (b, 0)) 2 cp ex] L fun v L' => v = .i .i64 (if x ≠ 0 then x else y) ∧ L' = L := by
  apply r_cmp_Or_int h.code
  unfold D_cmp_Or_int_1 D_cmp_Or_int_2 D_cmp_Or_int_5
  simp [D_cmp_Or_int_7]
  refine loopW_intro (fun n l' L' => ∃ i : Nat, i ≤ 2 ∧ n = 2 - i ∧ (0 < i → x = 0) ∧ (1 < i → y = 0) ∧ L' = L ∧ l' 3 = .i .i64 0 ∧ l' 6 = .sl (some (b, 0)) 2 cp ex ∧ l' 7 = .i .i64 2 ∧ l' 8 = .i .i64 i)
    2 ⟨0, by omega, by omega, by omega, by omega, rfl, by simp, by simp, by simp, by simp⟩ ?_
  rintro n l' t L' ⟨i, hi, hn, h0, h1, rfl, l3, l6, l7, l8⟩
  unfold D_cmp_Or_int_8
  rw [l3, l6, l7, l8]
  obtain rfl | rfl | rfl : i = 0 ∨ i = 1 ∨ i = 2 := by omega
  · by_cases hx : x = 0
    · simp [wp_iad _ _ _ 1 b 0 2 cp ex .i64 0 (by omega) (by omega), rdL, AB.read, look, hL, hx]
      refine ⟨1, by omega, 1, by omega, by omega, ?_⟩
      simp [hx, l3, l6, l7, wr_id]
    · simp [wp_iad _ _ _ 1 b 0 2 cp ex .i64 0 (by omega) (by omega), rdL, AB.read, look, hL, hx]
  · have hx := h0 (by omega)
    have e : ((1 : Nat) : Int) = 1 := rfl
    rw [e]
    by_cases hy : y = 0
    · simp [wp_iad _ _ _ 1 b 0 2 cp ex .i64 1 (by omega) (by omega), rdL, AB.read, look, hL, hx, hy]
      refine ⟨0, by omega, 2, by omega, by omega, ?_⟩
      simp [hx, hy, l3, l6, l7, wr_id]
    · simp [wp_iad _ _ _ 1 b 0 2 cp ex .i64 1 (by omega) (by omega), rdL, AB.read, look, hL, hx, hy]
  · have hx := h0 (by omega)
    have hy := h1 (by omega)
    simp [D_cmp_Or_int_4, hx, hy]
theorem ahead_spec (h : H_heap_ahead N F) (x y : It) : CallL F (N k_heap_ahead) [x.av, y.av] L fun v L' => v = .i .i64 (x.cmp y) ∧ L' = L := by
  apply r_heap_ahead h.code
  unfold D_heap_ahead_1 It.av
  simp
  rw [newL_box_agg _ _ _ (by simp [It.cells])]
  intro b1 h1
  simp
  rw [newL_box_agg _ _ _ (by simp [It.cells])]
  intro b2 h2
  have n1 : b2 ≠ b1 := by rintro rfl; simp at h2
  rw [Lg.put_ne _ _ _ n1] at h2
  simp [rdL, AB.read, look, Lg.put_apply, n1, Ne.symm n1, It.cells]
  refine (compare_spec h.cmp_Compare_int _ _).mono ?_
  rintro _ _ ⟨rfl, rfl⟩
  simp [rdL, AB.read, look, Lg.put_apply, n1, Ne.symm n1, It.cells]
  refine (compare_spec h.cmp_Compare_int _ _).mono ?_
  rintro _ _ ⟨rfl, rfl⟩
  simp
  rw [newL_bslice (c := [.i .i64 (cmpZ x.w y.w), .i .i64 (cmpZ x.s y.s)]) _ _ (by simp [reps, fillP, splice, ble_nat, beq_nat]) (by simp)]
  intro b3 h3
  refine (or_spec h.cmp_Or_int (Lg.put_same _ _ _)).mono ?_
  rintro _ _ ⟨rfl, rfl⟩
  have n2 : b3 ≠ b2 := by rintro rfl; simp at h3
  have n3 : b3 ≠ b1 := by rintro rfl; simp [Lg.put_apply, Ne.symm n1] at h3
  rw [Lg.put_ne _ _ _ n2, Lg.put_ne _ _ _ n3] at h3
  simp [againV, semRL, rLdL, rdL, AB.read, look, Lg.put_apply, n1, Ne.symm n1, n2, Ne.symm n2, n3, Ne.symm n3, It.cells]
  refine ⟨Sees.drop ?_, ?_⟩
  · intro c d hd
    have c1 : c ≠ b1 := by rintro rfl; rw [h1] at hd; cases hd
    have c2 : c ≠ b2 := by rintro rfl; rw [h2] at hd; cases hd
    have c3 : c ≠ b3 := by rintro rfl; rw [h3] at hd; cases hd
    simp [Lg.put_apply, c1, c2, c3, hd]
  · unfold It.cmp; by_cases h9 : cmpZ x.w y.w = 0 <;> simp [h9]
end
end Go.AM


/- heap: rows that are heaps; in plain Lean. -/
set_option linter.unusedVariables false
set_option linter.unusedSimpArgs false
namespace Go.AM

def par (i : Nat) : Nat := (i - 1) / 4
def gA (A : List It) (j : Nat) : It := A.getD j It.zero
theorem par_lt {j : Nat} (h : 0 < j) : par j < j := by unfold par; omega
theorem gA_get {A : List It} {j : Nat} (h : j < A.length) : A[j]? = some (gA A j) := by simp [gA, h]
theorem gA_set {A : List It} {i j : Nat} {x : It} (h : i < A.length) : gA (A.set i x) j = if i = j then x else gA A j := by
  unfold gA
  simp only [List.getD_eq_getElem?_getD, List.getElem?_set]
  by_cases hij : i = j
  · subst hij; simp [h]
  · simp [hij]
/-- all edges but those at i -/
def Exx (A : List It) (i : Nat) : Prop := (∀ j, 0 < j → j < A.length → j ≠ i → par j ≠ i → ¬ (gA A j).lt (gA A (par j))) ∧ ∀ j, 0 < j → j < A.length → par j = i → 0 < i → ¬ (gA A j).lt (gA A (par i))
/-- all edges but the one above i -/
def Up (A : List It) (i : Nat) : Prop := (∀ j, 0 < j → j < A.length → j ≠ i → ¬ (gA A j).lt (gA A (par j))) ∧ ∀ j, 0 < j → j < A.length → par j = i → 0 < i → ¬ (gA A j).lt (gA A (par i))
/-- all edges but those below i -/
def Dn (A : List It) (i : Nat) : Prop := (∀ j, 0 < j → j < A.length → par j ≠ i → ¬ (gA A j).lt (gA A (par j))) ∧ ∀ j, 0 < j → j < A.length → par j = i → 0 < i → ¬ (gA A j).lt (gA A (par i))
def HeapA (A : List It) : Prop := ∀ j, 0 < j → j < A.length → ¬ (gA A j).lt (gA A (par j))
def swap (A : List It) (i p : Nat) : List It := (A.set i (gA A p)).set p (gA A i)
theorem swap_length (A : List It) (i p : Nat) : (swap A i p).length = A.length := by simp [swap]
theorem gA_swap {A : List It} {i p : Nat} (hi : i < A.length) (hp : p < A.length) (j : Nat) : gA (swap A i p) j = if p = j then gA A i else if i = j then gA A p else gA A j := by
  unfold swap
  rw [gA_set (by simpa using hp), gA_set hi]
theorem Exx.up {A : List It} {i : Nat} (h : Exx A i) (hi : 0 < i) (hl : (gA A i).lt (gA A (par i))) : Up A i := by
  refine ⟨fun j h0 hj hji => ?_, h.2⟩
  by_cases hp : par j = i
  · rw [hp]
    have := h.2 j h0 hj hp hi
    exact fun h3 => this (It.lt_trans h3 hl)
  · exact h.1 j h0 hj hji hp
theorem Up.step {A : List It} {i : Nat} (h : Up A i) (hi : 0 < i) (hn : i < A.length) (hl : (gA A i).lt (gA A (par i))) : Up (swap A i (par i)) (par i) := by
  have hp : par i < i := par_lt hi
  have hpn : par i < A.length := by omega
  refine ⟨fun j h0 hj hji => ?_, fun j h0 hj hpj hp0 => ?_⟩
  · rw [swap_length] at hj
    rw [gA_swap hn hpn, gA_swap hn hpn]
    rw [if_neg (Ne.symm hji)]
    by_cases h1 : i = j
    · subst h1
      simp only [if_true]
      exact It.lt_asymm hl
    · rw [if_neg h1]
      by_cases h2 : par i = par j
      · rw [if_pos h2]
        have := h.1 j h0 hj (Ne.symm h1)
        rw [← h2] at this
        exact fun h3 => this (It.lt_trans h3 hl)
      · rw [if_neg h2]
        by_cases h3 : i = par j
        · rw [if_pos h3]
          exact h.2 j h0 hj h3.symm hi
        · rw [if_neg h3]
          exact h.1 j h0 hj (Ne.symm h1)
  · rw [swap_length] at hj
    have hpp : par (par i) < par i := par_lt hp0
    have hjp : j ≠ par i := by rintro rfl; omega
    rw [gA_swap hn hpn, gA_swap hn hpn, if_neg (Ne.symm hjp)]
    rw [if_neg (show par i ≠ par (par i) by omega), if_neg (show i ≠ par (par i) by omega)]
    have hb := h.1 (par i) hp0 hpn (by omega)
    by_cases h1 : i = j
    · rw [if_pos h1]; exact hb
    · rw [if_neg h1]
      have := h.1 j h0 hj (Ne.symm h1)
      rw [hpj] at this
      exact It.ge_trans this hb
theorem Up.heap {A : List It} {i : Nat} (h : Up A i) (hi : i = 0 ∨ ¬ (gA A i).lt (gA A (par i))) : HeapA A := by
  intro j h0 hj
  by_cases h1 : j = i
  · subst h1
    rcases hi with h2 | h2
    · omega
    · exact h2
  · exact h.1 j h0 hj h1
theorem Exx.dn {A : List It} {i : Nat} (h : Exx A i) (hi : i = 0 ∨ ¬ (gA A i).lt (gA A (par i))) : Dn A i := by
  refine ⟨fun j h0 hj hp => ?_, h.2⟩
  by_cases h1 : j = i
  · subst h1
    rcases hi with h2 | h2
    · omega
    · exact h2
  · exact h.1 j h0 hj h1 hp
theorem HeapA.dn {A : List It} (h : HeapA A) (i : Nat) (hn : i < A.length) : Dn A i := by
  refine ⟨fun j h0 hj _ => h j h0 hj, fun j h0 hj hp hi => ?_⟩
  have h1 := h j h0 hj
  rw [hp] at h1
  exact It.ge_trans h1 (h i hi hn)
theorem Dn.step {A : List It} {i m : Nat} (h : Dn A i) (hm0 : 0 < m) (hm : m < A.length) (hpm : par m = i) (hmin : ∀ j, 0 < j → j < A.length → par j = i → ¬ (gA A j).lt (gA A m)) (hx : ¬ (gA A i).lt (gA A m)) : Dn (swap A i m) m := by
  have him : i < m := by rw [← hpm]; exact par_lt hm0
  have hn : i < A.length := by omega
  refine ⟨fun j h0 hj hp => ?_, fun j h0 hj hp _ => ?_⟩
  · rw [swap_length] at hj
    rw [gA_swap hn hm, gA_swap hn hm, if_neg (Ne.symm hp)]
    by_cases h1 : m = j
    · subst h1; rw [if_pos rfl, hpm, if_pos rfl]; exact hx
    · rw [if_neg h1]
      by_cases h2 : i = j
      · subst h2
        rw [if_pos rfl, if_neg (show i ≠ par i by have := par_lt h0; omega)]
        exact h.2 m hm0 hm hpm h0
      · rw [if_neg h2]
        by_cases h3 : i = par j
        · rw [if_pos h3]; exact hmin j h0 hj h3.symm
        · rw [if_neg h3]; exact h.1 j h0 hj (Ne.symm h3)
  · rw [swap_length] at hj
    have hjm : j ≠ m := by rintro rfl; have := par_lt h0; omega
    have hji : j ≠ i := by rintro rfl; have := par_lt h0; omega
    rw [gA_swap hn hm, gA_swap hn hm, if_neg (Ne.symm hjm), if_neg (Ne.symm hji), hpm, if_neg (show m ≠ i by omega), if_pos rfl]
    have := h.1 j h0 hj (by omega)
    rw [hp] at this
    exact this
theorem Dn.heap {A : List It} {i : Nat} (h : Dn A i) (hc : ∀ j, 0 < j → j < A.length → par j = i → ¬ (gA A j).lt (gA A i)) : HeapA A := by
  intro j h0 hj
  by_cases h1 : par j = i
  · rw [h1]; exact hc j h0 hj h1
  · exact h.1 j h0 hj h1
theorem HeapA.root {A : List It} (h : HeapA A) : ∀ j, j < A.length → ¬ (gA A j).lt (gA A 0) := by
  intro j
  induction j using Nat.strongRecOn with
  | ind j ih =>
    intro hj
    by_cases h0 : j = 0
    · subst h0; exact It.lt_irrefl _
    · have := par_lt (show 0 < j by omega)
      exact It.ge_trans (h j (by omega) hj) (ih _ this (by omega))
theorem swap_perm {A : List It} {i p : Nat} (hi : i < A.length) (hp : p < A.length) : (swap A i p).Perm A := by
  by_cases h : i = p
  · subst h
    have : swap A i i = A := by
      apply List.ext_getElem?
      intro j
      simp only [swap, List.getElem?_set, List.length_set]
      by_cases hj : i = j
      · subst hj; simp [hi, gA]
      · simp [hj]
    rw [this]
  · unfold swap
    have h1 : gA A p = A[p] := by simp [gA, hp]
    have h2 : gA A i = A[i] := by simp [gA, hi]
    rw [h1, h2]
    exact List.set_set_perm hi hp

/-! ### who stands where -/
def Ids (A : List It) : Prop := ∀ j k, j < A.length → k < A.length → (gA A j).id = (gA A k).id → j = k
def Cons (A : List It) (mp : Int → Option Int) : Prop := Ids A ∧ (∀ j, j < A.length → mp (gA A j).id = some (j : Int)) ∧ ∀ k v, mp k = some v → ∃ j, j < A.length ∧ v = (j : Int) ∧ (gA A j).id = k
def ConsH (A : List It) (mp : Int → Option Int) (i : Nat) : Prop := Ids A ∧ (∀ j, j < A.length → j ≠ i → mp (gA A j).id = some (j : Int)) ∧ ∀ k v, mp k = some v → k = (gA A i).id ∨ ∃ j, j < A.length ∧ j ≠ i ∧ v = (j : Int) ∧ (gA A j).id = k
theorem ConsH.fill {A : List It} {mp : Int → Option Int} {i : Nat} (h : ConsH A mp i) (hi : i < A.length) : Cons A (updI mp (gA A i).id (some (i : Int))) := by
  refine ⟨h.1, fun j hj => ?_, fun k v hk => ?_⟩
  · unfold updI
    by_cases h1 : (gA A i).id = (gA A j).id
    · have := h.1 i j hi hj h1; subst this; simp
    · rw [if_neg h1]; exact h.2.1 j hj (fun e => h1 (by rw [e]))
  · unfold updI at hk
    by_cases h1 : (gA A i).id = k
    · rw [if_pos h1] at hk; cases hk; exact ⟨i, hi, rfl, h1⟩
    · rw [if_neg h1] at hk
      rcases h.2.2 k v hk with h2 | ⟨j, h2, _, h3, h4⟩
      · exact absurd h2.symm h1
      · exact ⟨j, h2, h3, h4⟩
theorem Cons.hole {A : List It} {mp : Int → Option Int} (h : Cons A mp) (i : Nat) : ConsH A mp i := by
  refine ⟨h.1, fun j hj _ => h.2.1 j hj, fun k v hk => ?_⟩
  obtain ⟨j, h2, h3, h4⟩ := h.2.2 k v hk
  by_cases h5 : j = i
  · subst h5; exact .inl h4.symm
  · exact .inr ⟨j, h2, h5, h3, h4⟩
theorem Ids.swap {A : List It} (h : Ids A) {i p : Nat} (hi : i < A.length) (hp : p < A.length) : Ids (swap A i p) := by
  have key : ∀ j, gA (Go.AM.swap A i p) j = gA A (if p = j then i else if i = j then p else j) := by
    intro j
    rw [gA_swap hi hp]
    split
    · rfl
    · split <;> rfl
  intro j k hj hk
  rw [swap_length] at hj hk
  rw [key, key]
  intro e
  have := h _ _ (by split; exact hi; split; exact hp; exact hj) (by split; exact hi; split; exact hp; exact hk) e
  split at this <;> split at this <;> (try split at this) <;> (try split at this) <;> omega
theorem ConsH.step {A : List It} {mp : Int → Option Int} {i p : Nat} (h : ConsH A mp i) (hi : i < A.length) (hp : p < A.length) (hne : p ≠ i) : ConsH (swap A i p) (updI mp (gA A p).id (some (i : Int))) p := by
  refine ⟨h.1.swap hi hp, fun j hj hjp => ?_, fun k v hk => ?_⟩
  · rw [swap_length] at hj
    rw [gA_swap hi hp, if_neg (Ne.symm hjp)]
    unfold updI
    by_cases h1 : i = j
    · subst h1; simp
    · rw [if_neg h1]
      have h2 : (gA A p).id ≠ (gA A j).id := fun e => hjp (h.1 p j hp hj e).symm
      rw [if_neg h2]
      exact h.2.1 j hj (Ne.symm h1)
  · unfold updI at hk
    rw [gA_swap hi hp, if_pos rfl]
    by_cases h1 : (gA A p).id = k
    · rw [if_pos h1] at hk; cases hk
      refine .inr ⟨i, by rw [swap_length]; exact hi, Ne.symm hne, rfl, ?_⟩
      rw [gA_swap hi hp, if_neg hne, if_pos rfl]; exact h1
    · rw [if_neg h1] at hk
      rcases h.2.2 k v hk with h2 | ⟨j, h2, h3, h4, h5⟩
      · exact .inl h2
      · have hjp : j ≠ p := by rintro rfl; exact h1 h5
        refine .inr ⟨j, by rw [swap_length]; exact h2, hjp, h4, ?_⟩
        rw [gA_swap hi hp, if_neg (Ne.symm hjp), if_neg (Ne.symm h3)]; exact h5
end Go.AM

