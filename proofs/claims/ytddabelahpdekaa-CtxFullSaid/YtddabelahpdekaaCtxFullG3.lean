/- The texts LibExpire, GenC, LibTimerA, LibTimerB, LibTimerC of a proof of CtxFull, merged. -/
import Derived.Test.YtddabelahpdekaaCtxFullG2
import Derived.KernelRfl
/- expire: what its functions do. -/
set_option linter.unusedVariables false
set_option linter.unusedSimpArgs false
namespace Go.AM
variable {N : Nat → Nat} {F : Nat → Option AFn}

/-- what will be due: in order; the count; the periods -/
structure Xs where
  l : List It
  seq : Int
  pf : Int → Option Int
structure Xs.ok (x : Xs) (n : Nat) : Prop where
  sorted : x.l.Pairwise It.lt
  len : x.l.length ≤ n
  below : ∀ y, y ∈ x.l → y.s ≤ x.seq
  pos : 0 ≤ x.seq
def Xs.stop (x : Xs) (id : Int) : Xs := { x with l := rmId id x.l, pf := updI x.pf id none }
def Xs.armed (x : Xs) (id when period : Int) : Xs := { l := ins ⟨id, when, x.seq + 1⟩ (rmId id x.l), seq := x.seq + 1, pf := updI (updI x.pf id none) id (some period) }
def badT (a b : Int) : Bool := decide (min a b < 0) || decide (4611686018427387904 < max a b)
def Xs.arm (x : Xs) (id when period : Int) : Xs × Int := if badT when period = true then (x, 1) else (x.armed id when period, 0)
def Xs.take (x : Xs) (now : Int) : Xs × (Int × Int × Int) × Bool := match x.l.head? with
  | none => (x, (0, 0, 0), false)
  | some y => if now < 0 ∨ now < y.w then (x, (0, 0, 0), false) else
    let p := (x.pf y.id).getD 0
    let z : Xs := x.stop y.id
    let c := clockNext y.w p now
    (if c.2 = 0 ∧ now < c.1 then (z.arm y.id c.1 p).1 else z, (y.id, y.w, now), true)
def TmP (t : Nat) (x : Xs) (hp : Hp) : Prop := ∃ (h pm : Nat) (es : List (AV × AV)) (M : Lg), M t = some (.raw (.cells [.p (some (h, 0)), .m (some pm)])) ∧ M h = some (.abs (HeapP h x.l x.seq)) ∧ M pm = some (.raw (.map es)) ∧ MapI es x.pf ∧ h ≠ t ∧ pm ≠ t ∧ pm ≠ h ∧ Sat M hp
structure XOpen (L : Lg) (t : Nat) (x : Xs) (h pm : Nat) (K : Lg) : Prop where
  root : K t = some (.raw (.cells [.p (some (h, 0)), .m (some pm)]))
  heap : K h = some (.abs (HeapP h x.l x.seq))
  per : ∃ es, K pm = some (.raw (.map es)) ∧ MapI es x.pf
  n1 : h ≠ t
  n2 : pm ≠ t
  n3 : pm ≠ h
  f1 : L h = none
  f2 : L pm = none
  old : ∀ r d, r ≠ t → L r = some d → K r = some d

section
variable {L L0 K : Lg} {t h pm : Nat} {x : Xs}
theorem XOpen.shut (o : XOpen L t x h pm K) : Sees K (L.put t (.abs (TmP t x))) := by
  obtain ⟨es, e1, e2⟩ := o.per
  refine Sees.shutAt (fun r => r = t ∨ r = h ∨ r = pm) (.inl rfl) ?_ ?_ (.inl ⟨_, o.root⟩) ?_
  · intro r d hr hd; simp only [not_or] at hr; exact o.old r d hr.1 hd
  · rintro r (rfl | rfl | rfl) hr
    · exact absurd rfl hr
    · exact o.f1
    · exact o.f2
  · intro M hm hM hN hs
    exact ⟨h, pm, es, M, by rw [hM t (.inl rfl)]; exact o.root, by rw [hM h (.inr (.inl rfl))]; exact o.heap, by rw [hM pm (.inr (.inr rfl))]; exact e1, e2, o.n1, o.n2, o.n3, hs⟩
theorem CallL.openX {f : Nat} {vs : List AV} {Q : AV → Lg → Prop} (e : L t = some (.abs (TmP t x))) (H : ∀ h pm K, XOpen L t x h pm K → CallL F f vs K Q) : CallL F f vs L Q := by
  apply CallL.opens e
  rintro hm ⟨h, pm, es, M, m1, m2, m3, m4, n1, n2, n3, hs⟩
  refine ⟨M, hs, by rw [m1]; simp, fun hf => ?_⟩
  have hover : ∀ b d, M b = some d → (M.over L) b = some d := fun b d hb => by simp [Lg.over, hb]
  refine H h pm (M.over L) ⟨hover _ _ m1, hover _ _ m2, ⟨es, hover _ _ m3, m4⟩, n1, n2, n3, hf _ _ m2 n1, hf _ _ m3 n2, ?_⟩
  intro r d hr hd
  cases hM : M r with
  | none => simp [Lg.over, hM, hd]
  | some c => rw [hf r c hM hr] at hd; cases hd
theorem XOpen.ne (o : XOpen L t x h pm K) {r : Nat} (hr : K r = none) : r ≠ t ∧ L r = none := by
  have n : r ≠ t := by rintro rfl; rw [o.root] at hr; cases hr
  refine ⟨n, ?_⟩
  cases e : L r with
  | none => rfl
  | some d => rw [o.old r d n e] at hr; cases hr
theorem XOpen.nes (o : XOpen L t x h pm K) {r : Nat} (hr : K r = none) : r ≠ t ∧ r ≠ h ∧ r ≠ pm := by
  obtain ⟨es, e1, _⟩ := o.per
  refine ⟨?_, ?_, ?_⟩ <;> rintro rfl
  · rw [o.root] at hr; cases hr
  · rw [o.heap] at hr; cases hr
  · rw [e1] at hr; cases hr
theorem XOpen.onto (o : XOpen L t x h pm K) {r : Nat} (hr : K r = none) (d : LC) : XOpen (L.put r d) t x h pm (K.put r d) := by
  obtain ⟨es, e1, e2⟩ := o.per
  obtain ⟨c1, c2, c3⟩ := o.nes hr
  refine ⟨by rw [Lg.put_ne _ _ _ (Ne.symm c1)]; exact o.root, by rw [Lg.put_ne _ _ _ (Ne.symm c2)]; exact o.heap, ⟨es, by rw [Lg.put_ne _ _ _ (Ne.symm c3)]; exact e1, e2⟩, o.n1, o.n2, o.n3,
    by rw [Lg.put_ne _ _ _ (Ne.symm c2)]; exact o.f1, by rw [Lg.put_ne _ _ _ (Ne.symm c3)]; exact o.f2, ?_⟩
  intro y k hy hk
  rw [Lg.put_apply] at hk ⊢
  split
  · rename_i h9; rw [if_pos h9] at hk; exact hk
  · rename_i h9; rw [if_neg h9] at hk; exact o.old y k hy hk
theorem XOpen.putOld (o : XOpen L t x h pm K) {r : Nat} {d : LC} (hr : r ≠ t) (hd : L r = some d) (d' : LC) : XOpen (L.put r d') t x h pm (K.put r d') := by
  obtain ⟨es, e1, e2⟩ := o.per
  have c2 : r ≠ h := by rintro rfl; rw [o.f1] at hd; cases hd
  have c3 : r ≠ pm := by rintro rfl; rw [o.f2] at hd; cases hd
  refine ⟨by rw [Lg.put_ne _ _ _ (Ne.symm hr)]; exact o.root, by rw [Lg.put_ne _ _ _ (Ne.symm c2)]; exact o.heap, ⟨es, by rw [Lg.put_ne _ _ _ (Ne.symm c3)]; exact e1, e2⟩, o.n1, o.n2, o.n3,
    by rw [Lg.put_ne _ _ _ (Ne.symm c2)]; exact o.f1, by rw [Lg.put_ne _ _ _ (Ne.symm c3)]; exact o.f2, ?_⟩
  intro y k hy hk
  rw [Lg.put_apply] at hk ⊢
  split
  · rename_i h9; rw [if_pos h9] at hk; exact hk
  · rename_i h9; rw [if_neg h9] at hk; exact o.old y k hy hk
theorem XOpen.sub (o : XOpen L0 t x h pm K) (hs : ∀ r d, r ≠ t → L r = some d → L0 r = some d) : XOpen L t x h pm K := by
  have hn : ∀ r, r ≠ t → L0 r = none → L r = none := by
    intro r hr h0
    cases e : L r with
    | none => rfl
    | some d => rw [hs r d hr e] at h0; cases h0
  exact ⟨o.root, o.heap, o.per, o.n1, o.n2, o.n3, hn h o.n1 o.f1, hn pm o.n2 o.f2, fun r d hr hd => o.old r d hr (hs r d hr hd)⟩
theorem XOpen.setHeap (o : XOpen L t x h pm K) (l : List It) (seq : Int) : XOpen L t { x with l := l, seq := seq } h pm (K.put h (.abs (HeapP h l seq))) := by
  obtain ⟨es, e1, e2⟩ := o.per
  refine ⟨by rw [Lg.put_ne _ _ _ (Ne.symm o.n1)]; exact o.root, Lg.put_same _ _ _, ⟨es, by rw [Lg.put_ne _ _ _ o.n3]; exact e1, e2⟩, o.n1, o.n2, o.n3, o.f1, o.f2, ?_⟩
  intro r d hr hd
  have : r ≠ h := by rintro rfl; rw [o.f1] at hd; cases hd
  rw [Lg.put_ne _ _ _ this]; exact o.old r d hr hd
theorem XOpen.setPer (o : XOpen L t x h pm K) {es : List (AV × AV)} {f : Int → Option Int} (hm : MapI es f) : XOpen L t { x with pf := f } h pm (K.put pm (.raw (.map es))) := by
  refine ⟨by rw [Lg.put_ne _ _ _ (Ne.symm o.n2)]; exact o.root, by rw [Lg.put_ne _ _ _ (Ne.symm o.n3)]; exact o.heap, ⟨es, Lg.put_same _ _ _, hm⟩, o.n1, o.n2, o.n3, o.f1, o.f2, ?_⟩
  intro r d hr hd
  have : r ≠ pm := by rintro rfl; rw [o.f2] at hd; cases hd
  rw [Lg.put_ne _ _ _ this]; exact o.old r d hr hd
theorem XOpen.back (o : XOpen L t x h pm K) (e : L t = some (.abs (TmP t x))) : Sees K L := by
  have := o.shut
  rwa [Lg.put_self L t _ e] at this

theorem xstop_open (hf : H_expire_Timers_Stop N F) (o : XOpen L t x h pm K) (hl : x.l.length ≤ 1000000) (id : Int) :
    CallL F (N k_expire_Timers_Stop) [.p (some (t, 0)), .i .i64 id] K fun v K' => v = .b (findId id x.l).isSome ∧ XOpen L t (x.stop id) h pm K' := by
  apply r_expire_Timers_Stop hf.code
  generalize hQ : (fun (v : AV) (K' : Lg) => v = .b (findId id x.l).isSome ∧ XOpen L t (x.stop id) h pm K') = Q
  unfold D_expire_Timers_Stop_1
  simp [rdL, AB.read, look, o.root]
  refine (hremove_spec hf.heap_Heap_Remove o.heap hl id).mono ?_
  rintro _ _ ⟨rfl, rfl⟩
  have o2 := o.setHeap (rmId id x.l) x.seq
  obtain ⟨es, e1, e2⟩ := o2.per
  obtain ⟨es', hd, hM⟩ := e2.del id
  have o3 := o2.setPer hM
  have key : ∀ z : It, ∀ r : Nat, (K.put h (.abs (HeapP h (rmId id x.l) x.seq))) r = none → ∀ c : LC,
      wpOp F .nilchk [.p (some (t, 0))] ((K.put h (.abs (HeapP h (rmId id x.l) x.seq))).put r c) fun v10 L10 => wpOp F (.fad 1) [v10] L10 fun v11 L11 => wpOp F (.ld none) [v11] L11 fun v12 L12 => wpOp F .mdel [v12, .i .i64 id] L12 fun _ L13 =>
        fin1 (some (.b (findId id x.l).isSome)) Q L13 := by
    intro z r hr c
    obtain ⟨c1, c2, c3⟩ := o2.nes hr
    have o4 := (o2.onto hr c).setPer hM
    have hr1 : ((K.put h (.abs (HeapP h (rmId id x.l) x.seq))).put r c) t = some (.raw (.cells [.p (some (h, 0)), .m (some pm)])) := by rw [Lg.put_ne _ _ _ (Ne.symm c1)]; exact o2.root
    have hr2 : ((K.put h (.abs (HeapP h (rmId id x.l) x.seq))).put r c) pm = some (.raw (.map es)) := by rw [Lg.put_ne _ _ _ (Ne.symm c3)]; exact e1
    simp [rdL, AB.read, look, hr1, mdelW, hr2, hd]
    refine ⟨_, Sees.refl _, ?_⟩
    subst hQ
    refine ⟨rfl, o4.sub fun y d hy hyd => ?_⟩
    have : y ≠ r := by rintro rfl; rw [(o2.ne hr).2] at hyd; cases hyd
    rw [Lg.put_ne _ _ _ this]; exact hyd
  cases hfi : findId id x.l with
  | none =>
    rw [hfi] at key
    simp [retIt, It.av]
    intro r hr
    rw [stL_cells (Lg.put_same _ _ _) (by simp [It.cells]) (by simp [It.cells]) (by simp), Lg.put_put]
    exact key It.zero r hr _
  | some y =>
    rw [hfi] at key
    simp [retIt, It.av]
    intro r hr
    rw [stL_cells (Lg.put_same _ _ _) (by simp [It.cells]) (by simp [It.cells]) (by simp), Lg.put_put]
    exact key y r hr _
theorem findId_rmId (id : Int) (l : List It) : findId id (rmId id l) = none := by
  unfold findId rmId
  rw [List.find?_eq_none]
  intro y hy
  simp at hy
  simp [hy.2]
theorem rmId_length (id : Int) (l : List It) : (rmId id l).length ≤ l.length := List.length_filter_le _ _
theorem xarm_open (hf : H_expire_Timers_Arm N F) (o : XOpen L t x h pm K) (hl : x.l.length < 1000000) (hq : 0 ≤ x.seq ∧ x.seq < 4611686018427387904) (id when period : Int) :
    CallL F (N k_expire_Timers_Arm) [.p (some (t, 0)), .i .i64 id, .i .i64 when, .i .i64 period] K fun v K' => v = .i .i64 (x.arm id when period).2 ∧ XOpen L t (x.arm id when period).1 h pm K' := by
  apply r_expire_Timers_Arm hf.code
  unfold D_expire_Timers_Arm_1 Xs.arm badT
  generalize hQ : (fun (v : AV) (K' : Lg) => v = .i .i64 (if (decide (min when period < 0) || decide (4611686018427387904 < max when period)) = true then (x, (1 : Int)) else (x.armed id when period, 0)).2 ∧
    XOpen L t (if (decide (min when period < 0) || decide (4611686018427387904 < max when period)) = true then (x, (1 : Int)) else (x.armed id when period, 0)).1 h pm K') = Q
  by_cases c1 : min when period < 0
  · simp [c1]
    refine ⟨K, Sees.refl _, ?_⟩
    subst hQ
    simp [c1, o]
  · by_cases c2 : 4611686018427387904 < max when period
    · simp [c1, c2]
      refine ⟨K, Sees.refl _, ?_⟩
      subst hQ
      simp [c1, c2, o]
    · simp [c1, c2]
      refine (xstop_open hf.expire_Timers_Stop o (by omega) id).mono ?_
      rintro _ K2 ⟨rfl, o2⟩
      obtain ⟨es, e1, e2⟩ := o2.per
      obtain ⟨es', hd, hM⟩ := e2.set id period
      have o3 := o2.setPer hM
      have hl2 : (x.stop id).l.length < 1000000 := Nat.lt_of_le_of_lt (rmId_length id x.l) hl
      simp [rdL, AB.read, look, o2.root, msetW, e1, hd, Lg.put_apply, Ne.symm o2.n2]
      refine (hadd_spec hf.heap_Heap_Add o3.heap hl2 hq id when).mono ?_
      intro v K4 hv
      have hn : findId id (x.stop id).l = none := findId_rmId id x.l
      simp only [hn] at hv
      simp at hv
      obtain ⟨rfl, rfl⟩ := hv
      refine ⟨_, Sees.refl _, ?_⟩
      subst hQ
      simp [c1, c2]
      exact o3.setHeap _ _
end
end Go.AM


/- The code of functions, with names for their numbers, and what is left of its weakest preconditions. PRINTED by our printgen.py. -/
set_option linter.unusedVariables false
set_option maxRecDepth 100000
namespace Go.AM
end Go.AM

/- timer: the set of timers, opened; small functions. -/
set_option linter.unusedVariables false
set_option linter.unusedSimpArgs false
namespace Go.AM
variable {N : Nat → Nat} {F : Nat → Option AFn}

section
variable {L : Lg} {t : Nat} {x : Xs}
theorem xstop_spec (hf : H_expire_Timers_Stop N F) (e : L t = some (.abs (TmP t x))) (hl : x.l.length ≤ 1000000) (id : Int) :
    CallL F (N k_expire_Timers_Stop) [.p (some (t, 0)), .i .i64 id] L fun v L' => v = .b (findId id x.l).isSome ∧ L' = L.put t (.abs (TmP t (x.stop id))) := by
  apply CallL.openX e
  intro h pm K o
  refine (xstop_open hf o hl id).sees ?_
  rintro _ K' ⟨rfl, o'⟩
  exact ⟨_, o'.shut, rfl, rfl⟩
theorem xarm_spec (hf : H_expire_Timers_Arm N F) (e : L t = some (.abs (TmP t x))) (hl : x.l.length < 1000000) (hq : 0 ≤ x.seq ∧ x.seq < 4611686018427387904) (id when period : Int) :
    CallL F (N k_expire_Timers_Arm) [.p (some (t, 0)), .i .i64 id, .i .i64 when, .i .i64 period] L fun v L' => v = .i .i64 (x.arm id when period).2 ∧ L' = L.put t (.abs (TmP t (x.arm id when period).1)) := by
  apply CallL.openX e
  intro h pm K o
  refine (xarm_open hf o hl hq id when period).sees ?_
  rintro _ K' ⟨rfl, o'⟩
  exact ⟨_, o'.shut, rfl, rfl⟩
end

/-- a timer -/
structure On where
  kind : Int
  data : Int
  c : Option Nat
  gen : Int
def On.cells (o : On) : List AV := [.i .i64 o.kind, .i .i64 o.data, ptr o.c, .i .i64 o.gen]
def ocells : List On → List AV
  | [] => []
  | o :: r => o.cells ++ ocells r
theorem ocells_length : ∀ (A : List On), (ocells A).length = A.length * 4
  | [] => rfl
  | w :: A => by simp [ocells, ocells_length A, On.cells]; omega
theorem ocells_append : ∀ (A B : List On), ocells (A ++ B) = ocells A ++ ocells B
  | [], _ => rfl
  | w :: A, B => by simp [ocells, ocells_append A B]
theorem ocells_get : ∀ (ws : List On) (i k : Nat) (w : On), ws[i]? = some w → k < 4 → (ocells ws)[i * 4 + k]? = w.cells[k]?
  | [], i, k, w, h, _ => by simp at h
  | a :: r, 0, k, w, h, hk => by
    simp at h; subst h
    simp only [ocells, Nat.zero_mul, Nat.zero_add]
    rw [List.getElem?_append_left (by simp [On.cells]; omega)]
  | a :: r, i + 1, k, w, h, hk => by
    have := ocells_get r i k w (by simpa using h) hk
    have e : (i + 1) * 4 + k = a.cells.length + (i * 4 + k) := by simp [On.cells]; omega
    rw [e]
    simp only [ocells]
    rw [List.getElem?_append_right (by omega), Nat.add_sub_cancel_left]
    exact this
theorem ocells_at : ∀ (ws : List On) (i : Nat) (w : On), ws[i]? = some w → ((ocells ws).drop (i * 4)).take 4 = w.cells ∧ i * 4 + 4 ≤ (ocells ws).length
  | [], i, w, h => by simp at h
  | a :: r, 0, w, h => by simp at h; subst h; simp [ocells, On.cells]
  | a :: r, i + 1, w, h => by
    have := ocells_at r i w (by simpa using h)
    have e : (i + 1) * 4 = i * 4 + 1 + 1 + 1 + 1 := by omega
    rw [e]
    simp only [ocells, On.cells, List.cons_append, List.nil_append, List.drop_succ_cons, List.length_cons]
    exact ⟨this.1, by omega⟩
theorem ocells_gen : ∀ (ws : List On) (i : Nat) (w : On) (g : Int), ws[i]? = some w → (ocells ws).set (i * 4 + 3) (.i .i64 g) = ocells (ws.set i { w with gen := g })
  | [], i, w, g, h => by simp at h
  | a :: r, 0, w, g, h => by simp at h; subst h; simp [ocells, On.cells]
  | a :: r, i + 1, w, g, h => by
    have := ocells_gen r i w g (by simpa using h)
    have e : (i + 1) * 4 + 3 = (i * 4 + 3) + 1 + 1 + 1 + 1 := by omega
    rw [e, List.set_cons_succ]
    simp only [ocells, On.cells, List.cons_append, List.nil_append, List.set_cons_succ]
    rw [this]
/-- timers: each; what will be due; how many have names -/
structure Tms where
  ones : List On
  x : Xs
  named : Int
def SSl (L : Lg) (s t : Nat) (ones : List On) (sv : AV) (K : Lg) : Prop :=
  (ones = [] ∧ sv = .sl none 0 0 0) ∨ ∃ b, sv = .sl (some (b, 0)) ones.length ones.length 4 ∧ K b = some (.raw (.cells (ocells ones))) ∧ b ≠ s ∧ b ≠ t ∧ L b = none ∧ 0 < ones.length
def SOpen (L : Lg) (s : Nat) (σ : Tms) (t : Nat) (K : Lg) : Prop :=
  ∃ sv, K s = some (.raw (.cells [sv, .p (some (t, 0)), .i .i64 σ.named])) ∧ K t = some (.abs (TmP t σ.x)) ∧ t ≠ s ∧ L t = none ∧ SSl L s t σ.ones sv K ∧ ∀ r d, r ≠ s → L r = some d → K r = some d
def SetP (s : Nat) (σ : Tms) (hp : Hp) : Prop := ∃ t M, SOpen Lg.nil s σ t M ∧ Sat M hp
section
variable {L L0 K : Lg} {s t : Nat} {σ : Tms}
theorem SOpen.shut (o : SOpen L s σ t K) : Sees K (L.put s (.abs (SetP s σ))) := by
  obtain ⟨sv, h1, h2, h3, h4, h5, h6⟩ := o
  rcases h5 with ⟨g1, rfl⟩ | ⟨b, rfl, a2, a3, a4, a5, a6⟩
  · refine Sees.shutAt (fun r => r = s ∨ r = t) (.inl rfl) ?_ ?_ (.inl ⟨_, h1⟩) ?_
    · intro r d hr hd; simp only [not_or] at hr; exact h6 r d hr.1 hd
    · rintro r (rfl | rfl) hr
      · exact absurd rfl hr
      · exact h4
    · intro M hm hM hN hs
      exact ⟨t, M, ⟨_, by rw [hM s (.inl rfl)]; exact h1, by rw [hM t (.inr rfl)]; exact h2, h3, rfl, .inl ⟨g1, rfl⟩, fun r d _ hd => by cases hd⟩, hs⟩
  · refine Sees.shutAt (fun r => r = s ∨ r = t ∨ r = b) (.inl rfl) ?_ ?_ (.inl ⟨_, h1⟩) ?_
    · intro r d hr hd; simp only [not_or] at hr; exact h6 r d hr.1 hd
    · rintro r (rfl | rfl | rfl) hr
      · exact absurd rfl hr
      · exact h4
      · exact a5
    · intro M hm hM hN hs
      exact ⟨t, M, ⟨_, by rw [hM s (.inl rfl)]; exact h1, by rw [hM t (.inr (.inl rfl))]; exact h2, h3, rfl, .inr ⟨b, rfl, by rw [hM b (.inr (.inr rfl))]; exact a2, a3, a4, rfl, a6⟩, fun r d _ hd => by cases hd⟩, hs⟩
theorem CallL.openS {f : Nat} {vs : List AV} {Q : AV → Lg → Prop} (e : L s = some (.abs (SetP s σ))) (H : ∀ t K, SOpen L s σ t K → CallL F f vs K Q) : CallL F f vs L Q := by
  apply CallL.opens e
  rintro hm ⟨t, M, ⟨sv, h1, h2, h3, h4, h5, h6⟩, hs⟩
  refine ⟨M, hs, by rw [h1]; simp, fun hf => ?_⟩
  have hover : ∀ b d, M b = some d → (M.over L) b = some d := fun b d hb => by simp [Lg.over, hb]
  refine H t (M.over L) ⟨sv, hover _ _ h1, hover _ _ h2, h3, hf _ _ h2 h3, ?_, ?_⟩
  · rcases h5 with h5 | ⟨b, a1, a2, a3, a4, a5, a6⟩
    · exact .inl h5
    · exact .inr ⟨b, a1, hover _ _ a2, a3, a4, hf _ _ a2 a3, a6⟩
  · intro r d hr hd
    cases hM : M r with
    | none => simp [Lg.over, hM, hd]
    | some c => rw [hf r c hM hr] at hd; cases hd
theorem SOpen.back (o : SOpen L s σ t K) (e : L s = some (.abs (SetP s σ))) : Sees K L := by
  have := o.shut
  rwa [Lg.put_self L s _ e] at this
theorem SOpen.ne (o : SOpen L s σ t K) {r : Nat} (hr : K r = none) : r ≠ s ∧ L r = none := by
  obtain ⟨sv, h1, h2, h3, h4, h5, h6⟩ := o
  have n : r ≠ s := by rintro rfl; rw [h1] at hr; cases hr
  refine ⟨n, ?_⟩
  cases e : L r with
  | none => rfl
  | some d => rw [h6 r d n e] at hr; cases hr
theorem SOpen.old (o : SOpen L s σ t K) {r : Nat} {d : LC} (hr : r ≠ s) (hd : L r = some d) : K r = some d := by
  obtain ⟨sv, h1, h2, h3, h4, h5, h6⟩ := o
  exact h6 r d hr hd
theorem SOpen.onto (o : SOpen L s σ t K) {r : Nat} (hr : K r = none) (d : LC) : SOpen (L.put r d) s σ t (K.put r d) := by
  obtain ⟨sv, h1, h2, h3, h4, h5, h6⟩ := o
  have nb : ∀ {y : Nat} {k : LC}, K y = some k → y ≠ r := fun hx hxr => by rw [hxr, hr] at hx; cases hx
  refine ⟨sv, by rw [Lg.put_ne _ _ _ (nb h1)]; exact h1, by rw [Lg.put_ne _ _ _ (nb h2)]; exact h2, h3, by rw [Lg.put_ne _ _ _ (nb h2)]; exact h4, ?_, ?_⟩
  · rcases h5 with h5 | ⟨b, a1, a2, a3, a4, a5, a6⟩
    · exact .inl h5
    · exact .inr ⟨b, a1, by rw [Lg.put_ne _ _ _ (nb a2)]; exact a2, a3, a4, by rw [Lg.put_ne _ _ _ (nb a2)]; exact a5, a6⟩
  · intro y k hy hk
    rw [Lg.put_apply] at hk ⊢
    split
    · rename_i h9; rw [if_pos h9] at hk; exact hk
    · rename_i h9; rw [if_neg h9] at hk; exact h6 y k hy hk
/-- what is old may turn -/
theorem SOpen.putOld (o : SOpen L s σ t K) {r : Nat} {d : LC} (hr : r ≠ s) (hd : L r = some d) (d' : LC) : SOpen (L.put r d') s σ t (K.put r d') := by
  obtain ⟨sv, h1, h2, h3, h4, h5, h6⟩ := o
  have c2 : t ≠ r := by rintro rfl; rw [h4] at hd; cases hd
  refine ⟨sv, by rw [Lg.put_ne _ _ _ (Ne.symm hr)]; exact h1, by rw [Lg.put_ne _ _ _ c2]; exact h2, h3, by rw [Lg.put_ne _ _ _ c2]; exact h4, ?_, ?_⟩
  · rcases h5 with h5 | ⟨b, a1, a2, a3, a4, a5, a6⟩
    · exact .inl h5
    · have c3 : b ≠ r := by rintro rfl; rw [a5] at hd; cases hd
      exact .inr ⟨b, a1, by rw [Lg.put_ne _ _ _ c3]; exact a2, a3, a4, by rw [Lg.put_ne _ _ _ c3]; exact a5, a6⟩
  · intro y k hy hk
    rw [Lg.put_apply] at hk ⊢
    split
    · rename_i h9; rw [if_pos h9] at hk; exact hk
    · rename_i h9; rw [if_neg h9] at hk; exact h6 y k hy hk
theorem SOpen.sub (o : SOpen L0 s σ t K) (hs : ∀ r d, r ≠ s → L r = some d → L0 r = some d) : SOpen L s σ t K := by
  obtain ⟨sv, h1, h2, h3, h4, h5, h6⟩ := o
  have hn : ∀ r, r ≠ s → L0 r = none → L r = none := by
    intro r hr h0
    cases e : L r with
    | none => rfl
    | some d => rw [hs r d hr e] at h0; cases h0
  refine ⟨sv, h1, h2, h3, hn t h3 h4, ?_, fun r d hr hd => h6 r d hr (hs r d hr hd)⟩
  rcases h5 with h5 | ⟨b, a1, a2, a3, a4, a5, a6⟩
  · exact .inl h5
  · exact .inr ⟨b, a1, a2, a3, a4, hn b a3 a5, a6⟩
theorem SOpen.setX (o : SOpen L s σ t K) (x : Xs) : SOpen L s { σ with x := x } t (K.put t (.abs (TmP t x))) := by
  obtain ⟨sv, h1, h2, h3, h4, h5, h6⟩ := o
  refine ⟨sv, by rw [Lg.put_ne _ _ _ (Ne.symm h3)]; exact h1, Lg.put_same _ _ _, h3, h4, ?_, ?_⟩
  · rcases h5 with h5 | ⟨b, a1, a2, a3, a4, a5, a6⟩
    · exact .inl h5
    · exact .inr ⟨b, a1, by rw [Lg.put_ne _ _ _ a4]; exact a2, a3, a4, a5, a6⟩
  · intro r d hr hd
    have : r ≠ t := by rintro rfl; rw [h4] at hd; cases hd
    rw [Lg.put_ne _ _ _ this]; exact h6 r d hr hd
def Tms.has (σ : Tms) (id : Int) : Bool := decide (0 ≤ id) && decide (id < σ.ones.length)
theorem has_open (hf : H_timer_Set_has N F) (o : SOpen L s σ t K) (id : Int) : CallL F (N k_timer_Set_has) [.p (some (s, 0)), .i .i64 id] K fun v K' => v = .b (σ.has id) ∧ K' = K := by
  obtain ⟨sv, h1, h2, h3, h4, h5, h6⟩ := o
  apply r_timer_Set_has hf.code
  unfold D_timer_Set_has_1 Tms.has
  by_cases c1 : 0 ≤ id
  · rcases h5 with ⟨g1, rfl⟩ | ⟨b, rfl, a2, a3, a4, a5, a6⟩
    · have : ¬ id < 0 := by omega
      simp [c1, rdL, AB.read, look, h1, g1]
    · simp [c1, rdL, AB.read, look, h1]
  · simp [c1]
theorem bad_spec (hf : H_timer_bad N F) (n : Int) : CallL F (N k_timer_bad) [.i .i64 n] L fun v L' => v = .b (decide (n < 0) || decide (4611686018427387904 < n)) ∧ L' = L := by
  apply r_timer_bad hf.code
  unfold D_timer_bad_1
  by_cases c1 : n < 0 <;> simp [c1]
theorem Tms.has_nat {σ : Tms} {id : Int} (h : σ.has id = true) : ∃ i : Nat, id = (i : Int) ∧ i < σ.ones.length := by
  simp [Tms.has] at h
  obtain ⟨i, rfl⟩ := Int.eq_ofNat_of_zero_le h.1
  exact ⟨i, rfl, by omega⟩
def Tms.one (σ : Tms) (id : Int) : Option On := if σ.has id = true then σ.ones[id.toNat]? else none
end
end Go.AM


/- timer: arm, make. -/
set_option linter.unusedVariables false
set_option linter.unusedSimpArgs false
namespace Go.AM
variable {N : Nat → Nat} {F : Nat → Option AFn}

def Tms.armed (σ : Tms) (i : Nat) (w : On) (now d : Int) : Tms :=
  { σ with ones := σ.ones.set i { w with gen := w.gen + 1 }, x := (σ.x.arm i (clockAdd now (max d 0)) (if w.kind = 2 then min d 4611686018427387904 else 0)).1 }
/-- what lets the set of timers go on -/
structure Tms.fine (σ : Tms) (n : Nat) (q : Int) : Prop where
  len : σ.x.l.length < n
  pos : 0 ≤ σ.x.seq
  seq : σ.x.seq < q
  named : 0 ≤ σ.named ∧ σ.named ≤ 64
  ones : σ.ones.length < n
section
variable {L K : Lg} {s t : Nat} {σ : Tms}
theorem arm_open (hf : H_timer_Set_arm N F) (o : SOpen L s σ t K) {i : Nat} {w : On} (hw : σ.ones[i]? = some w) (hx : σ.x.l.length < 1000000) (hq : 0 ≤ σ.x.seq ∧ σ.x.seq < 4611686018427387904) (hg : 0 ≤ w.gen ∧ w.gen < 4611686018427387904) (now d : Int) :
    CallL F (N k_timer_Set_arm) [.p (some (s, 0)), .i .i64 i, .i .i64 now, .i .i64 d] K fun v K' => v = .tup [] ∧ SOpen L s (σ.armed i w now d) t K' := by
  have hi : i < σ.ones.length := by
    rcases Nat.lt_or_ge i σ.ones.length with h | h
    · exact h
    · rw [List.getElem?_eq_none h] at hw; cases hw
  apply r_timer_Set_arm hf.code
  generalize hQ : (fun (v : AV) (K' : Lg) => v = .tup [] ∧ SOpen L s (σ.armed i w now d) t K') = Q
  unfold D_timer_Set_arm_1 D_timer_Set_arm_2
  have o' := o
  obtain ⟨sv, h1, h2, h3, h4, h5, h6⟩ := o'
  rcases h5 with ⟨g1, rfl⟩ | ⟨b, rfl, a2, a3, a4, a5, a6⟩
  · rw [g1] at hi; simp at hi
  have ei : (i : Int) < (σ.ones.length : Int) := by omega
  have g0 := ocells_get σ.ones i 0 w hw (by omega)
  have g3 := ocells_get σ.ones i 3 w hw (by omega)
  have gat := ocells_at σ.ones i w hw
  have hle : i * 4 + 3 + 1 ≤ (ocells σ.ones).length := by have := gat.2; omega
  have hlt : i * 4 + 3 < (ocells σ.ones).length := by omega
  simp [On.cells] at g0 g3
  have w1 : wr .i64 (w.gen + 1) = w.gen + 1 := wr_id (by omega) (by omega)
  have key : ∀ p : Int, p = (if w.kind = 2 then min d 4611686018427387904 else 0) → ∀ K0 : Lg, K0 = K → D_timer_Set_arm_3 F N Q (.p (some (s, 0))) (.i .i64 i) (.i .i64 now) (.i .i64 d) (.i .i64 p) K0 := by
    rintro p hp K0 rfl
    unfold D_timer_Set_arm_3
    simp [rdL, AB.read, look, h1]
    refine (clockAdd_spec hf.clock_Add now (max d 0) _).mono ?_
    rintro _ K1 ⟨rfl, rfl⟩
    refine (xarm_spec hf.expire_Timers_Arm h2 hx hq i (clockAdd now (max d 0)) p).mono ?_
    rintro _ K2 ⟨rfl, rfl⟩
    have o2 := o.setX (σ.x.arm i (clockAdd now (max d 0)) p).1
    refine ⟨⟨?_, trivial⟩, ?_⟩
    · simp [againV, semRL, rLdL, rdL, AB.read, look, h1]
    · have hs2 : (K1.put t (.abs (TmP t (σ.x.arm i (clockAdd now (max d 0)) p).1))) s = some (.raw (.cells [.sl (some (b, 0)) σ.ones.length σ.ones.length 4, .p (some (t, 0)), .i .i64 σ.named])) := by rw [Lg.put_ne _ _ _ (Ne.symm h3)]; exact h1
      have hb2 : (K1.put t (.abs (TmP t (σ.x.arm i (clockAdd now (max d 0)) p).1))) b = some (.raw (.cells (ocells σ.ones))) := by rw [Lg.put_ne _ _ _ a4]; exact a2
      simp [rdL, AB.read, look, hs2, wp_iad _ _ _ 4 b 0 σ.ones.length σ.ones.length 4 .i64 (i : Int) (Int.natCast_nonneg _) ei, hb2, g3, w1]
      rw [stL_cell hb2 hlt rfl, ocells_gen σ.ones i w (w.gen + 1) hw]
      refine ⟨_, Sees.refl _, ?_⟩
      subst hQ
      refine ⟨rfl, .sl (some (b, 0)) σ.ones.length σ.ones.length 4, ?_, ?_, h3, h4, .inr ⟨b, by simp [Tms.armed], by simp [Tms.armed], a3, a4, a5, by simpa [Tms.armed] using a6⟩, ?_⟩
      · rw [Lg.put_ne _ _ _ (Ne.symm a3)]; exact hs2
      · rw [Lg.put_ne _ _ _ (Ne.symm a4), Lg.put_same]; simp [Tms.armed, hp]
      · intro r e hr he
        have c1 : r ≠ b := by rintro rfl; rw [a5] at he; cases he
        have c2 : r ≠ t := by rintro rfl; rw [h4] at he; cases he
        rw [Lg.put_ne _ _ _ c1, Lg.put_ne _ _ _ c2]; exact h6 r e hr he
  simp [rdL, AB.read, look, h1, wp_iad _ _ _ 4 b 0 σ.ones.length σ.ones.length 4 .i64 (i : Int) (Int.natCast_nonneg _) ei, a2, g0]
  refine ⟨fun hk => ?_, fun hk => ?_⟩
  · exact key _ (by rw [if_pos hk]) _ rfl
  · exact key 0 (by rw [if_neg hk]) _ rfl
theorem On.cells_one (w : On) : w.cells.all AV.one = true := by simp [On.cells, ptr]
theorem make4 (hf : H_timer_Set_arm N F) (o : SOpen L s σ t K) {w : On} (hw0 : w.gen = 0) (hx : σ.x.l.length < 1000000) (hq : 0 ≤ σ.x.seq ∧ σ.x.seq < 4611686018427387904) (ho : σ.ones.length < 1000000) (now d : Int) {x5 : Nat} (h5s : x5 ≠ s) (r5 : K x5 = some (.raw (.cells w.cells))) {Q : AV → Lg → Prop}
    (hQ : ∀ K', SOpen L s ({ σ with ones := σ.ones ++ [w] }.armed σ.ones.length w now d) t K' → Q (.tup [.i .i64 σ.ones.length, .i .i64 0]) K') :
    D_timer_Set_make_4 F N Q (.p (some (s, 0))) (.i .i64 now) (.i .i64 d) (.p (some (x5, 0))) K := by
  have o' := o
  obtain ⟨sv, h1, h2, h3, h4, h5, h6⟩ := o'
  unfold D_timer_Set_make_4
  have rc : cut w.cells 0 4 = some w.cells := by simp [cut, On.cells, ble_nat]
  have wl : wr .i64 ((σ.ones.length : Int)) = (σ.ones.length : Int) := wr_id (by omega) (by omega)
  have hsv : OwnSl K sv (ocells σ.ones) σ.ones.length 4 := by
    rcases h5 with ⟨g1, rfl⟩ | ⟨b, rfl, a2, a3, a4, a5, a6⟩
    · exact .inl ⟨by simp [g1], by simp [g1, ocells], rfl⟩
    · exact .inr ⟨b, a6, rfl, a2, ocells_length _⟩
  have hsb : ∀ b, slB sv = some b → b ≠ s ∧ b ≠ t ∧ L b = none ∧ K b ≠ none := by
    intro b hb
    rcases h5 with ⟨g1, rfl⟩ | ⟨b', rfl, a2, a3, a4, a5, a6⟩
    · simp [slB] at hb
    · simp [slB] at hb; subst hb; exact ⟨a3, a4, a5, by rw [a2]; simp⟩
  have hdel : ∀ (M : Lg) r, slB sv ≠ some r → (M.delO (slB sv)) r = M r := by
    intro M r hr
    cases hh : slB sv with
    | none => rfl
    | some b => rw [hh] at hr; simp only [Lg.delO]; rw [Lg.del_apply, if_neg]; intro h; exact hr (by rw [h])
  simp [rdL, AB.read, look, h1, rLdL, rdCellsL, r5, rc]
  rw [newL_bslice (c := w.cells) _ _ (by simp [On.cells, reps, fillP, cellsOf_agg', splice, ble_nat, beq_nat, ptr]) w.cells_one]
  intro b1 hb1
  have nb : ∀ {y : Nat} {k : LC}, K y = some k → y ≠ b1 := fun hx hxr => by rw [hxr, hb1] at hx; cases hx
  have hsv1 : OwnSl (K.put b1 (.raw (.cells w.cells))) sv (ocells σ.ones) σ.ones.length 4 := by
    rcases hsv with h | ⟨b, c0, c1, c2, c3⟩
    · exact .inl h
    · exact .inr ⟨b, c0, c1, by rw [Lg.put_ne _ _ _ (nb c2)]; exact c2, c3⟩
  simp
  refine hsv1.app (m := 1) (by omega) rfl (by omega) (new := w.cells) (by simp [rdCellsL, AB.read, rc]) (by simp [On.cells]) w.cells_one (by omega) ?_
  intro b2 hb2
  rw [Lg.put_apply] at hb2
  have n12 : b2 ≠ b1 := by rintro rfl; simp at hb2
  rw [if_neg n12] at hb2
  have nb2 : ∀ {y : Nat} {k : LC}, K y = some k → y ≠ b2 := fun hx hxr => by rw [hxr, hb2] at hx; cases hx
  have onew : ocells σ.ones ++ w.cells = ocells (σ.ones ++ [w]) := by rw [ocells_append]; simp [ocells]
  rw [onew]
  have hds : slB sv ≠ some s := fun h => (hsb _ h).1 rfl
  have hdt : slB sv ≠ some t := fun h => (hsb _ h).2.1 rfl
  obtain ⟨M, hM⟩ : ∃ M, M = ((K.put b1 (.raw (.cells w.cells))).delO (slB sv)).put b2 (.raw (.cells (ocells (σ.ones ++ [w])))) := ⟨_, rfl⟩
  have hMs : M s = some (.raw (.cells [sv, .p (some (t, 0)), .i .i64 σ.named])) := by rw [hM, Lg.put_ne _ _ _ (nb2 h1), hdel _ _ hds, Lg.put_ne _ _ _ (nb h1)]; exact h1
  have hMt : M t = some (.abs (TmP t σ.x)) := by rw [hM, Lg.put_ne _ _ _ (nb2 h2), hdel _ _ hdt, Lg.put_ne _ _ _ (nb h2)]; exact h2
  have hMb : M b2 = some (.raw (.cells (ocells (σ.ones ++ [w])))) := by rw [hM, Lg.put_same]
  have hMo : ∀ r d, r ≠ s → L r = some d → M r = some d := by
    intro r d hr hd
    have hk := h6 r d hr hd
    have hdr : slB sv ≠ some r := fun h => by rw [(hsb _ h).2.2.1] at hd; cases hd
    rw [hM, Lg.put_ne _ _ _ (nb2 hk), hdel _ _ hdr, Lg.put_ne _ _ _ (nb hk)]; exact hk
  rw [← hM]
  have hb2s : b2 ≠ s := Ne.symm (nb2 h1)
  have hb2t : b2 ≠ t := Ne.symm (nb2 h2)
  have hb2L : L b2 = none := (o.ne hb2).2
  have oN : SOpen L s { σ with ones := σ.ones ++ [w] } t (M.put s (.raw (.cells [.sl (some (b2, 0)) (σ.ones.length + 1) (σ.ones.length + 1) 4, .p (some (t, 0)), .i .i64 σ.named]))) :=
    ⟨.sl (some (b2, 0)) (σ.ones.length + 1) (σ.ones.length + 1) 4, Lg.put_same _ _ _, by rw [Lg.put_ne _ _ _ h3]; exact hMt, h3, h4, .inr ⟨b2, by simp, by rw [Lg.put_ne _ _ _ hb2s]; exact hMb, hb2s, hb2t, hb2L, by simp⟩, fun r d hr hd => by rw [Lg.put_ne _ _ _ hr]; exact hMo r d hr hd⟩
  simp [rdL, AB.read, look, hMs, stL_cell hMs, wl]
  refine (arm_open hf oN (i := σ.ones.length) (w := w) (by simp) hx hq (by omega) now d).mono ?_
  rintro _ K' ⟨rfl, oR⟩
  have oR' := oR
  obtain ⟨sv', k1, k2, k3, k4, k5, k6⟩ := oR'
  have := hQ K' oR
  rcases k5 with ⟨g1, rfl⟩ | ⟨b', rfl, e2, e3, e4, e5, e6⟩
  · simp [Tms.armed] at g1
  · simp [rdL, AB.read, look, k1, wl, Tms.armed]
    exact ⟨_, Sees.refl _, by simpa [Tms.armed] using this⟩
def badN (now : Int) : Bool := decide (now < 0) || decide (4611686018427387904 < now)
def Tms.make (σ : Tms) (w : On) (now d : Int) : Tms × Int × Int :=
  if badN now = true ∨ w.data < 0 ∨ (w.kind = 2 ∧ d < 1) then (σ, 0, 1)
  else if w.kind ≠ 4 ∧ 64 ≤ σ.named then (σ, 0, 3)
  else ({ σ with named := if w.kind = 4 then σ.named else σ.named + 1, ones := σ.ones ++ [w] }.armed σ.ones.length w now d, σ.ones.length, 0)
theorem make_open (hf : H_timer_Set_make N F) (o : SOpen L s σ t K) {w : On} (hw0 : w.gen = 0) (hfi : σ.fine 1000000 4611686018427387904) (now d : Int) :
    CallL F (N k_timer_Set_make) [.p (some (s, 0)), .agg w.cells, .i .i64 now, .i .i64 d] K fun v K' => v = .tup [.i .i64 (σ.make w now d).2.1, .i .i64 (σ.make w now d).2.2] ∧ SOpen L s (σ.make w now d).1 t K' := by
  apply r_timer_Set_make hf.code
  generalize hQ : (fun (v : AV) (K' : Lg) => v = .tup [.i .i64 (σ.make w now d).2.1, .i .i64 (σ.make w now d).2.2] ∧ SOpen L s (σ.make w now d).1 t K') = Q
  unfold D_timer_Set_make_1
  simp
  rw [newL_box_agg _ _ _ (by simp [On.cells])]
  intro x5 hx5
  have n5 := o.ne hx5
  have o1 := o.onto hx5 (.raw (.cells w.cells))
  have r5 : (K.put x5 (.raw (.cells w.cells))) x5 = some (.raw (.cells w.cells)) := Lg.put_same _ _ _
  have hsub : ∀ r d, r ≠ s → L r = some d → (L.put x5 (.raw (.cells w.cells))) r = some d := by
    intro r d hr hd
    have : r ≠ x5 := by rintro rfl; rw [n5.2] at hd; cases hd
    rw [Lg.put_ne _ _ _ this]; exact hd
  have finE : ∀ k : Int, σ.make w now d = (σ, 0, k) → fin1 (some (.tup [.i .i64 0, .i .i64 k])) Q (K.put x5 (.raw (.cells w.cells))) := by
    intro k hk
    refine ⟨_, Sees.refl _, ?_⟩
    subst hQ
    rw [hk]
    exact ⟨rfl, o1.sub hsub⟩
  unfold D_timer_Set_make_2
  refine (bad_spec hf.timer_bad now).mono ?_
  rintro _ K1 ⟨rfl, hK1⟩
  rw [← hK1] at finE o1 r5
  clear hK1
  rw [show (decide (now < 0) || decide (4611686018427387904 < now)) = badN now from rfl]
  cases hbad : badN now
  case true =>
    have := finE 1 (by simp [Tms.make, hbad])
    simpa using this
  case false =>
    have rd : ∀ k : Nat, rdL K1 (x5, k) none = w.cells[k]? := fun k => rdL_cell r5
    by_cases c2 : w.data < 0
    · have := finE 1 (by simp [Tms.make, c2])
      simpa [rd, On.cells, c2] using this
    · have nos : x5 ≠ s := n5.1
      by_cases c3 : w.kind = 2 ∧ d < 1
      · have := finE 1 (by simp [Tms.make, c3])
        simpa [rd, On.cells, c2, c3] using this
      · have c4 : ¬ (badN now = true ∨ w.data < 0 ∨ (w.kind = 2 ∧ d < 1)) := by simp [hbad, c2, c3]
        have o2 := o1.sub hsub
        have o2' := o2
        obtain ⟨sv, h1, h2, h3, h4, h5, h6⟩ := o2'
        have m3 : ¬ (w.kind ≠ 4 ∧ 64 ≤ σ.named) → D_timer_Set_make_3 F N Q (.p (some (s, 0))) (.i .i64 now) (.i .i64 d) (.p (some (x5, 0))) K1 := by
          intro c5
          unfold D_timer_Set_make_3
          by_cases c6 : w.kind = 4
          · simp [rd, On.cells, c6]
            refine make4 hf.timer_Set_arm o2 hw0 hfi.len ⟨hfi.pos, hfi.seq⟩ hfi.ones now d nos r5 ?_
            intro K' oR
            subst hQ
            simp only [Tms.make, if_neg c4, if_neg c5, if_pos c6]
            exact ⟨by trivial, oR⟩
          · have w1 : wr .i64 (σ.named + 1) = σ.named + 1 := wr_id (by have := hfi.named; omega) (by have := hfi.named; omega)
            simp [r5, On.cells, c6, rdL, AB.read, look, h1, w1, stL_cell h1]
            have oN : SOpen L s { σ with named := σ.named + 1 } t (K1.put s (.raw (.cells [sv, .p (some (t, 0)), .i .i64 (σ.named + 1)]))) := by
              refine ⟨sv, Lg.put_same _ _ _, by rw [Lg.put_ne _ _ _ h3]; exact h2, h3, h4, ?_, fun r d hr hd => by rw [Lg.put_ne _ _ _ hr]; exact h6 r d hr hd⟩
              rcases h5 with h5 | ⟨b, a1, a2, a3, a4, a5, a6⟩
              · exact .inl h5
              · exact .inr ⟨b, a1, by rw [Lg.put_ne _ _ _ a3]; exact a2, a3, a4, a5, a6⟩
            refine make4 hf.timer_Set_arm oN hw0 hfi.len ⟨hfi.pos, hfi.seq⟩ hfi.ones now d nos (by rw [Lg.put_ne _ _ _ nos]; exact r5) ?_
            intro K' oR
            subst hQ
            simp only [Tms.make, if_neg c4, if_neg c5, if_neg c6]
            exact ⟨by trivial, oR⟩
        have fin3 := fun h : w.kind ≠ 4 ∧ 64 ≤ σ.named => finE 3 (by simp only [Tms.make, if_neg c4, if_pos h])
        by_cases c6 : w.kind = 4
        · have := m3 (by simp [c6])
          simpa [rd, On.cells, c2, c6] using this
        · by_cases c7 : 64 ≤ σ.named
          · have := fin3 ⟨c6, c7⟩
            by_cases c8 : w.kind = 2
            · have c9 : ¬ d < 1 := fun h => c3 ⟨c8, h⟩
              simpa [r5, On.cells, c2, c6, c8, c9, rdL, AB.read, look, h1, c7] using this
            · simpa [r5, On.cells, c2, c6, c8, rdL, AB.read, look, h1, c7] using this
          · have := m3 (by simp [c7])
            by_cases c8 : w.kind = 2
            · have c9 : ¬ d < 1 := fun h => c3 ⟨c8, h⟩
              simpa [r5, On.cells, c2, c6, c8, c9, rdL, AB.read, look, h1, c7] using this
            · simpa [r5, On.cells, c2, c6, c8, rdL, AB.read, look, h1, c7] using this
end
end Go.AM


/- timer: channel, Timer, Ticker, Func, Lapse, Stop, Reset. -/
set_option linter.unusedVariables false
set_option linter.unusedSimpArgs false
namespace Go.AM
variable {N : Nat → Nat} {F : Nat → Option AFn}

theorem CallL.opq {f : Nat} {vs : List AV} {L : Lg} {Q0 : AV → Lg → Prop} (h : ∀ Q : AV → Lg → Prop, (∀ v L, Q0 v L → Q v L) → CallL F f vs L Q) : CallL F f vs L Q0 := h Q0 fun _ _ h => h
def Ch.tm : Ch := ⟨[], 1, [], [], true, false, false⟩
def Lg.putC (L : Lg) (c : Option Nat) (x : Ch) : Lg := match c with
  | none => L
  | some c => L.put c (.abs (ChanP c x))
def Lg.hasC (L : Lg) (s : Nat) (c : Option Nat) (x : Ch) : Prop := ∀ a, c = some a → a ≠ s ∧ L a = some (.abs (ChanP a x))
section
variable {L K : Lg} {s t : Nat} {σ : Tms}
theorem make_spec (hf : H_timer_Set_make N F) (e : L s = some (.abs (SetP s σ))) {w : On} (hw0 : w.gen = 0) (hfi : σ.fine 1000000 4611686018427387904) (now d : Int) :
    CallL F (N k_timer_Set_make) [.p (some (s, 0)), .agg w.cells, .i .i64 now, .i .i64 d] L fun v L' => v = .tup [.i .i64 (σ.make w now d).2.1, .i .i64 (σ.make w now d).2.2] ∧ L' = L.put s (.abs (SetP s (σ.make w now d).1)) := by
  apply CallL.openS e
  intro t K o
  refine (make_open hf o hw0 hfi now d).sees ?_
  rintro _ K' ⟨rfl, o'⟩
  exact ⟨_, o'.shut, rfl, rfl⟩
theorem tlapse_spec (hf : H_timer_Set_Lapse N F) (e : L s = some (.abs (SetP s σ))) (hfi : σ.fine 1000000 4611686018427387904) (when ctx : Int) :
    CallL F (N k_timer_Set_Lapse) [.p (some (s, 0)), .i .i64 when, .i .i64 ctx] L fun v L' => v = .tup [.i .i64 (σ.make ⟨4, ctx, none, 0⟩ 0 when).2.1, .i .i64 (σ.make ⟨4, ctx, none, 0⟩ 0 when).2.2] ∧ L' = L.put s (.abs (SetP s (σ.make ⟨4, ctx, none, 0⟩ 0 when).1)) := by
  refine CallL.opq ?_
  intro Q hQ
  apply r_timer_Set_Lapse hf.code
  unfold D_timer_Set_Lapse_1
  simp [fillP, splice, ble_nat, beq_nat]
  refine (make_spec hf.timer_Set_make e (w := ⟨4, ctx, none, 0⟩) rfl hfi 0 when).mono ?_
  rintro _ L2 ⟨rfl, rfl⟩
  simp
  exact ⟨_, Sees.refl _, hQ _ _ ⟨rfl, rfl⟩⟩
theorem on_get {id : Int} {o : On} (h : σ.one id = some o) : ∃ i : Nat, id = (i : Int) ∧ i < σ.ones.length ∧ σ.ones[i]? = some o ∧ σ.has id = true := by
  unfold Tms.one at h
  split at h
  · rename_i hh
    obtain ⟨i, rfl, hi⟩ := Tms.has_nat hh
    exact ⟨i, rfl, hi, by simpa using h, hh⟩
  · cases h
theorem one_none {id : Int} (h : σ.one id = none) : σ.has id = false := by
  unfold Tms.one at h
  cases hh : σ.has id
  · rfl
  · obtain ⟨i, rfl, hi⟩ := Tms.has_nat hh
    simp [hh] at h; omega
def Ch.left (x : Ch) : Bool := decide (0 < x.vals.length)
def Ch.dropped (x : Ch) : Ch := { x with vals := [] }
def dropsC (c : Option Nat) (x : Ch) : Bool := c.isSome && x.left
theorem dropC_spec (hf : H_chanq_Chan_Drop N F) {c : Option Nat} {x : Ch} (hx : x.timed = true) (h : L.hasC s c x) : CallL F (N k_chanq_Chan_Drop) [ptr c] L fun v L' => v = .b (dropsC c x) ∧ L' = L.putC c x.dropped := by
  cases c with
  | none => exact dropNil_spec hf
  | some c =>
    refine (drop_spec hf (h c rfl).2).mono ?_
    intro v L' h
    rw [if_pos hx] at h
    obtain ⟨rfl, rfl⟩ := h
    exact ⟨by simp [dropsC, Ch.left], rfl⟩
theorem stop_spec (hf : H_timer_Set_Stop N F) (e : L s = some (.abs (SetP s σ))) (hl : σ.x.l.length ≤ 1000000) (id : Int) {o : On} (ho : σ.one id = some o) {x : Ch} (hx : x.timed = true) (hc : L.hasC s o.c x) :
    CallL F (N k_timer_Set_Stop) [.p (some (s, 0)), .i .i64 id] L fun v L' => v = .tup [.b (dropsC o.c x || (findId id σ.x.l).isSome), .i .i64 0] ∧ L' = (L.put s (.abs (SetP s { σ with x := σ.x.stop id }))).putC o.c x.dropped := by
  refine CallL.opq ?_
  intro Q hQ
  obtain ⟨i, rfl, hi, hg, hh⟩ := on_get ho
  apply CallL.openS e
  intro t K op
  apply r_timer_Set_Stop hf.code
  unfold D_timer_Set_Stop_1
  refine (has_open hf.timer_Set_has op i).mono ?_
  rintro _ K0 ⟨rfl, rfl⟩
  have op' := op
  obtain ⟨sv, h1, h2, h3, h4, h5, h6⟩ := op'
  simp [hh, rdL, AB.read, look, h1]
  refine (xstop_spec hf.expire_Timers_Stop h2 hl i).mono ?_
  rintro _ K1 ⟨rfl, rfl⟩
  have o2 := op.setX (σ.x.stop i)
  rcases h5 with ⟨g1, rfl⟩ | ⟨b, rfl, a2, a3, a4, a5, a6⟩
  · rw [g1] at hi; simp at hi
  have ei : (i : Int) < (σ.ones.length : Int) := by omega
  have h9 := ocells_get σ.ones i 2 _ hg (by omega)
  simp [On.cells] at h9
  have hs2 : (K0.put t (.abs (TmP t (σ.x.stop i)))) s = some (.raw (.cells [.sl (some (b, 0)) σ.ones.length σ.ones.length 4, .p (some (t, 0)), .i .i64 σ.named])) := by rw [Lg.put_ne _ _ _ (Ne.symm h3)]; exact h1
  have hb2 : (K0.put t (.abs (TmP t (σ.x.stop i)))) b = some (.raw (.cells (ocells σ.ones))) := by rw [Lg.put_ne _ _ _ a4]; exact a2
  simp [rdL, AB.read, look, hs2, wp_iad _ _ _ 4 b 0 σ.ones.length σ.ones.length 4 .i64 (i : Int) (Int.natCast_nonneg _) ei, hb2, h9]
  have hsee : ∀ y, Sees ((K0.put t (.abs (TmP t (σ.x.stop i)))).putC o.c y) ((L.put s (.abs (SetP s { σ with x := σ.x.stop i }))).putC o.c y) := by
    intro y
    cases hoc : o.c with
    | none => exact o2.shut
    | some c =>
      have h8 := hc c hoc
      simp only [Lg.putC]
      rw [Lg.put_comm _ (Ne.symm h8.1)]
      exact (o2.putOld h8.1 h8.2 _).shut
  have hc2 : (K0.put t (.abs (TmP t (σ.x.stop i)))).hasC s o.c x := by
    intro c hoc
    have h8 := hc c hoc
    exact ⟨h8.1, o2.old h8.1 h8.2⟩
  refine (dropC_spec hf.chanq_Chan_Drop hx hc2).mono ?_
  rintro _ K2 ⟨rfl, rfl⟩
  cases hd : dropsC o.c x
  · simp
    exact ⟨_, hsee _, hQ _ _ ⟨by simp [hd], rfl⟩⟩
  · simp
    exact ⟨_, hsee _, hQ _ _ ⟨by simp [hd], rfl⟩⟩
theorem stop_none (hf : H_timer_Set_Stop N F) (e : L s = some (.abs (SetP s σ))) (id : Int) (ho : σ.one id = none) :
    CallL F (N k_timer_Set_Stop) [.p (some (s, 0)), .i .i64 id] L fun v L' => v = .tup [.b false, .i .i64 4] ∧ L' = L := by
  refine CallL.opq ?_
  intro Q hQ
  apply CallL.openS e
  intro t K op
  apply r_timer_Set_Stop hf.code
  unfold D_timer_Set_Stop_1
  refine (has_open hf.timer_Set_has op id).mono ?_
  rintro _ K0 ⟨rfl, rfl⟩
  simp [one_none ho]
  exact ⟨_, op.back e, hQ _ _ ⟨rfl, rfl⟩⟩
end
end Go.AM

