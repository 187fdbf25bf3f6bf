/- expire: what its functions do. -/
import Derived.Test.YtijhjfpiglaleaaLibHeapD
set_option linter.unusedVariables false
set_option linter.unusedSimpArgs false
namespace Go.AM
variable {N : Nat → Nat} {F : Nat → Option AFn}

/-- what will be due: in order; the count; the periods -/
structure Xs where
  l : List It
  seq : Int
  pf : Int → Option Int
structure Xs.ok (x : Xs) (n : Nat) : Prop where
  sorted : x.l.Pairwise It.lt
  len : x.l.length ≤ n
  below : ∀ y, y ∈ x.l → y.s ≤ x.seq
  pos : 0 ≤ x.seq
def Xs.stop (x : Xs) (id : Int) : Xs := { x with l := rmId id x.l, pf := updI x.pf id none }
def Xs.armed (x : Xs) (id when period : Int) : Xs := { l := ins ⟨id, when, x.seq + 1⟩ (rmId id x.l), seq := x.seq + 1, pf := updI (updI x.pf id none) id (some period) }
def badT (a b : Int) : Bool := decide (min a b < 0) || decide (4611686018427387904 < max a b)
def Xs.arm (x : Xs) (id when period : Int) : Xs × Int := if badT when period = true then (x, 1) else (x.armed id when period, 0)
def Xs.next (x : Xs) : Int × Bool := match x.l.head? with
  | some y => (y.w, true)
  | none => (0, false)
def Xs.take (x : Xs) (now : Int) : Xs × (Int × Int × Int) × Bool := match x.l.head? with
  | none => (x, (0, 0, 0), false)
  | some y => if now < 0 ∨ now < y.w then (x, (0, 0, 0), false) else
    let p := (x.pf y.id).getD 0
    let z : Xs := x.stop y.id
    let c := clockNext y.w p now
    (if c.2 = 0 ∧ now < c.1 then (z.arm y.id c.1 p).1 else z, (y.id, y.w, now), true)
def TmP (t : Nat) (x : Xs) (hp : Hp) : Prop := ∃ (h pm : Nat) (es : List (AV × AV)) (M : Lg), M t = some (.raw (.cells [.p (some (h, 0)), .m (some pm)])) ∧ M h = some (.abs (HeapP h x.l x.seq)) ∧ M pm = some (.raw (.map es)) ∧ MapI es x.pf ∧ h ≠ t ∧ pm ≠ t ∧ pm ≠ h ∧ Sat M hp
structure XOpen (L : Lg) (t : Nat) (x : Xs) (h pm : Nat) (K : Lg) : Prop where
  root : K t = some (.raw (.cells [.p (some (h, 0)), .m (some pm)]))
  heap : K h = some (.abs (HeapP h x.l x.seq))
  per : ∃ es, K pm = some (.raw (.map es)) ∧ MapI es x.pf
  n1 : h ≠ t
  n2 : pm ≠ t
  n3 : pm ≠ h
  f1 : L h = none
  f2 : L pm = none
  old : ∀ r d, r ≠ t → L r = some d → K r = some d

section
variable {L L0 K : Lg} {t h pm : Nat} {x : Xs}
theorem XOpen.shut (o : XOpen L t x h pm K) : Sees K (L.put t (.abs (TmP t x))) := by
  obtain ⟨es, e1, e2⟩ := o.per
  refine Sees.shutAt (fun r => r = t ∨ r = h ∨ r = pm) (.inl rfl) ?_ ?_ (.inl ⟨_, o.root⟩) ?_
  · intro r d hr hd; simp only [not_or] at hr; exact o.old r d hr.1 hd
  · rintro r (rfl | rfl | rfl) hr
    · exact absurd rfl hr
    · exact o.f1
    · exact o.f2
  · intro M hm hM hN hs
    exact ⟨h, pm, es, M, by rw [hM t (.inl rfl)]; exact o.root, by rw [hM h (.inr (.inl rfl))]; exact o.heap, by rw [hM pm (.inr (.inr rfl))]; exact e1, e2, o.n1, o.n2, o.n3, hs⟩
theorem CallL.openX {f : Nat} {vs : List AV} {Q : AV → Lg → Prop} (e : L t = some (.abs (TmP t x))) (H : ∀ h pm K, XOpen L t x h pm K → CallL F f vs K Q) : CallL F f vs L Q := by
  apply CallL.opens e
  rintro hm ⟨h, pm, es, M, m1, m2, m3, m4, n1, n2, n3, hs⟩
  refine ⟨M, hs, by rw [m1]; simp, fun hf => ?_⟩
  have hover : ∀ b d, M b = some d → (M.over L) b = some d := fun b d hb => by simp [Lg.over, hb]
  refine H h pm (M.over L) ⟨hover _ _ m1, hover _ _ m2, ⟨es, hover _ _ m3, m4⟩, n1, n2, n3, hf _ _ m2 n1, hf _ _ m3 n2, ?_⟩
  intro r d hr hd
  cases hM : M r with
  | none => simp [Lg.over, hM, hd]
  | some c => rw [hf r c hM hr] at hd; cases hd
theorem XOpen.ne (o : XOpen L t x h pm K) {r : Nat} (hr : K r = none) : r ≠ t ∧ L r = none := by
  have n : r ≠ t := by rintro rfl; rw [o.root] at hr; cases hr
  refine ⟨n, ?_⟩
  cases e : L r with
  | none => rfl
  | some d => rw [o.old r d n e] at hr; cases hr
theorem XOpen.nes (o : XOpen L t x h pm K) {r : Nat} (hr : K r = none) : r ≠ t ∧ r ≠ h ∧ r ≠ pm := by
  obtain ⟨es, e1, _⟩ := o.per
  refine ⟨?_, ?_, ?_⟩ <;> rintro rfl
  · rw [o.root] at hr; cases hr
  · rw [o.heap] at hr; cases hr
  · rw [e1] at hr; cases hr
theorem XOpen.onto (o : XOpen L t x h pm K) {r : Nat} (hr : K r = none) (d : LC) : XOpen (L.put r d) t x h pm (K.put r d) := by
  obtain ⟨es, e1, e2⟩ := o.per
  obtain ⟨c1, c2, c3⟩ := o.nes hr
  refine ⟨by rw [Lg.put_ne _ _ _ (Ne.symm c1)]; exact o.root, by rw [Lg.put_ne _ _ _ (Ne.symm c2)]; exact o.heap, ⟨es, by rw [Lg.put_ne _ _ _ (Ne.symm c3)]; exact e1, e2⟩, o.n1, o.n2, o.n3,
    by rw [Lg.put_ne _ _ _ (Ne.symm c2)]; exact o.f1, by rw [Lg.put_ne _ _ _ (Ne.symm c3)]; exact o.f2, ?_⟩
  intro y k hy hk
  rw [Lg.put_apply] at hk ⊢
  split
  · rename_i h9; rw [if_pos h9] at hk; exact hk
  · rename_i h9; rw [if_neg h9] at hk; exact o.old y k hy hk
theorem XOpen.putOld (o : XOpen L t x h pm K) {r : Nat} {d : LC} (hr : r ≠ t) (hd : L r = some d) (d' : LC) : XOpen (L.put r d') t x h pm (K.put r d') := by
  obtain ⟨es, e1, e2⟩ := o.per
  have c2 : r ≠ h := by rintro rfl; rw [o.f1] at hd; cases hd
  have c3 : r ≠ pm := by rintro rfl; rw [o.f2] at hd; cases hd
  refine ⟨by rw [Lg.put_ne _ _ _ (Ne.symm hr)]; exact o.root, by rw [Lg.put_ne _ _ _ (Ne.symm c2)]; exact o.heap, ⟨es, by rw [Lg.put_ne _ _ _ (Ne.symm c3)]; exact e1, e2⟩, o.n1, o.n2, o.n3,
    by rw [Lg.put_ne _ _ _ (Ne.symm c2)]; exact o.f1, by rw [Lg.put_ne _ _ _ (Ne.symm c3)]; exact o.f2, ?_⟩
  intro y k hy hk
  rw [Lg.put_apply] at hk ⊢
  split
  · rename_i h9; rw [if_pos h9] at hk; exact hk
  · rename_i h9; rw [if_neg h9] at hk; exact o.old y k hy hk
theorem XOpen.sub (o : XOpen L0 t x h pm K) (hs : ∀ r d, r ≠ t → L r = some d → L0 r = some d) : XOpen L t x h pm K := by
  have hn : ∀ r, r ≠ t → L0 r = none → L r = none := by
    intro r hr h0
    cases e : L r with
    | none => rfl
    | some d => rw [hs r d hr e] at h0; cases h0
  exact ⟨o.root, o.heap, o.per, o.n1, o.n2, o.n3, hn h o.n1 o.f1, hn pm o.n2 o.f2, fun r d hr hd => o.old r d hr (hs r d hr hd)⟩
theorem XOpen.setHeap (o : XOpen L t x h pm K) (l : List It) (seq : Int) : XOpen L t { x with l := l, seq := seq } h pm (K.put h (.abs (HeapP h l seq))) := by
  obtain ⟨es, e1, e2⟩ := o.per
  refine ⟨by rw [Lg.put_ne _ _ _ (Ne.symm o.n1)]; exact o.root, Lg.put_same _ _ _, ⟨es, by rw [Lg.put_ne _ _ _ o.n3]; exact e1, e2⟩, o.n1, o.n2, o.n3, o.f1, o.f2, ?_⟩
  intro r d hr hd
  have : r ≠ h := by rintro rfl; rw [o.f1] at hd; cases hd
  rw [Lg.put_ne _ _ _ this]; exact o.old r d hr hd
theorem XOpen.setPer (o : XOpen L t x h pm K) {es : List (AV × AV)} {f : Int → Option Int} (hm : MapI es f) : XOpen L t { x with pf := f } h pm (K.put pm (.raw (.map es))) := by
  refine ⟨by rw [Lg.put_ne _ _ _ (Ne.symm o.n2)]; exact o.root, by rw [Lg.put_ne _ _ _ (Ne.symm o.n3)]; exact o.heap, ⟨es, Lg.put_same _ _ _, hm⟩, o.n1, o.n2, o.n3, o.f1, o.f2, ?_⟩
  intro r d hr hd
  have : r ≠ pm := by rintro rfl; rw [o.f2] at hd; cases hd
  rw [Lg.put_ne _ _ _ this]; exact o.old r d hr hd
theorem XOpen.back (o : XOpen L t x h pm K) (e : L t = some (.abs (TmP t x))) : Sees K L := by
  have := o.shut
  rwa [Lg.put_self L t _ e] at this

theorem xnew_spec (hf : H_expire_New N F) : CallL F (N k_expire_New) [] L fun v L' => ∃ t, L t = none ∧ v = .p (some (t, 0)) ∧ L' = L.put t (.abs (TmP t ⟨[], 0, fun _ => none⟩)) := by
  apply r_expire_New hf.code
  unfold D_expire_New_1
  refine (hnew_spec hf.heap_New).mono ?_
  rintro _ _ ⟨h, hh, rfl, rfl⟩
  simp
  intro pm hpm
  have n1 : pm ≠ h := by rintro rfl; simp at hpm
  rw [Lg.put_ne _ _ _ n1] at hpm
  simp [fillP, splice, ble_nat, beq_nat]
  intro t ht
  have n2 : t ≠ pm := by rintro rfl; simp at ht
  have n3 : t ≠ h := by rintro rfl; simp [Lg.put_apply, Ne.symm n1] at ht
  rw [Lg.put_ne _ _ _ n2, Lg.put_ne _ _ _ n3] at ht
  have o : XOpen L t ⟨[], 0, fun _ => none⟩ h pm (((L.put h (.abs (HeapP h [] 0))).put pm (.raw (.map []))).put t (.raw (.cells [.p (some (h, 0)), .m (some pm)]))) :=
    ⟨Lg.put_same _ _ _, by simp [Lg.put_apply, Ne.symm n3, Ne.symm n1], ⟨[], by simp [Lg.put_apply, Ne.symm n2], mapI_nil⟩, Ne.symm n3, Ne.symm n2, n1, hh, hpm, fun r d hr hd => by
      have c1 : r ≠ h := by rintro rfl; rw [hh] at hd; cases hd
      have c2 : r ≠ pm := by rintro rfl; rw [hpm] at hd; cases hd
      simp [Lg.put_apply, hr, c1, c2, hd]⟩
  exact ⟨_, o.shut, t, ht, rfl, rfl⟩
theorem xstop_open (hf : H_expire_Timers_Stop N F) (o : XOpen L t x h pm K) (hl : x.l.length ≤ 1000000) (id : Int) :
    CallL F (N k_expire_Timers_Stop) [.p (some (t, 0)), .i .i64 id] K fun v K' => v = .b (findId id x.l).isSome ∧ XOpen L t (x.stop id) h pm K' := by
  apply r_expire_Timers_Stop hf.code
  generalize hQ : (fun (v : AV) (K' : Lg) => v = .b (findId id x.l).isSome ∧ XOpen L t (x.stop id) h pm K') = Q
  unfold D_expire_Timers_Stop_1
  simp [rdL, AB.read, look, o.root]
  refine (hremove_spec hf.heap_Heap_Remove o.heap hl id).mono ?_
  rintro _ _ ⟨rfl, rfl⟩
  have o2 := o.setHeap (rmId id x.l) x.seq
  obtain ⟨es, e1, e2⟩ := o2.per
  obtain ⟨es', hd, hM⟩ := e2.del id
  have o3 := o2.setPer hM
  have key : ∀ z : It, ∀ r : Nat, (K.put h (.abs (HeapP h (rmId id x.l) x.seq))) r = none → ∀ c : LC,
      wpOp F .nilchk [.p (some (t, 0))] ((K.put h (.abs (HeapP h (rmId id x.l) x.seq))).put r c) fun v10 L10 => wpOp F (.fad 1) [v10] L10 fun v11 L11 => wpOp F (.ld none) [v11] L11 fun v12 L12 => wpOp F .mdel [v12, .i .i64 id] L12 fun _ L13 =>
        fin1 (some (.b (findId id x.l).isSome)) Q L13 := by
    intro z r hr c
    obtain ⟨c1, c2, c3⟩ := o2.nes hr
    have o4 := (o2.onto hr c).setPer hM
    have hr1 : ((K.put h (.abs (HeapP h (rmId id x.l) x.seq))).put r c) t = some (.raw (.cells [.p (some (h, 0)), .m (some pm)])) := by rw [Lg.put_ne _ _ _ (Ne.symm c1)]; exact o2.root
    have hr2 : ((K.put h (.abs (HeapP h (rmId id x.l) x.seq))).put r c) pm = some (.raw (.map es)) := by rw [Lg.put_ne _ _ _ (Ne.symm c3)]; exact e1
    simp [rdL, AB.read, look, hr1, mdelW, hr2, hd]
    refine ⟨_, Sees.refl _, ?_⟩
    subst hQ
    refine ⟨rfl, o4.sub fun y d hy hyd => ?_⟩
    have : y ≠ r := by rintro rfl; rw [(o2.ne hr).2] at hyd; cases hyd
    rw [Lg.put_ne _ _ _ this]; exact hyd
  cases hfi : findId id x.l with
  | none =>
    rw [hfi] at key
    simp [retIt, It.av]
    intro r hr
    rw [stL_cells (Lg.put_same _ _ _) (by simp [It.cells]) (by simp [It.cells]) (by simp), Lg.put_put]
    exact key It.zero r hr _
  | some y =>
    rw [hfi] at key
    simp [retIt, It.av]
    intro r hr
    rw [stL_cells (Lg.put_same _ _ _) (by simp [It.cells]) (by simp [It.cells]) (by simp), Lg.put_put]
    exact key y r hr _
theorem findId_rmId (id : Int) (l : List It) : findId id (rmId id l) = none := by
  unfold findId rmId
  rw [List.find?_eq_none]
  intro y hy
  simp at hy
  simp [hy.2]
theorem rmId_length (id : Int) (l : List It) : (rmId id l).length ≤ l.length := List.length_filter_le _ _
theorem xarm_open (hf : H_expire_Timers_Arm N F) (o : XOpen L t x h pm K) (hl : x.l.length < 1000000) (hq : 0 ≤ x.seq ∧ x.seq < 4611686018427387904) (id when period : Int) :
    CallL F (N k_expire_Timers_Arm) [.p (some (t, 0)), .i .i64 id, .i .i64 when, .i .i64 period] K fun v K' => v = .i .i64 (x.arm id when period).2 ∧ XOpen L t (x.arm id when period).1 h pm K' := by
  apply r_expire_Timers_Arm hf.code
  unfold D_expire_Timers_Arm_1 Xs.arm badT
  generalize hQ : (fun (v : AV) (K' : Lg) => v = .i .i64 (if (decide (min when period < 0) || decide (4611686018427387904 < max when period)) = true then (x, (1 : Int)) else (x.armed id when period, 0)).2 ∧
    XOpen L t (if (decide (min when period < 0) || decide (4611686018427387904 < max when period)) = true then (x, (1 : Int)) else (x.armed id when period, 0)).1 h pm K') = Q
  by_cases c1 : min when period < 0
  · simp [c1]
    refine ⟨K, Sees.refl _, ?_⟩
    subst hQ
    simp [c1, o]
  · by_cases c2 : 4611686018427387904 < max when period
    · simp [c1, c2]
      refine ⟨K, Sees.refl _, ?_⟩
      subst hQ
      simp [c1, c2, o]
    · simp [c1, c2]
      refine (xstop_open hf.expire_Timers_Stop o (by omega) id).mono ?_
      rintro _ K2 ⟨rfl, o2⟩
      obtain ⟨es, e1, e2⟩ := o2.per
      obtain ⟨es', hd, hM⟩ := e2.set id period
      have o3 := o2.setPer hM
      have hl2 : (x.stop id).l.length < 1000000 := Nat.lt_of_le_of_lt (rmId_length id x.l) hl
      simp [rdL, AB.read, look, o2.root, msetW, e1, hd, Lg.put_apply, Ne.symm o2.n2]
      refine (hadd_spec hf.heap_Heap_Add o3.heap hl2 hq id when).mono ?_
      intro v K4 hv
      have hn : findId id (x.stop id).l = none := findId_rmId id x.l
      simp only [hn] at hv
      simp at hv
      obtain ⟨rfl, rfl⟩ := hv
      refine ⟨_, Sees.refl _, ?_⟩
      subst hQ
      simp [c1, c2]
      exact o3.setHeap _ _
theorem xnext_open (hf : H_expire_Timers_Next N F) (o : XOpen L t x h pm K) (hs : x.l.Pairwise It.lt) :
    CallL F (N k_expire_Timers_Next) [.p (some (t, 0))] K fun v K' => v = .tup [.i .i64 x.next.1, .b x.next.2] ∧ K' = K := by
  apply r_expire_Timers_Next hf.code
  generalize hQ : (fun (v : AV) (K' : Lg) => v = .tup [.i .i64 x.next.1, .b x.next.2] ∧ K' = K) = Q
  unfold D_expire_Timers_Next_1
  simp [rdL, AB.read, look, o.root]
  refine (hmin_spec hf.heap_Heap_Min o.heap hs).mono ?_
  rintro _ K1 ⟨rfl, rfl⟩
  cases hh : x.l.head? with
  | none =>
    simp [retIt, It.av]
    intro r hr
    rw [stL_cells (Lg.put_same _ _ _) (by simp [It.cells]) (by simp [It.cells]) (by simp), Lg.put_put]
    simp [rdL, AB.read, look, splice, It.cells, It.zero]
    refine ⟨K1, ((Ext2.refl _).put hr _).sees, ?_⟩
    subst hQ
    simp [Xs.next, hh]
  | some y =>
    simp [retIt, It.av]
    intro r hr
    rw [stL_cells (Lg.put_same _ _ _) (by simp [It.cells]) (by simp [It.cells]) (by simp), Lg.put_put]
    simp [rdL, AB.read, look, splice, It.cells]
    refine ⟨K1, ((Ext2.refl _).put hr _).sees, ?_⟩
    subst hQ
    simp [Xs.next, hh]
def retDue (d : Int × Int × Int) (ok : Bool) : AV := .tup [.agg [.i .i64 d.1, .i .i64 d.2.1, .i .i64 d.2.2], .b ok]
theorem xtake_open (hf : H_expire_Timers_Take N F) (o : XOpen L t x h pm K) (hs : x.l.Pairwise It.lt) (hl : x.l.length < 1000000) (hq : 0 ≤ x.seq ∧ x.seq < 4611686018427387904) (now : Int) :
    CallL F (N k_expire_Timers_Take) [.p (some (t, 0)), .i .i64 now] K fun v K' => v = retDue (x.take now).2.1 (x.take now).2.2 ∧ XOpen L t (x.take now).1 h pm K' := by
  apply r_expire_Timers_Take hf.code
  generalize hQ : (fun (v : AV) (K' : Lg) => v = retDue (x.take now).2.1 (x.take now).2.2 ∧ XOpen L t (x.take now).1 h pm K') = Q
  unfold D_expire_Timers_Take_1 D_expire_Timers_Take_2
  simp
  intro rc hrc
  have o1 := o.onto hrc (.raw (.cells [.i .i64 0, .i .i64 0, .i .i64 0]))
  have nrc := o.ne hrc
  refine (xnext_open hf.expire_Timers_Next o1 hs).mono ?_
  rintro _ _ ⟨rfl, rfl⟩
  unfold D_expire_Timers_Take_3
  -- nothing is due
  have idle : ∀ {K1 : Lg}, K1 = K.put rc (.raw (.cells [.i .i64 0, .i .i64 0, .i .i64 0])) → x.take now = (x, (0, 0, 0), false) →
      stL 3 K1 (fun _ L10 => fin1 (resVL Env.nil Env.nil L10 [.cell (.c (.p (some (rc, 0)))) (some 3), .tmp (.c (.b false))]) Q L10) [.p (some (rc, 0)), .agg [.i .i64 0, .i .i64 0, .i .i64 0]] := by
    rintro K1 rfl htk
    rw [stL_cells (Lg.put_same _ _ _) (by simp) (by simp) (by simp)]
    rw [res_cell_tmp _ _ (Lg.put_same _ _ _) (by simp [splice])]
    refine ⟨K, ?_, ?_⟩
    · rw [Lg.put_put]; exact ((Ext2.refl _).put hrc _).sees
    · subst hQ
      rw [htk]
      exact ⟨by simp [splice, retDue], o⟩
  cases hh : x.l.head? with
  | none =>
    have htk : x.take now = (x, (0, 0, 0), false) := by simp [Xs.take, hh]
    simp [Xs.next, hh, fillP]
    exact idle rfl htk
  | some y =>
    by_cases c1 : now < 0
    · have htk : x.take now = (x, (0, 0, 0), false) := by simp [Xs.take, hh, c1]
      simp [Xs.next, hh, fillP, c1]
      exact idle rfl htk
    · by_cases c2 : now < y.w
      · have htk : x.take now = (x, (0, 0, 0), false) := by simp [Xs.take, hh, c2]
        simp [Xs.next, hh, fillP, c1, c2]
        exact idle rfl htk
      · simp [Xs.next, hh, c1, c2]
        unfold D_expire_Timers_Take_4
        simp [rdL, AB.read, look, Lg.put_apply, o1.root, Ne.symm nrc.1, o.root]
        refine (hpop_spec hf.heap_Heap_Pop o1.heap hs (by omega)).mono ?_
        rintro _ K2 ⟨rfl, hK2⟩
        obtain ⟨rest, hxl⟩ : ∃ rest, x.l = y :: rest := by
          cases hx : x.l with
          | nil => rw [hx] at hh; cases hh
          | cons a b => rw [hx] at hh; simp at hh; subst hh; exact ⟨b, rfl⟩
        simp only [hxl] at hK2
        rw [← hxl] at hK2
        subst hK2
        have o2 := o1.setHeap (rmId y.id x.l) x.seq
        rw [hh]
        simp [retIt, It.av]
        intro x7 hx7
        rw [stL_cells (Lg.put_same _ _ _) (by simp [It.cells]) (by simp [It.cells]) (by simp), Lg.put_put, show splice [AV.i .i64 0, .i .i64 0, .i .i64 0] 0 y.cells = y.cells by simp [splice, It.cells]]
        have n7 := o2.ne hx7
        have o3 := o2.onto hx7 (.raw (.cells y.cells))
        obtain ⟨L3, hL3⟩ : ∃ L3, L3 = (L.put rc (.raw (.cells [.i .i64 0, .i .i64 0, .i .i64 0]))).put x7 (.raw (.cells y.cells)) := ⟨_, rfl⟩
        obtain ⟨K3, hK3⟩ : ∃ K3, K3 = ((K.put rc (.raw (.cells [.i .i64 0, .i .i64 0, .i .i64 0]))).put h (.abs (HeapP h (rmId y.id x.l) x.seq))).put x7 (.raw (.cells y.cells)) := ⟨_, rfl⟩
        rw [← hL3, ← hK3] at o3
        rw [← hK3]
        have n7r : x7 ≠ rc := by
          rintro rfl
          have := n7.2
          rw [Lg.put_same] at this; cases this
        have r7 : L3 x7 = some (.raw (.cells y.cells)) := by rw [hL3]; exact Lg.put_same _ _ _
        have rrc : L3 rc = some (.raw (.cells [.i .i64 0, .i .i64 0, .i .i64 0])) := by rw [hL3, Lg.put_ne _ _ _ (Ne.symm n7r)]; exact Lg.put_same _ _ _
        have hsub : ∀ r d, r ≠ t → L r = some d → L3 r = some d := by
          intro r d hr hd
          have c1 : r ≠ rc := by rintro rfl; rw [nrc.2] at hd; cases hd
          have c2 : r ≠ x7 := by
            rintro rfl
            have := n7.2
            rw [Lg.put_ne _ _ _ c1, hd] at this; cases this
          rw [hL3]; simp [Lg.put_apply, c1, c2, hd]
        clear hK3 hL3 o2 o1 hx7
        obtain ⟨es, e1, e2⟩ := o3.per
        have k7 := o3.old x7 _ n7.1 r7
        unfold D_expire_Timers_Take_5
        obtain ⟨p, hp⟩ : ∃ p, p = (x.pf y.id).getD 0 := ⟨_, rfl⟩
        have hlk : rLkupL (.i .i64 0) false K3 [.m (some pm), .i .i64 y.id] = some (.i .i64 p) := by
          simp [rLkupL, e1, e2.find y.id, hp]
          cases x.pf y.id <;> rfl
        simp [rdL, AB.read, look, o3.root, k7, It.cells, hlk]
        unfold D_expire_Timers_Take_6
        obtain ⟨es', hd, hM⟩ := e2.del y.id
        have o4 := o3.setPer hM
        have n7p : x7 ≠ pm := by rintro rfl; rw [o3.f2] at r7; cases r7
        simp [rdL, AB.read, look, o3.root, k7, It.cells, mdelW, e1, hd]
        obtain ⟨K4, hK4⟩ : ∃ K4, K4 = K3.put pm (.raw (.map es')) := ⟨_, rfl⟩
        rw [← hK4] at o4 ⊢
        have k47 := o4.old x7 _ n7.1 r7
        -- the end: what is due is handed out
        have fin : ∀ {z : Xs} {K' : Lg}, XOpen L3 t z h pm K' → (x.take now) = (z, (y.id, y.w, now), true) →
            stL 3 K' (fun _ L15 => fin1 (resVL Env.nil Env.nil L15 [.cell (.c (.p (some (rc, 0)))) (some 3), .tmp (.c (.b true))]) Q L15) [.p (some (rc, 0)), .agg [.i .i64 y.id, .i .i64 y.w, .i .i64 now]] := by
          intro z K' o' hz
          have krc := o'.old rc _ nrc.1 rrc
          rw [stL_cells krc (by simp) (by simp) (by simp)]
          rw [res_cell_tmp _ _ (Lg.put_same _ _ _) (by simp [splice])]
          have o2 := (o'.putOld nrc.1 rrc (.raw (.cells (splice [.i .i64 0, .i .i64 0, .i .i64 0] 0 [.i .i64 y.id, .i .i64 y.w, .i .i64 now])))).sub (L := L) (fun r d hr hd => by
            have c1 : r ≠ rc := by rintro rfl; rw [nrc.2] at hd; cases hd
            rw [Lg.put_ne _ _ _ c1]; exact hsub r d hr hd)
          refine ⟨_, Sees.refl _, ?_⟩
          subst hQ
          rw [hz]
          exact ⟨by simp [splice, retDue], o2⟩
        have htake : x.take now = (if (clockNext y.w p now).2 = 0 ∧ now < (clockNext y.w p now).1 then ((x.stop y.id).arm y.id (clockNext y.w p now).1 p).1 else x.stop y.id, (y.id, y.w, now), true) := by
          simp [Xs.take, hh, c1, c2, ← hp]
        unfold D_expire_Timers_Take_7
        refine (clockNext_spec hf.clock_Next y.w p now K4).mono ?_
        rintro _ K4 ⟨rfl, rfl⟩
        have hst : XOpen L3 t (x.stop y.id) h pm K4 := o4
        by_cases d1 : (clockNext y.w p now).2 = 0
        · by_cases d2 : now < (clockNext y.w p now).1
          · simp [d1, d2, rdL, AB.read, look, k47, It.cells]
            refine (xarm_open hf.expire_Timers_Arm hst (Nat.lt_of_le_of_lt (rmId_length y.id x.l) hl) hq y.id _ p).mono ?_
            rintro _ K5 ⟨rfl, o5⟩
            have k57 := o5.old x7 _ n7.1 r7
            simp [rdL, AB.read, look, k57, It.cells, fillP, splice, ble_nat, beq_nat]
            refine fin o5 ?_
            rw [htake, if_pos ⟨d1, d2⟩]
          · simp [d1, d2, rdL, AB.read, look, k47, It.cells, fillP, splice, ble_nat, beq_nat]
            refine fin hst ?_
            rw [htake, if_neg (fun hc => d2 hc.2)]
        · simp [d1, rdL, AB.read, look, k47, It.cells, fillP, splice, ble_nat, beq_nat]
          refine fin hst ?_
          rw [htake, if_neg (fun hc => d1 hc.1)]
end
end Go.AM
