/- heap: add, remove, find, min, pop. -/
import Derived.Test.YtijhjfpiglaleaaLibHeapB
set_option linter.unusedVariables false
set_option linter.unusedSimpArgs false
namespace Go.AM
variable {N : Nat → Nat} {F : Nat → Option AFn}

/-! ### rows in order -/
def ins (x : It) : List It → List It
  | [] => [x]
  | y :: r => if x.lt y then x :: y :: r else y :: ins x r
theorem ins_perm (x : It) : ∀ l, (ins x l).Perm (x :: l)
  | [] => List.Perm.refl _
  | y :: r => by
    unfold ins
    split
    · exact List.Perm.refl _
    · exact ((ins_perm x r).cons y).trans (List.Perm.swap x y r)
theorem ins_sorted {x : It} : ∀ {l : List It}, l.Pairwise It.lt → (∀ y, y ∈ l → x.s ≠ y.s) → (ins x l).Pairwise It.lt
  | [], _, _ => by simp [ins]
  | y :: r, h, hx => by
    rw [List.pairwise_cons] at h
    unfold ins
    split
    · rename_i hlt
      rw [List.pairwise_cons]
      refine ⟨fun z hz => ?_, List.pairwise_cons.2 h⟩
      rcases List.mem_cons.1 hz with rfl | hz
      · exact hlt
      · exact It.lt_trans hlt (h.1 z hz)
    · rename_i hlt
      have hyx : y.lt x := by
        have := hx y (by simp)
        unfold It.lt at *
        omega
      rw [List.pairwise_cons]
      refine ⟨fun z hz => ?_, ins_sorted h.2 (fun z hz => hx z (by simp [hz]))⟩
      rcases List.mem_cons.1 ((ins_perm x r).mem_iff.1 hz) with rfl | hz
      · exact hyx
      · exact h.1 z hz
def rmId (id : Int) (l : List It) : List It := l.filter fun y => !decide (y.id = id)
def findId (id : Int) (l : List It) : Option It := l.find? fun y => decide (y.id = id)
theorem cons_set_perm {α : Type} (y : α) : ∀ (l : List α) (i : Nat) (h : i < l.length), (l[i] :: l.set i y).Perm (y :: l)
  | [], i, h => by simp at h
  | a :: r, 0, h => by simpa using List.Perm.swap y a r
  | a :: r, i + 1, h => by
    have := cons_set_perm y r i (by simpa using h)
    simp only [List.set_cons_succ, List.getElem_cons_succ]
    exact (List.Perm.swap a _ _).trans ((this.cons a).trans (List.Perm.swap y a r))

/-- a heap: its items in order, and the count -/
def HeapP (h : Nat) (l : List It) (seq : Int) (hp : Hp) : Prop := ∃ its mp M, HOpen Lg.nil h its mp seq M ∧ Cons its mp ∧ HeapA its ∧ its.Perm l ∧ Sat M hp

section
variable {L K : Lg} {h : Nat} {its l : List It} {mp : Int → Option Int} {seq : Int}
theorem HOpen.shut (ho : HOpen L h its mp seq K) (hc : Cons its mp) (hh : HeapA its) (hp : its.Perm l) : Sees K (L.put h (.abs (HeapP h l seq))) := by
  obtain ⟨sv, mb, es, h1, h2, h3, h4, h5, h6, h7⟩ := ho
  rcases h6 with ⟨rfl, rfl⟩ | ⟨b, cap, sp, rfl, a2, a3, a4, a5, a6⟩
  · refine Sees.shutAt (fun r => r = h ∨ r = mb) (.inl rfl) ?_ ?_ (.inl ⟨_, h1⟩) ?_
    · intro r d hr hd; simp only [not_or] at hr; exact h7 r d hr.1 hd
    · rintro r (rfl | rfl) hr
      · exact absurd rfl hr
      · exact h5
    · intro M hm hM hN hs
      refine ⟨[], mp, M, ⟨_, mb, es, by rw [hM h (.inl rfl)]; exact h1, by rw [hM mb (.inr rfl)]; exact h2, h3, h4, rfl, .inl ⟨rfl, rfl⟩, fun r d _ hd => by cases hd⟩, hc, hh, hp, hs⟩
  · refine Sees.shutAt (fun r => r = h ∨ r = mb ∨ r = b) (.inl rfl) ?_ ?_ (.inl ⟨_, h1⟩) ?_
    · intro r d hr hd; simp only [not_or] at hr; exact h7 r d hr.1 hd
    · rintro r (rfl | rfl | rfl) hr
      · exact absurd rfl hr
      · exact h5
      · exact a6
    · intro M hm hM hN hs
      refine ⟨its, mp, M, ⟨_, mb, es, by rw [hM h (.inl rfl)]; exact h1, by rw [hM mb (.inr (.inl rfl))]; exact h2, h3, h4, rfl, .inr ⟨b, cap, sp, rfl, by rw [hM b (.inr (.inr rfl))]; exact a2, a3, a4, a5, rfl⟩, fun r d _ hd => by cases hd⟩, hc, hh, hp, hs⟩
theorem CallL.openH {f : Nat} {vs : List AV} {Q : AV → Lg → Prop} (e : L h = some (.abs (HeapP h l seq)))
    (H : ∀ its mp K, HOpen L h its mp seq K → Cons its mp → HeapA its → its.Perm l → CallL F f vs K Q) : CallL F f vs L Q := by
  apply CallL.opens e
  rintro hm ⟨its, mp, M, ho, hc, hh, hp, hs⟩
  obtain ⟨sv, mb, es, h1, h2, h3, h4, h5, h6, h7⟩ := ho
  refine ⟨M, hs, by rw [h1]; simp, fun hf => ?_⟩
  have hover : ∀ b d, M b = some d → (M.over L) b = some d := fun b d hb => by simp [Lg.over, hb]
  refine H its mp (M.over L) ⟨sv, mb, es, hover _ _ h1, hover _ _ h2, h3, h4, hf _ _ h2 h4, ?_, ?_⟩ hc hh hp
  · rcases h6 with h6 | ⟨b, cap, sp, a1, a2, a3, a4, a5, a6⟩
    · exact .inl h6
    · exact .inr ⟨b, cap, sp, a1, hover _ _ a2, a3, a4, a5, hf _ _ a2 a4⟩
  · intro r d hr hd
    cases hM : M r with
    | none => simp [Lg.over, hM, hd]
    | some c => rw [hf r c hM hr] at hd; cases hd
theorem HOpen.back (ho : HOpen L h its mp seq K) (hc : Cons its mp) (hh : HeapA its) (hp : its.Perm l) (e : L h = some (.abs (HeapP h l seq))) : Sees K L := by
  have := ho.shut hc hh hp
  rwa [Lg.put_self L h _ e] at this
theorem Cons.find {A : List It} {mp : Int → Option Int} (hc : Cons A mp) (hp : A.Perm l) (id : Int) : (mp id = none ∧ findId id l = none) ∨ ∃ j, j < A.length ∧ mp id = some (j : Int) ∧ findId id l = some (gA A j) ∧ (gA A j).id = id := by
  have huniq : ∀ x y, x ∈ A → y ∈ A → x.id = y.id → x = y := by
    intro x y hx hy e
    obtain ⟨i, hi, rfl⟩ := List.getElem_of_mem hx
    obtain ⟨j, hj, rfl⟩ := List.getElem_of_mem hy
    have e1 : gA A i = A[i] := by simp [gA, hi]
    have e2 : gA A j = A[j] := by simp [gA, hj]
    rw [← e1, ← e2] at e
    have := hc.1 i j hi hj e
    subst this; rfl
  cases hm : mp id with
  | none =>
    refine .inl ⟨rfl, ?_⟩
    unfold findId
    rw [List.find?_eq_none]
    intro x hx
    have hxA := hp.mem_iff.2 hx
    obtain ⟨j, hj, rfl⟩ := List.getElem_of_mem hxA
    have := hc.2.1 j hj
    have e1 : gA A j = A[j] := by simp [gA, hj]
    rw [e1] at this
    simp
    rintro rfl
    rw [hm] at this; cases this
  | some v =>
    obtain ⟨j, hj, rfl, hid⟩ := hc.2.2 id v hm
    refine .inr ⟨j, hj, rfl, ?_, hid⟩
    have e1 : gA A j = A[j] := by simp [gA, hj]
    have hmem : gA A j ∈ l := hp.mem_iff.1 (by rw [e1]; exact List.getElem_mem _)
    cases hf : findId id l with
    | none =>
      unfold findId at hf
      rw [List.find?_eq_none] at hf
      have := hf _ hmem
      simp [hid] at this
    | some z =>
      have hz1 := List.mem_of_find?_eq_some hf
      have hz2 := List.find?_some hf
      simp at hz2
      rw [huniq z (gA A j) (hp.mem_iff.2 hz1) (hp.mem_iff.2 hmem) (by rw [hz2, hid])]
theorem hlen_spec (hf : H_heap_Heap_Len N F) (e : L h = some (.abs (HeapP h l seq))) : CallL F (N k_heap_Heap_Len) [.p (some (h, 0))] L fun v L' => v = .i .i64 l.length ∧ L' = L := by
  apply CallL.openH e
  intro its mp K ho hc hh hp
  have hb := ho.back hc hh hp e
  obtain ⟨sv, mb, es, h1, h2, h3, h4, h5, h6, h7⟩ := ho
  apply r_heap_Heap_Len hf.code
  have hl := hp.length_eq
  rcases h6 with ⟨rfl, rfl⟩ | ⟨b, cap, sp, rfl, a2, a3, a4, a5, a6⟩
  · simp at hl
    simp [D_heap_Heap_Len_1, rdL, AB.read, look, h1, hb, ← hl]
  · simp [D_heap_Heap_Len_1, rdL, AB.read, look, h1, hb, hl]
theorem hlen_open (hf : H_heap_Heap_Len N F) (ho : HOpen L h its mp seq K) : CallL F (N k_heap_Heap_Len) [.p (some (h, 0))] K fun v K' => v = .i .i64 its.length ∧ K' = K := by
  obtain ⟨sv, mb, es, h1, h2, h3, h4, h5, h6, h7⟩ := ho
  apply r_heap_Heap_Len hf.code
  rcases h6 with ⟨rfl, rfl⟩ | ⟨b, cap, sp, rfl, a2, a3, a4, a5, a6⟩ <;> simp [D_heap_Heap_Len_1, rdL, AB.read, look, h1]
def retIt (o : Option It) : AV := match o with
  | some x => .tup [x.av, .b true]
  | none => .tup [It.zero.av, .b false]
theorem hfind_open (hf : H_heap_Heap_Find N F) (ho : HOpen L h its mp seq K) (hc : Cons its mp) (hp : its.Perm l) (id : Int) : CallL F (N k_heap_Heap_Find) [.p (some (h, 0)), .i .i64 id] K fun v K' => v = retIt (findId id l) ∧ K' = K := by
  obtain ⟨sv, mb, es, h1, h2, h3, h4, h5, h6, h7⟩ := ho
  apply r_heap_Heap_Find hf.code
  generalize hQ : (fun (v : AV) (K' : Lg) => v = retIt (findId id l) ∧ K' = K) = Q
  unfold D_heap_Heap_Find_1
  simp
  intro r hr
  have nb : ∀ {y : Nat} {k : LC}, K y = some k → y ≠ r := fun hx hxr => by rw [hxr, hr] at hx; cases hx
  have n1 := nb h1
  have n2 := nb h2
  have hd : ∀ c : List AV, Sees (K.put r (.raw (.cells c))) K := fun c => ((Ext2.refl K).put hr _).sees
  rcases hc.find hp id with ⟨m1, m2⟩ | ⟨j, hj, m1, m2, m3⟩
  · simp [rdL, AB.read, look, Lg.put_apply, n1, h1, rLkupL, n2, h2, h3.find id, m1, fillP, stL_cells (Lg.put_same _ _ _), splice, res_cell_tmp _ _ (Lg.put_same _ _ _)]
    refine ⟨K, hd _, ?_⟩
    subst hQ
    exact ⟨by rw [m2]; rfl, rfl⟩
  · rcases h6 with ⟨rfl, rfl⟩ | ⟨b, cap, sp, rfl, a2, a3, a4, a5, a6⟩
    · simp at hj
    · have n3 := nb a2
      have ej : (j : Int) < (its.length : Int) := by omega
      have hat := icells_at its j (gA its j) sp (gA_get hj)
      have hat2 := hat.2
      rw [List.length_append] at hat2
      simp [rdL, AB.read, look, Lg.put_apply, n1, h1, rLkupL, n2, h2, h3.find id, m1, wp_iad _ _ _ 3 b 0 its.length cap 3 .i64 (j : Int) (Int.natCast_nonneg _) ej, n3, a2, cut, ble_nat, hat.1, hat2]
      rw [stL_cells (Lg.put_same _ _ _) (by simp [It.cells]) (by simp [It.cells]) (by simp)]
      simp
      rw [res_cell_tmp _ _ (Lg.put_same _ _ _) (by simp [splice, It.cells])]
      simp [splice, It.cells]
      refine ⟨K, hd _, ?_⟩
      subst hQ
      exact ⟨by rw [m2]; rfl, rfl⟩
theorem hmin_spec (hf : H_heap_Heap_Min N F) (e : L h = some (.abs (HeapP h l seq))) (hs : l.Pairwise It.lt) : CallL F (N k_heap_Heap_Min) [.p (some (h, 0))] L fun v L' => v = retIt l.head? ∧ L' = L := by
  apply CallL.openH e
  intro its mp K ho hc hh hp
  have hb := ho.back hc hh hp e
  apply r_heap_Heap_Min hf.code
  generalize hQ : (fun (v : AV) (K' : Lg) => v = retIt l.head? ∧ K' = L) = Q
  unfold D_heap_Heap_Min_1
  simp
  intro r hr
  refine (hlen_open hf.heap_Heap_Len (ho.onto hr _)).mono ?_
  rintro _ K1 ⟨rfl, rfl⟩
  obtain ⟨sv, mb, es, h1, h2, h3, h4, h5, h6, h7⟩ := ho
  have nb : ∀ {y : Nat} {k : LC}, K y = some k → y ≠ r := fun hx hxr => by rw [hxr, hr] at hx; cases hx
  have n1 := nb h1
  have hd : ∀ c : List AV, Sees (K.put r (.raw (.cells c))) L := fun c => (((Ext2.refl K).put hr _).sees).trans hb
  rcases h6 with ⟨rfl, rfl⟩ | ⟨b, cap, sp, rfl, a2, a3, a4, a5, a6⟩
  · have hl : l = [] := hp.symm.eq_nil
    simp [fillP, stL_cells (Lg.put_same _ _ _), splice, res_cell_tmp _ _ (Lg.put_same _ _ _)]
    refine ⟨L, hd _, ?_⟩
    subst hQ
    subst hl
    exact ⟨rfl, rfl⟩
  · by_cases h0 : its.length = 0
    · have hi0 := List.length_eq_zero_iff.1 h0
      subst hi0
      have hl : l = [] := hp.symm.eq_nil
      simp [fillP, stL_cells (Lg.put_same _ _ _), splice, res_cell_tmp _ _ (Lg.put_same _ _ _)]
      refine ⟨L, hd _, ?_⟩
      subst hQ
      subst hl
      exact ⟨rfl, rfl⟩
    · have h0' : ¬ ((its.length : Int) = 0) := by omega
      have h0'' : its ≠ [] := fun e => h0 (by rw [e]; rfl)
      have n3 := nb a2
      have ej : ((0 : Nat) : Int) < (its.length : Int) := by omega
      have hat := icells_at its 0 (gA its 0) sp (gA_get (by omega))
      have hat2 := hat.2
      rw [List.length_append] at hat2
      simp at hat hat2
      simp [h0, h0'', rdL, AB.read, look, Lg.put_apply, n1, h1, wp_iad _ _ _ 3 b 0 its.length cap 3 .i64 (0 : Int) (by omega) ej, n3, a2, cut, ble_nat, hat.1, hat2]
      rw [stL_cells (Lg.put_same _ _ _) (by simp [It.cells]) (by simp [It.cells]) (by simp)]
      simp
      rw [res_cell_tmp _ _ (Lg.put_same _ _ _) (by simp [splice, It.cells])]
      simp [splice, It.cells]
      refine ⟨L, hd _, ?_⟩
      subst hQ
      have hhead : l.head? = some (gA its 0) := by
        cases hl : l with
        | nil => rw [hl] at hp; exact absurd hp.eq_nil h0''
        | cons z rest =>
          simp
          have hz : z ∈ its := hp.mem_iff.2 (by rw [hl]; simp)
          obtain ⟨j, hj, hzj⟩ := List.getElem_of_mem hz
          have hz2 : gA its j = z := by simp [gA, hj, hzj]
          have hroot := hh.root j hj
          have hmem : gA its 0 ∈ l := hp.mem_iff.1 (by
            have h00 : 0 < its.length := by omega
            have : gA its 0 = its[0] := by simp [gA, h00]
            rw [this]; exact List.getElem_mem _)
          rw [hl] at hmem hs
          rcases List.mem_cons.1 hmem with h9 | h9
          · exact h9.symm
          · rw [hz2] at hroot
            exact absurd ((List.pairwise_cons.1 hs).1 _ h9) hroot
      exact ⟨by rw [hhead]; rfl, rfl⟩

/-- one more, behind all -/
theorem cons_new {mp : Int → Option Int} {A : List It} (hc : Cons A mp) {x : It} (hx : mp x.id = none) : ConsH (A ++ [x]) mp A.length := by
  have g1 : ∀ j, j < A.length → gA (A ++ [x]) j = gA A j := by intro j hj; simp [gA, List.getElem?_append, hj]
  have g2 : gA (A ++ [x]) A.length = x := by simp [gA]
  refine ⟨?_, ?_, ?_⟩
  · intro j k hj hk e
    simp at hj hk
    by_cases j1 : j < A.length <;> by_cases k1 : k < A.length
    · rw [g1 j j1, g1 k k1] at e; exact hc.1 j k j1 k1 e
    · have : k = A.length := by omega
      subst this
      rw [g1 j j1, g2] at e
      have := hc.2.1 j j1
      rw [e, hx] at this; cases this
    · have : j = A.length := by omega
      subst this
      rw [g1 k k1, g2] at e
      have := hc.2.1 k k1
      rw [← e, hx] at this; cases this
    · omega
  · intro j hj hjn
    simp at hj
    have : j < A.length := by omega
    rw [g1 j this]
    exact hc.2.1 j this
  · intro k v hk
    obtain ⟨j, hj, hv, hid⟩ := hc.2.2 k v hk
    exact .inr ⟨j, by simp; omega, by omega, hv, by rw [g1 j hj]; exact hid⟩
theorem up_new {A : List It} (hh : HeapA A) (x : It) : Up (A ++ [x]) A.length := by
  have g1 : ∀ j, j < A.length → gA (A ++ [x]) j = gA A j := by intro j hj; simp [gA, List.getElem?_append, hj]
  refine ⟨fun j h0 hj hjn => ?_, fun j h0 hj hp _ => ?_⟩
  · simp at hj
    have h1 : j < A.length := by omega
    have := par_lt h0
    rw [g1 j h1, g1 _ (by omega)]
    exact hh j h0 h1
  · simp at hj
    have := par_lt h0
    omega
theorem hadd_spec (hf : H_heap_Heap_Add N F) (e : L h = some (.abs (HeapP h l seq))) (hl : l.length < 1000000) (hq : 0 ≤ seq ∧ seq < 4611686018427387904) (id when : Int) :
    CallL F (N k_heap_Heap_Add) [.p (some (h, 0)), .i .i64 id, .i .i64 when] L fun v L' =>
      if (findId id l).isSome = true then v = .i .i64 1 ∧ L' = L else v = .i .i64 0 ∧ L' = L.put h (.abs (HeapP h (ins ⟨id, when, seq + 1⟩ l) (seq + 1))) := by
  apply CallL.openH e
  intro its mp K ho hc hh hp
  have hb := ho.back hc hh hp e
  apply r_heap_Heap_Add hf.code
  generalize hQ : (fun (v : AV) (L' : Lg) => if (findId id l).isSome = true then v = .i .i64 1 ∧ L' = L else v = .i .i64 0 ∧ L' = L.put h (.abs (HeapP h (ins ⟨id, when, seq + 1⟩ l) (seq + 1)))) = Q
  unfold D_heap_Heap_Add_1 D_heap_Heap_Add_2 D_heap_Heap_Add_3
  have ho' := ho
  obtain ⟨sv, mb, es, h1, h2, h3, h4, h5, h6, h7⟩ := ho'
  have plen := hp.length_eq
  rcases hc.find hp id with ⟨m1, m2⟩ | ⟨j, hj, m1, m2, m3⟩
  · simp [rdL, AB.read, look, h1, rLkupL, h2, h3.find id, m1]
    unfold D_heap_Heap_Add_4
    have w1 : wr .i64 (seq + 1) = seq + 1 := wr_id (by omega) (by omega)
    obtain ⟨x, hx⟩ : ∃ x : It, x = ⟨id, when, seq + 1⟩ := ⟨_, rfl⟩
    have hxc : x.cells = [.i .i64 id, .i .i64 when, .i .i64 (seq + 1)] := by rw [hx]; rfl
    simp [rdL, AB.read, look, h1, w1, stL_cell h1, fillP, splice, ble_nat, beq_nat]
    rw [newL_bslice (c := x.cells) _ _ (by rw [hxc]; simp [reps, fillP, cellsOf_agg', splice, ble_nat, beq_nat]) (by rw [hxc]; simp)]
    intro b1 hb1
    rw [show [sv, AV.m (some mb), AV.i .i64 seq].set 2 (.i .i64 (seq + 1)) = [sv, .m (some mb), .i .i64 (seq + 1)] from rfl] at *
    have n1 : b1 ≠ h := by rintro rfl; simp at hb1
    rw [Lg.put_ne _ _ _ n1] at hb1
    have nb : ∀ {y : Nat} {k : LC}, K y = some k → y ≠ b1 := fun hx hxr => by rw [hxr, hb1] at hx; cases hx
    have upcall : ∀ {K2 : Lg}, HOpen L h (its ++ [x]) mp (seq + 1) K2 → CallL F (N k_heap_Heap_up) [.p (some (h, 0)), .i .i64 its.length] K2 fun v25 L25 => fin1 (some (.i .i64 0)) Q L25 := by
      intro K2 hk2
      have hxn : mp x.id = none := by rw [hx]; exact m1
      have hup := up_new hh x
      refine (hup_spec hf.heap_Heap_up hk2 its.length (by simp) (by simp; omega) (cons_new hc hxn) ⟨fun j a b c d => hup.1 j a b c, hup.2⟩).mono ?_
      rintro _ K3 ⟨rfl, A', mp', p1, ho3, hc3, hh3, _⟩
      have hp3 : A'.Perm (ins x l) := p1.trans (((hp.append (List.Perm.refl [x])).trans List.perm_append_comm).trans (ins_perm x l).symm)
      refine ⟨_, ho3.shut hc3 (hh3 hup) hp3, ?_⟩
      subst hQ
      simp [m2, hx]
    have hrd : rdCellsL ((K.put h (.raw (.cells [sv, .m (some mb), .i .i64 (seq + 1)]))).put b1 (.raw (.cells x.cells))) (some (b1, 0)) (1 * 3) = some x.cells := by
      simp [rdCellsL, AB.read, cut, hxc, ble_nat]
    have hxone : x.cells.all AV.one = true := by rw [hxc]; simp
    have hxlen : x.cells.length = 3 := by rw [hxc]; rfl
    have hnb1 := nb h1
    have hmb1 := nb h2
    have wl : ∀ n : Nat, n ≤ 1000000 → wr .i64 (n : Int) = (n : Int) := fun n hn => wr_id (by omega) (by omega)
    have tail : ∀ (b2 : Nat) (Kb : Lg) (c : List AV), (∀ r, r ≠ b2 → r ≠ h → r ≠ b1 → K r ≠ none → L r ≠ none ∨ r = mb → Kb r = K r) → Kb h = some (.raw (.cells [sv, .m (some mb), .i .i64 (seq + 1)])) → b2 ≠ h → K b2 = none → c = icells (its ++ [x]) →
        (fun v16 L16 => wpOp F .nilchk [.p (some (h, 0))] L16 fun v17 L17 => wpOp F (.fad 0) [v17] L17 fun v18 L18 => wpOp F (.st 1) [v18, v16] L18 fun _ L19 =>
          wpOp F .nilchk [.p (some (h, 0))] L19 fun v20 L20 => wpOp F (.fad 0) [v20] L20 fun v21 L21 => wpOp F (.ld none) [v21] L21 fun v22 L22 => wpOp F .lenSl [v22] L22 fun v23 L23 =>
          wpOp F (.bin .sub) [v23, (.i .i64 1)] L23 fun v24 L24 => CallL F (N k_heap_Heap_up) [.p (some (h, 0)), v24] L24 fun v25 L25 => fin1 (some (.i .i64 0)) Q L25) (.sl (some (b2, 0)) (its.length + 1) (its.length + 1) 3) (Kb.put b2 (.raw (.cells c))) := by
      intro b2 Kb c hKb hKh n3 hb2 hc2
      have nb2 : ∀ {y : Nat} {k : LC}, K y = some k → y ≠ b2 := fun hx hxr => by rw [hxr, hb2] at hx; cases hx
      have hmb2 := nb2 h2
      simp [rdL, AB.read, look, Lg.put_apply, Ne.symm n3, hKh, stL, wrL, splice_one, wl its.length (by omega)]
      refine upcall ⟨.sl (some (b2, 0)) (its.length + 1) (its.length + 1) 3, mb, es, Lg.put_same _ _ _, ?_, h3, h4, h5, .inr ⟨b2, its.length + 1, [], by simp, ?_, by simp, n3, Ne.symm hmb2, (ho.ne hb2).2⟩, ?_⟩
      · have := hKb mb hmb2 h4 hmb1 (by rw [h2]; simp) (.inr rfl)
        simp [Lg.put_apply, h4, hmb2, this, h2]
      · simp [Lg.put_apply, n3, hc2]
      · intro r d hr hd
        have hk := h7 r d hr hd
        have c1 : r ≠ b1 := by rintro rfl; rw [hk] at hb1; cases hb1
        have c2 : r ≠ b2 := by rintro rfl; rw [hk] at hb2; cases hb2
        have := hKb r c2 hr c1 (by rw [hk]; simp) (.inl (by rw [hd]; simp))
        simp [Lg.put_apply, hr, c2, this, hk]
    rcases h6 with ⟨rfl, rfl⟩ | ⟨b, cap, sp, rfl, a2, a3, a4, a5, a6⟩
    · simp
      refine appW_grow (m := 1) hrd hxone (by omega) (by omega) (old := []) (by simp [rdCellsL]) (by simp [goneL]; rfl) ?_
      intro b2 hb2
      have n2 : b2 ≠ b1 := by rintro rfl; simp at hb2
      have n3 : b2 ≠ h := by rintro rfl; simp [Lg.put_apply, hnb1] at hb2
      rw [Lg.put_ne _ _ _ n2, Lg.put_ne _ _ _ n3] at hb2
      refine tail b2 _ _ ?_ ?_ n3 hb2 ?_
      · intro r c1 c2 c3 _ _; simp [Lg.put_apply, c2, c3]
      · simp [Lg.put_apply, hnb1]
      · simp [icells]
    · have n3 := nb a2
      have eb : ((K.put h (.raw (.cells [.sl (some (b, 0)) its.length cap 3, .m (some mb), .i .i64 (seq + 1)]))).put b1 (.raw (.cells x.cells))) b = some (.raw (.cells (icells its ++ sp))) := by
        simp [Lg.put_apply, n3, a4, a2]
      by_cases hcap : its.length + 1 ≤ cap
      · have hle : its.length * 3 + x.cells.length ≤ (icells its ++ sp).length := by rw [List.length_append, icells_length, hxlen]; omega
        have hsp : splice (icells its ++ sp) (its.length * 3) x.cells = icells (its ++ [x]) ++ sp.drop 3 := by
          unfold splice
          rw [← icells_length its, List.take_left, ← List.drop_drop, List.drop_left, icells_append, hxlen]
          simp [icells]
        simp
        refine appW_room (m := 1) hrd hxone hcap (by omega) (L' := (((K.put h (.raw (.cells [.sl (some (b, 0)) its.length cap 3, .m (some mb), .i .i64 (seq + 1)]))).put b1 (.raw (.cells x.cells))).put b (.raw (.cells (icells (its ++ [x]) ++ sp.drop 3))))) ?_ ?_
        · simp only [wrL, Nat.zero_add, eb, hle, hxone, and_self, if_true, hsp]
        · simp [rdL, AB.read, look, Lg.put_apply, hnb1, Ne.symm a4, stL, wrL, splice_one, wl its.length (by omega)]
          refine upcall ⟨.sl (some (b, 0)) (its.length + 1) cap 3, mb, es, Lg.put_same _ _ _, ?_, h3, h4, h5, .inr ⟨b, cap, sp.drop 3, by simp, ?_, ?_, a4, a5, a6⟩, ?_⟩
          · simp [Lg.put_apply, h4, hmb1, Ne.symm a5, h2]
          · simp [Lg.put_apply, a4]
          · simp; omega
          · intro r d hr hd
            have hk := h7 r d hr hd
            have c1 : r ≠ b1 := by rintro rfl; rw [hk] at hb1; cases hb1
            have c2 : r ≠ b := by rintro rfl; rw [a6] at hd; cases hd
            simp [Lg.put_apply, hr, c1, c2, hk]
      · have hsp0 : sp = [] := List.length_eq_zero_iff.1 (by omega)
        subst hsp0
        have hcut : its.length * 3 ≤ (icells its).length := by rw [icells_length]; omega
        have htake : (icells its).take (its.length * 3) = icells its := List.take_of_length_le (by rw [icells_length]; omega)
        simp
        refine appW_grow (m := 1) hrd hxone hcap (by omega) (old := icells its) ?_ (L' := (((K.put h (.raw (.cells [.sl (some (b, 0)) its.length cap 3, .m (some mb), .i .i64 (seq + 1)]))).put b1 (.raw (.cells x.cells))).del b)) ?_ ?_
        · simp only [rdCellsL, eb, AB.read, List.append_nil, cut, ble_nat, Nat.zero_add, hcut, decide_true, cond_true, List.drop_zero, htake]
        · simp only [goneL, eb]; simp
        · intro b2 hb2
          have n2 : b2 ≠ b1 := by rintro rfl; simp at hb2
          have n4 : b2 ≠ h := by rintro rfl; simp [Lg.put_apply, hnb1] at hb2
          rw [Lg.put_ne _ _ _ n2, Lg.put_ne _ _ _ n4] at hb2
          refine tail b2 _ _ ?_ ?_ n4 hb2 ?_
          · intro r c1 c2 c3 _ hor
            have c4 : r ≠ b := by
              rintro rfl
              rcases hor with h9 | h9
              · exact h9 a6
              · exact a5 h9
            simp [Lg.put_apply, Lg.del_apply, c2, c3, c4]
          · simp [Lg.put_apply, Lg.del_apply, hnb1, Ne.symm a4]
          · rw [icells_append]; simp [icells]
  · simp [rdL, AB.read, look, h1, rLkupL, h2, h3.find id, m1]
    refine ⟨L, hb, ?_⟩
    subst hQ
    simp [m2]
end
end Go.AM
