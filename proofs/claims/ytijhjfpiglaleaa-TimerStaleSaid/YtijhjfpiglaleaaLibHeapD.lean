/- heap: remove, pop. -/
import Derived.Test.YtijhjfpiglaleaaLibHeapC
set_option linter.unusedVariables false
set_option linter.unusedSimpArgs false
namespace Go.AM
variable {N : Nat → Nat} {F : Nat → Option AFn}

theorem slc_hi {s r o len cap ex m : Nat} {j : IntKind} (h1 : m ≤ cap) (h2 : ex = 0 ∨ ex = s) : slcV s false true false [.sl (some (r, o)) len cap ex, .i j (m : Int)] = some (.sl (some (r, o)) m cap ex) := by
  show (bif Nat.ble 0 m && Nat.ble m cap && Nat.ble cap cap && (Nat.beq ex 0 || Nat.beq ex s) then _ else _) = _
  have : (Nat.beq ex 0 || Nat.beq ex s) = true := by rcases h2 with rfl | rfl <;> simp [beq_nat]
  simp [ble_nat, h1, this]
section
variable {L L0 K : Lg} {h : Nat} {its l : List It} {mp : Int → Option Int} {seq : Int}
theorem HOpen.sub (ho : HOpen L0 h its mp seq K) (hs : ∀ r d, r ≠ h → L r = some d → L0 r = some d) : HOpen L h its mp seq K := by
  obtain ⟨sv, mb, es, h1, h2, h3, h4, h5, h6, h7⟩ := ho
  have hn : ∀ r, r ≠ h → L0 r = none → L r = none := by
    intro r hr h0
    cases e : L r with
    | none => rfl
    | some d => rw [hs r d hr e] at h0; cases h0
  refine ⟨sv, mb, es, h1, h2, h3, h4, hn mb h4 h5, ?_, fun r d hr hd => h7 r d hr (hs r d hr hd)⟩
  rcases h6 with h6 | ⟨b, cap, sp, a1, a2, a3, a4, a5, a6⟩
  · exact .inl h6
  · exact .inr ⟨b, cap, sp, a1, a2, a3, a4, a5, hn b a4 a6⟩
theorem HOpen.putOld (ho : HOpen L h its mp seq K) {r : Nat} {d : LC} (hr : r ≠ h) (hd : L r = some d) (d' : LC) : HOpen (L.put r d') h its mp seq (K.put r d') := by
  obtain ⟨sv, mb, es, h1, h2, h3, h4, h5, h6, h7⟩ := ho
  have n1 : mb ≠ r := by rintro rfl; rw [hd] at h5; cases h5
  refine ⟨sv, mb, es, by rw [Lg.put_ne _ _ _ (Ne.symm hr)]; exact h1, by rw [Lg.put_ne _ _ _ n1]; exact h2, h3, h4, by rw [Lg.put_ne _ _ _ n1]; exact h5, ?_, ?_⟩
  · rcases h6 with h6 | ⟨b, cap, sp, a1, a2, a3, a4, a5, a6⟩
    · exact .inl h6
    · have n2 : b ≠ r := by rintro rfl; rw [hd] at a6; cases a6
      exact .inr ⟨b, cap, sp, a1, by rw [Lg.put_ne _ _ _ n2]; exact a2, a3, a4, a5, by rw [Lg.put_ne _ _ _ n2]; exact a6⟩
  · intro x k hx hk
    rw [Lg.put_apply] at hk ⊢
    split
    · rename_i h9; rw [if_pos h9] at hk; exact hk
    · rename_i h9; rw [if_neg h9] at hk; exact h7 x k hx hk

/-! ### one less -/
theorem gA_take {A : List It} {n j : Nat} (hj : j < n) : gA (A.take n) j = gA A j := by
  simp [gA, List.getElem?_take, hj]
/-- the last one is gone -/
theorem cons_drop {A : List It} {mp : Int → Option Int} (hc : Cons A mp) (hn : 0 < A.length) : Cons (A.take (A.length - 1)) (updI mp (gA A (A.length - 1)).id none) := by
  have hl : (A.take (A.length - 1)).length = A.length - 1 := by simp
  refine ⟨?_, ?_, ?_⟩
  · intro j k hj hk e
    rw [hl] at hj hk
    rw [gA_take hj, gA_take hk] at e
    exact hc.1 j k (by omega) (by omega) e
  · intro j hj
    rw [hl] at hj
    rw [gA_take hj]
    unfold updI
    have : (gA A (A.length - 1)).id ≠ (gA A j).id := fun e => by have := hc.1 _ _ (by omega) (by omega) e; omega
    rw [if_neg this]
    exact hc.2.1 j (by omega)
  · intro k v hk
    unfold updI at hk
    split at hk
    · cases hk
    · rename_i hne
      obtain ⟨j, hj, hv, hid⟩ := hc.2.2 k v hk
      have : j ≠ A.length - 1 := by rintro rfl; exact hne hid
      exact ⟨j, by rw [hl]; omega, hv, by rw [gA_take (by omega)]; exact hid⟩
theorem heap_drop {A : List It} (hh : HeapA A) : HeapA (A.take (A.length - 1)) := by
  intro j h0 hj
  simp at hj
  have := par_lt h0
  rw [gA_take (by omega), gA_take (by omega)]
  exact hh j h0 (by omega)
/-- the last one stands where one was -/
theorem cons_fill {A : List It} {mp : Int → Option Int} (hc : Cons A mp) {i : Nat} (hi : i < A.length - 1) :
    Cons ((A.take (A.length - 1)).set i (gA A (A.length - 1))) (updI (updI mp (gA A i).id none) (gA A (A.length - 1)).id (some (i : Int))) := by
  have hl : (A.take (A.length - 1)).length = A.length - 1 := by simp
  have hg : ∀ j, j < A.length - 1 → gA ((A.take (A.length - 1)).set i (gA A (A.length - 1))) j = if i = j then gA A (A.length - 1) else gA A j := by
    intro j hj; rw [gA_set (by rw [hl]; exact hi)]; split
    · rfl
    · exact gA_take hj
  have hl' : ((A.take (A.length - 1)).set i (gA A (A.length - 1))).length = A.length - 1 := by simp
  have huniq : ∀ j k, j < A.length → k < A.length → (gA A j).id = (gA A k).id → j = k := hc.1
  refine ⟨?_, ?_, ?_⟩
  · intro j k hj hk e
    rw [hl'] at hj hk
    rw [hg j hj, hg k hk] at e
    by_cases j1 : i = j <;> by_cases k1 : i = k
    · omega
    · simp only [j1, if_true] at e
      rw [if_neg (by omega)] at e
      have := huniq _ _ (by omega) (by omega) e; omega
    · simp only [k1, if_true] at e
      rw [if_neg (by omega)] at e
      have := huniq _ _ (by omega) (by omega) e; omega
    · simp only [j1, k1, if_false] at e
      exact huniq _ _ (by omega) (by omega) e
  · intro j hj
    rw [hl'] at hj
    rw [hg j hj]
    unfold updI
    by_cases j1 : i = j
    · simp [j1]
    · simp only [j1, if_false]
      have n1 : (gA A (A.length - 1)).id ≠ (gA A j).id := fun e => by have := huniq _ _ (by omega) (by omega) e; omega
      have n2 : (gA A i).id ≠ (gA A j).id := fun e => by have := huniq _ _ (by omega) (by omega) e; omega
      rw [if_neg n1, if_neg n2]
      exact hc.2.1 j (by omega)
  · intro k v hk
    unfold updI at hk
    split at hk
    · rename_i h1; cases hk
      exact ⟨i, by rw [hl']; exact hi, rfl, by rw [hg i hi, if_pos rfl]; exact h1⟩
    · rename_i h1
      split at hk
      · cases hk
      · rename_i h2
        obtain ⟨j, hj, hv, hid⟩ := hc.2.2 k v hk
        have a1 : j ≠ A.length - 1 := by rintro rfl; exact h1 hid
        have a2 : i ≠ j := by rintro rfl; exact h2 hid
        exact ⟨j, by rw [hl']; omega, hv, by rw [hg j (by omega), if_neg a2]; exact hid⟩
theorem exx_fill {A : List It} (hh : HeapA A) {i : Nat} (hi : i < A.length - 1) (y : It) : Exx ((A.take (A.length - 1)).set i y) i := by
  have hl : (A.take (A.length - 1)).length = A.length - 1 := by simp
  have hg : ∀ j, j < A.length - 1 → j ≠ i → gA ((A.take (A.length - 1)).set i y) j = gA A j := by
    intro j hj hji; rw [gA_set (by rw [hl]; exact hi), if_neg (Ne.symm hji)]; exact gA_take hj
  refine ⟨fun j h0 hj hji hp => ?_, fun j h0 hj hp h00 => ?_⟩
  · simp at hj
    have := par_lt h0
    rw [hg j (by omega) hji, hg _ (by omega) hp]
    exact hh j h0 (by omega)
  · simp at hj
    have h1 := par_lt h0
    have h2 := par_lt h00
    rw [hg j (by omega) (by omega), hg _ (by omega) (by omega)]
    have a1 := hh j h0 (by omega)
    rw [hp] at a1
    exact It.ge_trans a1 (hh i h00 (by omega))
theorem take_last {A : List It} (hn : 0 < A.length) : A.take (A.length - 1) ++ [gA A (A.length - 1)] = A := by
  have h1 : gA A (A.length - 1) = A[A.length - 1] := by simp [gA, show A.length - 1 < A.length by omega]
  rw [h1]
  have := List.take_append_getElem (l := A) (i := A.length - 1) (by omega)
  rw [this]
  exact List.take_of_length_le (by omega)
theorem rm_perm {A : List It} (hc : Ids A) {i : Nat} (hi : i < A.length) (hp : A.Perm l) : ∀ B : List It, (gA A i :: B).Perm A → B.Perm (rmId (gA A i).id l) := by
  intro B hB
  have h1 := (hB.trans hp).filter (fun y => !decide (y.id = (gA A i).id))
  have h2 : (gA A i :: B).filter (fun y => !decide (y.id = (gA A i).id)) = B := by
    rw [List.filter_cons]
    simp
    intro y hy
    -- one and no other has that number
    intro hid
    have hcnt : (A.filter fun y => decide (y.id = (gA A i).id)).length ≤ 1 := by
      have : ∀ (A : List It), Ids A → ∀ d, (A.filter fun y => decide (y.id = d)).length ≤ 1 := by
        intro A
        induction A with
        | nil => intro _ d; simp
        | cons a r ih =>
          intro hA d
          have hr : Ids r := by
            intro j k hj hk e
            have := hA (j + 1) (k + 1) (by simpa using hj) (by simpa using hk) (by simpa [gA] using e)
            omega
          rw [List.filter_cons]
          split
          · rename_i had
            simp at had
            have : (r.filter fun y => decide (y.id = d)) = [] := by
              rw [List.filter_eq_nil_iff]
              intro z hz
              simp
              intro hzd
              obtain ⟨k, hk, rfl⟩ := List.getElem_of_mem hz
              have := hA 0 (k + 1) (by simp) (by simpa using hk) (by simp [gA, hk, had, hzd])
              omega
            simp [this]
          · exact ih hr d
      exact this A hc _
    have h3 := (hB.filter (fun y => decide (y.id = (gA A i).id))).length_eq
    rw [List.filter_cons] at h3
    simp at h3
    have h4 : 0 < (B.filter fun y => decide (y.id = (gA A i).id)).length := List.length_pos_iff.2 (by
      intro e9
      have : y ∈ B.filter fun y => decide (y.id = (gA A i).id) := by simp [hy, hid]
      rw [e9] at this; cases this)
    omega
  rw [h2] at h1
  exact h1

theorem drop_perm {A : List It} (hc : Ids A) (hp : A.Perm l) (hn : 0 < A.length) : (A.take (A.length - 1)).Perm (rmId (gA A (A.length - 1)).id l) := by
  refine rm_perm hc (by omega) hp _ ?_
  have h1 := take_last hn
  have h2 : (gA A (A.length - 1) :: A.take (A.length - 1)).Perm (A.take (A.length - 1) ++ [gA A (A.length - 1)]) := List.perm_append_comm (l₁ := [gA A (A.length - 1)])
  rw [h1] at h2
  exact h2
theorem fill_perm {A : List It} (hc : Ids A) (hp : A.Perm l) {i : Nat} (hi : i < A.length - 1) : ((A.take (A.length - 1)).set i (gA A (A.length - 1))).Perm (rmId (gA A i).id l) := by
  refine rm_perm hc (by omega) hp _ ?_
  have h1 := cons_set_perm (gA A (A.length - 1)) (A.take (A.length - 1)) i (by simp; omega)
  have h2 : (A.take (A.length - 1))[i]'(by simp; omega) = gA A i := by
    simp [gA, show i < A.length by omega]
  rw [h2] at h1
  refine h1.trans ?_
  have h4 : (gA A (A.length - 1) :: A.take (A.length - 1)).Perm (A.take (A.length - 1) ++ [gA A (A.length - 1)]) := List.perm_append_comm (l₁ := [gA A (A.length - 1)])
  rw [take_last (by omega)] at h4
  exact h4
theorem icells_last {A : List It} (sp : List AV) (hn : 0 < A.length) : icells A ++ sp = icells (A.take (A.length - 1)) ++ ((gA A (A.length - 1)).cells ++ sp) := by
  have h1 : icells A = icells (A.take (A.length - 1) ++ [gA A (A.length - 1)]) := by rw [take_last hn]
  rw [h1, icells_append]
  simp [icells]
theorem hremove_spec (hf : H_heap_Heap_Remove N F) (e : L h = some (.abs (HeapP h l seq))) (hl : l.length ≤ 1000000) (id : Int) :
    CallL F (N k_heap_Heap_Remove) [.p (some (h, 0)), .i .i64 id] L fun v L' => v = retIt (findId id l) ∧ L' = L.put h (.abs (HeapP h (rmId id l) seq)) := by
  apply CallL.openH e
  intro its mp K ho hc hh hp
  have plen := hp.length_eq
  apply r_heap_Heap_Remove hf.code
  generalize hQ : (fun (v : AV) (L' : Lg) => v = retIt (findId id l) ∧ L' = L.put h (.abs (HeapP h (rmId id l) seq))) = Q
  unfold D_heap_Heap_Remove_1 D_heap_Heap_Remove_2
  simp
  intro rc hrc
  have z1 := ho.onto hrc (.raw (.cells [.i .i64 0, .i .i64 0, .i .i64 0]))
  have nrc := ho.ne hrc
  refine (hfind_open hf.heap_Heap_Find z1 hc hp id).mono ?_
  rintro _ K1 ⟨rfl, rfl⟩
  rcases hc.find hp id with ⟨m1, m2⟩ | ⟨j, hj, m1, m2, m3⟩
  · rw [m2] at hQ ⊢
    simp [retIt, It.av]
    intro x6 hx6
    have nx6 := z1.ne hx6
    rw [stL_cells (Lg.put_same _ _ _) (by simp [It.cells]) (by simp [It.cells]) (by simp), Lg.put_put]
    have n6 : x6 ≠ rc := by rintro rfl; simp at hx6
    unfold D_heap_Heap_Remove_3
    have erc : ((K.put rc (.raw (.cells [.i .i64 0, .i .i64 0, .i .i64 0]))).put x6 (.raw (.cells (splice [.i .i64 0, .i .i64 0, .i .i64 0] 0 It.zero.cells)))) rc = some (.raw (.cells [.i .i64 0, .i .i64 0, .i .i64 0])) := by
      rw [Lg.put_ne _ _ _ (Ne.symm n6), Lg.put_same]
    simp [fillP]
    rw [stL_cells erc (by simp) (by simp) (by simp)]
    rw [res_cell_tmp _ _ (Lg.put_same _ _ _) (by simp [splice])]
    refine ⟨L, ?_, ?_⟩
    · have hb := ho.back hc hh hp e
      refine Sees.trans (Sees.drop ?_) hb
      intro r d hr
      have c1 : r ≠ rc := by rintro rfl; rw [hrc] at hr; cases hr
      have c2 : r ≠ x6 := by
        rintro rfl
        rw [Lg.put_ne _ _ _ n6, hr] at hx6; cases hx6
      simp [Lg.put_apply, c1, c2, hr]
    · subst hQ
      refine ⟨rfl, ?_⟩
      have : rmId id l = l := by
        unfold rmId
        rw [List.filter_eq_self]
        intro y hy
        unfold findId at m2
        rw [List.find?_eq_none] at m2
        have := m2 y hy
        simpa using this
      rw [this, Lg.put_self L h _ e]
  · rw [m2] at hQ ⊢
    obtain ⟨x, hx⟩ : ∃ x, x = gA its j := ⟨_, rfl⟩
    rw [← hx] at hQ m3 ⊢
    simp [retIt, It.av]
    intro x6 hx6
    have nx6 := z1.ne hx6
    have z2 := z1.onto hx6 (.raw (.cells x.cells))
    rw [stL_cells (Lg.put_same _ _ _) (by simp [It.cells]) (by simp [It.cells]) (by simp), Lg.put_put, show splice [AV.i .i64 0, .i .i64 0, .i .i64 0] 0 x.cells = x.cells by simp [splice, It.cells]]
    unfold D_heap_Heap_Remove_3 D_heap_Heap_Remove_4
    have hpos : 0 < its.length := by omega
    obtain ⟨n, hn⟩ : ∃ n, n = its.length - 1 := ⟨_, rfl⟩
    have w1 : wr .i64 ((its.length : Int) - 1) = (n : Int) := by rw [wr_id (by omega) (by omega)]; omega
    obtain ⟨lastI, hlast⟩ : ∃ y, y = gA its n := ⟨_, rfl⟩
    have z2' := z2
    obtain ⟨sv, mb, es, h1, h2, h3, h4, h5, h6, h7⟩ := z2'
    rcases h6 with ⟨rfl, _⟩ | ⟨b, cap, sp, rfl, a2, a3, a4, a5, a6⟩
    · simp at hpos
    have en : (n : Int) < (its.length : Int) := by omega
    have hat := icells_at its n lastI sp (by rw [hlast]; exact gA_get (by omega))
    have hat2 := hat.2
    rw [List.length_append] at hat2
    have hncap : n ≤ cap := by omega
    simp [rdL, AB.read, look, h1, h2, rLkupL, h3.find id, m1, w1]
    unfold D_heap_Heap_Remove_5
    simp [rdL, AB.read, look, h1, wp_iad _ _ _ 3 b 0 its.length cap 3 .i64 (n : Int) (Int.natCast_nonneg _) en, a2, cut, ble_nat, hat.1, hat2]
    intro x10 hx10
    have nx10 := z2.ne hx10
    have z3 := z2.onto hx10 (.raw (.cells lastI.cells))
    rw [stL_cells (Lg.put_same _ _ _) (by simp [It.cells]) (by simp [It.cells]) (by simp), Lg.put_put, show splice [AV.i .i64 0, .i .i64 0, .i .i64 0] 0 lastI.cells = lastI.cells by simp [splice, It.cells]]
    obtain ⟨L0, hL0⟩ : ∃ L0, L0 = ((L.put rc (.raw (.cells [.i .i64 0, .i .i64 0, .i .i64 0]))).put x6 (.raw (.cells x.cells))).put x10 (.raw (.cells lastI.cells)) := ⟨_, rfl⟩
    rw [← hL0] at z3
    have n6 : x6 ≠ rc := by rintro rfl; simp at hx6
    have n10 : x10 ≠ x6 := by rintro rfl; simp at hx10
    have n10' : x10 ≠ rc := by rintro rfl; rw [Lg.put_ne _ _ _ n10, Lg.put_same] at hx10; cases hx10
    have r10 : L0 x10 = some (.raw (.cells lastI.cells)) := by rw [hL0]; exact Lg.put_same _ _ _
    have r6 : L0 x6 = some (.raw (.cells x.cells)) := by rw [hL0, Lg.put_ne _ _ _ (Ne.symm n10)]; exact Lg.put_same _ _ _
    have rrc : L0 rc = some (.raw (.cells [.i .i64 0, .i .i64 0, .i .i64 0])) := by rw [hL0, Lg.put_ne _ _ _ (Ne.symm n10'), Lg.put_ne _ _ _ (Ne.symm n6)]; exact Lg.put_same _ _ _
    have hsub : ∀ r d, r ≠ h → L r = some d → L0 r = some d := by
      intro r d hr hd
      have c1 : r ≠ rc := by rintro rfl; rw [nrc.2] at hd; cases hd
      have c2 : r ≠ x6 := by
        rintro rfl
        have := nx6.2
        rw [Lg.put_ne _ _ _ n6, hd] at this; cases this
      have c3 : r ≠ x10 := by
        rintro rfl
        have := nx10.2
        rw [Lg.put_ne _ _ _ n10, Lg.put_ne _ _ _ n10', hd] at this; cases this
      rw [hL0]; simp [Lg.put_apply, c1, c2, c3, hd]
    -- the end: what was there is handed out
    have fin2 : ∀ {its' : List It} {mp' : Int → Option Int} {K' : Lg}, HOpen L0 h its' mp' seq K' → Cons its' mp' → HeapA its' → its'.Perm (rmId id l) →
        stL 3 K' (fun _ L19 => fin1 (resVL Env.nil Env.nil L19 [.cell (.c (.p (some (rc, 0)))) (some 3), .tmp (.c (.b true))]) Q L19) [.p (some (rc, 0)), .agg x.cells] := by
      intro its' mp' K' ho' hc' hh' hp'
      have krc := ho'.old nrc.1 rrc
      rw [stL_cells krc (by simp [It.cells]) (by simp [It.cells]) (by simp)]
      rw [res_cell_tmp _ _ (Lg.put_same _ _ _) (by simp [splice, It.cells])]
      have ho2 := (ho'.putOld nrc.1 rrc (.raw (.cells (splice [.i .i64 0, .i .i64 0, .i .i64 0] 0 x.cells)))).sub (L := L) (fun r d hr hd => by
        have c1 : r ≠ rc := by rintro rfl; rw [nrc.2] at hd; cases hd
        rw [Lg.put_ne _ _ _ c1]; exact hsub r d hr hd)
      refine ⟨_, ho2.shut hc' hh' hp', ?_⟩
      subst hQ
      exact ⟨by simp [splice, It.cells, It.av, retIt], rfl⟩
    have fin : ∀ {its' : List It} {mp' : Int → Option Int} {K' : Lg}, HOpen L0 h its' mp' seq K' → Cons its' mp' → HeapA its' → its'.Perm (rmId id l) →
        wpOp F (.ld (some 3)) [.p (some (x6, 0))] K' fun v18 L18 => wpOp F (.st 3) [.p (some (rc, 0)), v18] L18 fun _ L19 =>
          fin1 (resVL Env.nil Env.nil L19 [.cell (.c (.p (some (rc, 0)))) (some 3), .tmp (.c (.b true))]) Q L19 := by
      intro its' mp' K' ho' hc' hh' hp'
      have k6 := ho'.old nx6.1 r6
      simp [rdL_cells k6 (show 0 + 3 ≤ x.cells.length by simp [It.cells])]
      have : AV.agg (List.take 3 x.cells) = .agg x.cells := by simp [It.cells]
      rw [this]
      exact fin2 ho' hc' hh' hp'
    obtain ⟨K3, hK3⟩ : ∃ K3, K3 = ((K.put rc (.raw (.cells [.i .i64 0, .i .i64 0, .i .i64 0]))).put x6 (.raw (.cells x.cells))).put x10 (.raw (.cells lastI.cells)) := ⟨_, rfl⟩
    rw [← hK3] at z3 ⊢
    clear h1 h2 h3 h4 h5 h7 a2 a3 a4 a5 a6 hat hat2 hncap hK3
    unfold D_heap_Heap_Remove_6
    have zz := z3
    obtain ⟨sv, mb, es, h1, h2, h3, h4, h5, h6, h7⟩ := z3
    rcases h6 with ⟨rfl, _⟩ | ⟨b, cap, sp, rfl, a2, a3, a4, a5, a6⟩
    · simp at hpos
    have hncap : n ≤ cap := by omega
    have hb10 : x10 ≠ h := nx10.1
    simp [rdL, AB.read, look, h1, slc_hi hncap (.inr rfl), stL_cell h1]
    unfold D_heap_Heap_Remove_7
    obtain ⟨es', hes, hM⟩ := h3.del id
    have nbm : x10 ≠ mb := by rintro rfl; rw [h5] at r10; cases r10
    have nb6 : x6 ≠ mb := by rintro rfl; rw [h5] at r6; cases r6
    -- the row without the last one
    have hrow : HOpen L0 h (its.take n) (updI mp id none) seq ((K3.put h (.raw (.cells ([.sl (some (b, 0)) its.length cap 3, .m (some mb), .i .i64 seq].set 0 (.sl (some (b, 0)) n cap 3))))).put mb (.raw (.map es'))) :=
      ⟨.sl (some (b, 0)) n cap 3, mb, es', by rw [Lg.put_ne _ _ _ (Ne.symm h4), Lg.put_same]; rfl, Lg.put_same _ _ _, hM, h4, h5,
        .inr ⟨b, cap, lastI.cells ++ sp, by rw [List.length_take]; congr 1; omega, by rw [Lg.put_ne _ _ _ a5, Lg.put_ne _ _ _ a4, a2, hlast, hn, icells_last sp hpos], by simp [It.cells]; omega, a4, a5, a6⟩,
        fun r d hr hd => by
          have c1 : r ≠ mb := by rintro rfl; rw [h5] at hd; cases hd
          rw [Lg.put_ne _ _ _ c1, Lg.put_ne _ _ _ hr]; exact h7 r d hr hd⟩
    have k310 := h7 x10 _ nx10.1 r10
    have k36 := h7 x6 _ nx6.1 r6
    have el3 : 3 ≤ lastI.cells.length := by simp [It.cells]
    have ex3 : 3 ≤ x.cells.length := by simp [It.cells]
    have el : AV.agg (List.take 3 lastI.cells) = lastI.av := by simp [It.cells, It.av]
    have exx : AV.agg (List.take 3 x.cells) = .agg x.cells := by simp [It.cells]
    by_cases hjn : j < n
    · have hjn' : (j : Int) < (n : Int) := by omega
      have k10 := hrow.old nx10.1 r10
      have hfill := cons_fill hc (i := j) (by omega)
      have hexx := exx_fill hh (i := j) (by omega) (gA its (its.length - 1))
      have hpm := fill_perm hc.1 hp (i := j) (by omega)
      rw [← hn, ← hlast, ← hx, m3] at hfill hpm
      rw [← hn, ← hlast] at hexx
      simp [rdL, AB.read, look, h4, Ne.symm h4, mdelW, Lg.put_apply, h2, hes, hjn, hjn', nbm, nx10.1, k310, cut, ble_nat, el3, el]
      refine (hput_spec hf.heap_Heap_put hrow j (by rw [List.length_take]; omega) lastI).mono ?_
      rintro _ K4 ⟨rfl, ho4⟩
      have hl4 : ((its.take n).set j lastI).length = n := by simp; omega
      refine (hup_spec hf.heap_Heap_up ho4 j (by rw [hl4]; omega) (by rw [hl4]; omega) (hfill.hole j) hexx).mono ?_
      rintro _ K5 ⟨rfl, A', mp', p1, ho5, hc5, _, i', hi', hg, hdn⟩
      have hg2 : gA A' i' = lastI := by rw [hg, gA_set (by simp; omega), if_pos rfl]
      have hlk : mp' lastI.id = some (i' : Int) := by rw [← hg2]; exact hc5.2.1 i' hi'
      have hl5 := p1.length_eq
      have k10' := ho5.old nx10.1 r10
      have ho5' := ho5
      obtain ⟨sv5, mb5, es5, g1, g2, g3, g4, g5, g6, g7⟩ := ho5'
      simp [rdL, AB.read, look, g1, k10', It.cells, rLkupL, g2, g3.find lastI.id, hlk]
      refine (hdown_spec hf.heap_Heap_down ho5 i' hi' (by rw [hl5, hl4]; omega) hc5 hdn).mono ?_
      rintro _ K6 ⟨rfl, A'', mp'', p2, ho6, hc6, hh6⟩
      exact fin ho6 hc6 hh6 ((p2.trans p1).trans hpm)
    · have hjn2 : j = n := by omega
      have hjn' : ¬ (j : Int) < (n : Int) := by omega
      have hxl : x = lastI := by rw [hx, hlast, hjn2]
      have hcd := cons_drop hc hpos
      have hpd := drop_perm hc.1 hp hpos
      rw [← hn, ← hlast, ← hxl, m3] at hcd hpd
      have hhd := heap_drop hh
      rw [← hn] at hhd
      simp [rdL, AB.read, look, h4, Ne.symm h4, mdelW, Lg.put_apply, h2, hes, hjn, hjn', nb6, nx6.1, k36, cut, ble_nat, ex3, exx]
      exact fin2 hrow hcd hhd hpd
theorem hpop_spec (hf : H_heap_Heap_Pop N F) (e : L h = some (.abs (HeapP h l seq))) (hs : l.Pairwise It.lt) (hl : l.length ≤ 1000000) : CallL F (N k_heap_Heap_Pop) [.p (some (h, 0))] L fun v L' => v = retIt l.head? ∧
    L' = match (generalizing := false) l with
      | [] => L
      | x :: r => L.put h (.abs (HeapP h (rmId x.id (x :: r)) seq)) := by
  apply r_heap_Heap_Pop hf.code
  generalize hQ : (fun (v : AV) (L' : Lg) => v = retIt l.head? ∧ L' = match (generalizing := false) l with
      | [] => L
      | x :: r => L.put h (.abs (HeapP h (rmId x.id (x :: r)) seq))) = Q
  unfold D_heap_Heap_Pop_1
  simp
  intro rc hrc
  have nrc : rc ≠ h := by rintro rfl; rw [e] at hrc; cases hrc
  have e1 : (L.put rc (.raw (.cells [.i .i64 0, .i .i64 0, .i .i64 0]))) h = some (.abs (HeapP h l seq)) := by rw [Lg.put_ne _ _ _ (Ne.symm nrc)]; exact e
  refine (hmin_spec hf.heap_Heap_Min e1 hs).mono ?_
  rintro _ K1 ⟨rfl, rfl⟩
  cases hl0 : l with
  | nil =>
    rw [hl0] at hQ
    simp [retIt, It.av]
    intro x5 hx5
    have n5 : x5 ≠ rc := by rintro rfl; simp at hx5
    rw [stL_cells (Lg.put_same _ _ _) (by simp [It.cells]) (by simp [It.cells]) (by simp), Lg.put_put]
    have erc : ((L.put rc (.raw (.cells [.i .i64 0, .i .i64 0, .i .i64 0]))).put x5 (.raw (.cells (splice [.i .i64 0, .i .i64 0, .i .i64 0] 0 It.zero.cells)))) rc = some (.raw (.cells [.i .i64 0, .i .i64 0, .i .i64 0])) := by
      rw [Lg.put_ne _ _ _ (Ne.symm n5), Lg.put_same]
    simp
    rw [rdL_cells (Lg.put_same _ _ _) (by simp [splice, It.cells])]
    simp
    rw [stL_cells erc (by simp [splice, It.cells]) (by simp [splice, It.cells]) (by simp)]
    rw [res_cell_tmp _ _ (Lg.put_same _ _ _) (by simp [splice, It.cells])]
    refine ⟨L, Sees.drop ?_, ?_⟩
    · intro r d hr
      have c1 : r ≠ rc := by rintro rfl; rw [hrc] at hr; cases hr
      have c2 : r ≠ x5 := by rintro rfl; rw [Lg.put_ne _ _ _ n5, hr] at hx5; cases hx5
      simp [Lg.put_apply, c1, c2, hr]
    · subst hQ
      exact ⟨by simp [splice, It.cells, It.zero, It.av, retIt], rfl⟩
  | cons x r =>
    rw [hl0] at hQ
    simp [retIt, It.av]
    intro x5 hx5
    have n5 : x5 ≠ rc := by rintro rfl; simp at hx5
    have n5h : x5 ≠ h := by rintro rfl; rw [e1] at hx5; cases hx5
    rw [stL_cells (Lg.put_same _ _ _) (by simp [It.cells]) (by simp [It.cells]) (by simp), Lg.put_put, show splice [AV.i .i64 0, .i .i64 0, .i .i64 0] 0 x.cells = x.cells by simp [splice, It.cells]]
    have e2 : ((L.put rc (.raw (.cells [.i .i64 0, .i .i64 0, .i .i64 0]))).put x5 (.raw (.cells x.cells))) h = some (.abs (HeapP h (x :: r) seq)) := by rw [Lg.put_ne _ _ _ (Ne.symm n5h), e1, hl0]
    simp [rdL, AB.read, look, It.cells]
    rw [hl0] at hl
    refine (hremove_spec hf.heap_Heap_Remove e2 hl x.id).mono ?_
    rintro _ K2 ⟨rfl, rfl⟩
    have k5 : (((L.put rc (.raw (.cells [.i .i64 0, .i .i64 0, .i .i64 0]))).put x5 (.raw (.cells x.cells))).put h (.abs (HeapP h (rmId x.id (x :: r)) seq))) x5 = some (.raw (.cells x.cells)) := by
      rw [Lg.put_ne _ _ _ n5h, Lg.put_same]
    have krc : (((L.put rc (.raw (.cells [.i .i64 0, .i .i64 0, .i .i64 0]))).put x5 (.raw (.cells x.cells))).put h (.abs (HeapP h (rmId x.id (x :: r)) seq))) rc = some (.raw (.cells [.i .i64 0, .i .i64 0, .i .i64 0])) := by
      rw [Lg.put_ne _ _ _ nrc, Lg.put_ne _ _ _ (Ne.symm n5), Lg.put_same]
    simp [rdL_cells k5 (show 0 + 3 ≤ x.cells.length by simp [It.cells])]
    have : AV.agg (List.take 3 x.cells) = .agg x.cells := by simp [It.cells]
    rw [this, stL_cells krc (by simp [It.cells]) (by simp [It.cells]) (by simp)]
    rw [res_cell_tmp _ _ (Lg.put_same _ _ _) (by simp [splice, It.cells])]
    refine ⟨L.put h (.abs (HeapP h (rmId x.id (x :: r)) seq)), Sees.drop ?_, ?_⟩
    · intro y d hr
      rw [Lg.put_apply] at hr
      have c1 : y ≠ rc := by
        rintro rfl
        rw [if_neg nrc, hrc] at hr; cases hr
      have c2 : y ≠ x5 := by
        rintro rfl
        rw [if_neg n5h] at hr
        rw [Lg.put_ne _ _ _ n5, hr] at hx5; cases hx5
      simp [Lg.put_apply, c1, c2]
      exact hr
    · subst hQ
      exact ⟨by simp [splice, It.cells, It.av, retIt], rfl⟩
theorem hnew_spec (hf : H_heap_New N F) : CallL F (N k_heap_New) [] L fun v L' => ∃ h, L h = none ∧ v = .p (some (h, 0)) ∧ L' = L.put h (.abs (HeapP h [] 0)) := by
  apply r_heap_New hf.code
  unfold D_heap_New_1
  simp
  intro mb hmb
  simp [fillP, splice, ble_nat, beq_nat]
  intro h hh
  have n1 : h ≠ mb := by rintro rfl; simp at hh
  rw [Lg.put_ne _ _ _ n1] at hh
  have ho : HOpen L h [] (fun _ => none) 0 ((L.put mb (.raw (.map []))).put h (.raw (.cells [.sl none 0 0 0, .m (some mb), .i .i64 0]))) :=
    ⟨_, mb, [], Lg.put_same _ _ _, by rw [Lg.put_ne _ _ _ (Ne.symm n1), Lg.put_same], mapI_nil, Ne.symm n1, hmb, .inl ⟨rfl, rfl⟩, fun r d hr hd => by
      have c1 : r ≠ mb := by rintro rfl; rw [hmb] at hd; cases hd
      rw [Lg.put_ne _ _ _ hr, Lg.put_ne _ _ _ c1]; exact hd⟩
  exact ⟨_, ho.shut ⟨fun j k hj => by simp at hj, fun j hj => by simp at hj, fun k v hk => by cases hk⟩ (fun j _ hj => by simp at hj) (List.Perm.refl _), h, hh, rfl, rfl⟩
end
end Go.AM
