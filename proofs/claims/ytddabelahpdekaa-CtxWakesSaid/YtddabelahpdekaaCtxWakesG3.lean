/- The texts LibHeapC, LibHeapD, LibExpire, GenC, LibTimerA, LibTimerB, LibTimerC of a proof of CtxWakes, merged. -/
import Derived.Test.YtddabelahpdekaaCtxWakesG2
import Derived.KernelRfl
/- heap: add, remove, find, min, pop. -/
set_option linter.unusedVariables false
set_option linter.unusedSimpArgs false
namespace Go.AM
variable {N : Nat → Nat} {F : Nat → Option AFn}

/-! ### rows in order -/
def ins (x : It) : List It → List It
  | [] => [x]
  | y :: r => if x.lt y then x :: y :: r else y :: ins x r
def rmId (id : Int) (l : List It) : List It := l.filter fun y => !decide (y.id = id)
def findId (id : Int) (l : List It) : Option It := l.find? fun y => decide (y.id = id)
theorem cons_set_perm {α : Type} (y : α) : ∀ (l : List α) (i : Nat) (h : i < l.length), (l[i] :: l.set i y).Perm (y :: l)
  | [], i, h => by simp at h
  | a :: r, 0, h => by simpa using List.Perm.swap y a r
  | a :: r, i + 1, h => by
    have := cons_set_perm y r i (by simpa using h)
    simp only [List.set_cons_succ, List.getElem_cons_succ]
    exact (List.Perm.swap a _ _).trans ((this.cons a).trans (List.Perm.swap y a r))

/-- a heap: its items in order, and the count -/
def HeapP (h : Nat) (l : List It) (seq : Int) (hp : Hp) : Prop := ∃ its mp M, HOpen Lg.nil h its mp seq M ∧ Cons its mp ∧ HeapA its ∧ its.Perm l ∧ Sat M hp

section
variable {L K : Lg} {h : Nat} {its l : List It} {mp : Int → Option Int} {seq : Int}
theorem HOpen.shut (ho : HOpen L h its mp seq K) (hc : Cons its mp) (hh : HeapA its) (hp : its.Perm l) : Sees K (L.put h (.abs (HeapP h l seq))) := by
  obtain ⟨sv, mb, es, h1, h2, h3, h4, h5, h6, h7⟩ := ho
  rcases h6 with ⟨rfl, rfl⟩ | ⟨b, cap, sp, rfl, a2, a3, a4, a5, a6⟩
  · refine Sees.shutAt (fun r => r = h ∨ r = mb) (.inl rfl) ?_ ?_ (.inl ⟨_, h1⟩) ?_
    · intro r d hr hd; simp only [not_or] at hr; exact h7 r d hr.1 hd
    · rintro r (rfl | rfl) hr
      · exact absurd rfl hr
      · exact h5
    · intro M hm hM hN hs
      refine ⟨[], mp, M, ⟨_, mb, es, by rw [hM h (.inl rfl)]; exact h1, by rw [hM mb (.inr rfl)]; exact h2, h3, h4, rfl, .inl ⟨rfl, rfl⟩, fun r d _ hd => by cases hd⟩, hc, hh, hp, hs⟩
  · refine Sees.shutAt (fun r => r = h ∨ r = mb ∨ r = b) (.inl rfl) ?_ ?_ (.inl ⟨_, h1⟩) ?_
    · intro r d hr hd; simp only [not_or] at hr; exact h7 r d hr.1 hd
    · rintro r (rfl | rfl | rfl) hr
      · exact absurd rfl hr
      · exact h5
      · exact a6
    · intro M hm hM hN hs
      refine ⟨its, mp, M, ⟨_, mb, es, by rw [hM h (.inl rfl)]; exact h1, by rw [hM mb (.inr (.inl rfl))]; exact h2, h3, h4, rfl, .inr ⟨b, cap, sp, rfl, by rw [hM b (.inr (.inr rfl))]; exact a2, a3, a4, a5, rfl⟩, fun r d _ hd => by cases hd⟩, hc, hh, hp, hs⟩
theorem CallL.openH {f : Nat} {vs : List AV} {Q : AV → Lg → Prop} (e : L h = some (.abs (HeapP h l seq)))
    (H : ∀ its mp K, HOpen L h its mp seq K → Cons its mp → HeapA its → its.Perm l → CallL F f vs K Q) : CallL F f vs L Q := by
  apply CallL.opens e
  rintro hm ⟨its, mp, M, ho, hc, hh, hp, hs⟩
  obtain ⟨sv, mb, es, h1, h2, h3, h4, h5, h6, h7⟩ := ho
  refine ⟨M, hs, by rw [h1]; simp, fun hf => ?_⟩
  have hover : ∀ b d, M b = some d → (M.over L) b = some d := fun b d hb => by simp [Lg.over, hb]
  refine H its mp (M.over L) ⟨sv, mb, es, hover _ _ h1, hover _ _ h2, h3, h4, hf _ _ h2 h4, ?_, ?_⟩ hc hh hp
  · rcases h6 with h6 | ⟨b, cap, sp, a1, a2, a3, a4, a5, a6⟩
    · exact .inl h6
    · exact .inr ⟨b, cap, sp, a1, hover _ _ a2, a3, a4, a5, hf _ _ a2 a4⟩
  · intro r d hr hd
    cases hM : M r with
    | none => simp [Lg.over, hM, hd]
    | some c => rw [hf r c hM hr] at hd; cases hd
theorem HOpen.back (ho : HOpen L h its mp seq K) (hc : Cons its mp) (hh : HeapA its) (hp : its.Perm l) (e : L h = some (.abs (HeapP h l seq))) : Sees K L := by
  have := ho.shut hc hh hp
  rwa [Lg.put_self L h _ e] at this
theorem Cons.find {A : List It} {mp : Int → Option Int} (hc : Cons A mp) (hp : A.Perm l) (id : Int) : (mp id = none ∧ findId id l = none) ∨ ∃ j, j < A.length ∧ mp id = some (j : Int) ∧ findId id l = some (gA A j) ∧ (gA A j).id = id := by
  have huniq : ∀ x y, x ∈ A → y ∈ A → x.id = y.id → x = y := by
    intro x y hx hy e
    obtain ⟨i, hi, rfl⟩ := List.getElem_of_mem hx
    obtain ⟨j, hj, rfl⟩ := List.getElem_of_mem hy
    have e1 : gA A i = A[i] := by simp [gA, hi]
    have e2 : gA A j = A[j] := by simp [gA, hj]
    rw [← e1, ← e2] at e
    have := hc.1 i j hi hj e
    subst this; rfl
  cases hm : mp id with
  | none =>
    refine .inl ⟨rfl, ?_⟩
    unfold findId
    rw [List.find?_eq_none]
    intro x hx
    have hxA := hp.mem_iff.2 hx
    obtain ⟨j, hj, rfl⟩ := List.getElem_of_mem hxA
    have := hc.2.1 j hj
    have e1 : gA A j = A[j] := by simp [gA, hj]
    rw [e1] at this
    simp
    rintro rfl
    rw [hm] at this; cases this
  | some v =>
    obtain ⟨j, hj, rfl, hid⟩ := hc.2.2 id v hm
    refine .inr ⟨j, hj, rfl, ?_, hid⟩
    have e1 : gA A j = A[j] := by simp [gA, hj]
    have hmem : gA A j ∈ l := hp.mem_iff.1 (by rw [e1]; exact List.getElem_mem _)
    cases hf : findId id l with
    | none =>
      unfold findId at hf
      rw [List.find?_eq_none] at hf
      have := hf _ hmem
      simp [hid] at this
    | some z =>
      have hz1 := List.mem_of_find?_eq_some hf
      have hz2 := List.find?_some hf
      simp at hz2
      rw [huniq z (gA A j) (hp.mem_iff.2 hz1) (hp.mem_iff.2 hmem) (by rw [hz2, hid])]
def retIt (o : Option It) : AV := match o with
  | some x => .tup [x.av, .b true]
  | none => .tup [It.zero.av, .b false]
theorem hfind_open (hf : H_heap_Heap_Find N F) (ho : HOpen L h its mp seq K) (hc : Cons its mp) (hp : its.Perm l) (id : Int) : CallL F (N k_heap_Heap_Find) [.p (some (h, 0)), .i .i64 id] K fun v K' => v = retIt (findId id l) ∧ K' = K := by
  obtain ⟨sv, mb, es, h1, h2, h3, h4, h5, h6, h7⟩ := ho
  apply r_heap_Heap_Find hf.code
  generalize hQ : (fun (v : AV) (K' : Lg) => v = retIt (findId id l) ∧ K' = K) = Q
  unfold D_heap_Heap_Find_1
  simp
  intro r hr
  have nb : ∀ {y : Nat} {k : LC}, K y = some k → y ≠ r := fun hx hxr => by rw [hxr, hr] at hx; cases hx
  have n1 := nb h1
  have n2 := nb h2
  have hd : ∀ c : List AV, Sees (K.put r (.raw (.cells c))) K := fun c => ((Ext2.refl K).put hr _).sees
  rcases hc.find hp id with ⟨m1, m2⟩ | ⟨j, hj, m1, m2, m3⟩
  · simp [rdL, AB.read, look, Lg.put_apply, n1, h1, rLkupL, n2, h2, h3.find id, m1, fillP, stL_cells (Lg.put_same _ _ _), splice, res_cell_tmp _ _ (Lg.put_same _ _ _)]
    refine ⟨K, hd _, ?_⟩
    subst hQ
    exact ⟨by rw [m2]; rfl, rfl⟩
  · rcases h6 with ⟨rfl, rfl⟩ | ⟨b, cap, sp, rfl, a2, a3, a4, a5, a6⟩
    · simp at hj
    · have n3 := nb a2
      have ej : (j : Int) < (its.length : Int) := by omega
      have hat := icells_at its j (gA its j) sp (gA_get hj)
      have hat2 := hat.2
      rw [List.length_append] at hat2
      simp [rdL, AB.read, look, Lg.put_apply, n1, h1, rLkupL, n2, h2, h3.find id, m1, wp_iad _ _ _ 3 b 0 its.length cap 3 .i64 (j : Int) (Int.natCast_nonneg _) ej, n3, a2, cut, ble_nat, hat.1, hat2]
      rw [stL_cells (Lg.put_same _ _ _) (by simp [It.cells]) (by simp [It.cells]) (by simp)]
      simp
      rw [res_cell_tmp _ _ (Lg.put_same _ _ _) (by simp [splice, It.cells])]
      simp [splice, It.cells]
      refine ⟨K, hd _, ?_⟩
      subst hQ
      exact ⟨by rw [m2]; rfl, rfl⟩
end
end Go.AM


/- heap: remove, pop. -/
set_option linter.unusedVariables false
set_option linter.unusedSimpArgs false
namespace Go.AM
variable {N : Nat → Nat} {F : Nat → Option AFn}

theorem slc_hi {s r o len cap ex m : Nat} {j : IntKind} (h1 : m ≤ cap) (h2 : ex = 0 ∨ ex = s) : slcV s false true false [.sl (some (r, o)) len cap ex, .i j (m : Int)] = some (.sl (some (r, o)) m cap ex) := by
  show (bif Nat.ble 0 m && Nat.ble m cap && Nat.ble cap cap && (Nat.beq ex 0 || Nat.beq ex s) then _ else _) = _
  have : (Nat.beq ex 0 || Nat.beq ex s) = true := by rcases h2 with rfl | rfl <;> simp [beq_nat]
  simp [ble_nat, h1, this]
section
variable {L L0 K : Lg} {h : Nat} {its l : List It} {mp : Int → Option Int} {seq : Int}
theorem HOpen.sub (ho : HOpen L0 h its mp seq K) (hs : ∀ r d, r ≠ h → L r = some d → L0 r = some d) : HOpen L h its mp seq K := by
  obtain ⟨sv, mb, es, h1, h2, h3, h4, h5, h6, h7⟩ := ho
  have hn : ∀ r, r ≠ h → L0 r = none → L r = none := by
    intro r hr h0
    cases e : L r with
    | none => rfl
    | some d => rw [hs r d hr e] at h0; cases h0
  refine ⟨sv, mb, es, h1, h2, h3, h4, hn mb h4 h5, ?_, fun r d hr hd => h7 r d hr (hs r d hr hd)⟩
  rcases h6 with h6 | ⟨b, cap, sp, a1, a2, a3, a4, a5, a6⟩
  · exact .inl h6
  · exact .inr ⟨b, cap, sp, a1, a2, a3, a4, a5, hn b a4 a6⟩
theorem HOpen.putOld (ho : HOpen L h its mp seq K) {r : Nat} {d : LC} (hr : r ≠ h) (hd : L r = some d) (d' : LC) : HOpen (L.put r d') h its mp seq (K.put r d') := by
  obtain ⟨sv, mb, es, h1, h2, h3, h4, h5, h6, h7⟩ := ho
  have n1 : mb ≠ r := by rintro rfl; rw [hd] at h5; cases h5
  refine ⟨sv, mb, es, by rw [Lg.put_ne _ _ _ (Ne.symm hr)]; exact h1, by rw [Lg.put_ne _ _ _ n1]; exact h2, h3, h4, by rw [Lg.put_ne _ _ _ n1]; exact h5, ?_, ?_⟩
  · rcases h6 with h6 | ⟨b, cap, sp, a1, a2, a3, a4, a5, a6⟩
    · exact .inl h6
    · have n2 : b ≠ r := by rintro rfl; rw [hd] at a6; cases a6
      exact .inr ⟨b, cap, sp, a1, by rw [Lg.put_ne _ _ _ n2]; exact a2, a3, a4, a5, by rw [Lg.put_ne _ _ _ n2]; exact a6⟩
  · intro x k hx hk
    rw [Lg.put_apply] at hk ⊢
    split
    · rename_i h9; rw [if_pos h9] at hk; exact hk
    · rename_i h9; rw [if_neg h9] at hk; exact h7 x k hx hk

/-! ### one less -/
theorem gA_take {A : List It} {n j : Nat} (hj : j < n) : gA (A.take n) j = gA A j := by
  simp [gA, List.getElem?_take, hj]
/-- the last one is gone -/
theorem cons_drop {A : List It} {mp : Int → Option Int} (hc : Cons A mp) (hn : 0 < A.length) : Cons (A.take (A.length - 1)) (updI mp (gA A (A.length - 1)).id none) := by
  have hl : (A.take (A.length - 1)).length = A.length - 1 := by simp
  refine ⟨?_, ?_, ?_⟩
  · intro j k hj hk e
    rw [hl] at hj hk
    rw [gA_take hj, gA_take hk] at e
    exact hc.1 j k (by omega) (by omega) e
  · intro j hj
    rw [hl] at hj
    rw [gA_take hj]
    unfold updI
    have : (gA A (A.length - 1)).id ≠ (gA A j).id := fun e => by have := hc.1 _ _ (by omega) (by omega) e; omega
    rw [if_neg this]
    exact hc.2.1 j (by omega)
  · intro k v hk
    unfold updI at hk
    split at hk
    · cases hk
    · rename_i hne
      obtain ⟨j, hj, hv, hid⟩ := hc.2.2 k v hk
      have : j ≠ A.length - 1 := by rintro rfl; exact hne hid
      exact ⟨j, by rw [hl]; omega, hv, by rw [gA_take (by omega)]; exact hid⟩
theorem heap_drop {A : List It} (hh : HeapA A) : HeapA (A.take (A.length - 1)) := by
  intro j h0 hj
  simp at hj
  have := par_lt h0
  rw [gA_take (by omega), gA_take (by omega)]
  exact hh j h0 (by omega)
/-- the last one stands where one was -/
theorem cons_fill {A : List It} {mp : Int → Option Int} (hc : Cons A mp) {i : Nat} (hi : i < A.length - 1) :
    Cons ((A.take (A.length - 1)).set i (gA A (A.length - 1))) (updI (updI mp (gA A i).id none) (gA A (A.length - 1)).id (some (i : Int))) := by
  have hl : (A.take (A.length - 1)).length = A.length - 1 := by simp
  have hg : ∀ j, j < A.length - 1 → gA ((A.take (A.length - 1)).set i (gA A (A.length - 1))) j = if i = j then gA A (A.length - 1) else gA A j := by
    intro j hj; rw [gA_set (by rw [hl]; exact hi)]; split
    · rfl
    · exact gA_take hj
  have hl' : ((A.take (A.length - 1)).set i (gA A (A.length - 1))).length = A.length - 1 := by simp
  have huniq : ∀ j k, j < A.length → k < A.length → (gA A j).id = (gA A k).id → j = k := hc.1
  refine ⟨?_, ?_, ?_⟩
  · intro j k hj hk e
    rw [hl'] at hj hk
    rw [hg j hj, hg k hk] at e
    by_cases j1 : i = j <;> by_cases k1 : i = k
    · omega
    · simp only [j1, if_true] at e
      rw [if_neg (by omega)] at e
      have := huniq _ _ (by omega) (by omega) e; omega
    · simp only [k1, if_true] at e
      rw [if_neg (by omega)] at e
      have := huniq _ _ (by omega) (by omega) e; omega
    · simp only [j1, k1, if_false] at e
      exact huniq _ _ (by omega) (by omega) e
  · intro j hj
    rw [hl'] at hj
    rw [hg j hj]
    unfold updI
    by_cases j1 : i = j
    · simp [j1]
    · simp only [j1, if_false]
      have n1 : (gA A (A.length - 1)).id ≠ (gA A j).id := fun e => by have := huniq _ _ (by omega) (by omega) e; omega
      have n2 : (gA A i).id ≠ (gA A j).id := fun e => by have := huniq _ _ (by omega) (by omega) e; omega
      rw [if_neg n1, if_neg n2]
      exact hc.2.1 j (by omega)
  · intro k v hk
    unfold updI at hk
    split at hk
    · rename_i h1; cases hk
      exact ⟨i, by rw [hl']; exact hi, rfl, by rw [hg i hi, if_pos rfl]; exact h1⟩
    · rename_i h1
      split at hk
      · cases hk
      · rename_i h2
        obtain ⟨j, hj, hv, hid⟩ := hc.2.2 k v hk
        have a1 : j ≠ A.length - 1 := by rintro rfl; exact h1 hid
        have a2 : i ≠ j := by rintro rfl; exact h2 hid
        exact ⟨j, by rw [hl']; omega, hv, by rw [hg j (by omega), if_neg a2]; exact hid⟩
theorem exx_fill {A : List It} (hh : HeapA A) {i : Nat} (hi : i < A.length - 1) (y : It) : Exx ((A.take (A.length - 1)).set i y) i := by
  have hl : (A.take (A.length - 1)).length = A.length - 1 := by simp
  have hg : ∀ j, j < A.length - 1 → j ≠ i → gA ((A.take (A.length - 1)).set i y) j = gA A j := by
    intro j hj hji; rw [gA_set (by rw [hl]; exact hi), if_neg (Ne.symm hji)]; exact gA_take hj
  refine ⟨fun j h0 hj hji hp => ?_, fun j h0 hj hp h00 => ?_⟩
  · simp at hj
    have := par_lt h0
    rw [hg j (by omega) hji, hg _ (by omega) hp]
    exact hh j h0 (by omega)
  · simp at hj
    have h1 := par_lt h0
    have h2 := par_lt h00
    rw [hg j (by omega) (by omega), hg _ (by omega) (by omega)]
    have a1 := hh j h0 (by omega)
    rw [hp] at a1
    exact It.ge_trans a1 (hh i h00 (by omega))
theorem take_last {A : List It} (hn : 0 < A.length) : A.take (A.length - 1) ++ [gA A (A.length - 1)] = A := by
  have h1 : gA A (A.length - 1) = A[A.length - 1] := by simp [gA, show A.length - 1 < A.length by omega]
  rw [h1]
  have := List.take_append_getElem (l := A) (i := A.length - 1) (by omega)
  rw [this]
  exact List.take_of_length_le (by omega)
theorem rm_perm {A : List It} (hc : Ids A) {i : Nat} (hi : i < A.length) (hp : A.Perm l) : ∀ B : List It, (gA A i :: B).Perm A → B.Perm (rmId (gA A i).id l) := by
  intro B hB
  have h1 := (hB.trans hp).filter (fun y => !decide (y.id = (gA A i).id))
  have h2 : (gA A i :: B).filter (fun y => !decide (y.id = (gA A i).id)) = B := by
    rw [List.filter_cons]
    simp
    intro y hy
    -- one and no other has that number
    intro hid
    have hcnt : (A.filter fun y => decide (y.id = (gA A i).id)).length ≤ 1 := by
      have : ∀ (A : List It), Ids A → ∀ d, (A.filter fun y => decide (y.id = d)).length ≤ 1 := by
        intro A
        induction A with
        | nil => intro _ d; simp
        | cons a r ih =>
          intro hA d
          have hr : Ids r := by
            intro j k hj hk e
            have := hA (j + 1) (k + 1) (by simpa using hj) (by simpa using hk) (by simpa [gA] using e)
            omega
          rw [List.filter_cons]
          split
          · rename_i had
            simp at had
            have : (r.filter fun y => decide (y.id = d)) = [] := by
              rw [List.filter_eq_nil_iff]
              intro z hz
              simp
              intro hzd
              obtain ⟨k, hk, rfl⟩ := List.getElem_of_mem hz
              have := hA 0 (k + 1) (by simp) (by simpa using hk) (by simp [gA, hk, had, hzd])
              omega
            simp [this]
          · exact ih hr d
      exact this A hc _
    have h3 := (hB.filter (fun y => decide (y.id = (gA A i).id))).length_eq
    rw [List.filter_cons] at h3
    simp at h3
    have h4 : 0 < (B.filter fun y => decide (y.id = (gA A i).id)).length := List.length_pos_iff.2 (by
      intro e9
      have : y ∈ B.filter fun y => decide (y.id = (gA A i).id) := by simp [hy, hid]
      rw [e9] at this; cases this)
    omega
  rw [h2] at h1
  exact h1

theorem drop_perm {A : List It} (hc : Ids A) (hp : A.Perm l) (hn : 0 < A.length) : (A.take (A.length - 1)).Perm (rmId (gA A (A.length - 1)).id l) := by
  refine rm_perm hc (by omega) hp _ ?_
  have h1 := take_last hn
  have h2 : (gA A (A.length - 1) :: A.take (A.length - 1)).Perm (A.take (A.length - 1) ++ [gA A (A.length - 1)]) := List.perm_append_comm (l₁ := [gA A (A.length - 1)])
  rw [h1] at h2
  exact h2
theorem fill_perm {A : List It} (hc : Ids A) (hp : A.Perm l) {i : Nat} (hi : i < A.length - 1) : ((A.take (A.length - 1)).set i (gA A (A.length - 1))).Perm (rmId (gA A i).id l) := by
  refine rm_perm hc (by omega) hp _ ?_
  have h1 := cons_set_perm (gA A (A.length - 1)) (A.take (A.length - 1)) i (by simp; omega)
  have h2 : (A.take (A.length - 1))[i]'(by simp; omega) = gA A i := by
    simp [gA, show i < A.length by omega]
  rw [h2] at h1
  refine h1.trans ?_
  have h4 : (gA A (A.length - 1) :: A.take (A.length - 1)).Perm (A.take (A.length - 1) ++ [gA A (A.length - 1)]) := List.perm_append_comm (l₁ := [gA A (A.length - 1)])
  rw [take_last (by omega)] at h4
  exact h4
theorem icells_last {A : List It} (sp : List AV) (hn : 0 < A.length) : icells A ++ sp = icells (A.take (A.length - 1)) ++ ((gA A (A.length - 1)).cells ++ sp) := by
  have h1 : icells A = icells (A.take (A.length - 1) ++ [gA A (A.length - 1)]) := by rw [take_last hn]
  rw [h1, icells_append]
  simp [icells]
theorem hremove_spec (hf : H_heap_Heap_Remove N F) (e : L h = some (.abs (HeapP h l seq))) (hl : l.length ≤ 1000000) (id : Int) :
    CallL F (N k_heap_Heap_Remove) [.p (some (h, 0)), .i .i64 id] L fun v L' => v = retIt (findId id l) ∧ L' = L.put h (.abs (HeapP h (rmId id l) seq)) := by
  apply CallL.openH e
  intro its mp K ho hc hh hp
  have plen := hp.length_eq
  apply r_heap_Heap_Remove hf.code
  generalize hQ : (fun (v : AV) (L' : Lg) => v = retIt (findId id l) ∧ L' = L.put h (.abs (HeapP h (rmId id l) seq))) = Q
  unfold D_heap_Heap_Remove_1 D_heap_Heap_Remove_2
  simp
  intro rc hrc
  have z1 := ho.onto hrc (.raw (.cells [.i .i64 0, .i .i64 0, .i .i64 0]))
  have nrc := ho.ne hrc
  refine (hfind_open hf.heap_Heap_Find z1 hc hp id).mono ?_
  rintro _ K1 ⟨rfl, rfl⟩
  rcases hc.find hp id with ⟨m1, m2⟩ | ⟨j, hj, m1, m2, m3⟩
  · rw [m2] at hQ ⊢
    simp [retIt, It.av]
    intro x6 hx6
    have nx6 := z1.ne hx6
    rw [stL_cells (Lg.put_same _ _ _) (by simp [It.cells]) (by simp [It.cells]) (by simp), Lg.put_put]
    have n6 : x6 ≠ rc := by rintro rfl; simp at hx6
    unfold D_heap_Heap_Remove_3
    have erc : ((K.put rc (.raw (.cells [.i .i64 0, .i .i64 0, .i .i64 0]))).put x6 (.raw (.cells (splice [.i .i64 0, .i .i64 0, .i .i64 0] 0 It.zero.cells)))) rc = some (.raw (.cells [.i .i64 0, .i .i64 0, .i .i64 0])) := by
      rw [Lg.put_ne _ _ _ (Ne.symm n6), Lg.put_same]
    simp [fillP]
    rw [stL_cells erc (by simp) (by simp) (by simp)]
    rw [res_cell_tmp _ _ (Lg.put_same _ _ _) (by simp [splice])]
    refine ⟨L, ?_, ?_⟩
    · have hb := ho.back hc hh hp e
      refine Sees.trans (Sees.drop ?_) hb
      intro r d hr
      have c1 : r ≠ rc := by rintro rfl; rw [hrc] at hr; cases hr
      have c2 : r ≠ x6 := by
        rintro rfl
        rw [Lg.put_ne _ _ _ n6, hr] at hx6; cases hx6
      simp [Lg.put_apply, c1, c2, hr]
    · subst hQ
      refine ⟨rfl, ?_⟩
      have : rmId id l = l := by
        unfold rmId
        rw [List.filter_eq_self]
        intro y hy
        unfold findId at m2
        rw [List.find?_eq_none] at m2
        have := m2 y hy
        simpa using this
      rw [this, Lg.put_self L h _ e]
  · rw [m2] at hQ ⊢
    obtain ⟨x, hx⟩ : ∃ x, x = gA its j := ⟨_, rfl⟩
    rw [← hx] at hQ m3 ⊢
    simp [retIt, It.av]
    intro x6 hx6
    have nx6 := z1.ne hx6
    have z2 := z1.onto hx6 (.raw (.cells x.cells))
    rw [stL_cells (Lg.put_same _ _ _) (by simp [It.cells]) (by simp [It.cells]) (by simp), Lg.put_put, show splice [AV.i .i64 0, .i .i64 0, .i .i64 0] 0 x.cells = x.cells by simp [splice, It.cells]]
    unfold D_heap_Heap_Remove_3 D_heap_Heap_Remove_4
    have hpos : 0 < its.length := by omega
    obtain ⟨n, hn⟩ : ∃ n, n = its.length - 1 := ⟨_, rfl⟩
    have w1 : wr .i64 ((its.length : Int) - 1) = (n : Int) := by rw [wr_id (by omega) (by omega)]; omega
    obtain ⟨lastI, hlast⟩ : ∃ y, y = gA its n := ⟨_, rfl⟩
    have z2' := z2
    obtain ⟨sv, mb, es, h1, h2, h3, h4, h5, h6, h7⟩ := z2'
    rcases h6 with ⟨rfl, _⟩ | ⟨b, cap, sp, rfl, a2, a3, a4, a5, a6⟩
    · simp at hpos
    have en : (n : Int) < (its.length : Int) := by omega
    have hat := icells_at its n lastI sp (by rw [hlast]; exact gA_get (by omega))
    have hat2 := hat.2
    rw [List.length_append] at hat2
    have hncap : n ≤ cap := by omega
    simp [rdL, AB.read, look, h1, h2, rLkupL, h3.find id, m1, w1]
    unfold D_heap_Heap_Remove_5
    simp [rdL, AB.read, look, h1, wp_iad _ _ _ 3 b 0 its.length cap 3 .i64 (n : Int) (Int.natCast_nonneg _) en, a2, cut, ble_nat, hat.1, hat2]
    intro x10 hx10
    have nx10 := z2.ne hx10
    have z3 := z2.onto hx10 (.raw (.cells lastI.cells))
    rw [stL_cells (Lg.put_same _ _ _) (by simp [It.cells]) (by simp [It.cells]) (by simp), Lg.put_put, show splice [AV.i .i64 0, .i .i64 0, .i .i64 0] 0 lastI.cells = lastI.cells by simp [splice, It.cells]]
    obtain ⟨L0, hL0⟩ : ∃ L0, L0 = ((L.put rc (.raw (.cells [.i .i64 0, .i .i64 0, .i .i64 0]))).put x6 (.raw (.cells x.cells))).put x10 (.raw (.cells lastI.cells)) := ⟨_, rfl⟩
    rw [← hL0] at z3
    have n6 : x6 ≠ rc := by rintro rfl; simp at hx6
    have n10 : x10 ≠ x6 := by rintro rfl; simp at hx10
    have n10' : x10 ≠ rc := by rintro rfl; rw [Lg.put_ne _ _ _ n10, Lg.put_same] at hx10; cases hx10
    have r10 : L0 x10 = some (.raw (.cells lastI.cells)) := by rw [hL0]; exact Lg.put_same _ _ _
    have r6 : L0 x6 = some (.raw (.cells x.cells)) := by rw [hL0, Lg.put_ne _ _ _ (Ne.symm n10)]; exact Lg.put_same _ _ _
    have rrc : L0 rc = some (.raw (.cells [.i .i64 0, .i .i64 0, .i .i64 0])) := by rw [hL0, Lg.put_ne _ _ _ (Ne.symm n10'), Lg.put_ne _ _ _ (Ne.symm n6)]; exact Lg.put_same _ _ _
    have hsub : ∀ r d, r ≠ h → L r = some d → L0 r = some d := by
      intro r d hr hd
      have c1 : r ≠ rc := by rintro rfl; rw [nrc.2] at hd; cases hd
      have c2 : r ≠ x6 := by
        rintro rfl
        have := nx6.2
        rw [Lg.put_ne _ _ _ n6, hd] at this; cases this
      have c3 : r ≠ x10 := by
        rintro rfl
        have := nx10.2
        rw [Lg.put_ne _ _ _ n10, Lg.put_ne _ _ _ n10', hd] at this; cases this
      rw [hL0]; simp [Lg.put_apply, c1, c2, c3, hd]
    -- the end: what was there is handed out
    have fin2 : ∀ {its' : List It} {mp' : Int → Option Int} {K' : Lg}, HOpen L0 h its' mp' seq K' → Cons its' mp' → HeapA its' → its'.Perm (rmId id l) →
        stL 3 K' (fun _ L19 => fin1 (resVL Env.nil Env.nil L19 [.cell (.c (.p (some (rc, 0)))) (some 3), .tmp (.c (.b true))]) Q L19) [.p (some (rc, 0)), .agg x.cells] := by
      intro its' mp' K' ho' hc' hh' hp'
      have krc := ho'.old nrc.1 rrc
      rw [stL_cells krc (by simp [It.cells]) (by simp [It.cells]) (by simp)]
      rw [res_cell_tmp _ _ (Lg.put_same _ _ _) (by simp [splice, It.cells])]
      have ho2 := (ho'.putOld nrc.1 rrc (.raw (.cells (splice [.i .i64 0, .i .i64 0, .i .i64 0] 0 x.cells)))).sub (L := L) (fun r d hr hd => by
        have c1 : r ≠ rc := by rintro rfl; rw [nrc.2] at hd; cases hd
        rw [Lg.put_ne _ _ _ c1]; exact hsub r d hr hd)
      refine ⟨_, ho2.shut hc' hh' hp', ?_⟩
      subst hQ
      exact ⟨by simp [splice, It.cells, It.av, retIt], rfl⟩
    have fin : ∀ {its' : List It} {mp' : Int → Option Int} {K' : Lg}, HOpen L0 h its' mp' seq K' → Cons its' mp' → HeapA its' → its'.Perm (rmId id l) →
        wpOp F (.ld (some 3)) [.p (some (x6, 0))] K' fun v18 L18 => wpOp F (.st 3) [.p (some (rc, 0)), v18] L18 fun _ L19 =>
          fin1 (resVL Env.nil Env.nil L19 [.cell (.c (.p (some (rc, 0)))) (some 3), .tmp (.c (.b true))]) Q L19 := by
      intro its' mp' K' ho' hc' hh' hp'
      have k6 := ho'.old nx6.1 r6
      simp [rdL_cells k6 (show 0 + 3 ≤ x.cells.length by simp [It.cells])]
      have : AV.agg (List.take 3 x.cells) = .agg x.cells := by simp [It.cells]
      rw [this]
      exact fin2 ho' hc' hh' hp'
    obtain ⟨K3, hK3⟩ : ∃ K3, K3 = ((K.put rc (.raw (.cells [.i .i64 0, .i .i64 0, .i .i64 0]))).put x6 (.raw (.cells x.cells))).put x10 (.raw (.cells lastI.cells)) := ⟨_, rfl⟩
    rw [← hK3] at z3 ⊢
    clear h1 h2 h3 h4 h5 h7 a2 a3 a4 a5 a6 hat hat2 hncap hK3
    unfold D_heap_Heap_Remove_6
    have zz := z3
    obtain ⟨sv, mb, es, h1, h2, h3, h4, h5, h6, h7⟩ := z3
    rcases h6 with ⟨rfl, _⟩ | ⟨b, cap, sp, rfl, a2, a3, a4, a5, a6⟩
    · simp at hpos
    have hncap : n ≤ cap := by omega
    have hb10 : x10 ≠ h := nx10.1
    simp [rdL, AB.read, look, h1, slc_hi hncap (.inr rfl), stL_cell h1]
    unfold D_heap_Heap_Remove_7
    obtain ⟨es', hes, hM⟩ := h3.del id
    have nbm : x10 ≠ mb := by rintro rfl; rw [h5] at r10; cases r10
    have nb6 : x6 ≠ mb := by rintro rfl; rw [h5] at r6; cases r6
    -- the row without the last one
    have hrow : HOpen L0 h (its.take n) (updI mp id none) seq ((K3.put h (.raw (.cells ([.sl (some (b, 0)) its.length cap 3, .m (some mb), .i .i64 seq].set 0 (.sl (some (b, 0)) n cap 3))))).put mb (.raw (.map es'))) :=
      ⟨.sl (some (b, 0)) n cap 3, mb, es', by rw [Lg.put_ne _ _ _ (Ne.symm h4), Lg.put_same]; rfl, Lg.put_same _ _ _, hM, h4, h5,
        .inr ⟨b, cap, lastI.cells ++ sp, by rw [List.length_take]; congr 1; omega, by rw [Lg.put_ne _ _ _ a5, Lg.put_ne _ _ _ a4, a2, hlast, hn, icells_last sp hpos], by simp [It.cells]; omega, a4, a5, a6⟩,
        fun r d hr hd => by
          have c1 : r ≠ mb := by rintro rfl; rw [h5] at hd; cases hd
          rw [Lg.put_ne _ _ _ c1, Lg.put_ne _ _ _ hr]; exact h7 r d hr hd⟩
    have k310 := h7 x10 _ nx10.1 r10
    have k36 := h7 x6 _ nx6.1 r6
    have el3 : 3 ≤ lastI.cells.length := by simp [It.cells]
    have ex3 : 3 ≤ x.cells.length := by simp [It.cells]
    have el : AV.agg (List.take 3 lastI.cells) = lastI.av := by simp [It.cells, It.av]
    have exx : AV.agg (List.take 3 x.cells) = .agg x.cells := by simp [It.cells]
    by_cases hjn : j < n
    · have hjn' : (j : Int) < (n : Int) := by omega
      have k10 := hrow.old nx10.1 r10
      have hfill := cons_fill hc (i := j) (by omega)
      have hexx := exx_fill hh (i := j) (by omega) (gA its (its.length - 1))
      have hpm := fill_perm hc.1 hp (i := j) (by omega)
      rw [← hn, ← hlast, ← hx, m3] at hfill hpm
      rw [← hn, ← hlast] at hexx
      simp [rdL, AB.read, look, h4, Ne.symm h4, mdelW, Lg.put_apply, h2, hes, hjn, hjn', nbm, nx10.1, k310, cut, ble_nat, el3, el]
      refine (hput_spec hf.heap_Heap_put hrow j (by rw [List.length_take]; omega) lastI).mono ?_
      rintro _ K4 ⟨rfl, ho4⟩
      have hl4 : ((its.take n).set j lastI).length = n := by simp; omega
      refine (hup_spec hf.heap_Heap_up ho4 j (by rw [hl4]; omega) (by rw [hl4]; omega) (hfill.hole j) hexx).mono ?_
      rintro _ K5 ⟨rfl, A', mp', p1, ho5, hc5, _, i', hi', hg, hdn⟩
      have hg2 : gA A' i' = lastI := by rw [hg, gA_set (by simp; omega), if_pos rfl]
      have hlk : mp' lastI.id = some (i' : Int) := by rw [← hg2]; exact hc5.2.1 i' hi'
      have hl5 := p1.length_eq
      have k10' := ho5.old nx10.1 r10
      have ho5' := ho5
      obtain ⟨sv5, mb5, es5, g1, g2, g3, g4, g5, g6, g7⟩ := ho5'
      simp [rdL, AB.read, look, g1, k10', It.cells, rLkupL, g2, g3.find lastI.id, hlk]
      refine (hdown_spec hf.heap_Heap_down ho5 i' hi' (by rw [hl5, hl4]; omega) hc5 hdn).mono ?_
      rintro _ K6 ⟨rfl, A'', mp'', p2, ho6, hc6, hh6⟩
      exact fin ho6 hc6 hh6 ((p2.trans p1).trans hpm)
    · have hjn2 : j = n := by omega
      have hjn' : ¬ (j : Int) < (n : Int) := by omega
      have hxl : x = lastI := by rw [hx, hlast, hjn2]
      have hcd := cons_drop hc hpos
      have hpd := drop_perm hc.1 hp hpos
      rw [← hn, ← hlast, ← hxl, m3] at hcd hpd
      have hhd := heap_drop hh
      rw [← hn] at hhd
      simp [rdL, AB.read, look, h4, Ne.symm h4, mdelW, Lg.put_apply, h2, hes, hjn, hjn', nb6, nx6.1, k36, cut, ble_nat, ex3, exx]
      exact fin2 hrow hcd hhd hpd
end
end Go.AM


/- expire: what its functions do. -/
set_option linter.unusedVariables false
set_option linter.unusedSimpArgs false
namespace Go.AM
variable {N : Nat → Nat} {F : Nat → Option AFn}

/-- what will be due: in order; the count; the periods -/
structure Xs where
  l : List It
  seq : Int
  pf : Int → Option Int
structure Xs.ok (x : Xs) (n : Nat) : Prop where
  sorted : x.l.Pairwise It.lt
  len : x.l.length ≤ n
  below : ∀ y, y ∈ x.l → y.s ≤ x.seq
  pos : 0 ≤ x.seq
def Xs.stop (x : Xs) (id : Int) : Xs := { x with l := rmId id x.l, pf := updI x.pf id none }
def Xs.armed (x : Xs) (id when period : Int) : Xs := { l := ins ⟨id, when, x.seq + 1⟩ (rmId id x.l), seq := x.seq + 1, pf := updI (updI x.pf id none) id (some period) }
def badT (a b : Int) : Bool := decide (min a b < 0) || decide (4611686018427387904 < max a b)
def Xs.arm (x : Xs) (id when period : Int) : Xs × Int := if badT when period = true then (x, 1) else (x.armed id when period, 0)
def Xs.take (x : Xs) (now : Int) : Xs × (Int × Int × Int) × Bool := match x.l.head? with
  | none => (x, (0, 0, 0), false)
  | some y => if now < 0 ∨ now < y.w then (x, (0, 0, 0), false) else
    let p := (x.pf y.id).getD 0
    let z : Xs := x.stop y.id
    let c := clockNext y.w p now
    (if c.2 = 0 ∧ now < c.1 then (z.arm y.id c.1 p).1 else z, (y.id, y.w, now), true)
def TmP (t : Nat) (x : Xs) (hp : Hp) : Prop := ∃ (h pm : Nat) (es : List (AV × AV)) (M : Lg), M t = some (.raw (.cells [.p (some (h, 0)), .m (some pm)])) ∧ M h = some (.abs (HeapP h x.l x.seq)) ∧ M pm = some (.raw (.map es)) ∧ MapI es x.pf ∧ h ≠ t ∧ pm ≠ t ∧ pm ≠ h ∧ Sat M hp
structure XOpen (L : Lg) (t : Nat) (x : Xs) (h pm : Nat) (K : Lg) : Prop where
  root : K t = some (.raw (.cells [.p (some (h, 0)), .m (some pm)]))
  heap : K h = some (.abs (HeapP h x.l x.seq))
  per : ∃ es, K pm = some (.raw (.map es)) ∧ MapI es x.pf
  n1 : h ≠ t
  n2 : pm ≠ t
  n3 : pm ≠ h
  f1 : L h = none
  f2 : L pm = none
  old : ∀ r d, r ≠ t → L r = some d → K r = some d

section
variable {L L0 K : Lg} {t h pm : Nat} {x : Xs}
theorem XOpen.shut (o : XOpen L t x h pm K) : Sees K (L.put t (.abs (TmP t x))) := by
  obtain ⟨es, e1, e2⟩ := o.per
  refine Sees.shutAt (fun r => r = t ∨ r = h ∨ r = pm) (.inl rfl) ?_ ?_ (.inl ⟨_, o.root⟩) ?_
  · intro r d hr hd; simp only [not_or] at hr; exact o.old r d hr.1 hd
  · rintro r (rfl | rfl | rfl) hr
    · exact absurd rfl hr
    · exact o.f1
    · exact o.f2
  · intro M hm hM hN hs
    exact ⟨h, pm, es, M, by rw [hM t (.inl rfl)]; exact o.root, by rw [hM h (.inr (.inl rfl))]; exact o.heap, by rw [hM pm (.inr (.inr rfl))]; exact e1, e2, o.n1, o.n2, o.n3, hs⟩
theorem CallL.openX {f : Nat} {vs : List AV} {Q : AV → Lg → Prop} (e : L t = some (.abs (TmP t x))) (H : ∀ h pm K, XOpen L t x h pm K → CallL F f vs K Q) : CallL F f vs L Q := by
  apply CallL.opens e
  rintro hm ⟨h, pm, es, M, m1, m2, m3, m4, n1, n2, n3, hs⟩
  refine ⟨M, hs, by rw [m1]; simp, fun hf => ?_⟩
  have hover : ∀ b d, M b = some d → (M.over L) b = some d := fun b d hb => by simp [Lg.over, hb]
  refine H h pm (M.over L) ⟨hover _ _ m1, hover _ _ m2, ⟨es, hover _ _ m3, m4⟩, n1, n2, n3, hf _ _ m2 n1, hf _ _ m3 n2, ?_⟩
  intro r d hr hd
  cases hM : M r with
  | none => simp [Lg.over, hM, hd]
  | some c => rw [hf r c hM hr] at hd; cases hd
theorem XOpen.ne (o : XOpen L t x h pm K) {r : Nat} (hr : K r = none) : r ≠ t ∧ L r = none := by
  have n : r ≠ t := by rintro rfl; rw [o.root] at hr; cases hr
  refine ⟨n, ?_⟩
  cases e : L r with
  | none => rfl
  | some d => rw [o.old r d n e] at hr; cases hr
theorem XOpen.nes (o : XOpen L t x h pm K) {r : Nat} (hr : K r = none) : r ≠ t ∧ r ≠ h ∧ r ≠ pm := by
  obtain ⟨es, e1, _⟩ := o.per
  refine ⟨?_, ?_, ?_⟩ <;> rintro rfl
  · rw [o.root] at hr; cases hr
  · rw [o.heap] at hr; cases hr
  · rw [e1] at hr; cases hr
theorem XOpen.onto (o : XOpen L t x h pm K) {r : Nat} (hr : K r = none) (d : LC) : XOpen (L.put r d) t x h pm (K.put r d) := by
  obtain ⟨es, e1, e2⟩ := o.per
  obtain ⟨c1, c2, c3⟩ := o.nes hr
  refine ⟨by rw [Lg.put_ne _ _ _ (Ne.symm c1)]; exact o.root, by rw [Lg.put_ne _ _ _ (Ne.symm c2)]; exact o.heap, ⟨es, by rw [Lg.put_ne _ _ _ (Ne.symm c3)]; exact e1, e2⟩, o.n1, o.n2, o.n3,
    by rw [Lg.put_ne _ _ _ (Ne.symm c2)]; exact o.f1, by rw [Lg.put_ne _ _ _ (Ne.symm c3)]; exact o.f2, ?_⟩
  intro y k hy hk
  rw [Lg.put_apply] at hk ⊢
  split
  · rename_i h9; rw [if_pos h9] at hk; exact hk
  · rename_i h9; rw [if_neg h9] at hk; exact o.old y k hy hk
theorem XOpen.putOld (o : XOpen L t x h pm K) {r : Nat} {d : LC} (hr : r ≠ t) (hd : L r = some d) (d' : LC) : XOpen (L.put r d') t x h pm (K.put r d') := by
  obtain ⟨es, e1, e2⟩ := o.per
  have c2 : r ≠ h := by rintro rfl; rw [o.f1] at hd; cases hd
  have c3 : r ≠ pm := by rintro rfl; rw [o.f2] at hd; cases hd
  refine ⟨by rw [Lg.put_ne _ _ _ (Ne.symm hr)]; exact o.root, by rw [Lg.put_ne _ _ _ (Ne.symm c2)]; exact o.heap, ⟨es, by rw [Lg.put_ne _ _ _ (Ne.symm c3)]; exact e1, e2⟩, o.n1, o.n2, o.n3,
    by rw [Lg.put_ne _ _ _ (Ne.symm c2)]; exact o.f1, by rw [Lg.put_ne _ _ _ (Ne.symm c3)]; exact o.f2, ?_⟩
  intro y k hy hk
  rw [Lg.put_apply] at hk ⊢
  split
  · rename_i h9; rw [if_pos h9] at hk; exact hk
  · rename_i h9; rw [if_neg h9] at hk; exact o.old y k hy hk
theorem XOpen.sub (o : XOpen L0 t x h pm K) (hs : ∀ r d, r ≠ t → L r = some d → L0 r = some d) : XOpen L t x h pm K := by
  have hn : ∀ r, r ≠ t → L0 r = none → L r = none := by
    intro r hr h0
    cases e : L r with
    | none => rfl
    | some d => rw [hs r d hr e] at h0; cases h0
  exact ⟨o.root, o.heap, o.per, o.n1, o.n2, o.n3, hn h o.n1 o.f1, hn pm o.n2 o.f2, fun r d hr hd => o.old r d hr (hs r d hr hd)⟩
theorem XOpen.setHeap (o : XOpen L t x h pm K) (l : List It) (seq : Int) : XOpen L t { x with l := l, seq := seq } h pm (K.put h (.abs (HeapP h l seq))) := by
  obtain ⟨es, e1, e2⟩ := o.per
  refine ⟨by rw [Lg.put_ne _ _ _ (Ne.symm o.n1)]; exact o.root, Lg.put_same _ _ _, ⟨es, by rw [Lg.put_ne _ _ _ o.n3]; exact e1, e2⟩, o.n1, o.n2, o.n3, o.f1, o.f2, ?_⟩
  intro r d hr hd
  have : r ≠ h := by rintro rfl; rw [o.f1] at hd; cases hd
  rw [Lg.put_ne _ _ _ this]; exact o.old r d hr hd
theorem XOpen.setPer (o : XOpen L t x h pm K) {es : List (AV × AV)} {f : Int → Option Int} (hm : MapI es f) : XOpen L t { x with pf := f } h pm (K.put pm (.raw (.map es))) := by
  refine ⟨by rw [Lg.put_ne _ _ _ (Ne.symm o.n2)]; exact o.root, by rw [Lg.put_ne _ _ _ (Ne.symm o.n3)]; exact o.heap, ⟨es, Lg.put_same _ _ _, hm⟩, o.n1, o.n2, o.n3, o.f1, o.f2, ?_⟩
  intro r d hr hd
  have : r ≠ pm := by rintro rfl; rw [o.f2] at hd; cases hd
  rw [Lg.put_ne _ _ _ this]; exact o.old r d hr hd
theorem XOpen.back (o : XOpen L t x h pm K) (e : L t = some (.abs (TmP t x))) : Sees K L := by
  have := o.shut
  rwa [Lg.put_self L t _ e] at this

theorem xstop_open (hf : H_expire_Timers_Stop N F) (o : XOpen L t x h pm K) (hl : x.l.length ≤ 1000000) (id : Int) :
    CallL F (N k_expire_Timers_Stop) [.p (some (t, 0)), .i .i64 id] K fun v K' => v = .b (findId id x.l).isSome ∧ XOpen L t (x.stop id) h pm K' := by
  apply r_expire_Timers_Stop hf.code
  generalize hQ : (fun (v : AV) (K' : Lg) => v = .b (findId id x.l).isSome ∧ XOpen L t (x.stop id) h pm K') = Q
  unfold D_expire_Timers_Stop_1
  simp [rdL, AB.read, look, o.root]
  refine (hremove_spec hf.heap_Heap_Remove o.heap hl id).mono ?_
  rintro _ _ ⟨rfl, rfl⟩
  have o2 := o.setHeap (rmId id x.l) x.seq
  obtain ⟨es, e1, e2⟩ := o2.per
  obtain ⟨es', hd, hM⟩ := e2.del id
  have o3 := o2.setPer hM
  have key : ∀ z : It, ∀ r : Nat, (K.put h (.abs (HeapP h (rmId id x.l) x.seq))) r = none → ∀ c : LC,
      wpOp F .nilchk [.p (some (t, 0))] ((K.put h (.abs (HeapP h (rmId id x.l) x.seq))).put r c) fun v10 L10 => wpOp F (.fad 1) [v10] L10 fun v11 L11 => wpOp F (.ld none) [v11] L11 fun v12 L12 => wpOp F .mdel [v12, .i .i64 id] L12 fun _ L13 =>
        fin1 (some (.b (findId id x.l).isSome)) Q L13 := by
    intro z r hr c
    obtain ⟨c1, c2, c3⟩ := o2.nes hr
    have o4 := (o2.onto hr c).setPer hM
    have hr1 : ((K.put h (.abs (HeapP h (rmId id x.l) x.seq))).put r c) t = some (.raw (.cells [.p (some (h, 0)), .m (some pm)])) := by rw [Lg.put_ne _ _ _ (Ne.symm c1)]; exact o2.root
    have hr2 : ((K.put h (.abs (HeapP h (rmId id x.l) x.seq))).put r c) pm = some (.raw (.map es)) := by rw [Lg.put_ne _ _ _ (Ne.symm c3)]; exact e1
    simp [rdL, AB.read, look, hr1, mdelW, hr2, hd]
    refine ⟨_, Sees.refl _, ?_⟩
    subst hQ
    refine ⟨rfl, o4.sub fun y d hy hyd => ?_⟩
    have : y ≠ r := by rintro rfl; rw [(o2.ne hr).2] at hyd; cases hyd
    rw [Lg.put_ne _ _ _ this]; exact hyd
  cases hfi : findId id x.l with
  | none =>
    rw [hfi] at key
    simp [retIt, It.av]
    intro r hr
    rw [stL_cells (Lg.put_same _ _ _) (by simp [It.cells]) (by simp [It.cells]) (by simp), Lg.put_put]
    exact key It.zero r hr _
  | some y =>
    rw [hfi] at key
    simp [retIt, It.av]
    intro r hr
    rw [stL_cells (Lg.put_same _ _ _) (by simp [It.cells]) (by simp [It.cells]) (by simp), Lg.put_put]
    exact key y r hr _
end
end Go.AM


/- The code of functions, with names for their numbers, and what is left of its weakest preconditions. PRINTED by our printgen.py. -/
set_option linter.unusedVariables false
set_option maxRecDepth 100000
namespace Go.AM
end Go.AM

/- timer: the set of timers, opened; small functions. -/
set_option linter.unusedVariables false
set_option linter.unusedSimpArgs false
namespace Go.AM
variable {N : Nat → Nat} {F : Nat → Option AFn}

section
variable {L : Lg} {t : Nat} {x : Xs}
theorem xstop_spec (hf : H_expire_Timers_Stop N F) (e : L t = some (.abs (TmP t x))) (hl : x.l.length ≤ 1000000) (id : Int) :
    CallL F (N k_expire_Timers_Stop) [.p (some (t, 0)), .i .i64 id] L fun v L' => v = .b (findId id x.l).isSome ∧ L' = L.put t (.abs (TmP t (x.stop id))) := by
  apply CallL.openX e
  intro h pm K o
  refine (xstop_open hf o hl id).sees ?_
  rintro _ K' ⟨rfl, o'⟩
  exact ⟨_, o'.shut, rfl, rfl⟩
end

/-- a timer -/
structure On where
  kind : Int
  data : Int
  c : Option Nat
  gen : Int
def On.cells (o : On) : List AV := [.i .i64 o.kind, .i .i64 o.data, ptr o.c, .i .i64 o.gen]
def ocells : List On → List AV
  | [] => []
  | o :: r => o.cells ++ ocells r
theorem ocells_get : ∀ (ws : List On) (i k : Nat) (w : On), ws[i]? = some w → k < 4 → (ocells ws)[i * 4 + k]? = w.cells[k]?
  | [], i, k, w, h, _ => by simp at h
  | a :: r, 0, k, w, h, hk => by
    simp at h; subst h
    simp only [ocells, Nat.zero_mul, Nat.zero_add]
    rw [List.getElem?_append_left (by simp [On.cells]; omega)]
  | a :: r, i + 1, k, w, h, hk => by
    have := ocells_get r i k w (by simpa using h) hk
    have e : (i + 1) * 4 + k = a.cells.length + (i * 4 + k) := by simp [On.cells]; omega
    rw [e]
    simp only [ocells]
    rw [List.getElem?_append_right (by omega), Nat.add_sub_cancel_left]
    exact this
/-- timers: each; what will be due; how many have names -/
structure Tms where
  ones : List On
  x : Xs
  named : Int
def SSl (L : Lg) (s t : Nat) (ones : List On) (sv : AV) (K : Lg) : Prop :=
  (ones = [] ∧ sv = .sl none 0 0 0) ∨ ∃ b, sv = .sl (some (b, 0)) ones.length ones.length 4 ∧ K b = some (.raw (.cells (ocells ones))) ∧ b ≠ s ∧ b ≠ t ∧ L b = none ∧ 0 < ones.length
def SOpen (L : Lg) (s : Nat) (σ : Tms) (t : Nat) (K : Lg) : Prop :=
  ∃ sv, K s = some (.raw (.cells [sv, .p (some (t, 0)), .i .i64 σ.named])) ∧ K t = some (.abs (TmP t σ.x)) ∧ t ≠ s ∧ L t = none ∧ SSl L s t σ.ones sv K ∧ ∀ r d, r ≠ s → L r = some d → K r = some d
def SetP (s : Nat) (σ : Tms) (hp : Hp) : Prop := ∃ t M, SOpen Lg.nil s σ t M ∧ Sat M hp
section
variable {L L0 K : Lg} {s t : Nat} {σ : Tms}
theorem SOpen.shut (o : SOpen L s σ t K) : Sees K (L.put s (.abs (SetP s σ))) := by
  obtain ⟨sv, h1, h2, h3, h4, h5, h6⟩ := o
  rcases h5 with ⟨g1, rfl⟩ | ⟨b, rfl, a2, a3, a4, a5, a6⟩
  · refine Sees.shutAt (fun r => r = s ∨ r = t) (.inl rfl) ?_ ?_ (.inl ⟨_, h1⟩) ?_
    · intro r d hr hd; simp only [not_or] at hr; exact h6 r d hr.1 hd
    · rintro r (rfl | rfl) hr
      · exact absurd rfl hr
      · exact h4
    · intro M hm hM hN hs
      exact ⟨t, M, ⟨_, by rw [hM s (.inl rfl)]; exact h1, by rw [hM t (.inr rfl)]; exact h2, h3, rfl, .inl ⟨g1, rfl⟩, fun r d _ hd => by cases hd⟩, hs⟩
  · refine Sees.shutAt (fun r => r = s ∨ r = t ∨ r = b) (.inl rfl) ?_ ?_ (.inl ⟨_, h1⟩) ?_
    · intro r d hr hd; simp only [not_or] at hr; exact h6 r d hr.1 hd
    · rintro r (rfl | rfl | rfl) hr
      · exact absurd rfl hr
      · exact h4
      · exact a5
    · intro M hm hM hN hs
      exact ⟨t, M, ⟨_, by rw [hM s (.inl rfl)]; exact h1, by rw [hM t (.inr (.inl rfl))]; exact h2, h3, rfl, .inr ⟨b, rfl, by rw [hM b (.inr (.inr rfl))]; exact a2, a3, a4, rfl, a6⟩, fun r d _ hd => by cases hd⟩, hs⟩
theorem CallL.openS {f : Nat} {vs : List AV} {Q : AV → Lg → Prop} (e : L s = some (.abs (SetP s σ))) (H : ∀ t K, SOpen L s σ t K → CallL F f vs K Q) : CallL F f vs L Q := by
  apply CallL.opens e
  rintro hm ⟨t, M, ⟨sv, h1, h2, h3, h4, h5, h6⟩, hs⟩
  refine ⟨M, hs, by rw [h1]; simp, fun hf => ?_⟩
  have hover : ∀ b d, M b = some d → (M.over L) b = some d := fun b d hb => by simp [Lg.over, hb]
  refine H t (M.over L) ⟨sv, hover _ _ h1, hover _ _ h2, h3, hf _ _ h2 h3, ?_, ?_⟩
  · rcases h5 with h5 | ⟨b, a1, a2, a3, a4, a5, a6⟩
    · exact .inl h5
    · exact .inr ⟨b, a1, hover _ _ a2, a3, a4, hf _ _ a2 a3, a6⟩
  · intro r d hr hd
    cases hM : M r with
    | none => simp [Lg.over, hM, hd]
    | some c => rw [hf r c hM hr] at hd; cases hd
theorem SOpen.back (o : SOpen L s σ t K) (e : L s = some (.abs (SetP s σ))) : Sees K L := by
  have := o.shut
  rwa [Lg.put_self L s _ e] at this
theorem SOpen.ne (o : SOpen L s σ t K) {r : Nat} (hr : K r = none) : r ≠ s ∧ L r = none := by
  obtain ⟨sv, h1, h2, h3, h4, h5, h6⟩ := o
  have n : r ≠ s := by rintro rfl; rw [h1] at hr; cases hr
  refine ⟨n, ?_⟩
  cases e : L r with
  | none => rfl
  | some d => rw [h6 r d n e] at hr; cases hr
theorem SOpen.old (o : SOpen L s σ t K) {r : Nat} {d : LC} (hr : r ≠ s) (hd : L r = some d) : K r = some d := by
  obtain ⟨sv, h1, h2, h3, h4, h5, h6⟩ := o
  exact h6 r d hr hd
theorem SOpen.onto (o : SOpen L s σ t K) {r : Nat} (hr : K r = none) (d : LC) : SOpen (L.put r d) s σ t (K.put r d) := by
  obtain ⟨sv, h1, h2, h3, h4, h5, h6⟩ := o
  have nb : ∀ {y : Nat} {k : LC}, K y = some k → y ≠ r := fun hx hxr => by rw [hxr, hr] at hx; cases hx
  refine ⟨sv, by rw [Lg.put_ne _ _ _ (nb h1)]; exact h1, by rw [Lg.put_ne _ _ _ (nb h2)]; exact h2, h3, by rw [Lg.put_ne _ _ _ (nb h2)]; exact h4, ?_, ?_⟩
  · rcases h5 with h5 | ⟨b, a1, a2, a3, a4, a5, a6⟩
    · exact .inl h5
    · exact .inr ⟨b, a1, by rw [Lg.put_ne _ _ _ (nb a2)]; exact a2, a3, a4, by rw [Lg.put_ne _ _ _ (nb a2)]; exact a5, a6⟩
  · intro y k hy hk
    rw [Lg.put_apply] at hk ⊢
    split
    · rename_i h9; rw [if_pos h9] at hk; exact hk
    · rename_i h9; rw [if_neg h9] at hk; exact h6 y k hy hk
/-- what is old may turn -/
theorem SOpen.putOld (o : SOpen L s σ t K) {r : Nat} {d : LC} (hr : r ≠ s) (hd : L r = some d) (d' : LC) : SOpen (L.put r d') s σ t (K.put r d') := by
  obtain ⟨sv, h1, h2, h3, h4, h5, h6⟩ := o
  have c2 : t ≠ r := by rintro rfl; rw [h4] at hd; cases hd
  refine ⟨sv, by rw [Lg.put_ne _ _ _ (Ne.symm hr)]; exact h1, by rw [Lg.put_ne _ _ _ c2]; exact h2, h3, by rw [Lg.put_ne _ _ _ c2]; exact h4, ?_, ?_⟩
  · rcases h5 with h5 | ⟨b, a1, a2, a3, a4, a5, a6⟩
    · exact .inl h5
    · have c3 : b ≠ r := by rintro rfl; rw [a5] at hd; cases hd
      exact .inr ⟨b, a1, by rw [Lg.put_ne _ _ _ c3]; exact a2, a3, a4, by rw [Lg.put_ne _ _ _ c3]; exact a5, a6⟩
  · intro y k hy hk
    rw [Lg.put_apply] at hk ⊢
    split
    · rename_i h9; rw [if_pos h9] at hk; exact hk
    · rename_i h9; rw [if_neg h9] at hk; exact h6 y k hy hk
theorem SOpen.sub (o : SOpen L0 s σ t K) (hs : ∀ r d, r ≠ s → L r = some d → L0 r = some d) : SOpen L s σ t K := by
  obtain ⟨sv, h1, h2, h3, h4, h5, h6⟩ := o
  have hn : ∀ r, r ≠ s → L0 r = none → L r = none := by
    intro r hr h0
    cases e : L r with
    | none => rfl
    | some d => rw [hs r d hr e] at h0; cases h0
  refine ⟨sv, h1, h2, h3, hn t h3 h4, ?_, fun r d hr hd => h6 r d hr (hs r d hr hd)⟩
  rcases h5 with h5 | ⟨b, a1, a2, a3, a4, a5, a6⟩
  · exact .inl h5
  · exact .inr ⟨b, a1, a2, a3, a4, hn b a3 a5, a6⟩
theorem SOpen.setX (o : SOpen L s σ t K) (x : Xs) : SOpen L s { σ with x := x } t (K.put t (.abs (TmP t x))) := by
  obtain ⟨sv, h1, h2, h3, h4, h5, h6⟩ := o
  refine ⟨sv, by rw [Lg.put_ne _ _ _ (Ne.symm h3)]; exact h1, Lg.put_same _ _ _, h3, h4, ?_, ?_⟩
  · rcases h5 with h5 | ⟨b, a1, a2, a3, a4, a5, a6⟩
    · exact .inl h5
    · exact .inr ⟨b, a1, by rw [Lg.put_ne _ _ _ a4]; exact a2, a3, a4, a5, a6⟩
  · intro r d hr hd
    have : r ≠ t := by rintro rfl; rw [h4] at hd; cases hd
    rw [Lg.put_ne _ _ _ this]; exact h6 r d hr hd
def Tms.has (σ : Tms) (id : Int) : Bool := decide (0 ≤ id) && decide (id < σ.ones.length)
theorem has_open (hf : H_timer_Set_has N F) (o : SOpen L s σ t K) (id : Int) : CallL F (N k_timer_Set_has) [.p (some (s, 0)), .i .i64 id] K fun v K' => v = .b (σ.has id) ∧ K' = K := by
  obtain ⟨sv, h1, h2, h3, h4, h5, h6⟩ := o
  apply r_timer_Set_has hf.code
  unfold D_timer_Set_has_1 Tms.has
  by_cases c1 : 0 ≤ id
  · rcases h5 with ⟨g1, rfl⟩ | ⟨b, rfl, a2, a3, a4, a5, a6⟩
    · have : ¬ id < 0 := by omega
      simp [c1, rdL, AB.read, look, h1, g1]
    · simp [c1, rdL, AB.read, look, h1]
  · simp [c1]
theorem Tms.has_nat {σ : Tms} {id : Int} (h : σ.has id = true) : ∃ i : Nat, id = (i : Int) ∧ i < σ.ones.length := by
  simp [Tms.has] at h
  obtain ⟨i, rfl⟩ := Int.eq_ofNat_of_zero_le h.1
  exact ⟨i, rfl, by omega⟩
def Tms.one (σ : Tms) (id : Int) : Option On := if σ.has id = true then σ.ones[id.toNat]? else none
end
end Go.AM


/- timer: arm, make. -/
set_option linter.unusedVariables false
set_option linter.unusedSimpArgs false
namespace Go.AM
variable {N : Nat → Nat} {F : Nat → Option AFn}

def Tms.armed (σ : Tms) (i : Nat) (w : On) (now d : Int) : Tms :=
  { σ with ones := σ.ones.set i { w with gen := w.gen + 1 }, x := (σ.x.arm i (clockAdd now (max d 0)) (if w.kind = 2 then min d 4611686018427387904 else 0)).1 }
section
variable {L K : Lg} {s t : Nat} {σ : Tms}
end
end Go.AM


/- timer: channel, Timer, Ticker, Func, Lapse, Stop, Reset. -/
set_option linter.unusedVariables false
set_option linter.unusedSimpArgs false
namespace Go.AM
variable {N : Nat → Nat} {F : Nat → Option AFn}

theorem CallL.opq {f : Nat} {vs : List AV} {L : Lg} {Q0 : AV → Lg → Prop} (h : ∀ Q : AV → Lg → Prop, (∀ v L, Q0 v L → Q v L) → CallL F f vs L Q) : CallL F f vs L Q0 := h Q0 fun _ _ h => h
def Ch.tm : Ch := ⟨[], 1, [], [], true, false, false⟩
def Lg.putC (L : Lg) (c : Option Nat) (x : Ch) : Lg := match c with
  | none => L
  | some c => L.put c (.abs (ChanP c x))
def Lg.hasC (L : Lg) (s : Nat) (c : Option Nat) (x : Ch) : Prop := ∀ a, c = some a → a ≠ s ∧ L a = some (.abs (ChanP a x))
section
variable {L K : Lg} {s t : Nat} {σ : Tms}
theorem on_get {id : Int} {o : On} (h : σ.one id = some o) : ∃ i : Nat, id = (i : Int) ∧ i < σ.ones.length ∧ σ.ones[i]? = some o ∧ σ.has id = true := by
  unfold Tms.one at h
  split at h
  · rename_i hh
    obtain ⟨i, rfl, hi⟩ := Tms.has_nat hh
    exact ⟨i, rfl, hi, by simpa using h, hh⟩
  · cases h
theorem one_none {id : Int} (h : σ.one id = none) : σ.has id = false := by
  unfold Tms.one at h
  cases hh : σ.has id
  · rfl
  · obtain ⟨i, rfl, hi⟩ := Tms.has_nat hh
    simp [hh] at h; omega
def Ch.left (x : Ch) : Bool := decide (0 < x.vals.length)
def Ch.dropped (x : Ch) : Ch := { x with vals := [] }
def dropsC (c : Option Nat) (x : Ch) : Bool := c.isSome && x.left
theorem dropC_spec (hf : H_chanq_Chan_Drop N F) {c : Option Nat} {x : Ch} (hx : x.timed = true) (h : L.hasC s c x) : CallL F (N k_chanq_Chan_Drop) [ptr c] L fun v L' => v = .b (dropsC c x) ∧ L' = L.putC c x.dropped := by
  cases c with
  | none => exact dropNil_spec hf
  | some c =>
    refine (drop_spec hf (h c rfl).2).mono ?_
    intro v L' h
    rw [if_pos hx] at h
    obtain ⟨rfl, rfl⟩ := h
    exact ⟨by simp [dropsC, Ch.left], rfl⟩
theorem stop_spec (hf : H_timer_Set_Stop N F) (e : L s = some (.abs (SetP s σ))) (hl : σ.x.l.length ≤ 1000000) (id : Int) {o : On} (ho : σ.one id = some o) {x : Ch} (hx : x.timed = true) (hc : L.hasC s o.c x) :
    CallL F (N k_timer_Set_Stop) [.p (some (s, 0)), .i .i64 id] L fun v L' => v = .tup [.b (dropsC o.c x || (findId id σ.x.l).isSome), .i .i64 0] ∧ L' = (L.put s (.abs (SetP s { σ with x := σ.x.stop id }))).putC o.c x.dropped := by
  refine CallL.opq ?_
  intro Q hQ
  obtain ⟨i, rfl, hi, hg, hh⟩ := on_get ho
  apply CallL.openS e
  intro t K op
  apply r_timer_Set_Stop hf.code
  unfold D_timer_Set_Stop_1
  refine (has_open hf.timer_Set_has op i).mono ?_
  rintro _ K0 ⟨rfl, rfl⟩
  have op' := op
  obtain ⟨sv, h1, h2, h3, h4, h5, h6⟩ := op'
  simp [hh, rdL, AB.read, look, h1]
  refine (xstop_spec hf.expire_Timers_Stop h2 hl i).mono ?_
  rintro _ K1 ⟨rfl, rfl⟩
  have o2 := op.setX (σ.x.stop i)
  rcases h5 with ⟨g1, rfl⟩ | ⟨b, rfl, a2, a3, a4, a5, a6⟩
  · rw [g1] at hi; simp at hi
  have ei : (i : Int) < (σ.ones.length : Int) := by omega
  have h9 := ocells_get σ.ones i 2 _ hg (by omega)
  simp [On.cells] at h9
  have hs2 : (K0.put t (.abs (TmP t (σ.x.stop i)))) s = some (.raw (.cells [.sl (some (b, 0)) σ.ones.length σ.ones.length 4, .p (some (t, 0)), .i .i64 σ.named])) := by rw [Lg.put_ne _ _ _ (Ne.symm h3)]; exact h1
  have hb2 : (K0.put t (.abs (TmP t (σ.x.stop i)))) b = some (.raw (.cells (ocells σ.ones))) := by rw [Lg.put_ne _ _ _ a4]; exact a2
  simp [rdL, AB.read, look, hs2, wp_iad _ _ _ 4 b 0 σ.ones.length σ.ones.length 4 .i64 (i : Int) (Int.natCast_nonneg _) ei, hb2, h9]
  have hsee : ∀ y, Sees ((K0.put t (.abs (TmP t (σ.x.stop i)))).putC o.c y) ((L.put s (.abs (SetP s { σ with x := σ.x.stop i }))).putC o.c y) := by
    intro y
    cases hoc : o.c with
    | none => exact o2.shut
    | some c =>
      have h8 := hc c hoc
      simp only [Lg.putC]
      rw [Lg.put_comm _ (Ne.symm h8.1)]
      exact (o2.putOld h8.1 h8.2 _).shut
  have hc2 : (K0.put t (.abs (TmP t (σ.x.stop i)))).hasC s o.c x := by
    intro c hoc
    have h8 := hc c hoc
    exact ⟨h8.1, o2.old h8.1 h8.2⟩
  refine (dropC_spec hf.chanq_Chan_Drop hx hc2).mono ?_
  rintro _ K2 ⟨rfl, rfl⟩
  cases hd : dropsC o.c x
  · simp
    exact ⟨_, hsee _, hQ _ _ ⟨by simp [hd], rfl⟩⟩
  · simp
    exact ⟨_, hsee _, hQ _ _ ⟨by simp [hd], rfl⟩⟩
theorem stop_none (hf : H_timer_Set_Stop N F) (e : L s = some (.abs (SetP s σ))) (id : Int) (ho : σ.one id = none) :
    CallL F (N k_timer_Set_Stop) [.p (some (s, 0)), .i .i64 id] L fun v L' => v = .tup [.b false, .i .i64 4] ∧ L' = L := by
  refine CallL.opq ?_
  intro Q hQ
  apply CallL.openS e
  intro t K op
  apply r_timer_Set_Stop hf.code
  unfold D_timer_Set_Stop_1
  refine (has_open hf.timer_Set_has op id).mono ?_
  rintro _ K0 ⟨rfl, rfl⟩
  simp [one_none ho]
  exact ⟨_, op.back e, hQ _ _ ⟨rfl, rfl⟩⟩
end
end Go.AM

