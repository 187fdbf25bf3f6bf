/- heap: put, up, down. -/
import Derived.Test.YtijhjfpiglaleaaLibHeapP
set_option linter.unusedVariables false
set_option linter.unusedSimpArgs false
namespace Go.AM
variable {N : Nat → Nat} {F : Nat → Option AFn}

def HSl (L : Lg) (h mb : Nat) (its : List It) (sv : AV) (K : Lg) : Prop :=
  (its = [] ∧ sv = .sl none 0 0 0) ∨ ∃ b cap sp, sv = .sl (some (b, 0)) its.length cap 3 ∧ K b = some (.raw (.cells (icells its ++ sp))) ∧ sp.length + its.length * 3 = cap * 3 ∧ b ≠ h ∧ b ≠ mb ∧ L b = none
/-- a heap, opened: its row, where each stands, and the count -/
def HOpen (L : Lg) (h : Nat) (its : List It) (mp : Int → Option Int) (seq : Int) (K : Lg) : Prop :=
  ∃ (sv : AV) (mb : Nat) (es : List (AV × AV)), K h = some (.raw (.cells [sv, .m (some mb), .i .i64 seq])) ∧ K mb = some (.raw (.map es)) ∧ MapI es mp ∧ mb ≠ h ∧ L mb = none ∧ HSl L h mb its sv K ∧
    ∀ r d, r ≠ h → L r = some d → K r = some d

section
variable {L K : Lg} {h : Nat} {its : List It} {mp : Int → Option Int} {seq : Int}
theorem HOpen.ext (ho : HOpen L h its mp seq K) {K' : Lg} (e : Ext2 K K') : HOpen L h its mp seq K' := by
  obtain ⟨sv, mb, es, h1, h2, h3, h4, h5, h6, h7⟩ := ho
  refine ⟨sv, mb, es, e _ _ h1, e _ _ h2, h3, h4, h5, ?_, fun r d hr hd => e _ _ (h7 r d hr hd)⟩
  rcases h6 with h6 | ⟨b, cap, sp, a1, a2, a3⟩
  · exact .inl h6
  · exact .inr ⟨b, cap, sp, a1, e _ _ a2, a3⟩
theorem HOpen.ne (ho : HOpen L h its mp seq K) {r : Nat} (hr : K r = none) : r ≠ h ∧ L r = none := by
  obtain ⟨sv, mb, es, h1, h2, h3, h4, h5, h6, h7⟩ := ho
  have n : r ≠ h := by rintro rfl; rw [h1] at hr; cases hr
  refine ⟨n, ?_⟩
  cases e : L r with
  | none => rfl
  | some d => rw [h7 r d n e] at hr; cases hr
theorem HOpen.onto (ho : HOpen L h its mp seq K) {r : Nat} (hr : K r = none) (d : LC) : HOpen (L.put r d) h its mp seq (K.put r d) := by
  obtain ⟨sv, mb, es, h1, h2, h3, h4, h5, h6, h7⟩ := ho
  have nb : ∀ {x : Nat} {k : LC}, K x = some k → x ≠ r := fun hx hxr => by rw [hxr, hr] at hx; cases hx
  refine ⟨sv, mb, es, by rw [Lg.put_ne _ _ _ (nb h1)]; exact h1, by rw [Lg.put_ne _ _ _ (nb h2)]; exact h2, h3, h4, by rw [Lg.put_ne _ _ _ (nb h2)]; exact h5, ?_, ?_⟩
  · rcases h6 with h6 | ⟨b, cap, sp, a1, a2, a3, a4, a5, a6⟩
    · exact .inl h6
    · exact .inr ⟨b, cap, sp, a1, by rw [Lg.put_ne _ _ _ (nb a2)]; exact a2, a3, a4, a5, by rw [Lg.put_ne _ _ _ (nb a2)]; exact a6⟩
  · intro x k hx hk
    rw [Lg.put_apply] at hk ⊢
    split
    · rename_i h9; rw [if_pos h9] at hk; exact hk
    · rename_i h9; rw [if_neg h9] at hk; exact h7 x k hx hk
theorem HOpen.weak {r : Nat} {d : LC} (ho : HOpen (L.put r d) h its mp seq K) (hr : L r = none) : HOpen L h its mp seq K := by
  obtain ⟨sv, mb, es, h1, h2, h3, h4, h5, h6, h7⟩ := ho
  have n1 : mb ≠ r := by rintro rfl; simp at h5
  rw [Lg.put_ne _ _ _ n1] at h5
  refine ⟨sv, mb, es, h1, h2, h3, h4, h5, ?_, ?_⟩
  · rcases h6 with h6 | ⟨b, cap, sp, a1, a2, a3, a4, a5, a6⟩
    · exact .inl h6
    · have n2 : b ≠ r := by rintro rfl; simp at a6
      rw [Lg.put_ne _ _ _ n2] at a6
      exact .inr ⟨b, cap, sp, a1, a2, a3, a4, a5, a6⟩
  · intro x k hx hk
    have : x ≠ r := by rintro rfl; rw [hr] at hk; cases hk
    exact h7 x k hx (by rw [Lg.put_ne _ _ _ this]; exact hk)
theorem HOpen.old (ho : HOpen L h its mp seq K) {r : Nat} {d : LC} (hr : r ≠ h) (hd : L r = some d) : K r = some d := by
  obtain ⟨sv, mb, es, h1, h2, h3, h4, h5, h6, h7⟩ := ho
  exact h7 r d hr hd

theorem hput_spec (hf : H_heap_Heap_put N F) (ho : HOpen L h its mp seq K) (i : Nat) (hi : i < its.length) (x : It) :
    CallL F (N k_heap_Heap_put) [.p (some (h, 0)), .i .i64 i, x.av] K fun v K' => v = .tup [] ∧ HOpen L h (its.set i x) (updI mp x.id (some (i : Int))) seq K' := by
  apply r_heap_Heap_put hf.code
  obtain ⟨sv, mb, es, h1, h2, h3, h4, h5, h6, h7⟩ := ho
  rcases h6 with ⟨rfl, _⟩ | ⟨b, cap, sp, rfl, a2, a3, a4, a5, a6⟩
  · simp at hi
  obtain ⟨es', hs, hM⟩ := h3.set x.id i
  unfold D_heap_Heap_put_1 It.av
  simp
  rw [newL_box_agg _ _ _ (by simp [It.cells])]
  intro r hr
  have nb : ∀ {y : Nat} {k : LC}, K y = some k → y ≠ r := fun hx hxr => by rw [hxr, hr] at hx; cases hx
  have n1 := nb h1
  have n2 := nb h2
  have n3 := nb a2
  have e1 : (i : Int) < (its.length : Int) := by omega
  have eb : ((K.put r (.raw (.cells x.cells))) b) = some (.raw (.cells (icells its ++ sp))) := by rw [Lg.put_ne _ _ _ n3]; exact a2
  have hlen : i * 3 + 3 ≤ (icells its ++ sp).length := by simp [icells_length]; omega
  have er : (K.put r (.raw (.cells x.cells))) r = some (.raw (.cells x.cells)) := Lg.put_same _ _ _
  simp [rdL, AB.read, look, Lg.put_apply, n1, Ne.symm n1, h1, cut, ble_nat]
  have el : 3 ≤ x.cells.length := by simp [It.cells]
  have et : List.take 3 x.cells = x.cells := by simp [It.cells]
  simp [el, et, wp_iad _ _ _ 3 b 0 its.length cap 3 .i64 (i : Int) (Int.natCast_nonneg _) e1]
  rw [stL_cells eb (by simp [It.cells]) (by simp [It.cells]) hlen]
  rw [icells_set its i x sp hi]
  simp [rdL, AB.read, look, Lg.put_apply, n1, Ne.symm n1, h1, a4, Ne.symm a4, Ne.symm n3, It.cells, msetW, n2, Ne.symm n2, a5, Ne.symm a5, h2, hs]
  refine ⟨_, Sees.refl _, .sl (some (b, 0)) its.length cap 3, mb, es', ?_, Lg.put_same _ _ _, hM, h4, h5, .inr ⟨b, cap, sp, by simp, ?_, by simpa using a3, a4, a5, a6⟩, ?_⟩
  · simp [Lg.put_apply, Ne.symm h4, Ne.symm a4, n1, h1]
  · simp [Lg.put_apply, a5]
  · intro y d hy hd
    have c1 : y ≠ r := by rintro rfl; rw [h7 y d hy hd] at hr; cases hr
    have c2 : y ≠ b := by rintro rfl; rw [a6] at hd; cases hd
    have c3 : y ≠ mb := by rintro rfl; rw [h5] at hd; cases hd
    simp [Lg.put_apply, c1, c2, c3, h7 y d hy hd]
theorem set_set_self (A : List It) (i : Nat) (y x : It) : (A.set i y).set i x = A.set i x := by simp
theorem set_gA {A : List It} {i : Nat} (hi : i < A.length) : A.set i (gA A i) = A := by
  apply List.ext_getElem?
  intro j
  rw [List.getElem?_set]
  by_cases hj : i = j
  · subst hj; simp [hi, gA]
  · simp [hj]
theorem hup_spec (hf : H_heap_Heap_up N F) {A : List It} (ho : HOpen L h A mp seq K) (i : Nat) (hi : i < A.length) (hn : A.length ≤ 1000000) (hc : ConsH A mp i) (he : Exx A i) :
    CallL F (N k_heap_Heap_up) [.p (some (h, 0)), .i .i64 i] K fun v K' => v = .tup [] ∧ ∃ A' mp', A'.Perm A ∧ HOpen L h A' mp' seq K' ∧ Cons A' mp' ∧ (Up A i → HeapA A') ∧ ∃ i', i' < A'.length ∧ gA A' i' = gA A i ∧ Dn A' i' := by
  apply r_heap_Heap_up hf.code
  generalize hQ : (fun (v : AV) (K' : Lg) => v = .tup [] ∧ ∃ A' mp', A'.Perm A ∧ HOpen L h A' mp' seq K' ∧ Cons A' mp' ∧ (Up A i → HeapA A') ∧ ∃ i', i' < A'.length ∧ gA A' i' = gA A i ∧ Dn A' i') = Q
  unfold D_heap_Heap_up_1
  have ho' := ho
  obtain ⟨sv, mb, es, h1, h2, h3, h4, h5, h6, h7⟩ := ho'
  rcases h6 with ⟨rfl, _⟩ | ⟨b, cap, sp, rfl, a2, a3, a4, a5, a6⟩
  · simp at hi
  have e1 : (i : Int) < (A.length : Int) := by omega
  have hat := icells_at A i (gA A i) sp (gA_get hi)
  have hat2 := hat.2
  rw [List.length_append] at hat2
  simp [rdL, AB.read, look, h1, wp_iad _ _ _ 3 b 0 A.length cap 3 .i64 (i : Int) (Int.natCast_nonneg _) e1, a2, cut, ble_nat, hat.1, hat2]
  intro x4 hx4
  rw [stL_cells (Lg.put_same _ _ _) (by simp [It.cells]) (by simp [It.cells]) (by simp), Lg.put_put, show splice [AV.i .i64 0, .i .i64 0, .i .i64 0] 0 (gA A i).cells = (gA A i).cells by simp [splice, It.cells]]
  have hne := ho.ne hx4
  obtain ⟨I, hI⟩ : ∃ I : Nat → Env → Lg → Prop, I = fun n l' K' => ∃ A' i' mp' y, A'.Perm A ∧ gA A' i' = gA A i ∧ i' < A'.length ∧ n = i' ∧ ConsH A' mp' i' ∧ (Up A' i' ∨ (A' = A ∧ i' = i)) ∧ (Up A i → Up A' i') ∧
    HOpen (L.put x4 (.raw (.cells (gA A i).cells))) h (A'.set i' y) mp' seq K' ∧ l' 0 = .p (some (h, 0)) ∧ l' 1 = .i .i64 i' ∧ l' 4 = .p (some (x4, 0)) := ⟨_, rfl⟩
  unfold D_heap_Heap_up_5
  refine loopW_intro I i ?_ ?_
  · rw [hI]
    refine ⟨A, i, mp, gA A i, List.Perm.refl _, rfl, hi, rfl, hc, .inr ⟨rfl, rfl⟩, id, ?_, by simp, by simp, by simp⟩
    rw [set_gA hi]
    exact ho.onto hx4 _
  · intro n l' t K' hinv
    rw [hI] at hinv
    obtain ⟨A', i', mp', y, p1, p2, p3, rfl, p5, p6, p7, p8, l0, l1, l4⟩ := hinv
    have plen := p1.length_eq
    unfold D_heap_Heap_up_6
    rw [l0, l1, l4]
    have k4 : K' x4 = some (.raw (.cells (gA A i).cells)) := p8.old hne.1 (Lg.put_same _ _ _)
    have hexx : Exx A' n := by
      rcases p6 with h8 | ⟨rfl, rfl⟩
      · exact ⟨fun j a b c d => h8.1 j a b c, h8.2⟩
      · exact he
    have fin : (n = 0 ∨ ¬ (gA A' n).lt (gA A' (par n))) → ∀ K2 : Lg, K2 = K' → D_heap_Heap_up_3 F N Q (.p (some (h, 0))) (.i .i64 n) (.p (some (x4, 0))) K2 := by
      rintro hcond K2 rfl
      unfold D_heap_Heap_up_3
      simp [rdL_cells k4 (show 0 + 3 ≤ (gA A i).cells.length by simp [It.cells])]
      have : AV.agg (List.take 3 (gA A i).cells) = (gA A i).av := by simp [It.cells, It.av]
      rw [this]
      refine (hput_spec hf.heap_Heap_put p8 n (by simpa using p3) (gA A i)).mono ?_
      rintro _ K3 ⟨rfl, ho3⟩
      rw [set_set_self, ← p2, set_gA p3] at ho3
      simp
      refine ⟨K3, Sees.refl _, ?_⟩
      subst hQ
      refine ⟨rfl, A', _, p1, ho3.weak hne.2, p5.fill p3, fun hu => (p7 hu).heap hcond, n, p3, p2, hexx.dn hcond⟩
    by_cases h0 : n = 0
    · subst h0
      simp
      exact fin (.inl rfl) _ rfl
    · have hpos : (0 : Int) < (n : Int) := by omega
      have hpos' : 0 < n := by omega
      obtain ⟨k, hk⟩ : ∃ k, k = n - 1 := ⟨_, rfl⟩
      have w1 : wr .i64 ((n : Int) - 1) = (k : Int) := by rw [wr_id (by omega) (by omega)]; omega
      obtain ⟨p, hp⟩ : ∃ p, p = par n := ⟨_, rfl⟩
      have hpk : p < n := by rw [hp]; exact par_lt (by omega)
      have w2 : wr .i64 ((k : Int).tdiv 4) = (p : Int) := by
        have e1 : (k : Int).tdiv 4 = ((k / 4 : Nat) : Int) := by rw [Int.ofNat_tdiv]; rfl
        have e2 : k / 4 = p := by rw [hp, hk]; rfl
        rw [e1, e2]
        exact wr_id (by omega) (by omega)
      have w3 : wr .i64 ((k : Int) / 4) = (p : Int) := by
        have e1 : (k : Int) / 4 = ((k / 4 : Nat) : Int) := rfl
        have e2 : k / 4 = p := by rw [hp, hk]; rfl
        rw [e1, e2]
        exact wr_id (by omega) (by omega)
      have hpl : p < A'.length := by omega
      have h40 : (4 : Int) ≠ 0 := by omega
      have p8' := p8
      obtain ⟨sv, mb, es, h1, h2, h3, h4, h5, h6, h7⟩ := p8'
      rcases h6 with ⟨h6, _⟩ | ⟨b, cap, sp, rfl, a2, a3, a4, a5, a6⟩
      · exfalso; have := congrArg List.length h6; rw [List.length_set, List.length_nil] at this; omega
      have e2 : (p : Int) < ((A'.set n y).length : Int) := by simp; omega
      have hat := icells_at (A'.set n y) p (gA A' p) sp (by rw [List.getElem?_set_ne (by omega)]; exact gA_get hpl)
      have hat2 := hat.2
      rw [List.length_append] at hat2
      rw [List.length_set] at h1 e2
      have et : AV.agg (List.take 3 (gA A i).cells) = (gA A i).av := by simp [It.cells, It.av]
      have et2 : AV.agg (gA A' p).cells = (gA A' p).av := rfl
      have el : 3 ≤ (gA A i).cells.length := by simp [It.cells]
      simp [hpos, hpos', rdL, AB.read, look, k4, h1, wp_quo _ _ _ _ _ _ h40, w2, w3, w1, wp_iad _ _ _ 3 b 0 A'.length cap 3 .i64 (p : Int) (Int.natCast_nonneg _) e2, a2, cut, ble_nat, hat.1, hat2, et, et2, el]
      refine (ahead_spec hf.heap_ahead (gA A i) (gA A' p)).mono ?_
      rintro _ K1 ⟨rfl, rfl⟩
      simp [hpos, hpos', It.cmp_neg]
      refine ⟨fun hlt => ?_, fun hlt => ?_⟩
      · simp [rdL, AB.read, look, h1, wp_quo _ _ _ _ _ _ h40, w2, w3, w1, wp_iad _ _ _ 3 b 0 A'.length cap 3 .i64 (p : Int) (Int.natCast_nonneg _) e2, a2, cut, ble_nat, hat.1, hat2, et2]
        refine (hput_spec hf.heap_Heap_put p8 n (by simpa using p3) (gA A' p)).mono ?_
        rintro _ K3 ⟨rfl, ho3⟩
        rw [set_set_self] at ho3
        simp [wp_quo _ _ _ _ _ _ h40, w2, w3, w1]
        refine ⟨p, hpk, ?_⟩
        rw [hI]
        have hltp : (gA A' n).lt (gA A' (par n)) := by rw [p2, ← hp]; exact hlt
        have hup : Up A' n := by
          rcases p6 with h8 | ⟨rfl, rfl⟩
          · exact h8
          · exact he.up hpos' hltp
        have hst := hup.step hpos' p3 hltp
        rw [← hp] at hst
        refine ⟨swap A' n p, p, _, gA A' p, (swap_perm p3 hpl).trans p1, ?_, by rw [swap_length]; exact hpl, rfl, p5.step p3 hpl (by omega), .inl hst, fun _ => hst, ?_, by simp [l0], by simp, by simp [l4]⟩
        · rw [gA_swap p3 hpl, if_pos rfl, p2]
        · have : (swap A' n p).set p (gA A' p) = A'.set n (gA A' p) := by
            unfold swap
            rw [set_set_self]
            apply List.ext_getElem?
            intro j
            rw [List.getElem?_set]
            by_cases hj : p = j
            · subst hj
              simp [hpl, List.getElem?_set, gA]
              rw [List.getElem_set_ne (by omega)]
            · simp [hj]
          rw [this]
          exact ho3
      · refine fin (.inr ?_) _ rfl
        rw [p2, ← hp]; exact hlt
theorem hdown_spec (hf : H_heap_Heap_down N F) {A : List It} (ho : HOpen L h A mp seq K) (i : Nat) (hi : i < A.length) (hn : A.length ≤ 1000000) (hc : Cons A mp) (he : Dn A i) :
    CallL F (N k_heap_Heap_down) [.p (some (h, 0)), .i .i64 i] K fun v K' => v = .tup [] ∧ ∃ A' mp', A'.Perm A ∧ HOpen L h A' mp' seq K' ∧ Cons A' mp' ∧ HeapA A' := by
  apply r_heap_Heap_down hf.code
  generalize hQ : (fun (v : AV) (K' : Lg) => v = .tup [] ∧ ∃ A' mp', A'.Perm A ∧ HOpen L h A' mp' seq K' ∧ Cons A' mp' ∧ HeapA A') = Q
  unfold D_heap_Heap_down_1
  have ho' := ho
  obtain ⟨sv, mb, es, h1, h2, h3, h4, h5, h6, h7⟩ := ho'
  rcases h6 with ⟨rfl, _⟩ | ⟨b, cap, sp, rfl, a2, a3, a4, a5, a6⟩
  · simp at hi
  have e1 : (i : Int) < (A.length : Int) := by omega
  have hat := icells_at A i (gA A i) sp (gA_get hi)
  have hat2 := hat.2
  rw [List.length_append] at hat2
  simp [rdL, AB.read, look, h1, wp_iad _ _ _ 3 b 0 A.length cap 3 .i64 (i : Int) (Int.natCast_nonneg _) e1, a2, cut, ble_nat, hat.1, hat2]
  intro x4 hx4
  rw [stL_cells (Lg.put_same _ _ _) (by simp [It.cells]) (by simp [It.cells]) (by simp), Lg.put_put, show splice [AV.i .i64 0, .i .i64 0, .i .i64 0] 0 (gA A i).cells = (gA A i).cells by simp [splice, It.cells]]
  have hne := ho.ne hx4
  obtain ⟨I, hI⟩ : ∃ I : Nat → Env → Lg → Prop, I = fun n l' K' => ∃ A' i' mp' y, A'.Perm A ∧ gA A' i' = gA A i ∧ i' < A'.length ∧ n = A'.length - i' ∧ ConsH A' mp' i' ∧ Dn A' i' ∧
    HOpen (L.put x4 (.raw (.cells (gA A i).cells))) h (A'.set i' y) mp' seq K' ∧ l' 0 = .p (some (h, 0)) ∧ l' 1 = .i .i64 i' ∧ l' 4 = .p (some (x4, 0)) := ⟨_, rfl⟩
  unfold D_heap_Heap_down_5
  clear h1 h2 h3 h4 h5 h7 a2 a3 a4 a5 a6 hat hat2 e1
  refine loopW_intro I (A.length - i) ?_ ?_
  · rw [hI]
    refine ⟨A, i, mp, gA A i, List.Perm.refl _, rfl, hi, rfl, hc.hole i, he, ?_, by simp, by simp, by simp⟩
    rw [set_gA hi]
    exact ho.onto hx4 _
  · intro n l' t K' hinv
    rw [hI] at hinv
    obtain ⟨A', i', mp', y, p1, p2, p3, hn', p5, p6, p8, l0, l1, l4⟩ := hinv
    have plen := p1.length_eq
    have k4 : K' x4 = some (.raw (.cells (gA A i).cells)) := p8.old hne.1 (Lg.put_same _ _ _)
    have fin : (∀ j, 0 < j → j < A'.length → par j = i' → ¬ (gA A' j).lt (gA A' i')) → D_heap_Heap_down_3 F N Q (.p (some (h, 0))) (.i .i64 i') (.p (some (x4, 0))) K' := by
      intro hcond
      unfold D_heap_Heap_down_3
      simp [rdL_cells k4 (show 0 + 3 ≤ (gA A i).cells.length by simp [It.cells])]
      have : AV.agg (List.take 3 (gA A i).cells) = (gA A i).av := by simp [It.cells, It.av]
      rw [this]
      refine (hput_spec hf.heap_Heap_put p8 i' (by simpa using p3) (gA A i)).mono ?_
      rintro _ K3 ⟨rfl, ho3⟩
      rw [set_set_self, ← p2, set_gA p3] at ho3
      simp
      refine ⟨K3, Sees.refl _, ?_⟩
      subst hQ
      exact ⟨rfl, A', _, p1, ho3.weak hne.2, p5.fill p3, p6.heap hcond⟩
    have p8' := p8
    obtain ⟨sv, mb, es, h1, h2, h3, h4, h5, h6, h7⟩ := p8'
    rcases h6 with ⟨h6, _⟩ | ⟨b, cap, sp, rfl, a2, a3, a4, a5, a6⟩
    · exfalso; have := congrArg List.length h6; rw [List.length_set, List.length_nil] at this; omega
    rw [List.length_set] at h1 a3
    obtain ⟨fst, hfst⟩ : ∃ fst, fst = 4 * i' + 1 := ⟨_, rfl⟩
    have w1 : wr .i64 (4 * (i' : Int)) = 4 * (i' : Int) := wr_id (by omega) (by omega)
    have w2 : wr .i64 (4 * (i' : Int) + 1) = (fst : Int) := by rw [wr_id (by omega) (by omega)]; omega
    have rdel : ∀ j, j < A'.length → j ≠ i' → List.take 3 (List.drop (j * 3) (icells (A'.set i' y) ++ sp)) = (gA A' j).cells ∧ j * 3 + 3 ≤ (icells (A'.set i' y)).length + sp.length := by
      intro j hj hji
      have := icells_at (A'.set i' y) j (gA A' j) sp (by rw [List.getElem?_set_ne (Ne.symm hji)]; exact gA_get hj)
      rw [List.length_append] at this
      exact this
    have kids : ∀ j, 0 < j → (par j = i' ↔ fst ≤ j ∧ j < fst + 4) := by intro j hj; unfold par; omega
    unfold D_heap_Heap_down_7 D_heap_Heap_down_8
    rw [l1]
    simp [w1, w2, l0, l1, l4, rdL, AB.read, look, h1]
    refine ⟨fun hge => ?_, fun hlt => ?_⟩
    · refine fin fun j h0 hj hpj => ?_
      have := (kids j h0).1 hpj
      omega
    · have hlt' : fst < A'.length := by omega
      unfold D_heap_Heap_down_9 D_heap_Heap_down_12
      have w3 : wr .i64 ((fst : Int) + 1) = ((fst + 1 : Nat) : Int) := by rw [wr_id (by omega) (by omega)]; omega
      simp
      rw [w3]
      unfold D_heap_Heap_down_14
      obtain ⟨J, hJ⟩ : ∃ J : Nat → Env → Lg → Prop, J = fun m l'' K'' => ∃ ls k : Nat, fst ≤ ls ∧ ls < k ∧ k ≤ fst + 4 ∧ k ≤ A'.length ∧ m = fst + 4 - k ∧ (∀ j, fst ≤ j → j < k → ¬ (gA A' j).lt (gA A' ls)) ∧ K'' = K' ∧
        l'' 0 = .p (some (h, 0)) ∧ l'' 1 = .i .i64 i' ∧ l'' 4 = .p (some (x4, 0)) ∧ l'' 5 = .i .i64 fst ∧ l'' 6 = .i .i64 ls ∧ l'' 7 = .i .i64 k := ⟨_, rfl⟩
      refine loopW_intro J 3 ?_ ?_
      · rw [hJ]
        refine ⟨fst, fst + 1, by omega, by omega, by omega, by omega, by omega, ?_, rfl, by simp [l0], by simp [l1], by simp [l4], by simp, by simp, by simp⟩
        intro j h1 h2
        have : j = fst := by omega
        subst this; exact It.lt_irrefl _
      · intro m l'' t'' K'' hj
        rw [hJ] at hj
        obtain ⟨ls, k, c1, c2, c3, c4, rfl, c6, rfl, d0, d1, d4, d5, d6, d7⟩ := hj
        have w4 : wr .i64 ((fst : Int) + 4) = (fst : Int) + 4 := wr_id (by omega) (by omega)
        have hlsl : ls < A'.length := by omega
        have els : (ls : Int) < (A'.length : Int) := by omega
        have rls := rdel ls hlsl (by omega)
        have etl : AV.agg (gA A' ls).cells = (gA A' ls).av := rfl
        unfold D_heap_Heap_down_15
        rw [d0, d5, d6, d7]
        have w5 : wr .i64 ((k : Int) + 1) = ((k + 1 : Nat) : Int) := by rw [wr_id (by omega) (by omega)]; omega
        by_cases hk : k < fst + 4 ∧ k < A'.length
        · have hk1 : (k : Int) < (fst : Int) + 4 ∧ (k : Int) < (A'.length : Int) := by omega
          have hk2 : (k : Int) < min ((fst : Int) + 4) (A'.length : Int) := by omega
          have rk := rdel k hk.2 (by omega)
          have etk : AV.agg (gA A' k).cells = (gA A' k).av := rfl
          simp [w4, rdL, AB.read, look, h1, hk1, hk.2, wp_iad _ _ _ 3 b 0 A'.length cap 3 .i64 (k : Int) (Int.natCast_nonneg _) hk1.2, wp_iad _ _ _ 3 b 0 A'.length cap 3 .i64 (ls : Int) (Int.natCast_nonneg _) els, a2, cut, ble_nat, rk.1, rk.2, rls.1, rls.2, etk, etl]
          refine ⟨fun _ => ?_, fun hx => by omega⟩
          refine (ahead_spec hf.heap_ahead (gA A' k) (gA A' ls)).mono ?_
          rintro _ K1 ⟨rfl, rfl⟩
          simp [It.cmp_neg]
          refine ⟨fun hl => ?_, fun hl => ?_⟩
          · refine ⟨fst + 4 - (k + 1), by omega, ?_⟩
            rw [hJ]
            refine ⟨k, k + 1, by omega, by omega, by omega, by omega, rfl, ?_, rfl, by simp [d0], by simp [d1], by simp [d4], by simp [d5], by simp, by simp [w5]⟩
            intro j j1 j2
            by_cases hjk : j = k
            · subst hjk; exact It.lt_irrefl _
            · exact fun h9 => c6 j j1 (by omega) (It.lt_trans h9 hl)
          · refine ⟨fst + 4 - (k + 1), by omega, ?_⟩
            rw [hJ]
            refine ⟨ls, k + 1, by omega, by omega, by omega, by omega, rfl, ?_, rfl, by simp [d0], by simp [d1], by simp [d4], by simp [d5], by simp [d6], by simp [w5]⟩
            intro j j1 j2
            by_cases hjk : j = k
            · subst hjk; exact hl
            · exact c6 j j1 (by omega)
        · have hk2 : ¬ ((k : Int) < min ((fst : Int) + 4) (A'.length : Int)) := by omega
          have hmin : ∀ j, 0 < j → j < A'.length → par j = i' → ¬ (gA A' j).lt (gA A' ls) := by
            intro j h0 hj hpj
            have := (kids j h0).1 hpj
            exact c6 j this.1 (by omega)
          have etx : AV.agg (List.take 3 (gA A i).cells) = (gA A i).av := by simp [It.cells, It.av]
          have elx : 3 ≤ (gA A i).cells.length := by simp [It.cells]
          have hk3 : (k : Int) < (fst : Int) + 4 → (A'.length : Int) ≤ (k : Int) := by omega
          have hk4 : ¬ ((k : Int) < (fst : Int) + 4 ∧ (k : Int) < (A'.length : Int)) := by omega
          simp [w4, rdL, AB.read, look, h1]
          refine ⟨fun hx1 => by omega, fun _ => ?_⟩
          unfold D_heap_Heap_down_11
          rw [d0, d1, d4, d6]
          simp [rdL, AB.read, look, h1, k4, wp_iad _ _ _ 3 b 0 A'.length cap 3 .i64 (ls : Int) (Int.natCast_nonneg _) els, a2, cut, ble_nat, rls.1, rls.2, etl, etx, elx]
          refine (ahead_spec hf.heap_ahead (gA A i) (gA A' ls)).mono ?_
          rintro _ K1 ⟨rfl, rfl⟩
          simp [It.cmp_neg]
          refine ⟨fun hl => ?_, fun hl => ?_⟩
          · refine fin fun j h0 hj hpj => ?_
            have := hmin j h0 hj hpj
            rw [p2]
            exact fun h9 => this (It.lt_trans h9 hl)
          · simp [rdL, AB.read, look, h1, wp_iad _ _ _ 3 b 0 A'.length cap 3 .i64 (ls : Int) (Int.natCast_nonneg _) els, a2, cut, ble_nat, rls.1, rls.2, etl]
            refine (hput_spec hf.heap_Heap_put p8 i' (by simpa using p3) (gA A' ls)).mono ?_
            rintro _ K3 ⟨rfl, ho3⟩
            rw [set_set_self] at ho3
            have hls0 : 0 < ls := by omega
            have hpls : par ls = i' := (kids ls hls0).2 ⟨c1, by omega⟩
            have hst := p6.step hls0 hlsl hpls hmin (by rw [p2]; exact hl)
            refine ⟨A'.length - ls, by omega, ?_⟩
            rw [hI]
            refine ⟨swap A' i' ls, ls, _, gA A' ls, (swap_perm p3 hlsl).trans p1, ?_, by rw [swap_length]; exact hlsl, by rw [swap_length], p5.step p3 hlsl (by omega), hst, ?_, by simp [d0], by simp, by simp [d4]⟩
            · rw [gA_swap p3 hlsl, if_pos rfl, p2]
            · have : (swap A' i' ls).set ls (gA A' ls) = A'.set i' (gA A' ls) := by
                unfold swap
                rw [set_set_self]
                apply List.ext_getElem?
                intro j
                rw [List.getElem?_set]
                by_cases hj : ls = j
                · subst hj
                  simp [hlsl, List.getElem?_set, gA]
                  rw [List.getElem_set_ne (by omega)]
                · simp [hj]
              rw [this]
              exact ho3
end
end Go.AM
