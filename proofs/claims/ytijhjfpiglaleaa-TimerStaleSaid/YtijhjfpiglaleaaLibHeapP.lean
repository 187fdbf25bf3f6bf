/- heap: rows that are heaps; in plain Lean. -/
import Derived.Test.YtijhjfpiglaleaaLibHeapA
set_option linter.unusedVariables false
set_option linter.unusedSimpArgs false
namespace Go.AM

def par (i : Nat) : Nat := (i - 1) / 4
def gA (A : List It) (j : Nat) : It := A.getD j It.zero
theorem par_lt {j : Nat} (h : 0 < j) : par j < j := by unfold par; omega
theorem gA_get {A : List It} {j : Nat} (h : j < A.length) : A[j]? = some (gA A j) := by simp [gA, h]
theorem gA_set {A : List It} {i j : Nat} {x : It} (h : i < A.length) : gA (A.set i x) j = if i = j then x else gA A j := by
  unfold gA
  simp only [List.getD_eq_getElem?_getD, List.getElem?_set]
  by_cases hij : i = j
  · subst hij; simp [h]
  · simp [hij]
/-- all edges but those at i -/
def Exx (A : List It) (i : Nat) : Prop := (∀ j, 0 < j → j < A.length → j ≠ i → par j ≠ i → ¬ (gA A j).lt (gA A (par j))) ∧ ∀ j, 0 < j → j < A.length → par j = i → 0 < i → ¬ (gA A j).lt (gA A (par i))
/-- all edges but the one above i -/
def Up (A : List It) (i : Nat) : Prop := (∀ j, 0 < j → j < A.length → j ≠ i → ¬ (gA A j).lt (gA A (par j))) ∧ ∀ j, 0 < j → j < A.length → par j = i → 0 < i → ¬ (gA A j).lt (gA A (par i))
/-- all edges but those below i -/
def Dn (A : List It) (i : Nat) : Prop := (∀ j, 0 < j → j < A.length → par j ≠ i → ¬ (gA A j).lt (gA A (par j))) ∧ ∀ j, 0 < j → j < A.length → par j = i → 0 < i → ¬ (gA A j).lt (gA A (par i))
def HeapA (A : List It) : Prop := ∀ j, 0 < j → j < A.length → ¬ (gA A j).lt (gA A (par j))
def swap (A : List It) (i p : Nat) : List It := (A.set i (gA A p)).set p (gA A i)
theorem swap_length (A : List It) (i p : Nat) : (swap A i p).length = A.length := by simp [swap]
theorem gA_swap {A : List It} {i p : Nat} (hi : i < A.length) (hp : p < A.length) (j : Nat) : gA (swap A i p) j = if p = j then gA A i else if i = j then gA A p else gA A j := by
  unfold swap
  rw [gA_set (by simpa using hp), gA_set hi]
theorem Exx.up {A : List It} {i : Nat} (h : Exx A i) (hi : 0 < i) (hl : (gA A i).lt (gA A (par i))) : Up A i := by
  refine ⟨fun j h0 hj hji => ?_, h.2⟩
  by_cases hp : par j = i
  · rw [hp]
    have := h.2 j h0 hj hp hi
    exact fun h3 => this (It.lt_trans h3 hl)
  · exact h.1 j h0 hj hji hp
theorem Up.step {A : List It} {i : Nat} (h : Up A i) (hi : 0 < i) (hn : i < A.length) (hl : (gA A i).lt (gA A (par i))) : Up (swap A i (par i)) (par i) := by
  have hp : par i < i := par_lt hi
  have hpn : par i < A.length := by omega
  refine ⟨fun j h0 hj hji => ?_, fun j h0 hj hpj hp0 => ?_⟩
  · rw [swap_length] at hj
    rw [gA_swap hn hpn, gA_swap hn hpn]
    rw [if_neg (Ne.symm hji)]
    by_cases h1 : i = j
    · subst h1
      simp only [if_true]
      exact It.lt_asymm hl
    · rw [if_neg h1]
      by_cases h2 : par i = par j
      · rw [if_pos h2]
        have := h.1 j h0 hj (Ne.symm h1)
        rw [← h2] at this
        exact fun h3 => this (It.lt_trans h3 hl)
      · rw [if_neg h2]
        by_cases h3 : i = par j
        · rw [if_pos h3]
          exact h.2 j h0 hj h3.symm hi
        · rw [if_neg h3]
          exact h.1 j h0 hj (Ne.symm h1)
  · rw [swap_length] at hj
    have hpp : par (par i) < par i := par_lt hp0
    have hjp : j ≠ par i := by rintro rfl; omega
    rw [gA_swap hn hpn, gA_swap hn hpn, if_neg (Ne.symm hjp)]
    rw [if_neg (show par i ≠ par (par i) by omega), if_neg (show i ≠ par (par i) by omega)]
    have hb := h.1 (par i) hp0 hpn (by omega)
    by_cases h1 : i = j
    · rw [if_pos h1]; exact hb
    · rw [if_neg h1]
      have := h.1 j h0 hj (Ne.symm h1)
      rw [hpj] at this
      exact It.ge_trans this hb
theorem Up.heap {A : List It} {i : Nat} (h : Up A i) (hi : i = 0 ∨ ¬ (gA A i).lt (gA A (par i))) : HeapA A := by
  intro j h0 hj
  by_cases h1 : j = i
  · subst h1
    rcases hi with h2 | h2
    · omega
    · exact h2
  · exact h.1 j h0 hj h1
theorem Exx.dn {A : List It} {i : Nat} (h : Exx A i) (hi : i = 0 ∨ ¬ (gA A i).lt (gA A (par i))) : Dn A i := by
  refine ⟨fun j h0 hj hp => ?_, h.2⟩
  by_cases h1 : j = i
  · subst h1
    rcases hi with h2 | h2
    · omega
    · exact h2
  · exact h.1 j h0 hj h1 hp
theorem HeapA.dn {A : List It} (h : HeapA A) (i : Nat) (hn : i < A.length) : Dn A i := by
  refine ⟨fun j h0 hj _ => h j h0 hj, fun j h0 hj hp hi => ?_⟩
  have h1 := h j h0 hj
  rw [hp] at h1
  exact It.ge_trans h1 (h i hi hn)
theorem Dn.step {A : List It} {i m : Nat} (h : Dn A i) (hm0 : 0 < m) (hm : m < A.length) (hpm : par m = i) (hmin : ∀ j, 0 < j → j < A.length → par j = i → ¬ (gA A j).lt (gA A m)) (hx : ¬ (gA A i).lt (gA A m)) : Dn (swap A i m) m := by
  have him : i < m := by rw [← hpm]; exact par_lt hm0
  have hn : i < A.length := by omega
  refine ⟨fun j h0 hj hp => ?_, fun j h0 hj hp _ => ?_⟩
  · rw [swap_length] at hj
    rw [gA_swap hn hm, gA_swap hn hm, if_neg (Ne.symm hp)]
    by_cases h1 : m = j
    · subst h1; rw [if_pos rfl, hpm, if_pos rfl]; exact hx
    · rw [if_neg h1]
      by_cases h2 : i = j
      · subst h2
        rw [if_pos rfl, if_neg (show i ≠ par i by have := par_lt h0; omega)]
        exact h.2 m hm0 hm hpm h0
      · rw [if_neg h2]
        by_cases h3 : i = par j
        · rw [if_pos h3]; exact hmin j h0 hj h3.symm
        · rw [if_neg h3]; exact h.1 j h0 hj (Ne.symm h3)
  · rw [swap_length] at hj
    have hjm : j ≠ m := by rintro rfl; have := par_lt h0; omega
    have hji : j ≠ i := by rintro rfl; have := par_lt h0; omega
    rw [gA_swap hn hm, gA_swap hn hm, if_neg (Ne.symm hjm), if_neg (Ne.symm hji), hpm, if_neg (show m ≠ i by omega), if_pos rfl]
    have := h.1 j h0 hj (by omega)
    rw [hp] at this
    exact this
theorem Dn.heap {A : List It} {i : Nat} (h : Dn A i) (hc : ∀ j, 0 < j → j < A.length → par j = i → ¬ (gA A j).lt (gA A i)) : HeapA A := by
  intro j h0 hj
  by_cases h1 : par j = i
  · rw [h1]; exact hc j h0 hj h1
  · exact h.1 j h0 hj h1
theorem HeapA.root {A : List It} (h : HeapA A) : ∀ j, j < A.length → ¬ (gA A j).lt (gA A 0) := by
  intro j
  induction j using Nat.strongRecOn with
  | ind j ih =>
    intro hj
    by_cases h0 : j = 0
    · subst h0; exact It.lt_irrefl _
    · have := par_lt (show 0 < j by omega)
      exact It.ge_trans (h j (by omega) hj) (ih _ this (by omega))
theorem swap_perm {A : List It} {i p : Nat} (hi : i < A.length) (hp : p < A.length) : (swap A i p).Perm A := by
  by_cases h : i = p
  · subst h
    have : swap A i i = A := by
      apply List.ext_getElem?
      intro j
      simp only [swap, List.getElem?_set, List.length_set]
      by_cases hj : i = j
      · subst hj; simp [hi, gA]
      · simp [hj]
    rw [this]
  · unfold swap
    have h1 : gA A p = A[p] := by simp [gA, hp]
    have h2 : gA A i = A[i] := by simp [gA, hi]
    rw [h1, h2]
    exact List.set_set_perm hi hp

/-! ### who stands where -/
def Ids (A : List It) : Prop := ∀ j k, j < A.length → k < A.length → (gA A j).id = (gA A k).id → j = k
def Cons (A : List It) (mp : Int → Option Int) : Prop := Ids A ∧ (∀ j, j < A.length → mp (gA A j).id = some (j : Int)) ∧ ∀ k v, mp k = some v → ∃ j, j < A.length ∧ v = (j : Int) ∧ (gA A j).id = k
def ConsH (A : List It) (mp : Int → Option Int) (i : Nat) : Prop := Ids A ∧ (∀ j, j < A.length → j ≠ i → mp (gA A j).id = some (j : Int)) ∧ ∀ k v, mp k = some v → k = (gA A i).id ∨ ∃ j, j < A.length ∧ j ≠ i ∧ v = (j : Int) ∧ (gA A j).id = k
theorem ConsH.fill {A : List It} {mp : Int → Option Int} {i : Nat} (h : ConsH A mp i) (hi : i < A.length) : Cons A (updI mp (gA A i).id (some (i : Int))) := by
  refine ⟨h.1, fun j hj => ?_, fun k v hk => ?_⟩
  · unfold updI
    by_cases h1 : (gA A i).id = (gA A j).id
    · have := h.1 i j hi hj h1; subst this; simp
    · rw [if_neg h1]; exact h.2.1 j hj (fun e => h1 (by rw [e]))
  · unfold updI at hk
    by_cases h1 : (gA A i).id = k
    · rw [if_pos h1] at hk; cases hk; exact ⟨i, hi, rfl, h1⟩
    · rw [if_neg h1] at hk
      rcases h.2.2 k v hk with h2 | ⟨j, h2, _, h3, h4⟩
      · exact absurd h2.symm h1
      · exact ⟨j, h2, h3, h4⟩
theorem Cons.hole {A : List It} {mp : Int → Option Int} (h : Cons A mp) (i : Nat) : ConsH A mp i := by
  refine ⟨h.1, fun j hj _ => h.2.1 j hj, fun k v hk => ?_⟩
  obtain ⟨j, h2, h3, h4⟩ := h.2.2 k v hk
  by_cases h5 : j = i
  · subst h5; exact .inl h4.symm
  · exact .inr ⟨j, h2, h5, h3, h4⟩
theorem Ids.swap {A : List It} (h : Ids A) {i p : Nat} (hi : i < A.length) (hp : p < A.length) : Ids (swap A i p) := by
  have key : ∀ j, gA (Go.AM.swap A i p) j = gA A (if p = j then i else if i = j then p else j) := by
    intro j
    rw [gA_swap hi hp]
    split
    · rfl
    · split <;> rfl
  intro j k hj hk
  rw [swap_length] at hj hk
  rw [key, key]
  intro e
  have := h _ _ (by split; exact hi; split; exact hp; exact hj) (by split; exact hi; split; exact hp; exact hk) e
  split at this <;> split at this <;> (try split at this) <;> (try split at this) <;> omega
theorem ConsH.step {A : List It} {mp : Int → Option Int} {i p : Nat} (h : ConsH A mp i) (hi : i < A.length) (hp : p < A.length) (hne : p ≠ i) : ConsH (swap A i p) (updI mp (gA A p).id (some (i : Int))) p := by
  refine ⟨h.1.swap hi hp, fun j hj hjp => ?_, fun k v hk => ?_⟩
  · rw [swap_length] at hj
    rw [gA_swap hi hp, if_neg (Ne.symm hjp)]
    unfold updI
    by_cases h1 : i = j
    · subst h1; simp
    · rw [if_neg h1]
      have h2 : (gA A p).id ≠ (gA A j).id := fun e => hjp (h.1 p j hp hj e).symm
      rw [if_neg h2]
      exact h.2.1 j hj (Ne.symm h1)
  · unfold updI at hk
    rw [gA_swap hi hp, if_pos rfl]
    by_cases h1 : (gA A p).id = k
    · rw [if_pos h1] at hk; cases hk
      refine .inr ⟨i, by rw [swap_length]; exact hi, Ne.symm hne, rfl, ?_⟩
      rw [gA_swap hi hp, if_neg hne, if_pos rfl]; exact h1
    · rw [if_neg h1] at hk
      rcases h.2.2 k v hk with h2 | ⟨j, h2, h3, h4, h5⟩
      · exact .inl h2
      · have hjp : j ≠ p := by rintro rfl; exact h1 h5
        refine .inr ⟨j, by rw [swap_length]; exact h2, hjp, h4, ?_⟩
        rw [gA_swap hi hp, if_neg (Ne.symm hjp), if_neg (Ne.symm h3)]; exact h5
end Go.AM
