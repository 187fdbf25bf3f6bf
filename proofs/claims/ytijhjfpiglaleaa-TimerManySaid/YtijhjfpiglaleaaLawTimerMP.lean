/- many timers; in plain Lean. -/
import Derived.Test.YtijhjfpiglaleaaLawTimerP
set_option linter.unusedVariables false
set_option linter.unusedSimpArgs false
namespace Go.AM
def kOf (ds : List Int) (j : Nat) : Int := ds.getD j 0 % 100
def itm (ds : List Int) (j : Nat) : It := ⟨j, 10 + kOf ds j, j + 1⟩
theorem kOf_b (ds : List Int) (j : Nat) : 0 ≤ kOf ds j ∧ kOf ds j < 100 := ⟨Int.emod_nonneg _ (by omega), Int.emod_lt_of_pos _ (by omega)⟩
/-- so many are made -/
structure Mny (ds : List Int) (i : Nat) (σ : Tms) : Prop where
  len : σ.ones.length = i
  ones : ∀ j, j < i → σ.ones[j]? = some ⟨3, j, none, 1⟩
  named : σ.named = i
  sorted : σ.x.l.Pairwise It.lt
  perm : σ.x.l.Perm ((List.range i).map (itm ds))
  seq : σ.x.seq = i
  pf : ∀ j : Nat, j < i → σ.x.pf j = some 0
theorem Mny.nil (ds : List Int) : Mny ds 0 Tms.nil := ⟨rfl, by intro j h; omega, rfl, by simp [Tms.nil], by simp [Tms.nil], rfl, by intro j h; omega⟩
theorem rmId_none {id : Int} {l : List It} (h : ∀ y ∈ l, y.id ≠ id) : rmId id l = l := by
  unfold rmId
  rw [List.filter_eq_self]
  intro y hy
  simp [h y hy]
theorem Mny.mem {ds : List Int} {i : Nat} {σ : Tms} (h : Mny ds i σ) {y : It} (hy : y ∈ σ.x.l) : ∃ j, j < i ∧ y = itm ds j := by
  have := h.perm.mem_iff.1 hy
  simp only [List.mem_map, List.mem_range] at this
  obtain ⟨j, hj, rfl⟩ := this
  exact ⟨j, hj, rfl⟩
theorem Mny.llen {ds : List Int} {i : Nat} {σ : Tms} (h : Mny ds i σ) : σ.x.l.length = i := by rw [h.perm.length_eq]; simp
theorem Mny.fine {ds : List Int} {i : Nat} {σ : Tms} (h : Mny ds i σ) (hi : i ≤ 64) : σ.fine 1000000 4611686018427387904 :=
  ⟨by rw [h.llen]; omega, by rw [h.seq]; omega, by rw [h.seq]; omega, by rw [h.named]; omega, by rw [h.len]; omega⟩
theorem Mny.step {ds : List Int} {i : Nat} {σ : Tms} (h : Mny ds i σ) (hi : i < 64) : (σ.make ⟨3, i, none, 0⟩ 10 (kOf ds i)).2.1 = i ∧ (σ.make ⟨3, i, none, 0⟩ 10 (kOf ds i)).2.2 = 0 ∧ Mny ds (i + 1) (σ.make ⟨3, i, none, 0⟩ 10 (kOf ds i)).1 := by
  have hk := kOf_b ds i
  have c1 : ¬ (badN 10 = true ∨ (i : Int) < 0 ∨ ((3 : Int) = 2 ∧ kOf ds i < 1)) := by simp [badN]
  have c2 : ¬ ((3 : Int) ≠ 4 ∧ 64 ≤ σ.named) := by rw [h.named]; omega
  have hm : max (kOf ds i) 0 = kOf ds i := by omega
  have hrm : rmId i σ.x.l = σ.x.l := rmId_none fun y hy => by
    obtain ⟨j, hj, rfl⟩ := h.mem hy
    simp [itm]; omega
  have hseq : ∀ y, y ∈ σ.x.l → (σ.x.seq + 1 : Int) ≠ y.s := fun y hy => by
    obtain ⟨j, hj, rfl⟩ := h.mem hy
    rw [h.seq]; simp [itm]; omega
  have hca : clockAdd 10 (kOf ds i) = 10 + kOf ds i := clockAdd_id (by omega) (by omega) (by omega)
  have hbt : badT (10 + kOf ds i) 0 = false := badT_ok (by omega) (by omega) (by omega) (by omega)
  have e34 : ¬ ((3 : Int) = 4) := by omega
  have e32 : ¬ ((3 : Int) = 2) := by omega
  simp only [Tms.make, if_neg c1, if_neg c2, Tms.armed, if_neg e34, if_neg e32, hm, hca, h.len, Xs.arm, hbt, Bool.false_eq_true, if_false, Xs.armed, hrm]
  refine ⟨trivial, trivial, ⟨by simp [h.len], ?_, by simp [h.named], ?_, ?_, by simp [h.seq], ?_⟩⟩
  · intro j hj
    by_cases hji : j = i
    · subst hji
      rw [List.getElem?_set_self (by simp [h.len])]
      simp
    · rw [List.getElem?_set_ne (Ne.symm hji), List.getElem?_append_left (by rw [h.len]; omega)]
      exact h.ones j (by omega)
  · exact ins_sorted h.sorted hseq
  · refine (ins_perm _ _).trans ?_
    rw [List.range_succ, List.map_append]
    refine ((List.perm_cons _).2 h.perm).trans ?_
    have : (⟨i, 10 + kOf ds i, σ.x.seq + 1⟩ : It) = itm ds i := by simp [itm, h.seq]
    rw [this]
    exact (List.perm_append_comm (l₁ := [itm ds i]))
  · intro j hj
    by_cases hji : j = i
    · subst hji; simp [updI]
    · have : ((j : Int)) ≠ (i : Int) := by omega
      have this2 : ¬ ((i : Int)) = (j : Int) := by omega
      simp [updI, this, this2]
      exact h.pf j (by omega)
/-- so many have fired -/
structure Mfd (ds : List Int) (n i : Nat) (last id : Int) (σ : Tms) : Prop where
  len : σ.ones.length = n
  ones : ∀ j, j < n → σ.ones[j]? = some ⟨3, j, none, 1⟩
  named : σ.named = n
  sorted : σ.x.l.Pairwise It.lt
  mem : ∀ y ∈ σ.x.l, ∃ j, j < n ∧ y = itm ds j
  nd : (σ.x.l.map It.id).Nodup
  cnt : σ.x.l.length + i = n
  seq : σ.x.seq = n
  pf : ∀ y ∈ σ.x.l, σ.x.pf y.id = some 0
  aft : ∀ y ∈ σ.x.l, last < y.w ∨ (last = y.w ∧ id ≤ y.id)
theorem Mny.fd {ds : List Int} {i : Nat} {σ : Tms} (h : Mny ds i σ) : Mfd ds i 0 (-1) (-1) σ := by
  refine ⟨h.len, h.ones, h.named, h.sorted, fun y hy => h.mem hy, ?_, by rw [h.llen]; rfl, h.seq, ?_, ?_⟩
  · rw [(h.perm.map It.id).nodup_iff, List.map_map]
    rw [List.Nodup, List.pairwise_map]
    exact List.nodup_range.imp fun hab => by simp [itm]; omega
  · intro y hy
    obtain ⟨j, hj, rfl⟩ := h.mem hy
    exact h.pf j hj
  · intro y hy
    obtain ⟨j, hj, rfl⟩ := h.mem hy
    have := kOf_b ds j
    left; simp [itm]; omega
theorem Mfd.fire {ds : List Int} {n i : Nat} {last id : Int} {σ : Tms} (h : Mfd ds n i last id σ) (hi : i < n) : ∃ (x' : Xs) (j : Nat), j < n ∧ σ.x.take 200 = (x', ((j : Int), 10 + kOf ds j, 200), true) ∧ (last < 10 + kOf ds j ∨ (last = 10 + kOf ds j ∧ id ≤ j)) ∧ Mfd ds n (i + 1) (10 + kOf ds j) j { σ with x := x' } := by
  obtain ⟨y, r, hl⟩ : ∃ y r, σ.x.l = y :: r := by
    cases hh : σ.x.l with
    | nil => have := h.cnt; rw [hh] at this; simp at this; omega
    | cons y r => exact ⟨y, r, rfl⟩
  have hy : y ∈ σ.x.l := by rw [hl]; simp
  obtain ⟨j, hj, hyj⟩ := h.mem y hy
  have hk := kOf_b ds j
  have hyw : y.w = 10 + kOf ds j := by rw [hyj]; rfl
  have hyi : y.id = j := by rw [hyj]; rfl
  have hys : y.s = j + 1 := by rw [hyj]; rfl
  have c1 : ¬ ((200 : Int) < 0 ∨ 200 < y.w) := by rw [hyw]; omega
  have hrm : rmId y.id (y :: r) = r := by
    have hnd := h.nd
    rw [hl] at hnd
    simp only [List.map_cons, List.nodup_cons] at hnd
    unfold rmId
    rw [List.filter_cons_of_neg (by simp), List.filter_eq_self]
    intro z hz
    have : z.id ≠ y.id := fun h9 => hnd.1 (by rw [← h9]; exact List.mem_map_of_mem hz)
    simp [this]
  have hs := h.sorted
  rw [hl, List.pairwise_cons] at hs
  refine ⟨σ.x.stop y.id, j, hj, ?_, ?_, ?_⟩
  · have hpf : σ.x.pf j = some 0 := by rw [← hyi]; exact h.pf y hy
    have c2 : ¬ 200 < 10 + kOf ds j := by omega
    simp [Xs.take, hl, hpf, clockNext, hyi, hyw, c2]
  · have := h.aft y hy
    rw [hyw, hyi] at this
    exact this
  · have hxl : (σ.x.stop y.id).l = r := by simp only [Xs.stop, hl]; exact hrm
    have sub : ∀ z ∈ r, z ∈ σ.x.l := fun z hz => by rw [hl]; exact List.mem_cons_of_mem _ hz
    refine ⟨h.len, h.ones, h.named, by rw [hxl]; exact hs.2, ?_, ?_, ?_, h.seq, ?_, ?_⟩
    · intro z hz; rw [hxl] at hz; exact h.mem z (sub z hz)
    · rw [hxl]; have := h.nd; rw [hl] at this; simp only [List.map_cons, List.nodup_cons] at this; exact this.2
    · rw [hxl]; have := h.cnt; rw [hl] at this; simp at this; omega
    · intro z hz
      rw [hxl] at hz
      have hne : z.id ≠ y.id := by
        have := h.nd; rw [hl] at this; simp only [List.map_cons, List.nodup_cons] at this
        exact fun h9 => this.1 (by rw [← h9]; exact List.mem_map_of_mem hz)
      simp only [Xs.stop, updI, hne, Ne.symm hne, if_false]
      exact h.pf z (sub z hz)
    · intro z hz
      rw [hxl] at hz
      have hlt := hs.1 z hz
      obtain ⟨j2, hj2, hz2⟩ := h.mem z (sub z hz)
      have hzi : z.id = j2 := by rw [hz2]; rfl
      have hzs : z.s = j2 + 1 := by rw [hz2]; rfl
      unfold It.lt at hlt
      rw [hyw, hys, hzs] at hlt
      rw [hzi]
      omega
end Go.AM
