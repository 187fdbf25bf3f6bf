/- sets of timers whatever: what is kept; in plain Lean. -/
import Derived.Test.YtijhjfpiglaleaaLawTimerP
set_option linter.unusedVariables false
set_option linter.unusedSimpArgs false
namespace Go.AM
/-- what is so of what will be due -/
structure XG (x : Xs) (K : Int) : Prop where
  sorted : x.l.Pairwise It.lt
  nd : (x.l.map It.id).Nodup
  below : ∀ y ∈ x.l, y.s ≤ x.seq
  pos : 0 ≤ x.seq
  seq : x.seq ≤ K
  len : (x.l.length : Int) ≤ K
  per : ∀ y ∈ x.l, ∃ p, x.pf y.id = some p ∧ 0 ≤ p ∧ p ≤ 4611686018427387904
  time : ∀ y ∈ x.l, 0 ≤ y.w ∧ y.w ≤ 4611686018427387904
theorem rmId_mem {id : Int} {l : List It} {y : It} : y ∈ rmId id l ↔ y ∈ l ∧ y.id ≠ id := by simp [rmId]
theorem XG.mono {x : Xs} {K K' : Int} (h : XG x K) (hk : K ≤ K') : XG x K' := ⟨h.sorted, h.nd, h.below, h.pos, Int.le_trans h.seq hk, Int.le_trans h.len hk, h.per, h.time⟩
theorem XG.stop {x : Xs} {K : Int} (h : XG x K) (id : Int) : XG (x.stop id) K := by
  have sub : (rmId id x.l).Sublist x.l := List.filter_sublist
  refine ⟨h.sorted.sublist sub, h.nd.sublist (sub.map _), ?_, h.pos, h.seq, ?_, ?_, ?_⟩
  · intro y hy; exact h.below y (rmId_mem.1 hy).1
  · have h1 := sub.length_le
    have h2 := h.len
    have h3 : ((rmId id x.l).length : Int) ≤ (x.l.length : Int) := by omega
    exact Int.le_trans h3 h2
  · intro y hy
    have hy' := rmId_mem.1 hy
    obtain ⟨p, h1, h2⟩ := h.per y hy'.1
    have hn : ¬ id = y.id := fun h9 => hy'.2 h9.symm
    exact ⟨p, by simp [Xs.stop, updI, hn, hy'.2, h1], h2⟩
  · intro y hy; exact h.time y (rmId_mem.1 hy).1
theorem stop_mem {x : Xs} {id : Int} {y : It} : y ∈ (x.stop id).l ↔ y ∈ x.l ∧ y.id ≠ id := rmId_mem
theorem ins_mem {x y : It} {l : List It} : y ∈ ins x l ↔ y = x ∨ y ∈ l := by rw [(ins_perm x l).mem_iff]; simp
theorem XG.arm {x : Xs} {K : Int} (h : XG x K) (id when p : Int) (h1 : 0 ≤ when) (h2 : 0 ≤ p) (h3 : when ≤ 4611686018427387904) (h4 : p ≤ 4611686018427387904) :
    XG (x.arm id when p).1 (K + 1) ∧ (∀ y, y ∈ (x.arm id when p).1.l ↔ y = ⟨id, when, x.seq + 1⟩ ∨ (y ∈ x.l ∧ y.id ≠ id)) ∧ (x.arm id when p).1.pf id = some p ∧ (∀ j, j ≠ id → (x.arm id when p).1.pf j = x.pf j) ∧ (x.arm id when p).1.seq = x.seq + 1 := by
  have hb := badT_ok h1 h2 h3 h4
  have e : (x.arm id when p).1 = x.armed id when p := by simp [Xs.arm, hb]
  rw [e]
  have mem : ∀ y, y ∈ (x.armed id when p).l ↔ y = ⟨id, when, x.seq + 1⟩ ∨ (y ∈ x.l ∧ y.id ≠ id) := by
    intro y
    simp only [Xs.armed]
    rw [ins_mem, rmId_mem]
  have hs := h.stop id
  refine ⟨⟨?_, ?_, ?_, ?_, ?_, ?_, ?_, ?_⟩, mem, by simp [Xs.armed, updI], ?_, rfl⟩
  · refine ins_sorted hs.sorted ?_
    intro y hy
    have := h.below y (rmId_mem.1 hy).1
    simp; omega
  · simp only [Xs.armed]
    rw [((ins_perm _ _).map It.id).nodup_iff]
    simp only [List.map_cons, List.nodup_cons]
    refine ⟨?_, hs.nd⟩
    intro h9
    obtain ⟨y, hy, hyi⟩ := List.mem_map.1 h9
    exact (rmId_mem.1 hy).2 hyi
  · intro y hy
    rcases (mem y).1 hy with rfl | ⟨h5, _⟩
    · simp [Xs.armed]
    · have := h.below y h5; simp [Xs.armed]; omega
  · have := h.pos; simp [Xs.armed]; omega
  · have := h.seq; simp [Xs.armed]; omega
  · have h5 := hs.len
    simp only [Xs.armed, (ins_perm _ _).length_eq, List.length_cons]
    simp only [Xs.stop] at h5
    omega
  · intro y hy
    rcases (mem y).1 hy with rfl | ⟨h5, h6⟩
    · exact ⟨p, by simp [Xs.armed, updI], h2, h4⟩
    · obtain ⟨q, h7, h8⟩ := h.per y h5
      have hn : ¬ id = y.id := fun h9 => h6 h9.symm
      exact ⟨q, by simp [Xs.armed, updI, hn, h6, h7], h8⟩
  · intro y hy
    rcases (mem y).1 hy with rfl | ⟨h5, h6⟩
    · exact ⟨h1, h3⟩
    · exact h.time y h5
  · intro j hj
    have hn : ¬ id = j := fun h9 => hj h9.symm
    simp [Xs.armed, updI, hn, hj]
/-- what is due is taken: or nothing is -/
theorem XG.take {x : Xs} {K : Int} (h : XG x K) {now : Int} (hn : 0 ≤ now) (hb : now ≤ 2305843009213693952) (hp : ∀ y ∈ x.l, ∀ p, x.pf y.id = some p → p ≤ 2305843009213693952) :
    ((∀ y ∈ x.l, now < y.w) ∧ x.take now = (x, (0, 0, 0), false)) ∨
    ∃ (x' : Xs) (y : It), y ∈ x.l ∧ y.w ≤ now ∧ (∀ z ∈ x.l, ¬ z.lt y) ∧ x.take now = (x', (y.id, y.w, now), true) ∧ XG x' (K + 1) ∧ (∀ j, j ≠ y.id → x'.pf j = x.pf j) ∧ 
      ((x.pf y.id = some 0 ∧ ∀ z, z ∈ x'.l ↔ z ∈ x.l ∧ z.id ≠ y.id) ∨
       ∃ p, 0 < p ∧ x.pf y.id = some p ∧ x'.pf y.id = some p ∧ ∀ z, z ∈ x'.l ↔ (z = ⟨y.id, now + (p - (now - y.w) % p), x.seq + 1⟩ ∨ (z ∈ x.l ∧ z.id ≠ y.id))) := by
  cases hl : x.l with
  | nil => left; simp [Xs.take, hl]
  | cons y r =>
    have hs := h.sorted
    rw [hl, List.pairwise_cons] at hs
    have hy : y ∈ x.l := by rw [hl]; simp
    obtain ⟨t0, t1⟩ := h.time y hy
    by_cases hw : now < y.w
    · left
      refine ⟨?_, by simp [Xs.take, hl, hw]⟩
      intro z hz
      rcases List.mem_cons.1 hz with rfl | hz
      · exact hw
      · have := hs.1 z hz
        unfold It.lt at this
        omega
    · right
      obtain ⟨p, hp1, hp2, hp3⟩ := h.per y hy
      have hp4 := hp y hy p hp1
      have c1 : ¬ (now < 0 ∨ now < y.w) := by omega
      have hmin : ∀ z ∈ y :: r, ¬ z.lt y := by
        intro z hz
        rcases List.mem_cons.1 hz with rfl | hz
        · exact It.lt_irrefl _
        · exact It.lt_asymm (hs.1 z hz)
      by_cases hp0 : p = 0
      · subst hp0
        refine ⟨x.stop y.id, y, by simp, by omega, hmin, by simp [Xs.take, hl, c1, hp1, clockNext], (h.stop y.id).mono (by omega), ?_, .inl ⟨hp1, fun z => ?_⟩⟩
        · intro j hj
          have hn : ¬ y.id = j := fun h9 => hj h9.symm
          simp [Xs.stop, updI, hn, hj]
        · rw [stop_mem, hl]
      · have hpp : 0 < p := by omega
        have m0 := Int.emod_nonneg (now - y.w) (show p ≠ 0 by omega)
        have m1 := Int.emod_lt_of_pos (now - y.w) hpp
        have c2 : ¬ (p < 1 ∨ min y.w now < 0 ∨ 4611686018427387904 < max y.w (max p now)) := by omega
        have c3 : ¬ now < y.w := by omega
        have e1 : (now - y.w).tmod p = (now - y.w) % p := Int.tmod_eq_emod_of_nonneg (by omega)
        have e2 : clockNext y.w p now = (now + (p - (now - y.w) % p), 0) := by
          simp only [clockNext, if_neg c2, if_neg c3, e1]
          rw [clockAdd_id (by omega) (by omega) (by omega)]
        have e3 : now < now + (p - (now - y.w) % p) := by omega
        obtain ⟨a1, a2, a3, a4, a5⟩ := (h.stop y.id).arm y.id (now + (p - (now - y.w) % p)) p (by omega) (by omega) (by omega) (by omega)
        refine ⟨((x.stop y.id).arm y.id (now + (p - (now - y.w) % p)) p).1, y, by simp, by omega, hmin, ?_, a1, ?_, .inr ⟨p, hpp, hp1, a3, fun z => ?_⟩⟩
        · simp [Xs.take, hl, c1, hp1, e2, e3]
        · intro j hj
          have hn : ¬ y.id = j := fun h9 => hj h9.symm
          rw [a4 j hj]
          simp [Xs.stop, updI, hn, hj]
        · rw [a2, stop_mem, hl]
          constructor
          · rintro (h1 | ⟨⟨h1, h2⟩, h3⟩)
            · exact .inl h1
            · exact .inr ⟨h1, h2⟩
          · rintro (h1 | ⟨h1, h2⟩)
            · exact .inl h1
            · exact .inr ⟨⟨h1, h2⟩, h2⟩
end Go.AM
