/- TimerStale: what is kept; in plain Lean. -/
import Derived.Test.YtijhjfpiglaleaaLawTimerX
import Derived.Test.YtijhjfpiglaleaaLawTimerQ
set_option linter.unusedVariables false
set_option linter.unusedSimpArgs false
namespace Go.AM
/-- one or two timers; the last is looked at -/
structure SI (id : Nat) (c c0 : Nat) (kid : Int) (σ : Tms) (K : Int) : Prop where
  idl : id ≤ 1
  kl : kid = 1 ∨ kid = 2
  len : σ.ones.length = id + 1
  one : ∃ g, σ.ones[id]? = some ⟨kid, 0, some c, g⟩ ∧ 0 ≤ g ∧ g ≤ K
  zero : id = 1 → ∃ g, σ.ones[0]? = some ⟨1, 0, some c0, g⟩
  xg : XG σ.x K
  ids : ∀ y ∈ σ.x.l, ∃ j : Nat, j ≤ id ∧ y.id = j
  per : ∀ y ∈ σ.x.l, ∀ p, σ.x.pf y.id = some p → p ≤ 1000
/-- all that is armed is due behind t; what is looked at not ahead of when -/
def Beh (id : Nat) (σ : Tms) (t when : Int) : Prop := ∀ y ∈ σ.x.l, t < y.w ∧ (y.id = id → 0 ≤ when ∧ when ≤ y.w)
section
variable {id c c0 : Nat} {kid K : Int} {σ : Tms}
theorem SI.get (h : SI id c c0 kid σ K) {j : Nat} (hj : j ≤ id) : ∃ k g, σ.ones[j]? = some ⟨k, 0, some (if j = id then c else c0), g⟩ ∧ σ.one (j : Int) = some ⟨k, 0, some (if j = id then c else c0), g⟩ := by
  have hh : σ.has (j : Int) = true := by simp [Tms.has, h.len]; omega
  by_cases hji : j = id
  · obtain ⟨g, h1, _⟩ := h.one
    subst hji
    exact ⟨kid, g, by simp [h1], by simp [Tms.one, hh, h1]⟩
  · have h1 : id = 1 := by have := h.idl; omega
    have h0 : j = 0 := by omega
    obtain ⟨g, h2⟩ := h.zero h1
    subst h0
    exact ⟨1, g, by simp [h2, hji], by simpa [Tms.one, hji, h2] using hh⟩
theorem SI.sub (h : SI id c c0 kid σ K) {x' : Xs} {K' : Int} (hK : K ≤ K') (hx : XG x' K') (hm : ∀ z ∈ x'.l, ∃ y ∈ σ.x.l, z.id = y.id ∧ x'.pf z.id = σ.x.pf y.id) : SI id c c0 kid { σ with x := x' } K' := by
  obtain ⟨g, h1, h2, h3⟩ := h.one
  refine ⟨h.idl, h.kl, h.len, ⟨g, h1, h2, Int.le_trans h3 hK⟩, h.zero, hx, ?_, ?_⟩
  · intro z hz
    obtain ⟨y, hy, e, _⟩ := hm z hz
    obtain ⟨j, hj, hjy⟩ := h.ids y hy
    exact ⟨j, hj, by rw [e]; exact hjy⟩
  · intro z hz p hp
    obtain ⟨y, hy, _, e2⟩ := hm z hz
    rw [e2] at hp
    exact h.per y hy p hp
theorem SI.stop (h : SI id c c0 kid σ K) : SI id c c0 kid { σ with x := σ.x.stop id } K ∧ ∀ y ∈ (σ.x.stop id).l, y ∈ σ.x.l ∧ y.id ≠ id := by
  refine ⟨h.sub (Int.le_refl _) (h.xg.stop _) fun z hz => ?_, fun y hy => stop_mem.1 hy⟩
  have hz' := stop_mem.1 hz
  have hn : ¬ (id : Int) = z.id := fun h9 => hz'.2 h9.symm
  exact ⟨z, hz'.1, rfl, by simp [Xs.stop, updI, hn, hz'.2]⟩
theorem SI.reset (h : SI id c c0 kid σ K) {g : Int} (hg : σ.ones[id]? = some ⟨kid, 0, some c, g⟩) {now k : Int} (h1 : 0 ≤ now) (h2 : 1 ≤ k) (h3 : k ≤ 1000) (h4 : now ≤ 1099511627776) : SI id c c0 kid (σ.reset id ⟨kid, 0, some c, g⟩ now k) (K + 1) ∧
    ∀ y ∈ (σ.reset id ⟨kid, 0, some c, g⟩ now k).x.l, (y.id = id ∧ y.w = now + k) ∨ (y ∈ σ.x.l ∧ y.id ≠ id) := by
  have hm : max k 0 = k := by omega
  have hn : min k 4611686018427387904 = k := by omega
  have hca : clockAdd now k = now + k := clockAdd_id h1 (by omega) (by omega)
  obtain ⟨g', hg', g0, g1⟩ := h.one
  rw [hg] at hg'
  simp only [Option.some.injEq, On.mk.injEq, true_and] at hg'
  obtain ⟨p, hp⟩ : ∃ p, p = (if kid = 2 then k else 0) := ⟨_, rfl⟩
  have hp0 : 0 ≤ p ∧ p ≤ 1000 := by rw [hp]; split <;> omega
  obtain ⟨a1, a2, a3, a4, a5⟩ := (h.xg.stop id).arm id (now + k) p (by omega) (by omega) (by omega) (by omega)
  have hx : (σ.reset id ⟨kid, 0, some c, g⟩ now k).x = ((σ.x.stop id).arm id (now + k) p).1 := by
    simp [Tms.reset, Tms.armed, hm, hn, hca, hp]
  have ho : (σ.reset id ⟨kid, 0, some c, g⟩ now k).ones = σ.ones.set id ⟨kid, 0, some c, g + 1⟩ := by simp [Tms.reset, Tms.armed]
  have mem : ∀ y ∈ (σ.reset id ⟨kid, 0, some c, g⟩ now k).x.l, (y.id = id ∧ y.w = now + k) ∨ (y ∈ σ.x.l ∧ y.id ≠ id) := by
    intro y hy
    rw [hx] at hy
    rcases (a2 y).1 hy with rfl | ⟨h5, h6⟩
    · exact .inl ⟨rfl, rfl⟩
    · exact .inr ⟨(stop_mem.1 h5).1, h6⟩
  refine ⟨⟨h.idl, h.kl, by rw [ho]; simp [h.len], ⟨g + 1, by rw [ho, List.getElem?_set_self (by rw [h.len]; omega)], by omega, by omega⟩, ?_, by rw [hx]; exact a1, ?_, ?_⟩, mem⟩
  · intro h1'
    obtain ⟨g2, h6⟩ := h.zero h1'
    exact ⟨g2, by rw [ho, List.getElem?_set_ne (by omega)]; exact h6⟩
  · intro y hy
    rcases mem y hy with ⟨h5, _⟩ | ⟨h5, _⟩
    · exact ⟨id, Nat.le_refl _, h5⟩
    · exact h.ids y h5
  · intro y hy q hq
    rw [hx] at hq
    rcases mem y hy with ⟨h5, _⟩ | ⟨h5, h6⟩
    · rw [h5, a3] at hq; cases hq; exact hp0.2
    · rw [a4 _ h6] at hq
      have hn' : ¬ (id : Int) = y.id := fun h9 => h6 h9.symm
      simp [Xs.stop, updI, hn', h6] at hq
      exact h.per y h5 q hq
/-- who may still be due: behind n shots -/
def Left (n : Nat) (σ : Tms) (nw : Int) : Prop := match n with
  | 0 => True
  | 1 => ∃ j0 : Int, ∀ y ∈ σ.x.l, y.w ≤ nw → y.id = j0
  | _ => ∀ y ∈ σ.x.l, nw < y.w
theorem SI.fire (h : SI id c c0 kid σ K) {n : Nat} {now nw when : Int} (hb : Beh id σ now when) (hn : 0 ≤ now) (hnw : now ≤ nw) (hbd : nw ≤ 1099511627776) (hl : Left n σ nw) :
    ((σ.x.take nw).2.2 = false ∧ ∀ y ∈ σ.x.l, nw < y.w) ∨
    ∃ (x' : Xs) (j : Nat) (w : Int), n < 2 ∧ j ≤ id ∧ now < w ∧ w ≤ nw ∧ (j = id → 0 ≤ when ∧ when ≤ w) ∧ σ.x.take nw = (x', ((j : Int), w, nw), true) ∧ SI id c c0 kid { σ with x := x' } (K + 1) ∧ Beh id { σ with x := x' } now when ∧ Left (n + 1) { σ with x := x' } nw := by
  rcases h.xg.take (now := nw) (by omega) (by omega) (fun y hy p hp => by have := h.per y hy p hp; omega) with ⟨h1, h2⟩ | ⟨x', y, hy, hw, _, tk, xg', pf', hcase⟩
  · left; exact ⟨by rw [h2], h1⟩
  · right
    obtain ⟨j, hj, hyj⟩ := h.ids y hy
    have hby := hb y hy
    have hn2 : n < 2 := by
      rcases n with _ | _ | n
      · omega
      · omega
      · have := hl y hy; omega
    have mem : ∀ z ∈ x'.l, (z.id = y.id ∧ nw < z.w ∧ x'.pf z.id = σ.x.pf y.id) ∨ (z ∈ σ.x.l ∧ z.id ≠ y.id ∧ x'.pf z.id = σ.x.pf z.id) := by
      intro z hz
      rcases hcase with ⟨_, hc⟩ | ⟨p, hp, hp1, hp2, hc⟩
      · have := (hc z).1 hz
        exact .inr ⟨this.1, this.2, pf' _ this.2⟩
      · rcases (hc z).1 hz with rfl | ⟨h5, h6⟩
        · have m1 := Int.emod_lt_of_pos (nw - y.w) hp
          exact .inl ⟨rfl, by simp; omega, by simp [hp2, hp1]⟩
        · exact .inr ⟨h5, h6, pf' _ h6⟩
    refine ⟨x', j, y.w, hn2, hj, hby.1, hw, fun h9 => hby.2 (by rw [hyj, h9]), by rw [tk, hyj], h.sub (by omega) xg' ?_, ?_, ?_⟩
    · intro z hz
      rcases mem z hz with ⟨h5, _, h6⟩ | ⟨h5, _, h6⟩
      · exact ⟨y, hy, h5, h6⟩
      · exact ⟨z, h5, rfl, h6⟩
    · intro z hz
      rcases mem z hz with ⟨h5, h6, _⟩ | ⟨h5, _, _⟩
      · refine ⟨by omega, fun h9 => ?_⟩
        have := hby.2 (by rw [← h5, h9])
        omega
      · exact hb z h5
    · rcases n with _ | _ | n
      · refine ⟨if y.id = 0 then 1 else 0, ?_⟩
        intro z hz hzw
        rcases mem z hz with ⟨_, h6, _⟩ | ⟨h5, h6, _⟩
        · omega
        · obtain ⟨j2, hj2, hz2⟩ := h.ids z h5
          have := h.idl
          split <;> omega
      · obtain ⟨j0, hj0⟩ := hl
        intro z hz
        rcases mem z hz with ⟨_, h6, _⟩ | ⟨h5, h6, _⟩
        · exact h6
        · have e1 := hj0 y hy hw
          by_cases hzw : z.w ≤ nw
          · exact absurd ((hj0 z h5 hzw).trans e1.symm) h6
          · omega
      · omega
theorem Left.all {n : Nat} {nw : Int} (h : ∀ y ∈ σ.x.l, nw < y.w) : Left n σ nw := by
  rcases n with _ | _ | n
  · trivial
  · exact ⟨0, fun y hy hw => by have := h y hy; omega⟩
  · exact h
end
end Go.AM
