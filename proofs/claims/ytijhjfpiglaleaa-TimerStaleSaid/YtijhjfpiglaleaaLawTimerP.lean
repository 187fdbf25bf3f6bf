/- one timer: what its acts make of it; in plain Lean. -/
import Derived.Test.YtijhjfpiglaleaaLibTimerD
set_option linter.unusedVariables false
set_option linter.unusedSimpArgs false
namespace Go.AM

theorem held_id {t : Int} (h : -4611686018427387904 ≤ t) (k : t ≤ 4611686018427387904) : held t = t := by unfold held; omega
theorem clockAdd_id {t d : Int} (h : 0 ≤ t) (k : 0 ≤ d) (b : t + d ≤ 4611686018427387904) : clockAdd t d = t + d := by
  unfold clockAdd
  rw [held_id (t := t) (by omega) (by omega), held_id (t := d) (by omega) (by omega), held_id (by omega) (by omega)]
/-- one timer that is armed -/
structure Sg (σ : Tms) (k dat : Int) (c : Option Nat) (g due q p : Int) : Prop where
  ones : σ.ones = [⟨k, dat, c, g⟩]
  l : σ.x.l = [⟨0, due, q⟩]
  seq : σ.x.seq = q
  pf : σ.x.pf 0 = some p
/-- one timer that is not -/
structure Idl (σ : Tms) (k dat : Int) (c : Option Nat) (g q : Int) : Prop where
  ones : σ.ones = [⟨k, dat, c, g⟩]
  l : σ.x.l = []
  seq : σ.x.seq = q
def Tms.nil : Tms := ⟨[], ⟨[], 0, fun _ => none⟩, 0⟩
theorem Tms.nil_fine : Tms.nil.fine 1000000 4611686018427387904 := ⟨by simp [Tms.nil], by simp [Tms.nil], by simp [Tms.nil], by simp [Tms.nil], by simp [Tms.nil]⟩
theorem badT_ok {a b : Int} (h1 : 0 ≤ a) (h2 : 0 ≤ b) (h3 : a ≤ 4611686018427387904) (h4 : b ≤ 4611686018427387904) : badT a b = false := by
  simp [badT]; omega
/-- what is armed: of one that is alone -/
theorem arm_alone (x : Xs) (when p : Int) (hl : rmId 0 x.l = []) (h1 : 0 ≤ when) (h2 : 0 ≤ p) (h3 : when ≤ 4611686018427387904) (h4 : p ≤ 4611686018427387904) :
    (x.arm 0 when p).1.l = [⟨0, when, x.seq + 1⟩] ∧ (x.arm 0 when p).1.seq = x.seq + 1 ∧ (x.arm 0 when p).1.pf 0 = some p := by
  simp [Xs.arm, badT_ok h1 h2 h3 h4, Xs.armed, hl, ins, updI]
theorem armed_alone (σ : Tms) {k dat : Int} {c : Option Nat} {g : Int} (now d : Int) (ho : σ.ones = [⟨k, dat, c, g⟩]) (hl : rmId 0 σ.x.l = []) (h1 : 0 ≤ now) (h2 : 0 ≤ d) (h3 : now + d ≤ 4611686018427387904) :
    Sg (σ.armed 0 ⟨k, dat, c, g⟩ now d) k dat c (g + 1) (now + d) (σ.x.seq + 1) (if k = 2 then d else 0) := by
  have hm : max d 0 = d := by omega
  have hn : min d 4611686018427387904 = d := by omega
  have ha := arm_alone σ.x (now + d) (if k = 2 then d else 0) hl (by omega) (by split <;> omega) h3 (by split <;> omega)
  refine ⟨by simp [Tms.armed, ho], ?_, ?_, ?_⟩
  · simpa [Tms.armed, hm, hn, clockAdd_id h1 h2 h3] using ha.1
  · simpa [Tms.armed, hm, hn, clockAdd_id h1 h2 h3] using ha.2.1
  · simpa [Tms.armed, hm, hn, clockAdd_id h1 h2 h3] using ha.2.2
theorem badN_ok {n : Int} (h1 : 0 ≤ n) (h2 : n ≤ 4611686018427387904) : badN n = false := by simp [badN]; omega
theorem make_first {k dat : Int} (c : Option Nat) {d : Int} (hk : k ≠ 4) (hdat : 0 ≤ dat) (h1 : 1 ≤ d) (h2 : d ≤ 1000000) :
    (Tms.nil.make ⟨k, dat, c, 0⟩ 0 d).2.1 = 0 ∧ (Tms.nil.make ⟨k, dat, c, 0⟩ 0 d).2.2 = 0 ∧ Sg (Tms.nil.make ⟨k, dat, c, 0⟩ 0 d).1 k dat c 1 d 1 (if k = 2 then d else 0) := by
  have c1 : ¬ (badN 0 = true ∨ dat < 0 ∨ (k = 2 ∧ d < 1)) := by simp [badN]; omega
  have c2 : ¬ (k ≠ 4 ∧ 64 ≤ Tms.nil.named) := by simp [Tms.nil]
  simp only [Tms.make, if_neg c1, if_neg c2]
  refine ⟨by trivial, by trivial, ?_⟩
  have := armed_alone { Tms.nil with named := if k = 4 then Tms.nil.named else Tms.nil.named + 1, ones := Tms.nil.ones ++ [⟨k, dat, c, 0⟩] } (k := k) (dat := dat) (c := c) (g := 0) 0 d (by simp [Tms.nil]) (by simp [Tms.nil, rmId]) (by omega) (by omega) (by omega)
  simpa [Tms.nil] using this
section
variable {σ : Tms} {k dat g due q p : Int} {c : Option Nat}
theorem Sg.sorted (h : Sg σ k dat c g due q p) : σ.x.l.Pairwise It.lt := by rw [h.l]; simp
theorem Idl.sorted (h : Idl σ k dat c g q) : σ.x.l.Pairwise It.lt := by rw [h.l]; simp
theorem Sg.one (h : Sg σ k dat c g due q p) : σ.one 0 = some ⟨k, dat, c, g⟩ := by simp [Tms.one, Tms.has, h.ones]
theorem Idl.one (h : Idl σ k dat c g q) : σ.one 0 = some ⟨k, dat, c, g⟩ := by simp [Tms.one, Tms.has, h.ones]
theorem Sg.len (h : Sg σ k dat c g due q p) : σ.x.l.length < 1000000 := by rw [h.l]; simp
theorem Idl.len (h : Idl σ k dat c g q) : σ.x.l.length < 1000000 := by rw [h.l]; simp
theorem Sg.wait (h : Sg σ k dat c g due q p) {now : Int} (hn : now < due) : (σ.x.take now).2.2 = false := by
  simp [Xs.take, h.l, hn]
theorem Idl.wait (h : Idl σ k dat c g q) (now : Int) : (σ.x.take now).2.2 = false := by
  simp [Xs.take, h.l]
theorem Sg.once (h : Sg σ k dat c g due q 0) {now : Int} (h0 : 0 ≤ due) (hn : due ≤ now) : ∃ x', σ.x.take now = (x', (0, due, now), true) ∧ Idl { σ with x := x' } k dat c g q := by
  have c1 : ¬ (now < 0 ∨ now < due) := by omega
  refine ⟨σ.x.stop 0, ?_, ⟨h.ones, ?_, ?_⟩⟩
  · simp [Xs.take, h.l, c1, h.pf, clockNext]
  · simp [Xs.stop, h.l, rmId]
  · simp [Xs.stop, h.seq]
theorem Sg.tick (h : Sg σ k dat c g due q p) {now : Int} (hp : 0 < p) (hp2 : p ≤ 1099511627776) (h0 : 0 ≤ due) (hn : due ≤ now) (hb : now ≤ 1099511627776) :
    ∃ x', σ.x.take now = (x', (0, due, now), true) ∧ Sg { σ with x := x' } k dat c g (now + (p - (now - due) % p)) (q + 1) p := by
  have c1 : ¬ (now < 0 ∨ now < due) := by omega
  have m0 := Int.emod_nonneg (now - due) (show p ≠ 0 by omega)
  have m1 := Int.emod_lt_of_pos (now - due) hp
  have c2 : ¬ (p < 1 ∨ min due now < 0 ∨ 4611686018427387904 < max due (max p now)) := by omega
  have c3 : ¬ now < due := by omega
  have e1 : (now - due).tmod p = (now - due) % p := Int.tmod_eq_emod_of_nonneg (by omega)
  have e2 : clockNext due p now = (now + (p - (now - due) % p), 0) := by
    simp only [clockNext, if_neg c2, if_neg c3, e1]
    rw [clockAdd_id (by omega) (by omega) (by omega)]
  have e3 : now < now + (p - (now - due) % p) := by omega
  have ha := arm_alone (σ.x.stop 0) (now + (p - (now - due) % p)) p (by simp [Xs.stop, h.l, rmId]) (by omega) (by omega) (by omega) (by omega)
  refine ⟨((σ.x.stop 0).arm 0 (now + (p - (now - due) % p)) p).1, ?_, ⟨h.ones, ?_, ?_, ?_⟩⟩
  · simp [Xs.take, h.l, c1, h.pf, e2, e3]
  · simpa [Xs.stop, h.seq] using ha.1
  · simpa [Xs.stop, h.seq] using ha.2.1
  · exact ha.2.2
theorem Sg.stop (h : Sg σ k dat c g due q p) : Idl { σ with x := σ.x.stop 0 } k dat c g q := ⟨h.ones, by simp [Xs.stop, h.l, rmId], h.seq⟩
theorem Idl.stop (h : Idl σ k dat c g q) : Idl { σ with x := σ.x.stop 0 } k dat c g q := ⟨h.ones, by simp [Xs.stop, h.l, rmId], h.seq⟩
theorem Sg.reset (h : Sg σ k dat c g due q p) {now d : Int} (h1 : 0 ≤ now) (h2 : 0 ≤ d) (h3 : now + d ≤ 4611686018427387904) : Sg (σ.reset 0 ⟨k, dat, c, g⟩ now d) k dat c (g + 1) (now + d) (q + 1) (if k = 2 then d else 0) := by
  have := armed_alone { σ with x := σ.x.stop 0 } now d h.ones (by simp [Xs.stop, h.l, rmId]) h1 h2 h3
  simpa [Tms.reset, Xs.stop, h.seq] using this
theorem Idl.reset (h : Idl σ k dat c g q) {now d : Int} (h1 : 0 ≤ now) (h2 : 0 ≤ d) (h3 : now + d ≤ 4611686018427387904) : Sg (σ.reset 0 ⟨k, dat, c, g⟩ now d) k dat c (g + 1) (now + d) (q + 1) (if k = 2 then d else 0) := by
  have := armed_alone { σ with x := σ.x.stop 0 } now d h.ones (by simp [Xs.stop, h.l, rmId]) h1 h2 h3
  simpa [Tms.reset, Xs.stop, h.seq] using this
theorem Sg.next (h : Sg σ k dat c g due q p) : σ.x.next = (due, true) := by simp [Xs.next, h.l]
theorem Sg.found (h : Sg σ k dat c g due q p) : (findId 0 σ.x.l).isSome = true := by simp [findId, h.l]
theorem Idl.found (h : Idl σ k dat c g q) : (findId 0 σ.x.l).isSome = false := by simp [findId, h.l]
end
end Go.AM
