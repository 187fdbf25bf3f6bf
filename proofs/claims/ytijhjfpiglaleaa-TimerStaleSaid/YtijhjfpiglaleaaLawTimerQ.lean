/- one timer: fire and receive, over the specs. -/
import Derived.Test.YtijhjfpiglaleaaLawTimerP
set_option linter.unusedVariables false
set_option linter.unusedSimpArgs false
namespace Go.AM
variable {N : Nat → Nat} {F : Nat → Option AFn}
theorem known_spec {f : Nat} (h : F f = some kTrue) (L : Lg) : CallL F f [] L fun v L' => v = .b true ∧ L' = L := by
  apply CallL.of_wp h
  show fin _ _ _ _ _
  exact ⟨L, Sees.refl _, rfl, rfl⟩
theorem Env.put_ne9 {l : Env} {n k : Nat} {v : AV} (h : k ≠ n) : Env.put l n v k = l k := by
  simp only [Env.put, beq_nat]
  rw [decide_eq_false (Ne.symm h)]
  rfl
/-- a timer's channel that nobody waits on -/
def Ch.tv (vs : List Int) : Ch := ⟨vs, 1, [], [], true, false, false⟩
section
variable {L : Lg} {s c : Nat} {σ : Tms} {k dat g due q p : Int} {vs : List Int}
theorem hasC_some {x : Ch} (hcs : c ≠ s) (e : L c = some (.abs (ChanP c x))) : L.hasC s (some c) x := by
  intro a ha; cases ha; exact ⟨hcs, e⟩
def keptV (vs : List Int) : Bool := vs.isEmpty
def putV (vs : List Int) (now : Int) : List Int := if vs.isEmpty then [now] else vs
theorem put_tv {now : Int} (h : vs.length ≤ 1) : putsC (some c) (Ch.tv vs) now = (Ch.tv (putV vs now), [], keptV vs) := by
  match vs, h with
  | [], _ => rfl
  | [a], _ => rfl
theorem fire_tick (h4 : H_timer_Set_Fire N F) (m1 : L s = some (.abs (SetP s σ))) (m2 : L c = some (.abs (ChanP c (Ch.tv vs)))) (hcs : c ≠ s) (hv : vs.length ≤ 1) (sg : Sg σ k dat (some c) g due q p) (hq : 0 ≤ q ∧ q < 4611686018427387904) {now : Int} (hp : 0 < p) (hp2 : p ≤ 1099511627776) (h0 : 0 ≤ due) (hn : due ≤ now) (hb : now ≤ 1099511627776) :
    CallL F (N k_timer_Set_Fire) [.p (some (s, 0)), .i .i64 now] L fun v L' => ∃ σ', Sg σ' k dat (some c) g (now + (p - (now - due) % p)) (q + 1) p ∧ v = .tup [firedAV 0 k due now dat (.sl none 0 0 0) (keptV vs), .b true] ∧ L' = (L.put s (.abs (SetP s σ'))).put c (.abs (ChanP c (Ch.tv (putV vs now)))) := by
  obtain ⟨x', tk, sg'⟩ := sg.tick hp hp2 h0 hn hb
  refine CallL.mono (fire_spec h4 m1 sg.sorted sg.len (by rw [sg.seq]; exact hq) now tk sg.one (hasC_some hcs m2)) ?_
  rintro _ L2 ⟨sl, rfl, hfr⟩
  rw [put_tv hv] at hfr
  rw [put_tv hv]
  rcases hfr with ⟨_, _, rfl, rfl⟩ | ⟨b, ex, hb, z, _⟩
  · exact ⟨_, sg', rfl, rfl⟩
  · simp at z
theorem fire_once (h4 : H_timer_Set_Fire N F) (m1 : L s = some (.abs (SetP s σ))) (m2 : L c = some (.abs (ChanP c (Ch.tv vs)))) (hcs : c ≠ s) (hv : vs.length ≤ 1) (sg : Sg σ k dat (some c) g due q 0) (hq : 0 ≤ q ∧ q < 4611686018427387904) {now : Int} (h0 : 0 ≤ due) (hn : due ≤ now) :
    CallL F (N k_timer_Set_Fire) [.p (some (s, 0)), .i .i64 now] L fun v L' => ∃ σ', Idl σ' k dat (some c) g q ∧ v = .tup [firedAV 0 k due now dat (.sl none 0 0 0) (keptV vs), .b true] ∧ L' = (L.put s (.abs (SetP s σ'))).put c (.abs (ChanP c (Ch.tv (putV vs now)))) := by
  obtain ⟨x', tk, sg'⟩ := sg.once h0 hn
  refine CallL.mono (fire_spec h4 m1 sg.sorted sg.len (by rw [sg.seq]; exact hq) now tk sg.one (hasC_some hcs m2)) ?_
  rintro _ L2 ⟨sl, rfl, hfr⟩
  rw [put_tv hv] at hfr
  rw [put_tv hv]
  rcases hfr with ⟨_, _, rfl, rfl⟩ | ⟨b, ex, hb, z, _⟩
  · exact ⟨_, sg', rfl, rfl⟩
  · simp at z
theorem fire_onceN (h4 : H_timer_Set_Fire N F) (m1 : L s = some (.abs (SetP s σ))) (sg : Sg σ k dat none g due q 0) (hq : 0 ≤ q ∧ q < 4611686018427387904) {now : Int} (h0 : 0 ≤ due) (hn : due ≤ now) :
    CallL F (N k_timer_Set_Fire) [.p (some (s, 0)), .i .i64 now] L fun v L' => ∃ σ', Idl σ' k dat none g q ∧ v = .tup [firedAV 0 k due now dat (.sl none 0 0 0) false, .b true] ∧ L' = L.put s (.abs (SetP s σ')) := by
  obtain ⟨x', tk, sg'⟩ := sg.once h0 hn
  refine CallL.mono (fire_spec h4 m1 sg.sorted sg.len (by rw [sg.seq]; exact hq) now tk sg.one (x := Ch.tm) (by intro a ha; cases ha)) ?_
  rintro _ L2 ⟨sl, rfl, hfr⟩
  rcases hfr with ⟨_, _, rfl, rfl⟩ | ⟨b, ex, hb, z, _⟩
  · exact ⟨_, sg', rfl, rfl⟩
  · simp [putsC] at z
theorem fire_wait (h4 : H_timer_Set_Fire N F) (m1 : L s = some (.abs (SetP s σ))) (sg : Sg σ k dat (some c) g due q p) (hq : 0 ≤ q ∧ q < 4611686018427387904) {now : Int} (hn : now < due) :
    CallL F (N k_timer_Set_Fire) [.p (some (s, 0)), .i .i64 now] L fun v L' => v = .tup [firedAV 0 0 0 0 0 (.sl none 0 0 0) false, .b false] ∧ L' = L :=
  fire_none h4 m1 sg.sorted sg.len (by rw [sg.seq]; exact hq) now (sg.wait hn)
def recvAV (vs : List Int) : AV := match vs with
  | [] => .tup [.i .i64 0, .b false, .b false, .sl none 0 0 0]
  | a :: _ => .tup [.i .i64 a, .b true, .b true, .sl none 0 0 0]
theorem recv_tv (h : H_chanq_Chan_Recv N F) (m2 : L c = some (.abs (ChanP c (Ch.tv vs)))) :
    CallL F (N k_chanq_Chan_Recv) [.p (some (c, 0))] L fun v L' => v = recvAV vs ∧ L' = L.put c (.abs (ChanP c (Ch.tv vs.tail))) := by
  refine (recv_spec h m2).mono ?_
  rintro _ L' ⟨sl, rfl, hfr⟩
  cases vs with
  | nil =>
    rcases hfr with ⟨_, _, rfl, rfl⟩ | ⟨b, ex, hb, z, _⟩
    · exact ⟨rfl, rfl⟩
    · simp [Ch.tv, Ch.recv] at z
  | cons a r =>
    rcases hfr with ⟨_, _, rfl, rfl⟩ | ⟨b, ex, hb, z, _⟩
    · exact ⟨rfl, rfl⟩
    · simp [Ch.tv, Ch.recv] at z
end
end Go.AM
