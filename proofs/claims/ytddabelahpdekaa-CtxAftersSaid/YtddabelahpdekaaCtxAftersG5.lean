/- The texts LibCtxO, LibCtxP, LibLaw, LawCtxAftersP, LawCtxAfters of a proof of CtxAfters, merged. -/
import Derived.Test.YtddabelahpdekaaCtxAftersG4
/- ctx: what is made is as it should be; in plain Lean. -/
set_option linter.unusedVariables false
set_option linter.unusedSimpArgs false
namespace Go.AM
theorem Added.back {ns ms : List Nd} {parent : Int} {lk : Bool} (h : Added ns parent lk ms) {j : Nat} {m : Nd} (hm : ms[j]? = some m) : (j < ns.length ∧ ∃ n, ns[j]? = some n ∧ m.parent = n.parent ∧ m.linked = n.linked) ∨ (j = ns.length ∧ m.parent = parent ∧ m.linked = lk) := by
  have hj : j < ms.length := (List.getElem?_eq_some_iff.1 hm).1
  rw [h.len] at hj
  by_cases e : j < ns.length
  · obtain ⟨m', h1, h2, h3⟩ := h.old j _ (List.getElem?_eq_getElem e)
    rw [hm] at h1; cases h1
    exact .inl ⟨e, _, List.getElem?_eq_getElem e, h2, h3⟩
  · have : j = ns.length := by omega
    subst this
    obtain ⟨m', h1, h2, h3⟩ := h.new
    rw [hm] at h1; cases h1
    exact .inr ⟨rfl, h2, h3⟩
theorem Added.kids {ns ms : List Nd} {parent : Int} {lk : Bool} (h : Added ns parent lk ms) {k : Int} (hk : kidsOf ns k = []) (hp : parent ≠ k ∨ lk = false) : kidsOf ms k = [] := by
  rw [List.eq_nil_iff_forall_not_mem]
  intro i hi
  obtain ⟨m, h1, h2, h3⟩ := kidsOf_mem.1 hi
  rcases h.back h1 with ⟨_, n, e1, e2, e3⟩ | ⟨_, e2, e3⟩
  · have : i ∈ kidsOf ns k := kidsOf_mem.2 ⟨n, e1, by rw [← e3]; exact h2, by rw [← e2]; exact h3⟩
    rw [hk] at this; cases this
  · rcases hp with hp | hp
    · exact hp (by rw [← e2]; exact h3)
    · rw [h2] at e3; rw [hp] at e3; cases e3
theorem WF.node {S : CX} (h : WF S) {p : Nat} {up : One} (hup : S.σ.ones[p]? = some up) : hasT S.σ.tree up.node = true ∧ up.node ≠ -1 := by
  obtain ⟨k, h1, h2, _⟩ := h.who1 p up hup
  refine ⟨?_, by omega⟩
  simp [hasT, h1]; omega
theorem WF.not_aft {S : CX} (h : WF S) {p j : Nat} {up : One} {x : Aft} (hup : S.σ.ones[p]? = some up) (hx : S.σ.afts[j]? = some x) : up.node ≠ x.node := by
  intro e
  obtain ⟨k, h1, h2, h3⟩ := h.who1 p up hup
  obtain ⟨k', g1, g2, g3, _⟩ := h.who2 j x hx
  have : k = k' := by omega
  subst this
  rw [h3] at g3; simp at g3; omega
/-- a context more -/
theorem WF.add {S : CX} (h : WF S) {p : Nat} {up o : One} {χ' : Nat → Ch} (hup : S.σ.ones[p]? = some up) (hlen : S.σ.ones.length < 64) (ho : o.err = 0)
    (hχ : ∀ a n, (S.χ a).recvs.length + (S.χ a).sends.length ≤ n → (χ' a).recvs.length + (χ' a).sends.length ≤ n) (hc : ∀ a, o.c = some a → (χ' a).recvs.length + (χ' a).sends.length ≤ 1000000) :
    WF ({ S with σ := S.σ.add o up.node, χ := χ' } : CX) ∧ (S.σ.add o up.node).ones = S.σ.ones ++ [{ o with node := S.σ.tree.length, timer := -1 }] ∧ Added S.σ.tree up.node (!o.free) (S.σ.add o up.node).tree ∧ (S.σ.add o up.node).who = updI S.σ.who S.σ.tree.length (some (S.σ.ones.length : Int)) := by
  have hn := h.node hup
  have hlt : S.σ.tree.length < 1000 := by have := h.len; have := h.sz; omega
  obtain ⟨ms, e, had⟩ := treeAdd_ok (linked := !o.free) h.tr hlt (.inr hn.1)
  have hlk : ((!o.free) && decide (up.node ≠ -1)) = !o.free := by simp [hn.2]
  rw [hlk] at had
  have eo : (S.σ.add o up.node).ones = S.σ.ones ++ [{ o with node := S.σ.tree.length, timer := -1 }] := by simp [Cs.add, e]
  have et : (S.σ.add o up.node).tree = ms := by simp [Cs.add, e]
  have ew : (S.σ.add o up.node).who = updI S.σ.who S.σ.tree.length (some (S.σ.ones.length : Int)) := by simp [Cs.add, e]
  have ea : (S.σ.add o up.node).afts = S.σ.afts := rfl
  have oback : ∀ (w : Nat) (x : One), (S.σ.add o up.node).ones[w]? = some x → (w < S.σ.ones.length ∧ S.σ.ones[w]? = some x) ∨ (w = S.σ.ones.length ∧ x = { o with node := S.σ.tree.length, timer := -1 }) := by
    intro w x hx
    rw [eo] at hx
    by_cases hw : w < S.σ.ones.length
    · rw [List.getElem?_append_left hw] at hx; exact .inl ⟨hw, hx⟩
    · rw [List.getElem?_append_right (by omega)] at hx
      have hz : w - S.σ.ones.length = 0 := by
        rcases Nat.eq_zero_or_pos (w - S.σ.ones.length) with h9 | h9
        · exact h9
        · rw [List.getElem?_eq_none (by simp; omega)] at hx; cases hx
      rw [hz] at hx; simp at hx
      exact .inr ⟨by omega, hx.symm⟩
  have ofwd : ∀ (w : Nat) (x : One), S.σ.ones[w]? = some x → (S.σ.add o up.node).ones[w]? = some x := by
    intro w x hx
    have hw : w < S.σ.ones.length := (List.getElem?_eq_some_iff.1 hx).1
    rw [eo, List.getElem?_append_left hw]; exact hx
  have who_old : ∀ k : Nat, k < S.σ.tree.length → (S.σ.add o up.node).who k = S.σ.who k := by
    intro k hk
    rw [ew]; unfold updI
    rw [if_neg (by omega)]
  refine ⟨⟨by rw [et]; exact had.ok, ⟨by rw [eo]; simp; omega, h.sz.2⟩, ?_, ?_, ?_, ?_, ?_, ?_, ?_, h.tlen⟩, eo, by rw [et]; exact had, ew⟩
  · show (S.σ.add o up.node).tree.length = (S.σ.add o up.node).ones.length + S.σ.afts.length
    rw [et, had.len, eo, h.len]; simp; omega
  · intro w x hx
    show ∃ k, _ ∧ k < (S.σ.add o up.node).tree.length ∧ (S.σ.add o up.node).who k = _
    rw [et, had.len]
    rcases oback w x hx with ⟨_, h1⟩ | ⟨rfl, rfl⟩
    · obtain ⟨k, k1, k2, k3⟩ := h.who1 w x h1
      exact ⟨k, k1, by omega, by rw [who_old k k2]; exact k3⟩
    · exact ⟨S.σ.tree.length, rfl, by omega, by rw [ew]; simp [updI]⟩
  · intro w x hx
    show ∃ k, _ ∧ k < (S.σ.add o up.node).tree.length ∧ (S.σ.add o up.node).who k = _ ∧ kidsOf (S.σ.add o up.node).tree k = []
    rw [et, had.len]
    obtain ⟨k, k1, k2, k3, k4⟩ := h.who2 w x hx
    refine ⟨k, k1, by omega, by rw [who_old k k2]; exact k3, had.kids k4 (.inl ?_)⟩
    have := h.not_aft hup hx
    omega
  · intro k hk
    have hk' : k < (S.σ.add o up.node).tree.length := hk
    rw [et, had.len] at hk'
    by_cases e1 : k < S.σ.tree.length
    · rcases h.cover k e1 with ⟨w, x, c1, c2, c3⟩ | ⟨w, x, c1, c2, c3⟩
      · exact .inl ⟨w, x, by show (S.σ.add o up.node).who k = _; rw [who_old k e1]; exact c1, ofwd w x c2, c3⟩
      · exact .inr ⟨w, x, by show (S.σ.add o up.node).who k = _; rw [who_old k e1]; exact c1, c2, c3⟩
    · have : k = S.σ.tree.length := by omega
      subst this
      refine .inl ⟨S.σ.ones.length, { o with node := S.σ.tree.length, timer := -1 }, ?_, ?_, rfl⟩
      · show (S.σ.add o up.node).who _ = _
        rw [ew]; simp [updI]
      · show (S.σ.add o up.node).ones[_]? = _
        rw [eo]; simp
  · intro w k x n hx hk hn2
    have hn2' : ms[k]? = some n := by rw [← et]; exact hn2
    rcases had.back hn2' with ⟨b1, m, b2, b3, b4⟩ | ⟨b1, b3, b4⟩
    · rcases oback w x hx with ⟨_, h1⟩ | ⟨rfl, rfl⟩
      · rw [b4]; exact h.live w k x m h1 hk b2
      · simp at hk; omega
    · rcases oback w x hx with ⟨_, h1⟩ | ⟨rfl, rfl⟩
      · obtain ⟨k2, k3, k4, _⟩ := h.who1 w x h1
        omega
      · rw [b4]; simp [ho]
  · intro x hx a ha
    obtain ⟨w, hw⟩ := List.mem_iff_getElem?.1 hx
    rcases oback w x hw with ⟨_, h1⟩ | ⟨rfl, rfl⟩
    · exact hχ a _ (h.chs x (List.mem_of_getElem? h1) a ha)
    · exact hc a ha
  · intro x hx s o2 hs ho2
    obtain ⟨w, hw⟩ := List.mem_iff_getElem?.1 hx
    rcases oback w x hw with ⟨_, h1⟩ | ⟨rfl, rfl⟩
    · exact h.tms x (List.mem_of_getElem? h1) s o2 hs ho2
    · simp [Tms.one, Tms.has] at ho2
theorem updC_sizes (χ : Nat → Ch) (a b n : Nat) (h : (χ b).recvs.length + (χ b).sends.length ≤ n) : (updC χ a .sg b).recvs.length + (updC χ a .sg b).sends.length ≤ n := by
  unfold updC
  split
  · simp [Ch.sg]
  · exact h
theorem WF.room {S : CX} (h : WF S) {p : Nat} {up : One} (hup : S.σ.ones[p]? = some up) (hlen : S.σ.ones.length < 64) : S.σ.room p = 0 := by
  have hp : p < S.σ.ones.length := (List.getElem?_eq_some_iff.1 hup).1
  have : S.σ.has p = true := by simp [Cs.has]; omega
  simp [Cs.room, this]; omega
theorem WF.okAdd {S : CX} (h : WF S) : S.okAdd = true := by
  have := h.sz
  simp [CX.okAdd, h.tr.kok]; omega
/-- a context of one that is not done -/
theorem WF.cancelsP {S : CX} (h : WF S) {p : Nat} {up : One} (hup : S.σ.ones[p]? = some up) (hlen : S.σ.ones.length < 64) (he : up.err = 0) (a : Nat) :
    S.cancelsP p a = some (S.addS { One.zero with when := up.when, has := up.has } up.node a, (S.σ.ones.length : Int), [], 0) ∧ WF (S.addS { One.zero with when := up.when, has := up.has } up.node a) := by
  have hw := h.add (o := { ({ One.zero with when := up.when, has := up.has } : One) with c := some a }) (χ' := updC S.χ a .sg) hup hlen rfl (fun b n hb => updC_sizes _ _ _ _ hb) (fun b hb => by simp at hb; subst hb; simp [updC, Ch.sg])
  refine ⟨?_, hw.1⟩
  unfold CX.cancelsP
  rw [if_neg (by simp [h.room hup hlen]), if_pos h.okAdd]
  simp only [Int.toNat_natCast, hup]
  have hp : p < S.σ.ones.length := (List.getElem?_eq_some_iff.1 hup).1
  have hb : (S.addS { One.zero with when := up.when, has := up.has } up.node a).beginP S.σ.ones.length p = some (S.addS { One.zero with when := up.when, has := up.has } up.node a, []) := by
    unfold CX.beginP
    rw [if_pos (by omega)]
    have : (S.addS { One.zero with when := up.when, has := up.has } up.node a).σ.ones[((p : Int)).toNat]? = some up := by
      show (S.σ.add _ _).ones[_]? = _
      rw [hw.2.1, Int.toNat_natCast, List.getElem?_append_left hp]; exact hup
    rw [this]
    simp only
    rw [if_pos he]
  rw [hb]
theorem wf_new (t : Option Nat) (τ : Tms) (χ : Nat → Ch) (hτ : τ.x.l.length ≤ 1000000) : WF ⟨Cs.new t, τ, χ⟩ := by
  have e : treeAdd [] (-1) false = ([⟨-1, false, []⟩], 0, 0) := by simp [treeAdd]
  have ew : (Cs.new t).who = updI (fun _ => none) 0 (some 0) := by simp [Cs.new, Cs.add, One.zero, e]
  have eo : (Cs.new t).ones = [{ One.zero with free := true, timer := -1 }] := by simp [Cs.new, Cs.add, One.zero, e]
  have et : (Cs.new t).tree = [⟨-1, false, []⟩] := by simp [Cs.new, Cs.add, One.zero, e]
  have ea : (Cs.new t).afts = [] := rfl
  refine ⟨⟨by rw [et]; simp, ?_, ?_⟩, by simp [eo, ea], by simp [et, eo, ea], ?_, ?_, ?_, ?_, ?_, ?_, hτ⟩
  · intro k n hn
    simp only [et] at hn ⊢
    cases k with
    | zero => simp at hn; subst hn; rfl
    | succ k => simp at hn
  · intro k n hn hl
    simp only [et] at hn
    cases k with
    | zero => simp at hn; subst hn; cases hl
    | succ k => simp at hn
  · intro i x hx
    simp only [eo] at hx
    cases i with
    | zero => simp at hx; subst hx; exact ⟨0, rfl, by simp [et], by simp [ew, updI]⟩
    | succ k => simp at hx
  · intro i x hx; simp only [ea] at hx; simp at hx
  · intro k hk
    simp only [et] at hk
    simp at hk; subst hk
    exact .inl ⟨0, { One.zero with free := true, timer := -1 }, by simp [ew, updI], by simp [eo], rfl⟩
  · intro i k x n hx hk hn
    simp only [eo] at hx
    simp only [et] at hn
    cases i with
    | zero =>
      simp at hx; subst hx
      cases k with
      | zero => simp at hn; subst hn; simp
      | succ k => simp at hn
    | succ k => simp at hx
  · intro x hx a ha
    simp only [eo] at hx
    simp at hx; subst hx; simp [One.zero] at ha
  · intro x hx s o hs ho
    simp only [eo] at hx
    simp at hx; subst hx
    simp [Tms.one, Tms.has] at ho
/-- an after more -/
theorem WF.aft {S : CX} (h : WF S) {p : Nat} {up : One} (hup : S.σ.ones[p]? = some up) (hlen : S.σ.afts.length < 64) (prog : Int) :
    WF ({ S with σ := S.σ.aft up prog } : CX) ∧ (S.σ.aft up prog).afts = S.σ.afts ++ [⟨S.σ.tree.length, prog, false⟩] ∧ Added S.σ.tree up.node true (S.σ.aft up prog).tree ∧ (S.σ.aft up prog).who = updI S.σ.who S.σ.tree.length (some (-(S.σ.afts.length : Int) - 1)) := by
  have hn := h.node hup
  have hlt : S.σ.tree.length < 1000 := by have := h.len; have := h.sz; omega
  obtain ⟨ms, e, had⟩ := treeAdd_ok (linked := true) h.tr hlt (.inr hn.1)
  have hlk : (true && decide (up.node ≠ -1)) = true := by simp [hn.2]
  rw [hlk] at had
  have eo : (S.σ.aft up prog).afts = S.σ.afts ++ [⟨S.σ.tree.length, prog, false⟩] := by simp [Cs.aft, e]
  have et : (S.σ.aft up prog).tree = ms := by simp [Cs.aft, e]
  have ew : (S.σ.aft up prog).who = updI S.σ.who S.σ.tree.length (some (-(S.σ.afts.length : Int) - 1)) := by simp [Cs.aft, e]
  have ea : (S.σ.aft up prog).ones = S.σ.ones := rfl
  have oback : ∀ (w : Nat) (x : Aft), (S.σ.aft up prog).afts[w]? = some x → (w < S.σ.afts.length ∧ S.σ.afts[w]? = some x) ∨ (w = S.σ.afts.length ∧ x = ⟨S.σ.tree.length, prog, false⟩) := by
    intro w x hx
    rw [eo] at hx
    by_cases hw : w < S.σ.afts.length
    · rw [List.getElem?_append_left hw] at hx; exact .inl ⟨hw, hx⟩
    · rw [List.getElem?_append_right (by omega)] at hx
      have hz : w - S.σ.afts.length = 0 := by
        rcases Nat.eq_zero_or_pos (w - S.σ.afts.length) with h9 | h9
        · exact h9
        · rw [List.getElem?_eq_none (by simp; omega)] at hx; cases hx
      rw [hz] at hx; simp at hx
      exact .inr ⟨by omega, hx.symm⟩
  have ofwd : ∀ (w : Nat) (x : Aft), S.σ.afts[w]? = some x → (S.σ.aft up prog).afts[w]? = some x := by
    intro w x hx
    have hw : w < S.σ.afts.length := (List.getElem?_eq_some_iff.1 hx).1
    rw [eo, List.getElem?_append_left hw]; exact hx
  have who_old : ∀ k : Nat, k < S.σ.tree.length → (S.σ.aft up prog).who k = S.σ.who k := by
    intro k hk
    rw [ew]; unfold updI
    rw [if_neg (by omega)]
  have kn : kidsOf S.σ.tree (S.σ.tree.length : Int) = [] := by
    rw [List.eq_nil_iff_forall_not_mem]
    intro i hi
    have := kidsOf_lt h.tr hi
    omega
  obtain ⟨kp, hkp1, hkp2, _⟩ := h.who1 p up hup
  refine ⟨⟨by rw [et]; exact had.ok, ⟨h.sz.1, by rw [eo]; simp; omega⟩, ?_, ?_, ?_, ?_, ?_, h.chs, h.tms, h.tlen⟩, eo, by rw [et]; exact had, ew⟩
  · show (S.σ.aft up prog).tree.length = S.σ.ones.length + (S.σ.aft up prog).afts.length
    rw [et, had.len, eo, h.len]; simp; omega
  · intro w x hx
    show ∃ k, _ ∧ k < (S.σ.aft up prog).tree.length ∧ (S.σ.aft up prog).who k = _
    rw [et, had.len]
    obtain ⟨k, k1, k2, k3⟩ := h.who1 w x hx
    exact ⟨k, k1, by omega, by rw [who_old k k2]; exact k3⟩
  · intro w x hx
    show ∃ k, _ ∧ k < (S.σ.aft up prog).tree.length ∧ (S.σ.aft up prog).who k = _ ∧ kidsOf (S.σ.aft up prog).tree k = []
    rw [et, had.len]
    rcases oback w x hx with ⟨_, h1⟩ | ⟨rfl, rfl⟩
    · obtain ⟨k, k1, k2, k3, k4⟩ := h.who2 w x h1
      refine ⟨k, k1, by omega, by rw [who_old k k2]; exact k3, had.kids k4 (.inl ?_)⟩
      have := h.not_aft hup h1
      omega
    · exact ⟨S.σ.tree.length, rfl, by omega, by rw [ew]; simp [updI], had.kids kn (.inl (by omega))⟩
  · intro k hk
    have hk' : k < (S.σ.aft up prog).tree.length := hk
    rw [et, had.len] at hk'
    by_cases e1 : k < S.σ.tree.length
    · rcases h.cover k e1 with ⟨w, x, c1, c2, c3⟩ | ⟨w, x, c1, c2, c3⟩
      · exact .inl ⟨w, x, by show (S.σ.aft up prog).who k = _; rw [who_old k e1]; exact c1, c2, c3⟩
      · exact .inr ⟨w, x, by show (S.σ.aft up prog).who k = _; rw [who_old k e1]; exact c1, ofwd w x c2, c3⟩
    · have : k = S.σ.tree.length := by omega
      subst this
      refine .inr ⟨S.σ.afts.length, ⟨S.σ.tree.length, prog, false⟩, ?_, ?_, rfl⟩
      · show (S.σ.aft up prog).who _ = _
        rw [ew]; simp [updI]
      · show (S.σ.aft up prog).afts[_]? = _
        rw [eo]; simp
  · intro w k x n hx hk hn2
    have hn2' : ms[k]? = some n := by rw [← et]; exact hn2
    rcases had.back hn2' with ⟨b1, m, b2, b3, b4⟩ | ⟨b1, b3, b4⟩
    · rw [b4]; exact h.live w k x m hx hk b2
    · obtain ⟨k2, k3, k4, _⟩ := h.who1 w x hx
      omega
/-- an after of one that is not done -/
theorem WF.afterX {S : CX} (h : WF S) {p : Nat} {up : One} (hup : S.σ.ones[p]? = some up) (hlen : S.σ.afts.length < 64) (he : up.err = 0) {prog : Int} (hp : 0 ≤ prog) :
    S.afterX p prog = some ({ S with σ := S.σ.aft up prog }, (S.σ.afts.length : Int), [], 0) := by
  have hpl : p < S.σ.ones.length := (List.getElem?_eq_some_iff.1 hup).1
  have hh : S.σ.has p = true := by unfold Cs.has; simp; omega
  unfold CX.afterX
  rw [if_neg (by simp [hh]), if_neg (by omega), if_neg (by omega), if_pos h.tr.kok]
  simp only [Int.toNat_natCast, hup]
  rw [if_neg (by simp [he])]
end Go.AM


/- ctx: what a walk tells; what laws keep of memory. -/
set_option linter.unusedVariables false
set_option linter.unusedSimpArgs false
namespace Go.AM
theorem filterMap_congr' {α β : Type} {f g : α → Option β} : ∀ (l : List α), (∀ x ∈ l, f x = g x) → l.filterMap f = l.filterMap g
  | [], _ => rfl
  | a :: r, h => by rw [List.filterMap_cons, List.filterMap_cons, h a (by simp), filterMap_congr' r fun x hx => h x (by simp [hx])]
/-- each context has its own channel -/
def Chans (S : CX) : Prop := ∀ (i j : Nat) (x y : One) (a : Nat), S.σ.ones[i]? = some x → S.σ.ones[j]? = some y → x.c = some a → y.c = some a → i = j
def chW (S : CX) : Option Nat → List Wk
  | none => []
  | some a => (S.χ a).endS.2
def lapOf (S : CX) (err cause : Int) (j : Nat) : Option Lap :=
  let w := (S.σ.who j).getD 0
  if w < 0 then none else (S.σ.ones[w.toNat]?).map fun x => ⟨w, err, cause, chW S x.c⟩
def stOf (S : CX) (j : Nat) : Option (Int × Int) :=
  let w := (S.σ.who j).getD 0
  if w < 0 then (S.σ.afts[(-w - 1).toNat]?).map fun x => (-w - 1, x.prog) else none
theorem hitL_res (err cause : Int) (acc : CRes) (j : Nat) : (hitL err cause acc j).2.1 = acc.2.1 ++ (lapOf acc.1 err cause j).toList ∧ (hitL err cause acc j).2.2 = acc.2.2 ++ (stOf acc.1 j).toList := by
  unfold hitL lapOf stOf
  simp only
  split
  · rename_i h
    split
    · rename_i x hx; rw [hx]; simp
    · rename_i hx; rw [hx]; simp
  · rename_i h
    split
    · rename_i x hx
      have e : ((acc.1.setOne ((acc.1.σ.who j).getD 0).toNat { x with err := err, cause := cause }).endT x.c).2 = chW acc.1 x.c := by cases x.c <;> rfl
      simp [hx, e]
    · rename_i hx; simp [hx]
/-- the channel of a context is not touched by another's hit -/
theorem hitL_chi {T : List Nd} (err cause : Int) {acc : CRes} {j a : Nat} (hj : LiveAt T acc.1 j) (h : ∀ (i : Nat) (x : One), acc.1.σ.who j = some (i : Int) → acc.1.σ.ones[i]? = some x → x.c ≠ some a) : (hitL err cause acc j).1.χ a = acc.1.χ a := by
  rcases hj with ⟨w, x, q1, q2, _⟩ | ⟨k, x, q1, q5, q2, _⟩
  · have hnn : ¬ ((w : Int) < 0) := by omega
    unfold hitL
    simp only [q1, Option.getD_some, hnn, if_false, Int.toNat_natCast, q2]
    rw [(stopT_facts _ _).2.1]
    have := h w x q1 q2
    cases hc : x.c with
    | none => rfl
    | some b =>
      rw [hc] at this
      have hab : a ≠ b := fun h9 => this (by rw [h9])
      simp [CX.endT, updC, hab, CX.setOne]
  · have hneg : (-(k : Int) - 1) < 0 := by omega
    have hk : (-(-(k : Int) - 1) - 1) = (k : Int) := by omega
    unfold hitL
    simp only [q1, Option.getD_some, hneg, if_true, hk, Int.toNat_natCast, q2]
theorem hits_res {T : List Nd} (err cause : Int) : ∀ (l : List Nat) (acc : CRes), Whos acc.1 → (∀ i ∈ l, LiveAt T acc.1 i) → l.Nodup → Chans acc.1 →
    (l.foldl (hitL err cause) acc).2.1 = acc.2.1 ++ l.filterMap (lapOf acc.1 err cause) ∧ (l.foldl (hitL err cause) acc).2.2 = acc.2.2 ++ l.filterMap (stOf acc.1)
  | [], acc, _, _, _, _ => by simp
  | a :: r, acc, hw, h, hn, hch => by
    have ha := h a (by simp)
    have hn' := List.nodup_cons.1 hn
    have hk := hitL_keeps err cause acc a
    obtain ⟨o1, o2⟩ := hitL_ones err cause hw ha
    have hch' : Chans (hitL err cause acc a).1 := by
      intro i j x y b hx hy h1 h2
      rw [o1] at hx hy
      cases e1 : acc.1.σ.ones[i]? with
      | none => rw [e1] at hx; cases hx
      | some x' =>
        cases e2 : acc.1.σ.ones[j]? with
        | none => rw [e2] at hy; cases hy
        | some y' =>
          rw [e1] at hx; rw [e2] at hy
          simp at hx hy; subst hx; subst hy
          refine hch i j x' y' b e1 e2 ?_ ?_
          · split at h1 <;> exact h1
          · split at h2 <;> exact h2
    obtain ⟨i1, i2⟩ := hits_res (T := T) err cause r (hitL err cause acc a) (hw.hit err cause ha) (fun i hi => (h i (by simp [hi])).hit err cause ha (by rintro rfl; exact hn'.1 hi)) hn'.2 hch'
    obtain ⟨r1, r2⟩ := hitL_res err cause acc a
    simp only [List.foldl_cons]
    have c1 : r.filterMap (lapOf (hitL err cause acc a).1 err cause) = r.filterMap (lapOf acc.1 err cause) := by
      apply filterMap_congr'
      intro j hj
      have hja : j ≠ a := by rintro rfl; exact hn'.1 hj
      have hLj := h j (by simp [hj])
      unfold lapOf
      simp only [hk.1]
      split
      · rfl
      · rename_i hneg
        rw [o1]
        rcases hLj with ⟨w, x, q1, q2, q3, _⟩ | ⟨k, x, q1, _⟩
        · simp only [q1, Option.getD_some, Int.toNat_natCast, q2, Option.map_some]
          have hna : ¬ x.node = (a : Int) := by omega
          simp only [hna, if_false]
          congr 2
          cases hc : x.c with
          | none => rfl
          | some b =>
            simp only [chW]
            rw [hitL_chi err cause ha]
            intro i y h1 h2 h3
            have := hch w i x y b q2 h2 hc h3
            subst this
            rw [q2] at h2; cases h2
            obtain ⟨k', e1, e2⟩ := hw.w1 w x q2
            have : k' = j := by omega
            subst this
            rcases ha with ⟨w', x', p1, p2, p3, _⟩ | ⟨_, _, p1, _⟩
            · rw [h1] at p1
              have : w = w' := by simp at p1; omega
              subst this
              rw [q2] at p2; cases p2
              omega
            · rw [h1] at p1; simp at p1; omega
        · rw [q1] at hneg; simp at hneg; omega
    have c2 : r.filterMap (stOf (hitL err cause acc a).1) = r.filterMap (stOf acc.1) := by
      apply filterMap_congr'
      intro j hj
      unfold stOf
      simp only [hk.1]
      split
      · rw [o2]
        cases acc.1.σ.afts[(-(acc.1.σ.who j).getD 0 - 1).toNat]? with
        | none => rfl
        | some x => simp only [Option.map_some]; split <;> rfl
      · rfl
    rw [i1, i2, r1, r2, c1, c2]
    refine ⟨?_, ?_⟩
    · rw [List.filterMap_cons]
      cases lapOf acc.1 err cause a <;> simp
    · rw [List.filterMap_cons]
      cases stOf acc.1 a <;> simp
/-! ### what laws keep of memory -/
section
variable {c : Nat} {S S' : CX} {L L2 : Lg}
theorem CDone.raw (h : CDone c S S' L L2) (e : L c = some (.abs (CtxP c S.σ))) (ho : OutC c S L) {r : Nat} {x : AB} (hr : L r = some (.raw x)) : L2 r = some (.raw x) := by
  rw [h.fr r (by rw [hr]; simp) (by rintro rfl; rw [hr] at e; cases e) (fun h9 => by have := (ho.tms r h9).2; rw [hr] at this; cases this) (fun o h8 h9 => by have := (ho.chs o h8 r h9).2.2; rw [hr] at this; cases this)]
  exact hr
/-- all raw blocks are kept -/
def RawK (L L2 : Lg) : Prop := ∀ r x, L r = some (.raw x) → L2 r = some (.raw x)
theorem CDone.rawK (h : CDone c S S' L L2) (e : L c = some (.abs (CtxP c S.σ))) (ho : OutC c S L) : RawK L L2 := fun r x hr => h.raw e ho hr
theorem RawK.refl (L : Lg) : RawK L L := fun _ _ h => h
theorem RawK.trans {L3 : Lg} (h : RawK L L2) (k : RawK L2 L3) : RawK L L3 := fun r x hr => k r x (h r x hr)
theorem RawK.osl (h : RawK L L2) {v : AV} {cs : List AV} {n size : Nat} (o : OSl L v cs n size) : OSl L2 v cs n size := o.mono fun b hb => by rw [o.block hb]; exact h _ _ (o.block hb)
theorem RawK.slK (h : RawK L L2) {v : AV} {ws : List Wk} (o : SlK L v ws) : SlK L2 v ws := o.mono fun b hb => by
  rcases o with ⟨_, rfl⟩ | ⟨b', ex, rfl, h2⟩
  · cases hb
  · simp [slB] at hb; subst hb; rw [h2]; exact h _ _ h2
theorem RawK.put (L : Lg) {b : Nat} (hb : L b = none) (d : LC) : RawK L (L.put b d) := fun r x hr => by
  rw [Lg.put_ne _ _ _ (by rintro rfl; rw [hb] at hr; cases hr)]; exact hr
end
/-- what is known to answer true -/
theorem known2_spec {F : Nat → Option AFn} {f : Nat} (h : F f = some kTrue) (L : Lg) : CallL F f [] L fun v L' => v = .b true ∧ L' = L := by
  apply CallL.of_wp h
  show fin _ _ _ _ _
  exact ⟨L, Sees.refl _, rfl, rfl⟩
/-- a row of slices, read -/
theorem ResP.get {L0 K : Lg} {v1 v2 : AV} {ps : List (Lap × AV)} {sts : List (Int × Int)} {F : Nat → Option AFn} (h : ResP L0 K v1 v2 ps sts) {i : Nat} {p : Lap × AV} (hi : ps[i]? = some p) : ∃ b, K b = some (.raw (.cells (flatc lapc ps))) ∧
    (∀ (X : Lg) (k : AV → Lg → Prop), wpOp F (.iad 4) [v1, .i .i64 i] X k = k (.p (some (b, i * 4))) X) ∧ (∀ X : Lg, X b = K b → ∀ j, j < 4 → rdL X (b, i * 4 + j) none = (lapc p)[j]?) := by
  have hl : i < ps.length := (List.getElem?_eq_some_iff.1 hi).1
  obtain ⟨b, h1, h2, h3, h4⟩ := h.o1.iad (F := F) (x := (i : Int)) (by omega) (by omega)
  refine ⟨b, h2, fun X k => by simpa using h4 X k .i64, fun X hX j hj => ?_⟩
  rw [rdL_cell (by rw [hX]; exact h2), flatc_get (k := 4) (fun _ => rfl) ps i j p hi hj]
end Go.AM


/- what laws do with slices of their own. -/
set_option linter.unusedVariables false
set_option linter.unusedSimpArgs false
namespace Go.AM
variable {N : Nat → Nat} {F : Nat → Option AFn}
/-- all that was is there, but one block -/
def KeepE (o : Option Nat) (K K1 : Lg) : Prop := ∀ r d, K r = some d → o ≠ some r → K1 r = some d
theorem push1 {K : Lg} {v x z : AV} {cs : List AV} {n bytes : Nat} (h : OSl K v cs n 1) (hx : x.cellsOf = some [x]) (hb : bytes ≤ 1000) (hn : n ≤ 1000000) {k : AV → Lg → Prop}
    (hk : ∀ (v' : AV) (K1 : Lg), OSl K1 v' (cs ++ [x]) (n + 1) 1 → KeepE (slB v) K K1 → (∀ b, slB v' = some b → K b = none) → k v' K1) :
    wpOp F (.bslice [z] 1 1 [0]) [x] K fun s L => wpOp F (.app 1 bytes) [v, s] L k := by
  have hone : x.one = true := by have := cellsOf_one hx; simpa using this
  rw [wp_bslice, newL_bslice (c := [x]) _ _ (by simp [reps, fillP, splice, ble_nat, beq_nat, hx]) (by simp [hone])]
  intro b1 hb1
  rw [wp_app]
  have g1 : (K.put b1 (.raw (.cells [x]))) b1 = some (.raw (.cells [x])) := Lg.put_same _ _ _
  have h1 : OSl (K.put b1 (.raw (.cells [x]))) v cs n 1 := h.mono fun b hbb => Lg.put_ne _ _ _ (by rintro rfl; have := h.block hbb; rw [hb1] at this; cases this)
  refine h1.app (m := 1) (by omega) rfl (by omega) (new := [x]) (by simp [rdCellsL, AB.read, cut, ble_nat]) rfl (by simp [hone]) (by have : (n + 1) * bytes ≤ 1000001 * 1000 := Nat.mul_le_mul (by omega) hb; omega) ?_
  intro b2 K1 g hO
  have f2 : b2 ≠ b1 ∧ K b2 = none := by
    have := g.fresh
    have n1 : b2 ≠ b1 := by rintro rfl; rw [Lg.put_same] at this; cases this
    rw [Lg.put_ne _ _ _ n1] at this
    exact ⟨n1, this⟩
  refine hk _ _ hO ?_ ?_
  · intro r d hr hne
    have r1 : r ≠ b1 := by rintro rfl; rw [hb1] at hr; cases hr
    have r2 : r ≠ b2 := by rintro rfl; rw [f2.2] at hr; cases hr
    rw [g.same r r2 hne, Lg.put_ne _ _ _ r1]; exact hr
  · intro b hbb; simp [slB] at hbb; subst hbb; exact f2.2
theorem KeepE.osl {o : Option Nat} {K K1 : Lg} (h : KeepE o K K1) {v : AV} {cs : List AV} {n size : Nat} (s : OSl K v cs n size) (hn : ∀ b, slB v = some b → o ≠ some b) : OSl K1 v cs n size := s.mono fun b hb => by rw [s.block hb]; exact h b _ (s.block hb) (hn b hb)
theorem KeepE.argSl {o : Option Nat} {K K1 : Lg} (h : KeepE o K K1) {v : AV} {cs : List AV} {n size : Nat} (s : ArgSl K v cs n size) (hn : ∀ b, o = some b → ∃ cs, K b = some (.raw (.cells cs))) : ArgSl K1 v cs n size := by
  obtain ⟨h1, h2 | ⟨b, cap, h2, h3⟩⟩ := s
  · exact ⟨h1, .inl h2⟩
  · refine ⟨h1, .inr ⟨b, cap, h2, h b _ h3 ?_⟩⟩
    intro h9
    obtain ⟨cs, h4⟩ := hn b h9
    rw [h3] at h4; cases h4
theorem RawK.argSl {K K1 : Lg} (h : RawK K K1) {v : AV} {cs : List AV} {n size : Nat} (s : ArgSl K v cs n size) : ArgSl K1 v cs n size := by
  obtain ⟨h1, h2 | ⟨b, cap, h2, h3⟩⟩ := s
  · exact ⟨h1, .inl h2⟩
  · exact ⟨h1, .inr ⟨b, cap, h2, h b _ h3⟩⟩
theorem KeepE.outC {o : Option Nat} {K K1 : Lg} (h : KeepE o K K1) (hn : ∀ b, o = some b → ∃ x, K b = some (.raw x)) {c : Nat} {S : CX} (e : K c = some (.abs (CtxP c S.σ))) (ho : OutC c S K) : K1 c = some (.abs (CtxP c S.σ)) ∧ OutC c S K1 := by
  have key : ∀ r P, K r = some (.abs P) → K1 r = some (.abs P) := fun r P hr => h r _ hr (by intro h9; obtain ⟨x, h8⟩ := hn r h9; rw [hr] at h8; cases h8)
  exact ⟨key _ _ e, fun s hs => ⟨(ho.tms s hs).1, key _ _ (ho.tms s hs).2⟩, fun o1 h1 a h2 => ⟨(ho.chs o1 h1 a h2).1, (ho.chs o1 h1 a h2).2.1, key _ _ (ho.chs o1 h1 a h2).2.2⟩⟩
theorem OSl.rawB {K : Lg} {v : AV} {cs : List AV} {n size : Nat} (h : OSl K v cs n size) : ∀ b, slB v = some b → ∃ x, K b = some (.raw x) := fun b hb => ⟨_, h.block hb⟩
theorem OSl.cellsB {K : Lg} {v : AV} {cs : List AV} {n size : Nat} (h : OSl K v cs n size) : ∀ b, slB v = some b → ∃ cs, K b = some (.raw (.cells cs)) := fun b hb => ⟨_, h.block hb⟩
/-- one of a slice of one's own -/
theorem OSl.at1 {K : Lg} {v : AV} {cs : List AV} {n : Nat} (h : OSl K v cs n 1) {i : Nat} (hi : i < n) : ∃ b, (∀ (X : Lg) (k : AV → Lg → Prop), wpOp F (.iad 1) [v, .i .i64 i] X k = k (.p (some (b, i))) X) ∧ rdL K (b, i) none = cs[i]? := by
  obtain ⟨b, h1, h2, h3, h4⟩ := h.iad (F := F) (x := (i : Int)) (by omega) (by omega)
  exact ⟨b, fun X k => by simpa using h4 X k .i64, by rw [rdL_cell h2]⟩
theorem ArgSl.at1 {K : Lg} {v : AV} {cs : List AV} {n : Nat} (h : ArgSl K v cs n 1) {i : Nat} (hi : i < n) : ∃ b, (∀ (X : Lg) (k : AV → Lg → Prop), wpOp F (.iad 1) [v, .i .i64 i] X k = k (.p (some (b, i))) X) ∧ rdL K (b, i) none = cs[i]? := by
  obtain ⟨b, cap, rfl, h2⟩ := h.get hi
  refine ⟨b, fun X k => ?_, by rw [rdL_ro h2]⟩
  rw [wp_iad F X k 1 b 0 n cap 0 .i64 i (by omega) (by omega)]
  simp
end Go.AM


/- CtxAfters: the plain part. -/
set_option linter.unusedVariables false
set_option linter.unusedSimpArgs false
namespace Go.AM
/-- an after that is over, and off its tree -/
def CX.offA (S : CX) (i : Nat) (x : Aft) : CX := { S with σ := { S.σ with afts := S.σ.afts.set i { x with over := true }, tree := killT S.σ.tree fun k => decide (k = x.node.toNat) } }
theorem WF.offA {S : CX} (h : WF S) {i : Nat} {x : Aft} (hx : S.σ.afts[i]? = some x) : WF (S.offA i x) ∧ S.unafterX i = some (S.offA i x, !x.over, 0) ∧ S.σ.startP i = some ((S.offA i x).σ, ((i : Int), x.prog)) := by
  obtain ⟨k, h1, h2, h3, h4⟩ := h.who2 i x hx
  have hd : detP S.σ.tree x.node = some (killT S.σ.tree fun j => decide (j = k)) := by rw [h1]; exact detP_ok h.tr h2
  have hil := (List.getElem?_eq_some_iff.1 hx).1
  have hk : x.node.toNat = k := by omega
  have hget : ∀ (j : Nat) (y : Aft), (S.offA i x).σ.afts[j]? = some y → ∃ z, S.σ.afts[j]? = some z ∧ y.node = z.node := by
    intro j y hy
    have hy : (S.σ.afts.set i { x with over := true })[j]? = some y := hy
    by_cases e : i = j
    · subst e
      rw [List.getElem?_set_self hil] at hy
      cases hy
      exact ⟨x, hx, rfl⟩
    · rw [List.getElem?_set_ne e] at hy
      exact ⟨y, hy, rfl⟩
  have hfwd : ∀ (j : Nat) (z : Aft), S.σ.afts[j]? = some z → ∃ y, (S.offA i x).σ.afts[j]? = some y ∧ y.node = z.node := by
    intro j z hz
    show ∃ y, (S.σ.afts.set i { x with over := true })[j]? = some y ∧ _
    by_cases e : i = j
    · subst e
      rw [List.getElem?_set_self hil]
      rw [hx] at hz; cases hz
      exact ⟨_, rfl, rfl⟩
    · rw [List.getElem?_set_ne e]
      exact ⟨z, hz, rfl⟩
  have htl : (S.offA i x).σ.tree.length = S.σ.tree.length := killT_length _ _
  refine ⟨⟨h.tr.kill _, ⟨h.sz.1, ?_⟩, ?_, ?_, ?_, ?_, ?_, h.chs, h.tms, h.tlen⟩, ?_, ?_⟩
  · show (S.σ.afts.set i _).length ≤ 64
    rw [List.length_set]; exact h.sz.2
  · rw [htl]
    show _ = S.σ.ones.length + (S.σ.afts.set i _).length
    rw [List.length_set]; exact h.len
  · intro j y hy
    rw [htl]
    exact h.who1 j y hy
  · intro j y hy
    obtain ⟨z, hz, hn⟩ := hget j y hy
    obtain ⟨k', e1, e2, e3, e4⟩ := h.who2 j z hz
    refine ⟨k', by rw [hn]; exact e1, by rw [htl]; exact e2, e3, ?_⟩
    show kidsOf (killT _ _) _ = []
    rw [kidsOf_kill, e4]; rfl
  · intro k' hk'
    rw [htl] at hk'
    rcases h.cover k' hk' with ⟨w, y, c1, c2, c3⟩ | ⟨w, y, c1, c2, c3⟩
    · exact .inl ⟨w, y, c1, c2, c3⟩
    · obtain ⟨z, hz, hn⟩ := hfwd w y c2
      exact .inr ⟨w, z, c1, hz, by rw [hn]; exact c3⟩
  · intro w k' y n hy hyk hn
    have hn : (killT S.σ.tree fun k => decide (k = x.node.toNat))[k']? = some n := hn
    rw [killT_get] at hn
    cases e : S.σ.tree[k']? with
    | none => rw [e] at hn; cases hn
    | some m =>
      rw [e] at hn; simp at hn; subst hn
      have hne := h.not_aft (p := w) hy hx
      have : ¬ k' = x.node.toNat := by omega
      simp only [this, decide_false, Bool.not_false, Bool.and_true]
      exact h.live w k' y m hy hyk e
  · unfold CX.unafterX
    rw [if_pos ⟨by omega, by omega⟩]
    simp only [Int.toNat_natCast, hx]
    rw [hd]
    simp only [CX.offA, hk]
  · unfold Cs.startP
    rw [if_pos (by omega)]
    simp only [Int.toNat_natCast, hx]
    rw [hd]
    simp only [CX.offA, hk]
/-- an after of one that is done: it is started at once -/
theorem WF.afterD {S : CX} (h : WF S) {p : Nat} {up : One} (hup : S.σ.ones[p]? = some up) (hlen : S.σ.afts.length < 64) (he : up.err ≠ 0) {prog : Int} (hp : 0 ≤ prog) :
    ∃ S' : CX, WF S' ∧ S.afterX p prog = some (S', (S.σ.afts.length : Int), [((S.σ.afts.length : Int), prog)], 0) ∧ ∃ x : Aft, S'.σ.afts[S.σ.afts.length]? = some x ∧ x.over = true := by
  have hpl : p < S.σ.ones.length := (List.getElem?_eq_some_iff.1 hup).1
  have hh : S.σ.has p = true := by unfold Cs.has; simp; omega
  obtain ⟨w1, w2, w3, w4⟩ := h.aft hup hlen prog
  have hx : ({ S with σ := S.σ.aft up prog } : CX).σ.afts[S.σ.afts.length]? = some ⟨S.σ.tree.length, prog, false⟩ := by
    show (S.σ.aft up prog).afts[_]? = _
    rw [w2]; simp
  obtain ⟨o1, o2, o3⟩ := w1.offA hx
  refine ⟨_, o1, ?_, ⟨S.σ.tree.length, prog, true⟩, ?_, rfl⟩
  · unfold CX.afterX
    rw [if_neg (by rw [hh]; simp), if_neg (by omega), if_neg (by omega), if_pos h.tr.kok]
    simp only [Int.toNat_natCast, hup]
    rw [if_pos he]
    have o3' : (S.σ.aft up prog).startP (S.σ.afts.length : Int) = some _ := o3
    rw [o3']
    rfl
  · show ((S.σ.aft up prog).afts.set _ _)[_]? = _
    rw [List.getElem?_set_self (by rw [w2]; simp)]
def nodA : Nat → Int
  | 0 => 1
  | 1 => 2
  | _ => 0
/-- two contexts, one on the other, and afters -/
structure As (S : CX) (js : List Nat) (ov : Nat → Bool) : Prop where
  wf : WF S
  ch : Chans S
  len : S.σ.ones.length = 3
  one0 : ∃ x, S.σ.ones[0]? = some x ∧ x.node = 0 ∧ x.err = 0
  one1 : ∃ x, S.σ.ones[1]? = some x ∧ x.node = 1 ∧ x.free = false ∧ x.err = 0
  one2 : ∃ x, S.σ.ones[2]? = some x ∧ x.node = 2 ∧ x.free = false ∧ x.err = 0
  aft : ∀ i : Nat, S.σ.afts[i]? = (js[i]?).map fun _ => ⟨((3 + i : Nat) : Int), ((100 + i : Nat) : Int), ov i⟩
  nd1 : ∃ n, S.σ.tree[1]? = some n ∧ n.parent = 0 ∧ n.linked = true
  nd2 : ∃ n, S.σ.tree[2]? = some n ∧ n.parent = 1 ∧ n.linked = true
  nd : ∀ (i j : Nat), js[i]? = some j → ∃ n, S.σ.tree[3 + i]? = some n ∧ n.parent = nodA j ∧ n.linked = !ov i
  nd0 : ∀ n, S.σ.tree[0]? = some n → n.linked = false
theorem As.alen {S : CX} {js : List Nat} {ov : Nat → Bool} (h : As S js ov) : S.σ.afts.length = js.length := by
  rcases Nat.lt_trichotomy S.σ.afts.length js.length with h9 | h9 | h9
  · have := h.aft S.σ.afts.length
    rw [List.getElem?_eq_none (Nat.le_refl _), List.getElem?_eq_getElem h9] at this; cases this
  · exact h9
  · have := h.aft js.length
    rw [List.getElem?_eq_getElem h9, List.getElem?_eq_none (Nat.le_refl _)] at this; cases this
theorem As.tlen {S : CX} {js : List Nat} {ov : Nat → Bool} (h : As S js ov) : S.σ.tree.length = 3 + js.length := by
  have := h.wf.len
  rw [h.len, h.alen] at this; exact this
/-- one more -/
theorem As.push {S : CX} {js : List Nat} {ov : Nat → Bool} (h : As S js ov) {j : Nat} (hj : j < 3) (hl : js.length < 60) (ho : ov js.length = false) :
    ∃ S', S.afterX (nodA j) ((100 + js.length : Nat) : Int) = some (S', (js.length : Int), [], 0) ∧ As S' (js ++ [j]) ov ∧ S'.σ.t = S.σ.t := by
  obtain ⟨p, x, hp, hx, hxn, hxe⟩ : ∃ (p : Nat) (x : One), nodA j = (p : Int) ∧ S.σ.ones[p]? = some x ∧ x.node = (p : Int) ∧ x.err = 0 := by
    obtain ⟨x0, a1, a2, a3⟩ := h.one0
    obtain ⟨x1, b1, b2, _, b3⟩ := h.one1
    obtain ⟨x2, c1, c2, _, c3⟩ := h.one2
    rcases j with _ | _ | _ | j
    · exact ⟨1, x1, rfl, b1, b2, b3⟩
    · exact ⟨2, x2, rfl, c1, c2, c3⟩
    · exact ⟨0, x0, rfl, a1, a2, a3⟩
    · omega
  have hal := h.alen
  have htl := h.tlen
  have ax := h.wf.afterX hx (by omega) hxe (prog := ((100 + js.length : Nat) : Int)) (by omega)
  obtain ⟨w1, w2, w3, w4⟩ := h.wf.aft hx (by omega) ((100 + js.length : Nat) : Int)
  have hold : ∀ (k : Nat) (n : Nd), S.σ.tree[k]? = some n → ∃ m, (S.σ.aft x ((100 + js.length : Nat) : Int)).tree[k]? = some m ∧ m.parent = n.parent ∧ m.linked = n.linked := w3.old
  refine ⟨_, by rw [hp]; rw [hal] at ax; exact ax, ⟨w1, h.ch, h.len, h.one0, h.one1, h.one2, ?_, ?_, ?_, ?_, ?_⟩, rfl⟩
  · intro i
    show (S.σ.aft x _).afts[i]? = _
    rw [w2]
    rcases Nat.lt_trichotomy i js.length with h9 | h9 | h9
    · rw [List.getElem?_append_left (by omega), List.getElem?_append_left h9]; exact h.aft i
    · subst h9
      rw [List.getElem?_append_right (by omega), List.getElem?_append_right (by omega)]
      simp [hal, htl, ho]
    · rw [List.getElem?_eq_none (by simp; omega), List.getElem?_eq_none (by simp; omega)]; rfl
  · obtain ⟨n, n1, n2, n3⟩ := h.nd1
    obtain ⟨m, m1, m2, m3⟩ := hold 1 n n1
    exact ⟨m, m1, by rw [m2]; exact n2, by rw [m3]; exact n3⟩
  · obtain ⟨n, n1, n2, n3⟩ := h.nd2
    obtain ⟨m, m1, m2, m3⟩ := hold 2 n n1
    exact ⟨m, m1, by rw [m2]; exact n2, by rw [m3]; exact n3⟩
  · intro i j' hj'
    rcases Nat.lt_trichotomy i js.length with h9 | h9 | h9
    · rw [List.getElem?_append_left h9] at hj'
      obtain ⟨n, n1, n2, n3⟩ := h.nd i j' hj'
      obtain ⟨m, m1, m2, m3⟩ := hold (3 + i) n n1
      exact ⟨m, m1, by rw [m2]; exact n2, by rw [m3]; exact n3⟩
    · subst h9
      rw [List.getElem?_append_right (by omega)] at hj'
      simp at hj'; subst hj'
      obtain ⟨m, m1, m2, m3⟩ := w3.new
      rw [htl] at m1
      exact ⟨m, m1, by rw [m2, hxn]; exact hp.symm, by rw [m3, ho]; rfl⟩
    · rw [List.getElem?_eq_none (by simp; omega)] at hj'; cases hj'
  · intro n hn
    have h0 : 0 < S.σ.tree.length := by omega
    obtain ⟨m, m1, m2, m3⟩ := hold 0 _ (List.getElem?_eq_getElem h0)
    have hn : (S.σ.aft x ((100 + js.length : Nat) : Int)).tree[0]? = some n := hn
    rw [m1] at hn; cases hn
    rw [m3]
    exact h.nd0 _ (List.getElem?_eq_getElem h0)
/-- one taken back -/
theorem As.off {S : CX} {js : List Nat} {ov : Nat → Bool} (h : As S js ov) {i : Nat} (hi : i < js.length) :
    ∃ S', S.unafterX i = some (S', !ov i, 0) ∧ As S' js (fun k => ov k || decide (k = i)) ∧ S'.σ.t = S.σ.t := by
  have hx : S.σ.afts[i]? = some ⟨((3 + i : Nat) : Int), ((100 + i : Nat) : Int), ov i⟩ := by rw [h.aft, List.getElem?_eq_getElem hi]; rfl
  have hal := h.alen
  obtain ⟨o1, o2, o3⟩ := h.wf.offA hx
  have hkill : ∀ (k : Nat) (n : Nd), S.σ.tree[k]? = some n → ∃ m, (killT S.σ.tree fun k => decide (k = (((3 + i : Nat) : Int)).toNat))[k]? = some m ∧ m.parent = n.parent ∧ m.linked = (n.linked && !decide (k = 3 + i)) := by
    intro k n hn
    rw [killT_get, hn]
    refine ⟨_, rfl, rfl, ?_⟩
    show (n.linked && !decide (k = (((3 + i : Nat) : Int)).toNat)) = _
    rw [Int.toNat_natCast]
  refine ⟨_, o2, ⟨o1, h.ch, h.len, h.one0, h.one1, h.one2, ?_, ?_, ?_, ?_, ?_⟩, rfl⟩
  · intro k
    show (S.σ.afts.set i _)[k]? = _
    by_cases e : i = k
    · subst e
      rw [List.getElem?_set_self (by omega), List.getElem?_eq_getElem hi]
      simp
    · rw [List.getElem?_set_ne e, h.aft]
      have : ¬ k = i := fun h9 => e h9.symm
      simp [this]
  · obtain ⟨n, n1, n2, n3⟩ := h.nd1
    obtain ⟨m, m1, m2, m3⟩ := hkill 1 n n1
    exact ⟨m, m1, by rw [m2]; exact n2, by rw [m3, n3]; simp; omega⟩
  · obtain ⟨n, n1, n2, n3⟩ := h.nd2
    obtain ⟨m, m1, m2, m3⟩ := hkill 2 n n1
    exact ⟨m, m1, by rw [m2]; exact n2, by rw [m3, n3]; simp; omega⟩
  · intro k j' hj'
    obtain ⟨n, n1, n2, n3⟩ := h.nd k j' hj'
    obtain ⟨m, m1, m2, m3⟩ := hkill (3 + k) n n1
    refine ⟨m, m1, by rw [m2]; exact n2, ?_⟩
    rw [m3, n3]
    have : decide (3 + k = 3 + i) = decide (k = i) := by congr 1; simp
    rw [this]
    cases ov k <;> simp
  · intro n hn
    have hn : (killT S.σ.tree _)[0]? = some n := hn
    rw [killT_get] at hn
    cases e : S.σ.tree[0]? with
    | none => rw [e] at hn; cases hn
    | some m =>
      rw [e] at hn; simp at hn; subst hn
      simp [h.nd0 m e]
/-- who of a kind stays -/
def stay (js : List Nat) (ov : Nat → Bool) (j : Nat) : List Nat := (List.range js.length).filter fun i => decide (js[i]? = some j) && !ov i
theorem As.hang {S : CX} {js : List Nat} {ov : Nat → Bool} (h : As S js ov) {j : Nat} (hj : j < 2) (i : Nat) (hi : i < js.length) (hjs : ∀ k ∈ js, k < 3) : hangs S.σ.tree (nodA j) (3 + i) = (decide (js[i]? = some j) && !ov i) := by
  have hji : js[i]? = some js[i] := List.getElem?_eq_getElem hi
  obtain ⟨n, n1, n2, n3⟩ := h.nd i _ hji
  have h3 := hjs js[i] (List.getElem_mem hi)
  unfold hangs
  rw [n1]
  simp only [n2, n3, hji, Option.some.injEq]
  have : (nodA js[i] = nodA j) ↔ js[i] = j := by
    generalize js[i] = a at h3 ⊢
    rcases a with _ | _ | _ | a <;> rcases j with _ | _ | j <;> simp [nodA] <;> omega
  simp only [this]
  cases ov i <;> simp
theorem As.kids2 {S : CX} {js : List Nat} {ov : Nat → Bool} (h : As S js ov) (hjs : ∀ k ∈ js, k < 3) : kidsOf S.σ.tree 2 = (stay js ov 1).map fun i => 3 + i := by
  unfold kidsOf stay
  rw [h.tlen, List.range_add, List.filter_append]
  have e1 : (List.range 3).filter (hangs S.σ.tree 2) = [] := by
    rw [List.filter_eq_nil_iff]
    intro k hk
    rw [List.mem_range] at hk
    obtain ⟨n1, a1, a2, a3⟩ := h.nd1
    obtain ⟨n2, b1, b2, b3⟩ := h.nd2
    rcases k with _ | _ | _ | k
    · unfold hangs
      cases e : S.σ.tree[0]? with
      | none => simp
      | some m => simp [h.nd0 m e]
    · simp [hangs, a1, a2]
    · simp [hangs, b1, b2]
    · omega
  rw [e1, List.nil_append, List.filter_map]
  congr 1
  apply List.filter_congr
  intro i hi
  rw [List.mem_range] at hi
  exact h.hang (j := 1) (by omega) i hi hjs
theorem As.kids1 {S : CX} {js : List Nat} {ov : Nat → Bool} (h : As S js ov) (hjs : ∀ k ∈ js, k < 3) : kidsOf S.σ.tree 1 = 2 :: (stay js ov 0).map fun i => 3 + i := by
  unfold kidsOf stay
  rw [h.tlen, List.range_add, List.filter_append]
  have e1 : (List.range 3).filter (hangs S.σ.tree 1) = [2] := by
    obtain ⟨n1, a1, a2, a3⟩ := h.nd1
    obtain ⟨n2, b1, b2, b3⟩ := h.nd2
    have c0 : hangs S.σ.tree 1 0 = false := by
      unfold hangs
      cases e : S.σ.tree[0]? with
      | none => simp
      | some m => simp [h.nd0 m e]
    have c1 : hangs S.σ.tree 1 1 = false := by simp [hangs, a1, a2]
    have c2 : hangs S.σ.tree 1 2 = true := by simp [hangs, b1, b2, b3]
    show List.filter _ [0, 1, 2] = _
    simp [c0, c1, c2]
  rw [e1, List.filter_map]
  show _ = [2] ++ _
  congr 2
  apply List.filter_congr
  intro i hi
  rw [List.mem_range] at hi
  exact h.hang (j := 0) (by omega) i hi hjs
theorem As.leaf {S : CX} {js : List Nat} {ov : Nat → Bool} (h : As S js ov) {i : Nat} (hi : i < js.length) (f : Nat) : pre S.σ.tree (f + 1) (3 + i) = [3 + i] := by
  have hx : S.σ.afts[i]? = some ⟨((3 + i : Nat) : Int), ((100 + i : Nat) : Int), ov i⟩ := by rw [h.aft, List.getElem?_eq_getElem hi]; rfl
  obtain ⟨k, h1, h2, h3, h4⟩ := h.wf.who2 i _ hx
  have : k = 3 + i := by simp only at h1; omega
  subst this
  show (3 + i) :: (kidsOf S.σ.tree ((3 + i : Nat) : Int)).flatMap _ = _
  rw [h4]; rfl
theorem flatMap_single {α β : Type} {f : α → List β} {g : α → β} : ∀ (l : List α), (∀ x ∈ l, f x = [g x]) → l.flatMap f = l.map g
  | [], _ => rfl
  | a :: r, h => by rw [List.flatMap_cons, h a (by simp), flatMap_single r fun x hx => h x (by simp [hx])]; rfl
theorem stay_lt {js : List Nat} {ov : Nat → Bool} {j i : Nat} (h : i ∈ stay js ov j) : i < js.length := by
  unfold stay at h
  rw [List.mem_filter, List.mem_range] at h; exact h.1
theorem As.walk {S : CX} {js : List Nat} {ov : Nat → Bool} (h : As S js ov) (hjs : ∀ k ∈ js, k < 3) : pre S.σ.tree 200 1 = 1 :: 2 :: ((stay js ov 1 ++ stay js ov 0).map fun i => 3 + i) := by
  have leafs : ∀ (f j : Nat), ((stay js ov j).map fun i => 3 + i).flatMap (pre S.σ.tree (f + 1)) = (stay js ov j).map fun i => 3 + i := by
    intro f j
    rw [List.flatMap_map]
    exact flatMap_single _ fun i hi => h.leaf (stay_lt hi) f
  have p2 : pre S.σ.tree 199 2 = 2 :: (stay js ov 1).map fun i => 3 + i := by
    show 2 :: (kidsOf S.σ.tree ((2 : Nat) : Int)).flatMap (pre S.σ.tree 198) = _
    have : ((2 : Nat) : Int) = 2 := rfl
    rw [this, h.kids2 hjs, leafs 197 1]
  show 1 :: (kidsOf S.σ.tree ((1 : Nat) : Int)).flatMap (pre S.σ.tree 199) = _
  have : ((1 : Nat) : Int) = 1 := rfl
  rw [this, h.kids1 hjs, List.flatMap_cons, p2, leafs 198 0, List.map_append]
  rfl
theorem filterMap_some {α β : Type} {f : α → Option β} {g : α → β} : ∀ (l : List α), (∀ x ∈ l, f x = some (g x)) → l.filterMap f = l.map g
  | [], _ => rfl
  | a :: r, h => by rw [List.filterMap_cons, h a (by simp), filterMap_some r fun x hx => h x (by simp [hx])]; rfl
/-- the outer one is over: who stays is started -/
theorem As.cancel {S : CX} {js : List Nat} {ov : Nat → Bool} (h : As S js ov) (hjs : ∀ k ∈ js, k < 3) (hl : js.length < 60) :
    ∃ (S' : CX) (laps : List Lap), S.cancelX 1 0 = some (S', laps, (stay js ov 1 ++ stay js ov 0).map fun (i : Nat) => ((i : Int), ((100 + i : Nat) : Int)), 0) ∧ WF S' ∧ S'.σ.t = S.σ.t ∧ S'.σ.afts.length = js.length ∧
      (∃ x, S'.σ.ones[1]? = some x ∧ x.free = false ∧ x.err ≠ 0) ∧ (∃ x, S'.σ.ones[2]? = some x ∧ x.err ≠ 0) ∧ S'.σ.ones.length = 3 := by
  obtain ⟨x, hx, hxn, hxf, hxe⟩ := h.one1
  obtain ⟨y, hy, hyn, hyf, hye⟩ := h.one2
  have hc := h.wf.cancelP (i := 1) (k := 1) hx hxn hxf hxe 1 1
  obtain ⟨r, hr⟩ : ∃ r, walked S.σ.tree 1 1 (fun _ => false) (pre S.σ.tree 200 1) (S, [], []) = r := ⟨_, rfl⟩
  obtain ⟨w1, w2, w3, w4, w5, w6, w7⟩ := h.wf.walk (i := 1) (k := 1) hx hxn hxf hxe (by omega) hr
  obtain ⟨g1, g2⟩ := hits_res (T := S.σ.tree) 1 1 (pre S.σ.tree 200 1) (S, [], []) h.wf.whos (h.wf.liveAt hx hxn hxf hxe 200) (pre_nodup h.wf.tr 200 1) h.ch
  have hp := h.walk hjs
  have hsts : r.2.2 = (stay js ov 1 ++ stay js ov 0).map fun (i : Nat) => ((i : Int), ((100 + i : Nat) : Int)) := by
    have : r.2.2 = ((pre S.σ.tree 200 1).foldl (hitL 1 1) (S, [], [])).2.2 := by rw [← hr]; rfl
    rw [this, g2, hp]
    obtain ⟨k1, a1, _, a3⟩ := h.wf.who1 1 x hx
    obtain ⟨k2, b1, _, b3⟩ := h.wf.who1 2 y hy
    have e1 : k1 = 1 := by omega
    have e2 : k2 = 2 := by omega
    subst e1; subst e2
    have a3' : S.σ.who 1 = some 1 := a3
    have b3' : S.σ.who 2 = some 2 := b3
    have s1 : stOf S 1 = none := by simp [stOf, a3']
    have s2 : stOf S 2 = none := by simp [stOf, b3']
    simp only [List.nil_append, List.filterMap_cons, s1, s2, List.filterMap_map]
    apply filterMap_some
    intro i hi
    have hi : i < js.length := by
      rcases List.mem_append.1 hi with h9 | h9 <;> exact stay_lt h9
    have hxa : S.σ.afts[i]? = some ⟨((3 + i : Nat) : Int), ((100 + i : Nat) : Int), ov i⟩ := by rw [h.aft, List.getElem?_eq_getElem hi]; rfl
    obtain ⟨k, q1, q2, q3, q4⟩ := h.wf.who2 i _ hxa
    have : k = 3 + i := by simp only at q1; omega
    subst this
    have hneg : (-(i : Int) - 1) < 0 := by omega
    have hk : (-(-(i : Int) - 1) - 1) = (i : Int) := by omega
    simp only [Function.comp, stOf, q3, Option.getD_some, hneg, if_true, hk, Int.toNat_natCast, hxa, Option.map_some]
  have hin1 : inL (pre S.σ.tree 200 1) x.node = true := by rw [hxn, hp]; simp [inL]
  have hin2 : inL (pre S.σ.tree 200 1) y.node = true := by rw [hyn, hp]; simp [inL]
  have hlen : ∀ {α : Type} (l m : List α) (f : α → α), (∀ w : Nat, l[w]? = (m[w]?).map f) → l.length = m.length := by
    intro α l m f hf
    rcases Nat.lt_trichotomy l.length m.length with h9 | h9 | h9
    · have := hf l.length
      rw [List.getElem?_eq_none (Nat.le_refl _), List.getElem?_eq_getElem h9] at this; cases this
    · exact h9
    · have := hf m.length
      rw [List.getElem?_eq_getElem h9, List.getElem?_eq_none (Nat.le_refl _)] at this; cases this
  refine ⟨r.1, r.2.1, ?_, w1, w3, by rw [hlen _ _ _ w7, h.alen], ⟨{ x with err := 1, cause := 1 }, by rw [w6, hx]; simp [hin1], hxf, by simp⟩, ⟨{ y with err := 1, cause := 1 }, by rw [w6, hy]; simp [hin2], by simp⟩, by rw [hlen _ _ _ w6]; exact h.len⟩
  have hh : S.σ.has 1 = true := by simp [Cs.has, h.len]
  unfold CX.cancelX
  rw [if_neg (by rw [hh]; simp)]
  have h1 : ((1 : Int)).toNat = 1 := rfl
  simp only [h1, hx, hxf, Bool.false_eq_true, if_false]
  have c01 : (if (0 : Int) < 1 then (1 : Int) else 0) = 1 := rfl
  have hc' : S.cancelP 200 1 1 1 = some r := by rw [← hr]; exact hc
  rw [c01, hc', ← hsts]
theorem CX.cancel_dead {S : CX} {x : One} (h : S.σ.ones[1]? = some x) (hf : x.free = false) (he : x.err ≠ 0) (hl : S.σ.ones.length = 3) : S.cancelX 1 0 = some (S, [], [], 0) := by
  have hh : S.σ.has 1 = true := by simp [Cs.has, hl]
  unfold CX.cancelX
  rw [if_neg (by rw [hh]; simp)]
  have h1 : ((1 : Int)).toNat = 1 := rfl
  simp only [h1, h, hf, Bool.false_eq_true, if_false]
  have := CX.cancelP_dead (S := S) (i := 1) h (.inr he) 199 1 1
  have c01 : (if (0 : Int) < 1 then (1 : Int) else 0) = 1 := rfl
  have hc' : S.cancelP 200 1 1 1 = some (S, [], []) := this
  rw [c01, hc']
end Go.AM


/- CtxAfters. -/
set_option linter.unusedVariables false
set_option linter.unusedSimpArgs false
namespace Go.AM
variable {N : Nat → Nat} {F : Nat → Option AFn}
theorem new3 {K : Lg} {x y z : Int} {d : AV} {k : AV → Lg → Prop} (hk : ∀ (v' : AV) (K1 : Lg), OSl K1 v' (icl [x, y, z]) 3 1 → KeepE none K K1 → k v' K1) : wpOp F (.bslice [d] 3 1 [0, 1, 2]) [.i .i64 x, .i .i64 y, .i .i64 z] K k := by
  rw [wp_bslice, newL_bslice (c := icl [x, y, z]) _ _ (by simp [reps, fillP, splice, ble_nat, beq_nat, AV.cellsOf, AV.one, icl]) (by simp [icl, AV.one])]
  intro b1 hb1
  refine hk _ _ (.inr ⟨b1, 0, by omega, rfl, .inl rfl, Lg.put_same _ _ _, rfl⟩) ?_
  intro r dd hr _
  rw [Lg.put_ne]; exact hr
  rintro rfl; rw [hb1] at hr; cases hr
def kd (z : Int) : Nat := (z % 3).toNat
theorem kd_lt (z : Int) : kd z < 3 := by unfold kd; omega
theorem kd_int (z : Int) : (kd z : Int) = z % 3 := by unfold kd; omega
/-- two contexts are made -/
theorem as_init {τ : Tms} {χ : Nat → Ch} {a b : Nat} (hab : a ≠ b) (hτ : τ.x.l.length ≤ 1000000) : 
    let S0 : CX := ⟨Cs.new none, τ, χ⟩
    let S1 := S0.addS { One.zero with when := 0, has := false } 0 a
    let S2 := S1.addS { One.zero with when := 0, has := false } 1 b
    (∀ a, S0.cancelsP 0 a = some (S0.addS { One.zero with when := 0, has := false } 0 a, 1, [], 0)) ∧ (∀ b, S1.cancelsP 1 b = some (S1.addS { One.zero with when := 0, has := false } 1 b, 2, [], 0)) ∧ As S2 [] (fun _ => false) ∧ S0.σ.room 0 = 0 ∧ S1.σ.room 1 = 0 ∧ ∃ o ∈ S1.σ.ones, o.c = some a := by
  intro S0 S1 S2
  have w0 : WF S0 := wf_new none τ χ hτ
  have e : treeAdd [] (-1) false = ([⟨-1, false, []⟩], 0, 0) := by simp [treeAdd]
  have eo : (Cs.new none).ones = [{ One.zero with free := true, timer := -1 }] := by simp [Cs.new, Cs.add, One.zero, e]
  have et : (Cs.new none).tree = [⟨-1, false, []⟩] := by simp [Cs.new, Cs.add, One.zero, e]
  have h0 : S0.σ.ones[0]? = some { One.zero with free := true, timer := -1 } := by show (Cs.new none).ones[0]? = _; rw [eo]; rfl
  have l0 : S0.σ.ones.length = 1 := by show (Cs.new none).ones.length = _; rw [eo]; rfl
  have t0 : S0.σ.tree = [⟨-1, false, []⟩] := et
  have c1 := fun a => w0.cancelsP (p := 0) h0 (by omega) rfl a
  have a1 := w0.add (o := { ({ One.zero with when := 0, has := false } : One) with c := some a }) (χ' := updC S0.χ a .sg) (p := 0) h0 (by omega) rfl (fun b n hb => updC_sizes _ _ _ _ hb) (fun b hb => by simp at hb; subst hb; simp [updC, Ch.sg])
  have o1 : S1.σ.ones = S0.σ.ones ++ [{ ({ ({ One.zero with when := 0, has := false } : One) with c := some a } : One) with node := S0.σ.tree.length, timer := -1 }] := a1.2.1
  have w1 : WF S1 := (c1 a).2
  have h1 : S1.σ.ones[1]? = some { ({ ({ One.zero with when := 0, has := false } : One) with c := some a } : One) with node := 1, timer := -1 } := by rw [o1, List.getElem?_append_right (by omega)]; simp [l0, t0]
  have h10 : S1.σ.ones[0]? = some { One.zero with free := true, timer := -1 } := by rw [o1, List.getElem?_append_left (by omega)]; exact h0
  have l1 : S1.σ.ones.length = 2 := by rw [o1]; simp [l0]
  have tl1 : S1.σ.tree.length = 2 := by rw [w1.len, l1]; rfl
  have c2 := fun b => w1.cancelsP (p := 1) h1 (by omega) rfl b
  have a2 := w1.add (o := { ({ One.zero with when := 0, has := false } : One) with c := some b }) (χ' := updC S1.χ b .sg) (p := 1) h1 (by omega) rfl (fun b n hb => updC_sizes _ _ _ _ hb) (fun b hb => by simp at hb; subst hb; simp [updC, Ch.sg])
  have o2 : S2.σ.ones = S1.σ.ones ++ [{ ({ ({ One.zero with when := 0, has := false } : One) with c := some b } : One) with node := S1.σ.tree.length, timer := -1 }] := a2.2.1
  have h2 : S2.σ.ones[2]? = some { ({ ({ One.zero with when := 0, has := false } : One) with c := some b } : One) with node := 2, timer := -1 } := by rw [o2, List.getElem?_append_right (by omega)]; simp [l1, tl1]
  have h21 : S2.σ.ones[1]? = some { ({ ({ One.zero with when := 0, has := false } : One) with c := some a } : One) with node := 1, timer := -1 } := by rw [o2, List.getElem?_append_left (by omega)]; exact h1
  have h20 : S2.σ.ones[0]? = some { One.zero with free := true, timer := -1 } := by rw [o2, List.getElem?_append_left (by omega)]; exact h10
  have l2 : S2.σ.ones.length = 3 := by rw [o2]; simp [l1]
  have n1 : ∃ n, S1.σ.tree[1]? = some n ∧ n.parent = 0 ∧ n.linked = true := by
    obtain ⟨m, m1, m2, m3⟩ := a1.2.2.1.new
    rw [t0] at m1
    exact ⟨m, m1, m2, m3⟩
  refine ⟨fun a => ?_, fun b => ?_, ⟨(c2 b).2, ?_, l2, ⟨_, h20, rfl, rfl⟩, ⟨_, h21, rfl, rfl, rfl⟩, ⟨_, h2, rfl, rfl, rfl⟩, ?_, ?_, ?_, ?_, ?_⟩, w0.room (p := 0) h0 (by omega), w1.room (p := 1) h1 (by omega), ⟨_, List.mem_of_getElem? h1, rfl⟩⟩
  · have := (c1 a).1; rw [l0] at this; exact this
  · have := (c2 b).1; rw [l1] at this; exact this
  · intro i j x y z hx hy e1 e2
    have key : ∀ (i : Nat) (x : One), S2.σ.ones[i]? = some x → x.c = some z → (i = 1 ∧ z = a) ∨ (i = 2 ∧ z = b) := by
      intro i x hx e1
      rcases i with _ | _ | _ | i
      · rw [h20] at hx; cases hx; cases e1
      · rw [h21] at hx; cases hx; simp at e1; exact .inl ⟨rfl, e1.symm⟩
      · rw [h2] at hx; cases hx; simp at e1; exact .inr ⟨rfl, e1.symm⟩
      · rw [List.getElem?_eq_none (by omega)] at hx; cases hx
    rcases key i x hx e1 with ⟨rfl, k1⟩ | ⟨rfl, k1⟩ <;> rcases key j y hy e2 with ⟨rfl, k2⟩ | ⟨rfl, k2⟩ <;> first | rfl | (exfalso; apply hab; omega)
  · intro i
    show ([] : List Aft)[i]? = _
    simp
  · obtain ⟨n, e1, e2, e3⟩ := n1
    obtain ⟨m, m1, m2, m3⟩ := a2.2.2.1.old 1 n e1
    exact ⟨m, m1, by rw [m2]; exact e2, by rw [m3]; exact e3⟩
  · obtain ⟨m, m1, m2, m3⟩ := a2.2.2.1.new
    rw [tl1] at m1
    exact ⟨m, m1, m2, m3⟩
  · intro i j hij; simp at hij
  · intro n hn
    obtain ⟨m, m1, m2, m3⟩ := a1.2.2.1.old 0 ⟨-1, false, []⟩ (by rw [t0]; rfl)
    obtain ⟨m', k1, k2, k3⟩ := a2.2.2.1.old 0 m m1
    have hn : (S1.σ.add _ _).tree[0]? = some n := hn
    rw [k1] at hn; cases hn
    rw [k3, m3]
/-- numbers, as a slice -/
def ncl (l : List Nat) : List AV := l.map fun (i : Nat) => .i .i64 (i : Int)
structure AfI (c : Nat) (S : CX) (js : List Nat) (ov : Nat → Bool) (want : List Nat) (v14 : AV) (K : Lg) : Prop where
  as : As S js ov
  own : K c = some (.abs (CtxP c S.σ))
  out : OutC c S K
  s14 : OSl K v14 (ncl want) want.length 1
def bk (bs : List Bool) (k : Nat) : Bool := bs[k]?.getD false
def ovI (bs : List Bool) (i k : Nat) : Bool := decide (k < i) && bk bs k
theorem ovI_zero (bs : List Bool) : ovI bs 0 = fun _ => false := by funext k; simp [ovI]
theorem ovI_step {bs : List Bool} {i : Nat} (h : bk bs i = true) : (fun k => ovI bs i k || decide (k = i)) = ovI bs (i + 1) := by
  funext k
  unfold ovI
  by_cases e : k = i
  · subst e; simp [h]
  · have : decide (k < i) = decide (k < i + 1) := by congr 1; simp; omega
    simp [e, this]
theorem ovI_step2 {bs : List Bool} {i : Nat} (h : bk bs i = true) : (fun k => ovI bs (i + 1) k || decide (k = i)) = ovI bs (i + 1) := by
  funext k
  unfold ovI
  by_cases e : k = i
  · subst e; simp [h]
  · simp [e]
theorem ovI_skip {bs : List Bool} {i : Nat} (h : bk bs i = false) : ovI bs i = ovI bs (i + 1) := by
  funext k
  unfold ovI
  by_cases e : k = i
  · subst e; simp [h]
  · have : decide (k < i) = decide (k < i + 1) := by congr 1; simp; omega
    rw [this]
/-- those of a kind that are not taken back, of the first i -/
def wnt (ls : List Int) (bs : List Bool) (j i : Nat) : List Nat := (List.range i).filter fun k => decide ((ls.map kd)[k]? = some j) && !bk bs k
theorem wnt_succ {ls : List Int} {bs : List Bool} {j i : Nat} (hi : i < ls.length) : wnt ls bs j (i + 1) = wnt ls bs j i ++ if kd ls[i] = j ∧ bk bs i = false then [i] else [] := by
  unfold wnt
  rw [List.range_succ, List.filter_append]
  congr 1
  have : (ls.map kd)[i]? = some (kd ls[i]) := by simp [hi]
  simp only [List.filter_cons, List.filter_nil, this, Option.some.injEq]
  by_cases h1 : kd ls[i] = j <;> by_cases h2 : bk bs i = false <;> simp [h1, h2]
theorem wnt_stay (ls : List Int) (bs : List Bool) (j : Nat) : stay (ls.map kd) (ovI bs ls.length) j = wnt ls bs j ls.length := by
  unfold stay wnt
  rw [List.length_map]
  apply List.filter_congr
  intro k hk
  rw [List.mem_range] at hk
  simp [ovI, hk]
theorem wnt_len (ls : List Int) (bs : List Bool) (j i : Nat) : (wnt ls bs j i).length ≤ i := by
  have := (List.filter_sublist (p := fun k => decide ((ls.map kd)[k]? = some j) && !bk bs k) (l := List.range i)).length_le
  simpa [wnt] using this
theorem wnt_lt {ls : List Int} {bs : List Bool} {j i k : Nat} (h : k ∈ wnt ls bs j i) : k < i := by
  unfold wnt at h
  rw [List.mem_filter, List.mem_range] at h; exact h.1
theorem ncl_snoc (l : List Nat) (i : Nat) : ncl (l ++ [i]) = ncl l ++ [.i .i64 (i : Int)] := by simp [ncl]
theorem ctxAfters_law {L0 : Lg} (code : F (N k_tarpaulinlaw15_CtxAfters) = some (c_tarpaulinlaw15_CtxAfters N)) (aw : F (N k_tarpaulinlaw15_awake) = some kTrue) (h1 : H_ctx_New N F) (h2 : H_ctx_Set_Cancels N F) (h3 : H_tarpaulinalike_Round N F) (h4 : H_ctx_Set_After N F) (h5 : H_ctx_Set_Unafter N F) (h6 : H_ctx_Set_Cancel N F)
    (ls : List Int) (x0 : AV) (s0 : ArgSl L0 x0 (icl ls) ls.length 1) (bs : List Bool) (x1 : AV) (s1 : ArgSl L0 x1 (bcl bs) bs.length 1) (late : Int) : CallL F (N k_tarpaulinlaw15_CtxAfters) [x0, x1, .i .i64 late] L0 fun v _ => v = .b true := by
  refine CallL.opq ?_
  intro Q hQ
  have fin : ∀ L, fin1 (some (.b true)) Q L := fun L => ⟨L, Sees.refl _, hQ _ _ rfl⟩
  have awk : ∀ L, CallL F (N k_tarpaulinlaw15_awake) [] L fun v17 L17 => fin1 (some v17) Q L17 := by
    intro L
    refine (known2_spec aw _).mono ?_
    rintro _ _ ⟨rfl, rfl⟩
    exact fin _
  apply r_tarpaulinlaw15_CtxAfters code
  unfold D_tarpaulinlaw15_CtxAfters_1 D_tarpaulinlaw15_CtxAfters_2
  by_cases g1 : 20 < ls.length
  · have : (20 : Int) < (ls.length : Int) := by omega
    simpa [initE, s0.len, s1.len, this] using awk _
  have g1' : ¬ (20 : Int) < (ls.length : Int) := by omega
  by_cases g2 : bs.length < ls.length
  · have g2' : (bs.length : Int) < (ls.length : Int) := by omega
    simpa [initE, s0.len, s1.len, g1', g2'] using awk _
  have g2' : ¬ (bs.length : Int) < (ls.length : Int) := by omega
  by_cases g3 : 30 < bs.length
  · have g3' : (30 : Int) < (bs.length : Int) := by omega
    simpa [initE, s0.len, s1.len, g1', g2', g3'] using awk _
  have g3' : ¬ (30 : Int) < (bs.length : Int) := by omega
  simp [initE, s0.len, s1.len, g1', g2', g3']
  first | refine ⟨fun h9 => absurd h9 (by omega), fun _ => ?_⟩ | skip
  unfold D_tarpaulinlaw15_CtxAfters_3
  have hpt : AV.p none = ptr none := rfl
  rw [hpt]
  refine (ctxNew_spec h1 _ none).mono ?_
  rintro _ L1 ⟨c, hc, rfl, hL1⟩
  have keep0 : RawK L0 L1 := by
    rw [hL1]; exact (RawK.put _ hc _)
  have hown1 : L1 c = some (.abs (CtxP c (Cs.new none))) := by rw [hL1, Lg.put_same]
  have hout1 : OutC c ⟨Cs.new none, ⟨[], ⟨[], 0, fun _ => none⟩, 0⟩, fun _ => Ch.sg⟩ L1 := by
    refine ⟨fun s' hs' => ?_, ?_⟩
    · have : (none : Option Nat) = some s' := hs'
      cases this
    · intro o ho a ha
      have : o ∈ ([{ One.zero with free := true, timer := -1 }] : List One) := ho
      simp at this; subst this; cases ha
  have a0 := keep0.argSl s0
  have a1 := keep0.argSl s1
  clear hL1 keep0 hc
  unfold D_tarpaulinlaw15_CtxAfters_4
  simp
  unfold D_tarpaulinlaw15_CtxAfters_5
  simp only [Env.put_apply, if_true, if_false, reduceIte, Nat.reduceEqDiff]
  have hcz := fun a => (as_init (τ := ⟨[], ⟨[], 0, fun _ => none⟩, 0⟩) (χ := fun _ => Ch.sg) (a := a) (b := a + 1) (by omega) (by simp)).1 a
  refine (cancels_spec h2 (S := ⟨Cs.new none, ⟨[], ⟨[], 0, fun _ => none⟩, 0⟩, fun _ => Ch.sg⟩) (fun a _ => ⟨_, hcz a⟩) hown1 hout1).mono ?_
  rintro _ L2 ⟨a, r, v1, v2, sts, haK, hr, rfl, hd1, _⟩
  rw [hcz a] at hr
  cases hr
  have hraw1 := hd1.rawK hown1 hout1
  have a0' := hraw1.argSl a0
  have a1' := hraw1.argSl a1
  have hx1 := hd1.own
  have hx2 := hd1.out
  clear a0 a1 hraw1 hown1 hout1 hd1
  simp only [mark_eq, wp_ext, List.getElem?_cons_zero, List.getElem?_cons_succ, retL_some]
  unfold D_tarpaulinlaw15_CtxAfters_6
  simp only [Env.put_apply, if_true, if_false, reduceIte, Nat.reduceEqDiff]
  have hcz2 := fun b => (as_init (τ := ⟨[], ⟨[], 0, fun _ => none⟩, 0⟩) (χ := fun _ => Ch.sg) (a := a) (b := a + 1) (by omega) (by simp)).2.1 b
  refine (cancels_spec h2 (fun a _ => ⟨_, hcz2 a⟩) hx1 hx2).mono ?_
  rintro _ L3 ⟨b, r, v1, v2, sts, hbK, hr, rfl, hd1, _⟩
  rw [hcz2 b] at hr
  cases hr
  have hroom := (as_init (τ := ⟨[], ⟨[], 0, fun _ => none⟩, 0⟩) (χ := fun _ => Ch.sg) (a := a) (b := a + 1) (by omega) (by simp)).2.2.2
  have hab : a ≠ b := by
    rintro rfl
    obtain ⟨o, o1, o2⟩ := hroom.2.2
    have := (hx2.chs o o1 a o2).2.2
    rw [hbK hroom.2.1] at this; cases this
  have has := (as_init (τ := ⟨[], ⟨[], 0, fun _ => none⟩, 0⟩) (χ := fun _ => Ch.sg) hab (by simp)).2.2.1
  have hraw1 := hd1.rawK hx1 hx2
  have c0 := hraw1.argSl a0'
  have c1 := hraw1.argSl a1'
  have hy1 := hd1.own
  have hy2 := hd1.out
  clear hroom hbK hd1 hcz hcz2 haK a0' a1' hraw1 hx1 hx2
  simp only at has hy1 hy2
  generalize CX.addS _ _ 1 b = S at has hy1 hy2
  simp only [mark_eq, wp_ext, List.getElem?_cons_zero, List.getElem?_cons_succ, retL_some]
  unfold D_tarpaulinlaw15_CtxAfters_7
  simp
  unfold D_tarpaulinlaw15_CtxAfters_8 D_tarpaulinlaw15_CtxAfters_38 D_tarpaulinlaw15_CtxAfters_40
  obtain ⟨En, hEn⟩ : ∃ En : Env → Prop, En = fun E => E 0 = x0 ∧ E 1 = x1 ∧ E 2 = .i .i64 late ∧ E 7 = .p (some (c, 0)) ∧ E 8 = .i .i64 1 ∧ E 11 = .i .i64 2 := ⟨_, rfl⟩
  obtain ⟨I, hI⟩ : ∃ I : Nat → Env → Lg → Prop, I = fun m E K => ∃ (i : Nat) (S : CX), m + i = ls.length ∧ AfI c S ((ls.take i).map kd) (fun _ => false) [] (E 14) K ∧ ArgSl K x0 (icl ls) ls.length 1 ∧ ArgSl K x1 (bcl bs) bs.length 1 ∧ En E ∧ E 15 = .i .i64 i := ⟨_, rfl⟩
  refine loopW_intro I ls.length ?_ ?_
  · rw [hI]
    refine ⟨0, S, by omega, ⟨has, hy1, hy2, by simpa [ncl] using OSl.nil _ 1⟩, c0, c1, ?_, by simp⟩
    rw [hEn]; simp [initE]
  clear has hy1 hy2 c0 c1 hab
  clear S
  intro m E t K hi
  rw [hI] at hi
  obtain ⟨i, S, hm, w, b0, b1, en, e15⟩ := hi
  have en' := en
  rw [hEn] at en
  obtain ⟨e0, e1, e2, e7, e8, e11⟩ := en
  unfold D_tarpaulinlaw15_CtxAfters_41
  rw [e0, e15]
  simp only [mark_eq, b0.len, wp_lss, condW_d]
  refine ⟨fun hlt => ?_, fun hnl => ?_⟩
  · have hil : i < ls.length := by omega
    unfold D_tarpaulinlaw15_CtxAfters_42
    rw [e8, e11, e0, e15, e7]
    refine new3 ?_
    intro v1 K1 hs1 kp1
    have b0' := kp1.argSl b0 (fun b h => by cases h)
    have b1' := kp1.argSl b1 (fun b h => by cases h)
    have ow := kp1.outC (fun b h => by cases h) w.own w.out
    obtain ⟨q0, f0, f1⟩ := b0'.at1 (F := F) hil
    have hg : (icl ls)[i]? = some (.i .i64 ls[i]) := by simp [icl, hil]
    rw [hg] at f1
    simp only [mark_eq, f0, wp_ld, f1, retL_some]
    refine (round_spec h3 _ 3 (by omega) (by omega) _).mono ?_
    rintro _ K' ⟨rfl, rfl⟩
    rw [← kd_int]
    have hkd := kd_lt ls[i]
    have htk : ls.take (i + 1) = ls.take i ++ [ls[i]] := by rw [List.take_add_one]; simp [hil]
    generalize ls[i] = z at hkd htk
    obtain ⟨q1, f2, f3⟩ := hs1.at1 (F := F) (i := kd z) hkd
    have hg3 : (icl [1, 2, 0])[kd z]? = some (.i .i64 (nodA (kd z))) := by
      generalize kd z = a at hkd
      rcases a with _ | _ | _ | a <;> first | rfl | omega
    rw [hg3] at f3
    have w100 : wr .i64 (100 + (i : Int)) = ((100 + i : Nat) : Int) := by rw [wr_id (by omega) (by omega)]; omega
    have w1 : wr .i64 ((i : Int) + 1) = ((i + 1 : Nat) : Int) := by rw [wr_id (by omega) (by omega)]; omega
    simp only [mark_eq, f2, wp_ld, f3, retL_some, wp_add, w100]
    have hjl : ((ls.take i).map kd).length = i := by simp; omega
    obtain ⟨S', p1, p2, p3⟩ := w.as.push (j := kd z) hkd (by omega) rfl
    rw [hjl] at p1
    refine (afterX_spec h4 p1 ow.1 ow.2).mono ?_
    rintro _ K2 ⟨v2, rfl, hd, hs2, _⟩
    have hraw := hd.rawK ow.1 ow.2
    have t14 := hraw.osl (kp1.osl w.s14 (fun b _ h => by cases h))
    have d0 := hraw.argSl b0'
    have d1 := hraw.argSl b1'
    have hl2 := fun X k => hs2.len (F := F) X k
    simp only [List.length_nil, Int.natCast_zero] at hl2
    simp [hl2, w1]
    rw [hI]
    refine ⟨m - 1, by omega, i + 1, S', by omega, ⟨by rw [htk, List.map_append]; exact p2, hd.own, hd.out, by simpa using t14⟩, d0, d1, ?_, by simp⟩
    rw [hEn]; simp [e0, e1, e2, e7, e8, e11]
  have hin : i = ls.length := by omega
  subst hin
  rw [List.take_length] at w
  clear hI hnl hm I e15 e0 e1 e2 e7 e8 e11
  unfold D_tarpaulinlaw15_CtxAfters_27 D_tarpaulinlaw15_CtxAfters_29
  clear m
  obtain ⟨I, hI⟩ : ∃ I : Nat → Env → Lg → Prop, I = fun m E K => ∃ (i : Nat) (S : CX), m + i = ls.length ∧ AfI c S (ls.map kd) (ovI bs i) (wnt ls bs 1 i) (E 14) K ∧ ArgSl K x0 (icl ls) ls.length 1 ∧ ArgSl K x1 (bcl bs) bs.length 1 ∧ En E ∧ E 20 = .i .i64 i := ⟨_, rfl⟩
  refine loopW_intro I ls.length ?_ ?_
  · rw [hI]
    refine ⟨0, S, by omega, ⟨by rw [ovI_zero]; exact w.as, w.own, w.out, by simpa [wnt] using w.s14⟩, b0, b1, ?_, by simp⟩
    rw [hEn] at en' ⊢; simpa using en'
  clear w b0 b1 en'
  clear S K E
  intro m E t K hi
  rw [hI] at hi
  obtain ⟨i, S, hm, w, b0, b1, en, e20⟩ := hi
  have en' := en
  rw [hEn] at en
  obtain ⟨e0, e1, e2, e7, e8, e11⟩ := en
  unfold D_tarpaulinlaw15_CtxAfters_30
  rw [e0, e20]
  simp only [mark_eq, b0.len, wp_lss, condW_d]
  refine ⟨fun hlt => ?_, fun hnl => ?_⟩
  · have hil : i < ls.length := by omega
    have hib : i < bs.length := by omega
    have w1 : wr .i64 ((i : Int) + 1) = ((i + 1 : Nat) : Int) := by rw [wr_id (by omega) (by omega)]; omega
    have next : ∀ (S2 : CX) (E2 : Env) (K2 : Lg), AfI c S2 (ls.map kd) (ovI bs (i + 1)) (wnt ls bs 1 (i + 1)) (E2 14) K2 → ArgSl K2 x0 (icl ls) ls.length 1 → ArgSl K2 x1 (bcl bs) bs.length 1 → En E2 → E2 20 = .i .i64 i →
        D_tarpaulinlaw15_CtxAfters_32 F N Q (fun l L => ∃ m_1, m_1 < m ∧ I m_1 l L) E2 K2 := by
      intro S2 E2 K2 y1 y2 y3 y4 y5
      unfold D_tarpaulinlaw15_CtxAfters_32
      rw [y5]
      simp only [mark_eq, wp_add, w1]
      rw [hI]
      refine ⟨m - 1, by omega, i + 1, S2, by omega, ⟨y1.as, y1.own, y1.out, by simpa using y1.s14⟩, y2, y3, ?_, by simp⟩
      rw [hEn] at y4 ⊢; simpa using y4
    unfold D_tarpaulinlaw15_CtxAfters_34
    rw [e1, e20]
    obtain ⟨q0, f0, f1⟩ := b1.at1 (F := F) hib
    have hg : (bcl bs)[i]? = some (.b (bk bs i)) := by simp [bcl, hib, bk]
    rw [hg] at f1
    simp only [mark_eq, f0, wp_ld, f1, retL_some]
    unfold D_tarpaulinlaw15_CtxAfters_35
    have hov : ovI bs i i = false := by simp [ovI]
    cases hb : bk bs i with
    | true =>
      simp only [mark_eq, condW_t]
      unfold D_tarpaulinlaw15_CtxAfters_36
      rw [e7, e20]
      obtain ⟨S1, u1, u2, _⟩ := w.as.off (i := i) (by simpa using hil)
      rw [ovI_step hb] at u2
      rw [hov] at u1
      obtain ⟨S2, u3, u4, _⟩ := u2.off (i := i) (by simpa using hil)
      rw [ovI_step2 hb] at u4
      have hov1 : ovI bs (i + 1) i = true := by simp [ovI, hb]
      rw [hov1] at u3
      refine (unafterX_spec h5 u1 w.own w.out).mono ?_
      rintro _ K1 ⟨rfl, hd1⟩
      simp only [mark_eq, wp_ext, List.getElem?_cons_zero, List.getElem?_cons_succ, retL_some]
      refine (unafterX_spec h5 u3 hd1.own hd1.out).mono ?_
      rintro _ K2 ⟨rfl, hd2⟩
      have r1 := hd1.rawK w.own w.out
      have r2 := hd2.rawK hd1.own hd1.out
      simp
      refine next S2 _ K2 ⟨u4, hd2.own, hd2.out, ?_⟩ (r2.argSl (r1.argSl b0)) (r2.argSl (r1.argSl b1)) ?_ (by simp [e20])
      · rw [wnt_succ hil]
        simpa [hb] using r2.osl (r1.osl w.s14)
      · rw [hEn]; simp [e0, e1, e2, e7, e8, e11]
    | false =>
      simp only [mark_eq, condW_f]
      unfold D_tarpaulinlaw15_CtxAfters_37
      rw [e0, e20]
      obtain ⟨q1, f2, f3⟩ := b0.at1 (F := F) hil
      have hg2 : (icl ls)[i]? = some (.i .i64 ls[i]) := by simp [icl, hil]
      rw [hg2] at f3
      simp only [mark_eq, f2, wp_ld, f3, retL_some]
      refine (round_spec h3 _ 3 (by omega) (by omega) _).mono ?_
      rintro _ K' ⟨rfl, rfl⟩
      rw [← kd_int]
      have hws := wnt_succ (ls := ls) (bs := bs) (j := 1) hil
      have has' : As S (ls.map kd) (ovI bs (i + 1)) := by rw [← ovI_skip hb]; exact w.as
      generalize ls[i] = z at hws
      have hwl := wnt_len ls bs 1 i
      simp only [mark_eq, wp_eql, condW_d]
      refine ⟨fun hz => ?_, fun hz => ?_⟩
      · have hz : kd z = 1 := by omega
        rw [if_pos ⟨hz, hb⟩] at hws
        refine push1 w.s14 rfl (by omega) (by omega) ?_
        intro v6 K3 o3 kp3 fr3
        have ow := kp3.outC w.s14.rawB w.own w.out
        refine next S _ K3 ⟨has', ow.1, ow.2, ?_⟩ (kp3.argSl b0 w.s14.cellsB) (kp3.argSl b1 w.s14.cellsB) ?_ (by simp [e20])
        · rw [hws, ncl_snoc]; simpa using o3
        · rw [hEn]; simp [e0, e1, e2, e7, e8, e11]
      · have hz : ¬ kd z = 1 := by omega
        rw [if_neg (fun h => hz h.1)] at hws
        refine next S E _ ⟨has', w.own, w.out, ?_⟩ b0 b1 en' e20
        rw [hws]; simpa using w.s14
  have hin : i = ls.length := by omega
  subst hin
  clear hI hnl hm I e20 e0 e1 e2 e7 e8 e11
  unfold D_tarpaulinlaw15_CtxAfters_23 D_tarpaulinlaw15_CtxAfters_25
  clear m
  obtain ⟨I, hI⟩ : ∃ I : Nat → Env → Lg → Prop, I = fun m E K => ∃ (i : Nat), m + i = ls.length ∧ AfI c S (ls.map kd) (ovI bs ls.length) (wnt ls bs 1 ls.length ++ wnt ls bs 0 i) (E 14) K ∧ ArgSl K x0 (icl ls) ls.length 1 ∧ ArgSl K x1 (bcl bs) bs.length 1 ∧ En E ∧ E 25 = .i .i64 i := ⟨_, rfl⟩
  refine loopW_intro I ls.length ?_ ?_
  · rw [hI]
    refine ⟨0, by omega, ⟨w.as, w.own, w.out, by simpa [wnt] using w.s14⟩, b0, b1, ?_, by simp⟩
    rw [hEn] at en' ⊢; simpa using en'
  clear w b0 b1 en'
  clear K E
  intro m E t K hi
  rw [hI] at hi
  obtain ⟨i, hm, w, b0, b1, en, e25⟩ := hi
  have en' := en
  rw [hEn] at en
  obtain ⟨e0, e1, e2, e7, e8, e11⟩ := en
  unfold D_tarpaulinlaw15_CtxAfters_26
  rw [e0, e1, e25]
  simp only [mark_eq, b0.len, wp_lss, condW_d]
  refine ⟨fun hlt => ?_, fun hnl => ?_⟩
  · have hil : i < ls.length := by omega
    have hib : i < bs.length := by omega
    have w1 : wr .i64 ((i : Int) + 1) = ((i + 1 : Nat) : Int) := by rw [wr_id (by omega) (by omega)]; omega
    have next : ∀ (E2 : Env) (K2 : Lg), AfI c S (ls.map kd) (ovI bs ls.length) (wnt ls bs 1 ls.length ++ wnt ls bs 0 (i + 1)) (E2 14) K2 → ArgSl K2 x0 (icl ls) ls.length 1 → ArgSl K2 x1 (bcl bs) bs.length 1 → En E2 → 
        ∃ m_1, m_1 < m ∧ I m_1 (E2.put 25 (.i .i64 ((i + 1 : Nat) : Int))) K2 := by
      intro E2 K2 y1 y2 y3 y4
      rw [hI]
      refine ⟨m - 1, by omega, i + 1, by omega, ⟨y1.as, y1.own, y1.out, by simpa using y1.s14⟩, y2, y3, ?_, by simp⟩
      rw [hEn] at y4 ⊢; simpa using y4
    obtain ⟨q0, f0, f1⟩ := b1.at1 (F := F) hib
    have hg : (bcl bs)[i]? = some (.b (bk bs i)) := by simp [bcl, hib, bk]
    rw [hg] at f1
    obtain ⟨q1, f2, f3⟩ := b0.at1 (F := F) hil
    have hg2 : (icl ls)[i]? = some (.i .i64 ls[i]) := by simp [icl, hil]
    rw [hg2] at f3
    have hws := wnt_succ (ls := ls) (bs := bs) (j := 0) hil
    simp only [mark_eq, f0, wp_ld, f1, retL_some, wp_not]
    have skip : wnt ls bs 0 (i + 1) = wnt ls bs 0 i → ∃ m_1, m_1 < m ∧ I m_1 (E.put 25 (.i .i64 ((i + 1 : Nat) : Int))) K := by
      intro h9
      exact next E K ⟨w.as, w.own, w.out, by rw [h9]; exact w.s14⟩ b0 b1 en'
    cases hb : bk bs i with
    | true =>
      rw [if_neg (by rw [hb]; simp)] at hws
      simp only [Bool.not_true, mark_eq, gdOp_ft, wp_pick_f, condW_f, wp_add, w1]
      exact skip (by simpa using hws)
    | false =>
      simp only [Bool.not_false, mark_eq, gdOp_same, wp_mv, f2, wp_ld, f3, retL_some, wp_call]
      refine (round_spec h3 _ 3 (by omega) (by omega) _).mono ?_
      rintro _ K' ⟨rfl, rfl⟩
      rw [← kd_int]
      generalize ls[i] = z at hws
      have hwl := wnt_len ls bs 1 ls.length
      have hwl2 := wnt_len ls bs 0 i
      simp only [Bool.not_false, mark_eq, wp_eql, gdOp_same, wp_pick_t, condW_d]
      refine ⟨fun hz => ?_, fun hz => ?_⟩
      · have hz : kd z = 0 := by omega
        rw [if_pos ⟨hz, hb⟩] at hws
        refine push1 w.s14 rfl (by omega) (by simp; omega) ?_
        intro v6 K3 o3 kp3 fr3
        have ow := kp3.outC w.s14.rawB w.own w.out
        simp only [mark_eq, wp_add, w1]
        refine next _ K3 ⟨w.as, ow.1, ow.2, ?_⟩ (kp3.argSl b0 w.s14.cellsB) (kp3.argSl b1 w.s14.cellsB) ?_
        · rw [hws, ← List.append_assoc, ncl_snoc]; simpa [Nat.add_assoc] using o3
        · rw [hEn]; simp [e0, e1, e2, e7, e8, e11]
      · have hz : ¬ kd z = 0 := by omega
        rw [if_neg (fun h => hz h.1)] at hws
        simp only [mark_eq, wp_add, w1]
        exact skip (by simpa using hws)
  have hin : i = ls.length := by omega
  subst hin
  clear hI hnl hm I e25 en'
  clear m
  unfold D_tarpaulinlaw15_CtxAfters_12
  rw [e7, e8]
  obtain ⟨S1, laps, x1', x2', x3', x4', ⟨o1, o11, o12, o13⟩, ⟨o2, o21, o22⟩, x5'⟩ := w.as.cancel (by intro k hk; simp at hk; obtain ⟨z, _, rfl⟩ := hk; exact kd_lt z) (by simp; omega)
  rw [wnt_stay, wnt_stay] at x1'
  rw [List.length_map] at x4'
  have hwlt : ∀ k ∈ wnt ls bs 1 ls.length ++ wnt ls bs 0 ls.length, k < ls.length := by
    intro k hk
    rcases List.mem_append.1 hk with h9 | h9 <;> exact wnt_lt h9
  have s14 := w.s14
  have hwl : (wnt ls bs 1 ls.length ++ wnt ls bs 0 ls.length).length ≤ 2 * ls.length := by
    have := wnt_len ls bs 1 ls.length
    have := wnt_len ls bs 0 ls.length
    simp; omega
  generalize wnt ls bs 1 ls.length ++ wnt ls bs 0 ls.length = W at x1' hwlt s14 hwl
  refine (cancelX_spec h6 x1' w.own w.out).mono ?_
  rintro _ K2 ⟨v1, v2, rfl, hd, hres⟩
  obtain ⟨ps, _, hresP⟩ := hres
  have hs2 := hresP.o2
  have hraw := hd.rawK w.own w.out
  replace s14 := hraw.osl s14
  have ow1 := hd.own
  have ow2 := hd.out
  clear hraw hd hresP b0 b1 w
  simp only [mark_eq, wp_ext, List.getElem?_cons_zero, List.getElem?_cons_succ, retL_some]
  unfold D_tarpaulinlaw15_CtxAfters_13
  have hl2 := fun X k => hs2.len (F := F) X k
  simp only [List.length_map] at hl2
  simp [hl2, s14.len]
  unfold D_tarpaulinlaw15_CtxAfters_19 D_tarpaulinlaw15_CtxAfters_21
  generalize hE0 : Env.put (Env.put (Env.put E 27 v2) 28 (.i .i64 0)) 29 (.i .i64 0) = E0
  have d2 : E0 2 = .i .i64 late := by rw [← hE0]; simpa using e2
  have d7 : E0 7 = .p (some (c, 0)) := by rw [← hE0]; simpa using e7
  have d8 : E0 8 = .i .i64 1 := by rw [← hE0]; simpa using e8
  have d11 : E0 11 = .i .i64 2 := by rw [← hE0]; simpa using e11
  have d14 : E0 14 = E 14 := by rw [← hE0]; simp
  have d27 : E0 27 = v2 := by rw [← hE0]; simp
  have d29 : E0 29 = .i .i64 (0 : Nat) := by rw [← hE0]; simp
  clear hE0
  generalize E 14 = v14 at s14 d14
  clear hEn En e0 e1 e2 e7 e8 e11
  obtain ⟨I, hI⟩ : ∃ I : Nat → Env → Lg → Prop, I = fun m E' K' => ∃ j : Nat, m + j = W.length ∧ K' = K2 ∧ E' 2 = .i .i64 late ∧ E' 7 = .p (some (c, 0)) ∧ E' 8 = .i .i64 1 ∧ E' 11 = .i .i64 2 ∧ E' 14 = v14 ∧ E' 27 = v2 ∧ E' 29 = .i .i64 j := ⟨_, rfl⟩
  refine loopW_intro I W.length ?_ ?_
  · rw [hI]; exact ⟨0, by omega, rfl, d2, d7, d8, d11, d14, d27, d29⟩
  clear d2 d7 d8 d11 d14 d27 d29
  clear E0 E
  intro m E t K' hi
  rw [hI] at hi
  obtain ⟨i, hm, rfl, d2, d7, d8, d11, d14, d27, d29⟩ := hi
  unfold D_tarpaulinlaw15_CtxAfters_22
  rw [d27, d29, d14]
  simp only [mark_eq, hl2, wp_lss, condW_d]
  refine ⟨fun hlt => ?_, fun hnl => ?_⟩
  · have hil : i < W.length := by omega
    have hwi := hwlt _ (List.getElem_mem hil)
    obtain ⟨b2, q1, q2, q3, q4⟩ := hs2.iad (F := F) (x := (i : Int)) (by omega) (by simp; omega)
    have q4' : ∀ (X : Lg) (k : AV → Lg → Prop), wpOp F (.iad 2) [v2, .i .i64 i] X k = k (.p (some (b2, i * 2))) X := fun X k => by simpa using q4 X k .i64
    have hat := flatc_at (f := stc) (k := 2) (fun _ => rfl) (W.map fun (i : Nat) => ((i : Int), ((100 + i : Nat) : Int))) i ((W[i] : Int), ((100 + W[i] : Nat) : Int)) (by simp [hil])
    have hrd : rdL K' (b2, i * 2) (some 2) = some (.agg [.i .i64 (W[i] : Int), .i .i64 ((100 + W[i] : Nat) : Int)]) := by
      rw [rdL_cells q2 hat.2, hat.1]; rfl
    obtain ⟨q0, f0, f1⟩ := s14.at1 (F := F) hil
    have hg : (ncl W)[i]? = some (.i .i64 (W[i] : Int)) := by simp [ncl, hil]
    rw [hg] at f1
    generalize W[i] = z at hrd f1 hwi
    have w100 : wr .i64 (100 + (z : Int)) = ((100 + z : Nat) : Int) := by rw [wr_id (by omega) (by omega)]; omega
    have w1 : wr .i64 ((i : Int) + 1) = ((i + 1 : Nat) : Int) := by rw [wr_id (by omega) (by omega)]; omega
    simp only [mark_eq, q4', wp_ld, hrd, retL_some, f0, f1, wp_add, w100]
    simp [wp_eqagg, splice, eqAt, eqOne, iEq_eq, look, w1, fillP, ble_nat, beq_nat, AV.cellsOf]
    rw [hI]
    exact ⟨m - 1, by omega, i + 1, by omega, rfl, by simp [d2], by simp [d7], by simp [d8], by simp [d11], by simp [d14], by simp [d27], by simp⟩
  clear hI hnl hm I d27 d29 d14 hl2 s14 hs2
  clear m
  unfold D_tarpaulinlaw15_CtxAfters_15
  rw [d2, d7, d8, d11]
  refine (cancelX_spec h6 (CX.cancel_dead o11 o12 o13 x5') ow1 ow2).mono ?_
  rintro _ K3 ⟨v3, v4, rfl, hd3, ps3, _, hres3⟩
  have hs4 := hres3.o2
  have ow3 := hd3.own
  have ow4 := hd3.out
  clear hd3 hres3
  simp only [mark_eq, wp_ext, List.getElem?_cons_zero, List.getElem?_cons_succ, retL_some]
  unfold D_tarpaulinlaw15_CtxAfters_16
  refine (round_spec h3 late 16 (by omega) (by omega) _).mono ?_
  rintro _ K4 ⟨rfl, rfl⟩
  have hp0 := Int.emod_nonneg late (by omega : (16 : Int) ≠ 0)
  obtain ⟨S5, y1, y2, x5, y3, y4⟩ := x2'.afterD (p := 2) o21 (by omega) o22 (prog := late % 16) hp0
  refine (afterX_spec h4 y2 ow3 ow4).mono ?_
  rintro _ K5 ⟨v5, rfl, hd5, hs5, _⟩
  have ow5 := hd5.own
  have ow6 := hd5.out
  simp only [mark_eq, wp_ext, List.getElem?_cons_zero, List.getElem?_cons_succ, retL_some]
  unfold D_tarpaulinlaw15_CtxAfters_17
  have z2 := (y1.offA y3).2.1
  refine (unafterX_spec h5 z2 ow5 ow6).mono ?_
  rintro _ K6 ⟨rfl, hd6⟩
  have hs6 := (hd6.rawK ow5 ow6).osl hs5
  rw [y4]
  simp only [mark_eq, wp_ext, List.getElem?_cons_zero, List.getElem?_cons_succ, retL_some]
  unfold D_tarpaulinlaw15_CtxAfters_18
  have l4 := fun X k => hs4.len (F := F) X k
  have l6 := fun X k => hs6.len (F := F) X k
  obtain ⟨b2, q1, q2, q3, q4⟩ := hs6.iad (F := F) (x := (0 : Int)) (by omega) (by simp)
  have q4' : ∀ (X : Lg) (k : AV → Lg → Prop), wpOp F (.iad 2) [v5, .i .i64 0] X k = k (.p (some (b2, 0))) X := fun X k => by simpa using q4 X k .i64
  have r0 : rdL K6 (b2, 0) none = some (.i .i64 S1.σ.afts.length) := by rw [rdL_cell q2]; rfl
  have r1 : rdL K6 (b2, 1) none = some (.i .i64 (late % 16)) := by rw [rdL_cell q2]; rfl
  simp only [List.length_nil, List.length_singleton, Int.natCast_zero, Int.natCast_one] at l4 l6
  have cl : ∀ Y : Lg → Prop, (∀ L, Y L) → CallL F (N k_tarpaulinlaw15_awake) [] K6 fun v L => v = .b true ∧ Y L := by
    intro Y hY
    refine (known2_spec aw _).mono ?_
    rintro _ _ ⟨rfl, rfl⟩
    exact ⟨rfl, hY _⟩
  simp [l4, l6, q4', r0, r1]
  refine (round_spec h3 late 16 (by omega) (by omega) _).mono ?_
  rintro _ K7 ⟨rfl, rfl⟩
  have tt : (true && true) = true := rfl
  have nt : (!true) = false := rfl
  simp only [tt, nt, Bool.not_false, mark_eq, gdOp_same, wp_eql, decide_true, wp_pick_t, wp_mv, wp_not, wp_call]
  refine (known2_spec aw _).mono ?_
  rintro _ _ ⟨rfl, rfl⟩
  simp only [mark_eq, wp_pick_t]
  refine ⟨⟨?_, trivial⟩, fin _⟩
  simp [againG, againV, semRL, rLdL, r1, sameV, same1, iEq_eq, kEq]
end Go.AM

