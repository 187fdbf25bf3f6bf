/- The texts LgN, LibRd, LibProg, LibProgB, LibRefA, LibTimerD, LawTimerP, LawTimerX, LibRefB, LibRefC, LibRefD, LibRefE, LibRefG, LibRefH, LibRefI, LibRefJ, LibCtxQ, LibCtxR, GenG, LibRefK, LibGO, LibRefL, LibRefM, LawProgLimits, LibProgC, LawProgOne, LibProgR of a proof of ProgOne, merged. -/
import Derived.Test.YtkfcecaoaplfkaaDoorOneG2
import Derived.KernelRfl
/- a row's arguments: slices whose cells hold slices. -/
set_option linter.unusedVariables false
namespace Go.AM
open Go.RowKit
/-- a slice that is read: what is in it, by f -/
def SlN {X : Type} (f : X → List AV) (K : Lg) (v : AV) (l : List X) : Prop := ∃ a cap, v = .sl a l.length cap 0 ∧ l.length ≤ cap ∧ ((l = [] ∧ (a = none → cap = 0)) ∨ ∃ b, a = some (b, 0) ∧ K b = some (.raw (.ro (l.flatMap f))))
theorem SlN.mono {X : Type} {f : X → List AV} {K K' : Lg} {v : AV} {l : List X} (h : SlN f K v l) (e : Ext2 K K') : SlN f K' v l := by
  obtain ⟨a, cap, h1, h2, h3⟩ := h
  exact ⟨a, cap, h1, h2, h3.imp id fun ⟨b, h4, h5⟩ => ⟨b, h4, e b _ h5⟩⟩
theorem cells_plain {w : World} {a : Addr} {z : Nat} {cs : List Value} (h : w.cells? 0 a z = some cs) (hz : 0 < z) : a.spot = none ∧ ∃ cur t fr, w.heap[a.block]? = some (.cells cur t fr) := by
  unfold World.cells? at h
  rw [if_pos (Nat.zero_le _)] at h
  have := mapM_some_get h 0 0 (by simp [hz])
  have h1 : w.cell? (a.add 0) = some (cs[0]'(by have := mapM_some_length h; simp at this; omega)) := by
    rw [this]; exact List.getElem?_eq_getElem _
  have h2 : a.add 0 = a := rfl
  rw [h2] at h1
  unfold World.cell? at h1
  split at h1
  · rename_i cur t fr hh
    split at h1
    · cases h1
    · rename_i hs
      refine ⟨by cases hsp : a.spot with | none => rfl | some y => rw [hsp] at hs; simp at hs, cur, t, fr, hh⟩
  · cases h1
/-- a slice of what is open by f, which may open more -/
theorem AR.nest {X : Type} (f : X → List AV) (R : Lg → X → Prop) (Rm : ∀ L L' x, Ext2 L L' → R L x → R L' x) {z : Nat} {H : Type} {enc : TypeId × Value → H} {P : Program} {W : World} {S : St} {β : Bt} {L : Lg} (h : AR W S β L) {t e : TypeId} {cs : List Value} {fuel : Nat} {y : DataW H × List MemPlace} (ht : P.underlying t = some (.slice e)) (hc : P.cellsOf e = z) (hz : 0 < z) (hfz : ∀ x, (f x).length = z)
    (hX : ∀ S β L, AR W S β L → ∀ n cs y, DataW.trod enc P W 0 (fun _ => true) true n e cs = some y → ∃ x S' β' L', AR W S' β' L' ∧ Ext β β' ∧ Ext2 L L' ∧ VRs β' (f x) cs ∧ R L' x)
    (hd : DataW.trod enc P W 0 (fun _ => true) true fuel t cs = some y) :
    ∃ v a l S' β' L', cs = [v] ∧ AR W S' β' L' ∧ Ext β β' ∧ Ext2 L L' ∧ VR β' a v ∧ SlN f L' a l ∧ ∀ x, x ∈ l → R L' x := by
  rcases DataW.trod_slice ht hd with ⟨h0, _⟩ | ⟨a, len, cap, elems, rest, n, _, h0, _, hb, hl, hm, hlen, hel, hre, _⟩
  · exact ⟨_, .sl none 0 0 0, [], S, β, L, h0, h, Ext.refl β, Ext2.refl L, .sln, ⟨none, 0, rfl, Nat.le_refl _, .inl ⟨rfl, fun _ => rfl⟩⟩, fun x hx => by cases hx⟩
  · rw [hc] at hel
    obtain ⟨hrl, hre⟩ := hre rfl
    rw [hc] at hre
    by_cases hcap : cap = 0
    · have hl0 : len = 0 := by omega
      subst hcap hl0
      refine ⟨_, .sl (some (S.nx, 0)) 0 0 0, [], _, _, L, h0, h.hole (0, 0, 0), h.ext _, Ext2.refl L, .sl (b := 0) (o := 0) (z := 0) (by simp [Bt.put]) (Nat.le_refl _) (Nat.le_refl _) (fun _ => rfl) (fun h9 => absurd rfl h9) (.inl rfl), ⟨_, 0, rfl, Nat.le_refl _, .inl ⟨rfl, fun h9 => by cases h9⟩⟩, fun x hx => by cases hx⟩
    · -- the address is a plain one
      have hone : ∃ cs0, W.cells? 0 a z = some cs0 := by
        by_cases hl0 : len = 0
        · have h1 := hre 0 (by omega)
          have h2 : ∃ y, rest[0]? = some y := ⟨_, List.getElem?_eq_getElem (by omega)⟩
          obtain ⟨y, hy⟩ := h2
          rw [hy, Option.bind_eq_some_iff] at h1
          obtain ⟨cs0, hcs, _⟩ := h1
          subst hl0
          simp only [Nat.add_zero, Nat.zero_mul] at hcs
          exact ⟨cs0, hcs⟩
        · have h1 := hel 0 (by omega)
          have h2 : ∃ y, elems[0]? = some y := ⟨_, List.getElem?_eq_getElem (by omega)⟩
          obtain ⟨y, hy⟩ := h2
          rw [hy, Option.bind_eq_some_iff] at h1
          obtain ⟨cs0, hcs, _⟩ := h1
          simp only [Nat.zero_mul] at hcs
          exact ⟨cs0, hcs⟩
      obtain ⟨cs0, hcs0⟩ := hone
      obtain ⟨hsp, cur, tt, fr, hh⟩ := cells_plain hcs0 hz
      obtain ⟨ab, aoff, asp⟩ := a
      simp only at hsp hh
      subst hsp
      -- element by element
      have step : ∀ i, i ≤ len → ∃ (l : List X) (S' : St) (β' : Bt) (L' : Lg), l.length = i ∧ AR W S' β' L' ∧ Ext β β' ∧ Ext2 L L' ∧ (∀ x, x ∈ l → R L' x) ∧
          ∀ (j : Nat) (x : X), l[j]? = some x → ∃ cj, W.cells? 0 (Addr.add ⟨ab, aoff, none⟩ (j * z)) z = some cj ∧ VRs β' (f x) cj := by
        intro i
        induction i with
        | zero => exact fun _ => ⟨[], S, β, L, rfl, h, Ext.refl β, Ext2.refl L, (fun x hx => by cases hx), (fun j x hx => by simp at hx)⟩
        | succ i ih =>
          intro hi
          obtain ⟨l, S1, β1, L1, g1, g2, g3, g4, g5, g6⟩ := ih (by omega)
          have h1 := hel i (by omega)
          have h2 : ∃ y, elems[i]? = some y := ⟨_, List.getElem?_eq_getElem (by omega)⟩
          obtain ⟨y, hy⟩ := h2
          rw [hy, Option.bind_eq_some_iff] at h1
          obtain ⟨ci, hci, hty⟩ := h1
          obtain ⟨x, S2, β2, L2, k1, k2, k3, k4, k5⟩ := hX S1 β1 L1 g2 _ _ _ hty
          refine ⟨l ++ [x], S2, β2, L2, by simp [g1], k1, g3.trans k2, g4.trans k3, ?_, ?_⟩
          · intro u hu
            rcases List.mem_append.1 hu with hu | hu
            · exact Rm _ _ _ k3 (g5 u hu)
            · simp at hu; rw [hu]; exact k5
          · intro j u hu
            by_cases hj : j < l.length
            · rw [List.getElem?_append_left hj] at hu
              obtain ⟨cj, q1, q2⟩ := g6 j u hu
              exact ⟨cj, q1, q2.mono k2⟩
            · rw [List.getElem?_append_right (by omega)] at hu
              have hj0 : j - l.length = 0 := by
                have := (List.getElem?_eq_some_iff.1 hu).1
                simp at this; omega
              rw [hj0] at hu
              simp only [List.getElem?_cons_zero, Option.some.injEq] at hu
              subst hu
              have : j = i := by omega
              subst this
              exact ⟨ci, hci, k4⟩
      obtain ⟨l, S1, β1, L1, g1, g2, g3, g4, g5, g6⟩ := step len (Nat.le_refl _)
      have hcr : CellsR β1 (l.flatMap f) aoff cur := by
        intro k u hu
        obtain ⟨i, j, x, h1, h2, h3⟩ := flat_get l (fun x _ => hfz x) k u hu
        obtain ⟨ci, hci, hv⟩ := g6 i x h1
        obtain ⟨w, hw, hr⟩ := hv.get h2
        refine ⟨w, ?_, hr⟩
        unfold World.cells? at hci
        rw [if_pos (Nat.zero_le _)] at hci
        have hjz : j < z := by have := (List.getElem?_eq_some_iff.1 h2).1; rw [hfz] at this; exact this
        have := mapM_some_get hci j j (by simp [hjz])
        rw [hw, Go.WideShapes.add_plain, Go.WideShapes.add_plain] at this
        simp only [World.cell?, hh, Option.isSome_none, Bool.false_eq_true, if_false] at this
        rw [h3, ← this, Nat.add_assoc]
      refine ⟨_, .sl (some (S1.nx, 0)) len cap 0, l, _, _, _, h0, g2.slice hh hcr, g3.trans (g2.ext _), g4.trans ((Ext2.refl L1).put (g2.mod.fresh (Nat.le_refl _)) _), .sl (b := ab) (o := aoff) (z := 0) (by simp [Bt.put]) hl (Nat.le_refl _) (fun _ => rfl) (fun h9 => absurd rfl h9) (.inr (by simp)), ⟨some (S1.nx, 0), cap, by rw [g1], by omega, .inr ⟨S1.nx, rfl, Lg.put_same _ _ _⟩⟩, fun x hx => Rm _ _ _ ((Ext2.refl L1).put (g2.mod.fresh (Nat.le_refl _)) _) (g5 x hx)⟩
end Go.AM

/- slices that are read, empty ones wherever they lie. -/
set_option linter.unusedVariables false
set_option linter.unusedSimpArgs false
namespace Go.AM
variable {N : Nat → Nat} {F : Nat → Option AFn}
def SlQ {α : Type} (f : α → List AV) (z : Nat) (K : Lg) (v : AV) (l : List α) : Prop := ∃ a cap ex, v = .sl a l.length cap ex ∧ l.length ≤ cap ∧ (ex = 0 ∨ ex = z) ∧ (l = [] ∨ ∃ b off cs, a = some (b, off) ∧ (K b = some (.raw (.cells cs)) ∨ K b = some (.raw (.ro cs))) ∧ off + l.length * z ≤ cs.length ∧ ∀ (i : Nat) (x : α), l[i]? = some x → (cs.drop (off + i * z)).take z = f x)
section
variable {α : Type} {f : α → List AV} {z : Nat}
theorem SlG.toQ {K : Lg} {v : AV} {l : List α} (h : SlG f z K v l) : SlQ f z K v l := by
  obtain ⟨a, cap, ex, h1, h2, h3, h4⟩ := h
  exact ⟨a, cap, ex, h1, h2, h3, h4.imp (fun h => h.1) id⟩
theorem SlQ.len {K : Lg} {v : AV} {l : List α} (h : SlQ f z K v l) (X : Lg) (k : AV → Lg → Prop) : wpOp F .lenSl [v] X k = k (.i .i64 l.length) X := by
  obtain ⟨a, cap, ex, rfl, _⟩ := h
  simp
theorem SlQ.mono {K K' : Lg} {v : AV} {l : List α} (h : SlQ f z K v l) (e : SubL K K') : SlQ f z K' v l := by
  obtain ⟨a, cap, ex, rfl, hc, he, h1 | ⟨b, off, cs, rfl, h2, h3⟩⟩ := h
  · exact ⟨_, _, _, rfl, hc, he, .inl h1⟩
  · exact ⟨_, _, _, rfl, hc, he, .inr ⟨b, off, cs, rfl, h2.imp (e _ _) (e _ _), h3⟩⟩
theorem SlQ.toG {K : Lg} {v : AV} {l : List α} (h : SlQ f z K v l) (hl : l ≠ []) : SlG f z K v l := by
  obtain ⟨a, cap, ex, h1, h2, h3, h4⟩ := h
  exact ⟨a, cap, ex, h1, h2, h3, .inr (h4.resolve_left hl)⟩
theorem SlQ.get {K : Lg} {v : AV} {l : List α} (h : SlQ f z K v l) {i : Nat} {x : α} (hi : l[i]? = some x) : ∃ b o, (∀ (X : Lg) (k : AV → Lg → Prop), wpOp F (.iad z) [v, .i .i64 i] X k = k (.p (some (b, o))) X) ∧
    (∀ X : Lg, SubL K X → (∀ j, j < z → rdL X (b, o + j) none = (f x)[j]?) ∧ rdL X (b, o) (some z) = some (.agg (f x))) ∧ K b ≠ none :=
  (h.toG (by rintro rfl; simp at hi)).get hi
theorem flatc_flatQ (f : α → List AV) : ∀ l : List α, l.flatMap f = flatc f l
  | [] => rfl
  | x :: r => by rw [List.flatMap_cons, flatc_flatQ f r]; rfl
theorem SlN.toQ {K : Lg} {v : AV} {l : List α} (hf : ∀ x, (f x).length = z) (h : SlN f K v l) : SlQ f z K v l := by
  obtain ⟨a, cap, rfl, hc, ⟨h1, _⟩ | ⟨b, rfl, h3⟩⟩ := h
  · exact ⟨_, _, _, rfl, hc, .inl rfl, .inl h1⟩
  · refine ⟨_, cap, 0, rfl, hc, .inl rfl, .inr ⟨b, 0, flatc f l, rfl, .inr (by rw [← flatc_flatQ]; exact h3), by rw [flatc_length hf]; omega, fun i x hi => ?_⟩⟩
    have := flatc_at (f := f) (k := z) hf l i x hi
    simpa using this.1
end
end Go.AM


/- prog: which programs may be. -/
set_option linter.unusedVariables false
set_option linter.unusedSimpArgs false
namespace Go.AM
variable {N : Nat → Nat} {F : Nat → Option AFn}
def regP (n : Int) : Bool := decide (0 ≤ n) && decide (n < 8)
theorem register_spec (hf : H_prog_register N F) (n : Int) (L : Lg) : CallL F (N k_prog_register) [.i .i64 n] L fun v L' => v = .b (regP n) ∧ L' = L := by
  refine CallL.opq ?_
  intro Q hQ
  apply r_prog_register hf.code
  unfold D_prog_register_1
  by_cases c1 : 0 ≤ n
  · simp [c1]
    exact ⟨_, Sees.refl _, hQ _ _ ⟨by simp [regP, c1], rfl⟩⟩
  · simp [c1]
    exact ⟨_, Sees.refl _, hQ _ _ ⟨by simp [regP, c1], rfl⟩⟩
def mayP (k n pl : Int) : Bool := if k = 114 then regP n else if k = 112 then decide (0 ≤ n) && decide (n ≤ pl) else if k = 103 then decide (0 ≤ n) && decide (n < 16) else if k = 45 then decide (n = 0) else true
theorem may_spec (hf : H_prog_may N F) (k n pl : Int) (L : Lg) : CallL F (N k_prog_may) [.i .u8 k, .i .i64 n, .i .i64 pl] L fun v L' => v = .b (mayP k n pl) ∧ L' = L := by
  refine CallL.opq ?_
  intro Q hQ
  apply r_prog_may hf.code
  unfold D_prog_may_1
  by_cases c1 : k = 114
  · simp [c1]
    refine (register_spec hf.prog_register n L).mono ?_
    rintro _ K' ⟨rfl, rfl⟩
    simp
    exact ⟨_, Sees.refl _, hQ _ _ ⟨by simp [mayP, c1], rfl⟩⟩
  by_cases c2 : k = 112
  · by_cases d1 : 0 ≤ n
    · simp [c1, c2, d1]
      exact ⟨_, Sees.refl _, hQ _ _ ⟨by simp [mayP, c1, c2, d1], rfl⟩⟩
    · simp [c1, c2, d1]
      exact ⟨_, Sees.refl _, hQ _ _ ⟨by simp [mayP, c1, c2, d1], rfl⟩⟩
  by_cases c3 : k = 103
  · by_cases d1 : 0 ≤ n
    · simp [c1, c2, c3, d1]
      exact ⟨_, Sees.refl _, hQ _ _ ⟨by simp [mayP, c1, c2, c3, d1], rfl⟩⟩
    · simp [c1, c2, c3, d1]
      exact ⟨_, Sees.refl _, hQ _ _ ⟨by simp [mayP, c1, c2, c3, d1], rfl⟩⟩
  by_cases c4 : k = 45
  · simp [c1, c2, c3, c4]
    exact ⟨_, Sees.refl _, hQ _ _ ⟨by simp [mayP, c1, c2, c3, c4], rfl⟩⟩
  · simp [c1, c2, c3, c4]
    exact ⟨_, Sees.refl _, hQ _ _ ⟨by simp [mayP, c1, c2, c3, c4], rfl⟩⟩
structure Cs3 where
  send : Bool
  chan : Int
  val : Int
  deriving DecidableEq
def Cs3.cells (c : Cs3) : List AV := [.b c.send, .i .i64 c.chan, .i .i64 c.val]
theorem Cs3.len (c : Cs3) : c.cells.length = 3 := rfl
def badC (c : Cs3) : Bool := !regP c.chan || !regP c.val || (!c.send && decide (c.val ≠ 0))
theorem good1_spec (hf : H_prog_good_1 N F) (c : Cs3) (L : Lg) : CallL F (N k_prog_good_1) [.agg c.cells] L fun v L' => v = .b (badC c) ∧ L' = L := by
  refine CallL.opq ?_
  intro Q hQ
  apply r_prog_good_1 hf.code
  unfold D_prog_good_1_1
  simp
  rw [newL_box_agg _ _ _ (by rfl)]
  intro b hb
  have h0 : (L.put b (.raw (.cells c.cells))) b = some (.raw (.cells c.cells)) := Lg.put_same _ _ _
  have f0 : rdL (L.put b (.raw (.cells c.cells))) (b, 0) none = some (.b c.send) := by rw [rdL_cell h0]; rfl
  have f1 : rdL (L.put b (.raw (.cells c.cells))) (b, 1) none = some (.i .i64 c.chan) := by rw [rdL_cell h0]; rfl
  have f2 : rdL (L.put b (.raw (.cells c.cells))) (b, 2) none = some (.i .i64 c.val) := by rw [rdL_cell h0]; rfl
  have se : Sees (L.put b (.raw (.cells c.cells))) L := ((Ext2.refl L).put hb _).sees
  simp [f1]
  refine (register_spec hf.prog_register c.chan _).mono ?_
  rintro _ K' ⟨rfl, hK⟩
  subst hK
  cases e1 : regP c.chan with
  | false =>
    simp
    exact ⟨_, se, hQ _ _ ⟨by simp [badC, e1], rfl⟩⟩
  | true =>
    simp [f2]
    refine (register_spec hf.prog_register c.val _).mono ?_
    rintro _ K' ⟨rfl, hK⟩
    subst hK
    cases e2 : regP c.val with
    | false =>
      simp
      exact ⟨_, se, hQ _ _ ⟨by simp [badC, e1, e2], rfl⟩⟩
    | true =>
      cases e3 : c.send with
      | true =>
        simp [f0, e3]
        exact ⟨_, se, hQ _ _ ⟨by simp [badC, e1, e2, e3], rfl⟩⟩
      | false =>
        simp [f0, f2, e3]
        exact ⟨_, se, hQ _ _ ⟨by simp [badC, e1, e2, e3], rfl⟩⟩
theorem containsC_spec (hf : H_slices_ContainsFunc_CaseCase N F) {L : Lg} {α : Type} {g : α → List AV} {s : AV} {ws : List α} (hs : SlQ g 3 L s ws) (hl : ws.length ≤ 1000000) {f : Nat} {fst cap : List AV} {p : α → Bool}
    (hso : ∀ w, w ∈ ws → CallL F f (fst ++ (.agg (g w)) :: cap) L fun v L' => v = .b (p w) ∧ L' = L) : CallL F (N k_slices_ContainsFunc_CaseCase) [s, .fn f fst cap] L fun v L' => v = .b (ws.any p) ∧ L' = L := by
  apply r_slices_ContainsFunc_CaseCase hf.code
  unfold D_slices_ContainsFunc_CaseCase_1
  have key : CallL F (N k_slices_IndexFunc_CaseCase) [s, .fn f fst cap] L fun v L' => (∃ i : Int, v = .i .i64 i ∧ (decide (0 ≤ i) = ws.any p)) ∧ L' = L := by
    apply r_slices_IndexFunc_CaseCase hf.slices_IndexFunc_CaseCase.code
    unfold D_slices_IndexFunc_CaseCase_1 D_slices_IndexFunc_CaseCase_4
    have hlen := fun X k => hs.len (F := F) X k
    simp [D_slices_IndexFunc_CaseCase_6, hlen]
    refine loopW_intro (fun n l' L' => ∃ i : Nat, i ≤ ws.length ∧ n = ws.length - i ∧ (∀ x, x ∈ ws.take i → p x = false) ∧ L' = L ∧ l' 0 = s ∧ l' 1 = .fn f fst cap ∧ l' 7 = .i .i64 ws.length ∧ l' 8 = .i .i64 i)
      ws.length ⟨0, by omega, by omega, by simp, rfl, by simp, by simp, by simp, by simp⟩ ?_
    rintro n l' t L' ⟨i, hi, hn, hA, rfl, l0, l1, l7, l8⟩
    unfold D_slices_IndexFunc_CaseCase_7
    rw [l0, l1, l7, l8]
    by_cases hlt : i < ws.length
    · have hw : ws[i]? = some ws[i] := List.getElem?_eq_getElem hlt
      obtain ⟨b, o, h1, h2, h3⟩ := hs.get (F := F) hw
      have h4 := (h2 L' (fun _ _ h => h)).2
      have e1 : ((i : Int) < (ws.length : Int)) := by omega
      simp [hlt, h1, h4]
      refine (hso ws[i] (List.getElem_mem _)).mono ?_
      rintro _ L2 ⟨rfl, rfl⟩
      rw [condW_bool]
      refine ⟨fun hp => ?_, fun hp => ?_⟩
      · simp
        have : ws.any p = true := List.any_eq_true.2 ⟨ws[i], List.getElem_mem _, hp⟩
        simpa using this
      · have e2 : wr .i64 ((i : Int) + 1) = ((i + 1 : Nat) : Int) := by rw [wr_id (by omega) (by omega)]; omega
        simp
        refine ⟨ws.length - (i + 1), by omega, i + 1, by omega, rfl, ?_, l0, l1, l7, e2⟩
        intro x hx
        rw [List.take_add_one, hw] at hx
        rcases List.mem_append.1 hx with hx | hx
        · exact hA x hx
        · simp at hx; rw [hx]; exact hp
    · have e1 : ¬ ((i : Int) < (ws.length : Int)) := by omega
      have e2 : i = ws.length := by omega
      simp [hlt, D_slices_IndexFunc_CaseCase_3]
      rw [e2, List.take_length] at hA
      simpa using hA
  refine key.mono ?_
  rintro _ _ ⟨⟨i, rfl, hi⟩, rfl⟩
  simp [← hi]
theorem containsI_spec (hf : H_slices_ContainsFunc_InstrInstr N F) {L : Lg} {α : Type} {g : α → List AV} {s : AV} {ws : List α} (hs : SlQ g 6 L s ws) (hl : ws.length ≤ 1000000) {f : Nat} {fst cap : List AV} {p : α → Bool}
    (hso : ∀ w, w ∈ ws → CallL F f (fst ++ (.agg (g w)) :: cap) L fun v L' => v = .b (p w) ∧ L' = L) : CallL F (N k_slices_ContainsFunc_InstrInstr) [s, .fn f fst cap] L fun v L' => v = .b (ws.any p) ∧ L' = L := by
  apply r_slices_ContainsFunc_InstrInstr hf.code
  unfold D_slices_ContainsFunc_InstrInstr_1
  have key : CallL F (N k_slices_IndexFunc_InstrInstr) [s, .fn f fst cap] L fun v L' => (∃ i : Int, v = .i .i64 i ∧ (decide (0 ≤ i) = ws.any p)) ∧ L' = L := by
    apply r_slices_IndexFunc_InstrInstr hf.slices_IndexFunc_InstrInstr.code
    unfold D_slices_IndexFunc_InstrInstr_1 D_slices_IndexFunc_InstrInstr_4
    have hlen := fun X k => hs.len (F := F) X k
    simp [D_slices_IndexFunc_InstrInstr_6, hlen]
    refine loopW_intro (fun n l' L' => ∃ i : Nat, i ≤ ws.length ∧ n = ws.length - i ∧ (∀ x, x ∈ ws.take i → p x = false) ∧ L' = L ∧ l' 0 = s ∧ l' 1 = .fn f fst cap ∧ l' 7 = .i .i64 ws.length ∧ l' 8 = .i .i64 i)
      ws.length ⟨0, by omega, by omega, by simp, rfl, by simp, by simp, by simp, by simp⟩ ?_
    rintro n l' t L' ⟨i, hi, hn, hA, rfl, l0, l1, l7, l8⟩
    unfold D_slices_IndexFunc_InstrInstr_7
    rw [l0, l1, l7, l8]
    by_cases hlt : i < ws.length
    · have hw : ws[i]? = some ws[i] := List.getElem?_eq_getElem hlt
      obtain ⟨b, o, h1, h2, h3⟩ := hs.get (F := F) hw
      have h4 := (h2 L' (fun _ _ h => h)).2
      have e1 : ((i : Int) < (ws.length : Int)) := by omega
      simp [hlt, h1, h4]
      refine (hso ws[i] (List.getElem_mem _)).mono ?_
      rintro _ L2 ⟨rfl, rfl⟩
      rw [condW_bool]
      refine ⟨fun hp => ?_, fun hp => ?_⟩
      · simp
        have : ws.any p = true := List.any_eq_true.2 ⟨ws[i], List.getElem_mem _, hp⟩
        simpa using this
      · have e2 : wr .i64 ((i : Int) + 1) = ((i + 1 : Nat) : Int) := by rw [wr_id (by omega) (by omega)]; omega
        simp
        refine ⟨ws.length - (i + 1), by omega, i + 1, by omega, rfl, ?_, l0, l1, l7, e2⟩
        intro x hx
        rw [List.take_add_one, hw] at hx
        rcases List.mem_append.1 hx with hx | hx
        · exact hA x hx
        · simp at hx; rw [hx]; exact hp
    · have e1 : ¬ ((i : Int) < (ws.length : Int)) := by omega
      have e2 : i = ws.length := by omega
      simp [hlt, D_slices_IndexFunc_InstrInstr_3]
      rw [e2, List.take_length] at hA
      simpa using hA
  refine key.mono ?_
  rintro _ _ ⟨⟨i, rfl, hi⟩, rfl⟩
  simp [← hi]
/-! ### an instruction -/
def fieldsL : List UInt8 := [114, 110, 45, 114, 114, 45, 114, 110, 45, 112, 45, 45, 114, 112, 45, 114, 45, 45, 45, 45, 45, 114, 103, 45, 114, 110, 45, 114, 114, 45, 114, 114, 114, 114, 45, 45, 114, 114, 45, 114, 114, 45, 114, 114, 114, 114, 45, 45, 114, 114, 114, 114, 114, 114, 114, 114, 103, 114, 114, 45, 114, 114, 114, 114, 114, 45, 114, 114, 114, 114, 114, 114, 114, 114, 45, 114, 114, 45, 114, 114, 45, 114, 114, 45, 114, 114, 45, 114, 114, 114, 114, 114, 103, 114, 114, 45]
structure Ins where
  op : Int
  a : Int
  b : Int
  c : Int
  cs : List Cs3
  df : Bool
  deriving DecidableEq
def Ins.cells (i : Ins) (cv : AV) : List AV := [.i .i64 i.op, .i .i64 i.a, .i .i64 i.b, .i .i64 i.c, cv, .b i.df]
def Ins.abc (i : Ins) : List Int := [i.a, i.b, i.c]
def fldB (op : Int) (k : Nat) : Int := ((fieldsL.getD (3 * (op - 1) + k).toNat 0).toNat : Int)
def fldOk (i : Ins) (pl : Int) (k : Nat) : Bool := mayP (fldB i.op k) (i.abc.getD k 0) pl
def goodP (i : Ins) (pl : Int) : Bool := decide (1 ≤ i.op) && decide (i.op ≤ 32) && (decide (i.op = 15) || (i.cs.isEmpty && !i.df)) && decide (i.cs.length ≤ 16) && (fldOk i pl 0 && fldOk i pl 1 && fldOk i pl 2) && !(i.cs.any badC)
theorem good5_spec (hf : H_prog_good N F) {L : Lg} {i : Ins} {cv : AV} (hc : SlQ Cs3.cells 3 L cv i.cs) (hn : i.cs.length ≤ 16) (h1 : 1 ≤ i.op) (h2 : i.op ≤ 32) {pl : Int} {b1 : Nat} {K : Lg} (hb : K b1 = some (.raw (.cells (i.cells cv)))) (hs : SubL L K)
    {l : Env} (l1 : l 1 = .i .i64 pl) (l2 : l 2 = .p (some (b1, 0))) {Q : AV → Lg → Prop} (hQ : ∀ K', SubL L K' → ∃ L', Sees K' L' ∧ Q (.b (fldOk i pl 0 && fldOk i pl 1 && fldOk i pl 2 && !(i.cs.any badC))) L') : D_prog_good_5 F N Q l K := by
  have f0 : ∀ K', SubL K K' → rdL K' (b1, 0) none = some (.i .i64 i.op) := fun K' h => by rw [rdL_cell (h _ _ hb)]; rfl
  have f1 : rdL K (b1, 1) none = some (.i .i64 i.a) := by rw [rdL_cell hb]; rfl
  have f2 : rdL K (b1, 2) none = some (.i .i64 i.b) := by rw [rdL_cell hb]; rfl
  have f3 : rdL K (b1, 3) none = some (.i .i64 i.c) := by rw [rdL_cell hb]; rfl
  have f4 : ∀ K', SubL K K' → rdL K' (b1, 4) none = some cv := fun K' h => by rw [rdL_cell (h _ _ hb)]; rfl
  unfold D_prog_good_5
  simp [l2, f1, f2, f3]
  rw [newL_bslice (c := [.i .i64 i.a, .i .i64 i.b, .i .i64 i.c]) _ _ (by simp [reps, fillP, splice, ble_nat, beq_nat, AV.cellsOf]) (by simp)]
  intro b2 hb2
  have s2 : SubL K (K.put b2 (.raw (.cells [.i .i64 i.a, .i .i64 i.b, .i .i64 i.c]))) := fun r d hd => by rw [Lg.put_ne _ _ _ (by rintro rfl; rw [hb2] at hd; cases hd)]; exact hd
  have hb2' : (K.put b2 (.raw (.cells [.i .i64 i.a, .i .i64 i.b, .i .i64 i.c]))) b2 = some (.raw (.cells [.i .i64 i.a, .i .i64 i.b, .i .i64 i.c])) := Lg.put_same _ _ _
  generalize hK2 : K.put b2 (.raw (.cells [.i .i64 i.a, .i .i64 i.b, .i .i64 i.c])) = K2 at s2 hb2'
  simp
  unfold D_prog_good_7
  obtain ⟨I, hI⟩ : ∃ I : Nat → Env → Lg → Prop, I = fun m E K' => ∃ k : Nat, m + k = 3 ∧ K' = K2 ∧ E 1 = .i .i64 pl ∧ E 2 = .p (some (b1, 0)) ∧ E 42 = .sl (some (b2, 0)) 3 3 0 ∧ E 43 = .i .i64 3 ∧ E 44 = .i .i64 k ∧ (∀ j, j < k → fldOk i pl j = true) := ⟨_, rfl⟩
  refine loopW_intro I 3 ?_ ?_
  · rw [hI]
    exact ⟨0, by omega, rfl, by simp [l1], by simp [l2], by simp, by simp, by simp, by omega⟩
  intro m E t K' hi
  rw [hI] at hi
  obtain ⟨k, hm, rfl, e1, e2, e42, e43, e44, hall⟩ := hi
  unfold D_prog_good_8
  rw [e1, e2, e42, e43, e44]
  by_cases hk : k < 3
  · have e3 : (k : Int) < 3 := by omega
    have hg : rdL K' (b2, k) none = some (.i .i64 (i.abc.getD k 0)) := by
      rw [rdL_cell hb2']
      have : k = 0 ∨ k = 1 ∨ k = 2 := by omega
      rcases this with rfl | rfl | rfl <;> rfl
    have w1 : wr .i64 (i.op - 1) = i.op - 1 := wr_id (by omega) (by omega)
    have w2 : wr .i64 (3 * (i.op - 1)) = 3 * (i.op - 1) := wr_id (by omega) (by omega)
    have w3 : wr .i64 (3 * (i.op - 1) + k) = 3 * (i.op - 1) + k := wr_id (by omega) (by omega)
    simp [e3, wp_iad _ _ _ 1 b2 0 3 3 0 .i64 (k : Int) (Int.natCast_nonneg _) e3, hg, f0 K' s2, w1, w2, w3]
    have hx0 : 0 ≤ 3 * (i.op - 1) + k := by omega
    have hx1 : 3 * (i.op - 1) + k < ((fieldsL.length : Nat) : Int) := by have : fieldsL.length = 96 := rfl; omega
    have hby : ((fieldsL[(3 * (i.op - 1) + k).toNat]'(by omega)).toNat : Int) = fldB i.op k := by
      unfold fldB
      rw [List.getD, List.getElem?_eq_getElem (by omega)]; rfl
    have ei := fun (k' : AV → Lg → Prop) => wp_ixS (F := F) (L := K') (k := k') fieldsL .i64 _ hx0 hx1
    refine Eq.mpr (ei _) ?_
    rw [hby]
    refine (may_spec hf.prog_may (fldB i.op k) (i.abc[k]?.getD 0) pl K').mono ?_
    rintro _ K3 ⟨rfl, hK3⟩
    subst hK3
    have hok : mayP (fldB i.op k) (i.abc[k]?.getD 0) pl = fldOk i pl k := rfl
    rw [hok]
    cases hv : fldOk i pl k with
    | false =>
      simp
      have hfin : (fldOk i pl 0 && fldOk i pl 1 && fldOk i pl 2 && !(i.cs.any badC)) = false := by
        have : k = 0 ∨ k = 1 ∨ k = 2 := by omega
        rcases this with rfl | rfl | rfl <;> simp [hv]
      show ∃ L', Sees _ L' ∧ Q (.b false) L'
      rw [← hfin]
      exact hQ _ fun r d hd => s2 r d (hs r d hd)
    | true =>
      have w4 : wr .i64 ((k : Int) + 1) = ((k + 1 : Nat) : Int) := by rw [wr_id (by omega) (by omega)]; omega
      simp [w4]
      rw [hI]
      refine ⟨m - 1, by omega, k + 1, by omega, rfl, by simp [e1], by simp [e2], by simp [e42], by simp [e43], by simp, ?_⟩
      intro j hj
      by_cases hjk : j = k
      · rw [hjk]; exact hv
      · exact hall j (by omega)
  · have e3 : ¬ (k : Int) < 3 := by omega
    simp [e3]
    unfold D_prog_good_4
    simp [f4 K' s2]
    refine (containsC_spec hf.slices_ContainsFunc_CaseCase (hc.mono fun r d hd => s2 r d (hs r d hd)) (by omega) (p := badC) fun w _ => ?_).mono ?_
    · exact good1_spec hf.prog_good_1 w K'
    rintro _ K3 ⟨rfl, hK3⟩
    subst hK3
    have hfin : (fldOk i pl 0 && fldOk i pl 1 && fldOk i pl 2 && !(i.cs.any badC)) = !(i.cs.any badC) := by
      rw [hall 0 (by omega), hall 1 (by omega), hall 2 (by omega)]; simp
    have := hQ K3 fun r d hd => s2 r d (hs r d hd)
    rw [hfin] at this
    simp
    obtain ⟨L', g1, g2⟩ := this
    exact ⟨L', g1, by simpa using g2⟩
theorem good_spec (hf : H_prog_good N F) {L : Lg} {i : Ins} {cv : AV} (hc : SlQ Cs3.cells 3 L cv i.cs) (pl : Int) : CallL F (N k_prog_good) [.agg (i.cells cv), .i .i64 pl] L fun v L' => v = .b (goodP i pl) ∧ L' = L := by
  refine CallL.opq ?_
  intro Q hQ
  apply r_prog_good hf.code
  unfold D_prog_good_1
  have hcv : cv.one = true := by obtain ⟨a, cap, ex, rfl, _⟩ := hc; rfl
  have hone : (i.cells cv).all AV.one = true := by simp [Ins.cells, hcv]
  simp
  rw [newL_box_agg _ _ _ hone]
  intro b1 hb1
  have hb : (L.put b1 (.raw (.cells (i.cells cv)))) b1 = some (.raw (.cells (i.cells cv))) := Lg.put_same _ _ _
  have hs : SubL L (L.put b1 (.raw (.cells (i.cells cv)))) := fun r d hd => by rw [Lg.put_ne _ _ _ (by rintro rfl; rw [hb1] at hd; cases hd)]; exact hd
  generalize hK : L.put b1 (.raw (.cells (i.cells cv))) = K at hb hs
  have f0 : rdL K (b1, 0) none = some (.i .i64 i.op) := by rw [rdL_cell hb]; rfl
  have f4 : rdL K (b1, 4) none = some cv := by rw [rdL_cell hb]; rfl
  have f5 : rdL K (b1, 5) none = some (.b i.df) := by rw [rdL_cell hb]; rfl
  have hlen := fun X k => hc.len (F := F) X k
  have no : goodP i pl = false → Q (.b false) L := fun h => by have := hQ (.b (goodP i pl)) L ⟨rfl, rfl⟩; rwa [h] at this
  have se : Sees K L := Ext2.sees hs
  have D5 : 1 ≤ i.op → i.op ≤ 32 → i.cs.length ≤ 16 → (i.op = 15 ∨ (i.cs = [] ∧ i.df = false)) → ∀ {l : Env}, l 1 = .i .i64 pl → l 2 = .p (some (b1, 0)) → D_prog_good_5 F N Q l K := by
    intro c1 c2 c3 c4 l l1 l2
    refine good5_spec hf hc c3 c1 c2 hb hs l1 l2 fun K' hK' => ⟨L, Ext2.sees hK', ?_⟩
    have : goodP i pl = (fldOk i pl 0 && fldOk i pl 1 && fldOk i pl 2 && !(i.cs.any badC)) := by
      rcases c4 with c4 | ⟨c4, c5⟩ <;> simp [goodP, c1, c2, c3, c4, *]
    rw [← this]
    exact hQ _ _ ⟨rfl, rfl⟩
  unfold D_prog_good_2
  by_cases c1 : i.op < 1
  · simp [f0, c1]
    exact ⟨_, se, no (by have : ¬ 1 ≤ i.op := by omega
                         simp [goodP, this])⟩
  by_cases c2 : 32 < i.op
  · simp [f0, c1, c2]
    exact ⟨_, se, no (by have : ¬ i.op ≤ 32 := by omega
                         simp [goodP, this])⟩
  have d1 : 1 ≤ i.op := by omega
  have d2 : i.op ≤ 32 := by omega
  by_cases c3 : i.op = 15
  · by_cases c6 : 16 < i.cs.length
    · have e6 : (16 : Int) < (i.cs.length : Int) := by omega
      simp [f0, f4, c1, c2, c3, hlen, e6]
      exact ⟨_, se, no (by have : ¬ i.cs.length ≤ 16 := by omega
                           simp [goodP, this])⟩
    · have e6 : ¬ (16 : Int) < (i.cs.length : Int) := by omega
      simp [f0, f4, c1, c2, c3, hlen, e6]
      exact D5 d1 d2 (by omega) (.inl c3) (by simp) (by simp)
  · by_cases c4 : i.cs = []
    · have e4 : i.cs.length = 0 := by rw [c4]; rfl
      cases c5 : i.df with
      | true =>
        simp [f0, f4, f5, c1, c2, c3, hlen, e4, c5]
        exact ⟨_, se, no (by simp [goodP, c3, c5])⟩
      | false =>
        simp [f0, f4, f5, c1, c2, c3, hlen, e4, c5]
        exact D5 d1 d2 (by omega) (.inr ⟨c4, c5⟩) (by simp) (by simp)
    · have e4 : 0 < i.cs.length := List.length_pos_iff.2 c4
      simp [f0, f4, f5, c1, c2, c3, hlen, e4, c4]
      exact ⟨_, se, no (by simp [goodP, c3, c4])⟩
/-- a program, as it is read: each instruction, and its cases' slice -/
def PrL (L : Lg) (v : AV) (p : List (Ins × AV)) : Prop := SlQ (fun x : Ins × AV => x.1.cells x.2) 6 L v p ∧ ∀ x, x ∈ p → SlQ Cs3.cells 3 L x.2 x.1.cs
def checkP (p : List Ins) : Bool := decide (p.length ≤ 100) && p.all fun i => goodP i p.length
theorem check1_spec (hf : H_prog_Check_1 N F) {L : Lg} {v : AV} {p : List (Ins × AV)} (hp : PrL L v p) {b : Nat} (hb : L b = some (.raw (.cells [v]))) {x : Ins × AV} (hx : x ∈ p) :
    CallL F (N k_prog_Check_1) ([] ++ (.agg (x.1.cells x.2)) :: [.p (some (b, 0))]) L fun y L' => y = .b (!goodP x.1 p.length) ∧ L' = L := by
  refine CallL.opq ?_
  intro Q hQ
  apply r_prog_Check_1 hf.code
  unfold D_prog_Check_1_1
  have hc := hp.2 x hx
  have hcv : x.2.one = true := by obtain ⟨a, cap, ex, e, _⟩ := hc; rw [e]; rfl
  have hone : (x.1.cells x.2).all AV.one = true := by simp [Ins.cells, hcv]
  simp
  rw [newL_box_agg _ _ _ hone]
  intro b1 hb1
  have h1 : (L.put b1 (.raw (.cells (x.1.cells x.2)))) b1 = some (.raw (.cells (x.1.cells x.2))) := Lg.put_same _ _ _
  have hs : SubL L (L.put b1 (.raw (.cells (x.1.cells x.2)))) := fun r d hd => by rw [Lg.put_ne _ _ _ (by rintro rfl; rw [hb1] at hd; cases hd)]; exact hd
  have g6 : rdL (L.put b1 (.raw (.cells (x.1.cells x.2)))) (b1, 0) (some 6) = some (.agg (x.1.cells x.2)) := by rw [rdL_cells h1 (by simp [Ins.cells])]; rfl
  have g0 : rdL (L.put b1 (.raw (.cells (x.1.cells x.2)))) (b, 0) none = some v := by rw [rdL_cell (hs _ _ hb)]; rfl
  simp [g6, g0, hp.1.len]
  refine (good_spec hf.prog_good (hc.mono hs) p.length).mono ?_
  rintro _ K3 ⟨rfl, hK3⟩
  rw [hK3]
  simp
  exact ⟨_, Ext2.sees hs, hQ _ _ ⟨by simp, rfl⟩⟩
theorem check_spec (hf : H_prog_Check N F) {L : Lg} {v : AV} {p : List (Ins × AV)} (hp : PrL L v p) (hl : p.length ≤ 1000000) :
    CallL F (N k_prog_Check) [v] L fun y L' => y = .i .i64 (if checkP (p.map (·.1)) = true then 0 else 1) ∧ L' = L := by
  refine CallL.opq ?_
  intro Q hQ
  apply r_prog_Check hf.code
  unfold D_prog_Check_1
  have hv : v.cellsOf = some [v] := by obtain ⟨a, cap, ex, e, _⟩ := hp.1; rw [e]; rfl
  have hlen := fun X k => hp.1.len (F := F) X k
  simp
  rw [newL_box v L _ hv]
  intro b hb
  have h1 : (L.put b (.raw (.cells [v]))) b = some (.raw (.cells [v])) := Lg.put_same _ _ _
  have hs : SubL L (L.put b (.raw (.cells [v]))) := fun r d hd => by rw [Lg.put_ne _ _ _ (by rintro rfl; rw [hb] at hd; cases hd)]; exact hd
  have g0 : rdL (L.put b (.raw (.cells [v]))) (b, 0) none = some v := by rw [rdL_cell h1]; rfl
  by_cases c1 : 100 < p.length
  · have e1 : (100 : Int) < (p.length : Int) := by omega
    have e3 : ¬ (p.length : Int) ≤ 100 := by omega
    simp [g0, hlen, e1, e3]
    exact ⟨_, Ext2.sees hs, hQ _ _ ⟨by have : ¬ p.length ≤ 100 := by omega
                                       simp [checkP, this], rfl⟩⟩
  · have e1 : ¬ (100 : Int) < (p.length : Int) := by omega
    simp [g0, hlen, e1]
    refine (containsI_spec hf.slices_ContainsFunc_InstrInstr (hp.1.mono hs) hl (p := fun x => !goodP x.1 p.length) fun x hx => check1_spec hf.prog_Check_1 ⟨hp.1.mono hs, fun x hx => (hp.2 x hx).mono hs⟩ h1 hx).mono ?_
    rintro _ K3 ⟨rfl, hK3⟩
    rw [hK3]
    have e2 : checkP (p.map (·.1)) = !(p.any fun x => !goodP x.1 p.length) := by
      have : p.length ≤ 100 := by omega
      simp [checkP, this, List.all_map, List.all_eq_not_any_not]
      rfl
    cases hh : p.any fun x => !goodP x.1 p.length with
    | true =>
      rw [hh] at e2
      have e4 : (p.length : Int) ≤ 100 := by omega
      simp [e4, e1]
      exact ⟨_, Ext2.sees hs, hQ _ _ ⟨by rw [e2]; rfl, rfl⟩⟩
    | false =>
      rw [hh] at e2
      have e4 : (p.length : Int) ≤ 100 := by omega
      simp [e4, e1]
      exact ⟨_, Ext2.sees hs, hQ _ _ ⟨by rw [e2]; rfl, rfl⟩⟩
end Go.AM


/- prog: All. -/
set_option linter.unusedVariables false
set_option linter.unusedSimpArgs false
namespace Go.AM
variable {N : Nat → Nat} {F : Nat → Option AFn}
def startsP (i : Ins) : Int := if i.op = 8 then i.b else if i.op = 19 then i.c else if i.op = 31 then i.c else -1
theorem starts_spec (hf : H_prog_starts N F) (i : Ins) {cv : AV} (hcv : cv.one = true) (L : Lg) : CallL F (N k_prog_starts) [.agg (i.cells cv)] L fun v L' => v = .i .i64 (startsP i) ∧ L' = L := by
  refine CallL.opq ?_
  intro Q hQ
  apply r_prog_starts hf.code
  unfold D_prog_starts_1
  have hone : (i.cells cv).all AV.one = true := by simp [Ins.cells, hcv]
  simp
  rw [newL_box_agg _ _ _ hone]
  intro b1 hb1
  have hb : (L.put b1 (.raw (.cells (i.cells cv)))) b1 = some (.raw (.cells (i.cells cv))) := Lg.put_same _ _ _
  have se : Sees (L.put b1 (.raw (.cells (i.cells cv)))) L := ((Ext2.refl L).put hb1 _).sees
  generalize hK : L.put b1 (.raw (.cells (i.cells cv))) = K at hb se
  have f0 : rdL K (b1, 0) none = some (.i .i64 i.op) := by rw [rdL_cell hb]; rfl
  have f2 : rdL K (b1, 2) none = some (.i .i64 i.b) := by rw [rdL_cell hb]; rfl
  have f3 : rdL K (b1, 3) none = some (.i .i64 i.c) := by rw [rdL_cell hb]; rfl
  by_cases c1 : i.op = 8
  · simp [f0, f2, c1]
    exact ⟨_, se, hQ _ _ ⟨by simp [startsP, c1], rfl⟩⟩
  by_cases c2 : i.op = 19
  · simp [f0, f3, c1, c2]
    exact ⟨_, se, hQ _ _ ⟨by simp [startsP, c1, c2], rfl⟩⟩
  by_cases c3 : i.op = 31
  · simp [f0, f3, c1, c2, c3]
    exact ⟨_, se, hQ _ _ ⟨by simp [startsP, c1, c2, c3], rfl⟩⟩
  · simp [f0, f3, c1, c2, c3]
    exact ⟨_, se, hQ _ _ ⟨by simp [startsP, c1, c2, c3], rfl⟩⟩
/-- programs, as they are read -/
def PsL (L : Lg) (v : AV) (ps : List (AV × List (Ins × AV))) : Prop := SlQ (fun x : AV × List (Ins × AV) => [x.1]) 1 L v ps ∧ ∀ x, x ∈ ps → PrL L x.1 x.2 ∧ x.2.length ≤ 1000000
def insOf (p : List (Ins × AV)) : List Ins := p.map (·.1)
def allP (ps : List (List Ins)) : Bool := decide (1 ≤ ps.length) && decide (ps.length ≤ 16) && ps.all fun p => checkP p && !(p.any fun i => decide ((ps.length : Int) ≤ startsP i))
theorem all1_spec (hf : H_prog_All_1 N F) {L : Lg} {v : AV} {n : Nat} (hv : ∀ (X : Lg) (k : AV → Lg → Prop), wpOp F .lenSl [v] X k = k (.i .i64 n) X) {b : Nat} (hb : L b = some (.raw (.cells [v]))) {x : Ins × AV} (hx : x.2.one = true) (hsl : ∃ a m c e, v = .sl a m c e) :
    CallL F (N k_prog_All_1) ([] ++ (.agg (x.1.cells x.2)) :: [.p (some (b, 0))]) L fun y L' => y = .b (decide ((n : Int) ≤ startsP x.1)) ∧ L' = L := by
  refine CallL.opq ?_
  intro Q hQ
  apply r_prog_All_1 hf.code
  unfold D_prog_All_1_1
  have hone : (x.1.cells x.2).all AV.one = true := by simp [Ins.cells, hx]
  simp
  rw [newL_box_agg _ _ _ hone]
  intro b1 hb1
  have h1 : (L.put b1 (.raw (.cells (x.1.cells x.2)))) b1 = some (.raw (.cells (x.1.cells x.2))) := Lg.put_same _ _ _
  have hs : SubL L (L.put b1 (.raw (.cells (x.1.cells x.2)))) := fun r d hd => by rw [Lg.put_ne _ _ _ (by rintro rfl; rw [hb1] at hd; cases hd)]; exact hd
  have g6 : rdL (L.put b1 (.raw (.cells (x.1.cells x.2)))) (b1, 0) (some 6) = some (.agg (x.1.cells x.2)) := by rw [rdL_cells h1 (by simp [Ins.cells])]; rfl
  have g0 : rdL (L.put b1 (.raw (.cells (x.1.cells x.2)))) (b, 0) none = some v := by rw [rdL_cell (hs _ _ hb)]; rfl
  simp [g6]
  refine (starts_spec hf.prog_starts x.1 hx _).mono ?_
  rintro _ K3 ⟨rfl, hK3⟩
  rw [hK3]
  simp [g0, hv]
  refine ⟨?_, ⟨_, Ext2.sees hs, hQ _ _ ⟨by simp, rfl⟩⟩⟩
  obtain ⟨a, m, c, e, rfl⟩ := hsl
  rcases a with _ | ⟨x1, x2⟩ <;> simp [againV, semRL, rLdL, g0, sameV, same1]
theorem all_spec (hf : H_prog_All N F) {L : Lg} {v : AV} {ps : List (AV × List (Ins × AV))} (hp : PsL L v ps) (hl : ps.length ≤ 1000000) :
    CallL F (N k_prog_All) [v] L fun y L' => y = .i .i64 (if allP (ps.map fun x => insOf x.2) = true then 0 else 1) ∧ L' = L := by
  refine CallL.opq ?_
  intro Q hQ
  apply r_prog_All hf.code
  unfold D_prog_All_1
  have hv : v.cellsOf = some [v] := by obtain ⟨a, cap, ex, e, _⟩ := hp.1; rw [e]; rfl
  have hlen := fun X k => hp.1.len (F := F) X k
  simp
  rw [newL_box v L _ hv]
  intro b hb
  have h1 : (L.put b (.raw (.cells [v]))) b = some (.raw (.cells [v])) := Lg.put_same _ _ _
  have hs : SubL L (L.put b (.raw (.cells [v]))) := fun r d hd => by rw [Lg.put_ne _ _ _ (by rintro rfl; rw [hb] at hd; cases hd)]; exact hd
  generalize hK : L.put b (.raw (.cells [v])) = K at h1 hs
  have se : Sees K L := Ext2.sees hs
  have g0 : rdL K (b, 0) none = some v := by rw [rdL_cell h1]; rfl
  have no : allP (ps.map fun x => insOf x.2) = false → Q (.i .i64 1) L := fun h => by have := hQ (.i .i64 (if allP (ps.map fun x => insOf x.2) = true then 0 else 1)) L ⟨rfl, rfl⟩; rw [h] at this; exact this
  unfold D_prog_All_2
  by_cases c1 : ps.length < 1
  · have e1 : (ps.length : Int) < 1 := by omega
    simp [g0, hlen, e1]
    exact ⟨_, se, no (by have : ¬ 1 ≤ ps.length := by omega
                         simp [allP, this])⟩
  by_cases c2 : 16 < ps.length
  · have e1 : ¬ (ps.length : Int) < 1 := by omega
    have e2 : (16 : Int) < (ps.length : Int) := by omega
    simp [g0, hlen, e1, e2]
    exact ⟨_, se, no (by have : ¬ ps.length ≤ 16 := by omega
                         simp [allP, this])⟩
  have e1 : ¬ (ps.length : Int) < 1 := by omega
  have e2 : ¬ (16 : Int) < (ps.length : Int) := by omega
  simp [g0, hlen, e1, e2]
  unfold D_prog_All_5
  simp [g0, hlen]
  unfold D_prog_All_7
  have bad : ∀ x, x ∈ ps → (checkP (insOf x.2) && !((insOf x.2).any fun i => decide ((ps.length : Int) ≤ startsP i))) = false → Q (.i .i64 1) L := fun x hx h => no (by
    have : (ps.map fun x => insOf x.2).all (fun p => checkP p && !(p.any fun i => decide (((ps.map fun x => insOf x.2).length : Int) ≤ startsP i))) = false := by
      rw [List.all_eq_false]
      refine ⟨insOf x.2, List.mem_map.2 ⟨x, hx, rfl⟩, ?_⟩
      rw [List.length_map, h]; simp
    unfold allP
    rw [this]; simp)
  obtain ⟨I, hI⟩ : ∃ I : Nat → Env → Lg → Prop, I = fun m E K' => ∃ k : Nat, m + k = ps.length ∧ K' = K ∧ E 1 = .p (some (b, 0)) ∧ E 13 = v ∧ E 14 = .i .i64 ps.length ∧ E 15 = .i .i64 k ∧
      (∀ x, x ∈ ps.take k → (checkP (insOf x.2) && !((insOf x.2).any fun i => decide ((ps.length : Int) ≤ startsP i))) = true) := ⟨_, rfl⟩
  refine loopW_intro I ps.length ?_ ?_
  · rw [hI]
    exact ⟨0, by omega, rfl, by simp, by simp, by simp, by simp, by simp⟩
  intro m E t K' hi
  rw [hI] at hi
  obtain ⟨k, hm, rfl, e1', e13, e14, e15, hall⟩ := hi
  unfold D_prog_All_8
  rw [e1', e13, e14, e15]
  by_cases hk : k < ps.length
  · have hw : ps[k]? = some ps[k] := List.getElem?_eq_getElem hk
    obtain ⟨bb, o, q1, q2, q3⟩ := hp.1.get (F := F) hw
    have q4 := (q2 K' hs).1 0 (by omega)
    have q5 : rdL K' (bb, o) none = some ps[k].1 := by simpa using q4
    have e3 : (k : Int) < (ps.length : Int) := by omega
    obtain ⟨hpr, hpl⟩ := hp.2 ps[k] (List.getElem_mem _)
    have hpr' : PrL K' ps[k].1 ps[k].2 := ⟨hpr.1.mono hs, fun x hx => (hpr.2 x hx).mono hs⟩
    simp [hk, q1, q5]
    refine (check_spec hf.prog_Check hpr' hpl).mono ?_
    rintro _ K3 ⟨rfl, hK3⟩
    rw [hK3]
    cases hc : checkP (insOf ps[k].2) with
    | false =>
      have hc' : checkP (ps[k].2.map (·.1)) = false := hc
      simp [hc']
      exact ⟨_, se, bad ps[k] (List.getElem_mem _) (by rw [hc]; rfl)⟩
    | true =>
      have hc' : checkP (ps[k].2.map (·.1)) = true := hc
      simp [hc']
      have hsl : ∃ a m c e, v = .sl a m c e := by obtain ⟨a, cap, ex, e, _⟩ := hp.1; exact ⟨a, _, cap, ex, e⟩
      refine (containsI_spec hf.slices_ContainsFunc_InstrInstr hpr'.1 hpl (p := fun x => decide ((ps.length : Int) ≤ startsP x.1)) fun x hx => ?_).mono ?_
      · exact all1_spec hf.prog_All_1 hlen h1 (by obtain ⟨a, cap, ex, e, _⟩ := hpr'.2 x hx; rw [e]; rfl) hsl
      rintro _ K4 ⟨rfl, hK4⟩
      rw [hK4]
      have ha : (ps[k].2.any fun x => decide ((ps.length : Int) ≤ startsP x.1)) = (insOf ps[k].2).any fun i => decide ((ps.length : Int) ≤ startsP i) := by
        unfold insOf; rw [List.any_map]; rfl
      rw [ha]
      cases hy : (insOf ps[k].2).any fun i => decide ((ps.length : Int) ≤ startsP i) with
      | true =>
        simp
        exact ⟨_, se, bad ps[k] (List.getElem_mem _) (by rw [hy]; simp)⟩
      | false =>
        have w4 : wr .i64 ((k : Int) + 1) = ((k + 1 : Nat) : Int) := by rw [wr_id (by omega) (by omega)]; omega
        simp [w4]
        rw [hI]
        refine ⟨m - 1, by omega, k + 1, by omega, rfl, by simp [e1'], by simp [e13], by simp [e14], by simp, ?_⟩
        intro x hx
        rw [List.take_add_one, hw] at hx
        rcases List.mem_append.1 hx with hx | hx
        · exact hall x hx
        · simp at hx; rw [hx, hc, hy]; rfl
  · have e3 : ¬ (k : Int) < (ps.length : Int) := by omega
    have e4 : k = ps.length := by omega
    simp [hk, D_prog_All_4]
    rw [e4, List.take_length] at hall
    have hy : allP (ps.map fun x => insOf x.2) = true := by
      unfold allP
      have a1 : 1 ≤ ps.length := by omega
      have a2 : ps.length ≤ 16 := by omega
      simp only [List.length_map, a1, a2, decide_true, Bool.true_and]
      rw [List.all_eq_true]
      intro p hp2
      obtain ⟨x, hx, rfl⟩ := List.mem_map.1 hp2
      exact hall x hx
    have := hQ (.i .i64 (if allP (ps.map fun x => insOf x.2) = true then 0 else 1)) L ⟨rfl, rfl⟩
    rw [hy] at this
    exact ⟨_, se, this⟩
end Go.AM


/- the document's clock: it does what the program's does. -/
set_option linter.unusedVariables false
set_option linter.unusedSimpArgs false
namespace Go.AM
variable {N : Nat → Nat} {F : Nat → Option AFn}
end Go.AM


/- timer: Reset, Fire. -/
set_option linter.unusedVariables false
set_option linter.unusedSimpArgs false
namespace Go.AM
variable {N : Nat → Nat} {F : Nat → Option AFn}
section
variable {L K : Lg} {s t : Nat} {σ : Tms}
end
end Go.AM


/- one timer: what its acts make of it; in plain Lean. -/
set_option linter.unusedVariables false
set_option linter.unusedSimpArgs false
namespace Go.AM

theorem held_id {t : Int} (h : -4611686018427387904 ≤ t) (k : t ≤ 4611686018427387904) : held t = t := by unfold held; omega
theorem clockAdd_id {t d : Int} (h : 0 ≤ t) (k : 0 ≤ d) (b : t + d ≤ 4611686018427387904) : clockAdd t d = t + d := by
  unfold clockAdd
  rw [held_id (t := t) (by omega) (by omega), held_id (t := d) (by omega) (by omega), held_id (by omega) (by omega)]
/-- one timer that is armed -/
structure Sg (σ : Tms) (k dat : Int) (c : Option Nat) (g due q p : Int) : Prop where
  ones : σ.ones = [⟨k, dat, c, g⟩]
  l : σ.x.l = [⟨0, due, q⟩]
  seq : σ.x.seq = q
  pf : σ.x.pf 0 = some p
/-- one timer that is not -/
structure Idl (σ : Tms) (k dat : Int) (c : Option Nat) (g q : Int) : Prop where
  ones : σ.ones = [⟨k, dat, c, g⟩]
  l : σ.x.l = []
  seq : σ.x.seq = q
def Tms.nil : Tms := ⟨[], ⟨[], 0, fun _ => none⟩, 0⟩
theorem badT_ok {a b : Int} (h1 : 0 ≤ a) (h2 : 0 ≤ b) (h3 : a ≤ 4611686018427387904) (h4 : b ≤ 4611686018427387904) : badT a b = false := by
  simp [badT]; omega
section
variable {σ : Tms} {k dat g due q p : Int} {c : Option Nat}
theorem Sg.sorted (h : Sg σ k dat c g due q p) : σ.x.l.Pairwise It.lt := by rw [h.l]; simp
theorem Idl.sorted (h : Idl σ k dat c g q) : σ.x.l.Pairwise It.lt := by rw [h.l]; simp
theorem Sg.one (h : Sg σ k dat c g due q p) : σ.one 0 = some ⟨k, dat, c, g⟩ := by simp [Tms.one, Tms.has, h.ones]
theorem Idl.one (h : Idl σ k dat c g q) : σ.one 0 = some ⟨k, dat, c, g⟩ := by simp [Tms.one, Tms.has, h.ones]
theorem Sg.len (h : Sg σ k dat c g due q p) : σ.x.l.length < 1000000 := by rw [h.l]; simp
theorem Idl.len (h : Idl σ k dat c g q) : σ.x.l.length < 1000000 := by rw [h.l]; simp
theorem Sg.stop (h : Sg σ k dat c g due q p) : Idl { σ with x := σ.x.stop 0 } k dat c g q := ⟨h.ones, by simp [Xs.stop, h.l, rmId], h.seq⟩
theorem Idl.stop (h : Idl σ k dat c g q) : Idl { σ with x := σ.x.stop 0 } k dat c g q := ⟨h.ones, by simp [Xs.stop, h.l, rmId], h.seq⟩
end
end Go.AM


/- sets of timers whatever: what is kept; in plain Lean. -/
set_option linter.unusedVariables false
set_option linter.unusedSimpArgs false
namespace Go.AM
/-- what is so of what will be due -/
structure XG (x : Xs) (K : Int) : Prop where
  sorted : x.l.Pairwise It.lt
  nd : (x.l.map It.id).Nodup
  below : ∀ y ∈ x.l, y.s ≤ x.seq
  pos : 0 ≤ x.seq
  seq : x.seq ≤ K
  len : (x.l.length : Int) ≤ K
  per : ∀ y ∈ x.l, ∃ p, x.pf y.id = some p ∧ 0 ≤ p ∧ p ≤ 4611686018427387904
  time : ∀ y ∈ x.l, 0 ≤ y.w ∧ y.w ≤ 4611686018427387904
theorem rmId_mem {id : Int} {l : List It} {y : It} : y ∈ rmId id l ↔ y ∈ l ∧ y.id ≠ id := by simp [rmId]
theorem XG.mono {x : Xs} {K K' : Int} (h : XG x K) (hk : K ≤ K') : XG x K' := ⟨h.sorted, h.nd, h.below, h.pos, Int.le_trans h.seq hk, Int.le_trans h.len hk, h.per, h.time⟩
theorem XG.stop {x : Xs} {K : Int} (h : XG x K) (id : Int) : XG (x.stop id) K := by
  have sub : (rmId id x.l).Sublist x.l := List.filter_sublist
  refine ⟨h.sorted.sublist sub, h.nd.sublist (sub.map _), ?_, h.pos, h.seq, ?_, ?_, ?_⟩
  · intro y hy; exact h.below y (rmId_mem.1 hy).1
  · have h1 := sub.length_le
    have h2 := h.len
    have h3 : ((rmId id x.l).length : Int) ≤ (x.l.length : Int) := by omega
    exact Int.le_trans h3 h2
  · intro y hy
    have hy' := rmId_mem.1 hy
    obtain ⟨p, h1, h2⟩ := h.per y hy'.1
    have hn : ¬ id = y.id := fun h9 => hy'.2 h9.symm
    exact ⟨p, by simp [Xs.stop, updI, hn, hy'.2, h1], h2⟩
  · intro y hy; exact h.time y (rmId_mem.1 hy).1
theorem stop_mem {x : Xs} {id : Int} {y : It} : y ∈ (x.stop id).l ↔ y ∈ x.l ∧ y.id ≠ id := rmId_mem
theorem ins_mem {x y : It} {l : List It} : y ∈ ins x l ↔ y = x ∨ y ∈ l := by rw [(ins_perm x l).mem_iff]; simp
theorem XG.arm {x : Xs} {K : Int} (h : XG x K) (id when p : Int) (h1 : 0 ≤ when) (h2 : 0 ≤ p) (h3 : when ≤ 4611686018427387904) (h4 : p ≤ 4611686018427387904) :
    XG (x.arm id when p).1 (K + 1) ∧ (∀ y, y ∈ (x.arm id when p).1.l ↔ y = ⟨id, when, x.seq + 1⟩ ∨ (y ∈ x.l ∧ y.id ≠ id)) ∧ (x.arm id when p).1.pf id = some p ∧ (∀ j, j ≠ id → (x.arm id when p).1.pf j = x.pf j) ∧ (x.arm id when p).1.seq = x.seq + 1 := by
  have hb := badT_ok h1 h2 h3 h4
  have e : (x.arm id when p).1 = x.armed id when p := by simp [Xs.arm, hb]
  rw [e]
  have mem : ∀ y, y ∈ (x.armed id when p).l ↔ y = ⟨id, when, x.seq + 1⟩ ∨ (y ∈ x.l ∧ y.id ≠ id) := by
    intro y
    simp only [Xs.armed]
    rw [ins_mem, rmId_mem]
  have hs := h.stop id
  refine ⟨⟨?_, ?_, ?_, ?_, ?_, ?_, ?_, ?_⟩, mem, by simp [Xs.armed, updI], ?_, rfl⟩
  · refine ins_sorted hs.sorted ?_
    intro y hy
    have := h.below y (rmId_mem.1 hy).1
    simp; omega
  · simp only [Xs.armed]
    rw [((ins_perm _ _).map It.id).nodup_iff]
    simp only [List.map_cons, List.nodup_cons]
    refine ⟨?_, hs.nd⟩
    intro h9
    obtain ⟨y, hy, hyi⟩ := List.mem_map.1 h9
    exact (rmId_mem.1 hy).2 hyi
  · intro y hy
    rcases (mem y).1 hy with rfl | ⟨h5, _⟩
    · simp [Xs.armed]
    · have := h.below y h5; simp [Xs.armed]; omega
  · have := h.pos; simp [Xs.armed]; omega
  · have := h.seq; simp [Xs.armed]; omega
  · have h5 := hs.len
    simp only [Xs.armed, (ins_perm _ _).length_eq, List.length_cons]
    simp only [Xs.stop] at h5
    omega
  · intro y hy
    rcases (mem y).1 hy with rfl | ⟨h5, h6⟩
    · exact ⟨p, by simp [Xs.armed, updI], h2, h4⟩
    · obtain ⟨q, h7, h8⟩ := h.per y h5
      have hn : ¬ id = y.id := fun h9 => h6 h9.symm
      exact ⟨q, by simp [Xs.armed, updI, hn, h6, h7], h8⟩
  · intro y hy
    rcases (mem y).1 hy with rfl | ⟨h5, h6⟩
    · exact ⟨h1, h3⟩
    · exact h.time y h5
  · intro j hj
    have hn : ¬ id = j := fun h9 => hj h9.symm
    simp [Xs.armed, updI, hn, hj]
/-- what is due is taken: or nothing is -/
theorem XG.take {x : Xs} {K : Int} (h : XG x K) {now : Int} (hn : 0 ≤ now) (hb : now ≤ 2305843009213693952) (hp : ∀ y ∈ x.l, ∀ p, x.pf y.id = some p → p ≤ 2305843009213693952) :
    ((∀ y ∈ x.l, now < y.w) ∧ x.take now = (x, (0, 0, 0), false)) ∨
    ∃ (x' : Xs) (y : It), y ∈ x.l ∧ y.w ≤ now ∧ (∀ z ∈ x.l, ¬ z.lt y) ∧ x.take now = (x', (y.id, y.w, now), true) ∧ XG x' (K + 1) ∧ (∀ j, j ≠ y.id → x'.pf j = x.pf j) ∧ 
      ((x.pf y.id = some 0 ∧ ∀ z, z ∈ x'.l ↔ z ∈ x.l ∧ z.id ≠ y.id) ∨
       ∃ p, 0 < p ∧ x.pf y.id = some p ∧ x'.pf y.id = some p ∧ ∀ z, z ∈ x'.l ↔ (z = ⟨y.id, now + (p - (now - y.w) % p), x.seq + 1⟩ ∨ (z ∈ x.l ∧ z.id ≠ y.id))) := by
  cases hl : x.l with
  | nil => left; simp [Xs.take, hl]
  | cons y r =>
    have hs := h.sorted
    rw [hl, List.pairwise_cons] at hs
    have hy : y ∈ x.l := by rw [hl]; simp
    obtain ⟨t0, t1⟩ := h.time y hy
    by_cases hw : now < y.w
    · left
      refine ⟨?_, by simp [Xs.take, hl, hw]⟩
      intro z hz
      rcases List.mem_cons.1 hz with rfl | hz
      · exact hw
      · have := hs.1 z hz
        unfold It.lt at this
        omega
    · right
      obtain ⟨p, hp1, hp2, hp3⟩ := h.per y hy
      have hp4 := hp y hy p hp1
      have c1 : ¬ (now < 0 ∨ now < y.w) := by omega
      have hmin : ∀ z ∈ y :: r, ¬ z.lt y := by
        intro z hz
        rcases List.mem_cons.1 hz with rfl | hz
        · exact It.lt_irrefl _
        · exact It.lt_asymm (hs.1 z hz)
      by_cases hp0 : p = 0
      · subst hp0
        refine ⟨x.stop y.id, y, by simp, by omega, hmin, by simp [Xs.take, hl, c1, hp1, clockNext], (h.stop y.id).mono (by omega), ?_, .inl ⟨hp1, fun z => ?_⟩⟩
        · intro j hj
          have hn : ¬ y.id = j := fun h9 => hj h9.symm
          simp [Xs.stop, updI, hn, hj]
        · rw [stop_mem, hl]
      · have hpp : 0 < p := by omega
        have m0 := Int.emod_nonneg (now - y.w) (show p ≠ 0 by omega)
        have m1 := Int.emod_lt_of_pos (now - y.w) hpp
        have c2 : ¬ (p < 1 ∨ min y.w now < 0 ∨ 4611686018427387904 < max y.w (max p now)) := by omega
        have c3 : ¬ now < y.w := by omega
        have e1 : (now - y.w).tmod p = (now - y.w) % p := Int.tmod_eq_emod_of_nonneg (by omega)
        have e2 : clockNext y.w p now = (now + (p - (now - y.w) % p), 0) := by
          simp only [clockNext, if_neg c2, if_neg c3, e1]
          rw [clockAdd_id (by omega) (by omega) (by omega)]
        have e3 : now < now + (p - (now - y.w) % p) := by omega
        obtain ⟨a1, a2, a3, a4, a5⟩ := (h.stop y.id).arm y.id (now + (p - (now - y.w) % p)) p (by omega) (by omega) (by omega) (by omega)
        refine ⟨((x.stop y.id).arm y.id (now + (p - (now - y.w) % p)) p).1, y, by simp, by omega, hmin, ?_, a1, ?_, .inr ⟨p, hpp, hp1, a3, fun z => ?_⟩⟩
        · simp [Xs.take, hl, c1, hp1, e2, e3]
        · intro j hj
          have hn : ¬ y.id = j := fun h9 => hj h9.symm
          rw [a4 j hj]
          simp [Xs.stop, updI, hn, hj]
        · rw [a2, stop_mem, hl]
          constructor
          · rintro (h1 | ⟨⟨h1, h2⟩, h3⟩)
            · exact .inl h1
            · exact .inr ⟨h1, h2⟩
          · rintro (h1 | ⟨h1, h2⟩)
            · exact .inl h1
            · exact .inr ⟨⟨h1, h2⟩, h2⟩
end Go.AM


/- the document's timers: find, in plain; what is opened. -/
set_option linter.unusedVariables false
set_option linter.unusedSimpArgs false
namespace Go.AM
variable {N : Nat → Nat} {F : Nat → Option AFn}
/-- the periods, as the document keeps them: in a row -/
def per3 (p : Int × Int) : List AV := [.i .i64 p.1, .i .i64 p.2, .i .i64 0]
def perOf (id : Int) : List (Int × Int) → Option Int
  | [] => none
  | p :: r => if p.1 = id then some p.2 else perOf id r
def rmP (id : Int) : List (Int × Int) → List (Int × Int)
  | [] => []
  | p :: r => if p.1 = id then r else p :: rmP id r
theorem perOf_no {id : Int} : ∀ {l : List (Int × Int)}, (∀ y ∈ l, y.1 ≠ id) → perOf id l = none
  | [], _ => rfl
  | a :: r, h => by simp [perOf, h a (by simp), perOf_no (l := r) (fun y hy => h y (by simp [hy]))]
theorem rmP_mem {id : Int} : ∀ {l : List (Int × Int)} {y : Int × Int}, y ∈ rmP id l → y ∈ l
  | [], y, h => by simp [rmP] at h
  | a :: r, y, h => by
    simp only [rmP] at h
    split at h
    · simp [h]
    · rcases List.mem_cons.1 h with h | h
      · simp [h]
      · simp [rmP_mem h]
theorem rmP_nd {id : Int} : ∀ {l : List (Int × Int)}, (l.map (·.1)).Nodup → ((rmP id l).map (·.1)).Nodup ∧ (∀ y ∈ rmP id l, y.1 ≠ id) ∧ ∀ j, perOf j (rmP id l) = updI (fun k => perOf k l) id none j
  | [], _ => ⟨by simp [rmP], by simp [rmP], fun j => by simp [rmP, perOf, updI]⟩
  | a :: r, nd => by
    simp only [List.map_cons, List.nodup_cons] at nd
    obtain ⟨h1, h2, h3⟩ := rmP_nd (id := id) nd.2
    by_cases h : a.1 = id
    · have hn : ∀ y ∈ r, y.1 ≠ id := fun y hy h9 => nd.1 (by rw [h, ← h9]; exact List.mem_map_of_mem hy)
      refine ⟨by simpa [rmP, h] using nd.2, by simpa [rmP, h] using hn, fun j => ?_⟩
      simp only [rmP, h, if_true, updI, perOf]
      by_cases hj : id = j
      · subst hj; simp [perOf_no hn]
      · simp [hj]
    · refine ⟨?_, ?_, fun j => ?_⟩
      · simp only [rmP, h, if_false, List.map_cons, List.nodup_cons]
        refine ⟨fun h9 => ?_, h1⟩
        obtain ⟨y, hy, he⟩ := List.mem_map.1 h9
        exact nd.1 (by rw [← he]; exact List.mem_map_of_mem (rmP_mem hy))
      · intro y hy
        simp only [rmP, h, if_false] at hy
        rcases List.mem_cons.1 hy with rfl | hy
        · exact h
        · exact h2 y hy
      · have := h3 j
        simp only [updI] at this
        simp only [rmP, h, if_false, updI, perOf, this]
        by_cases hj : id = j
        · subst hj; simp [h]
        · simp [hj]
theorem perOf_append {id p j : Int} : ∀ {l : List (Int × Int)}, (∀ y ∈ l, y.1 ≠ id) → perOf j (l ++ [(id, p)]) = updI (fun k => perOf k l) id (some p) j
  | [], _ => by simp [perOf, updI]
  | a :: r, h => by
    have := perOf_append (id := id) (p := p) (j := j) (l := r) (fun y hy => h y (by simp [hy]))
    have h0 := h a (by simp)
    simp only [updI] at this
    simp only [List.cons_append, perOf, this, updI]
    by_cases hj : id = j
    · subst hj; simp [h0]
    · simp [hj]
/-- how the document keeps a set of timers -/
structure ROpen (L : Lg) (u : Nat) (σ : Tms) (per : List (Int × Int)) (sv pv ov : AV) (K : Lg) : Prop where
  root : K u = some (.raw (.cells [sv, .i .i64 σ.x.seq, pv, ov, .i .i64 σ.named]))
  hs : OSe K sv (flatc It.cells σ.x.l) σ.x.l.length 3
  ps : OSe K pv (flatc per3 per) per.length 3
  os : OSl K ov (flatc On.cells σ.ones) σ.ones.length 4
  a1 : ∀ b, slB sv = some b → b ≠ u ∧ L b = none
  a2 : ∀ b, slB pv = some b → b ≠ u ∧ L b = none ∧ slB sv ≠ some b
  a3 : ∀ b, slB ov = some b → b ≠ u ∧ L b = none ∧ slB sv ≠ some b ∧ slB pv ≠ some b
  old : ∀ r d, r ≠ u → L r = some d → K r = some d
theorem OSe.one {K : Lg} {v : AV} {cs : List AV} {n size : Nat} (h : OSe K v cs n size) : v.one = true := by
  rcases h with h | ⟨_, _, b, rfl, _⟩
  · exact h.one
  · rfl
theorem OSe.cellsOf {K : Lg} {v : AV} {cs : List AV} {n size : Nat} (h : OSe K v cs n size) : v.cellsOf = some [v] := by
  rcases h with h | ⟨_, _, b, rfl, _⟩
  · exact h.cellsOf
  · rfl
theorem OSe.same {K : Lg} {v : AV} {cs : List AV} {n size : Nat} (h : OSe K v cs n size) : sameV v v = true := by
  rcases h with (⟨_, _, rfl⟩ | ⟨b, ex, _, rfl, _⟩) | ⟨_, _, b, rfl, _⟩ <;> simp
theorem OSe.mono {K K' : Lg} {v : AV} {cs : List AV} {n size : Nat} (h : OSe K v cs n size) (e : ∀ b, slB v = some b → K' b = K b) : OSe K' v cs n size := by
  rcases h with h | ⟨h1, h2, b, rfl, h3⟩
  · exact .inl (h.mono e)
  · exact .inr ⟨h1, h2, b, rfl, by rw [e b rfl]; exact h3⟩
theorem OSe.sub {K K' : Lg} {v : AV} {cs : List AV} {n size : Nat} (h : OSe K v cs n size) (e : ∀ b d, slB v = some b → K b = some d → K' b = some d) : OSe K' v cs n size :=
  h.mono fun b hb => by rw [h.block hb]; exact e b _ hb (h.block hb)
theorem OSl.sub {K K' : Lg} {v : AV} {cs : List AV} {n size : Nat} (h : OSl K v cs n size) (e : ∀ b d, slB v = some b → K b = some d → K' b = some d) : OSl K' v cs n size :=
  h.mono fun b hb => by rw [h.block hb]; exact e b _ hb (h.block hb)
/-- one struct, as a slice -/
theorem litOneN {z cs : List AV} {size : Nat} {K : Lg} {k : AV → Lg → Prop} (hz : z.length = size) (hc : cs.length = size) (h1 : cs.all AV.one = true) (hk : ∀ (v : AV) (K1 : Lg), OSl K1 v cs 1 size → SubL K K1 → (∀ b, slB v = some b → K b = none) → k v K1) :
    newL (aBslice z 1 size [0]) [.agg cs] K k := by
  rw [newL_bslice (c := cs) _ _ (by simp [reps, fillP, splice, ble_nat, beq_nat, hz, hc, cellsOf_agg cs h1]) h1]
  intro b1 hb1
  refine hk _ _ (.inr ⟨b1, 0, by omega, rfl, .inl rfl, Lg.put_same _ _ _, by simp [hc]⟩) ((SubL.refl K).put hb1 _) ?_
  intro b hb; simp [slB] at hb; subst hb; exact hb1
end Go.AM


/- the document's heap: Find, Remove, put. -/
set_option linter.unusedVariables false
set_option linter.unusedSimpArgs false
namespace Go.AM
variable {N : Nat → Nat} {F : Nat → Option AFn}
/-- a slice that began as an empty literal behind K0 -/
structure LitS (K0 : Lg) (v : AV) (cs : List AV) (n z : Nat) (K1 : Lg) : Prop where
  o : OSe K1 v cs n z
  s : SubL K0 K1
  f : ∀ b, slB v = some b → K0 b = none
theorem SubL.none {K0 K1 : Lg} (h : SubL K0 K1) {b : Nat} (hb : K1 b = Option.none) : K0 b = Option.none := by
  cases hk : K0 b with
  | none => rfl
  | some d => rw [h b d hk] at hb; cases hb
theorem LitS.app {α : Type} {f : α → List AV} {z bytes n : Nat} {K0 K : Lg} {v src : AV} {cs : List AV} {l : List α} (h : LitS K0 v cs n z K) (hf : ∀ x, (f x).length = z) (h1 : ∀ x, (f x).all AV.one = true) (hz : 0 < z) (hs : SlG f z K src l) (hb : (n + l.length) * bytes ≤ 70368744177664)
    {k : AV → Lg → Prop} (hk : ∀ (v' : AV) (K1 : Lg), LitS K0 v' (cs ++ flatc f l) (n + l.length) z K1 → k v' K1) : wpOp F (.app z bytes) [v, src] K k := by
  refine h.o.app hf h1 hz hs hb ?_
  intro v' K1 h2 h3 h4
  refine hk v' K1 ⟨h2, fun r d hr => h3 r d (h.s r d hr) (fun h9 => by have := h.f r h9; rw [hr] at this; cases this), fun b hb' => ?_⟩
  rcases h4 b hb' with h9 | h9
  · exact h.s.none h9
  · exact h.f b h9
theorem LitS.mono {z n : Nat} {K0 K K' : Lg} {v : AV} {cs : List AV} (h : LitS K0 v cs n z K) (hs : SubL K K') : LitS K0 v cs n z K' := ⟨h.o.sub fun b d _ hd => hs b d hd, h.s.trans hs, h.f⟩
section
variable {L K : Lg} {u : Nat} {σ : Tms} {per : List (Int × Int)} {sv pv ov : AV}
theorem ROpen.ne (o : ROpen L u σ per sv pv ov K) {b : Nat} (hb : K b = none) : b ≠ u ∧ L b = none ∧ slB sv ≠ some b ∧ slB pv ≠ some b ∧ slB ov ≠ some b := by
  have h1 : b ≠ u := by rintro rfl; have := o.root; rw [hb] at this; cases this
  refine ⟨h1, ?_, ?_, ?_, ?_⟩
  · cases h : L b with
    | none => rfl
    | some d => rw [o.old b d h1 h] at hb; cases hb
  · intro h; have := o.hs.block h; rw [hb] at this; cases this
  · intro h; have := o.ps.block h; rw [hb] at this; cases this
  · intro h; have := o.os.block h; rw [hb] at this; cases this
theorem ROpen.sub (o : ROpen L u σ per sv pv ov K) {K' : Lg} (h : SubL K K') : ROpen L u σ per sv pv ov K' :=
  ⟨h _ _ o.root, o.hs.sub fun b d _ hd => h b d hd, o.ps.sub fun b d _ hd => h b d hd, o.os.sub fun b d _ hd => h b d hd, o.a1, o.a2, o.a3, fun r d hr hd => h r d (o.old r d hr hd)⟩
theorem ROpen.below (o : ROpen L u σ per sv pv ov K) {L0 : Lg} (h : ∀ r d, r ≠ u → L0 r = some d → L r = some d) : ROpen L0 u σ per sv pv ov K := by
  have key : ∀ b, b ≠ u → L b = none → L0 b = none := fun b h1 h2 => by
    cases h3 : L0 b with
    | none => rfl
    | some d => rw [h b d h1 h3] at h2; cases h2
  exact ⟨o.root, o.hs, o.ps, o.os, fun b hb => ⟨(o.a1 b hb).1, key b (o.a1 b hb).1 (o.a1 b hb).2⟩, fun b hb => ⟨(o.a2 b hb).1, key b (o.a2 b hb).1 (o.a2 b hb).2.1, (o.a2 b hb).2.2⟩,
    fun b hb => ⟨(o.a3 b hb).1, key b (o.a3 b hb).1 (o.a3 b hb).2.1, (o.a3 b hb).2.2⟩, fun r d hr hd => o.old r d hr (h r d hr hd)⟩
theorem ROpen.seq (o : ROpen L u σ per sv pv ov K) (q : Int) : ROpen L u { σ with x := { σ.x with seq := q } } per sv pv ov (K.put u (.raw (.cells [sv, .i .i64 q, pv, ov, .i .i64 σ.named]))) :=
  ⟨Lg.put_same _ _ _, o.hs.mono fun b hb => Lg.put_ne _ _ _ (o.a1 b hb).1, o.ps.mono fun b hb => Lg.put_ne _ _ _ (o.a2 b hb).1, o.os.mono fun b hb => Lg.put_ne _ _ _ (o.a3 b hb).1, o.a1, o.a2, o.a3,
    fun r d hr hd => by rw [Lg.put_ne _ _ _ hr]; exact o.old r d hr hd⟩
theorem ROpen.pf (o : ROpen L u σ per sv pv ov K) (f : Int → Option Int) : ROpen L u { σ with x := { σ.x with pf := f } } per sv pv ov K := ⟨o.root, o.hs, o.ps, o.os, o.a1, o.a2, o.a3, o.old⟩
theorem ROpen.r2 (o : ROpen L u σ per sv pv ov K) : rdL K (u, 2) none = some pv := by rw [rdL_cell o.root]; rfl
theorem ROpen.st (o : ROpen L u σ per sv pv ov K) {K1 : Lg} (h : SubL K K1) {i : Nat} (hi : i < 5) {w : AV} (hw : w.cellsOf = some [w]) {k : AV → Lg → Prop}
    (hk : k .bad (K1.put u (.raw (.cells ([sv, .i .i64 σ.x.seq, pv, ov, .i .i64 σ.named].set i w))))) : stL 1 K1 k [.p (some (u, i)), w] := by
  rw [stL_cell (h _ _ o.root) (by simpa using hi) hw]; exact hk
end
end Go.AM


/- the document's heap: put; its timers: Stop, Arm, period, Take. -/
set_option linter.unusedVariables false
set_option linter.unusedSimpArgs false
namespace Go.AM
variable {N : Nat → Nat} {F : Nat → Option AFn}
/-- the periods' ids are those that are due -/
structure PerOk (per : List (Int × Int)) (x : Xs) : Prop where
  pm : (per.map (·.1)).Perm (x.l.map It.id)
  eq : ∀ j, x.pf j = perOf j per
theorem rmP_fst {id : Int} : ∀ {l : List (Int × Int)}, (l.map (·.1)).Nodup → (rmP id l).map (·.1) = (l.map (·.1)).filter fun j => !decide (j = id)
  | [], _ => rfl
  | a :: r, nd => by
    simp only [List.map_cons, List.nodup_cons] at nd
    by_cases h : a.1 = id
    · have : (r.map (·.1)).filter (fun j => !decide (j = id)) = r.map (·.1) := by
        rw [List.filter_eq_self]
        intro j hj
        have : ¬ j = id := fun h9 => nd.1 (by rw [h, ← h9]; exact hj)
        simp [this]
      simp only [rmP, h, if_true, List.map_cons]
      rw [List.filter_cons_of_neg (by simp), this]
    · have := rmP_fst (id := id) nd.2
      simp only [rmP, h, if_false, List.map_cons]
      rw [List.filter_cons_of_pos (by simp [h]), this]
theorem rmId_ids (id : Int) (l : List It) : (rmId id l).map It.id = (l.map It.id).filter fun j => !decide (j = id) := by
  unfold rmId
  rw [List.filter_map]; rfl
theorem PerOk.nd {per : List (Int × Int)} {x : Xs} (h : PerOk per x) (nd : (x.l.map It.id).Nodup) : (per.map (·.1)).Nodup := h.pm.nodup_iff.2 nd
theorem PerOk.len {per : List (Int × Int)} {x : Xs} (h : PerOk per x) : per.length = x.l.length := by simpa using h.pm.length_eq
theorem PerOk.stop {per : List (Int × Int)} {x : Xs} (h : PerOk per x) (nd : (x.l.map It.id).Nodup) (id : Int) : PerOk (rmP id per) (x.stop id) := by
  have n1 := h.nd nd
  refine ⟨?_, fun j => ?_⟩
  · simp only [Xs.stop]
    rw [rmP_fst n1, rmId_ids]; exact h.pm.filter _
  · rw [(rmP_nd (id := id) n1).2.2 j]
    simp only [Xs.stop, updI, h.eq]
theorem PerOk.armed {per : List (Int × Int)} {x : Xs} (h : PerOk per x) (nd : (x.l.map It.id).Nodup) (id w p : Int) : PerOk (rmP id per ++ [(id, p)]) (x.armed id w p) := by
  have n1 := h.nd nd
  have hs := h.stop nd id
  refine ⟨?_, fun j => ?_⟩
  · simp only [Xs.armed, List.map_append, List.map_cons, List.map_nil]
    refine List.Perm.trans ?_ ((ins_perm _ _).map It.id).symm
    simp only [List.map_cons]
    refine List.Perm.trans List.perm_append_comm ?_
    exact hs.pm.cons _
  · rw [perOf_append (rmP_nd n1).2.1]
    simp only [Xs.armed, updI]
    have := hs.eq j
    simp only [Xs.stop, updI] at this
    rw [this]
section
variable {L K : Lg} {u : Nat} {σ : Tms} {per : List (Int × Int)} {sv pv ov : AV}
end
end Go.AM


/- the document's timers: Arm, Take. -/
set_option linter.unusedVariables false
set_option linter.unusedSimpArgs false
namespace Go.AM
variable {N : Nat → Nat} {F : Nat → Option AFn}
section
variable {L K : Lg} {u : Nat} {σ : Tms} {per : List (Int × Int)} {sv pv ov : AV}
/-- what lets the document's timers go on -/
structure RFine (σ : Tms) (per : List (Int × Int)) (B : Int) : Prop where
  g : XG σ.x B
  b : B < 1000000
  p : PerOk per σ.x
theorem RFine.l {B : Int} (h : RFine σ per B) : σ.x.l.length < 1000000 := by have := h.g.len; have := h.b; omega
theorem RFine.pl {B : Int} (h : RFine σ per B) : per.length < 1000000 := by rw [h.p.len]; exact h.l
theorem RFine.q {B : Int} (h : RFine σ per B) : 0 ≤ σ.x.seq ∧ σ.x.seq < 4611686018427387904 := by have := h.g.pos; have := h.g.seq; have := h.b; omega
end
end Go.AM


/- the document's channels. -/
set_option linter.unusedVariables false
set_option linter.unusedSimpArgs false
namespace Go.AM
variable {N : Nat → Nat} {F : Nat → Option AFn}
def fI (n : Int) : List AV := [.i .i64 n]
theorem Wk.one5 (w : Wk) : w.cells.all AV.one = true := rfl
/-- how the document keeps a channel -/
def crt (x : Ch) (bv sv rv : AV) : List AV := [.i .i64 x.cap, .b x.timed, .b x.signal, .b x.closed, bv, sv, rv]
structure CROpen (L : Lg) (c : Nat) (x : Ch) (bv sv rv : AV) (K : Lg) : Prop where
  root : K c = some (.raw (.cells (crt x bv sv rv)))
  bs : OSe K bv (flatc fI x.vals) x.vals.length 1
  ss : OSe K sv (flatc Wt.cells x.sends) x.sends.length 3
  rs : OSe K rv (flatc Wt.cells x.recvs) x.recvs.length 3
  a1 : ∀ b, slB bv = some b → b ≠ c ∧ L b = none
  a2 : ∀ b, slB sv = some b → b ≠ c ∧ L b = none ∧ slB bv ≠ some b
  a3 : ∀ b, slB rv = some b → b ≠ c ∧ L b = none ∧ slB bv ≠ some b ∧ slB sv ≠ some b
  old : ∀ r d, r ≠ c → L r = some d → K r = some d
  len : x.recvs.length ≤ 1000000 ∧ x.sends.length ≤ 1000000 ∧ x.vals.length ≤ 1000000
def ChRP (c : Nat) (x : Ch) (h : Hp) : Prop := ∃ bv sv rv M, CROpen Lg.nil c x bv sv rv M ∧ Sat M h
section
variable {L K : Lg} {c : Nat} {x : Ch} {bv sv rv : AV}
theorem CROpen.ne (o : CROpen L c x bv sv rv K) {b : Nat} (hb : K b = none) : b ≠ c ∧ L b = none ∧ slB bv ≠ some b ∧ slB sv ≠ some b ∧ slB rv ≠ some b := by
  have h1 : b ≠ c := by rintro rfl; have := o.root; rw [hb] at this; cases this
  refine ⟨h1, ?_, ?_, ?_, ?_⟩
  · cases h : L b with
    | none => rfl
    | some d => rw [o.old b d h1 h] at hb; cases hb
  · intro h; have := o.bs.block h; rw [hb] at this; cases this
  · intro h; have := o.ss.block h; rw [hb] at this; cases this
  · intro h; have := o.rs.block h; rw [hb] at this; cases this
theorem CROpen.shut (o : CROpen L c x bv sv rv K) : Sees K (L.put c (.abs (ChRP c x))) := by
  refine Sees.shutAt (fun b => b = c ∨ slB bv = some b ∨ slB sv = some b ∨ slB rv = some b) (.inl rfl) ?_ ?_ (.inl ⟨_, o.root⟩) ?_
  · intro b d hb hd
    simp only [not_or] at hb
    exact o.old b d hb.1 hd
  · rintro b (rfl | h | h | h) hb
    · exact absurd rfl hb
    · exact (o.a1 b h).2
    · exact (o.a2 b h).2.1
    · exact (o.a3 b h).2.1
  · intro M hp hM hN hs
    refine ⟨bv, sv, rv, M, ⟨?_, o.bs.mono fun b hb => hM b (.inr (.inl hb)), o.ss.mono fun b hb => hM b (.inr (.inr (.inl hb))), o.rs.mono fun b hb => hM b (.inr (.inr (.inr hb))), fun b hb => ⟨(o.a1 b hb).1, rfl⟩, fun b hb => ⟨(o.a2 b hb).1, rfl, (o.a2 b hb).2.2⟩, fun b hb => ⟨(o.a3 b hb).1, rfl, (o.a3 b hb).2.2⟩, fun r d _ hd => by simp [Lg.nil] at hd, o.len⟩, hs⟩
    rw [hM c (.inl rfl)]; exact o.root
theorem CROpen.back (o : CROpen L c x bv sv rv K) (e : L c = some (.abs (ChRP c x))) : Sees K L := by
  have := o.shut
  rwa [Lg.put_self L c _ e] at this
theorem CROpen.sub (o : CROpen L c x bv sv rv K) {K' : Lg} (h : SubL K K') : CROpen L c x bv sv rv K' :=
  ⟨h _ _ o.root, o.bs.sub fun b d _ hd => h b d hd, o.ss.sub fun b d _ hd => h b d hd, o.rs.sub fun b d _ hd => h b d hd, o.a1, o.a2, o.a3, fun r d hr hd => h r d (o.old r d hr hd), o.len⟩
theorem CROpen.below (o : CROpen L c x bv sv rv K) {L0 : Lg} (h : ∀ r d, r ≠ c → L0 r = some d → L r = some d) : CROpen L0 c x bv sv rv K := by
  have key : ∀ b, b ≠ c → L b = none → L0 b = none := fun b h1 h2 => by
    cases h3 : L0 b with
    | none => rfl
    | some d => rw [h b d h1 h3] at h2; cases h2
  exact ⟨o.root, o.bs, o.ss, o.rs, fun b hb => ⟨(o.a1 b hb).1, key b (o.a1 b hb).1 (o.a1 b hb).2⟩, fun b hb => ⟨(o.a2 b hb).1, key b (o.a2 b hb).1 (o.a2 b hb).2.1, (o.a2 b hb).2.2⟩,
    fun b hb => ⟨(o.a3 b hb).1, key b (o.a3 b hb).1 (o.a3 b hb).2.1, (o.a3 b hb).2.2⟩, fun r d hr hd => o.old r d hr (h r d hr hd), o.len⟩
theorem CROpen.closed (o : CROpen L c x bv sv rv K) : CROpen L c { x with closed := true } bv sv rv (K.put c (.raw (.cells (crt { x with closed := true } bv sv rv)))) :=
  ⟨Lg.put_same _ _ _, o.bs.mono fun b hb => Lg.put_ne _ _ _ (o.a1 b hb).1, o.ss.mono fun b hb => Lg.put_ne _ _ _ (o.a2 b hb).1, o.rs.mono fun b hb => Lg.put_ne _ _ _ (o.a3 b hb).1, o.a1, o.a2, o.a3,
    fun r d hr hd => by rw [Lg.put_ne _ _ _ hr]; exact o.old r d hr hd, o.len⟩
theorem LitS.nil (K : Lg) (z : Nat) : LitS K (.sl none 0 0 0) [] 0 z K := ⟨.inl (OSl.nil K z), SubL.refl K, fun b h => by cases h⟩
theorem CROpen.rd (o : CROpen L c x bv sv rv K) (i : Nat) : rdL K (c, i) none = (crt x bv sv rv)[i]? := rdL_cell o.root
theorem CROpen.r2 (o : CROpen L c x bv sv rv K) : rdL K (c, 2) none = some (.b x.signal) := o.rd 2
theorem CROpen.st (o : CROpen L c x bv sv rv K) {K1 : Lg} (h : SubL K K1) {i : Nat} (hi : i < 7) {w : AV} (hw : w.cellsOf = some [w]) {k : AV → Lg → Prop}
    (hk : k .bad (K1.put c (.raw (.cells ((crt x bv sv rv).set i w))))) : stL 1 K1 k [.p (some (c, i)), w] := by
  rw [stL_cell (h _ _ o.root) (by simpa [crt] using hi) hw]; exact hk
/-- what sending makes of a channel that may be sent on -/
def Ch.snd (x : Ch) (v : Int) : Ch × List Wk × Bool := match x.recvs with
  | w :: ws => ({ x with recvs := ws }, [⟨w.t, w.c, v, true, false⟩], true)
  | [] => if x.vals.length < x.cap then ({ x with vals := x.vals ++ [v] }, [], true) else (x, [], false)
/-- a slice that is looked at -/
def SlV {α : Type} (f : α → List AV) (z : Nat) (K : Lg) (v : AV) (l : List α) : Prop := ∃ a cap ex, v = .sl a l.length cap ex ∧ (l = [] ∨ ∃ b off cs, a = some (b, off) ∧ (K b = some (.raw (.cells cs)) ∨ K b = some (.raw (.ro cs))) ∧ off + l.length * z ≤ cs.length ∧ ∀ (i : Nat) (x : α), l[i]? = some x → (cs.drop (off + i * z)).take z = f x)
theorem SlV.len {α : Type} {f : α → List AV} {z : Nat} {v : AV} {l : List α} (h : SlV f z K v l) (X : Lg) (k : AV → Lg → Prop) : wpOp F .lenSl [v] X k = k (.i .i64 l.length) X := by
  obtain ⟨a, cap, ex, rfl, _⟩ := h
  simp
theorem SlV.mono {α : Type} {f : α → List AV} {z : Nat} {K' : Lg} {v : AV} {l : List α} (h : SlV f z K v l) (e : SubL K K') : SlV f z K' v l := by
  obtain ⟨a, cap, ex, rfl, h1 | ⟨b, off, cs, rfl, h2, h3⟩⟩ := h
  · exact ⟨_, _, _, rfl, .inl h1⟩
  · exact ⟨_, _, _, rfl, .inr ⟨b, off, cs, rfl, h2.imp (e _ _) (e _ _), h3⟩⟩
theorem SlV.get {α : Type} {f : α → List AV} {z : Nat} {v : AV} {l : List α} (h : SlV f z K v l) {i : Nat} {x : α} (hi : l[i]? = some x) : ∃ b o, (∀ (X : Lg) (k : AV → Lg → Prop), wpOp F (.iad z) [v, .i .i64 i] X k = k (.p (some (b, o))) X) ∧
    (∀ X : Lg, SubL K X → (∀ j, j < z → rdL X (b, o + j) none = (f x)[j]?) ∧ rdL X (b, o) (some z) = some (.agg (f x))) ∧ K b ≠ none := by
  obtain ⟨a, cap, ex, rfl, h1 | ⟨b, off, cs, rfl, h2, h6, h3⟩⟩ := h
  · subst h1; simp at hi
  · have hl := (List.getElem?_eq_some_iff.1 hi).1
    have h4 := row_le hl h6
    have h5 := h3 i x hi
    refine ⟨b, off + i * z, fun X k => ?_, fun X hX => ?_, ?_⟩
    · rw [wp_iad F X k z b off l.length cap ex .i64 i (by omega) (by omega)]
      simp
    · rcases h2 with h2 | h2
      · refine ⟨fun j hj => ?_, ?_⟩
        · rw [rdL_cell (hX _ _ h2), drop_get h5 hj]
        · rw [rdL_cells (hX _ _ h2) h4, h5]
      · refine ⟨fun j hj => ?_, ?_⟩
        · rw [rdL_ro (hX _ _ h2), drop_get h5 hj]
        · rw [rdL_ros (hX _ _ h2) h4, h5]
    · rcases h2 with h2 | h2 <;> rw [h2] <;> simp
end
end Go.AM


/- the document's timers, hidden: make, with, Func, Lapse, Stop, Reset, Fire, and what they show. -/
set_option linter.unusedVariables false
set_option linter.unusedSimpArgs false
namespace Go.AM
variable {N : Nat → Nat} {F : Nat → Option AFn}
def TmRP (u : Nat) (σ : Tms) (h : Hp) : Prop := ∃ per sv pv ov M, ROpen Lg.nil u σ per sv pv ov M ∧ PerOk per σ.x ∧ Sat M h
section
variable {L K : Lg} {u : Nat} {σ : Tms} {per : List (Int × Int)} {sv pv ov : AV}
theorem ROpen.shut (o : ROpen L u σ per sv pv ov K) (pk : PerOk per σ.x) : Sees K (L.put u (.abs (TmRP u σ))) := by
  refine Sees.shutAt (fun b => b = u ∨ slB sv = some b ∨ slB pv = some b ∨ slB ov = some b) (.inl rfl) ?_ ?_ (.inl ⟨_, o.root⟩) ?_
  · intro b d hb hd
    simp only [not_or] at hb
    exact o.old b d hb.1 hd
  · rintro b (rfl | h | h | h) hb
    · exact absurd rfl hb
    · exact (o.a1 b h).2
    · exact (o.a2 b h).2.1
    · exact (o.a3 b h).2.1
  · intro M hp hM hN hs
    refine ⟨per, sv, pv, ov, M, ⟨?_, o.hs.mono fun b hb => hM b (.inr (.inl hb)), o.ps.mono fun b hb => hM b (.inr (.inr (.inl hb))), o.os.mono fun b hb => hM b (.inr (.inr (.inr hb))), fun b hb => ⟨(o.a1 b hb).1, rfl⟩, fun b hb => ⟨(o.a2 b hb).1, rfl, (o.a2 b hb).2.2⟩, fun b hb => ⟨(o.a3 b hb).1, rfl, (o.a3 b hb).2.2⟩, fun r d _ hd => by simp [Lg.nil] at hd⟩, pk, hs⟩
    rw [hM u (.inl rfl)]; exact o.root
theorem ROpen.back (o : ROpen L u σ per sv pv ov K) (pk : PerOk per σ.x) (e : L u = some (.abs (TmRP u σ))) : Sees K L := by
  have := o.shut pk
  rwa [Lg.put_self L u _ e] at this
theorem ROpen.gen (o : ROpen L u σ per sv pv ov K) {i : Nat} {w : On} (hw : σ.ones[i]? = some w) (g : Int) {b : Nat} (hb : slB ov = some b) :
    ROpen L u { σ with ones := σ.ones.set i { w with gen := g } } per sv pv ov (K.put b (.raw (.cells ((flatc On.cells σ.ones).set (i * 4 + 3) (.i .i64 g))))) := by
  obtain ⟨n1, n2, n3, n4⟩ := o.a3 b hb
  have ne : ∀ {r : Nat} {v : AV}, slB v = some r → slB v ≠ some b → r ≠ b := fun {r} {v} g1 g2 => by rintro rfl; exact g2 g1
  refine ⟨by rw [Lg.put_ne _ _ _ (Ne.symm n1)]; exact o.root, o.hs.mono fun r hr => Lg.put_ne _ _ _ (ne hr n3), o.ps.mono fun r hr => Lg.put_ne _ _ _ (ne hr n4), ?_, o.a1, o.a2, o.a3,
    fun r e hr he => by rw [Lg.put_ne _ _ _ (by rintro rfl; rw [n2] at he; cases he)]; exact o.old r e hr he⟩
  rw [flatc_setc (f := On.cells) (k := 4) (fun _ => rfl) σ.ones i w { w with gen := g } 3 _ hw (by omega) (by simp [On.cells])]
  rcases o.os with ⟨h1, h2, h3⟩ | ⟨b', ex, h1, h2, h3, h4, h5⟩
  · rw [h3] at hb; cases hb
  · rw [h2] at hb; simp [slB] at hb; subst hb
    exact .inr ⟨b', ex, by simpa using h1, by simpa using h2, h3, Lg.put_same _ _ _, by simp [flatc_length (f := On.cells) (k := 4) (fun _ => rfl)]⟩
theorem OSe.osl {v : AV} {cs : List AV} {n size : Nat} (h : OSe K v cs n size) (hn : 0 < n) : OSl K v cs n size := by
  rcases h with h | ⟨h1, _⟩
  · exact h
  · omega
end
end Go.AM


/- the document's timers: Timer, Ticker, Func, Lapse, Stop, Reset, Fire. -/
set_option linter.unusedVariables false
set_option linter.unusedSimpArgs false
namespace Go.AM
variable {N : Nat → Nat} {F : Nat → Option AFn}
section
variable {L K : Lg} {u : Nat} {σ : Tms} {per : List (Int × Int)} {sv pv ov : AV}
/-- what lets the document's set go on -/
structure TFine (σ : Tms) (B : Int) : Prop where
  g : XG σ.x B
  b : B < 1000000
  o : σ.ones.length < 1000000
  n : 0 ≤ σ.named
theorem TFine.r {B : Int} (h : TFine σ B) (pk : PerOk per σ.x) : RFine σ per B := ⟨h.g, h.b, pk⟩
end
end Go.AM


/- the document's timers: Reset, Fire, what they show. -/
set_option linter.unusedVariables false
set_option linter.unusedSimpArgs false
namespace Go.AM
variable {N : Nat → Nat} {F : Nat → Option AFn}
section
variable {L K : Lg} {u : Nat} {σ : Tms} {per : List (Int × Int)} {sv pv ov : AV}
end
end Go.AM


/- ctx: the timers of contexts; in plain Lean. -/
set_option linter.unusedVariables false
set_option linter.unusedSimpArgs false
namespace Go.AM
/-- contexts' deadlines are timers, and there are no others; ex: whose timer may be gone -/
structure TW (S : CX) (s : Nat) (K : Int) (ex : Nat → Prop) : Prop where
  t : S.σ.t = some s
  xg : XG S.τ.x K
  named : 0 ≤ S.τ.named ∧ S.τ.named ≤ 64
  pf : ∀ y ∈ S.τ.x.l, S.τ.x.pf y.id = some 0
  ones : ∀ (k : Nat) (o : On), S.τ.ones[k]? = some o → o.kind = 4 ∧ o.c = none ∧ ∃ (j : Nat) (x : One), o.data = (j : Int) ∧ S.σ.ones[j]? = some x ∧ x.timer = (k : Int) ∧ x.own = true
  item : ∀ y ∈ S.τ.x.l, ∃ (k j : Nat) (x : One) (o : On), y.id = (k : Int) ∧ S.σ.ones[j]? = some x ∧ x.timer = (k : Int) ∧ x.own = true ∧ x.err = 0 ∧ x.when = y.w ∧ S.τ.ones[k]? = some o ∧ o.data = (j : Int)
  own : ∀ (j : Nat) (x : One), S.σ.ones[j]? = some x → x.own = true → x.err = 0 → ¬ ex j → ∃ y ∈ S.τ.x.l, y.id = x.timer ∧ y.w = x.when
  tim : ∀ (j : Nat) (x : One), S.σ.ones[j]? = some x → (x.own = false → x.timer = -1) ∧ (x.own = true → ∃ (k : Nat) (o : On), x.timer = (k : Int) ∧ S.τ.ones[k]? = some o ∧ o.data = (j : Int))
  cnt : S.τ.ones.length ≤ 64
/-- a context more without a timer -/
theorem TW.add {S : CX} {s : Nat} {K : Int} (h : TW S s K (fun _ => False)) {o : One} {p : Int} {χ' : Nat → Ch} (he : (S.σ.add o p).ones = S.σ.ones ++ [{ o with node := S.σ.tree.length, timer := -1 }]) (ho : o.own = false) : TW ({ S with σ := S.σ.add o p, χ := χ' } : CX) s K (fun _ => False) := by
  have fwd : ∀ (j : Nat) (x : One), S.σ.ones[j]? = some x → (S.σ.add o p).ones[j]? = some x := fun j x hx => by
    rw [he, List.getElem?_append_left (List.getElem?_eq_some_iff.1 hx).1]; exact hx
  have back : ∀ (j : Nat) (x : One), (S.σ.add o p).ones[j]? = some x → S.σ.ones[j]? = some x ∨ (x.own = false ∧ x.timer = -1) := by
    intro j x hx
    rw [he] at hx
    by_cases hj : j < S.σ.ones.length
    · rw [List.getElem?_append_left hj] at hx; exact .inl hx
    · rw [List.getElem?_append_right (by omega)] at hx
      have hz : j - S.σ.ones.length = 0 := by
        rcases Nat.eq_zero_or_pos (j - S.σ.ones.length) with h9 | h9
        · exact h9
        · rw [List.getElem?_eq_none (by simp; omega)] at hx; cases hx
      rw [hz] at hx; simp at hx; subst hx
      exact .inr ⟨ho, rfl⟩
  refine ⟨h.t, h.xg, h.named, h.pf, ?_, ?_, ?_, ?_, h.cnt⟩
  · intro k q hq
    obtain ⟨a1, a2, j, x, a3, a4, a5⟩ := h.ones k q hq
    exact ⟨a1, a2, j, x, a3, fwd j x a4, a5⟩
  · intro y hy
    obtain ⟨k, j, x, q, e1, e2, e3⟩ := h.item y hy
    exact ⟨k, j, x, q, e1, fwd j x e2, e3⟩
  · intro j x hx h1 h2 h3
    rcases back j x hx with h4 | ⟨h4, _⟩
    · exact h.own j x h4 h1 h2 h3
    · rw [h1] at h4; cases h4
  · intro j x hx
    rcases back j x hx with h4 | ⟨h4, h5⟩
    · exact h.tim j x h4
    · exact ⟨fun _ => h5, fun h6 => by rw [h4] at h6; cases h6⟩
end Go.AM


/- ctx: a deadline with a timer of its own; in plain Lean. -/
set_option linter.unusedVariables false
set_option linter.unusedSimpArgs false
namespace Go.AM
end Go.AM


/- The code of functions, with names for their numbers, and what is left of its weakest preconditions. PRINTED by our printgen.py. -/
set_option linter.unusedVariables false
set_option maxRecDepth 100000
namespace Go.AM
end Go.AM

/- the document's channels: end, End. -/
set_option linter.unusedVariables false
set_option linter.unusedSimpArgs false
namespace Go.AM
variable {N : Nat → Nat} {F : Nat → Option AFn}
section
variable {L K : Lg} {c : Nat} {x : Ch} {bv sv rv : AV}
end
end Go.AM


/- a root and slices of its own, opened. -/
set_option linter.unusedVariables false
set_option linter.unusedSimpArgs false
namespace Go.AM
variable {F : Nat → Option AFn}
structure SlD where
  v : AV
  cs : List AV
  n : Nat
  z : Nat
structure GO (L : Lg) (r : Nat) (cs : List AV) (sl : List SlD) (K : Lg) : Prop where
  root : K r = some (.raw (.cells cs))
  own : ∀ (i : Nat) (p : SlD), sl[i]? = some p → OSl K p.v p.cs p.n p.z
  ap : ∀ (i : Nat) (p : SlD), sl[i]? = some p → ∀ b, slB p.v = some b → b ≠ r ∧ L b = none
  nd : ∀ (i j : Nat) (p q : SlD), i ≠ j → sl[i]? = some p → sl[j]? = some q → ∀ b, slB p.v = some b → slB q.v ≠ some b
  old : ∀ q d, q ≠ r → L q = some d → K q = some d
section
variable {L K : Lg} {r : Nat} {cs : List AV} {sl : List SlD}
theorem GO.ne (o : GO L r cs sl K) {b : Nat} (hb : K b = none) : b ≠ r ∧ L b = none ∧ ∀ (i : Nat) (p : SlD), sl[i]? = some p → slB p.v ≠ some b := by
  have h1 : b ≠ r := by rintro rfl; have := o.root; rw [hb] at this; cases this
  refine ⟨h1, ?_, fun i p hp h => ?_⟩
  · cases h : L b with
    | none => rfl
    | some d => rw [o.old b d h1 h] at hb; cases hb
  · have := (o.own i p hp).block h; rw [hb] at this; cases this
theorem GO.sub (o : GO L r cs sl K) {K' : Lg} (h : SubL K K') : GO L r cs sl K' :=
  ⟨h _ _ o.root, fun i p hp => (o.own i p hp).sub fun b d _ hd => h b d hd, o.ap, o.nd, fun q d hq hd => h q d (o.old q d hq hd)⟩
/-- all it has is there still -/
theorem GO.keep (o : GO L r cs sl K) {K' : Lg} {e : Option Nat} (h : KeepE e K K') (h1 : e ≠ some r) (h2 : ∀ (i : Nat) (p : SlD), sl[i]? = some p → ∀ b, e = some b → slB p.v ≠ some b) (h3 : ∀ b, e = some b → L b = none) : GO L r cs sl K' :=
  ⟨h _ _ o.root h1, fun i p hp => (o.own i p hp).sub fun b d hb hd => h b d hd (fun h9 => h2 i p hp b h9 hb), o.ap, o.nd, fun q d hq hd => h q d (o.old q d hq hd) (fun h9 => by have := h3 q h9; rw [hd] at this; cases this)⟩
theorem GO.below (o : GO L r cs sl K) {L0 : Lg} (h : ∀ q d, q ≠ r → L0 q = some d → L q = some d) : GO L0 r cs sl K := by
  refine ⟨o.root, o.own, fun i p hp b hb => ⟨(o.ap i p hp b hb).1, ?_⟩, o.nd, fun q d hq hd => o.old q d hq (h q d hq hd)⟩
  obtain ⟨h1, h2⟩ := o.ap i p hp b hb
  cases h3 : L0 b with
  | none => rfl
  | some d => rw [h b d h1 h3] at h2; cases h2
theorem set_get {α : Type} {l : List α} {i j : Nat} {x y : α} (h : (l.set i x)[j]? = some y) : (i = j ∧ y = x ∧ i < l.length) ∨ (i ≠ j ∧ l[j]? = some y) := by
  by_cases hij : i = j
  · subst hij
    have hl := (List.getElem?_eq_some_iff.1 h).1
    simp at hl
    rw [List.getElem?_set_self hl] at h
    cases h
    exact .inl ⟨rfl, rfl, hl⟩
  · rw [List.getElem?_set_ne hij] at h; exact .inr ⟨hij, h⟩
/-- a slice of it has other cells -/
theorem GO.inplace (o : GO L r cs sl K) {i : Nat} {p : SlD} (hp : sl[i]? = some p) {b : Nat} (hb : slB p.v = some b) {cs' : List AV} (hl : cs'.length = p.cs.length) : GO L r cs (sl.set i { p with cs := cs' }) (K.put b (.raw (.cells cs'))) := by
  obtain ⟨n1, n2⟩ := o.ap i p hp b hb
  refine ⟨by rw [Lg.put_ne _ _ _ (Ne.symm n1)]; exact o.root, fun j q hq => ?_, fun j q hq => ?_, fun j k q w hjk hq hw => ?_, fun q e hq he => by rw [Lg.put_ne _ _ _ (by rintro rfl; rw [n2] at he; cases he)]; exact o.old q e hq he⟩
  · rcases set_get hq with ⟨rfl, rfl, _⟩ | ⟨hij, hq⟩
    · have := o.own i p hp
      rcases this with ⟨h1, h2, h3⟩ | ⟨b', ex, h1, h2, h3, h4, h5⟩
      · rw [h3] at hb; cases hb
      · rw [h2] at hb; simp [slB] at hb; subst hb
        exact .inr ⟨b', ex, h1, h2, h3, Lg.put_same _ _ _, by rw [hl]; exact h5⟩
    · exact (o.own j q hq).mono fun w hw => Lg.put_ne _ _ _ (by rintro rfl; exact o.nd i j p q hij hp hq w hb hw)
  · rcases set_get hq with ⟨rfl, rfl, _⟩ | ⟨hij, hq⟩
    · exact o.ap i p hp
    · exact o.ap j q hq
  · rcases set_get hq with ⟨rfl, rfl, _⟩ | ⟨hij, hq⟩ <;> rcases set_get hw with ⟨rfl, rfl, _⟩ | ⟨hik, hw⟩
    · exact absurd rfl hjk
    · exact o.nd i k p w hjk hp hw
    · exact o.nd j i q p hjk hq hp
    · exact o.nd j k q w hjk hq hw
theorem GO.rd (o : GO L r cs sl K) (i : Nat) : rdL K (r, i) none = cs[i]? := rdL_cell o.root
/-- hidden -/
def GP (r : Nat) (P : List AV → List SlD → Prop) (h : Hp) : Prop := ∃ cs sl M, P cs sl ∧ GO Lg.nil r cs sl M ∧ Sat M h
theorem GO.shut {P : List AV → List SlD → Prop} (o : GO L r cs sl K) (hP : P cs sl) : Sees K (L.put r (.abs (GP r P))) := by
  refine Sees.shutAt (fun b => b = r ∨ ∃ (i : Nat) (p : SlD), sl[i]? = some p ∧ slB p.v = some b) (.inl rfl) ?_ ?_ (.inl ⟨_, o.root⟩) ?_
  · intro b d hb hd
    exact o.old b d (fun h9 => hb (.inl h9)) hd
  · rintro b (rfl | ⟨i, p, hp, h⟩) hb
    · exact absurd rfl hb
    · exact (o.ap i p hp b h).2
  · intro M hp hM hN hs
    refine ⟨cs, sl, M, hP, ⟨?_, fun i p hp => (o.own i p hp).mono fun b hb => hM b (.inr ⟨i, p, hp, hb⟩), fun i p hp b hb => ⟨(o.ap i p hp b hb).1, rfl⟩, o.nd, fun q d _ hd => by simp [Lg.nil] at hd⟩, hs⟩
    rw [hM r (.inl rfl)]; exact o.root
theorem GO.over {M : Lg} (o : GO Lg.nil r cs sl M) (hf : ∀ b c, M b = some c → b ≠ r → L b = none) : GO L r cs sl (M.over L) := by
  have hi : ∀ b d, M b = some d → (M.over L) b = some d := fun b d h => by simp [Lg.over, h]
  refine ⟨hi _ _ o.root, fun i p hp => (o.own i p hp).sub fun b d _ hd => hi b d hd, fun i p hp b hb => ⟨(o.ap i p hp b hb).1, hf b _ ((o.own i p hp).block hb) (o.ap i p hp b hb).1⟩, o.nd, fun q d hq hd => ?_⟩
  have : M q = none := by
    cases h : M q with
    | none => rfl
    | some e => have := hf q e h hq; rw [hd] at this; cases this
  simp [Lg.over, this, hd]
theorem GO.back {P : List AV → List SlD → Prop} (o : GO L r cs sl K) (hP : P cs sl) (e : L r = some (.abs (GP r P))) : Sees K L := by
  have := o.shut hP
  rwa [Lg.put_self L r _ e] at this
end
end Go.AM


/- the document's contexts, opened; its tree. -/
set_option linter.unusedVariables false
set_option linter.unusedSimpArgs false
namespace Go.AM
variable {N : Nat → Nat} {F : Nat → Option AFn}
/-- what the document keeps for a context or an after -/
structure RNd where
  after : Bool
  no : Int
  prog : Int
  gone : Bool
  plain : Bool
  err : Int
  cause : Int
  when : Int
  has : Bool
  own : Bool
  timer : Int
  c : Option Nat
def RNd.cells (x : RNd) : List AV := [.b x.after, .i .i64 x.no, .i .i64 x.prog, .b x.gone, .b x.plain, .i .i64 x.err, .i .i64 x.cause, .i .i64 x.when, .b x.has, .b x.own, .i .i64 x.timer, ptr x.c]
theorem RNd.len (x : RNd) : x.cells.length = 12 := rfl
theorem RNd.one (x : RNd) : x.cells.all AV.one = true := rfl
def ofOne (i : Nat) (o : One) : RNd := ⟨false, i, 0, false, o.free, o.err, o.cause, o.when, o.has, o.own, o.timer, o.c⟩
def ofAft (j : Nat) (a : Aft) : RNd := ⟨true, j, a.prog, a.over, false, 0, 0, 0, false, false, -1, none⟩
def ndc (n : Nd) : List AV := [.i .i64 n.parent, .b n.linked]
structure NdsOk (σ : Cs) (nds : List RNd) : Prop where
  len : nds.length = σ.tree.length
  one : ∀ (i k : Nat) (o : One), σ.ones[i]? = some o → o.node = (k : Int) → nds[k]? = some (ofOne i o)
  aft : ∀ (j k : Nat) (a : Aft), σ.afts[j]? = some a → a.node = (k : Int) → nds[k]? = some (ofAft j a)
def xsl (σ : Cs) (nds : List RNd) (tv nv cv av : AV) : List SlD := [⟨tv, flatc ndc σ.tree, σ.tree.length, 2⟩, ⟨nv, flatc RNd.cells nds, nds.length, 12⟩, ⟨cv, flatc fI (σ.ones.map (·.node)), σ.ones.length, 1⟩, ⟨av, flatc fI (σ.afts.map (·.node)), σ.afts.length, 1⟩]
def xrt (σ : Cs) (tv nv cv av : AV) : List AV := [ptr σ.t, tv, nv, cv, av]
structure XR (L : Lg) (c : Nat) (σ : Cs) (nds : List RNd) (tv nv cv av : AV) (K : Lg) : Prop where
  g : GO L c (xrt σ tv nv cv av) (xsl σ nds tv nv cv av) K
  n : NdsOk σ nds
section
variable {L K : Lg} {c : Nat} {σ : Cs} {nds : List RNd} {tv nv cv av : AV}
theorem XR.f0 (o : XR L c σ nds tv nv cv av K) : rdL K (c, 0) none = some (ptr σ.t) := o.g.rd 0
theorem XR.f1 (o : XR L c σ nds tv nv cv av K) : rdL K (c, 1) none = some tv := o.g.rd 1
theorem XR.f2 (o : XR L c σ nds tv nv cv av K) : rdL K (c, 2) none = some nv := o.g.rd 2
theorem XR.f3 (o : XR L c σ nds tv nv cv av K) : rdL K (c, 3) none = some cv := o.g.rd 3
theorem XR.f4 (o : XR L c σ nds tv nv cv av K) : rdL K (c, 4) none = some av := o.g.rd 4
theorem XR.ts (o : XR L c σ nds tv nv cv av K) : OSl K tv (flatc ndc σ.tree) σ.tree.length 2 := o.g.own 0 _ rfl
theorem XR.ns (o : XR L c σ nds tv nv cv av K) : OSl K nv (flatc RNd.cells nds) nds.length 12 := o.g.own 1 _ rfl
theorem XR.cs (o : XR L c σ nds tv nv cv av K) : OSl K cv (flatc fI (σ.ones.map (·.node))) σ.ones.length 1 := o.g.own 2 _ rfl
theorem XR.sub (o : XR L c σ nds tv nv cv av K) {K' : Lg} (h : SubL K K') : XR L c σ nds tv nv cv av K' := ⟨o.g.sub h, o.n⟩
theorem XR.below (o : XR L c σ nds tv nv cv av K) {L0 : Lg} (h : ∀ q d, q ≠ c → L0 q = some d → L q = some d) : XR L0 c σ nds tv nv cv av K := ⟨o.g.below h, o.n⟩
theorem XR.nb (o : XR L c σ nds tv nv cv av K) {k : Nat} (hk : k < nds.length) : ∃ b, slB nv = some b ∧ K b = some (.raw (.cells (flatc RNd.cells nds))) ∧ ∀ (X : Lg) (p : AV → Lg → Prop), wpOp F (.iad 12) [nv, .i .i64 k] X p = p (.p (some (b, k * 12))) X := by
  obtain ⟨b, h1, h2, h3, h4⟩ := o.ns.iad (F := F) (x := (k : Int)) (by omega) (by omega)
  exact ⟨b, h1, h2, fun X p => by simpa using h4 X p .i64⟩
theorem XR.tb (o : XR L c σ nds tv nv cv av K) {k : Nat} (hk : k < σ.tree.length) : ∃ b, slB tv = some b ∧ K b = some (.raw (.cells (flatc ndc σ.tree))) ∧ ∀ (X : Lg) (p : AV → Lg → Prop), wpOp F (.iad 2) [tv, .i .i64 k] X p = p (.p (some (b, k * 2))) X := by
  obtain ⟨b, h1, h2, h3, h4⟩ := o.ts.iad (F := F) (x := (k : Int)) (by omega) (by omega)
  exact ⟨b, h1, h2, fun X p => by simpa using h4 X p .i64⟩
/-- a node is set -/
theorem XR.node (o : XR L c σ nds tv nv cv av K) {b : Nat} (hb : slB nv = some b) {σ' : Cs} {nds' : List RNd} (hl : nds'.length = nds.length) (h1 : σ'.t = σ.t) (h2 : σ'.tree = σ.tree) (h3 : σ'.ones.map (·.node) = σ.ones.map (·.node)) (h4 : σ'.afts.map (·.node) = σ.afts.map (·.node)) (hn : NdsOk σ' nds') :
    XR L c σ' nds' tv nv cv av (K.put b (.raw (.cells (flatc RNd.cells nds')))) := by
  refine ⟨?_, hn⟩
  have := o.g.inplace (i := 1) (p := ⟨nv, flatc RNd.cells nds, nds.length, 12⟩) rfl hb (cs' := flatc RNd.cells nds') (by rw [flatc_length RNd.len, flatc_length RNd.len, hl])
  have e1 : σ'.ones.length = σ.ones.length := by simpa using congrArg List.length h3
  have e2 : σ'.afts.length = σ.afts.length := by simpa using congrArg List.length h4
  simp only [xrt, xsl, h1, h2, h3, h4, e1, e2, hl] at this ⊢
  exact this
end
end Go.AM


/- the document's contexts: what a fall needs and leaves. -/
set_option linter.unusedVariables false
set_option linter.unusedSimpArgs false
namespace Go.AM
variable {N : Nat → Nat} {F : Nat → Option AFn}
/-- who has gone as none of either -/
def FreeR (L : Lg) (c : Nat) (vs : List AV) (b : Nat) : Prop := L b = none ∧ b ≠ c ∧ ∀ v ∈ vs, slB v ≠ some b
/-- the rows that a fall fills -/
structure RRes (L : Lg) (c : Nat) (vs : List AV) (K : Lg) (v1 v2 : AV) (ps : List (Lap × AV)) (sts : List (Int × Int)) : Prop where
  o1 : OSl K v1 (flatc lapc ps) ps.length 4
  o2 : OSl K v2 (flatc stc sts) sts.length 2
  ins : ∀ p ∈ ps, OSe K p.2 (flatc Wk.cells p.1.wakes) p.1.wakes.length 5 ∧ ∀ b, slB p.2 = some b → FreeR L c vs b ∧ slB v1 ≠ some b ∧ slB v2 ≠ some b
  f1 : ∀ b, slB v1 = some b → FreeR L c vs b ∧ slB v2 ≠ some b
  f2 : ∀ b, slB v2 = some b → FreeR L c vs b
section
variable {L K : Lg} {c : Nat} {vs : List AV} {v1 v2 : AV} {ps : List (Lap × AV)} {sts : List (Int × Int)}
/-- its blocks are there still -/
theorem RRes.keep (h : RRes L c vs K v1 v2 ps sts) {K' L' : Lg} (hk : ∀ b x, FreeR L c vs b → K b = some (.raw x) → K' b = some (.raw x)) (hl : ∀ b, FreeR L c vs b → K b ≠ none → L' b = none) : RRes L' c vs K' v1 v2 ps sts := by
  have fr : ∀ b, FreeR L c vs b → K b ≠ none → FreeR L' c vs b := fun b hb hn => ⟨hl b hb hn, hb.2⟩
  have nn : ∀ {v : AV} {cs : List AV} {n z : Nat} {b : Nat}, OSl K v cs n z → slB v = some b → K b ≠ none := fun h1 h2 => by rw [h1.block h2]; simp
  refine ⟨h.o1.mono fun b hb => ?_, h.o2.mono fun b hb => ?_, fun p hp => ⟨(h.ins p hp).1.mono fun b hb => ?_, fun b hb => ⟨fr b ((h.ins p hp).2 b hb).1 (by rw [(h.ins p hp).1.block hb]; simp), ((h.ins p hp).2 b hb).2⟩⟩, fun b hb => ⟨fr b (h.f1 b hb).1 (nn h.o1 hb), (h.f1 b hb).2⟩, fun b hb => fr b (h.f2 b hb) (nn h.o2 hb)⟩
  · rw [h.o1.block hb]; exact hk b _ (h.f1 b hb).1 (h.o1.block hb)
  · rw [h.o2.block hb]; exact hk b _ (h.f2 b hb) (h.o2.block hb)
  · rw [(h.ins p hp).1.block hb]; exact hk b _ ((h.ins p hp).2 b hb).1 ((h.ins p hp).1.block hb)
theorem RRes.sub (h : RRes L c vs K v1 v2 ps sts) {K' : Lg} (hk : SubL K K') : RRes L c vs K' v1 v2 ps sts := h.keep (fun b x _ hx => hk b _ hx) (fun b hb _ => hb.1)
theorem RRes.nil (L : Lg) (c : Nat) (vs : List AV) (K : Lg) : RRes L c vs K (.sl none 0 0 0) (.sl none 0 0 0) [] [] := ⟨OSl.nil _ _, OSl.nil _ _, fun p hp => by simp at hp, (fun b hb => by cases hb), (fun b hb => by cases hb)⟩
end
section
variable {L K : Lg} {c : Nat} {σ : Cs} {nds : List RNd} {tv nv cv av : AV} {S : CX}
theorem xsl_free {b : Nat} (h : ∀ v ∈ [tv, nv, cv, av], slB v ≠ some b) : ∀ (i : Nat) (p : SlD), (xsl σ nds tv nv cv av)[i]? = some p → slB p.v ≠ some b := by
  intro i p hp
  have hi := (List.getElem?_eq_some_iff.1 hp).1
  simp [xsl] at hi
  have : i = 0 ∨ i = 1 ∨ i = 2 ∨ i = 3 := by omega
  rcases this with rfl | rfl | rfl | rfl <;> simp [xsl] at hp <;> subst hp <;> exact h _ (by simp)
theorem XR.free (o : XR L c σ nds tv nv cv av K) {b : Nat} (hb : K b = none) : FreeR L c [tv, nv, cv, av] b := by
  obtain ⟨h1, h2, h3⟩ := o.g.ne hb
  refine ⟨h2, h1, fun v hv => ?_⟩
  simp at hv
  rcases hv with rfl | rfl | rfl | rfl
  · exact h3 0 _ rfl
  · exact h3 1 _ rfl
  · exact h3 2 _ rfl
  · exact h3 3 _ rfl
theorem XR.keep (o : XR L c σ nds tv nv cv av K) {K' : Lg} {e : Option Nat} (h : KeepE e K K') (hf : ∀ b, e = some b → FreeR L c [tv, nv, cv, av] b) : XR L c σ nds tv nv cv av K' :=
  ⟨o.g.keep h (fun h9 => (hf c h9).2.1 rfl) (fun i p hp b hb => xsl_free (hf b hb).2.2 i p hp) (fun b hb => (hf b hb).1), o.n⟩
end
/-! ### in plain -/
end Go.AM


/- ProgLimits: so many instructions, programs, and cases may be, and not one more. -/
set_option linter.unusedVariables false
set_option linter.unusedSimpArgs false
namespace Go.AM
variable {N : Nat → Nat} {F : Nat → Option AFn}
theorem known_specP {f : Nat} (h : F f = some kTrue) (L : Lg) : CallL F f [] L fun v L' => v = .b true ∧ L' = L := by
  refine CallL.of_wp h ?_
  show fin [.tmp (.c (.b true))] _ _ _ _
  exact ⟨L, Sees.refl _, rfl, rfl⟩
def exitI : Ins := ⟨7, 0, 0, 0, [], false⟩
def zC : Cs3 := ⟨false, 0, 0⟩
def selI (k : Nat) : Ins := ⟨15, 0, 0, 0, List.replicate k zC, false⟩
theorem exit_good (pl : Int) : goodP exitI pl = true := by
  have h0 : fldOk exitI pl 0 = true := rfl
  have h1 : fldOk exitI pl 1 = true := rfl
  have h2 : fldOk exitI pl 2 = true := rfl
  simp [goodP, h0, h1, h2]
  simp [exitI]
theorem slg_nil {α : Type} (f : α → List AV) (z : Nat) (K : Lg) : SlQ f z K (.sl none 0 0 0) [] := ⟨none, 0, 0, rfl, Nat.le_refl _, .inl rfl, .inl rfl⟩
abbrev exP : Ins × AV := (exitI, .sl none 0 0 0)
abbrev niP : AV × List (Ins × AV) := (.sl none 0 0 0, [])
abbrev cellI : Ins × AV → List AV := fun x => x.1.cells x.2
abbrev cellP : AV × List (Ins × AV) → List AV := fun x => [x.1]
section
variable {K : Lg} {Q : AV → Lg → Prop}
theorem OSl.appW1 {v w : AV} {cs x : List AV} {n z bytes : Nat} (h : OSl K v cs n z) (ow : OSl K w x 1 z) (hx : x.length = z) (h1 : x.all AV.one = true) (h0 : 0 < z) (hb : (n + 1) * bytes ≤ 70368744177664) {k : AV → Lg → Prop}
    (hk : ∀ (v' : AV) (K2 : Lg), OSl K2 v' (cs ++ x) (n + 1) z → KeepE (slB v) K K2 → (∀ b, slB v' = some b → K b = none) → k v' K2) : appW z bytes K k [v, w] := by
  rcases ow with ⟨h2, _⟩ | ⟨b, ex, h2, rfl, _, h3, h4⟩
  · omega
  refine h.app h0 rfl (by omega) (new := x) ?_ (by omega) h1 hb ?_
  · simp only [rdCellsL, h3, AB.read, cut, ble_nat, Nat.zero_add, Nat.one_mul]
    rw [hx]; simp [← hx]
  intro b2 K2 g hO
  have f2 : K b2 = none := g.fresh
  refine hk _ _ hO ?_ ?_
  · intro r d hr hne
    have r2 : r ≠ b2 := by rintro rfl; rw [f2] at hr; cases hr
    rw [g.same r r2 hne]; exact hr
  · intro q hq; simp [slB] at hq; subst hq; exact f2
structure L2 (n k j b8 : Nat) (v5 v7 cv : AV) (K : Lg) : Prop where
  o5 : OSl K v5 (flatc cellI (List.replicate n exP)) n 6
  o7 : OSl K v7 (flatc cellP (List.replicate j niP)) j 1
  oc : OSl K cv (flatc Cs3.cells (List.replicate j zC)) j 3
  h8 : K b8 = some (.raw (.cells ((selI j).cells cv)))
  d5 : ∀ b, slB v5 = some b → b ≠ b8 ∧ slB v7 ≠ some b ∧ slB cv ≠ some b
  d7 : ∀ b, slB v7 = some b → b ≠ b8 ∧ slB cv ≠ some b
  dc : ∀ b, slB cv = some b → b ≠ b8
end
end Go.AM


/- tarpaulinalike.Progs: which programs are looked at. -/
set_option linter.unusedVariables false
set_option linter.unusedSimpArgs false
namespace Go.AM
variable {N : Nat → Nat} {F : Nat → Option AFn}
def progP (p : List Ins) : Bool := decide (p.length ≤ 60) && p.all fun i => decide (i.cs.length ≤ 20)
def progsP (ps : List (List Ins)) : Bool := (ps.take 20).all progP && decide (ps.length ≤ 17)
/-- programs, however long -/
def PsW (L : Lg) (v : AV) (ps : List (AV × List (Ins × AV))) : Prop := SlQ (fun x : AV × List (Ins × AV) => [x.1]) 1 L v ps ∧ ∀ x, x ∈ ps → PrL L x.1 x.2
theorem take_snocP {α : Type} {p : α → Prop} {l : List α} {k : Nat} {y : α} (hk : l[k]? = some y) (h : ∀ x, x ∈ l.take k → p x) (hy : p y) : ∀ x, x ∈ l.take (k + 1) → p x := by
  intro x hx
  rw [List.take_add_one, hk] at hx
  rcases List.mem_append.1 hx with hx | hx
  · exact h x hx
  · simp at hx; rw [hx]; exact hy
theorem progs_spec (hf : H_tarpaulinalike_Progs N F) {L : Lg} {v : AV} {ps : List (AV × List (Ins × AV))} (hp : PsW L v ps) :
    CallL F (N k_tarpaulinalike_Progs) [v] L fun y L' => y = .b (progsP (ps.map fun x => insOf x.2)) ∧ L' = L := by
  refine CallL.opq ?_
  intro Q hQ
  apply r_tarpaulinalike_Progs hf.code
  unfold D_tarpaulinalike_Progs_1 D_tarpaulinalike_Progs_4 D_tarpaulinalike_Progs_6
  have hlen := fun X k => hp.1.len (F := F) X k
  have bad : ∀ x, x ∈ ps.take 20 → progP (insOf x.2) = false → fin1 (some (.b false)) Q L := fun x hx h => ⟨_, Sees.refl _, hQ _ _ ⟨by
    have : ((ps.map fun x => insOf x.2).take 20).all progP = false := by
      rw [List.all_eq_false]
      exact ⟨insOf x.2, by rw [← List.map_take]; exact List.mem_map.2 ⟨x, hx, rfl⟩, by rw [h]; simp⟩
    unfold progsP
    rw [this]; rfl, rfl⟩⟩
  obtain ⟨I, hI⟩ : ∃ I : Nat → Env → Lg → Prop, I = fun m E K' => ∃ k : Nat, m + k = 20 ∧ k ≤ ps.length ∧ K' = L ∧ E 0 = v ∧ E 3 = .i .i64 k ∧ (∀ x, x ∈ ps.take k → progP (insOf x.2) = true) := ⟨_, rfl⟩
  refine loopW_intro I 20 ?_ ?_
  · rw [hI]
    exact ⟨0, by omega, by omega, rfl, by simp, by simp, by simp⟩
  intro m E t K' hi
  rw [hI] at hi
  obtain ⟨k, hm, hkl, rfl, e0, e3, hall⟩ := hi
  unfold D_tarpaulinalike_Progs_7 D_tarpaulinalike_Progs_3
  rw [e0, e3]
  by_cases hk : k < ps.length
  · by_cases hk2 : k < 20
    · have c1 : (k : Int) < (ps.length : Int) := by omega
      have c2 : (k : Int) < 20 := by omega
      have hw : ps[k]? = some ps[k] := List.getElem?_eq_getElem hk
      obtain ⟨bb, o, q1, q2, q3⟩ := hp.1.get (F := F) hw
      have q4 := (q2 K' (SubL.refl _)).1 0 (by omega)
      have q5 : rdL K' (bb, o) none = some ps[k].1 := by simpa using q4
      have hpr := hp.2 ps[k] (List.getElem_mem _)
      have hin : ps[k] ∈ ps.take 20 := by
        rw [List.mem_iff_getElem?]; exact ⟨k, by rw [List.getElem?_take, if_pos hk2]; exact hw⟩
      have hpl := fun X q => hpr.1.len (F := F) X q
      simp [c1, c2, hlen]
      unfold D_tarpaulinalike_Progs_11
      simp [e0, e3, q1, q5, hpl]
      by_cases h60 : 60 < ps[k].2.length
      · have c3 : (60 : Int) < (ps[k].2.length : Int) := by omega
        simp [c3]
        refine ⟨bad ps[k] hin ?_, fun h => by omega⟩
        have : ¬ ps[k].2.length ≤ 60 := by omega
        simp [progP, insOf, this]
      have c3 : ¬ (60 : Int) < (ps[k].2.length : Int) := by omega
      simp [c3]
      intro _
      unfold D_tarpaulinalike_Progs_12 D_tarpaulinalike_Progs_14
      obtain ⟨J, hJ⟩ : ∃ J : Nat → Env → Lg → Prop, J = fun m E2 K2 => ∃ j : Nat, m + j = ps[k].2.length ∧ K2 = K' ∧ E2 0 = v ∧ E2 3 = .i .i64 k ∧ E2 4 = .i .i64 j ∧ (∀ x, x ∈ ps[k].2.take j → x.1.cs.length ≤ 20) := ⟨_, rfl⟩
      refine loopW_intro J ps[k].2.length ?_ ?_
      · rw [hJ]
        exact ⟨0, by omega, rfl, by simp [e0], by simp [e3], by simp, by simp⟩
      intro m2 E2 t2 K2 hj
      rw [hJ] at hj
      obtain ⟨j, hm2, rfl, f0, f3, f4, hallj⟩ := hj
      unfold D_tarpaulinalike_Progs_15 D_tarpaulinalike_Progs_9
      rw [f0, f3, f4]
      by_cases hj2 : j < ps[k].2.length
      · have d1 : (j : Int) < (ps[k].2.length : Int) := by omega
        have hwj : ps[k].2[j]? = some ps[k].2[j] := List.getElem?_eq_getElem hj2
        obtain ⟨b3, o3, u1, u2, u3⟩ := hpr.1.get (F := F) hwj
        have u4 := (u2 K2 (SubL.refl _)).1 4 (by omega)
        have u5 : rdL K2 (b3, o3 + 4) none = some ps[k].2[j].2 := by rw [u4]; rfl
        have hcl := fun X q => (hpr.2 _ (List.getElem_mem hj2)).len (F := F) X q
        simp [q1, q5, hpl, hj2, u1, u5, hcl]
        by_cases h20 : 20 < ps[k].2[j].1.cs.length
        · have d2 : (20 : Int) < (ps[k].2[j].1.cs.length : Int) := by omega
          refine ⟨fun _ => bad ps[k] hin ?_, fun h => by omega⟩
          unfold progP
          have : ((insOf ps[k].2).all fun i => decide (i.cs.length ≤ 20)) = false := by
            rw [List.all_eq_false]
            exact ⟨ps[k].2[j].1, List.mem_map.2 ⟨_, List.getElem_mem _, rfl⟩, by simp; omega⟩
          rw [this, Bool.and_false]
        · have d2 : ¬ (20 : Int) < (ps[k].2[j].1.cs.length : Int) := by omega
          have w1 : wr .i64 ((j : Int) + 1) = ((j + 1 : Nat) : Int) := by rw [wr_id (by omega) (by omega)]; omega
          refine ⟨fun h => by omega, fun _ => ?_⟩
          rw [hJ]
          refine ⟨m2 - 1, by omega, j + 1, by omega, rfl, by simp [f0], by simp [f3], by simp [w1], take_snocP hwj hallj (by omega)⟩
      · have d1 : ¬ (j : Int) < (ps[k].2.length : Int) := by omega
        have hjj : j = ps[k].2.length := by omega
        have w1 : wr .i64 ((k : Int) + 1) = ((k + 1 : Nat) : Int) := by rw [wr_id (by omega) (by omega)]; omega
        simp [q1, q5, hpl, hj2]
        rw [hI]
        refine ⟨m - 1, by omega, k + 1, by omega, by omega, rfl, by simp [f0], by simp [w1], take_snocP hw hall ?_⟩
        rw [hjj, List.take_length] at hallj
        unfold progP
        rw [Bool.and_eq_true]
        refine ⟨by simp [insOf]; omega, List.all_eq_true.2 fun i hi => ?_⟩
        obtain ⟨x, hx, rfl⟩ := List.mem_map.1 hi
        simpa using hallj x hx
    · have c1 : (k : Int) < (ps.length : Int) := by omega
      have c2 : ¬ (k : Int) < 20 := by omega
      have c4 : ¬ (ps.length : Int) ≤ 17 := by omega
      simp [c1, c2, hlen]
      refine ⟨_, Sees.refl _, hQ _ _ ⟨?_, rfl⟩⟩
      have c5 : ¬ ps.length ≤ 17 := by omega
      simp [progsP, c5]
      omega
  · have c1 : ¬ (k : Int) < (ps.length : Int) := by omega
    simp [c1, hlen]
    refine ⟨_, Sees.refl _, hQ _ _ ⟨?_, rfl⟩⟩
    have hkk : k = ps.length := by omega
    rw [hkk, List.take_length] at hall
    have : ((ps.map fun x => insOf x.2).take 20).all progP = true := by
      rw [List.all_eq_true]
      intro p hp2
      obtain ⟨x, hx, rfl⟩ := List.mem_map.1 (List.mem_of_mem_take hp2)
      exact hall x hx
    unfold progsP
    rw [this]
    simp
    omega
end Go.AM


/- ProgOne: a program may be just if each of its instructions may, and its places are within it. -/
set_option linter.unusedVariables false
set_option linter.unusedSimpArgs false
namespace Go.AM
variable {N : Nat → Nat} {F : Nat → Option AFn}
theorem fldA : ∀ op : Int, 1 ≤ op → op ≤ 32 → fldB op 0 = 114 ∨ fldB op 0 = 45 ∨ (op = 4 ∧ fldB op 0 = 112) := by
  intro op h1 h2
  have key : ∀ n : Fin 32, fldB ((n.val : Int) + 1) 0 = 114 ∨ fldB ((n.val : Int) + 1) 0 = 45 ∨ ((n.val : Int) + 1 = 4 ∧ fldB ((n.val : Int) + 1) 0 = 112) := by decide
  have := key ⟨(op - 1).toNat, by omega⟩
  have e : (((op - 1).toNat : Nat) : Int) + 1 = op := by omega
  simpa only [e] using this
def oddI (i : Ins) (n : Nat) : Ins := { i with a := if i.op = 4 then (n : Int) + 1 else 8 }
theorem odd_bad (i : Ins) (n : Nat) (h1 : 1 ≤ i.op) (h2 : i.op ≤ 32) : goodP (oddI i n) n = false := by
  have hf : fldOk (oddI i n) n 0 = false := by
    unfold fldOk
    have e0 : (oddI i n).abc.getD 0 0 = (oddI i n).a := rfl
    have e1 : (oddI i n).op = i.op := rfl
    rw [e0, e1]
    rcases fldA i.op h1 h2 with h | h | ⟨h, h3⟩
    · rw [h]
      unfold mayP oddI
      by_cases c : i.op = 4
      · rw [c] at h; exact absurd h (by decide)
      · simp [c, regP]
    · rw [h]
      unfold mayP oddI
      by_cases c : i.op = 4
      · rw [c] at h; exact absurd h (by decide)
      · simp [c]
    · rw [h3]
      unfold mayP oddI
      simp [h]
      omega
  simp [goodP, hf]
theorem op_bad (i : Ins) (n : Int) (op : Int) (h : op < 1 ∨ 32 < op) : goodP { i with op := op } n = false := by
  rcases h with h | h
  · have : ¬ 1 ≤ op := by omega
    simp [goodP, this]
  · have : ¬ op ≤ 32 := by omega
    simp [goodP, this]
theorem check_set {p : List Ins} {k : Nat} {y : Ins} (hk : k < p.length) (hy : goodP y p.length = false) : checkP (p.set k y) = false := by
  have : (p.set k y).all (fun i => goodP i (p.set k y).length) = false := by
    rw [List.all_eq_false]
    exact ⟨y, List.mem_iff_getElem?.2 ⟨k, by simp [hk]⟩, by rw [List.length_set, hy]; simp⟩
  unfold checkP
  rw [this, Bool.and_false]
theorem may_mono (k n : Int) (m : Nat) (h : mayP k n m = true) : mayP k n ((m + 1 : Nat) : Int) = true := by
  unfold mayP at h ⊢
  by_cases c1 : k = 114
  · simpa [c1] using h
  by_cases c2 : k = 112
  · simp [c2] at h ⊢; omega
  by_cases c3 : k = 103
  · simpa [c3] using h
  simpa [c1, c2, c3] using h
theorem good_mono (i : Ins) (m : Nat) (h : goodP i m = true) : goodP i ((m + 1 : Nat) : Int) = true := by
  unfold goodP at h ⊢
  simp only [Bool.and_eq_true] at h ⊢
  exact ⟨⟨h.1.1, ⟨⟨may_mono _ _ _ h.1.2.1.1, may_mono _ _ _ h.1.2.1.2⟩, may_mono _ _ _ h.1.2.2⟩⟩, h.2⟩
theorem check_snoc {p : List Ins} (h : checkP p = true) (hl : p.length ≤ 60) : checkP (p ++ [exitI]) = true := by
  unfold checkP at h ⊢
  simp only [Bool.and_eq_true, List.all_eq_true, decide_eq_true_eq] at h ⊢
  refine ⟨by simp; omega, fun i hi => ?_⟩
  rw [List.length_append, List.length_singleton]
  rcases List.mem_append.1 hi with hi | hi
  · exact good_mono i _ (h.2 i hi)
  · simp at hi; rw [hi]; exact exit_good _
theorem check_op {p : List Ins} (h : checkP p = true) {i : Ins} (hi : i ∈ p) : 1 ≤ i.op ∧ i.op ≤ 32 := by
  unfold checkP at h
  simp only [Bool.and_eq_true, List.all_eq_true] at h
  have := h.2 i hi
  unfold goodP at this
  simp only [Bool.and_eq_true, decide_eq_true_eq] at this
  exact this.1.1.1.1
section
variable {K : Lg} {v : AV} {p : List (Ins × AV)}
theorem PrL.mono {K' : Lg} (h : PrL K v p) (e : SubL K K') : PrL K' v p := ⟨h.1.mono e, fun x hx => (h.2 x hx).mono e⟩
theorem PrL.ones (h : PrL K v p) : (flatc cellI p).all AV.one = true := by
  refine flatc_oneM _ fun x hx => ?_
  obtain ⟨a, cap, ex, e, _⟩ := h.2 x hx
  simp [Ins.cells, e]
/-- append([]api.Instr{}, l...) -/
theorem copyI (hp : PrL K v p) (hne : p ≠ []) (hl : p.length ≤ 1000) {zs : List AV} {k : AV → Lg → Prop} (hk : ∀ v' K1, OSl K1 v' (flatc cellI p) p.length 6 → SubL K K1 → (∀ b, slB v' = some b → K b = none) → k v' K1) :
    wpOp F (.bslice zs 0 6 []) [] K fun v1 L1 => wpOp F (.app 6 64) [v1, v] L1 k := by
  refine lit0 ?_
  intro v1 K1 o1 s1 f1
  refine o1.appF (f := cellI) (fun x => rfl) hp.ones (by omega) ((hp.1.toG hne).mono s1) (by omega) ?_
  intro v2 K2 o2 k2 f2
  have h0 : 0 < p.length := List.length_pos_iff.2 hne
  have o3 : OSl K2 v2 (flatc cellI p) p.length 6 := by
    have := o2.osl (by omega)
    simpa using this
  refine hk v2 K2 o3 (fun r d hd => k2 r d (s1 r d hd) fun h => ?_) fun b hb => ?_
  · rw [f1 r h] at hd; cases hd
  · rcases f2 b hb with h | h
    · cases h9 : K b with
      | none => rfl
      | some d => rw [s1 b d h9] at h; cases h
    · exact f1 b h
theorem setI (o : OSl K v (flatc cellI p) p.length 6) {k : Nat} (hk : k < p.length) {j : Nat} (hj : j < 6) {x : AV} {y : Ins × AV} (hy : (cellI p[k]).set j x = cellI y) {b : Nat} (hb : slB v = some b) :
    OSl (K.put b (.raw (.cells ((flatc cellI p).set (k * 6 + j) x)))) v (flatc cellI (p.set k y)) (p.set k y).length 6 := by
  have hf := flatc_setc (f := cellI) (k := 6) (fun _ => rfl) p k p[k] y j x (List.getElem?_eq_getElem hk) hj hy
  rcases o with ⟨h1, _, h3⟩ | ⟨b', ex, h1, h2, h3, h4, h5⟩
  · rw [h3] at hb; cases hb
  · rw [h2] at hb; simp [slB] at hb; subst hb
    exact .inr ⟨b', ex, by simpa using h1, by simpa using h2, h3, by rw [Lg.put_same, hf], by rw [← hf]; simpa using h5⟩
/-- a program of one's own may be read -/
theorem PrL.own {K0 : Lg} {w : AV} {q : List (Ins × AV)} (o : OSl K w (flatc cellI q) q.length 6) (h : ∀ x, x ∈ q → SlQ Cs3.cells 3 K0 x.2 x.1.cs) (s : SubL K0 K) : PrL K w q :=
  ⟨(SlG.of_own (f := cellI) (fun x => rfl) o).toQ, fun x hx => (h x hx).mono s⟩
/-- one cell of an instruction is written -/
theorem wrI (o : OSl K v (flatc cellI p) p.length 6) {k : Nat} (hk : k < p.length) {j : Nat} (hj : j < 6) {x : AV} (hx : x.cellsOf = some [x]) {y : Ins × AV} (hy : (cellI p[k]).set j x = cellI y) {kk : Lg → Prop}
    (h : ∀ K1, OSl K1 v (flatc cellI (p.set k y)) (p.set k y).length 6 → KeepE (slB v) K K1 → kk K1) :
    wpOp F (.iad 6) [v, .i .i64 k] K fun v1 L1 => wpOp F (.fad j) [v1] L1 fun v2 L2 => wpOp F (.st 1) [v2, x] L2 fun _ L3 => kk L3 := by
  obtain ⟨b, q1, q2, q3, q4⟩ := o.iad (F := F) (x := (k : Int)) (by omega) (by omega)
  have hlen : k * 6 + j < (flatc cellI p).length := by rw [q3]; omega
  simp only [q4, Int.toNat_natCast]
  simp
  rw [stL_cell q2 hlen hx]
  refine h _ (setI o hk hj hy q1) ?_
  intro r d hr hne
  rw [Lg.put_ne]; exact hr
  rintro rfl
  exact hne q1
theorem copyIA {K1 : Lg} {v1 : AV} (o1 : OSe K1 v1 [] 0 6) (hp : PrL K1 v p) (hne : p ≠ []) (hl : p.length ≤ 1000) {k : AV → Lg → Prop} (hk : ∀ v' K2, OSl K2 v' (flatc cellI p) p.length 6 → KeepE (slB v1) K1 K2 → (∀ b, slB v' = some b → K1 b = none ∨ slB v1 = some b) → k v' K2) :
    appW 6 64 K1 k [v1, v] := by
  have h0 : 0 < p.length := List.length_pos_iff.2 hne
  have := o1.appF (F := fun _ => none) (bytes := 64) (k := k) (f := cellI) (fun x => rfl) hp.ones (by omega) (hp.1.toG hne) (by omega) fun v2 K2 o2 k2 f2 => hk v2 K2 (by have := o2.osl (by omega); simpa using this) k2 f2
  rwa [wp_app] at this
theorem lit0N {K : Lg} {z : List AV} {size : Nat} {k : AV → Lg → Prop} (hk : ∀ (v' : AV) (K1 : Lg), OSe K1 v' [] 0 size → SubL K K1 → (∀ b, slB v' = some b → K b = none) → k v' K1) : newL (aBslice z 0 size []) [] K k := by
  have := lit0 (F := fun _ => none) (z := z) hk
  rwa [wp_bslice] at this
/-- what is no program, as it is told -/
theorem check_odd (hC : H_prog_Check N F) {K0 : Lg} {w : AV} (hp : PrL K0 v p) (hl : p.length ≤ 1000) {k : Nat} (hk : k < p.length) {y : Ins × AV} (o : OSl K w (flatc cellI (p.set k y)) (p.set k y).length 6) (s : SubL K0 K) (hy : goodP y.1 p.length = false) (h2 : y.2 = p[k].2) (h3 : y.1.cs = p[k].1.cs) :
    CallL F (N k_prog_Check) [w] K fun r L' => r = .i .i64 1 ∧ L' = K := by
  have hin : ∀ x, x ∈ p.set k y → SlQ Cs3.cells 3 K0 x.2 x.1.cs := by
    intro x hx
    rcases List.mem_or_eq_of_mem_set hx with hx | hx
    · exact hp.2 x hx
    · rw [hx, h2, h3]; exact hp.2 _ (List.getElem_mem _)
  have := check_spec hC (PrL.own o hin s) (by simp; omega)
  rw [List.map_set, check_set (by simpa using hk) (by simpa using hy)] at this
  exact this
variable {Q : AV → Lg → Prop} {K0 : Lg}
theorem one11 (hC : H_prog_Check N F) (aw : F (N k_tarpaulinlaw4_awake) = some kTrue) (hQ : ∀ v L, v = .b true → Q v L) (hp : PrL K0 v p) (hg : checkP (p.map (·.1)) = true) (hl : p.length ≤ 60) {k : Nat} (hk : k < p.length) (s : SubL K0 K) {v7 v8 : AV} {y7 y8 : Ins × AV}
    (o7 : OSl K v7 (flatc cellI (p.set k y7)) (p.set k y7).length 6) (g7 : goodP y7.1 p.length = false) (a7 : y7.2 = p[k].2) (b7 : y7.1.cs = p[k].1.cs)
    (o8 : OSl K v8 (flatc cellI (p.set k y8)) (p.set k y8).length 6) (g8 : goodP y8.1 p.length = false) (a8 : y8.2 = p[k].2) (b8 : y8.1.cs = p[k].1.cs) : D_tarpaulinlaw4_ProgOne_11 F N Q v (.i .i64 k) v7 v8 K := by
  have fin : ∀ L, fin1 (some (.b true)) Q L := fun L => ⟨L, Sees.refl _, hQ _ _ rfl⟩
  have hne : p ≠ [] := by rintro rfl; simp at hk
  unfold D_tarpaulinlaw4_ProgOne_11
  refine copyI (hp.mono s) hne (by omega) ?_
  intro v2 K2 o2 s2 f2
  refine wrI o2 hk (by omega) rfl (y := ({ p[k].1 with op := 0 }, p[k].2)) rfl ?_
  intro K3 o3 k3
  have keep : ∀ r d, K r = some d → K3 r = some d := fun r d hd => k3 r d (s2 r d hd) fun h => by rw [f2 r h] at hd; cases hd
  have s3 : SubL K0 K3 := s.trans keep
  refine (check_odd hC hp (by omega) hk (o7.sub fun b d _ hd => keep b d hd) s3 g7 a7 b7).mono ?_
  rintro _ _ ⟨rfl, rfl⟩
  simp
  refine (check_odd hC hp (by omega) hk (o8.sub fun b d _ hd => keep b d hd) s3 g8 a8 b8).mono ?_
  rintro _ _ ⟨rfl, rfl⟩
  simp
  refine (check_odd hC hp (by omega) hk o3 s3 (op_bad _ _ 0 (.inl (by omega))) rfl rfl).mono ?_
  rintro _ _ ⟨rfl, rfl⟩
  simp
  refine lit0N ?_
  intro v4 K4 o4 s4 f4
  simp
  refine copyIA o4 (hp.mono (s3.trans s4)) hne (by omega) ?_
  intro v5 K5 o5 k5 f5
  simp [fillP, splice, ble_nat, beq_nat, AV.cellsOf]
  refine litOneN (size := 6) rfl rfl (by simp) ?_
  intro w K6 ow s6 f6
  simp
  refine OSl.appW1 (o5.sub fun b d _ hd => s6 b d hd) ow rfl (by simp) (by omega) (by omega) ?_
  intro v9 K9 o9 k9 f9
  have s9 : SubL K0 K9 := by
    intro r d hd
    have h3 := s3 r d hd
    have h4 := s4 r d h3
    have n4 : slB v4 ≠ some r := fun h => by rw [f4 r h] at h3; cases h3
    have h6 := s6 r d (k5 r d h4 n4)
    refine k9 r d h6 fun h => ?_
    rcases f5 r h with h' | h'
    · rw [h'] at h4; cases h4
    · exact n4 h'
  have e9 : flatc cellI p ++ [.i .i64 7, .i .i64 0, .i .i64 0, .i .i64 0, .sl none 0 0 0, .b false] = flatc cellI (p ++ [exP]) := by
    rw [flatc_append]; rfl
  rw [e9] at o9
  have p9 : PrL K9 v9 (p ++ [exP]) := by
    refine PrL.own (K0 := K0) (by simpa using o9) (fun x hx => ?_) s9
    rcases List.mem_append.1 hx with hx | hx
    · exact hp.2 x hx
    · simp at hx; rw [hx]; exact slg_nil _ _ _
  have c9 : checkP ((p ++ [exP]).map (·.1)) = true := by
    rw [List.map_append]
    exact check_snoc hg (by simpa using hl)
  simp
  refine (check_spec hC p9 (by simp; omega)).mono ?_
  rintro _ _ ⟨rfl, rfl⟩
  rw [c9]
  simp
  refine (known_specP aw _).mono ?_
  rintro _ _ ⟨rfl, rfl⟩
  simp
  exact fin _
/-- from where the place is drawn -/
theorem one5 (hC : H_prog_Check N F) (aw : F (N k_tarpaulinlaw4_awake) = some kTrue) (hQ : ∀ v L, v = .b true → Q v L) (hp : PrL K0 v p) (hg : checkP (p.map (·.1)) = true) (hl : p.length ≤ 60) {k : Nat} (hk : k < p.length) (s : SubL K0 K) :
    D_tarpaulinlaw4_ProgOne_5 F N Q v (.i .i64 k) K := by
  have hne : p ≠ [] := by rintro rfl; simp at hk
  have hw : p[k]? = some p[k] := List.getElem?_eq_getElem hk
  obtain ⟨hop1, hop2⟩ := check_op hg (List.mem_map.2 ⟨p[k], List.getElem_mem _, rfl⟩ : p[k].1 ∈ p.map (·.1))
  obtain ⟨bb, o, q1, q2, q3⟩ := (hp.mono s).1.get (F := F) hw
  have q4 := (q2 K (SubL.refl _)).2
  have hone : (p[k].1.cells p[k].2).all AV.one = true := by
    obtain ⟨a, cap, ex, e, _⟩ := hp.2 p[k] (List.getElem_mem _)
    simp [Ins.cells, e]
  unfold D_tarpaulinlaw4_ProgOne_5
  simp [q1, q4]
  intro b6 hb6
  rw [stL_cells (n := 6) (l := p[k].1.cells p[k].2) (c := [.i .i64 0, .i .i64 0, .i .i64 0, .i .i64 0, .sl none 0 0 0, .b false]) (Lg.put_same _ _ _) hone rfl (by simp)]
  have e6 : splice [.i .i64 0, .i .i64 0, .i .i64 0, .i .i64 0, .sl none 0 0 0, .b false] 0 (p[k].1.cells p[k].2) = p[k].1.cells p[k].2 := rfl
  rw [e6]
  have s6 : SubL K ((K.put b6 (.raw (.cells [.i .i64 0, .i .i64 0, .i .i64 0, .i .i64 0, .sl none 0 0 0, .b false]))).put b6 (.raw (.cells (p[k].1.cells p[k].2)))) := fun r d hd => by
    have : r ≠ b6 := by rintro rfl; rw [hb6] at hd; cases hd
    rw [Lg.put_ne _ _ _ this, Lg.put_ne _ _ _ this]; exact hd
  have h6 : ((K.put b6 (.raw (.cells [.i .i64 0, .i .i64 0, .i .i64 0, .i .i64 0, .sl none 0 0 0, .b false]))).put b6 (.raw (.cells (p[k].1.cells p[k].2)))) b6 = some (.raw (.cells (p[k].1.cells p[k].2))) := Lg.put_same _ _ _
  generalize ((K.put b6 (.raw (.cells [.i .i64 0, .i .i64 0, .i .i64 0, .i .i64 0, .sl none 0 0 0, .b false]))).put b6 (.raw (.cells (p[k].1.cells p[k].2)))) = K6 at s6 h6
  have s6' : SubL K0 K6 := s.trans s6
  unfold D_tarpaulinlaw4_ProgOne_6
  refine copyI (hp.mono s6') hne (by omega) ?_
  intro v7 K7 o7 s7 f7
  unfold D_tarpaulinlaw4_ProgOne_7
  refine wrI o7 hk (by omega) rfl (y := ({ p[k].1 with a := 8 }, p[k].2)) rfl ?_
  intro K8 o8 k8
  have keep : ∀ r d, K6 r = some d → K8 r = some d := fun r d hd => k8 r d (s7 r d hd) fun h => by rw [f7 r h] at hd; cases hd
  have g6 : rdL K8 (b6, 0) none = some (.i .i64 p[k].1.op) := by rw [rdL_cell (keep _ _ h6)]; rfl
  -- behind the jump's place
  have go : ∀ (K9 : Lg) (y7 : Ins × AV), SubL K0 K9 → OSl K9 v7 (flatc cellI (p.set k y7)) (p.set k y7).length 6 → goodP y7.1 p.length = false → y7.2 = p[k].2 → y7.1.cs = p[k].1.cs → D_tarpaulinlaw4_ProgOne_9 F N Q v (.i .i64 k) v7 K9 := by
    intro K9 y7 s9 o9 g7 a7 b7
    unfold D_tarpaulinlaw4_ProgOne_9
    refine copyI (hp.mono s9) hne (by omega) ?_
    intro v10 K10 o10 s10 f10
    unfold D_tarpaulinlaw4_ProgOne_10
    refine wrI o10 hk (by omega) rfl (y := ({ p[k].1 with op := 33 }, p[k].2)) rfl ?_
    intro K11 o11 k11
    have keep11 : ∀ r d, K9 r = some d → K11 r = some d := fun r d hd => k11 r d (s10 r d hd) fun h => by rw [f10 r h] at hd; cases hd
    exact one11 hC aw hQ hp hg hl hk (s9.trans keep11) (o9.sub fun b d _ hd => keep11 b d hd) g7 a7 b7 o11 (op_bad _ _ 33 (.inr (by omega))) rfl rfl
  unfold D_tarpaulinlaw4_ProgOne_8
  by_cases hj : p[k].1.op = 4
  · have w1 : wr .i64 ((p.length : Int) + 1) = (p.length : Int) + 1 := wr_id (by omega) (by omega)
    have hlen := fun X q => (hp.1.len (F := F) X q)
    simp [g6, hj, hlen, w1]
    have hk8 : k < (p.set k ({ p[k].1 with a := 8 }, p[k].2)).length := by simpa using hk
    have := wrI (F := F) o8 hk8 (j := 1) (by omega) (x := .i .i64 (wr .i64 ((p.length : Int) + 1))) rfl (y := (oddI p[k].1 p.length, p[k].2)) (by rw [w1]; simp [cellI, Ins.cells, oddI, hj]) (kk := fun K9 => D_tarpaulinlaw4_ProgOne_9 F N Q v (.i .i64 k) v7 K9) (fun K9 o9 k9 => by
      rw [List.set_set] at o9
      refine go K9 _ (s6'.trans fun r d hd => k9 r d (keep r d hd) fun h => ?_) o9 (odd_bad _ _ hop1 hop2) rfl rfl
      rw [f7 r h] at hd; cases hd)
    exact this
  · simp [g6, hj]
    refine go K8 _ (s6'.trans keep) o8 ?_ rfl rfl
    have := odd_bad p[k].1 p.length hop1 hop2
    unfold oddI at this
    rw [if_neg hj] at this
    exact this
end
theorem progOne_law {L0 : Lg} (code : F (N k_tarpaulinlaw4_ProgOne) = some (c_tarpaulinlaw4_ProgOne N)) (aw : F (N k_tarpaulinlaw4_awake) = some kTrue) (hP : H_tarpaulinalike_Progs N F) (hC : H_prog_Check N F) (hA : H_prog_All N F) (hR : H_tarpaulinalike_Round N F) {v : AV} {p : List (Ins × AV)} (hp : PrL L0 v p) (at_ : Int) :
    CallL F (N k_tarpaulinlaw4_ProgOne) [v, .i .i64 at_] L0 fun v _ => v = .b true := by
  refine CallL.opq ?_
  intro Q hQ0
  have hQ : ∀ v L, v = .b true → Q v L := fun v L h => hQ0 v L h
  have fin : ∀ L, fin1 (some (.b true)) Q L := fun L => ⟨L, Sees.refl _, hQ _ _ rfl⟩
  have awk : ∀ L, CallL F (N k_tarpaulinlaw4_awake) [] L fun v L' => fin1 (some v) Q L' := by
    intro L
    refine (known_specP aw _).mono ?_
    rintro _ _ ⟨rfl, rfl⟩
    exact fin _
  apply r_tarpaulinlaw4_ProgOne code
  unfold D_tarpaulinlaw4_ProgOne_1 D_tarpaulinlaw4_ProgOne_2
  have hv : v.cellsOf = some [v] := by obtain ⟨a, cap, ex, e, _⟩ := hp.1; rw [e]; rfl
  have ho : v.one = true := by obtain ⟨a, cap, ex, e, _⟩ := hp.1; rw [e]; rfl
  have hlen := fun X q => (hp.1.len (F := F) X q)
  have one : ∀ (K : Lg) (k : AV → Lg → Prop), (∀ b K1, SubL K K1 → K1 b = some (.raw (.cells [v])) → k (.sl (some (b, 0)) 1 1 0) K1) → newL (aBslice [.sl none 0 0 0] 1 1 [0]) [v] K k := by
    intro K k h
    rw [newL_bslice (c := [v]) _ _ (by simp [reps, fillP, splice, ble_nat, beq_nat, hv]) (by simp [ho])]
    intro b hb
    exact h b _ ((SubL.refl K).put hb _) (Lg.put_same _ _ _)
  have psl : ∀ (b : Nat) (K1 : Lg), SubL L0 K1 → K1 b = some (.raw (.cells [v])) → PsW K1 (.sl (some (b, 0)) 1 1 0) [(v, p)] := by
    intro b K1 s1 h1
    refine ⟨⟨_, _, _, rfl, Nat.le_refl _, .inl rfl, .inr ⟨b, 0, [v], rfl, .inl h1, by simp, fun i x hi => ?_⟩⟩, fun x hx => ?_⟩
    · have : i = 0 := by
        have := (List.getElem?_eq_some_iff.1 hi).1
        simp at this; omega
      subst this
      simp at hi; subst hi; rfl
    · simp at hx; rw [hx]; exact hp.mono s1
  rw [wp_bslice]
  refine one L0 _ fun b1 K1 s1 h1 => ?_
  refine (progs_spec hP (psl b1 K1 s1 h1)).mono ?_
  rintro _ _ ⟨rfl, rfl⟩
  cases hpr : progsP ([(v, p)].map fun x => insOf x.2) with
  | false =>
    simp
    exact awk _
  | true =>
    have hl : p.length ≤ 60 := by
      simp [progsP, progP, insOf] at hpr
      exact hpr.1
    simp [hlen]
    by_cases h0 : p.length = 0
    · have : p = [] := List.length_eq_zero_iff.1 h0
      simp [this]
      exact awk _
    have h0' : ¬ (p.length : Int) = 0 := by omega
    have hne : p ≠ [] := by rintro rfl; exact h0 rfl
    simp [hne]
    unfold D_tarpaulinlaw4_ProgOne_3
    refine (check_spec hC (hp.mono s1) (by omega)).mono ?_
    rintro _ _ ⟨rfl, rfl⟩
    cases hc : checkP (p.map (·.1)) with
    | false =>
      simp
      refine one _ _ fun b2 K2 s2 h2 => ?_
      have pw := psl b2 K2 (s1.trans s2) h2
      have pl : PsL K2 (.sl (some (b2, 0)) 1 1 0) [(v, p)] := ⟨pw.1, fun x hx => ⟨pw.2 x hx, by simp at hx; rw [hx]; simp; omega⟩⟩
      refine (all_spec hA pl (by simp)).mono ?_
      rintro _ _ ⟨rfl, rfl⟩
      have ha : allP ([(v, p)].map fun x => insOf x.2) = false := by
        have : checkP (insOf p) = false := hc
        simp [allP, this]
      rw [ha]
      simp
      refine (known_specP aw _).mono ?_
      rintro _ _ ⟨rfl, rfl⟩
      simp
      exact fin _
    | true =>
      simp
      unfold D_tarpaulinlaw4_ProgOne_4
      simp [hlen]
      refine (round_spec hR at_ p.length (by omega) (by omega) _).mono ?_
      rintro _ _ ⟨rfl, rfl⟩
      have m1 := Int.emod_nonneg at_ (show (p.length : Int) ≠ 0 by omega)
      have m2 := Int.emod_lt_of_pos at_ (show (0 : Int) < p.length by omega)
      obtain ⟨k, hk⟩ := Int.eq_ofNat_of_zero_le m1
      rw [hk] at m2 ⊢
      exact one5 hC aw hQ hp hc hl (by omega) s1
end Go.AM


/- programs among a row's arguments. -/
set_option linter.unusedVariables false
set_option linter.unusedSimpArgs false
namespace Go.AM
open Go.RowKit
section
variable {H : Type} {enc : TypeId × Value → H} {P : Program} {W : World}
theorem open_cs3 {e ti tb : TypeId} {fs : Array Field} (he : P.underlying e = some (.struct fs)) (h3 : fs.size = 3) (hfs : ∀ (i : Nat) (f : Field), fs[i]? = some f → f.offset = i ∧ f.type = [tb, ti, ti].getD i 0) (hi : P.underlying ti = some (.int .i64)) (hb : P.underlying tb = some .bool) (hci : P.cellsOf ti = 1) (hcb : P.cellsOf tb = 1) (hc3 : P.cellsOf e = 3)
    {n : Nat} {cs : List Value} {y : DataW H × List MemPlace} (h : DataW.trod enc P W 0 (fun _ => true) true n e cs = some y) : ∃ x : Cs3, VRs (fun _ => none) x.cells cs := by
  obtain ⟨xs, m, _, _, hl, hxl, hf⟩ := DataW.trod_struct he h
  rw [hc3] at hl
  have fld : ∀ i, i < 3 → ∃ y, DataW.trod enc P W 0 (fun _ => true) true m ([tb, ti, ti].getD i 0) ((cs.drop i).take 1) = some y := by
    intro i hi3
    have h5 : ∃ f, fs[i]? = some f := ⟨_, Array.getElem?_eq_getElem (by omega)⟩
    obtain ⟨f, hfi⟩ := h5
    have h6 := hf i f hfi
    obtain ⟨o1, o2⟩ := hfs i f hfi
    have hc1 : P.cellsOf f.type = 1 := by
      rw [o2]; match i, hi3 with
      | 0, _ => exact hcb
      | 1, _ => exact hci
      | 2, _ => exact hci
    rw [hc1, o1, o2] at h6
    exact ⟨_, h6.trans (List.getElem?_eq_getElem (by omega))⟩
  match cs, hl with
  | [c0, c1, c2], _ =>
    obtain ⟨_, t0⟩ := fld 0 (by omega)
    obtain ⟨_, t1⟩ := fld 1 (by omega)
    obtain ⟨_, t2⟩ := fld 2 (by omega)
    obtain ⟨b, e0, _⟩ := DataW.trod_bool hb t0
    obtain ⟨i1, e1, _⟩ := DataW.trod_int hi t1
    obtain ⟨i2, e2, _⟩ := DataW.trod_int hi t2
    simp at e0 e1 e2
    subst e0 e1 e2
    exact ⟨⟨b, i1, i2⟩, .cons (.b _) (.cons (.i _ _) (.cons (.i _ _) .nil))⟩
/-- what a program's types are -/
structure InsT (P : Program) (e ti tb tc te : TypeId) : Prop where
  int : P.underlying ti = some (.int .i64)
  bool : P.underlying tb = some .bool
  cint : P.cellsOf ti = 1
  cbool : P.cellsOf tb = 1
  ins : ∃ fs, P.underlying e = some (.struct fs) ∧ fs.size = 6 ∧ ∀ (i : Nat) (f : Field), fs[i]? = some f → f.offset = i ∧ f.type = [ti, ti, ti, ti, tc, tb].getD i 0
  cins : P.cellsOf e = 6
  sl : P.underlying tc = some (.slice te)
  csl : P.cellsOf tc = 1
  cas : ∃ fs, P.underlying te = some (.struct fs) ∧ fs.size = 3 ∧ ∀ (i : Nat) (f : Field), fs[i]? = some f → f.offset = i ∧ f.type = [tb, ti, ti].getD i 0
  ccas : P.cellsOf te = 3
def cellX : Ins × AV → List AV := fun x => x.1.cells x.2
def insR (L : Lg) (x : Ins × AV) : Prop := SlQ Cs3.cells 3 L x.2 x.1.cs
theorem open_ins {e ti tb tc te : TypeId} (T : InsT P e ti tb tc te) {S : St} {β : Bt} {L : Lg} (h : AR W S β L) {n : Nat} {cs : List Value} {y : DataW H × List MemPlace} (hd : DataW.trod enc P W 0 (fun _ => true) true n e cs = some y) :
    ∃ x S' β' L', AR W S' β' L' ∧ Ext β β' ∧ Ext2 L L' ∧ VRs β' (cellX x) cs ∧ insR L' x := by
  obtain ⟨fs, he, h6, hfs⟩ := T.ins
  obtain ⟨gs, hg, h3, hgs⟩ := T.cas
  obtain ⟨xs, m, _, _, hl, hxl, hf⟩ := DataW.trod_struct he hd
  rw [T.cins] at hl
  have fld : ∀ i, i < 6 → ∃ y, DataW.trod enc P W 0 (fun _ => true) true m ([ti, ti, ti, ti, tc, tb].getD i 0) ((cs.drop i).take 1) = some y := by
    intro i hi6
    have h5 : ∃ f, fs[i]? = some f := ⟨_, Array.getElem?_eq_getElem (by omega)⟩
    obtain ⟨f, hfi⟩ := h5
    have h6 := hf i f hfi
    obtain ⟨o1, o2⟩ := hfs i f hfi
    have hc1 : P.cellsOf f.type = 1 := by
      rw [o2]; match i, hi6 with
      | 0, _ => exact T.cint
      | 1, _ => exact T.cint
      | 2, _ => exact T.cint
      | 3, _ => exact T.cint
      | 4, _ => exact T.csl
      | 5, _ => exact T.cbool
    rw [hc1, o1, o2] at h6
    exact ⟨_, h6.trans (List.getElem?_eq_getElem (by omega))⟩
  match cs, hl with
  | [c0, c1, c2, c3, c4, c5], _ =>
    obtain ⟨_, t0⟩ := fld 0 (by omega)
    obtain ⟨_, t1⟩ := fld 1 (by omega)
    obtain ⟨_, t2⟩ := fld 2 (by omega)
    obtain ⟨_, t3⟩ := fld 3 (by omega)
    obtain ⟨_, t4⟩ := fld 4 (by omega)
    obtain ⟨_, t5⟩ := fld 5 (by omega)
    obtain ⟨i0, e0, _⟩ := DataW.trod_int T.int t0
    obtain ⟨i1, e1, _⟩ := DataW.trod_int T.int t1
    obtain ⟨i2, e2, _⟩ := DataW.trod_int T.int t2
    obtain ⟨i3, e3, _⟩ := DataW.trod_int T.int t3
    obtain ⟨b5, e5, _⟩ := DataW.trod_bool T.bool t5
    obtain ⟨v4, a4, l4, S', β', L', e4, ar, hx, hx2, hv, hs, _⟩ := AR.nest (X := Cs3) Cs3.cells (fun _ _ => True) (fun _ _ _ _ _ => trivial) h T.sl T.ccas (by omega) Cs3.len
      (fun S β L hA n cs y hy => by
        obtain ⟨x, hx⟩ := open_cs3 hg h3 hgs T.int T.bool T.cint T.cbool T.ccas hy
        exact ⟨x, S, β, L, hA, Ext.refl β, Ext2.refl L, hx.mono (fun _ _ h => by cases h), trivial⟩) t4
    simp at e0 e1 e2 e3 e4 e5
    subst e0 e1 e2 e3 e4 e5
    exact ⟨(⟨i0, i1, i2, i3, l4, b5⟩, a4), S', β', L', ar, hx, hx2, .cons (.i _ _) (.cons (.i _ _) (.cons (.i _ _) (.cons (.i _ _) (.cons hv (.cons (.b _) .nil))))), SlN.toQ Cs3.len hs⟩
theorem insR_mono (L L' : Lg) (x : Ins × AV) (e : Ext2 L L') (h : insR L x) : insR L' x := SlQ.mono h e
theorem open_prog {t e ti tb tc te : TypeId} (T : InsT P e ti tb tc te) (ht : P.underlying t = some (.slice e)) {S : St} {β : Bt} {L : Lg} (h : AR W S β L) {n : Nat} {cs : List Value} {y : DataW H × List MemPlace} (hd : DataW.trod enc P W 0 (fun _ => true) true n t cs = some y) :
    ∃ (p : List (Ins × AV)) (a : AV) (v : Value) (S' : St) (β' : Bt) (L' : Lg), cs = [v] ∧ AR W S' β' L' ∧ Ext β β' ∧ Ext2 L L' ∧ VR β' a v ∧ PrL L' a p := by
  obtain ⟨v, a, l, S', β', L', e1, ar, hx, hx2, hv, hs, hr⟩ := AR.nest (X := Ins × AV) cellX insR insR_mono h ht T.cins (by omega) (fun _ => rfl) (fun S β L hA n cs y hy => open_ins T hA hy) hd
  exact ⟨l, a, v, S', β', L', e1, ar, hx, hx2, hv, SlN.toQ (fun _ => rfl) hs, hr⟩
/-- a program among the arguments -/
theorem AR.prog {S : St} {β : Bt} {L : Lg} (h : AR W S β L) {t e ti tb tc te : TypeId} (ht : P.underlying t = some (.slice e)) (T : InsT P e ti tb tc te) {v : Value} {base : Nat} (hval : Value.okWide P W .any base t v) {d : DataW H} {ps : List MemPlace} (hd : DataW.Trod enc P W 0 (fun _ => true) true t v d ps) :
    ∃ (p : List (Ins × AV)) (S' : St) (β' : Bt) (L' : Lg) (a : AV), AR W S' β' L' ∧ Ext β β' ∧ Ext2 L L' ∧ VR β' a v ∧ PrL L' a p := by
  obtain ⟨a0, len, cap, rfl⟩ := Go.WideShapes.okWide_slice ht hval
  obtain ⟨fuel, hf⟩ := hd
  obtain ⟨p, a, v', S', β', L', e1, ar, hx, hx2, hv, hp⟩ := open_prog T ht h hf
  have e2 : [Value.slice a0 len cap] = [v'] := e1
  cases e2
  exact ⟨p, S', β', L', a, ar, hx, hx2, hv, hp⟩
end
end Go.AM

