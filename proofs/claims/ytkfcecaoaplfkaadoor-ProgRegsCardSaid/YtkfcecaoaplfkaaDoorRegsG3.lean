/- The texts LibCtxA, LibCtxB, LibCtxC, LibCtxD, LibCtxE, LibCtxF, LibCtxG, LibCtxH, LibCtxI, LibCtxJ, LibCtxK, LibCtxL, LibCtxM, LibCtxN, LibCtxO, LibCtxP, LibLaw, GenE, LibLapseA, LibScriptA, LibScriptB, LibScriptC, LibScriptD, LibLapseD, LibScriptE, LibScriptF, LgN, LibRd, LibProg, LibProgB, LibProgC, LibProgS, LibProgT, LibProgU, LibRefA, LibTimerD, LawTimerP, LawTimerX, LibRefB, LibRefC, LibRefD, LibRefE, LibRefG, LibRefH, LibRefI, LibRefJ, LibCtxQ, LibCtxR, GenG, LibRefK, LibGO, LibRefL, LibRefM, LawProgLimits, LawProgRegs, LibProgR, LgX of a proof of ProgRegs, merged. -/
import Derived.Test.YtkfcecaoaplfkaaDoorRegsG2
import Derived.KernelRfl
import Derived.Sort.Row
import Derived.Sort.Grow
/- ctx: contexts, opened; has, room. -/
set_option linter.unusedVariables false
set_option linter.unusedSimpArgs false
namespace Go.AM
variable {N : Nat → Nat} {F : Nat → Option AFn}
/-- a context -/
structure One where
  node : Int
  free : Bool
  c : Option Nat
  err : Int
  cause : Int
  when : Int
  has : Bool
  own : Bool
  timer : Int
  deriving DecidableEq
def One.cells (o : One) : List AV := [.i .i64 o.node, .b o.free, ptr o.c, .i .i64 o.err, .i .i64 o.cause, .i .i64 o.when, .b o.has, .b o.own, .i .i64 o.timer]
/-- what starts a program -/
structure Aft where
  node : Int
  prog : Int
  over : Bool
  deriving DecidableEq
def Aft.cells (o : Aft) : List AV := [.i .i64 o.node, .i .i64 o.prog, .b o.over]
/-- contexts -/
structure Cs where
  t : Option Nat
  tree : List Nd
  ones : List One
  afts : List Aft
  who : Int → Option Int
theorem One.len (o : One) : o.cells.length = 9 := rfl
theorem Aft.len (o : Aft) : o.cells.length = 3 := rfl
theorem One.one (o : One) : o.cells.all AV.one = true := rfl
theorem Aft.one (o : Aft) : o.cells.all AV.one = true := rfl
structure CtxD (c : Nat) (σ : Cs) (t mb : Nat) (osl asl : AV) (M : Lg) : Prop where
  root : M c = some (.raw (.cells [ptr σ.t, .p (some (t, 0)), osl, asl, .m (some mb)]))
  tree : M t = some (.abs (TreeP t σ.tree))
  map : ∃ es, M mb = some (.raw (.map es)) ∧ MapI es σ.who
  ones : OSl M osl (flatc One.cells σ.ones) σ.ones.length 9
  afts : OSl M asl (flatc Aft.cells σ.afts) σ.afts.length 3
  n1 : c ≠ t
  n2 : c ≠ mb
  n3 : t ≠ mb
  no : ∀ b, slB osl = some b → b ≠ c ∧ b ≠ t ∧ b ≠ mb
  na : ∀ b, slB asl = some b → b ≠ c ∧ b ≠ t ∧ b ≠ mb ∧ slB osl ≠ some b
  dom : ∀ b, M b ≠ none → b = c ∨ b = t ∨ b = mb ∨ slB osl = some b ∨ slB asl = some b
def CtxP (c : Nat) (σ : Cs) : Hp → Prop := Thing fun M => ∃ t mb osl asl, CtxD c σ t mb osl asl M
section
variable {M L : Lg} {c t mb : Nat} {osl asl : AV} {σ : Cs} {Q : AV → Lg → Prop}
theorem CtxD.shut (h : CtxD c σ t mb osl asl M) (ha : Apart M L c) : Sees (M.over L) (L.put c (.abs (CtxP c σ))) := Sees.shutD ⟨t, mb, osl, asl, h⟩ ⟨_, h.root⟩ ha
theorem CtxD.back (h : CtxD c σ t mb osl asl M) (ha : Apart M L c) (e : L c = some (.abs (CtxP c σ))) : Sees (M.over L) L := Sees.backD ⟨t, mb, osl, asl, h⟩ ⟨_, h.root⟩ ha e
theorem CtxD.f0 (h : CtxD c σ t mb osl asl M) (L : Lg) : rdL (M.over L) (c, 0) none = some (ptr σ.t) := by rw [rdL_cell (over_some h.root)]; rfl
theorem CtxD.f1 (h : CtxD c σ t mb osl asl M) (L : Lg) : rdL (M.over L) (c, 1) none = some (.p (some (t, 0))) := by rw [rdL_cell (over_some h.root)]; rfl
theorem CtxD.f2 (h : CtxD c σ t mb osl asl M) (L : Lg) : rdL (M.over L) (c, 2) none = some osl := by rw [rdL_cell (over_some h.root)]; rfl
theorem CtxD.f3 (h : CtxD c σ t mb osl asl M) (L : Lg) : rdL (M.over L) (c, 3) none = some asl := by rw [rdL_cell (over_some h.root)]; rfl
theorem CtxD.f4 (h : CtxD c σ t mb osl asl M) (L : Lg) : rdL (M.over L) (c, 4) none = some (.m (some mb)) := by rw [rdL_cell (over_some h.root)]; rfl
/-! ### what is put -/
theorem CtxD.setTree (h : CtxD c σ t mb osl asl M) (ns : List Nd) : CtxD c { σ with tree := ns } t mb osl asl (M.put t (.abs (TreeP t ns))) := by
  refine ⟨by rw [Lg.put_ne _ _ _ h.n1]; exact h.root, Lg.put_same _ _ _, ?_, h.ones.mono fun b hb => Lg.put_ne _ _ _ (h.no b hb).2.1, h.afts.mono fun b hb => Lg.put_ne _ _ _ (h.na b hb).2.1, h.n1, h.n2, h.n3, h.no, h.na, ?_⟩
  · obtain ⟨es, h1, h2⟩ := h.map; exact ⟨es, by rw [Lg.put_ne _ _ _ (Ne.symm h.n3)]; exact h1, h2⟩
  · intro b hb
    by_cases e : b = t
    · exact .inr (.inl e)
    · rw [Lg.put_ne _ _ _ e] at hb; exact h.dom b hb
/-- what is new lies not in it -/
theorem CtxD.fresh (h : CtxD c σ t mb osl asl M) {b : Nat} (hb : M b = none) : b ≠ c ∧ b ≠ t ∧ b ≠ mb ∧ slB osl ≠ some b ∧ slB asl ≠ some b := by
  refine ⟨?_, ?_, ?_, ?_, ?_⟩
  · rintro rfl; rw [h.root] at hb; cases hb
  · rintro rfl; rw [h.tree] at hb; cases hb
  · rintro rfl; obtain ⟨es, h1, _⟩ := h.map; rw [h1] at hb; cases hb
  · intro h9; have := h.ones.block h9; rw [hb] at this; cases this
  · intro h9; have := h.afts.block h9; rw [hb] at this; cases this
/-! ### has, room -/
def Cs.has (σ : Cs) (id : Int) : Bool := decide (0 ≤ id) && decide (id < σ.ones.length)
end
end Go.AM


/- ctx: add, start. -/
set_option linter.unusedVariables false
set_option linter.unusedSimpArgs false
namespace Go.AM
variable {N : Nat → Nat} {F : Nat → Option AFn}
def Cs.add (σ : Cs) (o : One) (parent : Int) : Cs :=
  let r := treeAdd σ.tree parent (!o.free)
  { σ with tree := r.1, who := updI σ.who r.2.1 (some σ.ones.length), ones := σ.ones ++ [{ o with node := r.2.1, timer := -1 }] }
section
variable {M L : Lg} {c t mb : Nat} {osl asl : AV} {σ : Cs} {Q : AV → Lg → Prop}
end
end Go.AM


/- ctx: what cancel does, in plain; the slices that it tells. -/
set_option linter.unusedVariables false
set_option linter.unusedSimpArgs false
namespace Go.AM
variable {N : Nat → Nat} {F : Nat → Option AFn}
/-- a context that is done now -/
structure Lap where
  id : Int
  err : Int
  cause : Int
  wakes : List Wk
/-- contexts, their timers, their channels -/
structure CX where
  σ : Cs
  τ : Tms
  χ : Nat → Ch
def updC (f : Nat → Ch) (a : Nat) (x : Ch) : Nat → Ch := fun b => if b = a then x else f b
def CX.setTree (S : CX) (ns : List Nd) : CX := { S with σ := { S.σ with tree := ns } }
def Cs.names (σ : Cs) : List (Option Nat × Int) := σ.ones.map fun o => (o.c, o.node)
structure OutC (c : Nat) (S : CX) (L : Lg) : Prop where
  tms : ∀ s, S.σ.t = some s → s ≠ c ∧ L s = some (.abs (SetP s S.τ))
  chs : ∀ o ∈ S.σ.ones, ∀ a, o.c = some a → a ≠ c ∧ S.σ.t ≠ some a ∧ L a = some (.abs (ChanP a (S.χ a)))
/-- what is none of its own is as it was -/
def FrC (σ : Cs) (L L' : Lg) : Prop := ∀ r, L r ≠ none → σ.t ≠ some r → (∀ o ∈ σ.ones, o.c ≠ some r) → L' r = L r
structure SameC (σ σ' : Cs) : Prop where
  t : σ'.t = σ.t
  names : σ'.names = σ.names
theorem SameC.refl (σ : Cs) : SameC σ σ := ⟨rfl, rfl⟩
theorem SameC.trans {a b d : Cs} (h : SameC a b) (k : SameC b d) : SameC a d := ⟨k.t.trans h.t, k.names.trans h.names⟩
theorem SameC.get {a b : Cs} (h : SameC a b) {i : Nat} {o : One} (hi : b.ones[i]? = some o) : ∃ o', a.ones[i]? = some o' ∧ o'.c = o.c ∧ o'.node = o.node := by
  have := congrArg (fun l => l[i]?) h.names
  simp only [Cs.names, List.getElem?_map, hi, Option.map_some] at this
  cases e : a.ones[i]? with
  | none => rw [e] at this; cases this
  | some o' => rw [e] at this; simp at this; exact ⟨o', rfl, this.1.symm, this.2.symm⟩
theorem SameC.cs {a b : Cs} (h : SameC a b) {x : Option Nat} (hx : ∃ o ∈ b.ones, o.c = x) : ∃ o ∈ a.ones, o.c = x := by
  obtain ⟨o, ho, e⟩ := hx
  obtain ⟨i, hi⟩ := List.mem_iff_getElem?.1 ho
  obtain ⟨o', h1, h2, _⟩ := h.get hi
  exact ⟨o', List.mem_of_getElem? h1, h2.trans e⟩
theorem FrC.refl (σ : Cs) (L : Lg) : FrC σ L L := fun _ _ _ _ => rfl
theorem FrC.trans {σ σ' : Cs} {L L1 L2 : Lg} (s : SameC σ σ') (h : FrC σ L L1) (k : FrC σ' L1 L2) : FrC σ L L2 := fun r hr h1 h2 => by
  have e := h r hr h1 h2
  rw [k r (by rw [e]; exact hr) (by rw [s.t]; exact h1) (fun o ho h9 => by
    obtain ⟨o', h3, h4⟩ := s.cs ⟨o, ho, h9⟩
    exact h2 o' h3 h4), e]
/-- what there was is there -/
theorem FrC.has {c : Nat} {S S' : CX} {L L' : Lg} (s : SameC S.σ S'.σ) (h : FrC S.σ L L') (o : OutC c S' L') {r : Nat} (hr : L r ≠ none) : L' r ≠ none := by
  by_cases h1 : S.σ.t = some r
  · rw [(o.tms r (by rw [s.t]; exact h1)).2]; simp
  · by_cases h2 : ∃ o ∈ S.σ.ones, o.c = some r
    · obtain ⟨o', ho', he⟩ := SameC.cs (a := S'.σ) (b := S.σ) ⟨s.t.symm, s.names.symm⟩ h2
      rw [(o.chs o' ho' r he).2.2]; simp
    · rw [h r hr h1 (fun o ho h9 => h2 ⟨o, ho, h9⟩)]; exact hr
/-! ### the slices that it tells -/
def lapc (p : Lap × AV) : List AV := [.i .i64 p.1.id, .i .i64 p.1.err, .i .i64 p.1.cause, p.2]
def stc (p : Int × Int) : List AV := [.i .i64 p.1, .i .i64 p.2]
theorem flatc_oneM {α : Type} {f : α → List AV} : ∀ (a : List α), (∀ x ∈ a, (f x).all AV.one = true) → (flatc f a).all AV.one = true
  | [], _ => rfl
  | x :: r, h => by
    simp only [flatc, List.all_append, h x (by simp), flatc_oneM r (fun y hy => h y (by simp [hy])), Bool.and_self]
theorem SlK.one {L : Lg} {v : AV} {ws : List Wk} (h : SlK L v ws) : v.one = true := by
  rcases h with ⟨_, rfl⟩ | ⟨b, ex, rfl, _⟩ <;> rfl
theorem SlK.mono {L L' : Lg} {v : AV} {ws : List Wk} (h : SlK L v ws) (e : ∀ b, slB v = some b → L' b = L b) : SlK L' v ws := by
  rcases h with ⟨h1, h2⟩ | ⟨b, ex, h1, h2⟩
  · exact .inl ⟨h1, h2⟩
  · exact .inr ⟨b, ex, h1, by rw [e b (by rw [h1]; rfl)]; exact h2⟩
theorem SlK.has {L : Lg} {v : AV} {ws : List Wk} (h : SlK L v ws) {b : Nat} (e : slB v = some b) : L b ≠ none := by
  rcases h with ⟨_, rfl⟩ | ⟨b', ex, rfl, h2⟩
  · cases e
  · simp [slB] at e; subst e; rw [h2]; simp
structure ResP (L0 K : Lg) (v1 v2 : AV) (ps : List (Lap × AV)) (sts : List (Int × Int)) : Prop where
  o1 : OSl K v1 (flatc lapc ps) ps.length 4
  o2 : OSl K v2 (flatc stc sts) sts.length 2
  ins : ∀ p ∈ ps, SlK K p.2 p.1.wakes ∧ ∀ b, slB p.2 = some b → L0 b = none ∧ slB v1 ≠ some b ∧ slB v2 ≠ some b
  f1 : ∀ b, slB v1 = some b → L0 b = none ∧ slB v2 ≠ some b
  f2 : ∀ b, slB v2 = some b → L0 b = none
def ResW (L0 K : Lg) (v1 v2 : AV) (laps : List Lap) (sts : List (Int × Int)) : Prop := ∃ ps, ps.map (·.1) = laps ∧ ResP L0 K v1 v2 ps sts
section
variable {L0 K K' : Lg} {v1 v2 : AV} {ps : List (Lap × AV)} {sts : List (Int × Int)}
theorem ResP.mono (h : ResP L0 K v1 v2 ps sts) (e : ∀ b, L0 b = none → K b ≠ none → K' b = K b) : ResP L0 K' v1 v2 ps sts :=
  ⟨h.o1.mono fun b hb => e b (h.f1 b hb).1 (by rw [h.o1.block hb]; simp), h.o2.mono fun b hb => e b (h.f2 b hb) (by rw [h.o2.block hb]; simp), fun p hp => ⟨(h.ins p hp).1.mono fun b hb => e b ((h.ins p hp).2 b hb).1 ((h.ins p hp).1.has hb), (h.ins p hp).2⟩, h.f1, h.f2⟩
theorem ResP.nil (L0 K : Lg) : ResP L0 K (.sl none 0 0 0) (.sl none 0 0 0) [] [] := ⟨.inl ⟨rfl, rfl, rfl⟩, .inl ⟨rfl, rfl, rfl⟩, fun p hp => by simp at hp, fun b hb => (by cases hb), fun b hb => (by cases hb)⟩
theorem ResP.one (h : ResP L0 K v1 v2 ps sts) : (flatc lapc ps).all AV.one = true := flatc_oneM ps fun p hp => by
  have := (h.ins p hp).1.one
  simp [lapc, this]
end
end Go.AM


/- ctx: cancel. -/
set_option linter.unusedVariables false
set_option linter.unusedSimpArgs false
namespace Go.AM
variable {N : Nat → Nat} {F : Nat → Option AFn}
section
variable {M L L0 : Lg} {c t mb : Nat} {osl asl : AV} {S S' : CX} {Q : AV → Lg → Prop}
theorem OutC.put (o : OutC c S L) {b : Nat} (hb : L b = none) (d : LC) : OutC c S (L.put b d) := by
  have key : ∀ r e, L r = some e → (L.put b d) r = some e := by
    intro r e hr
    rw [Lg.put_ne]; exact hr
    rintro rfl; rw [hb] at hr; cases hr
  exact ⟨fun s hs => ⟨(o.tms s hs).1, key _ _ (o.tms s hs).2⟩, fun o1 h1 a h2 => ⟨(o.chs o1 h1 a h2).1, (o.chs o1 h1 a h2).2.1, key _ _ (o.chs o1 h1 a h2).2.2⟩⟩
theorem FrC.put {σ : Cs} {L1 : Lg} (h : FrC σ L L1) {b : Nat} (hb : L b = none) (d : LC) : FrC σ L (L1.put b d) := fun r hr h1 h2 => by
  rw [Lg.put_ne]; exact h r hr h1 h2
  rintro rfl; exact hr hb
end
end Go.AM


/- ctx: cancel, proved. -/
set_option linter.unusedVariables false
set_option linter.unusedSimpArgs false
namespace Go.AM
variable {N : Nat → Nat} {F : Nat → Option AFn}
section
variable {M L L0 : Lg} {c t mb : Nat} {osl asl : AV} {S S' : CX} {Q : AV → Lg → Prop}
theorem OSl.up {v : AV} {cs : List AV} {n size : Nat} (h : OSl L v cs n size) (hv : ∀ q, slB v = some q → M q = none) : OSl (M.over L) v cs n size := h.mono fun b hb => over_skip (hv b hb)
theorem OSl.has {v : AV} {cs : List AV} {n size : Nat} (h : OSl L v cs n size) {q : Nat} (hq : slB v = some q) : L q ≠ none := by rw [h.block hq]; simp
theorem OSl.raw {v : AV} {cs : List AV} {n size : Nat} (h : OSl L v cs n size) : ∀ q, slB v = some q → ∃ d, L q = some (.raw d) := fun q hq => ⟨_, h.block hq⟩
end
end Go.AM


/- ctx: cancel, whole. -/
set_option linter.unusedVariables false
set_option linter.unusedSimpArgs false
namespace Go.AM
variable {N : Nat → Nat} {F : Nat → Option AFn}
section
variable {M L L0 : Lg} {c t mb : Nat} {osl asl : AV} {S S' : CX} {Q : AV → Lg → Prop}
theorem OutC.same {S2 : CX} (o : OutC c S L) (h : SameC S.σ S2.σ) (h1 : S2.τ = S.τ) (h2 : S2.χ = S.χ) : OutC c S2 L := by
  refine ⟨fun s hs => ?_, fun o1 ho a ha => ?_⟩
  · rw [h1]; exact o.tms s (by rw [← h.t]; exact hs)
  · obtain ⟨o', ho', he⟩ := h.cs ⟨o1, ho, ha⟩
    have := o.chs o' ho' a he
    exact ⟨this.1, by rw [h.t]; exact this.2.1, by rw [h2]; exact this.2.2⟩
end
end Go.AM


/- ctx: begin, Cancels, Without, Deadline. -/
set_option linter.unusedVariables false
set_option linter.unusedSimpArgs false
namespace Go.AM
variable {N : Nat → Nat} {F : Nat → Option AFn}
structure SubC (σ σ' : Cs) : Prop where
  t : σ'.t = σ.t
  names : ∃ l, σ'.names = σ.names ++ l
theorem SameC.sub {σ σ' : Cs} (h : SameC σ σ') : SubC σ σ' := ⟨h.t, [], by simp [h.names]⟩
theorem SubC.trans {a b d : Cs} (h : SubC a b) (k : SubC b d) : SubC a d := by
  obtain ⟨l, hl⟩ := h.names
  obtain ⟨m, hm⟩ := k.names
  exact ⟨k.t.trans h.t, l ++ m, by rw [hm, hl, List.append_assoc]⟩
theorem SubC.cs {a b : Cs} (h : SubC a b) {x : Option Nat} (hx : ∃ o ∈ a.ones, o.c = x) : ∃ o ∈ b.ones, o.c = x := by
  obtain ⟨o, ho, e⟩ := hx
  obtain ⟨l, hl⟩ := h.names
  have : (o.c, o.node) ∈ b.names := by rw [hl]; exact List.mem_append_left _ (List.mem_map.2 ⟨o, ho, rfl⟩)
  obtain ⟨o', ho', he⟩ := List.mem_map.1 this
  exact ⟨o', ho', by rw [← e]; exact congrArg Prod.fst he⟩
/-- contexts, opened, behind a call -/
structure CO (c t mb : Nat) (S S' : CX) (L : Lg) (osl asl : AV) (M' L' : Lg) : Prop where
  d : CtxD c S'.σ t mb osl asl M'
  ap : Apart M' L' c
  out : OutC c S' L'
  sub : SubC S.σ S'.σ
  fr : FrC S.σ L L'
  has : ∀ r, L' r = none → L r = none
/-- contexts behind a call -/
structure CDone (c : Nat) (S S' : CX) (L L2 : Lg) : Prop where
  own : L2 c = some (.abs (CtxP c S'.σ))
  out : OutC c S' L2
  sub : SubC S.σ S'.σ
  fr : ∀ r, L r ≠ none → r ≠ c → S.σ.t ≠ some r → (∀ o ∈ S.σ.ones, o.c ≠ some r) → L2 r = L r
  has : ∀ r, L2 r = none → L r = none
section
variable {M L L0 : Lg} {c t mb : Nat} {osl asl : AV} {S S' : CX} {Q : AV → Lg → Prop}
theorem OutC.putN (o : OutC c S L) (d : LC) : OutC c S (L.put c d) := by
  refine ⟨fun s hs => ⟨(o.tms s hs).1, ?_⟩, fun o1 h1 a h2 => ⟨(o.chs o1 h1 a h2).1, (o.chs o1 h1 a h2).2.1, ?_⟩⟩
  · rw [Lg.put_ne _ _ _ (o.tms s hs).1]; exact (o.tms s hs).2
  · rw [Lg.put_ne _ _ _ (o.chs o1 h1 a h2).1]; exact (o.chs o1 h1 a h2).2.2
theorem CO.shut {M' L' : Lg} (h : CO c t mb S S' L osl asl M' L') (hc : L c ≠ none) : Sees (M'.over L') (L'.put c (.abs (CtxP c S'.σ))) ∧ CDone c S S' L (L'.put c (.abs (CtxP c S'.σ))) := by
  refine ⟨h.d.shut h.ap, Lg.put_same _ _ _, h.out.putN _, h.sub, ?_, ?_⟩
  · intro r hr h1 h2 h3
    rw [Lg.put_ne _ _ _ h1]; exact h.fr r hr h2 h3
  · intro r hr
    by_cases e : r = c
    · subst e; rw [Lg.put_same] at hr; cases hr
    · rw [Lg.put_ne _ _ _ e] at hr; exact h.has r hr
theorem ResW.shut {v1 v2 : AV} {laps : List Lap} {sts : List (Int × Int)} {L' : Lg} (h : ResW L L' v1 v2 laps sts) (hc : L c ≠ none) (d : LC) : ResW L (L'.put c d) v1 v2 laps sts := by
  obtain ⟨ps, h1, h2⟩ := h
  exact ⟨ps, h1, h2.mono fun b hb hK => Lg.put_ne _ _ _ (by rintro rfl; exact hc hb)⟩
def One.zero : One := ⟨0, false, none, 0, 0, 0, false, false, 0⟩
theorem CO.refl (hd : CtxD c S.σ t mb osl asl M) (ha : Apart M L c) (ho : OutC c S L) : CO c t mb S S L osl asl M L := ⟨hd, ha, ho, (SameC.refl _).sub, FrC.refl _ _, fun _ h => h⟩
end
end Go.AM


/- ctx: Lapse, Unafter, After, Deadline. -/
set_option linter.unusedVariables false
set_option linter.unusedSimpArgs false
namespace Go.AM
variable {N : Nat → Nat} {F : Nat → Option AFn}
section
variable {M L L0 : Lg} {c t mb : Nat} {osl asl : AV} {S S' : CX} {Q : AV → Lg → Prop}
/-- After -/
def Cs.aft (σ : Cs) (up : One) (prog : Int) : Cs :=
  let r := treeAdd σ.tree up.node true
  { σ with tree := r.1, who := updI σ.who r.2.1 (some (-(σ.afts.length : Int) - 1)), afts := σ.afts ++ [⟨r.2.1, prog, false⟩] }
end
end Go.AM


/- ctx: Deadline, what is asked, New; all, closed. -/
set_option linter.unusedVariables false
set_option linter.unusedSimpArgs false
namespace Go.AM
variable {N : Nat → Nat} {F : Nat → Option AFn}
section
variable {M L L0 : Lg} {c t mb : Nat} {osl asl : AV} {S S' : CX} {Q : AV → Lg → Prop}
end
end Go.AM


/- ctx: what is asked, New; all, closed. -/
set_option linter.unusedVariables false
set_option linter.unusedSimpArgs false
namespace Go.AM
variable {N : Nat → Nat} {F : Nat → Option AFn}
section
variable {M L L0 : Lg} {c t mb : Nat} {osl asl : AV} {S S' : CX} {σ : Cs} {Q : AV → Lg → Prop}
/-- a context by its number -/
def Cs.one (σ : Cs) (id : Int) : Option One := if σ.has id = true then σ.ones[id.toNat]? else none
/-- the background alone -/
def Cs.new (t : Option Nat) : Cs := (⟨t, [], [], [], fun _ => none⟩ : Cs).add { One.zero with free := true } (-1)
/-! ### closed -/
theorem OutC.ne (ho : OutC c S L) : True := trivial
end
end Go.AM


/- trees, in plain Lean: kids, what is taken out, walks. -/
set_option linter.unusedVariables false
set_option linter.unusedSimpArgs false
namespace Go.AM
/-- who hangs on one -/
def hangs (ns : List Nd) (k : Int) (i : Nat) : Bool := match ns[i]? with | some n => n.linked && decide (n.parent = k) | none => false
def kidsOf (ns : List Nd) (k : Int) : List Nat := (List.range ns.length).filter (hangs ns k)
structure TreeOk (ns : List Nd) : Prop where
  len : ns.length ≤ 1000
  kids : ∀ (k : Nat) (n : Nd), ns[k]? = some n → n.kids = (kidsOf ns (k : Int)).map fun (i : Nat) => (i : Int)
  par : ∀ (k : Nat) (n : Nd), ns[k]? = some n → n.linked = true → 0 ≤ n.parent ∧ n.parent < k
theorem kidsOf_mem {ns : List Nd} {k : Int} {i : Nat} : i ∈ kidsOf ns k ↔ ∃ n, ns[i]? = some n ∧ n.linked = true ∧ n.parent = k := by
  simp only [kidsOf, List.mem_filter, List.mem_range, hangs]
  constructor
  · rintro ⟨h1, h2⟩
    rw [List.getElem?_eq_getElem h1] at h2 ⊢
    simp at h2
    exact ⟨_, rfl, h2.1, h2.2⟩
  · rintro ⟨n, h1, h2, h3⟩
    exact ⟨(List.getElem?_eq_some_iff.1 h1).1, by simp [h1, h2, h3]⟩
theorem kidsOf_lt {ns : List Nd} (h : TreeOk ns) {k i : Nat} (hi : i ∈ kidsOf ns (k : Int)) : k < i ∧ i < ns.length := by
  obtain ⟨n, h1, h2, h3⟩ := kidsOf_mem.1 hi
  have := h.par i n h1 h2
  exact ⟨by omega, (List.getElem?_eq_some_iff.1 h1).1⟩
/-! ### added -/
theorem addKid_length (ns : List Nd) (i : Nat) (x : Int) : (addKid ns i x).length = ns.length := by
  unfold addKid; split <;> simp
theorem addKid_get (ns : List Nd) (i : Nat) (x : Int) (j : Nat) : (addKid ns i x)[j]? = (ns[j]?).map fun n => if j = i then { n with kids := n.kids ++ [x] } else n := by
  unfold addKid
  split
  · rename_i n hn
    by_cases e : i = j
    · subst e
      have hi : i < ns.length := (List.getElem?_eq_some_iff.1 hn).1
      rw [List.getElem?_set_self hi, hn]; simp
    · rw [List.getElem?_set_ne e]
      cases ns[j]? with
      | none => rfl
      | some m => simp [Ne.symm e]
  · rename_i hn
    cases e : ns[j]? with
    | none => rfl
    | some m =>
      have : j ≠ i := by rintro rfl; rw [hn] at e; cases e
      simp [this]
/-- one more, as it should be -/
structure Added (ns : List Nd) (parent : Int) (lk : Bool) (ms : List Nd) : Prop where
  len : ms.length = ns.length + 1
  old : ∀ (j : Nat) (n : Nd), ns[j]? = some n → ∃ m : Nd, ms[j]? = some m ∧ m.parent = n.parent ∧ m.linked = n.linked
  new : ∃ m : Nd, ms[ns.length]? = some m ∧ m.parent = parent ∧ m.linked = lk
  ok : TreeOk ms
theorem treeAdd_ok {ns : List Nd} (h : TreeOk ns) (hl : ns.length < 1000) {parent : Int} {linked : Bool} (hp : parent = -1 ∨ hasT ns parent = true) :
    ∃ ms, treeAdd ns parent linked = (ms, (ns.length : Int), 0) ∧ Added ns parent (linked && decide (parent ≠ -1)) ms := by
  unfold treeAdd
  have c1 : ¬ (parent ≠ -1 ∧ hasT ns parent = false) := by
    rintro ⟨h1, h2⟩
    rcases hp with h3 | h3
    · exact h1 h3
    · rw [h2] at h3; cases h3
  rw [if_neg c1, if_neg (by omega)]
  refine ⟨_, rfl, ?_⟩
  generalize hlk : (linked && decide (parent ≠ -1)) = lk
  have hpar : lk = true → ∃ p : Nat, parent = (p : Int) ∧ p < ns.length := by
    intro h1
    rw [← hlk] at h1
    simp at h1
    rcases hp with h3 | h3
    · exact absurd h3 h1.2
    · exact hasT_nat h3
  generalize hbase : (if lk = true then addKid ns parent.toNat ns.length else ns) = base
  have hblen : base.length = ns.length := by rw [← hbase]; split <;> simp [addKid_length]
  have hbget : ∀ (j : Nat) (n : Nd), ns[j]? = some n → ∃ m : Nd, base[j]? = some m ∧ m.parent = n.parent ∧ m.linked = n.linked ∧ m.kids = n.kids ++ (if lk = true ∧ parent = (j : Int) then [(ns.length : Int)] else []) := by
    intro j n hn
    rw [← hbase]
    by_cases h1 : lk = true
    · obtain ⟨p, hp1, hp2⟩ := hpar h1
      rw [if_pos h1, addKid_get, hn, hp1]
      by_cases e : j = p
      · subst e; simp [h1]
      · have : ¬ ((p : Int) = (j : Int)) := by omega
        simp [e, this]
    · rw [if_neg h1]
      exact ⟨n, hn, rfl, rfl, by simp [h1]⟩
  have hget : ∀ j, j < ns.length → (base ++ [(⟨parent, lk, []⟩ : Nd)])[j]? = base[j]? := fun j hj => List.getElem?_append_left (by omega)
  have hgetn : (base ++ [(⟨parent, lk, []⟩ : Nd)])[ns.length]? = some ⟨parent, lk, []⟩ := by
    rw [List.getElem?_append_right (by omega), hblen]; simp
  have hhang : ∀ (k : Int) (i : Nat), hangs (base ++ [(⟨parent, lk, []⟩ : Nd)]) k i = if i = ns.length then (lk && decide (parent = k)) else hangs ns k i := by
    intro k i
    unfold hangs
    by_cases e : i = ns.length
    · subst e; rw [hgetn]; simp
    · rw [if_neg e]
      by_cases hi : i < ns.length
      · rw [hget i hi]
        obtain ⟨m, h1, h2, h3, _⟩ := hbget i _ (List.getElem?_eq_getElem hi)
        rw [h1, List.getElem?_eq_getElem hi]; simp [h2, h3]
      · rw [List.getElem?_eq_none (by simp; omega), List.getElem?_eq_none (by omega)]
  have hkids : ∀ k : Int, kidsOf (base ++ [(⟨parent, lk, []⟩ : Nd)]) k = kidsOf ns k ++ (if lk = true ∧ parent = k then [ns.length] else []) := by
    intro k
    unfold kidsOf
    rw [List.length_append, hblen, List.length_singleton, List.range_succ, List.filter_append]
    congr 1
    · apply List.filter_congr
      intro i hi
      have : i ≠ ns.length := by have := List.mem_range.1 hi; omega
      rw [hhang, if_neg this]
    · simp only [List.filter_cons, List.filter_nil, hhang, if_true]
      by_cases h1 : lk = true <;> by_cases h2 : parent = k <;> simp [h1, h2]
  refine ⟨by simp [hblen], ?_, ⟨_, hgetn, rfl, rfl⟩, ⟨by simp [hblen]; omega, ?_, ?_⟩⟩
  · intro j n hn
    have hj : j < ns.length := (List.getElem?_eq_some_iff.1 hn).1
    obtain ⟨m, h1, h2, h3, _⟩ := hbget j n hn
    exact ⟨m, by rw [hget j hj]; exact h1, h2, h3⟩
  · intro k n hn
    rw [hkids]
    by_cases hk : k < ns.length
    · rw [hget k hk] at hn
      obtain ⟨m, h1, h2, h3, h4⟩ := hbget k _ (List.getElem?_eq_getElem hk)
      rw [hn] at h1; cases h1
      rw [h4, h.kids k _ (List.getElem?_eq_getElem hk), List.map_append]
      congr 1
      split <;> simp
    · have hk2 : k = ns.length := by
        have := (List.getElem?_eq_some_iff.1 hn).1
        simp [hblen] at this; omega
      subst hk2
      rw [hgetn] at hn; cases hn
      have e1 : kidsOf ns (ns.length : Int) = [] := by
        rw [List.eq_nil_iff_forall_not_mem]
        intro i hi
        have := kidsOf_lt h hi
        omega
      have e2 : ¬ (lk = true ∧ parent = (ns.length : Int)) := by
        rintro ⟨h1, h2⟩
        obtain ⟨p, h3, h4⟩ := hpar h1
        omega
      simp [e1, e2]
  · intro k n hn hl2
    by_cases hk : k < ns.length
    · rw [hget k hk] at hn
      obtain ⟨m, h1, h2, h3, h4⟩ := hbget k _ (List.getElem?_eq_getElem hk)
      rw [hn] at h1; cases h1
      rw [h2]
      exact h.par k _ (List.getElem?_eq_getElem hk) (by rw [← h3]; exact hl2)
    · have hk2 : k = ns.length := by
        have := (List.getElem?_eq_some_iff.1 hn).1
        simp [hblen] at this; omega
      subst hk2
      rw [hgetn] at hn; cases hn
      obtain ⟨p, h3, h4⟩ := hpar hl2
      simp only
      omega
/-! ### taken out -/
/-! ### walks -/
end Go.AM


/- ctx: what cancel does, as a walk down the tree; in plain Lean. -/
set_option linter.unusedVariables false
set_option linter.unusedSimpArgs false
namespace Go.AM
/-! ### one is hit -/
/-- one that may be hit -/
def LiveAt (T : List Nd) (S : CX) (i : Nat) : Prop :=
  (∃ (w : Nat) (x : One), S.σ.who i = some (w : Int) ∧ S.σ.ones[w]? = some x ∧ x.node = i ∧ x.free = false ∧ x.err = 0 ∧ (∀ a, x.c = some a → (S.χ a).recvs.length + (S.χ a).sends.length ≤ 1000000) ∧ (∀ s o, S.σ.t = some s → S.τ.one x.timer = some o → o.c = none)) ∨
  (∃ (k : Nat) (x : Aft), S.σ.who i = some (-(k : Int) - 1) ∧ k ≤ 1000 ∧ S.σ.afts[k]? = some x ∧ x.node = i ∧ kidsOf T (i : Int) = [])
theorem LiveAt.tree {T : List Nd} {S : CX} {i : Nat} (h : LiveAt T S i) (ns : List Nd) : LiveAt T (S.setTree ns) i := h
end Go.AM


/- ctx: cancel is a walk. -/
set_option linter.unusedVariables false
set_option linter.unusedSimpArgs false
namespace Go.AM
end Go.AM


/- ctx: what is so of contexts; what is made, and who is cancelled; in plain Lean. -/
set_option linter.unusedVariables false
set_option linter.unusedSimpArgs false
namespace Go.AM
structure WF (S : CX) : Prop where
  tr : TreeOk S.σ.tree
  sz : S.σ.ones.length ≤ 64 ∧ S.σ.afts.length ≤ 64
  len : S.σ.tree.length = S.σ.ones.length + S.σ.afts.length
  who1 : ∀ (i : Nat) (x : One), S.σ.ones[i]? = some x → ∃ k : Nat, x.node = (k : Int) ∧ k < S.σ.tree.length ∧ S.σ.who k = some (i : Int)
  who2 : ∀ (j : Nat) (x : Aft), S.σ.afts[j]? = some x → ∃ k : Nat, x.node = (k : Int) ∧ k < S.σ.tree.length ∧ S.σ.who k = some (-(j : Int) - 1) ∧ kidsOf S.σ.tree (k : Int) = []
  cover : ∀ k : Nat, k < S.σ.tree.length → (∃ (i : Nat) (x : One), S.σ.who k = some (i : Int) ∧ S.σ.ones[i]? = some x ∧ x.node = (k : Int)) ∨ (∃ (j : Nat) (x : Aft), S.σ.who k = some (-(j : Int) - 1) ∧ S.σ.afts[j]? = some x ∧ x.node = (k : Int))
  live : ∀ (i k : Nat) (x : One) (n : Nd), S.σ.ones[i]? = some x → x.node = (k : Int) → S.σ.tree[k]? = some n → (n.linked = true ↔ x.free = false ∧ x.err = 0)
  chs : ∀ x ∈ S.σ.ones, ∀ a, x.c = some a → (S.χ a).recvs.length + (S.χ a).sends.length ≤ 1000000
  tms : ∀ x ∈ S.σ.ones, ∀ s o, S.σ.t = some s → S.τ.one x.timer = some o → o.c = none
  tlen : S.τ.x.l.length ≤ 1000000
/-! ### what hits make of each -/
end Go.AM


/- ctx: what is made is as it should be; in plain Lean. -/
set_option linter.unusedVariables false
set_option linter.unusedSimpArgs false
namespace Go.AM
theorem Added.back {ns ms : List Nd} {parent : Int} {lk : Bool} (h : Added ns parent lk ms) {j : Nat} {m : Nd} (hm : ms[j]? = some m) : (j < ns.length ∧ ∃ n, ns[j]? = some n ∧ m.parent = n.parent ∧ m.linked = n.linked) ∨ (j = ns.length ∧ m.parent = parent ∧ m.linked = lk) := by
  have hj : j < ms.length := (List.getElem?_eq_some_iff.1 hm).1
  rw [h.len] at hj
  by_cases e : j < ns.length
  · obtain ⟨m', h1, h2, h3⟩ := h.old j _ (List.getElem?_eq_getElem e)
    rw [hm] at h1; cases h1
    exact .inl ⟨e, _, List.getElem?_eq_getElem e, h2, h3⟩
  · have : j = ns.length := by omega
    subst this
    obtain ⟨m', h1, h2, h3⟩ := h.new
    rw [hm] at h1; cases h1
    exact .inr ⟨rfl, h2, h3⟩
theorem Added.kids {ns ms : List Nd} {parent : Int} {lk : Bool} (h : Added ns parent lk ms) {k : Int} (hk : kidsOf ns k = []) (hp : parent ≠ k ∨ lk = false) : kidsOf ms k = [] := by
  rw [List.eq_nil_iff_forall_not_mem]
  intro i hi
  obtain ⟨m, h1, h2, h3⟩ := kidsOf_mem.1 hi
  rcases h.back h1 with ⟨_, n, e1, e2, e3⟩ | ⟨_, e2, e3⟩
  · have : i ∈ kidsOf ns k := kidsOf_mem.2 ⟨n, e1, by rw [← e3]; exact h2, by rw [← e2]; exact h3⟩
    rw [hk] at this; cases this
  · rcases hp with hp | hp
    · exact hp (by rw [← e2]; exact h3)
    · rw [h2] at e3; rw [hp] at e3; cases e3
theorem WF.node {S : CX} (h : WF S) {p : Nat} {up : One} (hup : S.σ.ones[p]? = some up) : hasT S.σ.tree up.node = true ∧ up.node ≠ -1 := by
  obtain ⟨k, h1, h2, _⟩ := h.who1 p up hup
  refine ⟨?_, by omega⟩
  simp [hasT, h1]; omega
theorem WF.not_aft {S : CX} (h : WF S) {p j : Nat} {up : One} {x : Aft} (hup : S.σ.ones[p]? = some up) (hx : S.σ.afts[j]? = some x) : up.node ≠ x.node := by
  intro e
  obtain ⟨k, h1, h2, h3⟩ := h.who1 p up hup
  obtain ⟨k', g1, g2, g3, _⟩ := h.who2 j x hx
  have : k = k' := by omega
  subst this
  rw [h3] at g3; simp at g3; omega
/-- a context more -/
theorem WF.add {S : CX} (h : WF S) {p : Nat} {up o : One} {χ' : Nat → Ch} (hup : S.σ.ones[p]? = some up) (hlen : S.σ.ones.length < 64) (ho : o.err = 0)
    (hχ : ∀ a n, (S.χ a).recvs.length + (S.χ a).sends.length ≤ n → (χ' a).recvs.length + (χ' a).sends.length ≤ n) (hc : ∀ a, o.c = some a → (χ' a).recvs.length + (χ' a).sends.length ≤ 1000000) :
    WF ({ S with σ := S.σ.add o up.node, χ := χ' } : CX) ∧ (S.σ.add o up.node).ones = S.σ.ones ++ [{ o with node := S.σ.tree.length, timer := -1 }] ∧ Added S.σ.tree up.node (!o.free) (S.σ.add o up.node).tree ∧ (S.σ.add o up.node).who = updI S.σ.who S.σ.tree.length (some (S.σ.ones.length : Int)) := by
  have hn := h.node hup
  have hlt : S.σ.tree.length < 1000 := by have := h.len; have := h.sz; omega
  obtain ⟨ms, e, had⟩ := treeAdd_ok (linked := !o.free) h.tr hlt (.inr hn.1)
  have hlk : ((!o.free) && decide (up.node ≠ -1)) = !o.free := by simp [hn.2]
  rw [hlk] at had
  have eo : (S.σ.add o up.node).ones = S.σ.ones ++ [{ o with node := S.σ.tree.length, timer := -1 }] := by simp [Cs.add, e]
  have et : (S.σ.add o up.node).tree = ms := by simp [Cs.add, e]
  have ew : (S.σ.add o up.node).who = updI S.σ.who S.σ.tree.length (some (S.σ.ones.length : Int)) := by simp [Cs.add, e]
  have ea : (S.σ.add o up.node).afts = S.σ.afts := rfl
  have oback : ∀ (w : Nat) (x : One), (S.σ.add o up.node).ones[w]? = some x → (w < S.σ.ones.length ∧ S.σ.ones[w]? = some x) ∨ (w = S.σ.ones.length ∧ x = { o with node := S.σ.tree.length, timer := -1 }) := by
    intro w x hx
    rw [eo] at hx
    by_cases hw : w < S.σ.ones.length
    · rw [List.getElem?_append_left hw] at hx; exact .inl ⟨hw, hx⟩
    · rw [List.getElem?_append_right (by omega)] at hx
      have hz : w - S.σ.ones.length = 0 := by
        rcases Nat.eq_zero_or_pos (w - S.σ.ones.length) with h9 | h9
        · exact h9
        · rw [List.getElem?_eq_none (by simp; omega)] at hx; cases hx
      rw [hz] at hx; simp at hx
      exact .inr ⟨by omega, hx.symm⟩
  have ofwd : ∀ (w : Nat) (x : One), S.σ.ones[w]? = some x → (S.σ.add o up.node).ones[w]? = some x := by
    intro w x hx
    have hw : w < S.σ.ones.length := (List.getElem?_eq_some_iff.1 hx).1
    rw [eo, List.getElem?_append_left hw]; exact hx
  have who_old : ∀ k : Nat, k < S.σ.tree.length → (S.σ.add o up.node).who k = S.σ.who k := by
    intro k hk
    rw [ew]; unfold updI
    rw [if_neg (by omega)]
  refine ⟨⟨by rw [et]; exact had.ok, ⟨by rw [eo]; simp; omega, h.sz.2⟩, ?_, ?_, ?_, ?_, ?_, ?_, ?_, h.tlen⟩, eo, by rw [et]; exact had, ew⟩
  · show (S.σ.add o up.node).tree.length = (S.σ.add o up.node).ones.length + S.σ.afts.length
    rw [et, had.len, eo, h.len]; simp; omega
  · intro w x hx
    show ∃ k, _ ∧ k < (S.σ.add o up.node).tree.length ∧ (S.σ.add o up.node).who k = _
    rw [et, had.len]
    rcases oback w x hx with ⟨_, h1⟩ | ⟨rfl, rfl⟩
    · obtain ⟨k, k1, k2, k3⟩ := h.who1 w x h1
      exact ⟨k, k1, by omega, by rw [who_old k k2]; exact k3⟩
    · exact ⟨S.σ.tree.length, rfl, by omega, by rw [ew]; simp [updI]⟩
  · intro w x hx
    show ∃ k, _ ∧ k < (S.σ.add o up.node).tree.length ∧ (S.σ.add o up.node).who k = _ ∧ kidsOf (S.σ.add o up.node).tree k = []
    rw [et, had.len]
    obtain ⟨k, k1, k2, k3, k4⟩ := h.who2 w x hx
    refine ⟨k, k1, by omega, by rw [who_old k k2]; exact k3, had.kids k4 (.inl ?_)⟩
    have := h.not_aft hup hx
    omega
  · intro k hk
    have hk' : k < (S.σ.add o up.node).tree.length := hk
    rw [et, had.len] at hk'
    by_cases e1 : k < S.σ.tree.length
    · rcases h.cover k e1 with ⟨w, x, c1, c2, c3⟩ | ⟨w, x, c1, c2, c3⟩
      · exact .inl ⟨w, x, by show (S.σ.add o up.node).who k = _; rw [who_old k e1]; exact c1, ofwd w x c2, c3⟩
      · exact .inr ⟨w, x, by show (S.σ.add o up.node).who k = _; rw [who_old k e1]; exact c1, c2, c3⟩
    · have : k = S.σ.tree.length := by omega
      subst this
      refine .inl ⟨S.σ.ones.length, { o with node := S.σ.tree.length, timer := -1 }, ?_, ?_, rfl⟩
      · show (S.σ.add o up.node).who _ = _
        rw [ew]; simp [updI]
      · show (S.σ.add o up.node).ones[_]? = _
        rw [eo]; simp
  · intro w k x n hx hk hn2
    have hn2' : ms[k]? = some n := by rw [← et]; exact hn2
    rcases had.back hn2' with ⟨b1, m, b2, b3, b4⟩ | ⟨b1, b3, b4⟩
    · rcases oback w x hx with ⟨_, h1⟩ | ⟨rfl, rfl⟩
      · rw [b4]; exact h.live w k x m h1 hk b2
      · simp at hk; omega
    · rcases oback w x hx with ⟨_, h1⟩ | ⟨rfl, rfl⟩
      · obtain ⟨k2, k3, k4, _⟩ := h.who1 w x h1
        omega
      · rw [b4]; simp [ho]
  · intro x hx a ha
    obtain ⟨w, hw⟩ := List.mem_iff_getElem?.1 hx
    rcases oback w x hw with ⟨_, h1⟩ | ⟨rfl, rfl⟩
    · exact hχ a _ (h.chs x (List.mem_of_getElem? h1) a ha)
    · exact hc a ha
  · intro x hx s o2 hs ho2
    obtain ⟨w, hw⟩ := List.mem_iff_getElem?.1 hx
    rcases oback w x hw with ⟨_, h1⟩ | ⟨rfl, rfl⟩
    · exact h.tms x (List.mem_of_getElem? h1) s o2 hs ho2
    · simp [Tms.one, Tms.has] at ho2
/-- an after more -/
theorem WF.aft {S : CX} (h : WF S) {p : Nat} {up : One} (hup : S.σ.ones[p]? = some up) (hlen : S.σ.afts.length < 64) (prog : Int) :
    WF ({ S with σ := S.σ.aft up prog } : CX) ∧ (S.σ.aft up prog).afts = S.σ.afts ++ [⟨S.σ.tree.length, prog, false⟩] ∧ Added S.σ.tree up.node true (S.σ.aft up prog).tree ∧ (S.σ.aft up prog).who = updI S.σ.who S.σ.tree.length (some (-(S.σ.afts.length : Int) - 1)) := by
  have hn := h.node hup
  have hlt : S.σ.tree.length < 1000 := by have := h.len; have := h.sz; omega
  obtain ⟨ms, e, had⟩ := treeAdd_ok (linked := true) h.tr hlt (.inr hn.1)
  have hlk : (true && decide (up.node ≠ -1)) = true := by simp [hn.2]
  rw [hlk] at had
  have eo : (S.σ.aft up prog).afts = S.σ.afts ++ [⟨S.σ.tree.length, prog, false⟩] := by simp [Cs.aft, e]
  have et : (S.σ.aft up prog).tree = ms := by simp [Cs.aft, e]
  have ew : (S.σ.aft up prog).who = updI S.σ.who S.σ.tree.length (some (-(S.σ.afts.length : Int) - 1)) := by simp [Cs.aft, e]
  have ea : (S.σ.aft up prog).ones = S.σ.ones := rfl
  have oback : ∀ (w : Nat) (x : Aft), (S.σ.aft up prog).afts[w]? = some x → (w < S.σ.afts.length ∧ S.σ.afts[w]? = some x) ∨ (w = S.σ.afts.length ∧ x = ⟨S.σ.tree.length, prog, false⟩) := by
    intro w x hx
    rw [eo] at hx
    by_cases hw : w < S.σ.afts.length
    · rw [List.getElem?_append_left hw] at hx; exact .inl ⟨hw, hx⟩
    · rw [List.getElem?_append_right (by omega)] at hx
      have hz : w - S.σ.afts.length = 0 := by
        rcases Nat.eq_zero_or_pos (w - S.σ.afts.length) with h9 | h9
        · exact h9
        · rw [List.getElem?_eq_none (by simp; omega)] at hx; cases hx
      rw [hz] at hx; simp at hx
      exact .inr ⟨by omega, hx.symm⟩
  have ofwd : ∀ (w : Nat) (x : Aft), S.σ.afts[w]? = some x → (S.σ.aft up prog).afts[w]? = some x := by
    intro w x hx
    have hw : w < S.σ.afts.length := (List.getElem?_eq_some_iff.1 hx).1
    rw [eo, List.getElem?_append_left hw]; exact hx
  have who_old : ∀ k : Nat, k < S.σ.tree.length → (S.σ.aft up prog).who k = S.σ.who k := by
    intro k hk
    rw [ew]; unfold updI
    rw [if_neg (by omega)]
  have kn : kidsOf S.σ.tree (S.σ.tree.length : Int) = [] := by
    rw [List.eq_nil_iff_forall_not_mem]
    intro i hi
    have := kidsOf_lt h.tr hi
    omega
  obtain ⟨kp, hkp1, hkp2, _⟩ := h.who1 p up hup
  refine ⟨⟨by rw [et]; exact had.ok, ⟨h.sz.1, by rw [eo]; simp; omega⟩, ?_, ?_, ?_, ?_, ?_, h.chs, h.tms, h.tlen⟩, eo, by rw [et]; exact had, ew⟩
  · show (S.σ.aft up prog).tree.length = S.σ.ones.length + (S.σ.aft up prog).afts.length
    rw [et, had.len, eo, h.len]; simp; omega
  · intro w x hx
    show ∃ k, _ ∧ k < (S.σ.aft up prog).tree.length ∧ (S.σ.aft up prog).who k = _
    rw [et, had.len]
    obtain ⟨k, k1, k2, k3⟩ := h.who1 w x hx
    exact ⟨k, k1, by omega, by rw [who_old k k2]; exact k3⟩
  · intro w x hx
    show ∃ k, _ ∧ k < (S.σ.aft up prog).tree.length ∧ (S.σ.aft up prog).who k = _ ∧ kidsOf (S.σ.aft up prog).tree k = []
    rw [et, had.len]
    rcases oback w x hx with ⟨_, h1⟩ | ⟨rfl, rfl⟩
    · obtain ⟨k, k1, k2, k3, k4⟩ := h.who2 w x h1
      refine ⟨k, k1, by omega, by rw [who_old k k2]; exact k3, had.kids k4 (.inl ?_)⟩
      have := h.not_aft hup h1
      omega
    · exact ⟨S.σ.tree.length, rfl, by omega, by rw [ew]; simp [updI], had.kids kn (.inl (by omega))⟩
  · intro k hk
    have hk' : k < (S.σ.aft up prog).tree.length := hk
    rw [et, had.len] at hk'
    by_cases e1 : k < S.σ.tree.length
    · rcases h.cover k e1 with ⟨w, x, c1, c2, c3⟩ | ⟨w, x, c1, c2, c3⟩
      · exact .inl ⟨w, x, by show (S.σ.aft up prog).who k = _; rw [who_old k e1]; exact c1, c2, c3⟩
      · exact .inr ⟨w, x, by show (S.σ.aft up prog).who k = _; rw [who_old k e1]; exact c1, ofwd w x c2, c3⟩
    · have : k = S.σ.tree.length := by omega
      subst this
      refine .inr ⟨S.σ.afts.length, ⟨S.σ.tree.length, prog, false⟩, ?_, ?_, rfl⟩
      · show (S.σ.aft up prog).who _ = _
        rw [ew]; simp [updI]
      · show (S.σ.aft up prog).afts[_]? = _
        rw [eo]; simp
  · intro w k x n hx hk hn2
    have hn2' : ms[k]? = some n := by rw [← et]; exact hn2
    rcases had.back hn2' with ⟨b1, m, b2, b3, b4⟩ | ⟨b1, b3, b4⟩
    · rw [b4]; exact h.live w k x m hx hk b2
    · obtain ⟨k2, k3, k4, _⟩ := h.who1 w x hx
      omega
end Go.AM


/- ctx: what a walk tells; what laws keep of memory. -/
set_option linter.unusedVariables false
set_option linter.unusedSimpArgs false
namespace Go.AM
/-! ### what laws keep of memory -/
section
variable {c : Nat} {S S' : CX} {L L2 : Lg}
theorem CDone.raw (h : CDone c S S' L L2) (e : L c = some (.abs (CtxP c S.σ))) (ho : OutC c S L) {r : Nat} {x : AB} (hr : L r = some (.raw x)) : L2 r = some (.raw x) := by
  rw [h.fr r (by rw [hr]; simp) (by rintro rfl; rw [hr] at e; cases e) (fun h9 => by have := (ho.tms r h9).2; rw [hr] at this; cases this) (fun o h8 h9 => by have := (ho.chs o h8 r h9).2.2; rw [hr] at this; cases this)]
  exact hr
/-- all raw blocks are kept -/
def RawK (L L2 : Lg) : Prop := ∀ r x, L r = some (.raw x) → L2 r = some (.raw x)
theorem RawK.refl (L : Lg) : RawK L L := fun _ _ h => h
theorem RawK.trans {L3 : Lg} (h : RawK L L2) (k : RawK L2 L3) : RawK L L3 := fun r x hr => k r x (h r x hr)
theorem RawK.osl (h : RawK L L2) {v : AV} {cs : List AV} {n size : Nat} (o : OSl L v cs n size) : OSl L2 v cs n size := o.mono fun b hb => by rw [o.block hb]; exact h _ _ (o.block hb)
theorem RawK.put (L : Lg) {b : Nat} (hb : L b = none) (d : LC) : RawK L (L.put b d) := fun r x hr => by
  rw [Lg.put_ne _ _ _ (by rintro rfl; rw [hb] at hr; cases hr)]; exact hr
end
theorem OutC.chan {c : Nat} {S : CX} {L : Lg} (ho : OutC c S L) {a : Nat} (hm : ∃ o ∈ S.σ.ones, o.c = some a) (y : Ch) : OutC c ({ S with χ := updC S.χ a y } : CX) (L.put a (.abs (ChanP a y))) := by
  obtain ⟨o1, h1, h2⟩ := hm
  have hs := ho.chs o1 h1 a h2
  refine ⟨fun s ht => ?_, fun o2 ho2 a2 ha2 => ?_⟩
  · have := ho.tms s ht
    refine ⟨this.1, ?_⟩
    rw [Lg.put_ne]; exact this.2
    rintro rfl; exact hs.2.1 ht
  · have := ho.chs o2 ho2 a2 ha2
    refine ⟨this.1, this.2.1, ?_⟩
    by_cases e : a2 = a
    · subst e; rw [Lg.put_same]; simp [updC]
    · rw [Lg.put_ne _ _ _ e]; simp [updC, e, this.2.2]
/-- a row of slices, read -/
theorem ResP.get {L0 K : Lg} {v1 v2 : AV} {ps : List (Lap × AV)} {sts : List (Int × Int)} {F : Nat → Option AFn} (h : ResP L0 K v1 v2 ps sts) {i : Nat} {p : Lap × AV} (hi : ps[i]? = some p) : ∃ b, K b = some (.raw (.cells (flatc lapc ps))) ∧
    (∀ (X : Lg) (k : AV → Lg → Prop), wpOp F (.iad 4) [v1, .i .i64 i] X k = k (.p (some (b, i * 4))) X) ∧ (∀ X : Lg, X b = K b → ∀ j, j < 4 → rdL X (b, i * 4 + j) none = (lapc p)[j]?) := by
  have hl : i < ps.length := (List.getElem?_eq_some_iff.1 hi).1
  obtain ⟨b, h1, h2, h3, h4⟩ := h.o1.iad (F := F) (x := (i : Int)) (by omega) (by omega)
  refine ⟨b, h2, fun X k => by simpa using h4 X k .i64, fun X hX j hj => ?_⟩
  rw [rdL_cell (by rw [hX]; exact h2), flatc_get (k := 4) (fun _ => rfl) ps i j p hi hj]
end Go.AM


/- what laws do with slices of their own. -/
set_option linter.unusedVariables false
set_option linter.unusedSimpArgs false
namespace Go.AM
variable {N : Nat → Nat} {F : Nat → Option AFn}
/-- all that was is there, but one block -/
def KeepE (o : Option Nat) (K K1 : Lg) : Prop := ∀ r d, K r = some d → o ≠ some r → K1 r = some d
theorem KeepE.osl {o : Option Nat} {K K1 : Lg} (h : KeepE o K K1) {v : AV} {cs : List AV} {n size : Nat} (s : OSl K v cs n size) (hn : ∀ b, slB v = some b → o ≠ some b) : OSl K1 v cs n size := s.mono fun b hb => by rw [s.block hb]; exact h b _ (s.block hb) (hn b hb)
end Go.AM


/- The code of functions, with names for their numbers, and what is left of its weakest preconditions. PRINTED by our printgen.py. -/
set_option linter.unusedVariables false
set_option maxRecDepth 100000
namespace Go.AM
end Go.AM

/- lapse: views, in plain; code, hangs, over, Sound, Behind. -/
set_option linter.unusedVariables false
set_option linter.unusedSimpArgs false
namespace Go.AM
variable {N : Nat → Nat} {F : Nat → Option AFn}
/-- all is there still -/
def SubL (K K' : Lg) : Prop := ∀ r d, K r = some d → K' r = some d
theorem SubL.refl (K : Lg) : SubL K K := fun _ _ h => h
theorem SubL.trans {A B C : Lg} (h : SubL A B) (k : SubL B C) : SubL A C := fun r d e => k r d (h r d e)
theorem SubL.put {K K' : Lg} (h : SubL K K') {b : Nat} (hb : K' b = none) (x : LC) : SubL K (K'.put b x) := fun r d e => by
  have := h r d e
  rw [Lg.put_ne]; exact this
  rintro rfl; rw [hb] at this; cases this
theorem SubL.sees {K K' : Lg} (h : SubL K K') : Sees K' K := Sees.drop h
structure View where
  par : Int
  link : Bool
  err : Int
  cause : Int
  dl : Int
  has : Bool
instance : Inhabited View := ⟨⟨0, false, 0, 0, 0, false⟩⟩
def vcl (v : View) : List AV := [.i .i64 v.par, .b v.link, .i .i64 v.err, .i .i64 v.cause, .i .i64 v.dl, .b v.has]
def View.code (v : View) : Bool := if v.err = 0 then decide (v.cause = 0) else if v.err = 1 then decide (1 ≤ v.cause) else if v.err = 2 then decide (1 ≤ v.cause) else false
def View.hangs (v up : View) : Bool := (decide (up.err = 0) || !decide (v.err = 0)) && (!up.has || (v.has && decide (v.dl ≤ up.dl)))
/-- a slice of views that is read -/
def SlR (K : Lg) (v : AV) (l : List View) : Prop := ∃ a cap ex, v = .sl a l.length cap ex ∧ (l = [] ∨ ∃ b off cs, a = some (b, off) ∧ (K b = some (.raw (.cells cs)) ∨ K b = some (.raw (.ro cs))) ∧ ∀ (i : Nat) (x : View), l[i]? = some x → off + i * 6 + 6 ≤ cs.length ∧ (cs.drop (off + i * 6)).take 6 = vcl x)
theorem SlR.len {K : Lg} {v : AV} {l : List View} (h : SlR K v l) (X : Lg) (k : AV → Lg → Prop) : wpOp F .lenSl [v] X k = k (.i .i64 l.length) X := by
  obtain ⟨a, cap, ex, rfl, _⟩ := h
  simp
theorem SlR.mono {K K' : Lg} {v : AV} {l : List View} (h : SlR K v l) (e : SubL K K') : SlR K' v l := by
  obtain ⟨a, cap, ex, rfl, h1 | ⟨b, off, cs, rfl, h2, h3⟩⟩ := h
  · exact ⟨_, _, _, rfl, .inl h1⟩
  · exact ⟨_, _, _, rfl, .inr ⟨b, off, cs, rfl, h2.imp (e _ _) (e _ _), h3⟩⟩
theorem drop_get {cs : List AV} {o n : Nat} {f : List AV} (h : (cs.drop o).take n = f) {j : Nat} (hj : j < n) : cs[o + j]? = f[j]? := by
  rw [← h, List.getElem?_take_of_lt hj, List.getElem?_drop]
theorem SlR.get {K : Lg} {v : AV} {l : List View} (h : SlR K v l) {i : Nat} {x : View} (hi : l[i]? = some x) : ∃ b o, (∀ (X : Lg) (k : AV → Lg → Prop), wpOp F (.iad 6) [v, .i .i64 i] X k = k (.p (some (b, o))) X) ∧
    (∀ X : Lg, SubL K X → (∀ j, j < 6 → rdL X (b, o + j) none = (vcl x)[j]?) ∧ rdL X (b, o) (some 6) = some (.agg (vcl x))) ∧ K b ≠ none := by
  obtain ⟨a, cap, ex, rfl, h1 | ⟨b, off, cs, rfl, h2, h3⟩⟩ := h
  · subst h1; simp at hi
  · have hl := (List.getElem?_eq_some_iff.1 hi).1
    obtain ⟨h4, h5⟩ := h3 i x hi
    refine ⟨b, off + i * 6, fun X k => ?_, fun X hX => ?_, ?_⟩
    · rw [wp_iad F X k 6 b off l.length cap ex .i64 i (by omega) (by omega)]
      simp
    · rcases h2 with h2 | h2
      · refine ⟨fun j hj => ?_, ?_⟩
        · rw [rdL_cell (hX _ _ h2), drop_get h5 hj]
        · rw [rdL_cells (hX _ _ h2) h4, h5]
      · refine ⟨fun j hj => ?_, ?_⟩
        · rw [rdL_ro (hX _ _ h2), drop_get h5 hj]
        · rw [rdL_ros (hX _ _ h2) h4, h5]
    · rcases h2 with h2 | h2 <;> rw [h2] <;> simp
end Go.AM


/- script: entries as bytes. -/
set_option linter.unusedVariables false
set_option linter.unusedSimpArgs false
namespace Go.AM
variable {N : Nat → Nat} {F : Nat → Option AFn}
/-- a slice that is read -/
def SlG {α : Type} (f : α → List AV) (z : Nat) (K : Lg) (v : AV) (l : List α) : Prop := ∃ a cap ex, v = .sl a l.length cap ex ∧ l.length ≤ cap ∧ (ex = 0 ∨ ex = z) ∧ ((l = [] ∧ a = none) ∨ ∃ b off cs, a = some (b, off) ∧ (K b = some (.raw (.cells cs)) ∨ K b = some (.raw (.ro cs))) ∧ off + l.length * z ≤ cs.length ∧ ∀ (i : Nat) (x : α), l[i]? = some x → (cs.drop (off + i * z)).take z = f x)
section
variable {α : Type} {f : α → List AV} {z : Nat}
theorem SlG.len {K : Lg} {v : AV} {l : List α} (h : SlG f z K v l) (X : Lg) (k : AV → Lg → Prop) : wpOp F .lenSl [v] X k = k (.i .i64 l.length) X := by
  obtain ⟨a, cap, ex, rfl, _⟩ := h
  simp
theorem SlG.mono {K K' : Lg} {v : AV} {l : List α} (h : SlG f z K v l) (e : SubL K K') : SlG f z K' v l := by
  obtain ⟨a, cap, ex, rfl, hc, he, h1 | ⟨b, off, cs, rfl, h2, h3⟩⟩ := h
  · exact ⟨_, _, _, rfl, hc, he, .inl h1⟩
  · exact ⟨_, _, _, rfl, hc, he, .inr ⟨b, off, cs, rfl, h2.imp (e _ _) (e _ _), h3⟩⟩
theorem row_le {i n z off m : Nat} (hi : i < n) (h : off + n * z ≤ m) : off + i * z + z ≤ m := by
  have : i * z + z ≤ n * z := by rw [← Nat.succ_mul]; exact Nat.mul_le_mul_right _ hi
  omega
theorem SlG.get {K : Lg} {v : AV} {l : List α} (h : SlG f z K v l) {i : Nat} {x : α} (hi : l[i]? = some x) : ∃ b o, (∀ (X : Lg) (k : AV → Lg → Prop), wpOp F (.iad z) [v, .i .i64 i] X k = k (.p (some (b, o))) X) ∧
    (∀ X : Lg, SubL K X → (∀ j, j < z → rdL X (b, o + j) none = (f x)[j]?) ∧ rdL X (b, o) (some z) = some (.agg (f x))) ∧ K b ≠ none := by
  obtain ⟨a, cap, ex, rfl, hc, he, ⟨h1, _⟩ | ⟨b, off, cs, rfl, h2, h6, h3⟩⟩ := h
  · subst h1; simp at hi
  · have hl := (List.getElem?_eq_some_iff.1 hi).1
    have h4 := row_le hl h6
    have h5 := h3 i x hi
    refine ⟨b, off + i * z, fun X k => ?_, fun X hX => ?_, ?_⟩
    · rw [wp_iad F X k z b off l.length cap ex .i64 i (by omega) (by omega)]
      simp
    · rcases h2 with h2 | h2
      · refine ⟨fun j hj => ?_, ?_⟩
        · rw [rdL_cell (hX _ _ h2), drop_get h5 hj]
        · rw [rdL_cells (hX _ _ h2) h4, h5]
      · refine ⟨fun j hj => ?_, ?_⟩
        · rw [rdL_ro (hX _ _ h2), drop_get h5 hj]
        · rw [rdL_ros (hX _ _ h2) h4, h5]
    · rcases h2 with h2 | h2 <;> rw [h2] <;> simp
/-- all its cells, at once -/
theorem SlG.all {K : Lg} {v : AV} {l : List α} (hf : ∀ x, (f x).length = z) (h : SlG f z K v l) : ∃ a cap ex, v = .sl a l.length cap ex ∧ ∀ X : Lg, SubL K X → rdCellsL X a (l.length * z) = some (flatc f l) := by
  obtain ⟨a, cap, ex, rfl, hc, he, ⟨h1, rfl⟩ | ⟨b, off, cs, rfl, h2, h6, h3⟩⟩ := h
  · subst h1
    exact ⟨none, cap, ex, rfl, fun X _ => by simp [rdCellsL, flatc]⟩
  · refine ⟨_, cap, ex, rfl, fun X hX => ?_⟩
    have hcells : ∀ (l : List α) (o : Nat), o + l.length * z ≤ cs.length → (∀ (i : Nat) (x : α), l[i]? = some x → (cs.drop (o + i * z)).take z = f x) → (cs.drop o).take (l.length * z) = flatc f l := by
      intro l
      induction l with
      | nil => intro o _ _; simp [flatc]
      | cons x r ih =>
        intro o ho hg
        have h0 := hg 0 x rfl
        have e1 : (x :: r).length * z = z + r.length * z := by rw [List.length_cons, Nat.add_mul, Nat.one_mul]; omega
        rw [e1] at ho ⊢
        rw [List.take_add, List.drop_drop]
        rw [ih (o + z) (by omega) (fun i y hy => by
          have := hg (i + 1) y hy
          have e2 : o + (i + 1) * z = o + z + i * z := by rw [Nat.add_mul]; omega
          rw [e2] at this; exact this)]
        simp only [Nat.zero_mul, Nat.add_zero] at h0
        rw [h0]; rfl
    have hcut : cut cs off (l.length * z) = some (flatc f l) := by
      simp [cut, ble_nat, h6, hcells l off h6 h3]
    rcases h2 with h2 | h2 <;> simp [rdCellsL, hX _ _ h2, AB.read, hcut]
end
/-! ### bytes -/
/-- a number's byte -/
def bt (n : Int) (i : Nat) : Int := wr .u8 ((wr .u64 n).fdiv (2 ^ (8 * i)))
def b8 (n : Int) : List Int := (List.range 8).map (bt n)
abbrev Ent := Int × Int × Int
def e3 (x : Ent) : List AV := [.i .i64 x.1, .i .i64 x.2.1, .i .i64 x.2.2]
end Go.AM


/- script: bytes as numbers; in plain Lean. -/
set_option linter.unusedVariables false
set_option linter.unusedSimpArgs false
namespace Go.AM
def isB (b : Int) : Prop := 0 ≤ b ∧ b < 256
end Go.AM


/- script: bytes as entries. -/
set_option linter.unusedVariables false
set_option linter.unusedSimpArgs false
namespace Go.AM
variable {N : Nat → Nat} {F : Nat → Option AFn}
end Go.AM


/- script: what is written is read; in plain Lean. -/
set_option linter.unusedVariables false
set_option linter.unusedSimpArgs false
namespace Go.AM
def in64 (n : Int) : Prop := -9223372036854775808 ≤ n ∧ n < 9223372036854775808
def inE (x : Ent) : Prop := in64 x.1 ∧ in64 x.2.1 ∧ in64 x.2.2
end Go.AM


/- rows: a slice of views among the arguments. -/
set_option linter.unusedVariables false
set_option linter.unusedSimpArgs false
namespace Go.AM
open Go.RowKit
end Go.AM


/- script: same, bytes, odd; rows with entries, with bytes. -/
set_option linter.unusedVariables false
set_option linter.unusedSimpArgs false
namespace Go.AM
open Go.RowKit
variable {N : Nat → Nat} {F : Nat → Option AFn}
/-! ### rows -/
def REnt := { x : Ent // inE x }
instance : Inhabited REnt := ⟨⟨(0, 0, 0), by unfold inE in64; simp⟩⟩
def RByt := { x : Int // isB x }
instance : Inhabited RByt := ⟨⟨0, by unfold isB; simp⟩⟩
end Go.AM


/- slices that begin as an empty literal. -/
set_option linter.unusedVariables false
set_option linter.unusedSimpArgs false
namespace Go.AM
variable {N : Nat → Nat} {F : Nat → Option AFn}
/-- a slice of one's own, or an empty one with a block -/
def OSe (K : Lg) (v : AV) (cs : List AV) (n size : Nat) : Prop := OSl K v cs n size ∨ (n = 0 ∧ cs = [] ∧ ∃ b, v = .sl (some (b, 0)) 0 0 0 ∧ K b = some (.raw (.cells [])))
theorem OSe.block {K : Lg} {v : AV} {cs : List AV} {n size : Nat} (h : OSe K v cs n size) {b : Nat} (e : slB v = some b) : K b = some (.raw (.cells cs)) := by
  rcases h with h | ⟨_, rfl, b', rfl, h⟩
  · exact h.block e
  · simp [slB] at e; subst e; exact h
/-- a slice is put behind one's own -/
theorem OSe.appF {α : Type} {f : α → List AV} {z bytes n : Nat} {K : Lg} {v src : AV} {cs : List AV} {l : List α} (hf : ∀ x, (f x).length = z) (h1 : (flatc f l).all AV.one = true) (hz : 0 < z) (h : OSe K v cs n z) (hs : SlG f z K src l) (hb : (n + l.length) * bytes ≤ 70368744177664)
    {k : AV → Lg → Prop} (hk : ∀ (v' : AV) (K1 : Lg), OSe K1 v' (cs ++ flatc f l) (n + l.length) z → KeepE (slB v) K K1 → (∀ b, slB v' = some b → K b = none ∨ slB v = some b) → k v' K1) : wpOp F (.app z bytes) [v, src] K k := by
  obtain ⟨a, cap, ex, rfl, hall⟩ := hs.all hf
  have hr := hall K (SubL.refl K)
  rw [wp_app]
  by_cases h0 : l.length = 0
  · have hl := List.length_eq_zero_iff.1 h0
    subst hl
    have same : k v K := hk v K (by simpa [flatc] using h) (fun r d hr _ => hr) (fun b hb => .inr hb)
    simp only [List.length_nil, Nat.zero_mul] at hr
    rcases h with h | ⟨_, _, b, rfl, _⟩
    · exact h.app0 rfl (by simpa [flatc] using hr) same
    · simp only [appW, List.length_nil, Nat.zero_mul, hr, appL]
      simpa [flatc] using same
  · have hlen := flatc_length (f := f) (k := z) hf l
    rcases h with h | ⟨rfl, rfl, b, rfl, hb'⟩
    · refine h.app (m := l.length) hz rfl (by omega) hr hlen h1 hb ?_
      intro b K1 g hO
      refine hk _ _ (.inl hO) ?_ ?_
      · intro r d hr hne
        have r2 : r ≠ b := by rintro rfl; rw [g.fresh] at hr; cases hr
        rw [g.same r r2 hne]; exact hr
      · intro q hq; simp [slB] at hq; subst hq; exact .inl g.fresh
    · refine appW_grow (L' := K) (old := []) hr h1 (by omega) hb (by simp [rdCellsL, hb', AB.read, cut, ble_nat]) (by simp [goneL]) ?_
      intro q hq
      refine hk _ _ (.inl (.inr ⟨q, z, by omega, rfl, .inr rfl, Lg.put_same _ _ _, by simp [hlen]⟩)) ?_ ?_
      · intro r d hr _
        rw [Lg.put_ne]; exact hr
        rintro rfl; rw [hq] at hr; cases hr
      · intro q' hq'; simp [slB] at hq'; subst hq'; exact .inl hq
theorem OSe.app {α : Type} {f : α → List AV} {z bytes n : Nat} {K : Lg} {v src : AV} {cs : List AV} {l : List α} (hf : ∀ x, (f x).length = z) (h1 : ∀ x, (f x).all AV.one = true) (hz : 0 < z) (h : OSe K v cs n z) (hs : SlG f z K src l) (hb : (n + l.length) * bytes ≤ 70368744177664)
    {k : AV → Lg → Prop} (hk : ∀ (v' : AV) (K1 : Lg), OSe K1 v' (cs ++ flatc f l) (n + l.length) z → KeepE (slB v) K K1 → (∀ b, slB v' = some b → K b = none ∨ slB v = some b) → k v' K1) : wpOp F (.app z bytes) [v, src] K k :=
  OSe.appF hf (flatc_one h1 l) hz h hs hb hk
end Go.AM


/- a row's arguments: slices whose cells hold slices. -/
set_option linter.unusedVariables false
namespace Go.AM
open Go.RowKit
/-- a slice that is read: what is in it, by f -/
def SlN {X : Type} (f : X → List AV) (K : Lg) (v : AV) (l : List X) : Prop := ∃ a cap, v = .sl a l.length cap 0 ∧ l.length ≤ cap ∧ ((l = [] ∧ (a = none → cap = 0)) ∨ ∃ b, a = some (b, 0) ∧ K b = some (.raw (.ro (l.flatMap f))))
theorem SlN.mono {X : Type} {f : X → List AV} {K K' : Lg} {v : AV} {l : List X} (h : SlN f K v l) (e : Ext2 K K') : SlN f K' v l := by
  obtain ⟨a, cap, h1, h2, h3⟩ := h
  exact ⟨a, cap, h1, h2, h3.imp id fun ⟨b, h4, h5⟩ => ⟨b, h4, e b _ h5⟩⟩
theorem cells_plain {w : World} {a : Addr} {z : Nat} {cs : List Value} (h : w.cells? 0 a z = some cs) (hz : 0 < z) : a.spot = none ∧ ∃ cur t fr, w.heap[a.block]? = some (.cells cur t fr) := by
  unfold World.cells? at h
  rw [if_pos (Nat.zero_le _)] at h
  have := mapM_some_get h 0 0 (by simp [hz])
  have h1 : w.cell? (a.add 0) = some (cs[0]'(by have := mapM_some_length h; simp at this; omega)) := by
    rw [this]; exact List.getElem?_eq_getElem _
  have h2 : a.add 0 = a := rfl
  rw [h2] at h1
  unfold World.cell? at h1
  split at h1
  · rename_i cur t fr hh
    split at h1
    · cases h1
    · rename_i hs
      refine ⟨by cases hsp : a.spot with | none => rfl | some y => rw [hsp] at hs; simp at hs, cur, t, fr, hh⟩
  · cases h1
/-- a slice of what is open by f, which may open more -/
theorem AR.nest {X : Type} (f : X → List AV) (R : Lg → X → Prop) (Rm : ∀ L L' x, Ext2 L L' → R L x → R L' x) {z : Nat} {H : Type} {enc : TypeId × Value → H} {P : Program} {W : World} {S : St} {β : Bt} {L : Lg} (h : AR W S β L) {t e : TypeId} {cs : List Value} {fuel : Nat} {y : DataW H × List MemPlace} (ht : P.underlying t = some (.slice e)) (hc : P.cellsOf e = z) (hz : 0 < z) (hfz : ∀ x, (f x).length = z)
    (hX : ∀ S β L, AR W S β L → ∀ n cs y, DataW.trod enc P W 0 (fun _ => true) true n e cs = some y → ∃ x S' β' L', AR W S' β' L' ∧ Ext β β' ∧ Ext2 L L' ∧ VRs β' (f x) cs ∧ R L' x)
    (hd : DataW.trod enc P W 0 (fun _ => true) true fuel t cs = some y) :
    ∃ v a l S' β' L', cs = [v] ∧ AR W S' β' L' ∧ Ext β β' ∧ Ext2 L L' ∧ VR β' a v ∧ SlN f L' a l ∧ ∀ x, x ∈ l → R L' x := by
  rcases DataW.trod_slice ht hd with ⟨h0, _⟩ | ⟨a, len, cap, elems, rest, n, _, h0, _, hb, hl, hm, hlen, hel, hre, _⟩
  · exact ⟨_, .sl none 0 0 0, [], S, β, L, h0, h, Ext.refl β, Ext2.refl L, .sln, ⟨none, 0, rfl, Nat.le_refl _, .inl ⟨rfl, fun _ => rfl⟩⟩, fun x hx => by cases hx⟩
  · rw [hc] at hel
    obtain ⟨hrl, hre⟩ := hre rfl
    rw [hc] at hre
    by_cases hcap : cap = 0
    · have hl0 : len = 0 := by omega
      subst hcap hl0
      refine ⟨_, .sl (some (S.nx, 0)) 0 0 0, [], _, _, L, h0, h.hole (0, 0, 0), h.ext _, Ext2.refl L, .sl (b := 0) (o := 0) (z := 0) (by simp [Bt.put]) (Nat.le_refl _) (Nat.le_refl _) (fun _ => rfl) (fun h9 => absurd rfl h9) (.inl rfl), ⟨_, 0, rfl, Nat.le_refl _, .inl ⟨rfl, fun h9 => by cases h9⟩⟩, fun x hx => by cases hx⟩
    · -- the address is a plain one
      have hone : ∃ cs0, W.cells? 0 a z = some cs0 := by
        by_cases hl0 : len = 0
        · have h1 := hre 0 (by omega)
          have h2 : ∃ y, rest[0]? = some y := ⟨_, List.getElem?_eq_getElem (by omega)⟩
          obtain ⟨y, hy⟩ := h2
          rw [hy, Option.bind_eq_some_iff] at h1
          obtain ⟨cs0, hcs, _⟩ := h1
          subst hl0
          simp only [Nat.add_zero, Nat.zero_mul] at hcs
          exact ⟨cs0, hcs⟩
        · have h1 := hel 0 (by omega)
          have h2 : ∃ y, elems[0]? = some y := ⟨_, List.getElem?_eq_getElem (by omega)⟩
          obtain ⟨y, hy⟩ := h2
          rw [hy, Option.bind_eq_some_iff] at h1
          obtain ⟨cs0, hcs, _⟩ := h1
          simp only [Nat.zero_mul] at hcs
          exact ⟨cs0, hcs⟩
      obtain ⟨cs0, hcs0⟩ := hone
      obtain ⟨hsp, cur, tt, fr, hh⟩ := cells_plain hcs0 hz
      obtain ⟨ab, aoff, asp⟩ := a
      simp only at hsp hh
      subst hsp
      -- element by element
      have step : ∀ i, i ≤ len → ∃ (l : List X) (S' : St) (β' : Bt) (L' : Lg), l.length = i ∧ AR W S' β' L' ∧ Ext β β' ∧ Ext2 L L' ∧ (∀ x, x ∈ l → R L' x) ∧
          ∀ (j : Nat) (x : X), l[j]? = some x → ∃ cj, W.cells? 0 (Addr.add ⟨ab, aoff, none⟩ (j * z)) z = some cj ∧ VRs β' (f x) cj := by
        intro i
        induction i with
        | zero => exact fun _ => ⟨[], S, β, L, rfl, h, Ext.refl β, Ext2.refl L, (fun x hx => by cases hx), (fun j x hx => by simp at hx)⟩
        | succ i ih =>
          intro hi
          obtain ⟨l, S1, β1, L1, g1, g2, g3, g4, g5, g6⟩ := ih (by omega)
          have h1 := hel i (by omega)
          have h2 : ∃ y, elems[i]? = some y := ⟨_, List.getElem?_eq_getElem (by omega)⟩
          obtain ⟨y, hy⟩ := h2
          rw [hy, Option.bind_eq_some_iff] at h1
          obtain ⟨ci, hci, hty⟩ := h1
          obtain ⟨x, S2, β2, L2, k1, k2, k3, k4, k5⟩ := hX S1 β1 L1 g2 _ _ _ hty
          refine ⟨l ++ [x], S2, β2, L2, by simp [g1], k1, g3.trans k2, g4.trans k3, ?_, ?_⟩
          · intro u hu
            rcases List.mem_append.1 hu with hu | hu
            · exact Rm _ _ _ k3 (g5 u hu)
            · simp at hu; rw [hu]; exact k5
          · intro j u hu
            by_cases hj : j < l.length
            · rw [List.getElem?_append_left hj] at hu
              obtain ⟨cj, q1, q2⟩ := g6 j u hu
              exact ⟨cj, q1, q2.mono k2⟩
            · rw [List.getElem?_append_right (by omega)] at hu
              have hj0 : j - l.length = 0 := by
                have := (List.getElem?_eq_some_iff.1 hu).1
                simp at this; omega
              rw [hj0] at hu
              simp only [List.getElem?_cons_zero, Option.some.injEq] at hu
              subst hu
              have : j = i := by omega
              subst this
              exact ⟨ci, hci, k4⟩
      obtain ⟨l, S1, β1, L1, g1, g2, g3, g4, g5, g6⟩ := step len (Nat.le_refl _)
      have hcr : CellsR β1 (l.flatMap f) aoff cur := by
        intro k u hu
        obtain ⟨i, j, x, h1, h2, h3⟩ := flat_get l (fun x _ => hfz x) k u hu
        obtain ⟨ci, hci, hv⟩ := g6 i x h1
        obtain ⟨w, hw, hr⟩ := hv.get h2
        refine ⟨w, ?_, hr⟩
        unfold World.cells? at hci
        rw [if_pos (Nat.zero_le _)] at hci
        have hjz : j < z := by have := (List.getElem?_eq_some_iff.1 h2).1; rw [hfz] at this; exact this
        have := mapM_some_get hci j j (by simp [hjz])
        rw [hw, Go.WideShapes.add_plain, Go.WideShapes.add_plain] at this
        simp only [World.cell?, hh, Option.isSome_none, Bool.false_eq_true, if_false] at this
        rw [h3, ← this, Nat.add_assoc]
      refine ⟨_, .sl (some (S1.nx, 0)) len cap 0, l, _, _, _, h0, g2.slice hh hcr, g3.trans (g2.ext _), g4.trans ((Ext2.refl L1).put (g2.mod.fresh (Nat.le_refl _)) _), .sl (b := ab) (o := aoff) (z := 0) (by simp [Bt.put]) hl (Nat.le_refl _) (fun _ => rfl) (fun h9 => absurd rfl h9) (.inr (by simp)), ⟨some (S1.nx, 0), cap, by rw [g1], by omega, .inr ⟨S1.nx, rfl, Lg.put_same _ _ _⟩⟩, fun x hx => Rm _ _ _ ((Ext2.refl L1).put (g2.mod.fresh (Nat.le_refl _)) _) (g5 x hx)⟩
end Go.AM

/- slices that are read, empty ones wherever they lie. -/
set_option linter.unusedVariables false
set_option linter.unusedSimpArgs false
namespace Go.AM
variable {N : Nat → Nat} {F : Nat → Option AFn}
def SlQ {α : Type} (f : α → List AV) (z : Nat) (K : Lg) (v : AV) (l : List α) : Prop := ∃ a cap ex, v = .sl a l.length cap ex ∧ l.length ≤ cap ∧ (ex = 0 ∨ ex = z) ∧ (l = [] ∨ ∃ b off cs, a = some (b, off) ∧ (K b = some (.raw (.cells cs)) ∨ K b = some (.raw (.ro cs))) ∧ off + l.length * z ≤ cs.length ∧ ∀ (i : Nat) (x : α), l[i]? = some x → (cs.drop (off + i * z)).take z = f x)
section
variable {α : Type} {f : α → List AV} {z : Nat}
theorem SlG.toQ {K : Lg} {v : AV} {l : List α} (h : SlG f z K v l) : SlQ f z K v l := by
  obtain ⟨a, cap, ex, h1, h2, h3, h4⟩ := h
  exact ⟨a, cap, ex, h1, h2, h3, h4.imp (fun h => h.1) id⟩
theorem SlQ.len {K : Lg} {v : AV} {l : List α} (h : SlQ f z K v l) (X : Lg) (k : AV → Lg → Prop) : wpOp F .lenSl [v] X k = k (.i .i64 l.length) X := by
  obtain ⟨a, cap, ex, rfl, _⟩ := h
  simp
theorem SlQ.mono {K K' : Lg} {v : AV} {l : List α} (h : SlQ f z K v l) (e : SubL K K') : SlQ f z K' v l := by
  obtain ⟨a, cap, ex, rfl, hc, he, h1 | ⟨b, off, cs, rfl, h2, h3⟩⟩ := h
  · exact ⟨_, _, _, rfl, hc, he, .inl h1⟩
  · exact ⟨_, _, _, rfl, hc, he, .inr ⟨b, off, cs, rfl, h2.imp (e _ _) (e _ _), h3⟩⟩
theorem SlQ.toG {K : Lg} {v : AV} {l : List α} (h : SlQ f z K v l) (hl : l ≠ []) : SlG f z K v l := by
  obtain ⟨a, cap, ex, h1, h2, h3, h4⟩ := h
  exact ⟨a, cap, ex, h1, h2, h3, .inr (h4.resolve_left hl)⟩
theorem SlQ.get {K : Lg} {v : AV} {l : List α} (h : SlQ f z K v l) {i : Nat} {x : α} (hi : l[i]? = some x) : ∃ b o, (∀ (X : Lg) (k : AV → Lg → Prop), wpOp F (.iad z) [v, .i .i64 i] X k = k (.p (some (b, o))) X) ∧
    (∀ X : Lg, SubL K X → (∀ j, j < z → rdL X (b, o + j) none = (f x)[j]?) ∧ rdL X (b, o) (some z) = some (.agg (f x))) ∧ K b ≠ none :=
  (h.toG (by rintro rfl; simp at hi)).get hi
theorem flatc_flatQ (f : α → List AV) : ∀ l : List α, l.flatMap f = flatc f l
  | [] => rfl
  | x :: r => by rw [List.flatMap_cons, flatc_flatQ f r]; rfl
theorem SlN.toQ {K : Lg} {v : AV} {l : List α} (hf : ∀ x, (f x).length = z) (h : SlN f K v l) : SlQ f z K v l := by
  obtain ⟨a, cap, rfl, hc, ⟨h1, _⟩ | ⟨b, rfl, h3⟩⟩ := h
  · exact ⟨_, _, _, rfl, hc, .inl rfl, .inl h1⟩
  · refine ⟨_, cap, 0, rfl, hc, .inl rfl, .inr ⟨b, 0, flatc f l, rfl, .inr (by rw [← flatc_flatQ]; exact h3), by rw [flatc_length hf]; omega, fun i x hi => ?_⟩⟩
    have := flatc_at (f := f) (k := z) hf l i x hi
    simpa using this.1
end
end Go.AM


/- prog: which programs may be. -/
set_option linter.unusedVariables false
set_option linter.unusedSimpArgs false
namespace Go.AM
variable {N : Nat → Nat} {F : Nat → Option AFn}
def regP (n : Int) : Bool := decide (0 ≤ n) && decide (n < 8)
theorem register_spec (hf : H_prog_register N F) (n : Int) (L : Lg) : CallL F (N k_prog_register) [.i .i64 n] L fun v L' => v = .b (regP n) ∧ L' = L := by
  refine CallL.opq ?_
  intro Q hQ
  apply r_prog_register hf.code
  unfold D_prog_register_1
  by_cases c1 : 0 ≤ n
  · simp [c1]
    exact ⟨_, Sees.refl _, hQ _ _ ⟨by simp [regP, c1], rfl⟩⟩
  · simp [c1]
    exact ⟨_, Sees.refl _, hQ _ _ ⟨by simp [regP, c1], rfl⟩⟩
def mayP (k n pl : Int) : Bool := if k = 114 then regP n else if k = 112 then decide (0 ≤ n) && decide (n ≤ pl) else if k = 103 then decide (0 ≤ n) && decide (n < 16) else if k = 45 then decide (n = 0) else true
theorem may_spec (hf : H_prog_may N F) (k n pl : Int) (L : Lg) : CallL F (N k_prog_may) [.i .u8 k, .i .i64 n, .i .i64 pl] L fun v L' => v = .b (mayP k n pl) ∧ L' = L := by
  refine CallL.opq ?_
  intro Q hQ
  apply r_prog_may hf.code
  unfold D_prog_may_1
  by_cases c1 : k = 114
  · simp [c1]
    refine (register_spec hf.prog_register n L).mono ?_
    rintro _ K' ⟨rfl, rfl⟩
    simp
    exact ⟨_, Sees.refl _, hQ _ _ ⟨by simp [mayP, c1], rfl⟩⟩
  by_cases c2 : k = 112
  · by_cases d1 : 0 ≤ n
    · simp [c1, c2, d1]
      exact ⟨_, Sees.refl _, hQ _ _ ⟨by simp [mayP, c1, c2, d1], rfl⟩⟩
    · simp [c1, c2, d1]
      exact ⟨_, Sees.refl _, hQ _ _ ⟨by simp [mayP, c1, c2, d1], rfl⟩⟩
  by_cases c3 : k = 103
  · by_cases d1 : 0 ≤ n
    · simp [c1, c2, c3, d1]
      exact ⟨_, Sees.refl _, hQ _ _ ⟨by simp [mayP, c1, c2, c3, d1], rfl⟩⟩
    · simp [c1, c2, c3, d1]
      exact ⟨_, Sees.refl _, hQ _ _ ⟨by simp [mayP, c1, c2, c3, d1], rfl⟩⟩
  by_cases c4 : k = 45
  · simp [c1, c2, c3, c4]
    exact ⟨_, Sees.refl _, hQ _ _ ⟨by simp [mayP, c1, c2, c3, c4], rfl⟩⟩
  · simp [c1, c2, c3, c4]
    exact ⟨_, Sees.refl _, hQ _ _ ⟨by simp [mayP, c1, c2, c3, c4], rfl⟩⟩
structure Cs3 where
  send : Bool
  chan : Int
  val : Int
  deriving DecidableEq
def Cs3.cells (c : Cs3) : List AV := [.b c.send, .i .i64 c.chan, .i .i64 c.val]
theorem Cs3.len (c : Cs3) : c.cells.length = 3 := rfl
def badC (c : Cs3) : Bool := !regP c.chan || !regP c.val || (!c.send && decide (c.val ≠ 0))
theorem good1_spec (hf : H_prog_good_1 N F) (c : Cs3) (L : Lg) : CallL F (N k_prog_good_1) [.agg c.cells] L fun v L' => v = .b (badC c) ∧ L' = L := by
  refine CallL.opq ?_
  intro Q hQ
  apply r_prog_good_1 hf.code
  unfold D_prog_good_1_1
  simp
  rw [newL_box_agg _ _ _ (by rfl)]
  intro b hb
  have h0 : (L.put b (.raw (.cells c.cells))) b = some (.raw (.cells c.cells)) := Lg.put_same _ _ _
  have f0 : rdL (L.put b (.raw (.cells c.cells))) (b, 0) none = some (.b c.send) := by rw [rdL_cell h0]; rfl
  have f1 : rdL (L.put b (.raw (.cells c.cells))) (b, 1) none = some (.i .i64 c.chan) := by rw [rdL_cell h0]; rfl
  have f2 : rdL (L.put b (.raw (.cells c.cells))) (b, 2) none = some (.i .i64 c.val) := by rw [rdL_cell h0]; rfl
  have se : Sees (L.put b (.raw (.cells c.cells))) L := ((Ext2.refl L).put hb _).sees
  simp [f1]
  refine (register_spec hf.prog_register c.chan _).mono ?_
  rintro _ K' ⟨rfl, hK⟩
  subst hK
  cases e1 : regP c.chan with
  | false =>
    simp
    exact ⟨_, se, hQ _ _ ⟨by simp [badC, e1], rfl⟩⟩
  | true =>
    simp [f2]
    refine (register_spec hf.prog_register c.val _).mono ?_
    rintro _ K' ⟨rfl, hK⟩
    subst hK
    cases e2 : regP c.val with
    | false =>
      simp
      exact ⟨_, se, hQ _ _ ⟨by simp [badC, e1, e2], rfl⟩⟩
    | true =>
      cases e3 : c.send with
      | true =>
        simp [f0, e3]
        exact ⟨_, se, hQ _ _ ⟨by simp [badC, e1, e2, e3], rfl⟩⟩
      | false =>
        simp [f0, f2, e3]
        exact ⟨_, se, hQ _ _ ⟨by simp [badC, e1, e2, e3], rfl⟩⟩
theorem containsC_spec (hf : H_slices_ContainsFunc_CaseCase N F) {L : Lg} {α : Type} {g : α → List AV} {s : AV} {ws : List α} (hs : SlQ g 3 L s ws) (hl : ws.length ≤ 1000000) {f : Nat} {fst cap : List AV} {p : α → Bool}
    (hso : ∀ w, w ∈ ws → CallL F f (fst ++ (.agg (g w)) :: cap) L fun v L' => v = .b (p w) ∧ L' = L) : CallL F (N k_slices_ContainsFunc_CaseCase) [s, .fn f fst cap] L fun v L' => v = .b (ws.any p) ∧ L' = L := by
  apply r_slices_ContainsFunc_CaseCase hf.code
  unfold D_slices_ContainsFunc_CaseCase_1
  have key : CallL F (N k_slices_IndexFunc_CaseCase) [s, .fn f fst cap] L fun v L' => (∃ i : Int, v = .i .i64 i ∧ (decide (0 ≤ i) = ws.any p)) ∧ L' = L := by
    apply r_slices_IndexFunc_CaseCase hf.slices_IndexFunc_CaseCase.code
    unfold D_slices_IndexFunc_CaseCase_1 D_slices_IndexFunc_CaseCase_4
    have hlen := fun X k => hs.len (F := F) X k
    simp [D_slices_IndexFunc_CaseCase_6, hlen]
    refine loopW_intro (fun n l' L' => ∃ i : Nat, i ≤ ws.length ∧ n = ws.length - i ∧ (∀ x, x ∈ ws.take i → p x = false) ∧ L' = L ∧ l' 0 = s ∧ l' 1 = .fn f fst cap ∧ l' 7 = .i .i64 ws.length ∧ l' 8 = .i .i64 i)
      ws.length ⟨0, by omega, by omega, by simp, rfl, by simp, by simp, by simp, by simp⟩ ?_
    rintro n l' t L' ⟨i, hi, hn, hA, rfl, l0, l1, l7, l8⟩
    unfold D_slices_IndexFunc_CaseCase_7
    rw [l0, l1, l7, l8]
    by_cases hlt : i < ws.length
    · have hw : ws[i]? = some ws[i] := List.getElem?_eq_getElem hlt
      obtain ⟨b, o, h1, h2, h3⟩ := hs.get (F := F) hw
      have h4 := (h2 L' (fun _ _ h => h)).2
      have e1 : ((i : Int) < (ws.length : Int)) := by omega
      simp [hlt, h1, h4]
      refine (hso ws[i] (List.getElem_mem _)).mono ?_
      rintro _ L2 ⟨rfl, rfl⟩
      rw [condW_bool]
      refine ⟨fun hp => ?_, fun hp => ?_⟩
      · simp
        have : ws.any p = true := List.any_eq_true.2 ⟨ws[i], List.getElem_mem _, hp⟩
        simpa using this
      · have e2 : wr .i64 ((i : Int) + 1) = ((i + 1 : Nat) : Int) := by rw [wr_id (by omega) (by omega)]; omega
        simp
        refine ⟨ws.length - (i + 1), by omega, i + 1, by omega, rfl, ?_, l0, l1, l7, e2⟩
        intro x hx
        rw [List.take_add_one, hw] at hx
        rcases List.mem_append.1 hx with hx | hx
        · exact hA x hx
        · simp at hx; rw [hx]; exact hp
    · have e1 : ¬ ((i : Int) < (ws.length : Int)) := by omega
      have e2 : i = ws.length := by omega
      simp [hlt, D_slices_IndexFunc_CaseCase_3]
      rw [e2, List.take_length] at hA
      simpa using hA
  refine key.mono ?_
  rintro _ _ ⟨⟨i, rfl, hi⟩, rfl⟩
  simp [← hi]
theorem containsI_spec (hf : H_slices_ContainsFunc_InstrInstr N F) {L : Lg} {α : Type} {g : α → List AV} {s : AV} {ws : List α} (hs : SlQ g 6 L s ws) (hl : ws.length ≤ 1000000) {f : Nat} {fst cap : List AV} {p : α → Bool}
    (hso : ∀ w, w ∈ ws → CallL F f (fst ++ (.agg (g w)) :: cap) L fun v L' => v = .b (p w) ∧ L' = L) : CallL F (N k_slices_ContainsFunc_InstrInstr) [s, .fn f fst cap] L fun v L' => v = .b (ws.any p) ∧ L' = L := by
  apply r_slices_ContainsFunc_InstrInstr hf.code
  unfold D_slices_ContainsFunc_InstrInstr_1
  have key : CallL F (N k_slices_IndexFunc_InstrInstr) [s, .fn f fst cap] L fun v L' => (∃ i : Int, v = .i .i64 i ∧ (decide (0 ≤ i) = ws.any p)) ∧ L' = L := by
    apply r_slices_IndexFunc_InstrInstr hf.slices_IndexFunc_InstrInstr.code
    unfold D_slices_IndexFunc_InstrInstr_1 D_slices_IndexFunc_InstrInstr_4
    have hlen := fun X k => hs.len (F := F) X k
    simp [D_slices_IndexFunc_InstrInstr_6, hlen]
    refine loopW_intro (fun n l' L' => ∃ i : Nat, i ≤ ws.length ∧ n = ws.length - i ∧ (∀ x, x ∈ ws.take i → p x = false) ∧ L' = L ∧ l' 0 = s ∧ l' 1 = .fn f fst cap ∧ l' 7 = .i .i64 ws.length ∧ l' 8 = .i .i64 i)
      ws.length ⟨0, by omega, by omega, by simp, rfl, by simp, by simp, by simp, by simp⟩ ?_
    rintro n l' t L' ⟨i, hi, hn, hA, rfl, l0, l1, l7, l8⟩
    unfold D_slices_IndexFunc_InstrInstr_7
    rw [l0, l1, l7, l8]
    by_cases hlt : i < ws.length
    · have hw : ws[i]? = some ws[i] := List.getElem?_eq_getElem hlt
      obtain ⟨b, o, h1, h2, h3⟩ := hs.get (F := F) hw
      have h4 := (h2 L' (fun _ _ h => h)).2
      have e1 : ((i : Int) < (ws.length : Int)) := by omega
      simp [hlt, h1, h4]
      refine (hso ws[i] (List.getElem_mem _)).mono ?_
      rintro _ L2 ⟨rfl, rfl⟩
      rw [condW_bool]
      refine ⟨fun hp => ?_, fun hp => ?_⟩
      · simp
        have : ws.any p = true := List.any_eq_true.2 ⟨ws[i], List.getElem_mem _, hp⟩
        simpa using this
      · have e2 : wr .i64 ((i : Int) + 1) = ((i + 1 : Nat) : Int) := by rw [wr_id (by omega) (by omega)]; omega
        simp
        refine ⟨ws.length - (i + 1), by omega, i + 1, by omega, rfl, ?_, l0, l1, l7, e2⟩
        intro x hx
        rw [List.take_add_one, hw] at hx
        rcases List.mem_append.1 hx with hx | hx
        · exact hA x hx
        · simp at hx; rw [hx]; exact hp
    · have e1 : ¬ ((i : Int) < (ws.length : Int)) := by omega
      have e2 : i = ws.length := by omega
      simp [hlt, D_slices_IndexFunc_InstrInstr_3]
      rw [e2, List.take_length] at hA
      simpa using hA
  refine key.mono ?_
  rintro _ _ ⟨⟨i, rfl, hi⟩, rfl⟩
  simp [← hi]
/-! ### an instruction -/
def fieldsL : List UInt8 := [114, 110, 45, 114, 114, 45, 114, 110, 45, 112, 45, 45, 114, 112, 45, 114, 45, 45, 45, 45, 45, 114, 103, 45, 114, 110, 45, 114, 114, 45, 114, 114, 114, 114, 45, 45, 114, 114, 45, 114, 114, 45, 114, 114, 114, 114, 45, 45, 114, 114, 114, 114, 114, 114, 114, 114, 103, 114, 114, 45, 114, 114, 114, 114, 114, 45, 114, 114, 114, 114, 114, 114, 114, 114, 45, 114, 114, 45, 114, 114, 45, 114, 114, 45, 114, 114, 45, 114, 114, 114, 114, 114, 103, 114, 114, 45]
structure Ins where
  op : Int
  a : Int
  b : Int
  c : Int
  cs : List Cs3
  df : Bool
  deriving DecidableEq
def Ins.cells (i : Ins) (cv : AV) : List AV := [.i .i64 i.op, .i .i64 i.a, .i .i64 i.b, .i .i64 i.c, cv, .b i.df]
def Ins.abc (i : Ins) : List Int := [i.a, i.b, i.c]
def fldB (op : Int) (k : Nat) : Int := ((fieldsL.getD (3 * (op - 1) + k).toNat 0).toNat : Int)
def fldOk (i : Ins) (pl : Int) (k : Nat) : Bool := mayP (fldB i.op k) (i.abc.getD k 0) pl
def goodP (i : Ins) (pl : Int) : Bool := decide (1 ≤ i.op) && decide (i.op ≤ 32) && (decide (i.op = 15) || (i.cs.isEmpty && !i.df)) && decide (i.cs.length ≤ 16) && (fldOk i pl 0 && fldOk i pl 1 && fldOk i pl 2) && !(i.cs.any badC)
theorem good5_spec (hf : H_prog_good N F) {L : Lg} {i : Ins} {cv : AV} (hc : SlQ Cs3.cells 3 L cv i.cs) (hn : i.cs.length ≤ 16) (h1 : 1 ≤ i.op) (h2 : i.op ≤ 32) {pl : Int} {b1 : Nat} {K : Lg} (hb : K b1 = some (.raw (.cells (i.cells cv)))) (hs : SubL L K)
    {l : Env} (l1 : l 1 = .i .i64 pl) (l2 : l 2 = .p (some (b1, 0))) {Q : AV → Lg → Prop} (hQ : ∀ K', SubL L K' → ∃ L', Sees K' L' ∧ Q (.b (fldOk i pl 0 && fldOk i pl 1 && fldOk i pl 2 && !(i.cs.any badC))) L') : D_prog_good_5 F N Q l K := by
  have f0 : ∀ K', SubL K K' → rdL K' (b1, 0) none = some (.i .i64 i.op) := fun K' h => by rw [rdL_cell (h _ _ hb)]; rfl
  have f1 : rdL K (b1, 1) none = some (.i .i64 i.a) := by rw [rdL_cell hb]; rfl
  have f2 : rdL K (b1, 2) none = some (.i .i64 i.b) := by rw [rdL_cell hb]; rfl
  have f3 : rdL K (b1, 3) none = some (.i .i64 i.c) := by rw [rdL_cell hb]; rfl
  have f4 : ∀ K', SubL K K' → rdL K' (b1, 4) none = some cv := fun K' h => by rw [rdL_cell (h _ _ hb)]; rfl
  unfold D_prog_good_5
  simp [l2, f1, f2, f3]
  rw [newL_bslice (c := [.i .i64 i.a, .i .i64 i.b, .i .i64 i.c]) _ _ (by simp [reps, fillP, splice, ble_nat, beq_nat, AV.cellsOf]) (by simp)]
  intro b2 hb2
  have s2 : SubL K (K.put b2 (.raw (.cells [.i .i64 i.a, .i .i64 i.b, .i .i64 i.c]))) := fun r d hd => by rw [Lg.put_ne _ _ _ (by rintro rfl; rw [hb2] at hd; cases hd)]; exact hd
  have hb2' : (K.put b2 (.raw (.cells [.i .i64 i.a, .i .i64 i.b, .i .i64 i.c]))) b2 = some (.raw (.cells [.i .i64 i.a, .i .i64 i.b, .i .i64 i.c])) := Lg.put_same _ _ _
  generalize hK2 : K.put b2 (.raw (.cells [.i .i64 i.a, .i .i64 i.b, .i .i64 i.c])) = K2 at s2 hb2'
  simp
  unfold D_prog_good_7
  obtain ⟨I, hI⟩ : ∃ I : Nat → Env → Lg → Prop, I = fun m E K' => ∃ k : Nat, m + k = 3 ∧ K' = K2 ∧ E 1 = .i .i64 pl ∧ E 2 = .p (some (b1, 0)) ∧ E 42 = .sl (some (b2, 0)) 3 3 0 ∧ E 43 = .i .i64 3 ∧ E 44 = .i .i64 k ∧ (∀ j, j < k → fldOk i pl j = true) := ⟨_, rfl⟩
  refine loopW_intro I 3 ?_ ?_
  · rw [hI]
    exact ⟨0, by omega, rfl, by simp [l1], by simp [l2], by simp, by simp, by simp, by omega⟩
  intro m E t K' hi
  rw [hI] at hi
  obtain ⟨k, hm, rfl, e1, e2, e42, e43, e44, hall⟩ := hi
  unfold D_prog_good_8
  rw [e1, e2, e42, e43, e44]
  by_cases hk : k < 3
  · have e3 : (k : Int) < 3 := by omega
    have hg : rdL K' (b2, k) none = some (.i .i64 (i.abc.getD k 0)) := by
      rw [rdL_cell hb2']
      have : k = 0 ∨ k = 1 ∨ k = 2 := by omega
      rcases this with rfl | rfl | rfl <;> rfl
    have w1 : wr .i64 (i.op - 1) = i.op - 1 := wr_id (by omega) (by omega)
    have w2 : wr .i64 (3 * (i.op - 1)) = 3 * (i.op - 1) := wr_id (by omega) (by omega)
    have w3 : wr .i64 (3 * (i.op - 1) + k) = 3 * (i.op - 1) + k := wr_id (by omega) (by omega)
    simp [e3, wp_iad _ _ _ 1 b2 0 3 3 0 .i64 (k : Int) (Int.natCast_nonneg _) e3, hg, f0 K' s2, w1, w2, w3]
    have hx0 : 0 ≤ 3 * (i.op - 1) + k := by omega
    have hx1 : 3 * (i.op - 1) + k < ((fieldsL.length : Nat) : Int) := by have : fieldsL.length = 96 := rfl; omega
    have hby : ((fieldsL[(3 * (i.op - 1) + k).toNat]'(by omega)).toNat : Int) = fldB i.op k := by
      unfold fldB
      rw [List.getD, List.getElem?_eq_getElem (by omega)]; rfl
    have ei := fun (k' : AV → Lg → Prop) => wp_ixS (F := F) (L := K') (k := k') fieldsL .i64 _ hx0 hx1
    refine Eq.mpr (ei _) ?_
    rw [hby]
    refine (may_spec hf.prog_may (fldB i.op k) (i.abc[k]?.getD 0) pl K').mono ?_
    rintro _ K3 ⟨rfl, hK3⟩
    subst hK3
    have hok : mayP (fldB i.op k) (i.abc[k]?.getD 0) pl = fldOk i pl k := rfl
    rw [hok]
    cases hv : fldOk i pl k with
    | false =>
      simp
      have hfin : (fldOk i pl 0 && fldOk i pl 1 && fldOk i pl 2 && !(i.cs.any badC)) = false := by
        have : k = 0 ∨ k = 1 ∨ k = 2 := by omega
        rcases this with rfl | rfl | rfl <;> simp [hv]
      show ∃ L', Sees _ L' ∧ Q (.b false) L'
      rw [← hfin]
      exact hQ _ fun r d hd => s2 r d (hs r d hd)
    | true =>
      have w4 : wr .i64 ((k : Int) + 1) = ((k + 1 : Nat) : Int) := by rw [wr_id (by omega) (by omega)]; omega
      simp [w4]
      rw [hI]
      refine ⟨m - 1, by omega, k + 1, by omega, rfl, by simp [e1], by simp [e2], by simp [e42], by simp [e43], by simp, ?_⟩
      intro j hj
      by_cases hjk : j = k
      · rw [hjk]; exact hv
      · exact hall j (by omega)
  · have e3 : ¬ (k : Int) < 3 := by omega
    simp [e3]
    unfold D_prog_good_4
    simp [f4 K' s2]
    refine (containsC_spec hf.slices_ContainsFunc_CaseCase (hc.mono fun r d hd => s2 r d (hs r d hd)) (by omega) (p := badC) fun w _ => ?_).mono ?_
    · exact good1_spec hf.prog_good_1 w K'
    rintro _ K3 ⟨rfl, hK3⟩
    subst hK3
    have hfin : (fldOk i pl 0 && fldOk i pl 1 && fldOk i pl 2 && !(i.cs.any badC)) = !(i.cs.any badC) := by
      rw [hall 0 (by omega), hall 1 (by omega), hall 2 (by omega)]; simp
    have := hQ K3 fun r d hd => s2 r d (hs r d hd)
    rw [hfin] at this
    simp
    obtain ⟨L', g1, g2⟩ := this
    exact ⟨L', g1, by simpa using g2⟩
theorem good_spec (hf : H_prog_good N F) {L : Lg} {i : Ins} {cv : AV} (hc : SlQ Cs3.cells 3 L cv i.cs) (pl : Int) : CallL F (N k_prog_good) [.agg (i.cells cv), .i .i64 pl] L fun v L' => v = .b (goodP i pl) ∧ L' = L := by
  refine CallL.opq ?_
  intro Q hQ
  apply r_prog_good hf.code
  unfold D_prog_good_1
  have hcv : cv.one = true := by obtain ⟨a, cap, ex, rfl, _⟩ := hc; rfl
  have hone : (i.cells cv).all AV.one = true := by simp [Ins.cells, hcv]
  simp
  rw [newL_box_agg _ _ _ hone]
  intro b1 hb1
  have hb : (L.put b1 (.raw (.cells (i.cells cv)))) b1 = some (.raw (.cells (i.cells cv))) := Lg.put_same _ _ _
  have hs : SubL L (L.put b1 (.raw (.cells (i.cells cv)))) := fun r d hd => by rw [Lg.put_ne _ _ _ (by rintro rfl; rw [hb1] at hd; cases hd)]; exact hd
  generalize hK : L.put b1 (.raw (.cells (i.cells cv))) = K at hb hs
  have f0 : rdL K (b1, 0) none = some (.i .i64 i.op) := by rw [rdL_cell hb]; rfl
  have f4 : rdL K (b1, 4) none = some cv := by rw [rdL_cell hb]; rfl
  have f5 : rdL K (b1, 5) none = some (.b i.df) := by rw [rdL_cell hb]; rfl
  have hlen := fun X k => hc.len (F := F) X k
  have no : goodP i pl = false → Q (.b false) L := fun h => by have := hQ (.b (goodP i pl)) L ⟨rfl, rfl⟩; rwa [h] at this
  have se : Sees K L := Ext2.sees hs
  have D5 : 1 ≤ i.op → i.op ≤ 32 → i.cs.length ≤ 16 → (i.op = 15 ∨ (i.cs = [] ∧ i.df = false)) → ∀ {l : Env}, l 1 = .i .i64 pl → l 2 = .p (some (b1, 0)) → D_prog_good_5 F N Q l K := by
    intro c1 c2 c3 c4 l l1 l2
    refine good5_spec hf hc c3 c1 c2 hb hs l1 l2 fun K' hK' => ⟨L, Ext2.sees hK', ?_⟩
    have : goodP i pl = (fldOk i pl 0 && fldOk i pl 1 && fldOk i pl 2 && !(i.cs.any badC)) := by
      rcases c4 with c4 | ⟨c4, c5⟩ <;> simp [goodP, c1, c2, c3, c4, *]
    rw [← this]
    exact hQ _ _ ⟨rfl, rfl⟩
  unfold D_prog_good_2
  by_cases c1 : i.op < 1
  · simp [f0, c1]
    exact ⟨_, se, no (by have : ¬ 1 ≤ i.op := by omega
                         simp [goodP, this])⟩
  by_cases c2 : 32 < i.op
  · simp [f0, c1, c2]
    exact ⟨_, se, no (by have : ¬ i.op ≤ 32 := by omega
                         simp [goodP, this])⟩
  have d1 : 1 ≤ i.op := by omega
  have d2 : i.op ≤ 32 := by omega
  by_cases c3 : i.op = 15
  · by_cases c6 : 16 < i.cs.length
    · have e6 : (16 : Int) < (i.cs.length : Int) := by omega
      simp [f0, f4, c1, c2, c3, hlen, e6]
      exact ⟨_, se, no (by have : ¬ i.cs.length ≤ 16 := by omega
                           simp [goodP, this])⟩
    · have e6 : ¬ (16 : Int) < (i.cs.length : Int) := by omega
      simp [f0, f4, c1, c2, c3, hlen, e6]
      exact D5 d1 d2 (by omega) (.inl c3) (by simp) (by simp)
  · by_cases c4 : i.cs = []
    · have e4 : i.cs.length = 0 := by rw [c4]; rfl
      cases c5 : i.df with
      | true =>
        simp [f0, f4, f5, c1, c2, c3, hlen, e4, c5]
        exact ⟨_, se, no (by simp [goodP, c3, c5])⟩
      | false =>
        simp [f0, f4, f5, c1, c2, c3, hlen, e4, c5]
        exact D5 d1 d2 (by omega) (.inr ⟨c4, c5⟩) (by simp) (by simp)
    · have e4 : 0 < i.cs.length := List.length_pos_iff.2 c4
      simp [f0, f4, f5, c1, c2, c3, hlen, e4, c4]
      exact ⟨_, se, no (by simp [goodP, c3, c4])⟩
/-- a program, as it is read: each instruction, and its cases' slice -/
def PrL (L : Lg) (v : AV) (p : List (Ins × AV)) : Prop := SlQ (fun x : Ins × AV => x.1.cells x.2) 6 L v p ∧ ∀ x, x ∈ p → SlQ Cs3.cells 3 L x.2 x.1.cs
def checkP (p : List Ins) : Bool := decide (p.length ≤ 100) && p.all fun i => goodP i p.length
theorem check1_spec (hf : H_prog_Check_1 N F) {L : Lg} {v : AV} {p : List (Ins × AV)} (hp : PrL L v p) {b : Nat} (hb : L b = some (.raw (.cells [v]))) {x : Ins × AV} (hx : x ∈ p) :
    CallL F (N k_prog_Check_1) ([] ++ (.agg (x.1.cells x.2)) :: [.p (some (b, 0))]) L fun y L' => y = .b (!goodP x.1 p.length) ∧ L' = L := by
  refine CallL.opq ?_
  intro Q hQ
  apply r_prog_Check_1 hf.code
  unfold D_prog_Check_1_1
  have hc := hp.2 x hx
  have hcv : x.2.one = true := by obtain ⟨a, cap, ex, e, _⟩ := hc; rw [e]; rfl
  have hone : (x.1.cells x.2).all AV.one = true := by simp [Ins.cells, hcv]
  simp
  rw [newL_box_agg _ _ _ hone]
  intro b1 hb1
  have h1 : (L.put b1 (.raw (.cells (x.1.cells x.2)))) b1 = some (.raw (.cells (x.1.cells x.2))) := Lg.put_same _ _ _
  have hs : SubL L (L.put b1 (.raw (.cells (x.1.cells x.2)))) := fun r d hd => by rw [Lg.put_ne _ _ _ (by rintro rfl; rw [hb1] at hd; cases hd)]; exact hd
  have g6 : rdL (L.put b1 (.raw (.cells (x.1.cells x.2)))) (b1, 0) (some 6) = some (.agg (x.1.cells x.2)) := by rw [rdL_cells h1 (by simp [Ins.cells])]; rfl
  have g0 : rdL (L.put b1 (.raw (.cells (x.1.cells x.2)))) (b, 0) none = some v := by rw [rdL_cell (hs _ _ hb)]; rfl
  simp [g6, g0, hp.1.len]
  refine (good_spec hf.prog_good (hc.mono hs) p.length).mono ?_
  rintro _ K3 ⟨rfl, hK3⟩
  rw [hK3]
  simp
  exact ⟨_, Ext2.sees hs, hQ _ _ ⟨by simp, rfl⟩⟩
theorem check_spec (hf : H_prog_Check N F) {L : Lg} {v : AV} {p : List (Ins × AV)} (hp : PrL L v p) (hl : p.length ≤ 1000000) :
    CallL F (N k_prog_Check) [v] L fun y L' => y = .i .i64 (if checkP (p.map (·.1)) = true then 0 else 1) ∧ L' = L := by
  refine CallL.opq ?_
  intro Q hQ
  apply r_prog_Check hf.code
  unfold D_prog_Check_1
  have hv : v.cellsOf = some [v] := by obtain ⟨a, cap, ex, e, _⟩ := hp.1; rw [e]; rfl
  have hlen := fun X k => hp.1.len (F := F) X k
  simp
  rw [newL_box v L _ hv]
  intro b hb
  have h1 : (L.put b (.raw (.cells [v]))) b = some (.raw (.cells [v])) := Lg.put_same _ _ _
  have hs : SubL L (L.put b (.raw (.cells [v]))) := fun r d hd => by rw [Lg.put_ne _ _ _ (by rintro rfl; rw [hb] at hd; cases hd)]; exact hd
  have g0 : rdL (L.put b (.raw (.cells [v]))) (b, 0) none = some v := by rw [rdL_cell h1]; rfl
  by_cases c1 : 100 < p.length
  · have e1 : (100 : Int) < (p.length : Int) := by omega
    have e3 : ¬ (p.length : Int) ≤ 100 := by omega
    simp [g0, hlen, e1, e3]
    exact ⟨_, Ext2.sees hs, hQ _ _ ⟨by have : ¬ p.length ≤ 100 := by omega
                                       simp [checkP, this], rfl⟩⟩
  · have e1 : ¬ (100 : Int) < (p.length : Int) := by omega
    simp [g0, hlen, e1]
    refine (containsI_spec hf.slices_ContainsFunc_InstrInstr (hp.1.mono hs) hl (p := fun x => !goodP x.1 p.length) fun x hx => check1_spec hf.prog_Check_1 ⟨hp.1.mono hs, fun x hx => (hp.2 x hx).mono hs⟩ h1 hx).mono ?_
    rintro _ K3 ⟨rfl, hK3⟩
    rw [hK3]
    have e2 : checkP (p.map (·.1)) = !(p.any fun x => !goodP x.1 p.length) := by
      have : p.length ≤ 100 := by omega
      simp [checkP, this, List.all_map, List.all_eq_not_any_not]
      rfl
    cases hh : p.any fun x => !goodP x.1 p.length with
    | true =>
      rw [hh] at e2
      have e4 : (p.length : Int) ≤ 100 := by omega
      simp [e4, e1]
      exact ⟨_, Ext2.sees hs, hQ _ _ ⟨by rw [e2]; rfl, rfl⟩⟩
    | false =>
      rw [hh] at e2
      have e4 : (p.length : Int) ≤ 100 := by omega
      simp [e4, e1]
      exact ⟨_, Ext2.sees hs, hQ _ _ ⟨by rw [e2]; rfl, rfl⟩⟩
end Go.AM


/- prog: All. -/
set_option linter.unusedVariables false
set_option linter.unusedSimpArgs false
namespace Go.AM
variable {N : Nat → Nat} {F : Nat → Option AFn}
end Go.AM


/- tarpaulinalike.Progs: which programs are looked at. -/
set_option linter.unusedVariables false
set_option linter.unusedSimpArgs false
namespace Go.AM
variable {N : Nat → Nat} {F : Nat → Option AFn}
end Go.AM


/- prog: sorting, and each once. -/
set_option linter.unusedVariables false
set_option linter.unusedSimpArgs false
namespace Go.AM
variable {N : Nat → Nat} {F : Nat → Option AFn}
/-! ### functions of the library -/
theorem CallL.ext {f k : Nat} {vs : List AV} {L : Lg} {Q : AV → Lg → Prop} (hf : F f = some (kExt k)) (h : ∀ S, Mod S L → ∃ v S', extSem k vs S = some (v, S') ∧ ∃ L', Mod S' L' ∧ Q v L') : CallL F f vs L Q := by
  intro S m
  obtain ⟨v, S', he, L', m', hq⟩ := h S m
  refine ⟨1, v, S', ?_, L', m', hq⟩
  have e : exec F 1 (kExt k).body (initT vs) S = some (.ret, { initT vs with l := [(0, v)] }, S') := by
    show (match extSem k ((initT vs).l.map fun x => x.2) S with | some (v, S') => some (Ex.ret, { initT vs with l := [((0 : Nat), v)] }, S') | none => none) = _
    have e3 : (initT vs).l.map (fun x => x.2) = vs := initL_vals vs 0
    rw [e3, he]
  unfold acall callOf
  rw [hf]
  simp only [e]
  rfl
theorem intsOf_icl : ∀ l : List Int, intsOf (icl l) = some l
  | [] => rfl
  | x :: r => by
    show (intsOf (icl r)).map (x :: ·) = _
    rw [intsOf_icl r]; rfl
def srt (l : List Int) : List Int := l.mergeSort fun x y => decide (x ≤ y)
theorem srt_length (l : List Int) : (srt l).length = l.length := List.length_mergeSort l
theorem srt_mem (l : List Int) (x : Int) : x ∈ srt l ↔ x ∈ l := List.mem_mergeSort
theorem srt_sorted (l : List Int) : (srt l).Pairwise (· ≤ ·) := by
  have := List.pairwise_mergeSort (le := fun x y : Int => decide (x ≤ y)) (by intro a b c h1 h2; simp at h1 h2 ⊢; omega) (by intro a b; simp; omega) l
  simpa [srt] using this
theorem extSem0 (vs : List AV) (S : St) : extSem 0 vs S = xSort vs S := rfl
theorem sort_spec (hf : F (N k_slices_Sort_intint) = some (kExt 0)) {L : Lg} {v : AV} {l : List Int} {bo : Option Nat} (h : KSl v l bo L) (hn : bo ≠ none → l ≠ []) (hl : l.length < 1000000) :
    CallL F (N k_slices_Sort_intint) [v] L fun r L' => r = .tup [] ∧ KSl v (srt l) bo L' ∧ ((bo = none ∧ L' = L) ∨ ∃ b c, bo = some b ∧ L' = L.put b (.raw (.cells c))) := by
  cases bo with
  | none =>
    obtain ⟨rfl, rfl⟩ := h
    refine CallL.ext hf fun S m => ⟨.tup [], S, rfl, L, m, rfl, ⟨rfl, by simp [srt]⟩, .inl ⟨rfl, rfl⟩⟩
  | some b =>
    have hne := hn (by simp)
    obtain ⟨cap, sp, ex, rfl, hb, hc, he⟩ := h
    refine CallL.ext hf fun S m => ?_
    have h1 : rdCells S.h (some (b, 0)) l.length = some (icl l) := by
      have := KSl.cells (cap := cap) hb
      rw [Nat.mul_one] at this
      exact rdCellsL_ok m this
    have hw : wrL L (b, 0) (icl (srt l)) = some (L.put b (.raw (.cells (icl (srt l) ++ sp)))) := by
      have h2 := splice_app [] (icl l ++ sp) (icl (srt l))
      have h3 : 0 + (icl (srt l)).length ≤ (icl l ++ sp).length := by simp [icl_length, srt_length]
      have h4 : (icl l ++ sp).drop (icl (srt l)).length = sp := by
        rw [icl_length, srt_length, ← icl_length l, List.drop_left]
      simp only [wrL, hb, h3, icl_one, and_self, if_true]
      simp only [List.length_nil, List.nil_append] at h2
      rw [h2, h4]
    obtain ⟨h', hw', m'⟩ := wrL_ok m hw
    refine ⟨.tup [], { S with h := h' }, ?_, _, m', rfl, ⟨cap, sp, ex, by rw [srt_length], Lg.put_same _ _ _, by rw [srt_length]; exact hc, he⟩, .inr ⟨b, _, rfl, rfl⟩⟩
    rw [extSem0]
    have hlt : Nat.blt l.length 1000000 = true := by rw [blt_nat]; simp [hl]
    obtain ⟨x, r, hxr⟩ : ∃ x r, l = x :: r := by
      cases l with
      | nil => exact absurd rfl hne
      | cons x r => exact ⟨x, r, rfl⟩
    unfold xSort
    simp only [hlt, cond_true, h1, intsOf_icl]
    rw [hxr]
    simp only
    rw [← hxr]
    have : (List.map (fun n => AV.i .i64 n) (l.mergeSort fun x y => decide (x ≤ y))) = icl (srt l) := rfl
    rw [this, hw']

/-! ### slices.Compact -/
theorem take_get {α : Type} {l : List α} {k i : Nat} (h : i < k) : (l.take k)[i]? = l[i]? := by rw [List.getElem?_take, if_pos h]
theorem pw_last {l : List Int} (h : l.Pairwise (· ≤ ·)) {i j : Nat} {x y : Int} (hi : l[i]? = some x) (hj : l[j]? = some y) (hij : i ≤ j) : x ≤ y := by
  rcases Nat.lt_or_ge i j with h1 | h1
  · obtain ⟨hi1, hi2⟩ := List.getElem?_eq_some_iff.1 hi
    obtain ⟨hj1, hj2⟩ := List.getElem?_eq_some_iff.1 hj
    have := List.pairwise_iff_getElem.1 h i j hi1 hj1 h1
    rw [hi2, hj2] at this
    exact this
  · have : i = j := by omega
    subst this
    rw [hi] at hj
    cases hj
    omega
theorem lt_snoc {P : List Int} {x : Int} (h : P.Pairwise (· < ·)) (hx : ∀ y, P.getLast? = some y → y < x) : (P ++ [x]).Pairwise (· < ·) := by
  rw [List.pairwise_append]
  refine ⟨h, List.pairwise_singleton _ _, fun a ha b hb => ?_⟩
  simp at hb
  subst hb
  cases hl : P.getLast? with
  | none => rw [List.getLast?_eq_none_iff] at hl; subst hl; simp at ha
  | some y =>
    have h1 := hx y hl
    obtain ⟨i, hi, rfl⟩ := List.mem_iff_getElem.1 ha
    rw [List.getLast?_eq_getElem?] at hl
    obtain ⟨hj1, hj2⟩ := List.getElem?_eq_some_iff.1 hl
    rcases Nat.lt_or_ge i (P.length - 1) with h2 | h2
    · have := List.pairwise_iff_getElem.1 h i (P.length - 1) hi hj1 h2
      rw [hj2] at this
      omega
    · have : i = P.length - 1 := by omega
      subst this
      rw [hj2]; exact h1
/-- what has been made of the first j -/
structure Cmp (zs : List Int) (P : List Int) (j : Nat) : Prop where
  lt : P.Pairwise (· < ·)
  mem : ∀ x, x ∈ P ↔ x ∈ zs.take j
  last : P.getLast? = zs[j - 1]?
theorem Cmp.same {zs P : List Int} {j : Nat} (h : Cmp zs P j) (hj : 0 < j) (hn : j < zs.length) (e : zs[j]? = zs[j - 1]?) : Cmp zs P (j + 1) := by
  refine ⟨h.lt, fun x => ?_, by rw [h.last, ← e]; rfl⟩
  rw [List.take_add_one, e, List.mem_append, h.mem]
  constructor
  · exact .inl
  · rintro (h1 | h1)
    · exact h1
    · have h2 : j - 1 < zs.length := by omega
      rw [List.getElem?_eq_getElem h2] at h1
      simp at h1
      subst h1
      exact List.mem_iff_getElem?.2 ⟨j - 1, by rw [take_get (by omega), List.getElem?_eq_getElem h2]⟩
theorem Cmp.next {zs P : List Int} {j : Nat} (hs : zs.Pairwise (· ≤ ·)) (h : Cmp zs P j) (hj : 0 < j) (hn : j < zs.length) {x : Int} (hx : zs[j]? = some x) (e : zs[j]? ≠ zs[j - 1]?) : Cmp zs (P ++ [x]) (j + 1) := by
  refine ⟨lt_snoc h.lt fun y hy => ?_, fun z => ?_, by simp [hx]⟩
  · rw [h.last] at hy
    have := pw_last hs hy hx (by omega)
    rw [hx, hy] at e
    have : y ≠ x := fun h9 => e (by rw [h9])
    omega
  · rw [List.take_add_one, hx, List.mem_append, List.mem_append, h.mem]; simp
theorem Cmp.len {zs P : List Int} {j : Nat} (h : Cmp zs P j) (hj : 0 < j) (hn : j ≤ zs.length) : 0 < P.length := by
  cases P with
  | nil =>
    have := h.last
    rw [List.getElem?_eq_getElem (by omega)] at this
    simp at this
  | cons _ _ => simp
theorem compact_spec (hf : H_slices_Compact_intint N F) {L : Lg} {v : AV} {zs : List Int} {b : Nat} (h : KSl v zs (some b) L) (hs : zs.Pairwise (· ≤ ·)) (hl : zs.length ≤ 1000000) :
    CallL F (N k_slices_Compact_intint) [v] L fun r L' => ∃ R c, KSl r R (some b) L' ∧ L' = L.put b (.raw (.cells c)) ∧ R.Pairwise (· < ·) ∧ ∀ x, x ∈ R ↔ x ∈ zs := by
  refine CallL.opq ?_
  intro Q hQ
  apply r_slices_Compact_intint hf.code
  have hlen := h.len (F := F)
  obtain ⟨cap, sp, ex, rfl, hb, hc, he⟩ := h
  have self : L = L.put b (.raw (.cells (icl zs ++ sp))) := by
    funext r; by_cases hr : r = b
    · subst hr; rw [hb, Lg.put_same]
    · rw [Lg.put_ne _ _ _ hr]
  have all : zs.Pairwise (· < ·) → fin1 (some (.sl (some (b, 0)) zs.length cap ex)) Q L := fun hp =>
    ⟨_, Sees.refl _, hQ _ _ ⟨zs, icl zs ++ sp, ⟨cap, sp, ex, rfl, hb, hc, he⟩, self, hp, fun _ => Iff.rfl⟩⟩
  unfold D_slices_Compact_intint_1 D_slices_Compact_intint_2
  simp [hlen]
  refine ⟨fun h2 => all ?_, fun h2 => ?_⟩
  · match zs, h2 with
    | [], _ => exact .nil
    | [x], _ => exact List.pairwise_singleton _ _
    | _ :: _ :: r, h2 => simp at h2; omega
  have h2' : 2 ≤ zs.length := by omega
  unfold D_slices_Compact_intint_5 D_slices_Compact_intint_7
  obtain ⟨I, hI⟩ : ∃ I : Nat → Env → Lg → Prop, I = fun m E K' => ∃ k : Nat, m + k = zs.length ∧ 1 ≤ k ∧ K' = L ∧ E 0 = .sl (some (b, 0)) zs.length cap ex ∧ E 3 = .i .i64 k ∧ Cmp zs (zs.take k) k ∧ (zs.take k).length = k := ⟨_, rfl⟩
  refine loopW_intro I (zs.length - 1) ?_ ?_
  · rw [hI]
    refine ⟨1, by omega, by omega, rfl, by simp, by simp, ⟨?_, fun _ => Iff.rfl, ?_⟩, by simp; omega⟩
    · obtain ⟨x, hx⟩ := List.length_eq_one_iff.1 (show (zs.take 1).length = 1 by simp; omega)
      rw [hx]; exact List.pairwise_singleton _ _
    · have : ∀ z : List Int, 2 ≤ z.length → (z.take 1).getLast? = z[1 - 1]? := by
        intro z hz
        match z, hz with
        | x :: r, _ => simp
      exact this zs h2'
  intro m E t K' hi
  rw [hI] at hi
  obtain ⟨k, hm, hk1, rfl, e0, e3, hcm, hlk⟩ := hi
  unfold D_slices_Compact_intint_8
  rw [e0, e3]
  by_cases hk : ¬ k < zs.length
  · have : k = zs.length := by omega
    simp [hlen, hk, D_slices_Compact_intint_4]
    refine all ?_
    have := hcm.lt
    rw [List.take_of_length_le (by omega)] at this
    exact this
  have hk : k < zs.length := by omega
  have g1 : rdL K' (b, k) none = some (.i .i64 zs[k]) := by rw [rdL_cell hb]; exact icl_get zs sp hk
  have g2 : rdL K' (b, k - 1) none = some (.i .i64 zs[k - 1]) := by rw [rdL_cell hb]; exact icl_get zs sp (by omega)
  have w1 : wr .i64 ((k : Int) - 1) = ((k - 1 : Nat) : Int) := by rw [wr_id (by omega) (by omega)]; omega
  have w2 : wr .i64 ((k : Int) + 1) = ((k + 1 : Nat) : Int) := by rw [wr_id (by omega) (by omega)]; omega
  have i1 := fun M q => wp_iad (F := F) (L := M) (k := q) 1 b 0 zs.length cap ex .i64 (k : Int) (by omega) (by omega)
  have i2 := fun M q => wp_iad (F := F) (L := M) (k := q) 1 b 0 zs.length cap ex .i64 ((k - 1 : Nat) : Int) (by omega) (by omega)
  simp [hlen, hk, D_slices_Compact_intint_12, e0, e3, w1, i1, i2, g1, g2]
  unfold D_slices_Compact_intint_13
  have z1 : zs[k]? = some zs[k] := List.getElem?_eq_getElem hk
  have z2 : zs[k - 1]? = some zs[k - 1] := List.getElem?_eq_getElem (by omega)
  by_cases heq : ¬ zs[k] = zs[k - 1]
  · simp [heq, D_slices_Compact_intint_21, D_slices_Compact_intint_10, e3, w2]
    refine ⟨zs.length - (k + 1), by omega, ?_⟩
    rw [hI]
    have hn := hcm.next hs (by omega) hk z1 (by rw [z1, z2]; simpa using heq)
    have ht : zs.take (k + 1) = zs.take k ++ [zs[k]] := by rw [List.take_add_one, z1]; rfl
    exact ⟨k + 1, by omega, by omega, rfl, by simp [e0], by simp, by rw [ht]; exact hn, by simp; omega⟩
  have heq : zs[k] = zs[k - 1] := Classical.not_not.1 heq
  simp [heq, D_slices_Compact_intint_14]
  have s3 := slcL (s := 1) (r := b) (o := 0) (len := zs.length) (cap := cap) (ex := ex) (l := k) (by omega) (by omega) he
  simp [e0, e3, s3]
  unfold D_slices_Compact_intint_17 D_slices_Compact_intint_19
  have cs0 := hcm.same (by omega) hk (by rw [z1, z2, heq])
  have hk0 : zs.take k = zs.take k := rfl
  obtain ⟨J, hJ⟩ : ∃ J : Nat → Env → Lg → Prop, J = fun m E K2 => ∃ (j : Nat) (P : List Int) (cs : List AV), m + j = zs.length ∧ k + 1 ≤ j ∧ P.length + 1 ≤ j ∧ K2 = K'.put b (.raw (.cells cs)) ∧ cs.length = cap ∧
      E 0 = .sl (some (b, 0)) zs.length cap ex ∧ E 3 = .i .i64 P.length ∧ E 4 = .sl (some (b, k)) (zs.length - k) (cap - k) ex ∧ E 5 = .i .i64 ((j - k : Nat) : Int) ∧ Cmp zs P j ∧ cs.take P.length = icl P ∧ ∀ i, j - 1 ≤ i → i < zs.length → cs[i]? = (icl zs)[i]? := ⟨_, rfl⟩
  refine loopW_intro J (zs.length - (k + 1)) ?_ ?_
  · rw [hJ]
    refine ⟨k + 1, zs.take k, icl zs ++ sp, by omega, by omega, by omega, self, by simp [icl_length]; omega, by simp [e0], by simp [e3, hlk], by simp, by simp, cs0, ?_, ?_⟩
    · rw [hlk, List.take_append_of_le_length (by rw [icl_length]; omega)]; simp [icl]
    · intro i _ hi; rw [List.getElem?_append_left (by rw [icl_length]; exact hi)]
  intro m2 E2 t2 K2 hj
  rw [hJ] at hj
  obtain ⟨j, P, cs, hm2, hkj, hPj, rfl, hcl, f0, f3, f4, f5, hcm2, htk, hrest⟩ := hj
  unfold D_slices_Compact_intint_20
  have hP0 := hcm2.len (by omega) (by omega)
  have hself : (K'.put b (.raw (.cells cs))) b = some (.raw (.cells cs)) := Lg.put_same _ _ _
  have i3 : ∀ (x : Nat) M q, k ≤ x → x < zs.length → wpOp F (.iad 1) [.sl (some (b, k)) (zs.length - k) (cap - k) ex, .i .i64 ((x - k : Nat) : Int)] M q = q (.p (some (b, x))) M := by
    intro x M q h1 h2
    rw [wp_iad (F := F) (L := M) (k := q) 1 b k (zs.length - k) (cap - k) ex .i64 ((x - k : Nat) : Int) (by omega) (by omega)]
    simp only [Int.toNat_natCast, Nat.mul_one]
    rw [show k + (x - k) = x by omega]
  by_cases hjn : ¬ j < zs.length
  · have hje : j = zs.length := by omega
    have c1 : ¬ (((j - k : Nat) : Int) < ((zs.length - k : Nat) : Int)) := by omega
    simp [f4, f5, c1, D_slices_Compact_intint_16, f0, f3]
    have s4 := slcL (s := 1) (r := b) (o := 0) (len := zs.length) (cap := cap) (ex := ex) (l := P.length) (by omega) (by omega) he
    have s5 := slc_hi (s := 1) (r := b) (o := 0) (len := zs.length) (cap := cap) (ex := ex) (m := P.length) (j := .i64) (by omega) he
    have hz : ∀ z : Nat, (reps [AV.i .i64 0] z).length = z ∧ (reps [AV.i .i64 0] z).all AV.one = true := by
      intro z
      rw [reps_one' (.i .i64 0)]
      simp
    obtain ⟨Z, hZ⟩ : ∃ Z, Z = reps [AV.i .i64 0] (zs.length - P.length) := ⟨_, rfl⟩
    obtain ⟨z1, z2⟩ := hz (zs.length - P.length)
    rw [← hZ] at z1 z2
    have hsp := splice_app (icl P) (cs.drop P.length) Z
    have hcs : icl P ++ cs.drop P.length = cs := by rw [← htk, List.take_append_drop]
    rw [hcs, icl_length, List.drop_drop, z1, show P.length + (zs.length - P.length) = zs.length by omega] at hsp
    have hw : wrL (K'.put b (.raw (.cells cs))) (b, P.length) Z = some (K'.put b (.raw (.cells (icl P ++ Z ++ cs.drop zs.length)))) := by
      have h3 : P.length + Z.length ≤ cs.length := by omega
      simp only [wrL, hself, h3, z2, and_self, if_true, hsp, Lg.put_put]
    have hfin : ∃ L', Sees (K'.put b (.raw (.cells (icl P ++ Z ++ cs.drop zs.length)))) L' ∧ Q (.sl (some (b, 0)) P.length cap ex) L' := by
      refine ⟨_, Sees.refl _, hQ _ _ ⟨P, _, ⟨cap, Z ++ cs.drop zs.length, ex, rfl, by rw [Lg.put_same, List.append_assoc], by simp [z1]; omega, he⟩, rfl, hcm2.lt, fun x => ?_⟩⟩
      rw [hcm2.mem, hje, List.take_length]
    simp [s4, clrW, ← hZ, hw, s5]
    rw [f0, f3, s5]
    split
    · rename_i h9
      have hz0 : Z = [] := List.eq_nil_of_length_eq_zero (by omega)
      rw [hz0, List.append_nil, show zs.length = P.length by omega, hcs] at hfin
      exact hfin
    · rw [List.append_assoc] at hfin
      exact hfin
  have hjn : j < zs.length := by omega
  have c1 : ((j - k : Nat) : Int) < ((zs.length - k : Nat) : Int) := by omega
  have r1 : rdL (K'.put b (.raw (.cells cs))) (b, j) none = some (.i .i64 zs[j]) := by
    rw [rdL_cell hself, hrest j (by omega) hjn]; simp [icl, hjn]
  have r2 : rdL (K'.put b (.raw (.cells cs))) (b, j - 1) none = some (.i .i64 zs[j - 1]) := by
    rw [rdL_cell hself, hrest (j - 1) (by omega) (by omega)]; simp [icl, show j - 1 < zs.length by omega]
  have w3 : wr .i64 (((j - k : Nat) : Int) - 1) = ((j - 1 - k : Nat) : Int) := by rw [wr_id (by omega) (by omega)]; omega
  have w4 : wr .i64 (((j - k : Nat) : Int) + 1) = ((j + 1 - k : Nat) : Int) := by rw [wr_id (by omega) (by omega)]; omega
  have w5 : wr .i64 ((P.length : Int) + 1) = ((P.length + 1 : Nat) : Int) := by rw [wr_id (by omega) (by omega)]; omega
  have i4 := fun q => i3 j (K'.put b (.raw (.cells cs))) q (by omega) hjn
  have i5 := fun q => i3 (j - 1) (K'.put b (.raw (.cells cs))) q (by omega) (by omega)
  have i6 := fun M q => wp_iad (F := F) (L := M) (k := q) 1 b 0 zs.length cap ex .i64 (P.length : Int) (by omega) (by omega)
  simp only [f0, f3, f4, f5]
  simp [c1, i4, i5, i6, r1, r2, w3, w4, w5]
  refine ⟨fun hne => ?_, fun heq2 => ?_⟩
  · rw [stL_cell hself (by omega) (by simp)]
    simp [w4, w5]
    refine ⟨zs.length - (j + 1), by omega, ?_⟩
    rw [hJ]
    have q1 : zs[j]? = some zs[j] := List.getElem?_eq_getElem hjn
    have q2 : zs[j - 1]? = some zs[j - 1] := List.getElem?_eq_getElem (by omega)
    refine ⟨j + 1, P ++ [zs[j]], cs.set P.length (.i .i64 zs[j]), by omega, by omega, by simp; omega, rfl, by simp; exact hcl, by simp [f0], by simp, by simp [f4], by simp, hcm2.next hs (by omega) hjn q1 (by rw [q1, q2]; simpa using hne), ?_, ?_⟩
    · rw [List.length_append, List.length_singleton, List.take_add_one, List.take_set_of_le (by omega), htk, icl_snoc, List.getElem?_set_self (by omega)]; rfl
    · intro i h1 h2
      rw [List.getElem?_set_ne (by omega)]
      exact hrest i (by omega) h2
  · refine ⟨zs.length - (j + 1), by omega, ?_⟩
    rw [hJ]
    have q1 : zs[j]? = some zs[j] := List.getElem?_eq_getElem hjn
    have q2 : zs[j - 1]? = some zs[j - 1] := List.getElem?_eq_getElem (by omega)
    exact ⟨j + 1, P, cs, by omega, by omega, by omega, rfl, hcl, by simp [f0], by simp [f3], by simp [f4], by simp, hcm2.same (by omega) hjn (by rw [q1, q2, heq2]), htk, fun i h1 h2 => hrest i (by omega) h2⟩
end Go.AM


/- prog: what an instruction reads and writes. -/
set_option linter.unusedVariables false
set_option linter.unusedSimpArgs false
namespace Go.AM
variable {N : Nat → Nat} {F : Nat → Option AFn}
theorem sorted_ext : ∀ {a b : List Int}, a.Pairwise (· < ·) → b.Pairwise (· < ·) → (∀ x, x ∈ a ↔ x ∈ b) → a = b
  | [], [], _, _, _ => rfl
  | [], y :: b, _, _, h => absurd ((h y).2 (by simp)) (by simp)
  | x :: a, [], _, _, h => absurd ((h x).1 (by simp)) (by simp)
  | x :: a, y :: b, ha, hb, h => by
    rw [List.pairwise_cons] at ha hb
    have e : x = y := by
      rcases List.mem_cons.1 ((h x).1 (by simp)) with h1 | h1
      · exact h1
      · rcases List.mem_cons.1 ((h y).2 (by simp)) with h2 | h2
        · exact h2.symm
        · have := ha.1 y h2; have := hb.1 x h1; omega
    subst e
    rw [sorted_ext ha.2 hb.2 fun z => ?_]
    constructor
    · intro hz
      rcases List.mem_cons.1 ((h z).1 (by simp [hz])) with h1 | h1
      · have := ha.1 z hz; omega
      · exact h1
    · intro hz
      rcases List.mem_cons.1 ((h z).2 (by simp [hz])) with h1 | h1
      · have := hb.1 z hz; omega
      · exact h1
def risP (l : List Int) : List Int := ([0, 1, 2, 3, 4, 5, 6, 7] : List Int).filter fun k => decide (k ∈ l)
theorem risP_mem (l : List Int) (hr : ∀ x, x ∈ l → regP x = true) (x : Int) : x ∈ risP l ↔ x ∈ l := by
  simp only [risP, List.mem_filter, decide_eq_true_eq]
  refine ⟨fun h => h.2, fun h => ⟨?_, h⟩⟩
  have := hr x h
  simp [regP] at this
  have : x = 0 ∨ x = 1 ∨ x = 2 ∨ x = 3 ∨ x = 4 ∨ x = 5 ∨ x = 6 ∨ x = 7 := by omega
  rcases this with h | h | h | h | h | h | h | h <;> simp [h]
theorem risP_lt (l : List Int) : (risP l).Pairwise (· < ·) := List.Pairwise.filter _ (by decide)
def oneI : Int → List AV := fun x => [.i .i64 x]
theorem KSl.slQ {v : AV} {l : List Int} {bo : Option Nat} {K : Lg} (h : KSl v l bo K) : SlQ oneI 1 K v l := by
  cases bo with
  | none => obtain ⟨rfl, rfl⟩ := h; exact ⟨none, 0, 0, rfl, by simp, .inl rfl, .inl rfl⟩
  | some b =>
    obtain ⟨cap, sp, ex, rfl, hb, hc, he⟩ := h
    refine ⟨_, _, _, rfl, by omega, he, .inr ⟨b, 0, _, rfl, .inl hb, by simp [icl_length], fun i x hi => ?_⟩⟩
    obtain ⟨h1, h2⟩ := List.getElem?_eq_some_iff.1 hi
    have := icl_get l sp h1
    simp only [Nat.zero_add, Nat.mul_one]
    rw [List.drop_eq_getElem_cons (by simp [icl_length]; omega)]
    have e := (List.getElem?_eq_some_iff.1 this).2
    rw [e, h2]; rfl
theorem compact_nil (hf : H_slices_Compact_intint N F) (L : Lg) : CallL F (N k_slices_Compact_intint) [.sl none 0 0 0] L fun r L' => r = .sl none 0 0 0 ∧ L' = L := by
  refine CallL.opq ?_
  intro Q hQ
  apply r_slices_Compact_intint hf.code
  unfold D_slices_Compact_intint_1 D_slices_Compact_intint_2
  simp
  exact ⟨_, Sees.refl _, hQ _ _ ⟨rfl, rfl⟩⟩
theorem rising_spec (hf : H_prog_rising N F) (hs : F (N k_slices_Sort_intint) = some (kExt 0)) {L : Lg} {v : AV} {l : List Int} {bo : Option Nat} (h : KSl v l bo L) (hn : bo ≠ none → l ≠ []) (hl : l.length ≤ 1000) (hr : ∀ x, x ∈ l → regP x = true) :
    CallL F (N k_prog_rising) [v] L fun r L' => KSl r (risP l) bo L' ∧ (L' = L ∨ ∃ b c, bo = some b ∧ L' = L.put b (.raw (.cells c))) := by
  refine CallL.opq ?_
  intro Q hQ
  apply r_prog_rising hf.code
  unfold D_prog_rising_1
  refine (sort_spec hs h hn (by omega)).mono ?_
  rintro _ L1 ⟨rfl, h1, h2⟩
  rcases h2 with ⟨rfl, rfl⟩ | ⟨b, c, rfl, rfl⟩
  · obtain ⟨rfl, rfl⟩ := h
    refine (compact_nil hf.slices_Compact_intint L1).mono ?_
    rintro _ _ ⟨rfl, rfl⟩
    exact ⟨_, Sees.refl _, hQ _ _ ⟨⟨rfl, rfl⟩, .inl rfl⟩⟩
  · refine (compact_spec hf.slices_Compact_intint h1 (srt_sorted l) (by rw [srt_length]; omega)).mono ?_
    rintro r _ ⟨R, c', h3, rfl, h4, h5⟩
    have : R = risP l := sorted_ext h4 (risP_lt l) fun x => by rw [h5, srt_mem, risP_mem l hr]
    subst this
    exact ⟨_, Sees.refl _, hQ _ _ ⟨h3, .inr ⟨b, c', rfl, by rw [Lg.put_put]⟩⟩⟩
/-- numbers that are gathered, and the instruction beside them -/
structure RS (L K : Lg) (b1 : Nat) (cs : List AV) (v : AV) (l : List Int) : Prop where
  ksl : ∃ bo, KSl v l bo K ∧ (bo ≠ none → l ≠ []) ∧ ∀ b, bo = some b → L b = none ∧ b ≠ b1
  ext : Ext2 L K
  box : K b1 = some (.raw (.cells cs))
  new : L b1 = none
theorem RS.push {L K : Lg} {b1 : Nat} {cs : List AV} {v : AV} {l : List Int} (h : RS L K b1 cs v l) (hl : l.length ≤ 1000) {n : Int} {k : AV → Lg → Prop} (hk : ∀ w K', RS L K' b1 cs w (l ++ [n]) → k w K') :
    wpOp F (.bslice [.i .i64 0] 1 1 [0]) [.i .i64 n] K fun v3 L3 => wpOp F (.app 1 8) [v, v3] L3 k := by
  obtain ⟨⟨bo, h1, h2, h3⟩, h4, h5, h6⟩ := h
  simp
  rw [newL_bslice (c := [.i .i64 n]) _ _ (by rfl) (by rfl)]
  intro b2 hb2
  have hne1 : b2 ≠ b1 := by rintro rfl; rw [hb2] at h5; cases h5
  have hne2 : ∀ b, bo = some b → b ≠ b2 := by
    rintro b rfl rfl
    obtain ⟨cap, sp, ex, rfl, hb, _⟩ := h1
    rw [hb2] at hb; cases hb
  have h1' : KSl v l bo (K.put b2 (.raw (.cells [.i .i64 n]))) := by
    cases bo with
    | none => exact h1
    | some b =>
      obtain ⟨cap, sp, ex, e1, hb, e2, e3⟩ := h1
      exact ⟨cap, sp, ex, e1, by rw [Lg.put_ne _ _ _ (hne2 b rfl)]; exact hb, e2, e3⟩
  refine h1'.push (by omega) (src := some (b2, 0)) (by simp [rdCellsL, AB.read, cut]; rfl) ?_
  intro w q K' hw hq hoth
  have hq1 : q ≠ b1 := by
    rcases hq with hq | hq
    · exact (h3 q hq).2
    · rintro rfl; rw [Lg.put_ne _ _ _ hne1.symm, h5] at hq; cases hq
  have hLq : L q = none := by
    rcases hq with hq | hq
    · exact (h3 q hq).1
    · by_cases hq2 : q = b2
      · rw [hq2, Lg.put_same] at hq; cases hq
      · rw [Lg.put_ne _ _ _ hq2] at hq; exact h4.none hq
  refine hk w K' ⟨⟨some q, hw, by simp, fun b hb => ?_⟩, fun b c hb => ?_, ?_, h6⟩
  · cases hb; exact ⟨hLq, hq1⟩
  · have hbq : b ≠ q := by rintro rfl; rw [hLq] at hb; cases hb
    have hbo : bo ≠ some b := fun h9 => by rw [(h3 b h9).1] at hb; cases hb
    rw [hoth b hbq hbo]
    have hb3 : b ≠ b2 := by rintro rfl; rw [h4 _ _ hb] at hb2; cases hb2
    rw [Lg.put_ne _ _ _ hb3]
    exact h4 _ _ hb
  · rw [hoth b1 hq1.symm (fun h9 => (h3 b1 h9).2 rfl), Lg.put_ne _ _ _ hne1.symm]; exact h5
theorem fld_ld {K : Lg} {b j : Nat} {cs : List AV} {x : AV} (hb : K b = some (.raw (.cells cs))) (hx : cs[j]? = some x) (q : AV → Lg → Prop) :
    (wpOp F (.fad j) [.p (some (b, 0))] K fun v1 L1 => wpOp F (.ld none) [v1] L1 q) = q x K := by
  have : rdL K (b, j) none = some x := by rw [rdL_cell hb]; exact hx
  simp [this]
theorem reads4 (hf : H_prog_rising N F) (hs : F (N k_slices_Sort_intint) = some (kExt 0)) {L K : Lg} {b1 : Nat} {cs : List AV} {v : AV} {l : List Int} (h : RS L K b1 cs v l) (hl : l.length ≤ 1000) (hr : ∀ x, x ∈ l → regP x = true) {Q : AV → Lg → Prop}
    (hQ : ∀ r K', SlQ oneI 1 K' r (risP l) → Ext2 L K' → Q r K') : CallL F (N k_prog_rising) [v] K fun v1 L1 => fin1 (some v1) Q L1 := by
  obtain ⟨⟨bo, h1, h2, h3⟩, h4, h5, h6⟩ := h
  refine (rising_spec hf hs h1 h2 hl hr).mono ?_
  rintro r K' ⟨q1, q2⟩
  refine ⟨_, Sees.refl _, hQ r K' q1.slQ ?_⟩
  rcases q2 with rfl | ⟨b, c, rfl, rfl⟩
  · exact h4
  · exact h4.put (h3 b rfl).1 _
end Go.AM


/- prog: Reads, Writes. -/
set_option linter.unusedVariables false
set_option linter.unusedSimpArgs false
namespace Go.AM
variable {N : Nat → Nat} {F : Nat → Option AFn}
def csR (cs : List Cs3) : List Int := cs.flatMap fun c => c.chan :: (if c.send then [c.val] else [])
def rdsL (i : Ins) : List Int :=
  if i.op = 23 ∨ i.op = 24 then [i.c, i.b] else if i.op ∈ ([2, 17, 18, 19, 22, 25, 31] : List Int) then [i.b] else if i.op ∈ ([10, 21, 26] : List Int) then [i.b, i.a] else if i.op ∈ ([3, 5, 6, 11, 12, 13, 14, 20, 27, 28, 29, 30, 32] : List Int) then [i.a] else if i.op = 15 then csR i.cs else []
def wrsL (i : Ins) : List Int :=
  if i.op ∈ ([11, 30] : List Int) then [i.c, i.b] else if i.op ∈ ([13, 14, 20, 27, 28, 29, 32] : List Int) then [i.b] else if i.op ∈ ([17, 18] : List Int) then [i.c, i.a] else if i.op ∈ ([1, 2, 3, 8, 9, 16, 19, 22, 23, 24, 25, 31] : List Int) then [i.a] else if i.op = 21 then [i.c] else if i.op = 15 then [i.a, i.b, i.c] else []
theorem ops32 {n : Int} (h1 : 1 ≤ n) (h2 : n ≤ 32) : n = 1 ∨ n = 2 ∨ n = 3 ∨ n = 4 ∨ n = 5 ∨ n = 6 ∨ n = 7 ∨ n = 8 ∨ n = 9 ∨ n = 10 ∨ n = 11 ∨ n = 12 ∨ n = 13 ∨ n = 14 ∨ n = 15 ∨ n = 16 ∨ n = 17 ∨ n = 18 ∨ n = 19 ∨ n = 20 ∨ n = 21 ∨ n = 22 ∨ n = 23 ∨ n = 24 ∨ n = 25 ∨ n = 26 ∨ n = 27 ∨ n = 28 ∨ n = 29 ∨ n = 30 ∨ n = 31 ∨ n = 32 := by omega
theorem fldReg {i : Ins} {pl : Int} (hg : goodP i pl = true) (k : Nat) (hk : k < 3) (h : fldB i.op k = 114) : regP (i.abc.getD k 0) = true := by
  have h1 : fldOk i pl k = true := by
    unfold goodP at hg
    simp only [Bool.and_eq_true] at hg
    match k, hk with
    | 0, _ => exact hg.1.2.1.1
    | 1, _ => exact hg.1.2.1.2
    | 2, _ => exact hg.1.2.2
  unfold fldOk mayP at h1
  rw [if_pos h] at h1
  exact h1
theorem csReg {i : Ins} {pl : Int} (hg : goodP i pl = true) : ∀ x, x ∈ csR i.cs → regP x = true := by
  unfold goodP at hg
  simp only [Bool.and_eq_true, Bool.not_eq_true', List.any_eq_false] at hg
  intro x hx
  obtain ⟨c, hc, hx⟩ := List.mem_flatMap.1 hx
  have := hg.2 c hc
  simp only [badC, Bool.or_eq_true, not_or, Bool.not_eq_true', Bool.not_eq_false] at this
  simp only [List.mem_cons] at hx
  rcases hx with rfl | hx
  · exact this.1.1
  · split at hx
    · simp at hx; rw [hx]; exact this.1.2
    · simp at hx
theorem csR_cons (c : Cs3) (r : List Cs3) : csR (c :: r) = (c.chan :: (if c.send then [c.val] else [])) ++ csR r := rfl
theorem csR_len (cs : List Cs3) : (csR cs).length ≤ 2 * cs.length := by
  induction cs with
  | nil => simp [csR]
  | cons c r ih =>
    rw [csR_cons, List.length_append, List.length_cons, List.length_cons]
    split <;> simp <;> omega
theorem csR_snoc {cs : List Cs3} {k : Nat} {c : Cs3} (h : cs[k]? = some c) : csR (cs.take (k + 1)) = csR (cs.take k) ++ (c.chan :: (if c.send then [c.val] else [])) := by
  rw [List.take_add_one, h]
  simp [csR, List.flatMap_append]
theorem RS.junk {L K : Lg} {b1 : Nat} {cs : List AV} {v : AV} {l : List Int} (h : RS L K b1 cs v l) {b : Nat} (hb : K b = none) (c : LC) : RS L (K.put b c) b1 cs v l := by
  obtain ⟨⟨bo, h1, h2, h3⟩, h4, h5, h6⟩ := h
  refine ⟨⟨bo, ?_, h2, h3⟩, fun r d hd => ?_, ?_, h6⟩
  · cases bo with
    | none => exact h1
    | some q =>
      obtain ⟨cap, sp, ex, e1, hq, e2, e3⟩ := h1
      exact ⟨cap, sp, ex, e1, by rw [Lg.put_ne _ _ _ (by rintro rfl; rw [hb] at hq; cases hq)]; exact hq, e2, e3⟩
  · rw [Lg.put_ne _ _ _ (by rintro rfl; rw [h4 _ _ hd] at hb; cases hb)]; exact h4 _ _ hd
  · rw [Lg.put_ne _ _ _ (by rintro rfl; rw [hb] at h5; cases h5)]; exact h5
theorem RS.hold {L K : Lg} {b1 : Nat} {cs : List AV} {v : AV} {l : List Int} (h : RS L K b1 cs v l) {b : Nat} (hb : K b = none) (c : LC) : RS (L.put b c) (K.put b c) b1 cs v l := by
  have hj := h.junk hb c
  have hb1 : b ≠ b1 := by rintro rfl; rw [h.box] at hb; cases hb
  obtain ⟨⟨bo, h1, h2, h3⟩, h4, h5, h6⟩ := h
  obtain ⟨⟨bo', k1, k2, k3⟩, k4, k5, k6⟩ := hj
  refine ⟨⟨bo', k1, k2, fun q hq => ⟨?_, (k3 q hq).2⟩⟩, fun r d hd => ?_, k5, ?_⟩
  · have hqb : q ≠ b := by
      rintro rfl
      subst hq
      obtain ⟨cap, sp, ex, e1, e4, e2, e3⟩ := k1
      cases bo with
      | none => obtain ⟨e5, _⟩ := h1; rw [e5] at e1; cases e1
      | some q2 =>
        obtain ⟨_, _, _, e5, e6, _⟩ := h1
        rw [e5] at e1
        cases e1
        rw [hb] at e6; cases e6
    rw [Lg.put_ne _ _ _ hqb]; exact (k3 q hq).1
  · by_cases hr : r = b
    · subst hr; rw [Lg.put_same] at hd ⊢; exact hd
    · rw [Lg.put_ne _ _ _ hr] at hd; exact k4 _ _ hd
  · rw [Lg.put_ne _ _ _ hb1.symm]; exact h6
theorem RS.drop {L K : Lg} {b1 : Nat} {cs : List AV} {v : AV} {l : List Int} {b : Nat} {c : LC} (h : RS (L.put b c) K b1 cs v l) (hb : L b = none) : RS L K b1 cs v l := by
  have key : ∀ q, (L.put b c) q = none → L q = none := fun q hq => by
    by_cases e : q = b
    · rw [e]; exact hb
    · rwa [Lg.put_ne _ _ _ e] at hq
  obtain ⟨⟨bo, h1, h2, h3⟩, h4, h5, h6⟩ := h
  refine ⟨⟨bo, h1, h2, fun q hq => ⟨key q (h3 q hq).1, (h3 q hq).2⟩⟩, fun r d hd => h4 r d ?_, h5, key _ h6⟩
  rw [Lg.put_ne _ _ _ (by rintro rfl; rw [hb] at hd; cases hd)]; exact hd
theorem RS.push3 {L K : Lg} {b1 : Nat} {cs : List AV} (h : RS L K b1 cs (.sl none 0 0 0) []) {x y z : Int} {k : AV → Lg → Prop} (hk : ∀ w K', RS L K' b1 cs w [x, y, z] → k w K') :
    wpOp F (.bslice [.i .i64 0] 3 1 [0, 1, 2]) [.i .i64 x, .i .i64 y, .i .i64 z] K fun v3 L3 => wpOp F (.app 1 8) [.sl none 0 0 0, v3] L3 k := by
  simp
  rw [newL_bslice (c := [.i .i64 x, .i .i64 y, .i .i64 z]) _ _ (by rfl) (by rfl)]
  intro b2 hb2
  refine appW_grow (m := 3) (c := 3) (e := 0) (new := [.i .i64 x, .i .i64 y, .i .i64 z]) (by simp [rdCellsL, AB.read, cut]; rfl) (by rfl) (by omega) (by omega) (old := []) (by simp [rdCellsL]) (by simp [goneL]; rfl) ?_
  intro b hb
  have h2 := h.junk hb2 (.raw (.cells [.i .i64 x, .i .i64 y, .i .i64 z]))
  refine hk _ _ ⟨⟨some b, ⟨3, [], 1, rfl, by simp [Lg.put_apply, icl], by simp, .inr rfl⟩, by simp, fun q hq => ?_⟩, h2.ext.put (h2.ext.none hb) _, ?_, h.new⟩
  · cases hq
    exact ⟨h2.ext.none hb, by rintro rfl; rw [h2.box] at hb; cases hb⟩
  · rw [Lg.put_ne _ _ _ (by rintro rfl; rw [h2.box] at hb; cases hb)]; exact h2.box
set_option maxHeartbeats 2000000 in
theorem reads_spec (hf : H_prog_Reads N F) (hs : F (N k_slices_Sort_intint) = some (kExt 0)) {L : Lg} {i : Ins} {cv : AV} (hc : SlQ Cs3.cells 3 L cv i.cs) :
    CallL F (N k_prog_Reads) [.agg (i.cells cv)] L fun r L' => SlQ oneI 1 L' r (if goodP i 100 = true then risP (rdsL i) else []) ∧ Ext2 L L' := by
  refine CallL.opq ?_
  intro Q hQ
  apply r_prog_Reads hf.code
  unfold D_prog_Reads_1
  have hcv : cv.one = true := by obtain ⟨a, cap, ex, rfl, _⟩ := hc; rfl
  have hone : (i.cells cv).all AV.one = true := by simp [Ins.cells, hcv]
  simp
  rw [newL_box_agg _ _ _ hone]
  intro b1 hb1
  have hb : (L.put b1 (.raw (.cells (i.cells cv)))) b1 = some (.raw (.cells (i.cells cv))) := Lg.put_same _ _ _
  have hext : Ext2 L (L.put b1 (.raw (.cells (i.cells cv)))) := (Ext2.refl L).put hb1 _
  generalize hK : L.put b1 (.raw (.cells (i.cells cv))) = K at hb hext
  have f0 : rdL K (b1, 0) none = some (.i .i64 i.op) := by rw [rdL_cell hb]; rfl
  have fA : rdL K (b1, 0) (some 6) = some (.agg (i.cells cv)) := by rw [rdL_cells hb (by simp [Ins.cells])]; rfl
  unfold D_prog_Reads_2
  simp [fA]
  refine (good_spec hf.prog_good (hc.mono hext) 100).mono ?_
  rintro _ K' ⟨rfl, hK'⟩
  rw [hK']
  clear hK' K'
  cases hg : goodP i 100 with
  | false =>
    simp
    exact ⟨_, Sees.refl _, hQ _ _ ⟨by simp [hg]; exact ⟨none, 0, 0, rfl, by simp, .inl rfl, .inl rfl⟩, hext⟩⟩
  | true =>
  have rs : RS L K b1 (i.cells cv) (.sl none 0 0 0) [] := ⟨⟨none, ⟨rfl, rfl⟩, by simp, by simp⟩, hext, hb, hb1⟩
  have fin : ∀ {K' : Lg} {v : AV} {l : List Int}, RS L K' b1 (i.cells cv) v l → l = rdsL i → l.length ≤ 1000 → (∀ x, x ∈ l → regP x = true) → D_prog_Reads_4 F N Q v K' := by
    intro K' v l h he h1 h2
    refine reads4 hf.prog_rising hs h h1 h2 fun r K2 h3 h4 => hQ r K2 ⟨?_, h4⟩
    rw [hg, if_pos rfl, ← he]; exact h3
  have l1 : ∀ {K' : Lg} {v : AV} {l : List Int}, RS L K' b1 (i.cells cv) v l → l ++ [i.a] = rdsL i → l.length ≤ 900 → (∀ x, x ∈ l ++ [i.a] → regP x = true) → D_prog_Reads_16 F N Q (.p (some (b1, 0))) v K' := by
    intro K' v l h he h1 h2
    unfold D_prog_Reads_16
    rw [fld_ld h.box (x := .i .i64 i.a) rfl]
    exact h.push (by omega) fun w K2 h3 => fin h3 he (by simp; omega) h2
  have l2 : ∀ {K' : Lg} {v : AV} {l : List Int}, RS L K' b1 (i.cells cv) v l → l ++ [i.b] = rdsL i → l.length ≤ 900 → (∀ x, x ∈ l ++ [i.b] → regP x = true) → D_prog_Reads_22 F N Q (.p (some (b1, 0))) v K' := by
    intro K' v l h he h1 h2
    unfold D_prog_Reads_22
    rw [fld_ld h.box (x := .i .i64 i.b) rfl]
    exact h.push (by omega) fun w K2 h3 => fin h3 he (by simp; omega) h2
  have l3 : [i.b] ++ [i.a] = rdsL i → (∀ x, x ∈ [i.b] ++ [i.a] → regP x = true) → D_prog_Reads_19 F N Q (.p (some (b1, 0))) (.sl none 0 0 0) K := by
    intro he h2
    unfold D_prog_Reads_19
    rw [fld_ld rs.box (x := .i .i64 i.b) rfl]
    exact rs.push (by simp) fun w K2 h3 => l1 h3 he (by simp) h2
  have l4 : [i.c] ++ [i.b] = rdsL i → (∀ x, x ∈ [i.c] ++ [i.b] → regP x = true) → D_prog_Reads_25 F N Q (.p (some (b1, 0))) (.sl none 0 0 0) K := by
    intro he h2
    unfold D_prog_Reads_25
    rw [fld_ld rs.box (x := .i .i64 i.c) rfl]
    exact rs.push (by simp) fun w K2 h3 => l2 h3 he (by simp) h2
  have ra : fldB i.op 0 = 114 → regP i.a = true := fldReg hg 0 (by omega)
  have rb : fldB i.op 1 = 114 → regP i.b = true := fldReg hg 1 (by omega)
  have rc : fldB i.op 2 = 114 → regP i.c = true := fldReg hg 2 (by omega)
  have hop : 1 ≤ i.op ∧ i.op ≤ 32 := by
    unfold goodP at hg
    simp only [Bool.and_eq_true, decide_eq_true_eq] at hg
    exact hg.1.1.1.1
  have l5 : i.op = 15 → ∀ l : Env, l 1 = .p (some (b1, 0)) → l 2 = .sl none 0 0 0 → D_prog_Reads_10 F N Q l K := by
    intro h15 l e1 e2
    unfold D_prog_Reads_10
    rw [e1, fld_ld hb (x := cv) rfl]
    have hrd : rdsL i = csR i.cs := by simp [rdsL, h15]
    have hlen := fun X k => hc.len (F := F) X k
    have hcl : i.cs.length ≤ 16 := by
      have := hg
      unfold goodP at this
      simp only [Bool.and_eq_true, decide_eq_true_eq] at this
      exact this.1.1.2
    simp [hlen]
    unfold D_prog_Reads_12
    obtain ⟨I, hI⟩ : ∃ I : Nat → Env → Lg → Prop, I = fun m E K' => ∃ k : Nat, m + k = i.cs.length ∧ E 62 = cv ∧ E 63 = .i .i64 i.cs.length ∧ E 64 = .i .i64 k ∧ RS L K' b1 (i.cells cv) (E 2) (csR (i.cs.take k)) := ⟨_, rfl⟩
    refine loopW_intro I i.cs.length ?_ ?_
    · rw [hI]
      exact ⟨0, by omega, by simp, by simp, by simp, by simpa [csR, e2] using rs⟩
    intro m E t K' hi
    rw [hI] at hi
    obtain ⟨k, hm, g1, g2, g3, g4⟩ := hi
    unfold D_prog_Reads_13
    rw [g1, g2, g3]
    by_cases hk : ¬ k < i.cs.length
    · have : ¬ ((k : Int) < (i.cs.length : Int)) := by omega
      simp [this, D_prog_Reads_9]
      have hke : k = i.cs.length := by omega
      rw [hke, List.take_length] at g4
      exact fin g4 hrd.symm (by have := csR_len i.cs; omega) (csReg hg)
    have hk : k < i.cs.length := by omega
    have hck : i.cs[k]? = some i.cs[k] := List.getElem?_eq_getElem hk
    obtain ⟨b, o, h1, h2, h3⟩ := (hc.mono g4.ext).get (F := F) hck
    have h4 := (h2 K' (SubL.refl _)).2
    have c1 : ((k : Int) < (i.cs.length : Int)) := by omega
    have w1 : wr .i64 ((k : Int) + 1) = ((k + 1 : Nat) : Int) := by rw [wr_id (by omega) (by omega)]; omega
    simp [c1, h1, h4]
    intro b' hb'
    rw [stL_cells (Lg.put_same _ _ _) (by rfl) (by rfl) (by simp), Lg.put_put]
    have hsp : splice [AV.b false, .i .i64 0, .i .i64 0] 0 i.cs[k].cells = i.cs[k].cells := by rfl
    rw [hsp]
    have hbb : (K'.put b' (.raw (.cells i.cs[k].cells))) b' = some (.raw (.cells i.cs[k].cells)) := Lg.put_same _ _ _
    have hLb : L b' = none := g4.ext.none hb'
    have g5 := g4.hold hb' (.raw (.cells i.cs[k].cells))
    rw [fld_ld hbb (x := .i .i64 i.cs[k].chan) rfl]
    have hcl2 := csR_len (i.cs.take k)
    have hcl3 : (i.cs.take k).length ≤ 16 := by rw [List.length_take]; omega
    refine g5.push (by omega) fun w K4 g6 => ?_
    have hb4 : K4 b' = some (.raw (.cells i.cs[k].cells)) := g6.ext _ _ (Lg.put_same _ _ _)
    rw [fld_ld hb4 (x := .b i.cs[k].send) rfl]
    have sn := csR_snoc hck
    cases hsend : i.cs[k].send with
    | false =>
      simp [w1]
      refine ⟨i.cs.length - (k + 1), by omega, ?_⟩
      rw [hI]
      refine ⟨k + 1, by omega, by simp [g1], by simp [g2], by simp, ?_⟩
      rw [sn, hsend]
      simpa using g6.drop hLb
    | true =>
      simp only [condW_t]
      rw [fld_ld hb4 (x := .i .i64 i.cs[k].val) rfl]
      refine g6.push (by simp; omega) fun w2 K5 g7 => ?_
      simp [w1]
      refine ⟨i.cs.length - (k + 1), by omega, ?_⟩
      rw [hI]
      refine ⟨k + 1, by omega, by simp [g1], by simp [g2], by simp, ?_⟩
      rw [sn, hsend]
      simpa using g7.drop hLb
  simp
  unfold D_prog_Reads_5
  simp [f0]
  unfold D_prog_Reads_29 D_prog_Reads_30 D_prog_Reads_31 D_prog_Reads_32 D_prog_Reads_33
  rcases ops32 hop.1 hop.2 with h | h | h | h | h | h | h | h | h | h | h | h | h | h | h | h | h | h | h | h | h | h | h | h | h | h | h | h | h | h | h | h
  all_goals simp [h]
  all_goals first
    | exact l5 h _ (by simp) (by simp)
    | exact fin rs (by simp [rdsL, h]) (by simp) (by simp)
    | exact l1 rs (by simp [rdsL, h]) (by simp) (by simpa using ra (by rw [h]; decide))
    | exact l2 rs (by simp [rdsL, h]) (by simp) (by simpa using rb (by rw [h]; decide))
    | exact l3 (by simp [rdsL, h]) (by simpa using ⟨rb (by rw [h]; decide), ra (by rw [h]; decide)⟩)
    | exact l4 (by simp [rdsL, h]) (by simpa using ⟨rc (by rw [h]; decide), rb (by rw [h]; decide)⟩)

set_option maxHeartbeats 2000000 in
theorem writes_spec (hf : H_prog_Writes N F) (hs : F (N k_slices_Sort_intint) = some (kExt 0)) {L : Lg} {i : Ins} {cv : AV} (hc : SlQ Cs3.cells 3 L cv i.cs) :
    CallL F (N k_prog_Writes) [.agg (i.cells cv)] L fun r L' => SlQ oneI 1 L' r (if goodP i 100 = true then risP (wrsL i) else []) ∧ Ext2 L L' := by
  refine CallL.opq ?_
  intro Q hQ
  apply r_prog_Writes hf.code
  unfold D_prog_Writes_1
  have hcv : cv.one = true := by obtain ⟨a, cap, ex, rfl, _⟩ := hc; rfl
  have hone : (i.cells cv).all AV.one = true := by simp [Ins.cells, hcv]
  simp
  rw [newL_box_agg _ _ _ hone]
  intro b1 hb1
  have hb : (L.put b1 (.raw (.cells (i.cells cv)))) b1 = some (.raw (.cells (i.cells cv))) := Lg.put_same _ _ _
  have hext : Ext2 L (L.put b1 (.raw (.cells (i.cells cv)))) := (Ext2.refl L).put hb1 _
  generalize hK : L.put b1 (.raw (.cells (i.cells cv))) = K at hb hext
  have f0 : rdL K (b1, 0) none = some (.i .i64 i.op) := by rw [rdL_cell hb]; rfl
  have fA : rdL K (b1, 0) (some 6) = some (.agg (i.cells cv)) := by rw [rdL_cells hb (by simp [Ins.cells])]; rfl
  unfold D_prog_Writes_2
  simp [fA]
  refine (good_spec hf.prog_good (hc.mono hext) 100).mono ?_
  rintro _ K' ⟨rfl, hK'⟩
  rw [hK']
  clear hK' K'
  cases hg : goodP i 100 with
  | false =>
    simp
    exact ⟨_, Sees.refl _, hQ _ _ ⟨by simp [hg]; exact ⟨none, 0, 0, rfl, by simp, .inl rfl, .inl rfl⟩, hext⟩⟩
  | true =>
  have rs : RS L K b1 (i.cells cv) (.sl none 0 0 0) [] := ⟨⟨none, ⟨rfl, rfl⟩, by simp, by simp⟩, hext, hb, hb1⟩
  have fin : ∀ {K' : Lg} {v : AV} {l : List Int}, RS L K' b1 (i.cells cv) v l → l = wrsL i → l.length ≤ 1000 → (∀ x, x ∈ l → regP x = true) → D_prog_Writes_4 F N Q v K' := by
    intro K' v l h he h1 h2
    refine reads4 hf.prog_rising hs h h1 h2 fun r K2 h3 h4 => hQ r K2 ⟨?_, h4⟩
    rw [hg, if_pos rfl, ← he]; exact h3
  have l1 : ∀ {K' : Lg} {v : AV} {l : List Int}, RS L K' b1 (i.cells cv) v l → l ++ [i.a] = wrsL i → l.length ≤ 900 → (∀ x, x ∈ l ++ [i.a] → regP x = true) → D_prog_Writes_14 F N Q (.p (some (b1, 0))) v K' := by
    intro K' v l h he h1 h2
    unfold D_prog_Writes_14
    rw [fld_ld h.box (x := .i .i64 i.a) rfl]
    exact h.push (by omega) fun w K2 h3 => fin h3 he (by simp; omega) h2
  have l2 : ∀ {K' : Lg} {v : AV} {l : List Int}, RS L K' b1 (i.cells cv) v l → l ++ [i.b] = wrsL i → l.length ≤ 900 → (∀ x, x ∈ l ++ [i.b] → regP x = true) → D_prog_Writes_20 F N Q (.p (some (b1, 0))) v K' := by
    intro K' v l h he h1 h2
    unfold D_prog_Writes_20
    rw [fld_ld h.box (x := .i .i64 i.b) rfl]
    exact h.push (by omega) fun w K2 h3 => fin h3 he (by simp; omega) h2
  have l3 : [i.c] = wrsL i → (∀ x, x ∈ [i.c] → regP x = true) → D_prog_Writes_11 F N Q (.p (some (b1, 0))) (.sl none 0 0 0) K := by
    intro he h2
    unfold D_prog_Writes_11
    rw [fld_ld rs.box (x := .i .i64 i.c) rfl]
    exact rs.push (by simp) fun w K2 h3 => fin h3 he (by simp) h2
  have l4 : [i.c] ++ [i.a] = wrsL i → (∀ x, x ∈ [i.c] ++ [i.a] → regP x = true) → D_prog_Writes_17 F N Q (.p (some (b1, 0))) (.sl none 0 0 0) K := by
    intro he h2
    unfold D_prog_Writes_17
    rw [fld_ld rs.box (x := .i .i64 i.c) rfl]
    exact rs.push (by simp) fun w K2 h3 => l1 h3 he (by simp) h2
  have l6 : [i.c] ++ [i.b] = wrsL i → (∀ x, x ∈ [i.c] ++ [i.b] → regP x = true) → D_prog_Writes_23 F N Q (.p (some (b1, 0))) (.sl none 0 0 0) K := by
    intro he h2
    unfold D_prog_Writes_23
    rw [fld_ld rs.box (x := .i .i64 i.c) rfl]
    exact rs.push (by simp) fun w K2 h3 => l2 h3 he (by simp) h2
  have ra : fldB i.op 0 = 114 → regP i.a = true := fldReg hg 0 (by omega)
  have rb : fldB i.op 1 = 114 → regP i.b = true := fldReg hg 1 (by omega)
  have rc : fldB i.op 2 = 114 → regP i.c = true := fldReg hg 2 (by omega)
  have hop : 1 ≤ i.op ∧ i.op ≤ 32 := by
    unfold goodP at hg
    simp only [Bool.and_eq_true, decide_eq_true_eq] at hg
    exact hg.1.1.1.1
  have l5 : [i.a, i.b, i.c] = wrsL i → (∀ x, x ∈ [i.a, i.b, i.c] → regP x = true) → D_prog_Writes_8 F N Q (.p (some (b1, 0))) (.sl none 0 0 0) K := by
    intro he h2
    unfold D_prog_Writes_8
    rw [fld_ld hb (x := .i .i64 i.a) rfl, fld_ld hb (x := .i .i64 i.b) rfl, fld_ld hb (x := .i .i64 i.c) rfl]
    exact rs.push3 fun w K2 h3 => fin h3 he (by simp) h2
  simp
  unfold D_prog_Writes_5
  simp [f0]
  unfold D_prog_Writes_27 D_prog_Writes_28 D_prog_Writes_29 D_prog_Writes_30 D_prog_Writes_31 D_prog_Writes_26
  rcases ops32 hop.1 hop.2 with h | h | h | h | h | h | h | h | h | h | h | h | h | h | h | h | h | h | h | h | h | h | h | h | h | h | h | h | h | h | h | h
  all_goals simp [h]
  all_goals first
    | exact l5 (by simp [wrsL, h]) (by simpa using ⟨ra (by rw [h]; decide), rb (by rw [h]; decide), rc (by rw [h]; decide)⟩)
    | exact fin rs (by simp [wrsL, h]) (by simp) (by simp)
    | exact l1 rs (by simp [wrsL, h]) (by simp) (by simpa using ra (by rw [h]; decide))
    | exact l2 rs (by simp [wrsL, h]) (by simp) (by simpa using rb (by rw [h]; decide))
    | exact l3 (by simp [wrsL, h]) (by simpa using rc (by rw [h]; decide))
    | exact l4 (by simp [wrsL, h]) (by simpa using ⟨rc (by rw [h]; decide), ra (by rw [h]; decide)⟩)
    | exact l6 (by simp [wrsL, h]) (by simpa using ⟨rc (by rw [h]; decide), rb (by rw [h]; decide)⟩)
end Go.AM


/- the document's clock: it does what the program's does. -/
set_option linter.unusedVariables false
set_option linter.unusedSimpArgs false
namespace Go.AM
variable {N : Nat → Nat} {F : Nat → Option AFn}
end Go.AM


/- timer: Reset, Fire. -/
set_option linter.unusedVariables false
set_option linter.unusedSimpArgs false
namespace Go.AM
variable {N : Nat → Nat} {F : Nat → Option AFn}
section
variable {L K : Lg} {s t : Nat} {σ : Tms}
end
end Go.AM


/- one timer: what its acts make of it; in plain Lean. -/
set_option linter.unusedVariables false
set_option linter.unusedSimpArgs false
namespace Go.AM

theorem held_id {t : Int} (h : -4611686018427387904 ≤ t) (k : t ≤ 4611686018427387904) : held t = t := by unfold held; omega
theorem clockAdd_id {t d : Int} (h : 0 ≤ t) (k : 0 ≤ d) (b : t + d ≤ 4611686018427387904) : clockAdd t d = t + d := by
  unfold clockAdd
  rw [held_id (t := t) (by omega) (by omega), held_id (t := d) (by omega) (by omega), held_id (by omega) (by omega)]
/-- one timer that is armed -/
structure Sg (σ : Tms) (k dat : Int) (c : Option Nat) (g due q p : Int) : Prop where
  ones : σ.ones = [⟨k, dat, c, g⟩]
  l : σ.x.l = [⟨0, due, q⟩]
  seq : σ.x.seq = q
  pf : σ.x.pf 0 = some p
/-- one timer that is not -/
structure Idl (σ : Tms) (k dat : Int) (c : Option Nat) (g q : Int) : Prop where
  ones : σ.ones = [⟨k, dat, c, g⟩]
  l : σ.x.l = []
  seq : σ.x.seq = q
def Tms.nil : Tms := ⟨[], ⟨[], 0, fun _ => none⟩, 0⟩
theorem badT_ok {a b : Int} (h1 : 0 ≤ a) (h2 : 0 ≤ b) (h3 : a ≤ 4611686018427387904) (h4 : b ≤ 4611686018427387904) : badT a b = false := by
  simp [badT]; omega
section
variable {σ : Tms} {k dat g due q p : Int} {c : Option Nat}
theorem Sg.sorted (h : Sg σ k dat c g due q p) : σ.x.l.Pairwise It.lt := by rw [h.l]; simp
theorem Idl.sorted (h : Idl σ k dat c g q) : σ.x.l.Pairwise It.lt := by rw [h.l]; simp
theorem Sg.one (h : Sg σ k dat c g due q p) : σ.one 0 = some ⟨k, dat, c, g⟩ := by simp [Tms.one, Tms.has, h.ones]
theorem Idl.one (h : Idl σ k dat c g q) : σ.one 0 = some ⟨k, dat, c, g⟩ := by simp [Tms.one, Tms.has, h.ones]
theorem Sg.len (h : Sg σ k dat c g due q p) : σ.x.l.length < 1000000 := by rw [h.l]; simp
theorem Idl.len (h : Idl σ k dat c g q) : σ.x.l.length < 1000000 := by rw [h.l]; simp
theorem Sg.stop (h : Sg σ k dat c g due q p) : Idl { σ with x := σ.x.stop 0 } k dat c g q := ⟨h.ones, by simp [Xs.stop, h.l, rmId], h.seq⟩
theorem Idl.stop (h : Idl σ k dat c g q) : Idl { σ with x := σ.x.stop 0 } k dat c g q := ⟨h.ones, by simp [Xs.stop, h.l, rmId], h.seq⟩
theorem Sg.next (h : Sg σ k dat c g due q p) : σ.x.next = (due, true) := by simp [Xs.next, h.l]
end
end Go.AM


/- sets of timers whatever: what is kept; in plain Lean. -/
set_option linter.unusedVariables false
set_option linter.unusedSimpArgs false
namespace Go.AM
/-- what is so of what will be due -/
structure XG (x : Xs) (K : Int) : Prop where
  sorted : x.l.Pairwise It.lt
  nd : (x.l.map It.id).Nodup
  below : ∀ y ∈ x.l, y.s ≤ x.seq
  pos : 0 ≤ x.seq
  seq : x.seq ≤ K
  len : (x.l.length : Int) ≤ K
  per : ∀ y ∈ x.l, ∃ p, x.pf y.id = some p ∧ 0 ≤ p ∧ p ≤ 4611686018427387904
  time : ∀ y ∈ x.l, 0 ≤ y.w ∧ y.w ≤ 4611686018427387904
theorem rmId_mem {id : Int} {l : List It} {y : It} : y ∈ rmId id l ↔ y ∈ l ∧ y.id ≠ id := by simp [rmId]
theorem XG.mono {x : Xs} {K K' : Int} (h : XG x K) (hk : K ≤ K') : XG x K' := ⟨h.sorted, h.nd, h.below, h.pos, Int.le_trans h.seq hk, Int.le_trans h.len hk, h.per, h.time⟩
theorem XG.stop {x : Xs} {K : Int} (h : XG x K) (id : Int) : XG (x.stop id) K := by
  have sub : (rmId id x.l).Sublist x.l := List.filter_sublist
  refine ⟨h.sorted.sublist sub, h.nd.sublist (sub.map _), ?_, h.pos, h.seq, ?_, ?_, ?_⟩
  · intro y hy; exact h.below y (rmId_mem.1 hy).1
  · have h1 := sub.length_le
    have h2 := h.len
    have h3 : ((rmId id x.l).length : Int) ≤ (x.l.length : Int) := by omega
    exact Int.le_trans h3 h2
  · intro y hy
    have hy' := rmId_mem.1 hy
    obtain ⟨p, h1, h2⟩ := h.per y hy'.1
    have hn : ¬ id = y.id := fun h9 => hy'.2 h9.symm
    exact ⟨p, by simp [Xs.stop, updI, hn, hy'.2, h1], h2⟩
  · intro y hy; exact h.time y (rmId_mem.1 hy).1
theorem stop_mem {x : Xs} {id : Int} {y : It} : y ∈ (x.stop id).l ↔ y ∈ x.l ∧ y.id ≠ id := rmId_mem
theorem ins_mem {x y : It} {l : List It} : y ∈ ins x l ↔ y = x ∨ y ∈ l := by rw [(ins_perm x l).mem_iff]; simp
theorem XG.arm {x : Xs} {K : Int} (h : XG x K) (id when p : Int) (h1 : 0 ≤ when) (h2 : 0 ≤ p) (h3 : when ≤ 4611686018427387904) (h4 : p ≤ 4611686018427387904) :
    XG (x.arm id when p).1 (K + 1) ∧ (∀ y, y ∈ (x.arm id when p).1.l ↔ y = ⟨id, when, x.seq + 1⟩ ∨ (y ∈ x.l ∧ y.id ≠ id)) ∧ (x.arm id when p).1.pf id = some p ∧ (∀ j, j ≠ id → (x.arm id when p).1.pf j = x.pf j) ∧ (x.arm id when p).1.seq = x.seq + 1 := by
  have hb := badT_ok h1 h2 h3 h4
  have e : (x.arm id when p).1 = x.armed id when p := by simp [Xs.arm, hb]
  rw [e]
  have mem : ∀ y, y ∈ (x.armed id when p).l ↔ y = ⟨id, when, x.seq + 1⟩ ∨ (y ∈ x.l ∧ y.id ≠ id) := by
    intro y
    simp only [Xs.armed]
    rw [ins_mem, rmId_mem]
  have hs := h.stop id
  refine ⟨⟨?_, ?_, ?_, ?_, ?_, ?_, ?_, ?_⟩, mem, by simp [Xs.armed, updI], ?_, rfl⟩
  · refine ins_sorted hs.sorted ?_
    intro y hy
    have := h.below y (rmId_mem.1 hy).1
    simp; omega
  · simp only [Xs.armed]
    rw [((ins_perm _ _).map It.id).nodup_iff]
    simp only [List.map_cons, List.nodup_cons]
    refine ⟨?_, hs.nd⟩
    intro h9
    obtain ⟨y, hy, hyi⟩ := List.mem_map.1 h9
    exact (rmId_mem.1 hy).2 hyi
  · intro y hy
    rcases (mem y).1 hy with rfl | ⟨h5, _⟩
    · simp [Xs.armed]
    · have := h.below y h5; simp [Xs.armed]; omega
  · have := h.pos; simp [Xs.armed]; omega
  · have := h.seq; simp [Xs.armed]; omega
  · have h5 := hs.len
    simp only [Xs.armed, (ins_perm _ _).length_eq, List.length_cons]
    simp only [Xs.stop] at h5
    omega
  · intro y hy
    rcases (mem y).1 hy with rfl | ⟨h5, h6⟩
    · exact ⟨p, by simp [Xs.armed, updI], h2, h4⟩
    · obtain ⟨q, h7, h8⟩ := h.per y h5
      have hn : ¬ id = y.id := fun h9 => h6 h9.symm
      exact ⟨q, by simp [Xs.armed, updI, hn, h6, h7], h8⟩
  · intro y hy
    rcases (mem y).1 hy with rfl | ⟨h5, h6⟩
    · exact ⟨h1, h3⟩
    · exact h.time y h5
  · intro j hj
    have hn : ¬ id = j := fun h9 => hj h9.symm
    simp [Xs.armed, updI, hn, hj]
/-- what is due is taken: or nothing is -/
theorem XG.take {x : Xs} {K : Int} (h : XG x K) {now : Int} (hn : 0 ≤ now) (hb : now ≤ 2305843009213693952) (hp : ∀ y ∈ x.l, ∀ p, x.pf y.id = some p → p ≤ 2305843009213693952) :
    ((∀ y ∈ x.l, now < y.w) ∧ x.take now = (x, (0, 0, 0), false)) ∨
    ∃ (x' : Xs) (y : It), y ∈ x.l ∧ y.w ≤ now ∧ (∀ z ∈ x.l, ¬ z.lt y) ∧ x.take now = (x', (y.id, y.w, now), true) ∧ XG x' (K + 1) ∧ (∀ j, j ≠ y.id → x'.pf j = x.pf j) ∧ 
      ((x.pf y.id = some 0 ∧ ∀ z, z ∈ x'.l ↔ z ∈ x.l ∧ z.id ≠ y.id) ∨
       ∃ p, 0 < p ∧ x.pf y.id = some p ∧ x'.pf y.id = some p ∧ ∀ z, z ∈ x'.l ↔ (z = ⟨y.id, now + (p - (now - y.w) % p), x.seq + 1⟩ ∨ (z ∈ x.l ∧ z.id ≠ y.id))) := by
  cases hl : x.l with
  | nil => left; simp [Xs.take, hl]
  | cons y r =>
    have hs := h.sorted
    rw [hl, List.pairwise_cons] at hs
    have hy : y ∈ x.l := by rw [hl]; simp
    obtain ⟨t0, t1⟩ := h.time y hy
    by_cases hw : now < y.w
    · left
      refine ⟨?_, by simp [Xs.take, hl, hw]⟩
      intro z hz
      rcases List.mem_cons.1 hz with rfl | hz
      · exact hw
      · have := hs.1 z hz
        unfold It.lt at this
        omega
    · right
      obtain ⟨p, hp1, hp2, hp3⟩ := h.per y hy
      have hp4 := hp y hy p hp1
      have c1 : ¬ (now < 0 ∨ now < y.w) := by omega
      have hmin : ∀ z ∈ y :: r, ¬ z.lt y := by
        intro z hz
        rcases List.mem_cons.1 hz with rfl | hz
        · exact It.lt_irrefl _
        · exact It.lt_asymm (hs.1 z hz)
      by_cases hp0 : p = 0
      · subst hp0
        refine ⟨x.stop y.id, y, by simp, by omega, hmin, by simp [Xs.take, hl, c1, hp1, clockNext], (h.stop y.id).mono (by omega), ?_, .inl ⟨hp1, fun z => ?_⟩⟩
        · intro j hj
          have hn : ¬ y.id = j := fun h9 => hj h9.symm
          simp [Xs.stop, updI, hn, hj]
        · rw [stop_mem, hl]
      · have hpp : 0 < p := by omega
        have m0 := Int.emod_nonneg (now - y.w) (show p ≠ 0 by omega)
        have m1 := Int.emod_lt_of_pos (now - y.w) hpp
        have c2 : ¬ (p < 1 ∨ min y.w now < 0 ∨ 4611686018427387904 < max y.w (max p now)) := by omega
        have c3 : ¬ now < y.w := by omega
        have e1 : (now - y.w).tmod p = (now - y.w) % p := Int.tmod_eq_emod_of_nonneg (by omega)
        have e2 : clockNext y.w p now = (now + (p - (now - y.w) % p), 0) := by
          simp only [clockNext, if_neg c2, if_neg c3, e1]
          rw [clockAdd_id (by omega) (by omega) (by omega)]
        have e3 : now < now + (p - (now - y.w) % p) := by omega
        obtain ⟨a1, a2, a3, a4, a5⟩ := (h.stop y.id).arm y.id (now + (p - (now - y.w) % p)) p (by omega) (by omega) (by omega) (by omega)
        refine ⟨((x.stop y.id).arm y.id (now + (p - (now - y.w) % p)) p).1, y, by simp, by omega, hmin, ?_, a1, ?_, .inr ⟨p, hpp, hp1, a3, fun z => ?_⟩⟩
        · simp [Xs.take, hl, c1, hp1, e2, e3]
        · intro j hj
          have hn : ¬ y.id = j := fun h9 => hj h9.symm
          rw [a4 j hj]
          simp [Xs.stop, updI, hn, hj]
        · rw [a2, stop_mem, hl]
          constructor
          · rintro (h1 | ⟨⟨h1, h2⟩, h3⟩)
            · exact .inl h1
            · exact .inr ⟨h1, h2⟩
          · rintro (h1 | ⟨h1, h2⟩)
            · exact .inl h1
            · exact .inr ⟨⟨h1, h2⟩, h2⟩
end Go.AM


/- the document's timers: find, in plain; what is opened. -/
set_option linter.unusedVariables false
set_option linter.unusedSimpArgs false
namespace Go.AM
variable {N : Nat → Nat} {F : Nat → Option AFn}
/-- the periods, as the document keeps them: in a row -/
def per3 (p : Int × Int) : List AV := [.i .i64 p.1, .i .i64 p.2, .i .i64 0]
def perOf (id : Int) : List (Int × Int) → Option Int
  | [] => none
  | p :: r => if p.1 = id then some p.2 else perOf id r
def rmP (id : Int) : List (Int × Int) → List (Int × Int)
  | [] => []
  | p :: r => if p.1 = id then r else p :: rmP id r
theorem perOf_no {id : Int} : ∀ {l : List (Int × Int)}, (∀ y ∈ l, y.1 ≠ id) → perOf id l = none
  | [], _ => rfl
  | a :: r, h => by simp [perOf, h a (by simp), perOf_no (l := r) (fun y hy => h y (by simp [hy]))]
theorem rmP_mem {id : Int} : ∀ {l : List (Int × Int)} {y : Int × Int}, y ∈ rmP id l → y ∈ l
  | [], y, h => by simp [rmP] at h
  | a :: r, y, h => by
    simp only [rmP] at h
    split at h
    · simp [h]
    · rcases List.mem_cons.1 h with h | h
      · simp [h]
      · simp [rmP_mem h]
theorem rmP_nd {id : Int} : ∀ {l : List (Int × Int)}, (l.map (·.1)).Nodup → ((rmP id l).map (·.1)).Nodup ∧ (∀ y ∈ rmP id l, y.1 ≠ id) ∧ ∀ j, perOf j (rmP id l) = updI (fun k => perOf k l) id none j
  | [], _ => ⟨by simp [rmP], by simp [rmP], fun j => by simp [rmP, perOf, updI]⟩
  | a :: r, nd => by
    simp only [List.map_cons, List.nodup_cons] at nd
    obtain ⟨h1, h2, h3⟩ := rmP_nd (id := id) nd.2
    by_cases h : a.1 = id
    · have hn : ∀ y ∈ r, y.1 ≠ id := fun y hy h9 => nd.1 (by rw [h, ← h9]; exact List.mem_map_of_mem hy)
      refine ⟨by simpa [rmP, h] using nd.2, by simpa [rmP, h] using hn, fun j => ?_⟩
      simp only [rmP, h, if_true, updI, perOf]
      by_cases hj : id = j
      · subst hj; simp [perOf_no hn]
      · simp [hj]
    · refine ⟨?_, ?_, fun j => ?_⟩
      · simp only [rmP, h, if_false, List.map_cons, List.nodup_cons]
        refine ⟨fun h9 => ?_, h1⟩
        obtain ⟨y, hy, he⟩ := List.mem_map.1 h9
        exact nd.1 (by rw [← he]; exact List.mem_map_of_mem (rmP_mem hy))
      · intro y hy
        simp only [rmP, h, if_false] at hy
        rcases List.mem_cons.1 hy with rfl | hy
        · exact h
        · exact h2 y hy
      · have := h3 j
        simp only [updI] at this
        simp only [rmP, h, if_false, updI, perOf, this]
        by_cases hj : id = j
        · subst hj; simp [h]
        · simp [hj]
theorem perOf_append {id p j : Int} : ∀ {l : List (Int × Int)}, (∀ y ∈ l, y.1 ≠ id) → perOf j (l ++ [(id, p)]) = updI (fun k => perOf k l) id (some p) j
  | [], _ => by simp [perOf, updI]
  | a :: r, h => by
    have := perOf_append (id := id) (p := p) (j := j) (l := r) (fun y hy => h y (by simp [hy]))
    have h0 := h a (by simp)
    simp only [updI] at this
    simp only [List.cons_append, perOf, this, updI]
    by_cases hj : id = j
    · subst hj; simp [h0]
    · simp [hj]
/-- how the document keeps a set of timers -/
structure ROpen (L : Lg) (u : Nat) (σ : Tms) (per : List (Int × Int)) (sv pv ov : AV) (K : Lg) : Prop where
  root : K u = some (.raw (.cells [sv, .i .i64 σ.x.seq, pv, ov, .i .i64 σ.named]))
  hs : OSe K sv (flatc It.cells σ.x.l) σ.x.l.length 3
  ps : OSe K pv (flatc per3 per) per.length 3
  os : OSl K ov (flatc On.cells σ.ones) σ.ones.length 4
  a1 : ∀ b, slB sv = some b → b ≠ u ∧ L b = none
  a2 : ∀ b, slB pv = some b → b ≠ u ∧ L b = none ∧ slB sv ≠ some b
  a3 : ∀ b, slB ov = some b → b ≠ u ∧ L b = none ∧ slB sv ≠ some b ∧ slB pv ≠ some b
  old : ∀ r d, r ≠ u → L r = some d → K r = some d
theorem OSe.one {K : Lg} {v : AV} {cs : List AV} {n size : Nat} (h : OSe K v cs n size) : v.one = true := by
  rcases h with h | ⟨_, _, b, rfl, _⟩
  · exact h.one
  · rfl
theorem OSe.cellsOf {K : Lg} {v : AV} {cs : List AV} {n size : Nat} (h : OSe K v cs n size) : v.cellsOf = some [v] := by
  rcases h with h | ⟨_, _, b, rfl, _⟩
  · exact h.cellsOf
  · rfl
theorem OSe.same {K : Lg} {v : AV} {cs : List AV} {n size : Nat} (h : OSe K v cs n size) : sameV v v = true := by
  rcases h with (⟨_, _, rfl⟩ | ⟨b, ex, _, rfl, _⟩) | ⟨_, _, b, rfl, _⟩ <;> simp
theorem OSe.mono {K K' : Lg} {v : AV} {cs : List AV} {n size : Nat} (h : OSe K v cs n size) (e : ∀ b, slB v = some b → K' b = K b) : OSe K' v cs n size := by
  rcases h with h | ⟨h1, h2, b, rfl, h3⟩
  · exact .inl (h.mono e)
  · exact .inr ⟨h1, h2, b, rfl, by rw [e b rfl]; exact h3⟩
theorem OSe.sub {K K' : Lg} {v : AV} {cs : List AV} {n size : Nat} (h : OSe K v cs n size) (e : ∀ b d, slB v = some b → K b = some d → K' b = some d) : OSe K' v cs n size :=
  h.mono fun b hb => by rw [h.block hb]; exact e b _ hb (h.block hb)
theorem OSl.sub {K K' : Lg} {v : AV} {cs : List AV} {n size : Nat} (h : OSl K v cs n size) (e : ∀ b d, slB v = some b → K b = some d → K' b = some d) : OSl K' v cs n size :=
  h.mono fun b hb => by rw [h.block hb]; exact e b _ hb (h.block hb)
end Go.AM


/- the document's heap: Find, Remove, put. -/
set_option linter.unusedVariables false
set_option linter.unusedSimpArgs false
namespace Go.AM
variable {N : Nat → Nat} {F : Nat → Option AFn}
/-- a slice that began as an empty literal behind K0 -/
structure LitS (K0 : Lg) (v : AV) (cs : List AV) (n z : Nat) (K1 : Lg) : Prop where
  o : OSe K1 v cs n z
  s : SubL K0 K1
  f : ∀ b, slB v = some b → K0 b = none
theorem SubL.none {K0 K1 : Lg} (h : SubL K0 K1) {b : Nat} (hb : K1 b = Option.none) : K0 b = Option.none := by
  cases hk : K0 b with
  | none => rfl
  | some d => rw [h b d hk] at hb; cases hb
theorem LitS.app {α : Type} {f : α → List AV} {z bytes n : Nat} {K0 K : Lg} {v src : AV} {cs : List AV} {l : List α} (h : LitS K0 v cs n z K) (hf : ∀ x, (f x).length = z) (h1 : ∀ x, (f x).all AV.one = true) (hz : 0 < z) (hs : SlG f z K src l) (hb : (n + l.length) * bytes ≤ 70368744177664)
    {k : AV → Lg → Prop} (hk : ∀ (v' : AV) (K1 : Lg), LitS K0 v' (cs ++ flatc f l) (n + l.length) z K1 → k v' K1) : wpOp F (.app z bytes) [v, src] K k := by
  refine h.o.app hf h1 hz hs hb ?_
  intro v' K1 h2 h3 h4
  refine hk v' K1 ⟨h2, fun r d hr => h3 r d (h.s r d hr) (fun h9 => by have := h.f r h9; rw [hr] at this; cases this), fun b hb' => ?_⟩
  rcases h4 b hb' with h9 | h9
  · exact h.s.none h9
  · exact h.f b h9
theorem LitS.mono {z n : Nat} {K0 K K' : Lg} {v : AV} {cs : List AV} (h : LitS K0 v cs n z K) (hs : SubL K K') : LitS K0 v cs n z K' := ⟨h.o.sub fun b d _ hd => hs b d hd, h.s.trans hs, h.f⟩
section
variable {L K : Lg} {u : Nat} {σ : Tms} {per : List (Int × Int)} {sv pv ov : AV}
theorem ROpen.ne (o : ROpen L u σ per sv pv ov K) {b : Nat} (hb : K b = none) : b ≠ u ∧ L b = none ∧ slB sv ≠ some b ∧ slB pv ≠ some b ∧ slB ov ≠ some b := by
  have h1 : b ≠ u := by rintro rfl; have := o.root; rw [hb] at this; cases this
  refine ⟨h1, ?_, ?_, ?_, ?_⟩
  · cases h : L b with
    | none => rfl
    | some d => rw [o.old b d h1 h] at hb; cases hb
  · intro h; have := o.hs.block h; rw [hb] at this; cases this
  · intro h; have := o.ps.block h; rw [hb] at this; cases this
  · intro h; have := o.os.block h; rw [hb] at this; cases this
theorem ROpen.sub (o : ROpen L u σ per sv pv ov K) {K' : Lg} (h : SubL K K') : ROpen L u σ per sv pv ov K' :=
  ⟨h _ _ o.root, o.hs.sub fun b d _ hd => h b d hd, o.ps.sub fun b d _ hd => h b d hd, o.os.sub fun b d _ hd => h b d hd, o.a1, o.a2, o.a3, fun r d hr hd => h r d (o.old r d hr hd)⟩
theorem ROpen.below (o : ROpen L u σ per sv pv ov K) {L0 : Lg} (h : ∀ r d, r ≠ u → L0 r = some d → L r = some d) : ROpen L0 u σ per sv pv ov K := by
  have key : ∀ b, b ≠ u → L b = none → L0 b = none := fun b h1 h2 => by
    cases h3 : L0 b with
    | none => rfl
    | some d => rw [h b d h1 h3] at h2; cases h2
  exact ⟨o.root, o.hs, o.ps, o.os, fun b hb => ⟨(o.a1 b hb).1, key b (o.a1 b hb).1 (o.a1 b hb).2⟩, fun b hb => ⟨(o.a2 b hb).1, key b (o.a2 b hb).1 (o.a2 b hb).2.1, (o.a2 b hb).2.2⟩,
    fun b hb => ⟨(o.a3 b hb).1, key b (o.a3 b hb).1 (o.a3 b hb).2.1, (o.a3 b hb).2.2⟩, fun r d hr hd => o.old r d hr (h r d hr hd)⟩
theorem ROpen.seq (o : ROpen L u σ per sv pv ov K) (q : Int) : ROpen L u { σ with x := { σ.x with seq := q } } per sv pv ov (K.put u (.raw (.cells [sv, .i .i64 q, pv, ov, .i .i64 σ.named]))) :=
  ⟨Lg.put_same _ _ _, o.hs.mono fun b hb => Lg.put_ne _ _ _ (o.a1 b hb).1, o.ps.mono fun b hb => Lg.put_ne _ _ _ (o.a2 b hb).1, o.os.mono fun b hb => Lg.put_ne _ _ _ (o.a3 b hb).1, o.a1, o.a2, o.a3,
    fun r d hr hd => by rw [Lg.put_ne _ _ _ hr]; exact o.old r d hr hd⟩
theorem ROpen.pf (o : ROpen L u σ per sv pv ov K) (f : Int → Option Int) : ROpen L u { σ with x := { σ.x with pf := f } } per sv pv ov K := ⟨o.root, o.hs, o.ps, o.os, o.a1, o.a2, o.a3, o.old⟩
theorem ROpen.r1 (o : ROpen L u σ per sv pv ov K) : rdL K (u, 1) none = some (.i .i64 σ.x.seq) := by rw [rdL_cell o.root]; rfl
theorem ROpen.r2 (o : ROpen L u σ per sv pv ov K) : rdL K (u, 2) none = some pv := by rw [rdL_cell o.root]; rfl
theorem ROpen.r3 (o : ROpen L u σ per sv pv ov K) : rdL K (u, 3) none = some ov := by rw [rdL_cell o.root]; rfl
theorem ROpen.r4 (o : ROpen L u σ per sv pv ov K) : rdL K (u, 4) none = some (.i .i64 σ.named) := by rw [rdL_cell o.root]; rfl
end
end Go.AM


/- the document's heap: put; its timers: Stop, Arm, period, Take. -/
set_option linter.unusedVariables false
set_option linter.unusedSimpArgs false
namespace Go.AM
variable {N : Nat → Nat} {F : Nat → Option AFn}
/-- the periods' ids are those that are due -/
structure PerOk (per : List (Int × Int)) (x : Xs) : Prop where
  pm : (per.map (·.1)).Perm (x.l.map It.id)
  eq : ∀ j, x.pf j = perOf j per
theorem rmP_fst {id : Int} : ∀ {l : List (Int × Int)}, (l.map (·.1)).Nodup → (rmP id l).map (·.1) = (l.map (·.1)).filter fun j => !decide (j = id)
  | [], _ => rfl
  | a :: r, nd => by
    simp only [List.map_cons, List.nodup_cons] at nd
    by_cases h : a.1 = id
    · have : (r.map (·.1)).filter (fun j => !decide (j = id)) = r.map (·.1) := by
        rw [List.filter_eq_self]
        intro j hj
        have : ¬ j = id := fun h9 => nd.1 (by rw [h, ← h9]; exact hj)
        simp [this]
      simp only [rmP, h, if_true, List.map_cons]
      rw [List.filter_cons_of_neg (by simp), this]
    · have := rmP_fst (id := id) nd.2
      simp only [rmP, h, if_false, List.map_cons]
      rw [List.filter_cons_of_pos (by simp [h]), this]
theorem rmId_ids (id : Int) (l : List It) : (rmId id l).map It.id = (l.map It.id).filter fun j => !decide (j = id) := by
  unfold rmId
  rw [List.filter_map]; rfl
theorem PerOk.nd {per : List (Int × Int)} {x : Xs} (h : PerOk per x) (nd : (x.l.map It.id).Nodup) : (per.map (·.1)).Nodup := h.pm.nodup_iff.2 nd
theorem PerOk.len {per : List (Int × Int)} {x : Xs} (h : PerOk per x) : per.length = x.l.length := by simpa using h.pm.length_eq
theorem PerOk.stop {per : List (Int × Int)} {x : Xs} (h : PerOk per x) (nd : (x.l.map It.id).Nodup) (id : Int) : PerOk (rmP id per) (x.stop id) := by
  have n1 := h.nd nd
  refine ⟨?_, fun j => ?_⟩
  · simp only [Xs.stop]
    rw [rmP_fst n1, rmId_ids]; exact h.pm.filter _
  · rw [(rmP_nd (id := id) n1).2.2 j]
    simp only [Xs.stop, updI, h.eq]
theorem PerOk.armed {per : List (Int × Int)} {x : Xs} (h : PerOk per x) (nd : (x.l.map It.id).Nodup) (id w p : Int) : PerOk (rmP id per ++ [(id, p)]) (x.armed id w p) := by
  have n1 := h.nd nd
  have hs := h.stop nd id
  refine ⟨?_, fun j => ?_⟩
  · simp only [Xs.armed, List.map_append, List.map_cons, List.map_nil]
    refine List.Perm.trans ?_ ((ins_perm _ _).map It.id).symm
    simp only [List.map_cons]
    refine List.Perm.trans List.perm_append_comm ?_
    exact hs.pm.cons _
  · rw [perOf_append (rmP_nd n1).2.1]
    simp only [Xs.armed, updI]
    have := hs.eq j
    simp only [Xs.stop, updI] at this
    rw [this]
section
variable {L K : Lg} {u : Nat} {σ : Tms} {per : List (Int × Int)} {sv pv ov : AV}
end
end Go.AM


/- the document's timers: Arm, Take. -/
set_option linter.unusedVariables false
set_option linter.unusedSimpArgs false
namespace Go.AM
variable {N : Nat → Nat} {F : Nat → Option AFn}
section
variable {L K : Lg} {u : Nat} {σ : Tms} {per : List (Int × Int)} {sv pv ov : AV}
/-- what lets the document's timers go on -/
structure RFine (σ : Tms) (per : List (Int × Int)) (B : Int) : Prop where
  g : XG σ.x B
  b : B < 1000000
  p : PerOk per σ.x
theorem RFine.l {B : Int} (h : RFine σ per B) : σ.x.l.length < 1000000 := by have := h.g.len; have := h.b; omega
theorem RFine.pl {B : Int} (h : RFine σ per B) : per.length < 1000000 := by rw [h.p.len]; exact h.l
theorem RFine.q {B : Int} (h : RFine σ per B) : 0 ≤ σ.x.seq ∧ σ.x.seq < 4611686018427387904 := by have := h.g.pos; have := h.g.seq; have := h.b; omega
end
end Go.AM


/- the document's channels. -/
set_option linter.unusedVariables false
set_option linter.unusedSimpArgs false
namespace Go.AM
variable {N : Nat → Nat} {F : Nat → Option AFn}
def fI (n : Int) : List AV := [.i .i64 n]
/-- how the document keeps a channel -/
def crt (x : Ch) (bv sv rv : AV) : List AV := [.i .i64 x.cap, .b x.timed, .b x.signal, .b x.closed, bv, sv, rv]
structure CROpen (L : Lg) (c : Nat) (x : Ch) (bv sv rv : AV) (K : Lg) : Prop where
  root : K c = some (.raw (.cells (crt x bv sv rv)))
  bs : OSe K bv (flatc fI x.vals) x.vals.length 1
  ss : OSe K sv (flatc Wt.cells x.sends) x.sends.length 3
  rs : OSe K rv (flatc Wt.cells x.recvs) x.recvs.length 3
  a1 : ∀ b, slB bv = some b → b ≠ c ∧ L b = none
  a2 : ∀ b, slB sv = some b → b ≠ c ∧ L b = none ∧ slB bv ≠ some b
  a3 : ∀ b, slB rv = some b → b ≠ c ∧ L b = none ∧ slB bv ≠ some b ∧ slB sv ≠ some b
  old : ∀ r d, r ≠ c → L r = some d → K r = some d
  len : x.recvs.length ≤ 1000000 ∧ x.sends.length ≤ 1000000 ∧ x.vals.length ≤ 1000000
def ChRP (c : Nat) (x : Ch) (h : Hp) : Prop := ∃ bv sv rv M, CROpen Lg.nil c x bv sv rv M ∧ Sat M h
section
variable {L K : Lg} {c : Nat} {x : Ch} {bv sv rv : AV}
theorem CROpen.ne (o : CROpen L c x bv sv rv K) {b : Nat} (hb : K b = none) : b ≠ c ∧ L b = none ∧ slB bv ≠ some b ∧ slB sv ≠ some b ∧ slB rv ≠ some b := by
  have h1 : b ≠ c := by rintro rfl; have := o.root; rw [hb] at this; cases this
  refine ⟨h1, ?_, ?_, ?_, ?_⟩
  · cases h : L b with
    | none => rfl
    | some d => rw [o.old b d h1 h] at hb; cases hb
  · intro h; have := o.bs.block h; rw [hb] at this; cases this
  · intro h; have := o.ss.block h; rw [hb] at this; cases this
  · intro h; have := o.rs.block h; rw [hb] at this; cases this
theorem CROpen.shut (o : CROpen L c x bv sv rv K) : Sees K (L.put c (.abs (ChRP c x))) := by
  refine Sees.shutAt (fun b => b = c ∨ slB bv = some b ∨ slB sv = some b ∨ slB rv = some b) (.inl rfl) ?_ ?_ (.inl ⟨_, o.root⟩) ?_
  · intro b d hb hd
    simp only [not_or] at hb
    exact o.old b d hb.1 hd
  · rintro b (rfl | h | h | h) hb
    · exact absurd rfl hb
    · exact (o.a1 b h).2
    · exact (o.a2 b h).2.1
    · exact (o.a3 b h).2.1
  · intro M hp hM hN hs
    refine ⟨bv, sv, rv, M, ⟨?_, o.bs.mono fun b hb => hM b (.inr (.inl hb)), o.ss.mono fun b hb => hM b (.inr (.inr (.inl hb))), o.rs.mono fun b hb => hM b (.inr (.inr (.inr hb))), fun b hb => ⟨(o.a1 b hb).1, rfl⟩, fun b hb => ⟨(o.a2 b hb).1, rfl, (o.a2 b hb).2.2⟩, fun b hb => ⟨(o.a3 b hb).1, rfl, (o.a3 b hb).2.2⟩, fun r d _ hd => by simp [Lg.nil] at hd, o.len⟩, hs⟩
    rw [hM c (.inl rfl)]; exact o.root
theorem CROpen.back (o : CROpen L c x bv sv rv K) (e : L c = some (.abs (ChRP c x))) : Sees K L := by
  have := o.shut
  rwa [Lg.put_self L c _ e] at this
theorem CROpen.sub (o : CROpen L c x bv sv rv K) {K' : Lg} (h : SubL K K') : CROpen L c x bv sv rv K' :=
  ⟨h _ _ o.root, o.bs.sub fun b d _ hd => h b d hd, o.ss.sub fun b d _ hd => h b d hd, o.rs.sub fun b d _ hd => h b d hd, o.a1, o.a2, o.a3, fun r d hr hd => h r d (o.old r d hr hd), o.len⟩
theorem CROpen.below (o : CROpen L c x bv sv rv K) {L0 : Lg} (h : ∀ r d, r ≠ c → L0 r = some d → L r = some d) : CROpen L0 c x bv sv rv K := by
  have key : ∀ b, b ≠ c → L b = none → L0 b = none := fun b h1 h2 => by
    cases h3 : L0 b with
    | none => rfl
    | some d => rw [h b d h1 h3] at h2; cases h2
  exact ⟨o.root, o.bs, o.ss, o.rs, fun b hb => ⟨(o.a1 b hb).1, key b (o.a1 b hb).1 (o.a1 b hb).2⟩, fun b hb => ⟨(o.a2 b hb).1, key b (o.a2 b hb).1 (o.a2 b hb).2.1, (o.a2 b hb).2.2⟩,
    fun b hb => ⟨(o.a3 b hb).1, key b (o.a3 b hb).1 (o.a3 b hb).2.1, (o.a3 b hb).2.2⟩, fun r d hr hd => o.old r d hr (h r d hr hd), o.len⟩
theorem CROpen.closed (o : CROpen L c x bv sv rv K) : CROpen L c { x with closed := true } bv sv rv (K.put c (.raw (.cells (crt { x with closed := true } bv sv rv)))) :=
  ⟨Lg.put_same _ _ _, o.bs.mono fun b hb => Lg.put_ne _ _ _ (o.a1 b hb).1, o.ss.mono fun b hb => Lg.put_ne _ _ _ (o.a2 b hb).1, o.rs.mono fun b hb => Lg.put_ne _ _ _ (o.a3 b hb).1, o.a1, o.a2, o.a3,
    fun r d hr hd => by rw [Lg.put_ne _ _ _ hr]; exact o.old r d hr hd, o.len⟩
theorem LitS.nil (K : Lg) (z : Nat) : LitS K (.sl none 0 0 0) [] 0 z K := ⟨.inl (OSl.nil K z), SubL.refl K, fun b h => by cases h⟩
theorem CROpen.rd (o : CROpen L c x bv sv rv K) (i : Nat) : rdL K (c, i) none = (crt x bv sv rv)[i]? := rdL_cell o.root
theorem CROpen.r1 (o : CROpen L c x bv sv rv K) : rdL K (c, 1) none = some (.b x.timed) := o.rd 1
theorem CROpen.r2 (o : CROpen L c x bv sv rv K) : rdL K (c, 2) none = some (.b x.signal) := o.rd 2
theorem CROpen.r3 (o : CROpen L c x bv sv rv K) : rdL K (c, 3) none = some (.b x.closed) := o.rd 3
theorem CROpen.r4 (o : CROpen L c x bv sv rv K) : rdL K (c, 4) none = some bv := o.rd 4
/-- what sending makes of a channel that may be sent on -/
def Ch.snd (x : Ch) (v : Int) : Ch × List Wk × Bool := match x.recvs with
  | w :: ws => ({ x with recvs := ws }, [⟨w.t, w.c, v, true, false⟩], true)
  | [] => if x.vals.length < x.cap then ({ x with vals := x.vals ++ [v] }, [], true) else (x, [], false)
/-- a slice that is looked at -/
def SlV {α : Type} (f : α → List AV) (z : Nat) (K : Lg) (v : AV) (l : List α) : Prop := ∃ a cap ex, v = .sl a l.length cap ex ∧ (l = [] ∨ ∃ b off cs, a = some (b, off) ∧ (K b = some (.raw (.cells cs)) ∨ K b = some (.raw (.ro cs))) ∧ off + l.length * z ≤ cs.length ∧ ∀ (i : Nat) (x : α), l[i]? = some x → (cs.drop (off + i * z)).take z = f x)
theorem SlV.len {α : Type} {f : α → List AV} {z : Nat} {v : AV} {l : List α} (h : SlV f z K v l) (X : Lg) (k : AV → Lg → Prop) : wpOp F .lenSl [v] X k = k (.i .i64 l.length) X := by
  obtain ⟨a, cap, ex, rfl, _⟩ := h
  simp
theorem SlV.mono {α : Type} {f : α → List AV} {z : Nat} {K' : Lg} {v : AV} {l : List α} (h : SlV f z K v l) (e : SubL K K') : SlV f z K' v l := by
  obtain ⟨a, cap, ex, rfl, h1 | ⟨b, off, cs, rfl, h2, h3⟩⟩ := h
  · exact ⟨_, _, _, rfl, .inl h1⟩
  · exact ⟨_, _, _, rfl, .inr ⟨b, off, cs, rfl, h2.imp (e _ _) (e _ _), h3⟩⟩
theorem SlV.get {α : Type} {f : α → List AV} {z : Nat} {v : AV} {l : List α} (h : SlV f z K v l) {i : Nat} {x : α} (hi : l[i]? = some x) : ∃ b o, (∀ (X : Lg) (k : AV → Lg → Prop), wpOp F (.iad z) [v, .i .i64 i] X k = k (.p (some (b, o))) X) ∧
    (∀ X : Lg, SubL K X → (∀ j, j < z → rdL X (b, o + j) none = (f x)[j]?) ∧ rdL X (b, o) (some z) = some (.agg (f x))) ∧ K b ≠ none := by
  obtain ⟨a, cap, ex, rfl, h1 | ⟨b, off, cs, rfl, h2, h6, h3⟩⟩ := h
  · subst h1; simp at hi
  · have hl := (List.getElem?_eq_some_iff.1 hi).1
    have h4 := row_le hl h6
    have h5 := h3 i x hi
    refine ⟨b, off + i * z, fun X k => ?_, fun X hX => ?_, ?_⟩
    · rw [wp_iad F X k z b off l.length cap ex .i64 i (by omega) (by omega)]
      simp
    · rcases h2 with h2 | h2
      · refine ⟨fun j hj => ?_, ?_⟩
        · rw [rdL_cell (hX _ _ h2), drop_get h5 hj]
        · rw [rdL_cells (hX _ _ h2) h4, h5]
      · refine ⟨fun j hj => ?_, ?_⟩
        · rw [rdL_ro (hX _ _ h2), drop_get h5 hj]
        · rw [rdL_ros (hX _ _ h2) h4, h5]
    · rcases h2 with h2 | h2 <;> rw [h2] <;> simp
end
end Go.AM


/- the document's timers, hidden: make, with, Func, Lapse, Stop, Reset, Fire, and what they show. -/
set_option linter.unusedVariables false
set_option linter.unusedSimpArgs false
namespace Go.AM
variable {N : Nat → Nat} {F : Nat → Option AFn}
def TmRP (u : Nat) (σ : Tms) (h : Hp) : Prop := ∃ per sv pv ov M, ROpen Lg.nil u σ per sv pv ov M ∧ PerOk per σ.x ∧ Sat M h
section
variable {L K : Lg} {u : Nat} {σ : Tms} {per : List (Int × Int)} {sv pv ov : AV}
theorem ROpen.shut (o : ROpen L u σ per sv pv ov K) (pk : PerOk per σ.x) : Sees K (L.put u (.abs (TmRP u σ))) := by
  refine Sees.shutAt (fun b => b = u ∨ slB sv = some b ∨ slB pv = some b ∨ slB ov = some b) (.inl rfl) ?_ ?_ (.inl ⟨_, o.root⟩) ?_
  · intro b d hb hd
    simp only [not_or] at hb
    exact o.old b d hb.1 hd
  · rintro b (rfl | h | h | h) hb
    · exact absurd rfl hb
    · exact (o.a1 b h).2
    · exact (o.a2 b h).2.1
    · exact (o.a3 b h).2.1
  · intro M hp hM hN hs
    refine ⟨per, sv, pv, ov, M, ⟨?_, o.hs.mono fun b hb => hM b (.inr (.inl hb)), o.ps.mono fun b hb => hM b (.inr (.inr (.inl hb))), o.os.mono fun b hb => hM b (.inr (.inr (.inr hb))), fun b hb => ⟨(o.a1 b hb).1, rfl⟩, fun b hb => ⟨(o.a2 b hb).1, rfl, (o.a2 b hb).2.2⟩, fun b hb => ⟨(o.a3 b hb).1, rfl, (o.a3 b hb).2.2⟩, fun r d _ hd => by simp [Lg.nil] at hd⟩, pk, hs⟩
    rw [hM u (.inl rfl)]; exact o.root
theorem ROpen.back (o : ROpen L u σ per sv pv ov K) (pk : PerOk per σ.x) (e : L u = some (.abs (TmRP u σ))) : Sees K L := by
  have := o.shut pk
  rwa [Lg.put_self L u _ e] at this
theorem ROpen.gen (o : ROpen L u σ per sv pv ov K) {i : Nat} {w : On} (hw : σ.ones[i]? = some w) (g : Int) {b : Nat} (hb : slB ov = some b) :
    ROpen L u { σ with ones := σ.ones.set i { w with gen := g } } per sv pv ov (K.put b (.raw (.cells ((flatc On.cells σ.ones).set (i * 4 + 3) (.i .i64 g))))) := by
  obtain ⟨n1, n2, n3, n4⟩ := o.a3 b hb
  have ne : ∀ {r : Nat} {v : AV}, slB v = some r → slB v ≠ some b → r ≠ b := fun {r} {v} g1 g2 => by rintro rfl; exact g2 g1
  refine ⟨by rw [Lg.put_ne _ _ _ (Ne.symm n1)]; exact o.root, o.hs.mono fun r hr => Lg.put_ne _ _ _ (ne hr n3), o.ps.mono fun r hr => Lg.put_ne _ _ _ (ne hr n4), ?_, o.a1, o.a2, o.a3,
    fun r e hr he => by rw [Lg.put_ne _ _ _ (by rintro rfl; rw [n2] at he; cases he)]; exact o.old r e hr he⟩
  rw [flatc_setc (f := On.cells) (k := 4) (fun _ => rfl) σ.ones i w { w with gen := g } 3 _ hw (by omega) (by simp [On.cells])]
  rcases o.os with ⟨h1, h2, h3⟩ | ⟨b', ex, h1, h2, h3, h4, h5⟩
  · rw [h3] at hb; cases hb
  · rw [h2] at hb; simp [slB] at hb; subst hb
    exact .inr ⟨b', ex, by simpa using h1, by simpa using h2, h3, Lg.put_same _ _ _, by simp [flatc_length (f := On.cells) (k := 4) (fun _ => rfl)]⟩
theorem OSe.osl {v : AV} {cs : List AV} {n size : Nat} (h : OSe K v cs n size) (hn : 0 < n) : OSl K v cs n size := by
  rcases h with h | ⟨h1, _⟩
  · exact h
  · omega
end
end Go.AM


/- the document's timers: Timer, Ticker, Func, Lapse, Stop, Reset, Fire. -/
set_option linter.unusedVariables false
set_option linter.unusedSimpArgs false
namespace Go.AM
variable {N : Nat → Nat} {F : Nat → Option AFn}
section
variable {L K : Lg} {u : Nat} {σ : Tms} {per : List (Int × Int)} {sv pv ov : AV}
/-- what lets the document's set go on -/
structure TFine (σ : Tms) (B : Int) : Prop where
  g : XG σ.x B
  b : B < 1000000
  o : σ.ones.length < 1000000
  n : 0 ≤ σ.named
theorem TFine.r {B : Int} (h : TFine σ B) (pk : PerOk per σ.x) : RFine σ per B := ⟨h.g, h.b, pk⟩
end
end Go.AM


/- the document's timers: Reset, Fire, what they show. -/
set_option linter.unusedVariables false
set_option linter.unusedSimpArgs false
namespace Go.AM
variable {N : Nat → Nat} {F : Nat → Option AFn}
section
variable {L K : Lg} {u : Nat} {σ : Tms} {per : List (Int × Int)} {sv pv ov : AV}
end
end Go.AM


/- ctx: the timers of contexts; in plain Lean. -/
set_option linter.unusedVariables false
set_option linter.unusedSimpArgs false
namespace Go.AM
/-- contexts' deadlines are timers, and there are no others; ex: whose timer may be gone -/
structure TW (S : CX) (s : Nat) (K : Int) (ex : Nat → Prop) : Prop where
  t : S.σ.t = some s
  xg : XG S.τ.x K
  named : 0 ≤ S.τ.named ∧ S.τ.named ≤ 64
  pf : ∀ y ∈ S.τ.x.l, S.τ.x.pf y.id = some 0
  ones : ∀ (k : Nat) (o : On), S.τ.ones[k]? = some o → o.kind = 4 ∧ o.c = none ∧ ∃ (j : Nat) (x : One), o.data = (j : Int) ∧ S.σ.ones[j]? = some x ∧ x.timer = (k : Int) ∧ x.own = true
  item : ∀ y ∈ S.τ.x.l, ∃ (k j : Nat) (x : One) (o : On), y.id = (k : Int) ∧ S.σ.ones[j]? = some x ∧ x.timer = (k : Int) ∧ x.own = true ∧ x.err = 0 ∧ x.when = y.w ∧ S.τ.ones[k]? = some o ∧ o.data = (j : Int)
  own : ∀ (j : Nat) (x : One), S.σ.ones[j]? = some x → x.own = true → x.err = 0 → ¬ ex j → ∃ y ∈ S.τ.x.l, y.id = x.timer ∧ y.w = x.when
  tim : ∀ (j : Nat) (x : One), S.σ.ones[j]? = some x → (x.own = false → x.timer = -1) ∧ (x.own = true → ∃ (k : Nat) (o : On), x.timer = (k : Int) ∧ S.τ.ones[k]? = some o ∧ o.data = (j : Int))
  cnt : S.τ.ones.length ≤ 64
/-- a context more without a timer -/
theorem TW.add {S : CX} {s : Nat} {K : Int} (h : TW S s K (fun _ => False)) {o : One} {p : Int} {χ' : Nat → Ch} (he : (S.σ.add o p).ones = S.σ.ones ++ [{ o with node := S.σ.tree.length, timer := -1 }]) (ho : o.own = false) : TW ({ S with σ := S.σ.add o p, χ := χ' } : CX) s K (fun _ => False) := by
  have fwd : ∀ (j : Nat) (x : One), S.σ.ones[j]? = some x → (S.σ.add o p).ones[j]? = some x := fun j x hx => by
    rw [he, List.getElem?_append_left (List.getElem?_eq_some_iff.1 hx).1]; exact hx
  have back : ∀ (j : Nat) (x : One), (S.σ.add o p).ones[j]? = some x → S.σ.ones[j]? = some x ∨ (x.own = false ∧ x.timer = -1) := by
    intro j x hx
    rw [he] at hx
    by_cases hj : j < S.σ.ones.length
    · rw [List.getElem?_append_left hj] at hx; exact .inl hx
    · rw [List.getElem?_append_right (by omega)] at hx
      have hz : j - S.σ.ones.length = 0 := by
        rcases Nat.eq_zero_or_pos (j - S.σ.ones.length) with h9 | h9
        · exact h9
        · rw [List.getElem?_eq_none (by simp; omega)] at hx; cases hx
      rw [hz] at hx; simp at hx; subst hx
      exact .inr ⟨ho, rfl⟩
  refine ⟨h.t, h.xg, h.named, h.pf, ?_, ?_, ?_, ?_, h.cnt⟩
  · intro k q hq
    obtain ⟨a1, a2, j, x, a3, a4, a5⟩ := h.ones k q hq
    exact ⟨a1, a2, j, x, a3, fwd j x a4, a5⟩
  · intro y hy
    obtain ⟨k, j, x, q, e1, e2, e3⟩ := h.item y hy
    exact ⟨k, j, x, q, e1, fwd j x e2, e3⟩
  · intro j x hx h1 h2 h3
    rcases back j x hx with h4 | ⟨h4, _⟩
    · exact h.own j x h4 h1 h2 h3
    · rw [h1] at h4; cases h4
  · intro j x hx
    rcases back j x hx with h4 | ⟨h4, h5⟩
    · exact h.tim j x h4
    · exact ⟨fun _ => h5, fun h6 => by rw [h4] at h6; cases h6⟩
end Go.AM


/- ctx: a deadline with a timer of its own; in plain Lean. -/
set_option linter.unusedVariables false
set_option linter.unusedSimpArgs false
namespace Go.AM
end Go.AM


/- The code of functions, with names for their numbers, and what is left of its weakest preconditions. PRINTED by our printgen.py. -/
set_option linter.unusedVariables false
set_option maxRecDepth 100000
namespace Go.AM
end Go.AM

/- the document's channels: end, End. -/
set_option linter.unusedVariables false
set_option linter.unusedSimpArgs false
namespace Go.AM
variable {N : Nat → Nat} {F : Nat → Option AFn}
section
variable {L K : Lg} {c : Nat} {x : Ch} {bv sv rv : AV}
end
end Go.AM


/- a root and slices of its own, opened. -/
set_option linter.unusedVariables false
set_option linter.unusedSimpArgs false
namespace Go.AM
variable {F : Nat → Option AFn}
structure SlD where
  v : AV
  cs : List AV
  n : Nat
  z : Nat
structure GO (L : Lg) (r : Nat) (cs : List AV) (sl : List SlD) (K : Lg) : Prop where
  root : K r = some (.raw (.cells cs))
  own : ∀ (i : Nat) (p : SlD), sl[i]? = some p → OSl K p.v p.cs p.n p.z
  ap : ∀ (i : Nat) (p : SlD), sl[i]? = some p → ∀ b, slB p.v = some b → b ≠ r ∧ L b = none
  nd : ∀ (i j : Nat) (p q : SlD), i ≠ j → sl[i]? = some p → sl[j]? = some q → ∀ b, slB p.v = some b → slB q.v ≠ some b
  old : ∀ q d, q ≠ r → L q = some d → K q = some d
section
variable {L K : Lg} {r : Nat} {cs : List AV} {sl : List SlD}
theorem GO.ne (o : GO L r cs sl K) {b : Nat} (hb : K b = none) : b ≠ r ∧ L b = none ∧ ∀ (i : Nat) (p : SlD), sl[i]? = some p → slB p.v ≠ some b := by
  have h1 : b ≠ r := by rintro rfl; have := o.root; rw [hb] at this; cases this
  refine ⟨h1, ?_, fun i p hp h => ?_⟩
  · cases h : L b with
    | none => rfl
    | some d => rw [o.old b d h1 h] at hb; cases hb
  · have := (o.own i p hp).block h; rw [hb] at this; cases this
theorem GO.sub (o : GO L r cs sl K) {K' : Lg} (h : SubL K K') : GO L r cs sl K' :=
  ⟨h _ _ o.root, fun i p hp => (o.own i p hp).sub fun b d _ hd => h b d hd, o.ap, o.nd, fun q d hq hd => h q d (o.old q d hq hd)⟩
/-- all it has is there still -/
theorem GO.keep (o : GO L r cs sl K) {K' : Lg} {e : Option Nat} (h : KeepE e K K') (h1 : e ≠ some r) (h2 : ∀ (i : Nat) (p : SlD), sl[i]? = some p → ∀ b, e = some b → slB p.v ≠ some b) (h3 : ∀ b, e = some b → L b = none) : GO L r cs sl K' :=
  ⟨h _ _ o.root h1, fun i p hp => (o.own i p hp).sub fun b d hb hd => h b d hd (fun h9 => h2 i p hp b h9 hb), o.ap, o.nd, fun q d hq hd => h q d (o.old q d hq hd) (fun h9 => by have := h3 q h9; rw [hd] at this; cases this)⟩
theorem GO.below (o : GO L r cs sl K) {L0 : Lg} (h : ∀ q d, q ≠ r → L0 q = some d → L q = some d) : GO L0 r cs sl K := by
  refine ⟨o.root, o.own, fun i p hp b hb => ⟨(o.ap i p hp b hb).1, ?_⟩, o.nd, fun q d hq hd => o.old q d hq (h q d hq hd)⟩
  obtain ⟨h1, h2⟩ := o.ap i p hp b hb
  cases h3 : L0 b with
  | none => rfl
  | some d => rw [h b d h1 h3] at h2; cases h2
theorem set_get {α : Type} {l : List α} {i j : Nat} {x y : α} (h : (l.set i x)[j]? = some y) : (i = j ∧ y = x ∧ i < l.length) ∨ (i ≠ j ∧ l[j]? = some y) := by
  by_cases hij : i = j
  · subst hij
    have hl := (List.getElem?_eq_some_iff.1 h).1
    simp at hl
    rw [List.getElem?_set_self hl] at h
    cases h
    exact .inl ⟨rfl, rfl, hl⟩
  · rw [List.getElem?_set_ne hij] at h; exact .inr ⟨hij, h⟩
/-- a slice of it has other cells -/
theorem GO.inplace (o : GO L r cs sl K) {i : Nat} {p : SlD} (hp : sl[i]? = some p) {b : Nat} (hb : slB p.v = some b) {cs' : List AV} (hl : cs'.length = p.cs.length) : GO L r cs (sl.set i { p with cs := cs' }) (K.put b (.raw (.cells cs'))) := by
  obtain ⟨n1, n2⟩ := o.ap i p hp b hb
  refine ⟨by rw [Lg.put_ne _ _ _ (Ne.symm n1)]; exact o.root, fun j q hq => ?_, fun j q hq => ?_, fun j k q w hjk hq hw => ?_, fun q e hq he => by rw [Lg.put_ne _ _ _ (by rintro rfl; rw [n2] at he; cases he)]; exact o.old q e hq he⟩
  · rcases set_get hq with ⟨rfl, rfl, _⟩ | ⟨hij, hq⟩
    · have := o.own i p hp
      rcases this with ⟨h1, h2, h3⟩ | ⟨b', ex, h1, h2, h3, h4, h5⟩
      · rw [h3] at hb; cases hb
      · rw [h2] at hb; simp [slB] at hb; subst hb
        exact .inr ⟨b', ex, h1, h2, h3, Lg.put_same _ _ _, by rw [hl]; exact h5⟩
    · exact (o.own j q hq).mono fun w hw => Lg.put_ne _ _ _ (by rintro rfl; exact o.nd i j p q hij hp hq w hb hw)
  · rcases set_get hq with ⟨rfl, rfl, _⟩ | ⟨hij, hq⟩
    · exact o.ap i p hp
    · exact o.ap j q hq
  · rcases set_get hq with ⟨rfl, rfl, _⟩ | ⟨hij, hq⟩ <;> rcases set_get hw with ⟨rfl, rfl, _⟩ | ⟨hik, hw⟩
    · exact absurd rfl hjk
    · exact o.nd i k p w hjk hp hw
    · exact o.nd j i q p hjk hq hp
    · exact o.nd j k q w hjk hq hw
theorem GO.rd (o : GO L r cs sl K) (i : Nat) : rdL K (r, i) none = cs[i]? := rdL_cell o.root
/-- hidden -/
def GP (r : Nat) (P : List AV → List SlD → Prop) (h : Hp) : Prop := ∃ cs sl M, P cs sl ∧ GO Lg.nil r cs sl M ∧ Sat M h
theorem GO.shut {P : List AV → List SlD → Prop} (o : GO L r cs sl K) (hP : P cs sl) : Sees K (L.put r (.abs (GP r P))) := by
  refine Sees.shutAt (fun b => b = r ∨ ∃ (i : Nat) (p : SlD), sl[i]? = some p ∧ slB p.v = some b) (.inl rfl) ?_ ?_ (.inl ⟨_, o.root⟩) ?_
  · intro b d hb hd
    exact o.old b d (fun h9 => hb (.inl h9)) hd
  · rintro b (rfl | ⟨i, p, hp, h⟩) hb
    · exact absurd rfl hb
    · exact (o.ap i p hp b h).2
  · intro M hp hM hN hs
    refine ⟨cs, sl, M, hP, ⟨?_, fun i p hp => (o.own i p hp).mono fun b hb => hM b (.inr ⟨i, p, hp, hb⟩), fun i p hp b hb => ⟨(o.ap i p hp b hb).1, rfl⟩, o.nd, fun q d _ hd => by simp [Lg.nil] at hd⟩, hs⟩
    rw [hM r (.inl rfl)]; exact o.root
theorem GO.over {M : Lg} (o : GO Lg.nil r cs sl M) (hf : ∀ b c, M b = some c → b ≠ r → L b = none) : GO L r cs sl (M.over L) := by
  have hi : ∀ b d, M b = some d → (M.over L) b = some d := fun b d h => by simp [Lg.over, h]
  refine ⟨hi _ _ o.root, fun i p hp => (o.own i p hp).sub fun b d _ hd => hi b d hd, fun i p hp b hb => ⟨(o.ap i p hp b hb).1, hf b _ ((o.own i p hp).block hb) (o.ap i p hp b hb).1⟩, o.nd, fun q d hq hd => ?_⟩
  have : M q = none := by
    cases h : M q with
    | none => rfl
    | some e => have := hf q e h hq; rw [hd] at this; cases this
  simp [Lg.over, this, hd]
theorem GO.back {P : List AV → List SlD → Prop} (o : GO L r cs sl K) (hP : P cs sl) (e : L r = some (.abs (GP r P))) : Sees K L := by
  have := o.shut hP
  rwa [Lg.put_self L r _ e] at this
end
end Go.AM


/- the document's contexts, opened; its tree. -/
set_option linter.unusedVariables false
set_option linter.unusedSimpArgs false
namespace Go.AM
variable {N : Nat → Nat} {F : Nat → Option AFn}
/-- what the document keeps for a context or an after -/
structure RNd where
  after : Bool
  no : Int
  prog : Int
  gone : Bool
  plain : Bool
  err : Int
  cause : Int
  when : Int
  has : Bool
  own : Bool
  timer : Int
  c : Option Nat
def RNd.cells (x : RNd) : List AV := [.b x.after, .i .i64 x.no, .i .i64 x.prog, .b x.gone, .b x.plain, .i .i64 x.err, .i .i64 x.cause, .i .i64 x.when, .b x.has, .b x.own, .i .i64 x.timer, ptr x.c]
theorem RNd.len (x : RNd) : x.cells.length = 12 := rfl
theorem RNd.one (x : RNd) : x.cells.all AV.one = true := rfl
def ofOne (i : Nat) (o : One) : RNd := ⟨false, i, 0, false, o.free, o.err, o.cause, o.when, o.has, o.own, o.timer, o.c⟩
def ofAft (j : Nat) (a : Aft) : RNd := ⟨true, j, a.prog, a.over, false, 0, 0, 0, false, false, -1, none⟩
def ndc (n : Nd) : List AV := [.i .i64 n.parent, .b n.linked]
structure NdsOk (σ : Cs) (nds : List RNd) : Prop where
  len : nds.length = σ.tree.length
  one : ∀ (i k : Nat) (o : One), σ.ones[i]? = some o → o.node = (k : Int) → nds[k]? = some (ofOne i o)
  aft : ∀ (j k : Nat) (a : Aft), σ.afts[j]? = some a → a.node = (k : Int) → nds[k]? = some (ofAft j a)
def xsl (σ : Cs) (nds : List RNd) (tv nv cv av : AV) : List SlD := [⟨tv, flatc ndc σ.tree, σ.tree.length, 2⟩, ⟨nv, flatc RNd.cells nds, nds.length, 12⟩, ⟨cv, flatc fI (σ.ones.map (·.node)), σ.ones.length, 1⟩, ⟨av, flatc fI (σ.afts.map (·.node)), σ.afts.length, 1⟩]
def xrt (σ : Cs) (tv nv cv av : AV) : List AV := [ptr σ.t, tv, nv, cv, av]
structure XR (L : Lg) (c : Nat) (σ : Cs) (nds : List RNd) (tv nv cv av : AV) (K : Lg) : Prop where
  g : GO L c (xrt σ tv nv cv av) (xsl σ nds tv nv cv av) K
  n : NdsOk σ nds
section
variable {L K : Lg} {c : Nat} {σ : Cs} {nds : List RNd} {tv nv cv av : AV}
theorem XR.f0 (o : XR L c σ nds tv nv cv av K) : rdL K (c, 0) none = some (ptr σ.t) := o.g.rd 0
theorem XR.f1 (o : XR L c σ nds tv nv cv av K) : rdL K (c, 1) none = some tv := o.g.rd 1
theorem XR.f2 (o : XR L c σ nds tv nv cv av K) : rdL K (c, 2) none = some nv := o.g.rd 2
theorem XR.f3 (o : XR L c σ nds tv nv cv av K) : rdL K (c, 3) none = some cv := o.g.rd 3
theorem XR.f4 (o : XR L c σ nds tv nv cv av K) : rdL K (c, 4) none = some av := o.g.rd 4
theorem XR.ts (o : XR L c σ nds tv nv cv av K) : OSl K tv (flatc ndc σ.tree) σ.tree.length 2 := o.g.own 0 _ rfl
theorem XR.ns (o : XR L c σ nds tv nv cv av K) : OSl K nv (flatc RNd.cells nds) nds.length 12 := o.g.own 1 _ rfl
theorem XR.cs (o : XR L c σ nds tv nv cv av K) : OSl K cv (flatc fI (σ.ones.map (·.node))) σ.ones.length 1 := o.g.own 2 _ rfl
theorem XR.sub (o : XR L c σ nds tv nv cv av K) {K' : Lg} (h : SubL K K') : XR L c σ nds tv nv cv av K' := ⟨o.g.sub h, o.n⟩
theorem XR.below (o : XR L c σ nds tv nv cv av K) {L0 : Lg} (h : ∀ q d, q ≠ c → L0 q = some d → L q = some d) : XR L0 c σ nds tv nv cv av K := ⟨o.g.below h, o.n⟩
theorem XR.nb (o : XR L c σ nds tv nv cv av K) {k : Nat} (hk : k < nds.length) : ∃ b, slB nv = some b ∧ K b = some (.raw (.cells (flatc RNd.cells nds))) ∧ ∀ (X : Lg) (p : AV → Lg → Prop), wpOp F (.iad 12) [nv, .i .i64 k] X p = p (.p (some (b, k * 12))) X := by
  obtain ⟨b, h1, h2, h3, h4⟩ := o.ns.iad (F := F) (x := (k : Int)) (by omega) (by omega)
  exact ⟨b, h1, h2, fun X p => by simpa using h4 X p .i64⟩
theorem XR.tb (o : XR L c σ nds tv nv cv av K) {k : Nat} (hk : k < σ.tree.length) : ∃ b, slB tv = some b ∧ K b = some (.raw (.cells (flatc ndc σ.tree))) ∧ ∀ (X : Lg) (p : AV → Lg → Prop), wpOp F (.iad 2) [tv, .i .i64 k] X p = p (.p (some (b, k * 2))) X := by
  obtain ⟨b, h1, h2, h3, h4⟩ := o.ts.iad (F := F) (x := (k : Int)) (by omega) (by omega)
  exact ⟨b, h1, h2, fun X p => by simpa using h4 X p .i64⟩
/-- a node is set -/
theorem XR.node (o : XR L c σ nds tv nv cv av K) {b : Nat} (hb : slB nv = some b) {σ' : Cs} {nds' : List RNd} (hl : nds'.length = nds.length) (h1 : σ'.t = σ.t) (h2 : σ'.tree = σ.tree) (h3 : σ'.ones.map (·.node) = σ.ones.map (·.node)) (h4 : σ'.afts.map (·.node) = σ.afts.map (·.node)) (hn : NdsOk σ' nds') :
    XR L c σ' nds' tv nv cv av (K.put b (.raw (.cells (flatc RNd.cells nds')))) := by
  refine ⟨?_, hn⟩
  have := o.g.inplace (i := 1) (p := ⟨nv, flatc RNd.cells nds, nds.length, 12⟩) rfl hb (cs' := flatc RNd.cells nds') (by rw [flatc_length RNd.len, flatc_length RNd.len, hl])
  have e1 : σ'.ones.length = σ.ones.length := by simpa using congrArg List.length h3
  have e2 : σ'.afts.length = σ.afts.length := by simpa using congrArg List.length h4
  simp only [xrt, xsl, h1, h2, h3, h4, e1, e2, hl] at this ⊢
  exact this
end
end Go.AM


/- the document's contexts: what a fall needs and leaves. -/
set_option linter.unusedVariables false
set_option linter.unusedSimpArgs false
namespace Go.AM
variable {N : Nat → Nat} {F : Nat → Option AFn}
/-- who has gone as none of either -/
def FreeR (L : Lg) (c : Nat) (vs : List AV) (b : Nat) : Prop := L b = none ∧ b ≠ c ∧ ∀ v ∈ vs, slB v ≠ some b
/-- the rows that a fall fills -/
structure RRes (L : Lg) (c : Nat) (vs : List AV) (K : Lg) (v1 v2 : AV) (ps : List (Lap × AV)) (sts : List (Int × Int)) : Prop where
  o1 : OSl K v1 (flatc lapc ps) ps.length 4
  o2 : OSl K v2 (flatc stc sts) sts.length 2
  ins : ∀ p ∈ ps, OSe K p.2 (flatc Wk.cells p.1.wakes) p.1.wakes.length 5 ∧ ∀ b, slB p.2 = some b → FreeR L c vs b ∧ slB v1 ≠ some b ∧ slB v2 ≠ some b
  f1 : ∀ b, slB v1 = some b → FreeR L c vs b ∧ slB v2 ≠ some b
  f2 : ∀ b, slB v2 = some b → FreeR L c vs b
section
variable {L K : Lg} {c : Nat} {vs : List AV} {v1 v2 : AV} {ps : List (Lap × AV)} {sts : List (Int × Int)}
/-- its blocks are there still -/
theorem RRes.keep (h : RRes L c vs K v1 v2 ps sts) {K' L' : Lg} (hk : ∀ b x, FreeR L c vs b → K b = some (.raw x) → K' b = some (.raw x)) (hl : ∀ b, FreeR L c vs b → K b ≠ none → L' b = none) : RRes L' c vs K' v1 v2 ps sts := by
  have fr : ∀ b, FreeR L c vs b → K b ≠ none → FreeR L' c vs b := fun b hb hn => ⟨hl b hb hn, hb.2⟩
  have nn : ∀ {v : AV} {cs : List AV} {n z : Nat} {b : Nat}, OSl K v cs n z → slB v = some b → K b ≠ none := fun h1 h2 => by rw [h1.block h2]; simp
  refine ⟨h.o1.mono fun b hb => ?_, h.o2.mono fun b hb => ?_, fun p hp => ⟨(h.ins p hp).1.mono fun b hb => ?_, fun b hb => ⟨fr b ((h.ins p hp).2 b hb).1 (by rw [(h.ins p hp).1.block hb]; simp), ((h.ins p hp).2 b hb).2⟩⟩, fun b hb => ⟨fr b (h.f1 b hb).1 (nn h.o1 hb), (h.f1 b hb).2⟩, fun b hb => fr b (h.f2 b hb) (nn h.o2 hb)⟩
  · rw [h.o1.block hb]; exact hk b _ (h.f1 b hb).1 (h.o1.block hb)
  · rw [h.o2.block hb]; exact hk b _ (h.f2 b hb) (h.o2.block hb)
  · rw [(h.ins p hp).1.block hb]; exact hk b _ ((h.ins p hp).2 b hb).1 ((h.ins p hp).1.block hb)
theorem RRes.sub (h : RRes L c vs K v1 v2 ps sts) {K' : Lg} (hk : SubL K K') : RRes L c vs K' v1 v2 ps sts := h.keep (fun b x _ hx => hk b _ hx) (fun b hb _ => hb.1)
theorem RRes.nil (L : Lg) (c : Nat) (vs : List AV) (K : Lg) : RRes L c vs K (.sl none 0 0 0) (.sl none 0 0 0) [] [] := ⟨OSl.nil _ _, OSl.nil _ _, fun p hp => by simp at hp, (fun b hb => by cases hb), (fun b hb => by cases hb)⟩
end
section
variable {L K : Lg} {c : Nat} {σ : Cs} {nds : List RNd} {tv nv cv av : AV} {S : CX}
theorem xsl_free {b : Nat} (h : ∀ v ∈ [tv, nv, cv, av], slB v ≠ some b) : ∀ (i : Nat) (p : SlD), (xsl σ nds tv nv cv av)[i]? = some p → slB p.v ≠ some b := by
  intro i p hp
  have hi := (List.getElem?_eq_some_iff.1 hp).1
  simp [xsl] at hi
  have : i = 0 ∨ i = 1 ∨ i = 2 ∨ i = 3 := by omega
  rcases this with rfl | rfl | rfl | rfl <;> simp [xsl] at hp <;> subst hp <;> exact h _ (by simp)
theorem XR.free (o : XR L c σ nds tv nv cv av K) {b : Nat} (hb : K b = none) : FreeR L c [tv, nv, cv, av] b := by
  obtain ⟨h1, h2, h3⟩ := o.g.ne hb
  refine ⟨h2, h1, fun v hv => ?_⟩
  simp at hv
  rcases hv with rfl | rfl | rfl | rfl
  · exact h3 0 _ rfl
  · exact h3 1 _ rfl
  · exact h3 2 _ rfl
  · exact h3 3 _ rfl
theorem XR.keep (o : XR L c σ nds tv nv cv av K) {K' : Lg} {e : Option Nat} (h : KeepE e K K') (hf : ∀ b, e = some b → FreeR L c [tv, nv, cv, av] b) : XR L c σ nds tv nv cv av K' :=
  ⟨o.g.keep h (fun h9 => (hf c h9).2.1 rfl) (fun i p hp b hb => xsl_free (hf b hb).2.2 i p hp) (fun b hb => (hf b hb).1), o.n⟩
end
/-! ### in plain -/
end Go.AM


/- ProgLimits: so many instructions, programs, and cases may be, and not one more. -/
set_option linter.unusedVariables false
set_option linter.unusedSimpArgs false
namespace Go.AM
variable {N : Nat → Nat} {F : Nat → Option AFn}
theorem known_specP {f : Nat} (h : F f = some kTrue) (L : Lg) : CallL F f [] L fun v L' => v = .b true ∧ L' = L := by
  refine CallL.of_wp h ?_
  show fin [.tmp (.c (.b true))] _ _ _ _
  exact ⟨L, Sees.refl _, rfl, rfl⟩
def exitI : Ins := ⟨7, 0, 0, 0, [], false⟩
def zC : Cs3 := ⟨false, 0, 0⟩
def selI (k : Nat) : Ins := ⟨15, 0, 0, 0, List.replicate k zC, false⟩
abbrev exP : Ins × AV := (exitI, .sl none 0 0 0)
abbrev niP : AV × List (Ins × AV) := (.sl none 0 0 0, [])
abbrev cellI : Ins × AV → List AV := fun x => x.1.cells x.2
abbrev cellP : AV × List (Ins × AV) → List AV := fun x => [x.1]
section
variable {K : Lg} {Q : AV → Lg → Prop}
structure L2 (n k j b8 : Nat) (v5 v7 cv : AV) (K : Lg) : Prop where
  o5 : OSl K v5 (flatc cellI (List.replicate n exP)) n 6
  o7 : OSl K v7 (flatc cellP (List.replicate j niP)) j 1
  oc : OSl K cv (flatc Cs3.cells (List.replicate j zC)) j 3
  h8 : K b8 = some (.raw (.cells ((selI j).cells cv)))
  d5 : ∀ b, slB v5 = some b → b ≠ b8 ∧ slB v7 ≠ some b ∧ slB cv ≠ some b
  d7 : ∀ b, slB v7 = some b → b ≠ b8 ∧ slB cv ≠ some b
  dc : ∀ b, slB cv = some b → b ≠ b8
end
end Go.AM


/- ProgRegs: what an instruction reads and writes are registers, each once, rising; one that may not be has none. -/
set_option linter.unusedVariables false
set_option linter.unusedSimpArgs false
namespace Go.AM
variable {N : Nat → Nat} {F : Nat → Option AFn}
theorem fldNoP : ∀ op : Int, 1 ≤ op → op ≤ 32 → op ≠ 4 → op ≠ 5 → fldB op 0 ≠ 112 ∧ fldB op 1 ≠ 112 ∧ fldB op 2 ≠ 112 := by
  intro op h1 h2 h3 h4
  have key : ∀ n : Fin 32, n.val ≠ 3 → n.val ≠ 4 → fldB ((n.val : Int) + 1) 0 ≠ 112 ∧ fldB ((n.val : Int) + 1) 1 ≠ 112 ∧ fldB ((n.val : Int) + 1) 2 ≠ 112 := by decide
  have := key ⟨(op - 1).toNat, by omega⟩ (by simp; omega) (by simp; omega)
  have e : (((op - 1).toNat : Nat) : Int) + 1 = op := by omega
  simpa only [e] using this
theorem may_pl {k n p q : Int} (h : k ≠ 112) : mayP k n p = mayP k n q := by unfold mayP; simp [h]
theorem good_pl {i : Ins} (h4 : i.op ≠ 4) (h5 : i.op ≠ 5) (hg : goodP i 100 = true) : goodP i 1 = true := by
  have hop : 1 ≤ i.op ∧ i.op ≤ 32 := by
    unfold goodP at hg
    simp only [Bool.and_eq_true, decide_eq_true_eq] at hg
    exact hg.1.1.1.1
  obtain ⟨a, b, c⟩ := fldNoP i.op hop.1 hop.2 h4 h5
  unfold goodP fldOk at hg ⊢
  rw [may_pl (q := 100) a, may_pl (q := 100) b, may_pl (q := 100) c]
  exact hg
theorem regs_check {i : Ins} (h5 : i.op ≠ 5) (hg : goodP i 100 = true) (hc : checkP [i] = false) : rdsL i = [] ∧ wrsL i = [] := by
  by_cases h4 : i.op = 4
  · simp [rdsL, wrsL, h4]
  · have := good_pl h4 h5 hg
    simp [checkP, this] at hc
/-- what the law asks of such a row -/
structure RowOk (i : Ins) (R : List Int) : Prop where
  reg : ∀ x, x ∈ R → 0 ≤ x ∧ x < 8
  lt : R.Pairwise (· < ·)
  one : R ≠ [] → i.op ≠ 5 → checkP [i] = true
  len : R.length ≤ 8
theorem rowOk_of {i : Ins} {l : List Int} (hl : l = rdsL i ∨ l = wrsL i) : RowOk i (if goodP i 100 = true then risP l else []) := by
  cases hg : goodP i 100 with
  | false => exact ⟨by simp, by simp, by simp, by simp⟩
  | true =>
    rw [if_pos rfl]
    refine ⟨fun x hx => ?_, risP_lt l, fun hne h5 => ?_, ?_⟩
    · have := (List.mem_filter.1 hx).1
      simp only [List.mem_cons, List.not_mem_nil, or_false] at this
      omega
    · cases hc : checkP [i] with
      | true => rfl
      | false =>
        obtain ⟨h1, h2⟩ := regs_check h5 hg hc
        rcases hl with rfl | rfl
        · rw [h1] at hne; exact absurd (by simp [risP]) hne
        · rw [h2] at hne; exact absurd (by simp [risP]) hne
    · exact List.length_filter_le _ _
theorem progRegs_law {L0 : Lg} (code : F (N k_tarpaulinlaw4_ProgRegs) = some (c_tarpaulinlaw4_ProgRegs N)) (aw : F (N k_tarpaulinlaw4_awake) = some kTrue) (hs : F (N k_slices_Sort_intint) = some (kExt 0)) (hR : H_prog_Reads N F) (hW : H_prog_Writes N F) (hC : H_prog_Check N F) {i : Ins} {cv : AV} (hc : SlQ Cs3.cells 3 L0 cv i.cs) :
    CallL F (N k_tarpaulinlaw4_ProgRegs) [.agg (i.cells cv)] L0 fun v _ => v = .b true := by
  refine CallL.opq ?_
  intro Q hQ0
  have hQ : ∀ v L, v = .b true → Q v L := fun v L h => hQ0 v L h
  have fin : ∀ L, fin1 (some (.b true)) Q L := fun L => ⟨L, Sees.refl _, hQ _ _ rfl⟩
  have awk : ∀ L, CallL F (N k_tarpaulinlaw4_awake) [] L fun v L' => fin1 (some v) Q L' := by
    intro L
    refine (known_specP aw _).mono ?_
    rintro _ _ ⟨rfl, rfl⟩
    exact fin _
  apply r_tarpaulinlaw4_ProgRegs code
  unfold D_tarpaulinlaw4_ProgRegs_1
  have hcv : cv.one = true := by obtain ⟨a, cap, ex, rfl, _⟩ := hc; rfl
  have hone : (i.cells cv).all AV.one = true := by simp [Ins.cells, hcv]
  simp
  rw [newL_box_agg _ _ _ hone]
  intro b1 hb1
  have hb : (L0.put b1 (.raw (.cells (i.cells cv)))) b1 = some (.raw (.cells (i.cells cv))) := Lg.put_same _ _ _
  have hext : Ext2 L0 (L0.put b1 (.raw (.cells (i.cells cv)))) := (Ext2.refl L0).put hb1 _
  generalize hK : L0.put b1 (.raw (.cells (i.cells cv))) = K at hb hext
  unfold D_tarpaulinlaw4_ProgRegs_2
  have hlen := fun X k => hc.len (F := F) X k
  have e1 : ((Env.put (Env.put (initE [.agg (i.cells cv)] 0) 1 (.p (some (b1, 0)))) 2 (.b false)) 1) = .p (some (b1, 0)) := by simp
  have e0 : ∃ E : Env, E = (Env.put (Env.put (initE [.agg (i.cells cv)] 0) 1 (.p (some (b1, 0)))) 2 (.b false)) := ⟨_, rfl⟩
  obtain ⟨E0, hE0⟩ := e0
  rw [← hE0] at e1 ⊢
  rw [e1, fld_ld hb (x := cv) rfl]
  simp [hlen]
  refine ⟨fun _ => awk _, fun h20 => ?_⟩
  unfold D_tarpaulinlaw4_ProgRegs_5 D_tarpaulinlaw4_ProgRegs_7
  obtain ⟨I, hI⟩ : ∃ I : Nat → Env → Lg → Prop, I = fun m E K' => ∃ n : Nat, m + n = 2 ∧ E 1 = .p (some (b1, 0)) ∧ E 3 = .i .i64 n ∧ Ext2 K K' := ⟨_, rfl⟩
  refine loopW_intro I 2 ?_ ?_
  · rw [hI]
    exact ⟨0, by omega, by simp [e1], by simp, Ext2.refl _⟩
  intro m E t K' hi
  rw [hI] at hi
  obtain ⟨n, hm, g1, g3, gx⟩ := hi
  unfold D_tarpaulinlaw4_ProgRegs_8
  rw [g3]
  by_cases hn : ¬ n < 2
  · have : ¬ ((n : Int) < 2) := by omega
    simp [this, D_tarpaulinlaw4_ProgRegs_4]
    exact awk _
  have hn : n < 2 := by omega
  have c1 : (n : Int) < 2 := by omega
  -- the rest: a row
  have row : ∀ (E : Env) (K2 : Lg) (R : List Int), Ext2 K K2 → E 1 = .p (some (b1, 0)) → E 3 = .i .i64 n → SlQ oneI 1 K2 (E 4) R → RowOk i R → D_tarpaulinlaw4_ProgRegs_16 F N Q (fun l L => ∃ m_1, m_1 < m ∧ I m_1 l L) E K2 := by
    intro E K2 R hx g1 g3 g4 hR
    have hbx := hx _ _ hb
    have hx' := hx
    unfold D_tarpaulinlaw4_ProgRegs_16 D_tarpaulinlaw4_ProgRegs_18
    have hlr := fun X k => g4.len (F := F) X k
    obtain ⟨J, hJ⟩ : ∃ J : Nat → Env → Lg → Prop, J = fun m2 E2 K3 => ∃ j : Nat, m2 + j = R.length ∧ E2 1 = .p (some (b1, 0)) ∧ E2 3 = .i .i64 n ∧ E2 4 = E 4 ∧ E2 5 = .i .i64 j ∧ K3 = K2 := ⟨_, rfl⟩
    refine loopW_intro J R.length ?_ ?_
    · rw [hJ]
      exact ⟨0, by omega, by simp [g1], by simp [g3], by simp, by simp, rfl⟩
    intro m2 E2 t2 K3 hj
    rw [hJ] at hj
    obtain ⟨j, hm2, f1, f3, f4, f5, hK3⟩ := hj
    subst hK3
    unfold D_tarpaulinlaw4_ProgRegs_19
    rw [f4, f5]
    by_cases hjn : ¬ j < R.length
    · have c2 : ¬ ((j : Int) < (R.length : Int)) := by omega
      simp [hlr, c2]
      unfold D_tarpaulinlaw4_ProgRegs_15 D_tarpaulinlaw4_ProgRegs_10
      have w3 : wr .i64 ((n : Int) + 1) = ((n + 1 : Nat) : Int) := by rw [wr_id (by omega) (by omega)]; omega
      have nx : ∀ K4, Ext2 K3 K4 → ∃ m_1, m_1 < m ∧ I m_1 (E2.put 3 (.i .i64 ((n + 1 : Nat) : Int))) K4 := fun K4 hK4 => by
        refine ⟨2 - (n + 1), by omega, ?_⟩
        rw [hI]
        exact ⟨n + 1, by omega, by simp [f1], by simp, hx.trans hK4⟩
      rw [f1, f4]
      by_cases hR0 : R.length = 0
      · have hR1 : ¬ 0 < R.length := by omega
        simp [hlr, hR0, f3, w3]
        exact nx _ (Ext2.refl _)
      have hR1 : 0 < R.length := by omega
      have fB : rdL K3 (b1, 0) (some 6) = some (.agg (i.cells cv)) := by rw [rdL_cells hbx (by simp [Ins.cells])]; rfl
      have hR2 : decide ((0 : Int) < (R.length : Int)) = true := by simp; omega
      simp [hlr, hR1, fB]
      have hfill : fillP (reps [.i .i64 0, .i .i64 0, .i .i64 0, .i .i64 0, .sl none 0 0 0, .b false] 1) ([0].map fun i => (i * 6, 6)) [.agg (i.cells cv)] = some (i.cells cv) := by
        have h1 : (AV.agg (i.cells cv)).cellsOf = some (i.cells cv) := by rw [cellsOf_agg', if_pos hone]
        simp only [reps, List.append_nil, List.map_cons, List.map_nil, fillP, h1]
        rfl
      rw [hR2, newL_bslice (c := i.cells cv) _ _ hfill hone]
      intro b6 hb6
      have hp : PrL (K3.put b6 (.raw (.cells (i.cells cv)))) (.sl (some (b6, 0)) 1 1 0) [(i, cv)] := by
        refine ⟨⟨_, _, _, rfl, by simp, .inl rfl, .inr ⟨b6, 0, _, rfl, .inl (Lg.put_same _ _ _), by simp [Ins.cells], fun k x hk => ?_⟩⟩, fun x hx => ?_⟩
        · match k, hk with
          | 0, hk => simp at hk; subst hk; rfl
          | k + 1, hk => simp at hk
        · simp at hx; subst hx
          exact hc.mono ((hext.trans hx').put (hext.trans hx' |>.none hb6) _)
      have se : Ext2 K3 (K3.put b6 (.raw (.cells (i.cells cv)))) := (Ext2.refl K3).put hb6 _
      simp
      refine (check_spec hC hp (by simp)).mono ?_
      rintro _ K5 ⟨rfl, hK5⟩
      rw [hK5]
      clear hK5 K5
      have hb6' := se _ _ hbx
      have f0 : rdL (K3.put b6 (.raw (.cells (i.cells cv)))) (b1, 0) none = some (.i .i64 i.op) := by rw [rdL_cell hb6']; rfl
      have hRne : R ≠ [] := by rintro rfl; simp at hR0
      cases hck : checkP [i] with
      | true =>
        simp [hck, f3, w3]
        exact nx _ se
      | false =>
        have h5 : i.op = 5 := by
          by_cases h5 : i.op = 5
          · exact h5
          · have := hR.one hRne h5; rw [hck] at this; cases this
        simp [hck, f0, h5, f3, w3]
        exact nx _ se
    have hjn : j < R.length := by omega
    have c2 : (j : Int) < (R.length : Int) := by omega
    have hrj : R[j]? = some R[j] := List.getElem?_eq_getElem hjn
    obtain ⟨b, o, h1, h2, h3⟩ := g4.get (F := F) hrj
    have h4 : rdL K3 (b, o) none = some (.i .i64 R[j]) := by
      have := (h2 K3 (SubL.refl _)).1 0 (by omega); simpa [oneI] using this
    obtain ⟨q1, q2⟩ := hR.reg R[j] (List.getElem_mem _)
    have d1 : ¬ R[j] < 0 := by omega
    have d2 : ¬ 8 ≤ R[j] := by omega
    have w1 : wr .i64 ((j : Int) + 1) = ((j + 1 : Nat) : Int) := by rw [wr_id (by omega) (by have := hR.len; omega)]; omega
    have nxt : ∃ m, m < m2 ∧ J m (E2.put 5 (.i .i64 ((j + 1 : Nat) : Int))) K3 := by
      refine ⟨R.length - (j + 1), by omega, ?_⟩
      rw [hJ]
      exact ⟨j + 1, by omega, by simp [f1], by simp [f3], by simp [f4], by simp, rfl⟩
    by_cases hj0 : j = 0
    · subst hj0
      have h1' : ∀ (X : Lg) (k : AV → Lg → Prop), wpOp F (.iad 1) [E 4, .i .i64 0] X k = k (.p (some (b, o))) X := h1
      have w0 : wr .i64 (1 : Int) = 1 := wr_id (by omega) (by omega)
      simp [hlr, hjn, h1', h4, d1, d2, w0]
      simpa using nxt
    · have c3 : (0 : Int) < j := by omega
      have w2 : wr .i64 ((j : Int) - 1) = ((j - 1 : Nat) : Int) := by rw [wr_id (by omega) (by have := hR.len; omega)]; omega
      have hrj' : R[j - 1]? = some R[j - 1] := List.getElem?_eq_getElem (by omega)
      obtain ⟨b', o', h1', h2', h3'⟩ := g4.get (F := F) hrj'
      have h4' : rdL K3 (b', o') none = some (.i .i64 R[j - 1]) := by
        have := (h2' K3 (SubL.refl _)).1 0 (by omega); simpa [oneI] using this
      have hlt : R[j - 1] < R[j] := List.pairwise_iff_getElem.1 hR.lt (j - 1) j (by omega) hjn (by omega)
      have d3 : ¬ R[j] ≤ R[j - 1] := by omega
      have c4 : 0 < j := by omega
      simp [hlr, c2, hjn, h1, h4, d1, d2, c3, c4, w2, h1', h4', d3, w1]
      simpa using nxt
  unfold D_tarpaulinlaw4_ProgRegs_12
  have fA : ∀ K', Ext2 K K' → rdL K' (b1, 0) (some 6) = some (.agg (i.cells cv)) := fun K' h => by rw [rdL_cells (h _ _ hb) (by simp [Ins.cells])]; rfl
  rw [g1]
  simp [c1, fA _ gx]
  refine (reads_spec hR hs (hc.mono (hext.trans gx))).mono ?_
  rintro r K2 ⟨r1, r2⟩
  unfold D_tarpaulinlaw4_ProgRegs_13
  by_cases hn1 : n = 1
  · subst hn1
    simp [g3, g1, fA _ (gx.trans r2)]
    refine (writes_spec hW hs (hc.mono (hext.trans (gx.trans r2)))).mono ?_
    rintro r' K3 ⟨r3, r4⟩
    exact row _ K3 _ ((gx.trans r2).trans r4) (by simp [g1]) (by simp [g3]) (by simpa using r3) (rowOk_of (.inr rfl))
  · have : ¬ ((n : Int) = 1) := by omega
    simp [g3, this]
    exact row _ K2 _ (gx.trans r2) (by simp [g1]) (by simp [g3]) (by simpa using r1) (rowOk_of (.inl rfl))
end Go.AM


/- programs among a row's arguments. -/
set_option linter.unusedVariables false
set_option linter.unusedSimpArgs false
namespace Go.AM
open Go.RowKit
section
variable {H : Type} {enc : TypeId × Value → H} {P : Program} {W : World}
theorem open_cs3 {e ti tb : TypeId} {fs : Array Field} (he : P.underlying e = some (.struct fs)) (h3 : fs.size = 3) (hfs : ∀ (i : Nat) (f : Field), fs[i]? = some f → f.offset = i ∧ f.type = [tb, ti, ti].getD i 0) (hi : P.underlying ti = some (.int .i64)) (hb : P.underlying tb = some .bool) (hci : P.cellsOf ti = 1) (hcb : P.cellsOf tb = 1) (hc3 : P.cellsOf e = 3)
    {n : Nat} {cs : List Value} {y : DataW H × List MemPlace} (h : DataW.trod enc P W 0 (fun _ => true) true n e cs = some y) : ∃ x : Cs3, VRs (fun _ => none) x.cells cs := by
  obtain ⟨xs, m, _, _, hl, hxl, hf⟩ := DataW.trod_struct he h
  rw [hc3] at hl
  have fld : ∀ i, i < 3 → ∃ y, DataW.trod enc P W 0 (fun _ => true) true m ([tb, ti, ti].getD i 0) ((cs.drop i).take 1) = some y := by
    intro i hi3
    have h5 : ∃ f, fs[i]? = some f := ⟨_, Array.getElem?_eq_getElem (by omega)⟩
    obtain ⟨f, hfi⟩ := h5
    have h6 := hf i f hfi
    obtain ⟨o1, o2⟩ := hfs i f hfi
    have hc1 : P.cellsOf f.type = 1 := by
      rw [o2]; match i, hi3 with
      | 0, _ => exact hcb
      | 1, _ => exact hci
      | 2, _ => exact hci
    rw [hc1, o1, o2] at h6
    exact ⟨_, h6.trans (List.getElem?_eq_getElem (by omega))⟩
  match cs, hl with
  | [c0, c1, c2], _ =>
    obtain ⟨_, t0⟩ := fld 0 (by omega)
    obtain ⟨_, t1⟩ := fld 1 (by omega)
    obtain ⟨_, t2⟩ := fld 2 (by omega)
    obtain ⟨b, e0, _⟩ := DataW.trod_bool hb t0
    obtain ⟨i1, e1, _⟩ := DataW.trod_int hi t1
    obtain ⟨i2, e2, _⟩ := DataW.trod_int hi t2
    simp at e0 e1 e2
    subst e0 e1 e2
    exact ⟨⟨b, i1, i2⟩, .cons (.b _) (.cons (.i _ _) (.cons (.i _ _) .nil))⟩
/-- what a program's types are -/
structure InsT (P : Program) (e ti tb tc te : TypeId) : Prop where
  int : P.underlying ti = some (.int .i64)
  bool : P.underlying tb = some .bool
  cint : P.cellsOf ti = 1
  cbool : P.cellsOf tb = 1
  ins : ∃ fs, P.underlying e = some (.struct fs) ∧ fs.size = 6 ∧ ∀ (i : Nat) (f : Field), fs[i]? = some f → f.offset = i ∧ f.type = [ti, ti, ti, ti, tc, tb].getD i 0
  cins : P.cellsOf e = 6
  sl : P.underlying tc = some (.slice te)
  csl : P.cellsOf tc = 1
  cas : ∃ fs, P.underlying te = some (.struct fs) ∧ fs.size = 3 ∧ ∀ (i : Nat) (f : Field), fs[i]? = some f → f.offset = i ∧ f.type = [tb, ti, ti].getD i 0
  ccas : P.cellsOf te = 3
def cellX : Ins × AV → List AV := fun x => x.1.cells x.2
def insR (L : Lg) (x : Ins × AV) : Prop := SlQ Cs3.cells 3 L x.2 x.1.cs
theorem open_ins {e ti tb tc te : TypeId} (T : InsT P e ti tb tc te) {S : St} {β : Bt} {L : Lg} (h : AR W S β L) {n : Nat} {cs : List Value} {y : DataW H × List MemPlace} (hd : DataW.trod enc P W 0 (fun _ => true) true n e cs = some y) :
    ∃ x S' β' L', AR W S' β' L' ∧ Ext β β' ∧ Ext2 L L' ∧ VRs β' (cellX x) cs ∧ insR L' x := by
  obtain ⟨fs, he, h6, hfs⟩ := T.ins
  obtain ⟨gs, hg, h3, hgs⟩ := T.cas
  obtain ⟨xs, m, _, _, hl, hxl, hf⟩ := DataW.trod_struct he hd
  rw [T.cins] at hl
  have fld : ∀ i, i < 6 → ∃ y, DataW.trod enc P W 0 (fun _ => true) true m ([ti, ti, ti, ti, tc, tb].getD i 0) ((cs.drop i).take 1) = some y := by
    intro i hi6
    have h5 : ∃ f, fs[i]? = some f := ⟨_, Array.getElem?_eq_getElem (by omega)⟩
    obtain ⟨f, hfi⟩ := h5
    have h6 := hf i f hfi
    obtain ⟨o1, o2⟩ := hfs i f hfi
    have hc1 : P.cellsOf f.type = 1 := by
      rw [o2]; match i, hi6 with
      | 0, _ => exact T.cint
      | 1, _ => exact T.cint
      | 2, _ => exact T.cint
      | 3, _ => exact T.cint
      | 4, _ => exact T.csl
      | 5, _ => exact T.cbool
    rw [hc1, o1, o2] at h6
    exact ⟨_, h6.trans (List.getElem?_eq_getElem (by omega))⟩
  match cs, hl with
  | [c0, c1, c2, c3, c4, c5], _ =>
    obtain ⟨_, t0⟩ := fld 0 (by omega)
    obtain ⟨_, t1⟩ := fld 1 (by omega)
    obtain ⟨_, t2⟩ := fld 2 (by omega)
    obtain ⟨_, t3⟩ := fld 3 (by omega)
    obtain ⟨_, t4⟩ := fld 4 (by omega)
    obtain ⟨_, t5⟩ := fld 5 (by omega)
    obtain ⟨i0, e0, _⟩ := DataW.trod_int T.int t0
    obtain ⟨i1, e1, _⟩ := DataW.trod_int T.int t1
    obtain ⟨i2, e2, _⟩ := DataW.trod_int T.int t2
    obtain ⟨i3, e3, _⟩ := DataW.trod_int T.int t3
    obtain ⟨b5, e5, _⟩ := DataW.trod_bool T.bool t5
    obtain ⟨v4, a4, l4, S', β', L', e4, ar, hx, hx2, hv, hs, _⟩ := AR.nest (X := Cs3) Cs3.cells (fun _ _ => True) (fun _ _ _ _ _ => trivial) h T.sl T.ccas (by omega) Cs3.len
      (fun S β L hA n cs y hy => by
        obtain ⟨x, hx⟩ := open_cs3 hg h3 hgs T.int T.bool T.cint T.cbool T.ccas hy
        exact ⟨x, S, β, L, hA, Ext.refl β, Ext2.refl L, hx.mono (fun _ _ h => by cases h), trivial⟩) t4
    simp at e0 e1 e2 e3 e4 e5
    subst e0 e1 e2 e3 e4 e5
    exact ⟨(⟨i0, i1, i2, i3, l4, b5⟩, a4), S', β', L', ar, hx, hx2, .cons (.i _ _) (.cons (.i _ _) (.cons (.i _ _) (.cons (.i _ _) (.cons hv (.cons (.b _) .nil))))), SlN.toQ Cs3.len hs⟩
theorem insR_mono (L L' : Lg) (x : Ins × AV) (e : Ext2 L L') (h : insR L x) : insR L' x := SlQ.mono h e
theorem open_prog {t e ti tb tc te : TypeId} (T : InsT P e ti tb tc te) (ht : P.underlying t = some (.slice e)) {S : St} {β : Bt} {L : Lg} (h : AR W S β L) {n : Nat} {cs : List Value} {y : DataW H × List MemPlace} (hd : DataW.trod enc P W 0 (fun _ => true) true n t cs = some y) :
    ∃ (p : List (Ins × AV)) (a : AV) (v : Value) (S' : St) (β' : Bt) (L' : Lg), cs = [v] ∧ AR W S' β' L' ∧ Ext β β' ∧ Ext2 L L' ∧ VR β' a v ∧ PrL L' a p := by
  obtain ⟨v, a, l, S', β', L', e1, ar, hx, hx2, hv, hs, hr⟩ := AR.nest (X := Ins × AV) cellX insR insR_mono h ht T.cins (by omega) (fun _ => rfl) (fun S β L hA n cs y hy => open_ins T hA hy) hd
  exact ⟨l, a, v, S', β', L', e1, ar, hx, hx2, hv, SlN.toQ (fun _ => rfl) hs, hr⟩
/-- a program among the arguments -/
theorem AR.prog {S : St} {β : Bt} {L : Lg} (h : AR W S β L) {t e ti tb tc te : TypeId} (ht : P.underlying t = some (.slice e)) (T : InsT P e ti tb tc te) {v : Value} {base : Nat} (hval : Value.okWide P W .any base t v) {d : DataW H} {ps : List MemPlace} (hd : DataW.Trod enc P W 0 (fun _ => true) true t v d ps) :
    ∃ (p : List (Ins × AV)) (S' : St) (β' : Bt) (L' : Lg) (a : AV), AR W S' β' L' ∧ Ext β β' ∧ Ext2 L L' ∧ VR β' a v ∧ PrL L' a p := by
  obtain ⟨a0, len, cap, rfl⟩ := Go.WideShapes.okWide_slice ht hval
  obtain ⟨fuel, hf⟩ := hd
  obtain ⟨p, a, v', S', β', L', e1, ar, hx, hx2, hv, hp⟩ := open_prog T ht h hf
  have e2 : [Value.slice a0 len cap] = [v'] := e1
  cases e2
  exact ⟨p, S', β', L', a, ar, hx, hx2, hv, hp⟩
/-- an instruction among the arguments -/
theorem AR.ins {S : St} {β : Bt} {L : Lg} (h : AR W S β L) {e ti tb tc te : TypeId} (T : InsT P e ti tb tc te) {v : Value} {base : Nat} (hval : Value.okWide P W .any base e v) {d : DataW H} {ps : List MemPlace} (hd : DataW.Trod enc P W 0 (fun _ => true) true e v d ps) :
    ∃ (i : Ins) (S' : St) (β' : Bt) (L' : Lg) (a : AV), AR W S' β' L' ∧ Ext β β' ∧ Ext2 L L' ∧ VR β' (.agg (i.cells a)) v ∧ SlQ Cs3.cells 3 L' a i.cs := by
  obtain ⟨fs, he, _⟩ := T.ins
  obtain ⟨cs, rfl, hsz⟩ := Go.WideShapes.okWide_struct he hval
  obtain ⟨fuel, hf⟩ := hd
  obtain ⟨x, S', β', L', ar, hx, hx2, hv, hp⟩ := open_ins T h hf
  exact ⟨x.1, S', β', L', x.2, ar, hx, hx2, .agg hv, hp⟩
end
end Go.AM


/- functions of the library, by what they do: that they do so (door seats alone). -/
set_option linter.unusedVariables false
set_option linter.unusedSimpArgs false
namespace Go.AM
open Go.RowKit (Below)
/-! ### slices.Sort -/
theorem intsOf_ints {β : Bt} : ∀ {cs : List AV} {zs : List Int} {vs : List Value}, intsOf cs = some zs → VRs β cs vs → vs = zs.map (Value.int .i64)
  | [], zs, _, h, .nil => by cases h; rfl
  | .i .i64 n :: r, zs, _, h, .cons hv ht => by
    simp only [intsOf, Option.map_eq_some_iff] at h
    obtain ⟨y, hy, rfl⟩ := h
    cases hv
    rw [intsOf_ints hy ht]; rfl
theorem VRs_ints (β : Bt) : ∀ l : List Int, VRs β (l.map fun n => AV.i .i64 n) (l.map (Value.int .i64))
  | [] => .nil
  | n :: r => .cons (.i _ _) (VRs_ints β r)
theorem xSort_ok {P : Program} {f : Nat} (hfn : ∃ fn, P.funcs[f]? = some fn ∧ fn.body.isSome = true ∧ (fn.name == "runtime.NumGoroutine") = false)
    (hc : ∀ (blk off cap : Nat) (zs : List Int) (w : World), Go.Sort.Holds (Value.int .i64) w blk off zs.toArray → blk < w.heap.size → zs.length < 4611686018427387904 →
      Calls P f #[.slice (some ⟨blk, off, none⟩) zs.length cap] w fun e w' => e = .returned (.tuple #[]) ∧ ∃ n os, w' = Go.Sort.grow (Go.Sort.putRow (Value.int .i64) (Go.Sort.ahead w n) blk off (zs.mergeSort fun x y => decide (x ≤ y)).toArray) os)
    (hn : ∀ (cap : Nat) (w : World), Calls P f #[.slice none 0 cap] w fun e w' => e = .returned (.tuple #[]) ∧ w' = w) : ExtOk P f 0 := by
  refine ⟨hfn, fun B0 β w S vs as v S' h hwf hv hR hfree => ?_⟩
  change xSort vs S = some (v, S') at h
  unfold xSort at h
  split at h
  · rename_i a len c ex
    split at h
    · rename_i cs hcs0
      have hcs : rdCells S.h (some a) len = some cs ∧ len < 1000000 := by
        rw [blt_nat] at hcs0
        by_cases hh : len < 1000000
        · simp only [hh, decide_true, cond_true] at hcs0; exact ⟨hcs0, hh⟩
        · simp only [hh, decide_false, cond_false] at hcs0; cases hcs0
      obtain ⟨hcs, hbig⟩ := hcs
      split at h
      · rename_i zs hzs
        split at h
        · cases h
        · rename_i z0 zr
          split at h
          · rename_i h' hw
            cases h
            obtain ⟨v0, has, hv0⟩ : ∃ v0, as = #[v0] ∧ VR β (.sl (some a) len c ex) v0 := by
              obtain ⟨l⟩ := as
              cases hv with
              | cons h1 h2 => cases h2; exact ⟨_, rfl, h1⟩
            subst has
            obtain ⟨r, k⟩ := a
            cases hv0 with
            | sl hb hl hcc he hz ha =>
              rename_i b o zz c' ad
              obtain ⟨h1, l', h2, h3⟩ := rd_cells hR hcs hb
              have e1 := intsOf_ints hzs h2
              have hlen : (z0 :: zr).length = len := by
                have := h2.length
                rw [e1, List.length_map] at this
                omega
              have had : ad = ⟨b, o + k, none⟩ := by
                rcases ha with h9 | h9
                · simp at hlen; omega
                · exact h9
              subst had
              -- the block
              generalize hsl : ((z0 :: zr).mergeSort fun x y => decide (x ≤ y)) = ss at hw
              have hsslen : ss.length = len := by rw [← hsl, List.length_mergeSort]; exact hlen
              unfold wrCells at hw
              simp only at hw
              split at hw
              · rename_i c0 hg
                rw [cond_eq_ite] at hw
                split at hw
                · rename_i hcond
                  cases hw
                  simp only [Bool.and_eq_true, List.length_map] at hcond
                  have hle : k + ss.length ≤ c0.length := Nat.le_of_ble_eq_true hcond.1
                  obtain ⟨h0, cur, t, hh, hzz, hcr⟩ := hR.blk r _ b o zz hg hb
                  have hblt : b < w.heap.size := (Array.getElem?_eq_some_iff.1 hh).1
                  have hcsz : o + c0.length ≤ cur.size := by
                    rcases Nat.eq_zero_or_pos c0.length with h9 | h9
                    · omega
                    · obtain ⟨u, hu, _⟩ := hcr (c0.length - 1) _ (List.getElem?_eq_getElem (by omega))
                      have := (Array.getElem?_eq_some_iff.1 hu).1
                      omega
                  have hH : Go.Sort.Holds (Value.int .i64) w b (o + k) (z0 :: zr).toArray := by
                    intro j hj
                    have hj' : j < (z0 :: zr).length := by simpa using hj
                    refine ⟨?_, by simp [World.frozen?, hh]⟩
                    have := h3 j (.int .i64 ((z0 :: zr)[j])) (by rw [e1, List.getElem?_map, List.getElem?_eq_getElem hj']; rfl)
                    rw [this]
                    congr 2
                    simp [getElem!_pos, hj']
                    rw [List.getElem?_eq_getElem hj']; rfl
                  have hcc2 := hc b (o + k) c' (z0 :: zr) w hH hblt (by omega)
                  rw [hlen] at hcc2
                  refine hcc2.mono ?_
                  rintro e w' ⟨rfl, n, os, rfl⟩
                  rw [hsl]
                  refine ⟨β, _, rfl, .tup .nil, ?_⟩
                  have hst : Stp B0 β S w β { S with h := S.h.set r (some (.cells (splice c0 k (ss.map fun n => .i .i64 n)))) } (Go.Sort.putRow (Value.int .i64) (Go.Sort.ahead w n) b (o + k) ss.toArray) := by
                    refine stp_set hR hg rfl rfl hb rfl rfl rfl (by rw [Go.Sort.size_putRow]; rfl) ?_ ⟨h0, Go.Sort.putCells (Value.int .i64) (o + k) ss.toArray cur, t, ?_, ?_, ?_⟩
                    · intro j hj
                      simp only [Go.Sort.putRow, Go.Sort.mapBlock, Go.Sort.ahead]
                      rw [Array.getElem?_modify, if_neg (Ne.symm hj)]
                    · simp only [Go.Sort.putRow, Go.Sort.mapBlock, Go.Sort.ahead]
                      rw [Array.getElem?_modify, if_pos rfl, hh]
                      rfl
                    · simp [Go.Sort.putCells]; exact hzz
                    · intro i v hi
                      rw [splice_get c0 _ k (by simpa using hle), List.length_map] at hi
                      simp only [Go.Sort.putCells, Array.getElem?_mapIdx]
                      by_cases i1 : i < k
                      · rw [if_pos i1] at hi
                        obtain ⟨u, hu, hr⟩ := hcr i v hi
                        have : ¬ (o + k ≤ o + i ∧ o + i < o + k + ss.toArray.size) := by omega
                        rw [hu]
                        simp only [Option.map_some, this, if_false]
                        exact ⟨u, rfl, hr⟩
                      · rw [if_neg i1] at hi
                        by_cases i2 : i < k + ss.length
                        · rw [if_pos i2, List.getElem?_map] at hi
                          have hik : i - k < ss.length := by omega
                          rw [List.getElem?_eq_getElem hik] at hi
                          cases hi
                          have hcu : o + i < cur.size := by omega
                          have : o + k ≤ o + i ∧ o + i < o + k + ss.toArray.size := by simp; omega
                          rw [Array.getElem?_eq_getElem hcu]
                          simp only [Option.map_some, this, and_self, if_true]
                          refine ⟨_, rfl, ?_⟩
                          have e3 : ss.toArray[o + i - (o + k)]! = ss[i - k] := by
                            have e4 : o + i - (o + k) = i - k := by omega
                            rw [e4]
                            simp [getElem!_pos, hik]
                          rw [e3]
                          exact .i _ _
                        · rw [if_neg i2] at hi
                          obtain ⟨u, hu, hr⟩ := hcr i v hi
                          have : ¬ (o + k ≤ o + i ∧ o + i < o + k + ss.toArray.size) := by simp; omega
                          rw [hu]
                          simp only [Option.map_some, this, if_false]
                          exact ⟨u, rfl, hr⟩
                  refine hst.trans (stp_below hst.rel ⟨rfl, rfl, rfl, ?_, ?_⟩)
                  · simp [Go.Sort.grow]
                  · intro j hj
                    simp only [Go.Sort.grow]
                    rw [Array.getElem?_append_left hj]
                · cases hw
              · cases hw
          · cases h
      · cases h
    · cases h
  · cases h
    obtain ⟨v0, has, hv0⟩ : ∃ v0, as = #[v0] ∧ VR β (.sl none 0 0 0) v0 := by
      obtain ⟨l⟩ := as
      cases hv with
      | cons h1 h2 => cases h2; exact ⟨_, rfl, h1⟩
    subst has
    cases hv0
    refine (hn 0 w).mono ?_
    rintro e w' ⟨rfl, rfl⟩
    exact ⟨β, _, rfl, .tup .nil, Stp.refl hR⟩
  · cases h
end Go.AM
