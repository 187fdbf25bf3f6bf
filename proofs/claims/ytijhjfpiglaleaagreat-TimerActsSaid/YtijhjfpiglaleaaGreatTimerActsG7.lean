/- The texts LibCtxA, LibCtxB, LibCtxC, LibCtxD, LibCtxE, LibCtxF, LibCtxG, LibCtxH, LibCtxI, LibCtxJ, LibCtxK, LibCtxL, LibCtxM, LibCtxN, LibCtxO, LibCtxP, LibLaw, GenE, LibLapseA, GenF, LibScriptA, LibScriptB, LibScriptC, LibScriptD, LibLapseD, LibScriptE, LibScriptF, LibRefB, LibRefC, LibRefD, LibRefE, LibRefG, LibRefH, LibRefI, LibRefJ, LawTimerActsA of a proof of TimerActs, merged. -/
import Derived.Test.YtijhjfpiglaleaaGreatTimerActsG6
import Derived.KernelRfl
set_option linter.unusedVariables false
set_option linter.unusedSimpArgs false
namespace Go.AM
variable {N : Nat → Nat} {F : Nat → Option AFn}
structure One where
  node : Int
  free : Bool
  c : Option Nat
  err : Int
  cause : Int
  when : Int
  has : Bool
  own : Bool
  timer : Int
  deriving DecidableEq
structure Aft where
  node : Int
  prog : Int
  over : Bool
  deriving DecidableEq
structure Cs where
  t : Option Nat
  tree : List Nd
  ones : List One
  afts : List Aft
  who : Int → Option Int
section
variable {M L : Lg} {c t mb : Nat} {osl asl : AV} {σ : Cs} {Q : AV → Lg → Prop}
def Cs.has (σ : Cs) (id : Int) : Bool := decide (0 ≤ id) && decide (id < σ.ones.length)
end
end Go.AM


set_option linter.unusedVariables false
set_option linter.unusedSimpArgs false
namespace Go.AM
variable {N : Nat → Nat} {F : Nat → Option AFn}
section
variable {M L : Lg} {c t mb : Nat} {osl asl : AV} {σ : Cs} {Q : AV → Lg → Prop}
end
end Go.AM


set_option linter.unusedVariables false
set_option linter.unusedSimpArgs false
namespace Go.AM
variable {N : Nat → Nat} {F : Nat → Option AFn}
structure Lap where
  id : Int
  err : Int
  cause : Int
  wakes : List Wk
structure CX where
  σ : Cs
  τ : Tms
  χ : Nat → Ch
section
variable {L0 K K' : Lg} {v1 v2 : AV} {ps : List (Lap × AV)} {sts : List (Int × Int)}
end
end Go.AM


set_option linter.unusedVariables false
set_option linter.unusedSimpArgs false
namespace Go.AM
variable {N : Nat → Nat} {F : Nat → Option AFn}
section
variable {M L L0 : Lg} {c t mb : Nat} {osl asl : AV} {S S' : CX} {Q : AV → Lg → Prop}
end
end Go.AM


set_option linter.unusedVariables false
set_option linter.unusedSimpArgs false
namespace Go.AM
variable {N : Nat → Nat} {F : Nat → Option AFn}
section
variable {M L L0 : Lg} {c t mb : Nat} {osl asl : AV} {S S' : CX} {Q : AV → Lg → Prop}
end
end Go.AM


set_option linter.unusedVariables false
set_option linter.unusedSimpArgs false
namespace Go.AM
variable {N : Nat → Nat} {F : Nat → Option AFn}
section
variable {M L L0 : Lg} {c t mb : Nat} {osl asl : AV} {S S' : CX} {Q : AV → Lg → Prop}
end
end Go.AM


set_option linter.unusedVariables false
set_option linter.unusedSimpArgs false
namespace Go.AM
variable {N : Nat → Nat} {F : Nat → Option AFn}
section
variable {M L L0 : Lg} {c t mb : Nat} {osl asl : AV} {S S' : CX} {Q : AV → Lg → Prop}
theorem has_nat {σ : Cs} {id : Int} (h : σ.has id = true) : ∃ i : Nat,id = (i : Int) ∧ i < σ.ones.length := by
  simp [Cs.has] at h
  obtain ⟨i,rfl⟩ := Int.eq_ofNat_of_zero_le h.1
  exact ⟨i,rfl,by omega⟩
end
end Go.AM


set_option linter.unusedVariables false
set_option linter.unusedSimpArgs false
namespace Go.AM
variable {N : Nat → Nat} {F : Nat → Option AFn}
section
variable {M L L0 : Lg} {c t mb : Nat} {osl asl : AV} {S S' : CX} {Q : AV → Lg → Prop}
end
end Go.AM


set_option linter.unusedVariables false
set_option linter.unusedSimpArgs false
namespace Go.AM
variable {N : Nat → Nat} {F : Nat → Option AFn}
section
variable {M L L0 : Lg} {c t mb : Nat} {osl asl : AV} {S S' : CX} {Q : AV → Lg → Prop}
end
end Go.AM


set_option linter.unusedVariables false
set_option linter.unusedSimpArgs false
namespace Go.AM
variable {N : Nat → Nat} {F : Nat → Option AFn}
section
variable {M L L0 : Lg} {c t mb : Nat} {osl asl : AV} {S S' : CX} {σ : Cs} {Q : AV → Lg → Prop}
end
end Go.AM


set_option linter.unusedVariables false
set_option linter.unusedSimpArgs false
namespace Go.AM
def hangs (ns : List Nd) (k : Int) (i : Nat) : Bool := match ns[i]? with | some n => n.linked && decide (n.parent = k) | none => false
def kidsOf (ns : List Nd) (k : Int) : List Nat := (List.range ns.length).filter (hangs ns k)
def pre (ns : List Nd) : Nat → Nat → List Nat
  | 0,_ => []
  | f + 1,k => k :: (kidsOf ns (k : Int)).flatMap (pre ns f)
end Go.AM


set_option linter.unusedVariables false
set_option linter.unusedSimpArgs false
namespace Go.AM
end Go.AM


set_option linter.unusedVariables false
set_option linter.unusedSimpArgs false
namespace Go.AM
end Go.AM


set_option linter.unusedVariables false
set_option linter.unusedSimpArgs false
namespace Go.AM
end Go.AM


set_option linter.unusedVariables false
set_option linter.unusedSimpArgs false
namespace Go.AM
end Go.AM


set_option linter.unusedVariables false
set_option linter.unusedSimpArgs false
namespace Go.AM
section
variable {c : Nat} {S S' : CX} {L L2 : Lg}
end
end Go.AM


set_option linter.unusedVariables false
set_option linter.unusedSimpArgs false
namespace Go.AM
variable {N : Nat → Nat} {F : Nat → Option AFn}
def KeepE (o : Option Nat) (K K1 : Lg) : Prop := ∀ r d,K r = some d → o ≠ some r → K1 r = some d
theorem KeepE.none_ {K K1 : Lg} (h : KeepE none K K1) {r : Nat} {d : LC} (hr : K r = some d) : K1 r = some d := h r d hr (by simp)
theorem new1 {K : Lg} {x z : AV} (hx : x.cellsOf = some [x]) {k : AV → Lg → Prop} (hk : ∀ (v' : AV) (K1 : Lg),OSl K1 v' [x] 1 1 → KeepE none K K1 → (∀ b,slB v' = some b → K b = none) → k v' K1) : wpOp F (.bslice [z] 1 1 [0]) [x] K k := by
  have hone : x.one = true := by have := cellsOf_one hx; simpa using this
  rw [wp_bslice,newL_bslice (c := [x]) _ _ (by simp [reps,fillP,splice,ble_nat,beq_nat,hx]) (by simp [hone])]
  intro b1 hb1
  refine hk _ _ (.inr ⟨b1,0,by omega,rfl,.inl rfl,Lg.put_same _ _ _,rfl⟩) ?_ ?_
  · intro r d hr _
    rw [Lg.put_ne]; exact hr
    rintro rfl; rw [hb1] at hr; cases hr
  · intro b hbb; simp [slB] at hbb; subst hbb; exact hb1
end Go.AM


set_option linter.unusedVariables false
set_option maxRecDepth 100000
namespace Go.AM
end Go.AM

set_option linter.unusedVariables false
set_option linter.unusedSimpArgs false
namespace Go.AM
variable {N : Nat → Nat} {F : Nat → Option AFn}
def SubL (K K' : Lg) : Prop := ∀ r d,K r = some d → K' r = some d
theorem SubL.refl (K : Lg) : SubL K K := fun _ _ h => h
theorem SubL.trans {A B C : Lg} (h : SubL A B) (k : SubL B C) : SubL A C := fun r d e => k r d (h r d e)
theorem SubL.put {K K' : Lg} (h : SubL K K') {b : Nat} (hb : K' b = none) (x : LC) : SubL K (K'.put b x) := fun r d e => by
  have := h r d e
  rw [Lg.put_ne]; exact this
  rintro rfl; rw [hb] at this; cases this
theorem SubL.sees {K K' : Lg} (h : SubL K K') : Sees K' K := Sees.drop h
structure View where
  par : Int
  link : Bool
  err : Int
  cause : Int
  dl : Int
  has : Bool
instance : Inhabited View := ⟨⟨0,false,0,0,0,false⟩⟩
theorem drop_get {cs : List AV} {o n : Nat} {f : List AV} (h : (cs.drop o).take n = f) {j : Nat} (hj : j < n) : cs[o + j]? = f[j]? := by
  rw [← h,List.getElem?_take_of_lt hj,List.getElem?_drop]
end Go.AM


set_option linter.unusedVariables false
set_option maxRecDepth 100000
namespace Go.AM
end Go.AM

set_option linter.unusedVariables false
set_option linter.unusedSimpArgs false
namespace Go.AM
variable {N : Nat → Nat} {F : Nat → Option AFn}
def SlG {α : Type} (f : α → List AV) (z : Nat) (K : Lg) (v : AV) (l : List α) : Prop := ∃ a cap ex,v = .sl a l.length cap ex ∧ l.length ≤ cap ∧ (ex = 0 ∨ ex = z) ∧ ((l = [] ∧ a = none) ∨ ∃ b off cs,a = some (b,off) ∧ (K b = some (.raw (.cells cs)) ∨ K b = some (.raw (.ro cs))) ∧ off + l.length * z ≤ cs.length ∧ ∀ (i : Nat) (x : α),l[i]? = some x → (cs.drop (off + i * z)).take z = f x)
section
variable {α : Type} {f : α → List AV} {z : Nat}
theorem SlG.len {K : Lg} {v : AV} {l : List α} (h : SlG f z K v l) (X : Lg) (k : AV → Lg → Prop) : wpOp F .lenSl [v] X k = k (.i .i64 l.length) X := by
  obtain ⟨a,cap,ex,rfl,_⟩ := h
  simp
theorem row_le {i n z off m : Nat} (hi : i < n) (h : off + n * z ≤ m) : off + i * z + z ≤ m := by
  have : i * z + z ≤ n * z := by rw [← Nat.succ_mul]; exact Nat.mul_le_mul_right _ hi
  omega
theorem SlG.get {K : Lg} {v : AV} {l : List α} (h : SlG f z K v l) {i : Nat} {x : α} (hi : l[i]? = some x) : ∃ b o,(∀ (X : Lg) (k : AV → Lg → Prop),wpOp F (.iad z) [v,.i .i64 i] X k = k (.p (some (b,o))) X) ∧
    (∀ X : Lg,SubL K X → (∀ j,j < z → rdL X (b,o + j) none = (f x)[j]?) ∧ rdL X (b,o) (some z) = some (.agg (f x))) ∧ K b ≠ none := by
  obtain ⟨a,cap,ex,rfl,hc,he,⟨h1,_⟩ | ⟨b,off,cs,rfl,h2,h6,h3⟩⟩ := h
  · subst h1; simp at hi
  · have hl := (List.getElem?_eq_some_iff.1 hi).1
    have h4 := row_le hl h6
    have h5 := h3 i x hi
    refine ⟨b,off + i * z,fun X k => ?_,fun X hX => ?_,?_⟩
    · rw [wp_iad F X k z b off l.length cap ex .i64 i (by omega) (by omega)]
      simp
    · rcases h2 with h2 | h2
      · refine ⟨fun j hj => ?_,?_⟩
        · rw [rdL_cell (hX _ _ h2),drop_get h5 hj]
        · rw [rdL_cells (hX _ _ h2) h4,h5]
      · refine ⟨fun j hj => ?_,?_⟩
        · rw [rdL_ro (hX _ _ h2),drop_get h5 hj]
        · rw [rdL_ros (hX _ _ h2) h4,h5]
    · rcases h2 with h2 | h2 <;> rw [h2] <;> simp
theorem SlG.of_own {K : Lg} {v : AV} {l : List α} (hf : ∀ x,(f x).length = z) (h : OSl K v (flatc f l) l.length z) : SlG f z K v l := by
  rcases h with ⟨h2,h1,rfl⟩ | ⟨b,ex,h1,rfl,he,h2,h3⟩
  · exact ⟨none,0,0,by rw [h2],by omega,.inl rfl,.inl ⟨List.length_eq_zero_iff.1 h2,rfl⟩⟩
  · refine ⟨some (b,0),l.length,ex,rfl,Nat.le_refl _,he,.inr ⟨b,0,flatc f l,rfl,.inl h2,by omega,fun i x hi => ?_⟩⟩
    have := flatc_at (f := f) (k := z) hf l i x hi
    simpa using this.1
theorem SlG.from {K : Lg} {v : AV} {l : List α} (h : SlG f z K v l) {k : Nat} (hk : k ≤ l.length) : ∃ v',slcV z true false false [v,.i .i64 k] = some v' ∧ SlG f z K v' (l.drop k) := by
  obtain ⟨a,cap,ex,rfl,hc,he,h1⟩ := h
  have hex : (Nat.beq ex 0 || Nat.beq ex z) = true := by
    rcases he with rfl | rfl
    · simp [beq_nat]
    · simp [beq_nat]
  refine ⟨.sl (a.map fun (n,o) => (n,o + k * z)) (l.length - k) (cap - k) ex,?_,a.map fun (n,o) => (n,o + k * z),cap - k,ex,by rw [List.length_drop],by rw [List.length_drop]; omega,he,?_⟩
  · show slcV z true false false [.sl a l.length cap ex,.i .i64 (Int.ofNat k)] = _
    simp [slcV,optIdx,idx,ble_nat,hex,hk,hc]
  · rcases h1 with ⟨h1,rfl⟩ | ⟨b,off,cs,rfl,h2,h6,h3⟩
    · exact .inl ⟨by rw [h1]; simp,rfl⟩
    · refine .inr ⟨b,off + k * z,cs,rfl,h2,?_,fun i x hi => ?_⟩
      · rw [List.length_drop,Nat.sub_mul]
        have : k * z ≤ l.length * z := Nat.mul_le_mul_right _ hk
        omega
      · rw [List.getElem?_drop] at hi
        have := h3 (k + i) x hi
        have e : off + (k + i) * z = off + k * z + i * z := by rw [Nat.add_mul]; omega
        rw [e] at this
        exact this
theorem SlG.upto {K : Lg} {v : AV} {l : List α} (h : SlG f z K v l) {k : Nat} (hk : k ≤ l.length) : ∃ v',slcV z false true false [v,.i .i64 k] = some v' ∧ SlG f z K v' (l.take k) := by
  obtain ⟨a,cap,ex,rfl,hc,he,h1⟩ := h
  have hex : (Nat.beq ex 0 || Nat.beq ex z) = true := by
    rcases he with rfl | rfl
    · simp [beq_nat]
    · simp [beq_nat]
  refine ⟨.sl a k cap ex,?_,a,cap,ex,by rw [List.length_take,Nat.min_eq_left hk],by rw [List.length_take]; omega,he,?_⟩
  · show slcV z false true false [.sl a l.length cap ex,.i .i64 (Int.ofNat k)] = _
    have hkc : k ≤ cap := by omega
    simp [slcV,optIdx,idx,ble_nat,hex,hkc]
  · rcases h1 with ⟨h1,rfl⟩ | ⟨b,off,cs,rfl,h2,h6,h3⟩
    · exact .inl ⟨by rw [h1]; simp,rfl⟩
    · refine .inr ⟨b,off,cs,rfl,h2,?_,fun i x hi => ?_⟩
      · rw [List.length_take,Nat.min_eq_left hk]
        have : k * z ≤ l.length * z := Nat.mul_le_mul_right _ hk
        omega
      · have hi' : i < k := by have := (List.getElem?_eq_some_iff.1 hi).1; simp at this; omega
        rw [List.getElem?_take_of_lt hi'] at hi
        exact h3 i x hi
theorem SlG.all {K : Lg} {v : AV} {l : List α} (hf : ∀ x,(f x).length = z) (h : SlG f z K v l) : ∃ a cap ex,v = .sl a l.length cap ex ∧ ∀ X : Lg,SubL K X → rdCellsL X a (l.length * z) = some (flatc f l) := by
  obtain ⟨a,cap,ex,rfl,hc,he,⟨h1,rfl⟩ | ⟨b,off,cs,rfl,h2,h6,h3⟩⟩ := h
  · subst h1
    exact ⟨none,cap,ex,rfl,fun X _ => by simp [rdCellsL,flatc]⟩
  · refine ⟨_,cap,ex,rfl,fun X hX => ?_⟩
    have hcells : ∀ (l : List α) (o : Nat),o + l.length * z ≤ cs.length → (∀ (i : Nat) (x : α),l[i]? = some x → (cs.drop (o + i * z)).take z = f x) → (cs.drop o).take (l.length * z) = flatc f l := by
      intro l
      induction l with
      | nil => intro o _ _; simp [flatc]
      | cons x r ih =>
        intro o ho hg
        have h0 := hg 0 x rfl
        have e1 : (x :: r).length * z = z + r.length * z := by rw [List.length_cons,Nat.add_mul,Nat.one_mul]; omega
        rw [e1] at ho ⊢
        rw [List.take_add,List.drop_drop]
        rw [ih (o + z) (by omega) (fun i y hy => by
          have := hg (i + 1) y hy
          have e2 : o + (i + 1) * z = o + z + i * z := by rw [Nat.add_mul]; omega
          rw [e2] at this; exact this)]
        simp only [Nat.zero_mul,Nat.add_zero] at h0
        rw [h0]; rfl
    have hcut : cut cs off (l.length * z) = some (flatc f l) := by
      simp [cut,ble_nat,h6,hcells l off h6 h3]
    rcases h2 with h2 | h2 <;> simp [rdCellsL,hX _ _ h2,AB.read,hcut]
end
abbrev Ent := Int × Int × Int
def e3 (x : Ent) : List AV := [.i .i64 x.1,.i .i64 x.2.1,.i .i64 x.2.2]
end Go.AM


set_option linter.unusedVariables false
set_option linter.unusedSimpArgs false
namespace Go.AM
def isB (b : Int) : Prop := 0 ≤ b ∧ b < 256
end Go.AM


set_option linter.unusedVariables false
set_option linter.unusedSimpArgs false
namespace Go.AM
variable {N : Nat → Nat} {F : Nat → Option AFn}
end Go.AM


set_option linter.unusedVariables false
set_option linter.unusedSimpArgs false
namespace Go.AM
def in64 (n : Int) : Prop := -9223372036854775808 ≤ n ∧ n < 9223372036854775808
def inE (x : Ent) : Prop := in64 x.1 ∧ in64 x.2.1 ∧ in64 x.2.2
end Go.AM


set_option linter.unusedVariables false
set_option linter.unusedSimpArgs false
namespace Go.AM
open Go.RowKit
end Go.AM


set_option linter.unusedVariables false
set_option linter.unusedSimpArgs false
namespace Go.AM
open Go.RowKit
variable {N : Nat → Nat} {F : Nat → Option AFn}
def REnt := { x : Ent // inE x }
instance : Inhabited REnt := ⟨⟨(0,0,0),by unfold inE in64; simp⟩⟩
def RByt := { x : Int // isB x }
instance : Inhabited RByt := ⟨⟨0,by unfold isB; simp⟩⟩
end Go.AM


set_option linter.unusedVariables false
set_option linter.unusedSimpArgs false
namespace Go.AM
variable {N : Nat → Nat} {F : Nat → Option AFn}
def OSe (K : Lg) (v : AV) (cs : List AV) (n size : Nat) : Prop := OSl K v cs n size ∨ (n = 0 ∧ cs = [] ∧ ∃ b,v = .sl (some (b,0)) 0 0 0 ∧ K b = some (.raw (.cells [])))
theorem OSe.block {K : Lg} {v : AV} {cs : List AV} {n size : Nat} (h : OSe K v cs n size) {b : Nat} (e : slB v = some b) : K b = some (.raw (.cells cs)) := by
  rcases h with h | ⟨_,rfl,b',rfl,h⟩
  · exact h.block e
  · simp [slB] at e; subst e; exact h
theorem OSe.slG {α : Type} {f : α → List AV} {z : Nat} {K : Lg} {v : AV} {l : List α} (hf : ∀ x,(f x).length = z) (h : OSe K v (flatc f l) l.length z) : SlG f z K v l := by
  rcases h with h | ⟨h1,h2,b,rfl,h3⟩
  · exact SlG.of_own hf h
  · have := List.length_eq_zero_iff.1 h1
    subst this
    exact ⟨some (b,0),0,0,rfl,by simp,.inl rfl,.inr ⟨b,0,[],rfl,.inl h3,by simp,fun i x hi => by simp at hi⟩⟩
theorem lit0 {K : Lg} {z : List AV} {size : Nat} {k : AV → Lg → Prop} (hk : ∀ (v' : AV) (K1 : Lg),OSe K1 v' [] 0 size → SubL K K1 → (∀ b,slB v' = some b → K b = none) → k v' K1) : wpOp F (.bslice z 0 size []) [] K k := by
  rw [wp_bslice,newL_bslice (c := []) _ _ (by simp [reps,fillP]) rfl]
  intro b1 hb1
  refine hk _ _ (.inr ⟨rfl,rfl,b1,rfl,Lg.put_same _ _ _⟩) ((SubL.refl K).put hb1 _) ?_
  intro b hb; simp [slB] at hb; subst hb; exact hb1
theorem OSe.app {α : Type} {f : α → List AV} {z bytes n : Nat} {K : Lg} {v src : AV} {cs : List AV} {l : List α} (hf : ∀ x,(f x).length = z) (h1 : ∀ x,(f x).all AV.one = true) (hz : 0 < z) (h : OSe K v cs n z) (hs : SlG f z K src l) (hb : (n + l.length) * bytes ≤ 70368744177664)
    {k : AV → Lg → Prop} (hk : ∀ (v' : AV) (K1 : Lg),OSe K1 v' (cs ++ flatc f l) (n + l.length) z → KeepE (slB v) K K1 → (∀ b,slB v' = some b → K b = none ∨ slB v = some b) → k v' K1) : wpOp F (.app z bytes) [v,src] K k := by
  obtain ⟨a,cap,ex,rfl,hall⟩ := hs.all hf
  have hr := hall K (SubL.refl K)
  rw [wp_app]
  by_cases h0 : l.length = 0
  · have hl := List.length_eq_zero_iff.1 h0
    subst hl
    have same : k v K := hk v K (by simpa [flatc] using h) (fun r d hr _ => hr) (fun b hb => .inr hb)
    simp only [List.length_nil,Nat.zero_mul] at hr
    rcases h with h | ⟨_,_,b,rfl,_⟩
    · exact h.app0 rfl (by simpa [flatc] using hr) same
    · simp only [appW,List.length_nil,Nat.zero_mul,hr,appL]
      simpa [flatc] using same
  · have hlen := flatc_length (f := f) (k := z) hf l
    rcases h with h | ⟨rfl,rfl,b,rfl,hb'⟩
    · refine h.app (m := l.length) hz rfl (by omega) hr hlen (flatc_one h1 l) hb ?_
      intro b K1 g hO
      refine hk _ _ (.inl hO) ?_ ?_
      · intro r d hr hne
        have r2 : r ≠ b := by rintro rfl; rw [g.fresh] at hr; cases hr
        rw [g.same r r2 hne]; exact hr
      · intro q hq; simp [slB] at hq; subst hq; exact .inl g.fresh
    · refine appW_grow (L' := K) (old := []) hr (flatc_one h1 l) (by omega) hb (by simp [rdCellsL,hb',AB.read,cut,ble_nat]) (by simp [goneL]) ?_
      intro q hq
      refine hk _ _ (.inl (.inr ⟨q,z,by omega,rfl,.inr rfl,Lg.put_same _ _ _,by simp [hlen]⟩)) ?_ ?_
      · intro r d hr _
        rw [Lg.put_ne]; exact hr
        rintro rfl; rw [hq] at hr; cases hr
      · intro q' hq'; simp [slB] at hq'; subst hq'; exact .inl hq
end Go.AM


set_option linter.unusedVariables false
set_option linter.unusedSimpArgs false
namespace Go.AM
variable {N : Nat → Nat} {F : Nat → Option AFn}
def findR (id : Int) : List It → Nat → Int
  | [],_ => -1
  | x :: r,k => if x.id = id then (k : Int) else findR id r (k + 1)
theorem findR_drop {id : Int} {l : List It} {i : Nat} {x : It} (h : l[i]? = some x) : findR id (l.drop i) i = if x.id = id then (i : Int) else findR id (l.drop (i + 1)) (i + 1) := by
  have hi := (List.getElem?_eq_some_iff.1 h)
  obtain ⟨h1,h2⟩ := hi
  rw [List.drop_eq_getElem_cons h1,h2]
  rfl
theorem findR_cases (id : Int) : ∀ (l : List It) (k : Nat),(findR id l k = -1 ∧ findId id l = none ∧ rmId id l = l) ∨ ∃ (j : Nat) (x : It),findR id l k = ((k + j : Nat) : Int) ∧ l[j]? = some x ∧ x.id = id ∧ findId id l = some x ∧ ((l.map It.id).Nodup → l.take j ++ l.drop (j + 1) = rmId id l)
  | [],k => .inl ⟨rfl,rfl,rfl⟩
  | x :: r,k => by
    by_cases h : x.id = id
    · refine .inr ⟨0,x,by simp [findR,h],rfl,h,by simp [findId,h],fun nd => ?_⟩
      simp only [List.map_cons,List.nodup_cons] at nd
      have : rmId id r = r := by
        unfold rmId
        rw [List.filter_eq_self]
        intro y hy
        have : ¬ y.id = id := fun h9 => nd.1 (by rw [h,← h9]; exact List.mem_map_of_mem hy)
        simp [this]
      simp only [rmId] at this
      simp [rmId,h,this]
    · rcases findR_cases id r (k + 1) with ⟨h1,h2,h3⟩ | ⟨j,y,h1,h2,h3,h4,h5⟩
      · left
        refine ⟨by simp [findR,h,h1],by simp only [findId] at h2 ⊢; simp [h,h2],?_⟩
        simp only [rmId] at h3 ⊢
        simp [h,h3]
      · right
        refine ⟨j + 1,y,by simp [findR,h,h1]; omega,by simpa using h2,h3,by simp only [findId] at h4 ⊢; simp [h,h4],fun nd => ?_⟩
        simp only [List.map_cons,List.nodup_cons] at nd
        have := h5 nd.2
        simp only [rmId] at this ⊢
        simp [h,this]
theorem ins_at {x : It} : ∀ (A B : List It),(∀ y ∈ A,¬ x.lt y) → (∀ y ∈ B,x.lt y) → ins x (A ++ B) = A ++ x :: B
  | [],[],_,_ => rfl
  | [],y :: r,_,h => by simp [ins,h y (by simp)]
  | a :: A,B,h1,h2 => by
    simp only [List.cons_append,ins]
    rw [if_neg (h1 a (by simp)),ins_at A B (fun y hy => h1 y (by simp [hy])) h2]
def per3 (p : Int × Int) : List AV := [.i .i64 p.1,.i .i64 p.2,.i .i64 0]
def perOf (id : Int) : List (Int × Int) → Option Int
  | [] => none
  | p :: r => if p.1 = id then some p.2 else perOf id r
def rmP (id : Int) : List (Int × Int) → List (Int × Int)
  | [] => []
  | p :: r => if p.1 = id then r else p :: rmP id r
theorem rmP_at {id : Int} : ∀ {l : List (Int × Int)} {j : Nat} {x : Int × Int},l[j]? = some x → x.1 = id → (∀ i y,i < j → l[i]? = some y → y.1 ≠ id) → rmP id l = l.take j ++ l.drop (j + 1)
  | [],j,x,h,_,_ => by simp at h
  | a :: r,0,x,h,hx,_ => by simp at h; subst h; simp [rmP,hx]
  | a :: r,j + 1,x,h,hx,hn => by
    have h0 := hn 0 a (by omega) rfl
    have := rmP_at (l := r) (j := j) (x := x) (by simpa using h) hx (fun i y hi hy => hn (i + 1) y (by omega) (by simpa using hy))
    simp [rmP,h0,this]
theorem rmP_no {id : Int} : ∀ {l : List (Int × Int)},(∀ y ∈ l,y.1 ≠ id) → rmP id l = l
  | [],_ => rfl
  | a :: r,h => by simp [rmP,h a (by simp),rmP_no (l := r) (fun y hy => h y (by simp [hy]))]
theorem perOf_at {id : Int} : ∀ {l : List (Int × Int)} {j : Nat} {x : Int × Int},l[j]? = some x → x.1 = id → (∀ i y,i < j → l[i]? = some y → y.1 ≠ id) → perOf id l = some x.2
  | [],j,x,h,_,_ => by simp at h
  | a :: r,0,x,h,hx,_ => by simp at h; subst h; simp [perOf,hx]
  | a :: r,j + 1,x,h,hx,hn => by
    have h0 := hn 0 a (by omega) rfl
    have := perOf_at (l := r) (j := j) (x := x) (by simpa using h) hx (fun i y hi hy => hn (i + 1) y (by omega) (by simpa using hy))
    simp [perOf,h0,this]
theorem perOf_no {id : Int} : ∀ {l : List (Int × Int)},(∀ y ∈ l,y.1 ≠ id) → perOf id l = none
  | [],_ => rfl
  | a :: r,h => by simp [perOf,h a (by simp),perOf_no (l := r) (fun y hy => h y (by simp [hy]))]
theorem rmP_mem {id : Int} : ∀ {l : List (Int × Int)} {y : Int × Int},y ∈ rmP id l → y ∈ l
  | [],y,h => by simp [rmP] at h
  | a :: r,y,h => by
    simp only [rmP] at h
    split at h
    · simp [h]
    · rcases List.mem_cons.1 h with h | h
      · simp [h]
      · simp [rmP_mem h]
theorem rmP_nd {id : Int} : ∀ {l : List (Int × Int)},(l.map (·.1)).Nodup → ((rmP id l).map (·.1)).Nodup ∧ (∀ y ∈ rmP id l,y.1 ≠ id) ∧ ∀ j,perOf j (rmP id l) = updI (fun k => perOf k l) id none j
  | [],_ => ⟨by simp [rmP],by simp [rmP],fun j => by simp [rmP,perOf,updI]⟩
  | a :: r,nd => by
    simp only [List.map_cons,List.nodup_cons] at nd
    obtain ⟨h1,h2,h3⟩ := rmP_nd (id := id) nd.2
    by_cases h : a.1 = id
    · have hn : ∀ y ∈ r,y.1 ≠ id := fun y hy h9 => nd.1 (by rw [h,← h9]; exact List.mem_map_of_mem hy)
      refine ⟨by simpa [rmP,h] using nd.2,by simpa [rmP,h] using hn,fun j => ?_⟩
      simp only [rmP,h,if_true,updI,perOf]
      by_cases hj : id = j
      · subst hj; simp [perOf_no hn]
      · simp [hj]
    · refine ⟨?_,?_,fun j => ?_⟩
      · simp only [rmP,h,if_false,List.map_cons,List.nodup_cons]
        refine ⟨fun h9 => ?_,h1⟩
        obtain ⟨y,hy,he⟩ := List.mem_map.1 h9
        exact nd.1 (by rw [← he]; exact List.mem_map_of_mem (rmP_mem hy))
      · intro y hy
        simp only [rmP,h,if_false] at hy
        rcases List.mem_cons.1 hy with rfl | hy
        · exact h
        · exact h2 y hy
      · have := h3 j
        simp only [updI] at this
        simp only [rmP,h,if_false,updI,perOf,this]
        by_cases hj : id = j
        · subst hj; simp [h]
        · simp [hj]
theorem perOf_append {id p j : Int} : ∀ {l : List (Int × Int)},(∀ y ∈ l,y.1 ≠ id) → perOf j (l ++ [(id,p)]) = updI (fun k => perOf k l) id (some p) j
  | [],_ => by simp [perOf,updI]
  | a :: r,h => by
    have := perOf_append (id := id) (p := p) (j := j) (l := r) (fun y hy => h y (by simp [hy]))
    have h0 := h a (by simp)
    simp only [updI] at this
    simp only [List.cons_append,perOf,this,updI]
    by_cases hj : id = j
    · subst hj; simp [h0]
    · simp [hj]
structure ROpen (L : Lg) (u : Nat) (σ : Tms) (per : List (Int × Int)) (sv pv ov : AV) (K : Lg) : Prop where
  root : K u = some (.raw (.cells [sv,.i .i64 σ.x.seq,pv,ov,.i .i64 σ.named]))
  hs : OSe K sv (flatc It.cells σ.x.l) σ.x.l.length 3
  ps : OSe K pv (flatc per3 per) per.length 3
  os : OSl K ov (flatc On.cells σ.ones) σ.ones.length 4
  a1 : ∀ b,slB sv = some b → b ≠ u ∧ L b = none
  a2 : ∀ b,slB pv = some b → b ≠ u ∧ L b = none ∧ slB sv ≠ some b
  a3 : ∀ b,slB ov = some b → b ≠ u ∧ L b = none ∧ slB sv ≠ some b ∧ slB pv ≠ some b
  old : ∀ r d,r ≠ u → L r = some d → K r = some d
theorem OSe.cellsOf {K : Lg} {v : AV} {cs : List AV} {n size : Nat} (h : OSe K v cs n size) : v.cellsOf = some [v] := by
  rcases h with h | ⟨_,_,b,rfl,_⟩
  · exact h.cellsOf
  · rfl
theorem OSe.same {K : Lg} {v : AV} {cs : List AV} {n size : Nat} (h : OSe K v cs n size) : sameV v v = true := by
  rcases h with (⟨_,_,rfl⟩ | ⟨b,ex,_,rfl,_⟩) | ⟨_,_,b,rfl,_⟩ <;> simp
theorem OSe.mono {K K' : Lg} {v : AV} {cs : List AV} {n size : Nat} (h : OSe K v cs n size) (e : ∀ b,slB v = some b → K' b = K b) : OSe K' v cs n size := by
  rcases h with h | ⟨h1,h2,b,rfl,h3⟩
  · exact .inl (h.mono e)
  · exact .inr ⟨h1,h2,b,rfl,by rw [e b rfl]; exact h3⟩
theorem OSe.sub {K K' : Lg} {v : AV} {cs : List AV} {n size : Nat} (h : OSe K v cs n size) (e : ∀ b d,slB v = some b → K b = some d → K' b = some d) : OSe K' v cs n size :=
  h.mono fun b hb => by rw [h.block hb]; exact e b _ hb (h.block hb)
theorem OSl.sub {K K' : Lg} {v : AV} {cs : List AV} {n size : Nat} (h : OSl K v cs n size) (e : ∀ b d,slB v = some b → K b = some d → K' b = some d) : OSl K' v cs n size :=
  h.mono fun b hb => by rw [h.block hb]; exact e b _ hb (h.block hb)
theorem litOneN {z cs : List AV} {size : Nat} {K : Lg} {k : AV → Lg → Prop} (hz : z.length = size) (hc : cs.length = size) (h1 : cs.all AV.one = true) (hk : ∀ (v : AV) (K1 : Lg),OSl K1 v cs 1 size → SubL K K1 → (∀ b,slB v = some b → K b = none) → k v K1) :
    newL (aBslice z 1 size [0]) [.agg cs] K k := by
  rw [newL_bslice (c := cs) _ _ (by simp [reps,fillP,splice,ble_nat,beq_nat,hz,hc,cellsOf_agg cs h1]) h1]
  intro b1 hb1
  refine hk _ _ (.inr ⟨b1,0,by omega,rfl,.inl rfl,Lg.put_same _ _ _,by simp [hc]⟩) ((SubL.refl K).put hb1 _) ?_
  intro b hb; simp [slB] at hb; subst hb; exact hb1
theorem litOne {z cs : List AV} {size : Nat} {K : Lg} {k : AV → Lg → Prop} (hz : z.length = size) (hc : cs.length = size) (h1 : cs.all AV.one = true) (hk : ∀ (v : AV) (K1 : Lg),OSl K1 v cs 1 size → SubL K K1 → (∀ b,slB v = some b → K b = none) → k v K1) :
    wpOp F (.bslice z 1 size [0]) [.agg cs] K k := by
  rw [wp_bslice]
  exact litOneN hz hc h1 hk
end Go.AM


set_option linter.unusedVariables false
set_option linter.unusedSimpArgs false
namespace Go.AM
variable {N : Nat → Nat} {F : Nat → Option AFn}
structure LitS (K0 : Lg) (v : AV) (cs : List AV) (n z : Nat) (K1 : Lg) : Prop where
  o : OSe K1 v cs n z
  s : SubL K0 K1
  f : ∀ b,slB v = some b → K0 b = none
theorem SubL.none {K0 K1 : Lg} (h : SubL K0 K1) {b : Nat} (hb : K1 b = Option.none) : K0 b = Option.none := by
  cases hk : K0 b with
  | none => rfl
  | some d => rw [h b d hk] at hb; cases hb
theorem LitS.start {K : Lg} {zs : List AV} {z : Nat} {k : AV → Lg → Prop} (hk : ∀ (v : AV) (K1 : Lg),LitS K v [] 0 z K1 → k v K1) : wpOp F (.bslice zs 0 z []) [] K k :=
  lit0 fun v K1 h1 h2 h3 => hk v K1 ⟨h1,h2,h3⟩
theorem LitS.app {α : Type} {f : α → List AV} {z bytes n : Nat} {K0 K : Lg} {v src : AV} {cs : List AV} {l : List α} (h : LitS K0 v cs n z K) (hf : ∀ x,(f x).length = z) (h1 : ∀ x,(f x).all AV.one = true) (hz : 0 < z) (hs : SlG f z K src l) (hb : (n + l.length) * bytes ≤ 70368744177664)
    {k : AV → Lg → Prop} (hk : ∀ (v' : AV) (K1 : Lg),LitS K0 v' (cs ++ flatc f l) (n + l.length) z K1 → k v' K1) : wpOp F (.app z bytes) [v,src] K k := by
  refine h.o.app hf h1 hz hs hb ?_
  intro v' K1 h2 h3 h4
  refine hk v' K1 ⟨h2,fun r d hr => h3 r d (h.s r d hr) (fun h9 => by have := h.f r h9; rw [hr] at this; cases this),fun b hb' => ?_⟩
  rcases h4 b hb' with h9 | h9
  · exact h.s.none h9
  · exact h.f b h9
theorem LitS.mono {z n : Nat} {K0 K K' : Lg} {v : AV} {cs : List AV} (h : LitS K0 v cs n z K) (hs : SubL K K') : LitS K0 v cs n z K' := ⟨h.o.sub fun b d _ hd => hs b d hd,h.s.trans hs,h.f⟩
theorem It.len3 (x : It) : x.cells.length = 3 := rfl
theorem It.one3 (x : It) : x.cells.all AV.one = true := rfl
theorem per3_len (x : Int × Int) : (per3 x).length = 3 := rfl
theorem per3_one (x : Int × Int) : (per3 x).all AV.one = true := rfl
section
variable {L K : Lg} {u : Nat} {σ : Tms} {per : List (Int × Int)} {sv pv ov : AV}
theorem ROpen.ne (o : ROpen L u σ per sv pv ov K) {b : Nat} (hb : K b = none) : b ≠ u ∧ L b = none ∧ slB sv ≠ some b ∧ slB pv ≠ some b ∧ slB ov ≠ some b := by
  have h1 : b ≠ u := by rintro rfl; have := o.root; rw [hb] at this; cases this
  refine ⟨h1,?_,?_,?_,?_⟩
  · cases h : L b with
    | none => rfl
    | some d => rw [o.old b d h1 h] at hb; cases hb
  · intro h; have := o.hs.block h; rw [hb] at this; cases this
  · intro h; have := o.ps.block h; rw [hb] at this; cases this
  · intro h; have := o.os.block h; rw [hb] at this; cases this
theorem ROpen.sub (o : ROpen L u σ per sv pv ov K) {K' : Lg} (h : SubL K K') : ROpen L u σ per sv pv ov K' :=
  ⟨h _ _ o.root,o.hs.sub fun b d _ hd => h b d hd,o.ps.sub fun b d _ hd => h b d hd,o.os.sub fun b d _ hd => h b d hd,o.a1,o.a2,o.a3,fun r d hr hd => h r d (o.old r d hr hd)⟩
theorem ROpen.onto (o : ROpen L u σ per sv pv ov K) {b : Nat} (hb : K b = none) (d : LC) : ROpen (L.put b d) u σ per sv pv ov (K.put b d) := by
  obtain ⟨n1,n2,n3,n4,n5⟩ := o.ne hb
  have key : ∀ {r : Nat} {v : AV},slB v = some r → slB v ≠ some b → (L.put b d) r = L r := fun {r} {v} h1 h2 => Lg.put_ne _ _ _ (by rintro rfl; exact h2 h1)
  have o' := o.sub ((SubL.refl K).put hb d)
  refine ⟨o'.root,o'.hs,o'.ps,o'.os,fun r h => ?_,fun r h => ?_,fun r h => ?_,fun r e hr he => ?_⟩
  · rw [key h n3]; exact o.a1 r h
  · rw [key h n4]; exact o.a2 r h
  · rw [key h n5]; exact o.a3 r h
  · rw [Lg.put_apply] at he ⊢
    split
    · rename_i h9; rw [if_pos h9] at he; exact he
    · rename_i h9; rw [if_neg h9] at he; exact o.old r e hr he
theorem ROpen.below (o : ROpen L u σ per sv pv ov K) {L0 : Lg} (h : ∀ r d,r ≠ u → L0 r = some d → L r = some d) : ROpen L0 u σ per sv pv ov K := by
  have key : ∀ b,b ≠ u → L b = none → L0 b = none := fun b h1 h2 => by
    cases h3 : L0 b with
    | none => rfl
    | some d => rw [h b d h1 h3] at h2; cases h2
  exact ⟨o.root,o.hs,o.ps,o.os,fun b hb => ⟨(o.a1 b hb).1,key b (o.a1 b hb).1 (o.a1 b hb).2⟩,fun b hb => ⟨(o.a2 b hb).1,key b (o.a2 b hb).1 (o.a2 b hb).2.1,(o.a2 b hb).2.2⟩,
    fun b hb => ⟨(o.a3 b hb).1,key b (o.a3 b hb).1 (o.a3 b hb).2.1,(o.a3 b hb).2.2⟩,fun r d hr hd => o.old r d hr (h r d hr hd)⟩
theorem ROpen.newH (o : ROpen L u σ per sv pv ov K) {v : AV} {l : List It} {K1 : Lg} (h : LitS K v (flatc It.cells l) l.length 3 K1) :
    ROpen L u { σ with x := { σ.x with l := l } } per v pv ov (K1.put u (.raw (.cells [v,.i .i64 σ.x.seq,pv,ov,.i .i64 σ.named]))) := by
  have fr := fun b hb => o.ne (h.f b hb)
  have kp : ∀ {b : Nat} {d : LC},b ≠ u → K b = some d → (K1.put u (.raw (.cells [v,.i .i64 σ.x.seq,pv,ov,.i .i64 σ.named]))) b = some d := fun {b d} h1 h2 => by rw [Lg.put_ne _ _ _ h1]; exact h.s b d h2
  refine ⟨Lg.put_same _ _ _,h.o.mono fun b hb => Lg.put_ne _ _ _ (fr b hb).1,o.ps.sub fun b d hb hd => kp (o.a2 b hb).1 hd,o.os.sub fun b d hb hd => kp (o.a3 b hb).1 hd,
    fun b hb => ⟨(fr b hb).1,(fr b hb).2.1⟩,fun b hb => ⟨(o.a2 b hb).1,(o.a2 b hb).2.1,fun h9 => (fr b h9).2.2.2.1 hb⟩,fun b hb => ⟨(o.a3 b hb).1,(o.a3 b hb).2.1,fun h9 => (fr b h9).2.2.2.2 hb,(o.a3 b hb).2.2.2⟩,
    fun r d hr hd => kp hr (o.old r d hr hd)⟩
theorem ROpen.newP (o : ROpen L u σ per sv pv ov K) {v : AV} {l : List (Int × Int)} {K1 : Lg} (h1 : OSe K1 v (flatc per3 l) l.length 3) (h2 : KeepE (slB pv) K K1) (h3 : ∀ b,slB v = some b → K b = none ∨ slB pv = some b) :
    ROpen L u σ l sv v ov (K1.put u (.raw (.cells [sv,.i .i64 σ.x.seq,v,ov,.i .i64 σ.named]))) := by
  have fr : ∀ b,slB v = some b → b ≠ u ∧ L b = none ∧ slB sv ≠ some b ∧ slB ov ≠ some b := fun b hb => by
    rcases h3 b hb with h | h
    · have := o.ne h; exact ⟨this.1,this.2.1,this.2.2.1,this.2.2.2.2⟩
    · have := o.a2 b h; exact ⟨this.1,this.2.1,this.2.2,fun h9 => (o.a3 b h9).2.2.2 h⟩
  have kp : ∀ {b : Nat} {d : LC},b ≠ u → slB pv ≠ some b → K b = some d → (K1.put u (.raw (.cells [sv,.i .i64 σ.x.seq,v,ov,.i .i64 σ.named]))) b = some d := fun {b d} g1 g2 g3 => by rw [Lg.put_ne _ _ _ g1]; exact h2 b d g3 g2
  refine ⟨Lg.put_same _ _ _,o.hs.sub fun b d hb hd => kp (o.a1 b hb).1 (fun h9 => (o.a2 b h9).2.2 hb) hd,h1.mono fun b hb => Lg.put_ne _ _ _ (fr b hb).1,o.os.sub fun b d hb hd => kp (o.a3 b hb).1 (o.a3 b hb).2.2.2 hd,
    o.a1,fun b hb => ⟨(fr b hb).1,(fr b hb).2.1,(fr b hb).2.2.1⟩,fun b hb => ⟨(o.a3 b hb).1,(o.a3 b hb).2.1,(o.a3 b hb).2.2.1,fun h9 => (fr b h9).2.2.2 hb⟩,
    fun r d hr hd => kp hr (fun h9 => by have := (o.a2 r h9).2.1; rw [hd] at this; cases this) (o.old r d hr hd)⟩
theorem ROpen.seq (o : ROpen L u σ per sv pv ov K) (q : Int) : ROpen L u { σ with x := { σ.x with seq := q } } per sv pv ov (K.put u (.raw (.cells [sv,.i .i64 q,pv,ov,.i .i64 σ.named]))) :=
  ⟨Lg.put_same _ _ _,o.hs.mono fun b hb => Lg.put_ne _ _ _ (o.a1 b hb).1,o.ps.mono fun b hb => Lg.put_ne _ _ _ (o.a2 b hb).1,o.os.mono fun b hb => Lg.put_ne _ _ _ (o.a3 b hb).1,o.a1,o.a2,o.a3,
    fun r d hr hd => by rw [Lg.put_ne _ _ _ hr]; exact o.old r d hr hd⟩
theorem ROpen.pf (o : ROpen L u σ per sv pv ov K) (f : Int → Option Int) : ROpen L u { σ with x := { σ.x with pf := f } } per sv pv ov K := ⟨o.root,o.hs,o.ps,o.os,o.a1,o.a2,o.a3,o.old⟩
theorem ROpen.slG (o : ROpen L u σ per sv pv ov K) : SlG It.cells 3 K sv σ.x.l := OSe.slG It.len3 o.hs
theorem ROpen.slP (o : ROpen L u σ per sv pv ov K) : SlG per3 3 K pv per := OSe.slG per3_len o.ps
theorem ROpen.slO (o : ROpen L u σ per sv pv ov K) : SlG On.cells 4 K ov σ.ones := SlG.of_own (fun _ => rfl) o.os
theorem ROpen.r0 (o : ROpen L u σ per sv pv ov K) : rdL K (u,0) none = some sv := by rw [rdL_cell o.root]; rfl
theorem ROpen.r1 (o : ROpen L u σ per sv pv ov K) : rdL K (u,1) none = some (.i .i64 σ.x.seq) := by rw [rdL_cell o.root]; rfl
theorem ROpen.r2 (o : ROpen L u σ per sv pv ov K) : rdL K (u,2) none = some pv := by rw [rdL_cell o.root]; rfl
theorem ROpen.r3 (o : ROpen L u σ per sv pv ov K) : rdL K (u,3) none = some ov := by rw [rdL_cell o.root]; rfl
theorem ROpen.r4 (o : ROpen L u σ per sv pv ov K) : rdL K (u,4) none = some (.i .i64 σ.named) := by rw [rdL_cell o.root]; rfl
theorem ROpen.st (o : ROpen L u σ per sv pv ov K) {K1 : Lg} (h : SubL K K1) {i : Nat} (hi : i < 5) {w : AV} (hw : w.cellsOf = some [w]) {k : AV → Lg → Prop}
    (hk : k .bad (K1.put u (.raw (.cells ([sv,.i .i64 σ.x.seq,pv,ov,.i .i64 σ.named].set i w))))) : stL 1 K1 k [.p (some (u,i)),w] := by
  rw [stL_cell (h _ _ o.root) (by simpa using hi) hw]; exact hk
theorem ROpen.putX (o : ROpen L u σ per sv pv ov K) {b : Nat} (h1 : b ≠ u) (h2 : L b = none) (h3 : slB sv ≠ some b) (h4 : slB pv ≠ some b) (h5 : slB ov ≠ some b) (d : LC) : ROpen L u σ per sv pv ov (K.put b d) := by
  have ne : ∀ {r : Nat} {v : AV},slB v = some r → slB v ≠ some b → r ≠ b := fun {r} {v} g1 g2 => by rintro rfl; exact g2 g1
  exact ⟨by rw [Lg.put_ne _ _ _ (Ne.symm h1)]; exact o.root,o.hs.mono fun r hr => Lg.put_ne _ _ _ (ne hr h3),o.ps.mono fun r hr => Lg.put_ne _ _ _ (ne hr h4),o.os.mono fun r hr => Lg.put_ne _ _ _ (ne hr h5),o.a1,o.a2,o.a3,
    fun r e hr he => by rw [Lg.put_ne _ _ _ (by rintro rfl; rw [h2] at he; cases he)]; exact o.old r e hr he⟩
theorem findH_spec (hf : H_f66 N F) (o : ROpen L u σ per sv pv ov K) (hl : σ.x.l.length ≤ 1000000) (id : Int) : CallL F (N k_f66) [.p (some (u,0)),.i .i64 id] K fun w K' => w = .i .i64 (findR id σ.x.l 0) ∧ K' = K := by
  refine CallL.opq ?_
  intro Q hQ
  apply r_f66 hf.code
  unfold D_f66_1 D_f66_4 D_f66_6
  obtain ⟨l,hll⟩ : ∃ l,l = σ.x.l := ⟨_,rfl⟩
  obtain ⟨I,hI⟩ : ∃ I : Nat → Env → Lg → Prop,I = fun m E K' => ∃ i : Nat,m + i = l.length ∧ E 0 = .p (some (u,0)) ∧ E 1 = .i .i64 id ∧ E 5 = .i .i64 i ∧ K' = K ∧ findR id l 0 = findR id (l.drop i) i := ⟨_,rfl⟩
  refine loopW_intro I l.length ?_ ?_
  · rw [hI]; exact ⟨0,by omega,by simp [initE],by simp [initE],by simp,rfl,rfl⟩
  intro m E t K' hi
  rw [hI] at hi
  obtain ⟨i,hm,e0,e1,e5,rfl,hfd⟩ := hi
  have fin : ∀ w,w = findR id l 0 → fin1 (some (.i .i64 w)) Q K' := fun w hw => ⟨K',Sees.refl _,hQ _ _ ⟨by rw [hw,hll],rfl⟩⟩
  have r0 := o.r0
  have sg := o.slG
  rw [← hll] at sg hl
  have hlen := fun X k => sg.len (F := F) X k
  unfold D_f66_7
  rw [e0,e1,e5]
  simp only [mark_eq,wp_nilchk_p,wp_fad,Nat.zero_add,wp_ld,r0,retL_some,hlen,wp_lss,condW_d]
  refine ⟨fun hlt => ?_,fun hnl => ?_⟩
  rotate_left
  · unfold D_f66_3
    refine fin _ ?_
    rw [hfd,List.drop_eq_nil_iff.2 (by omega)]; rfl
  have hil : i < l.length := by omega
  have hx : l[i]? = some l[i] := List.getElem?_eq_getElem hil
  generalize l[i] = x at hx
  have w1 : wr .i64 ((i : Int) + 1) = ((i + 1 : Nat) : Int) := by rw [wr_id (by omega) (by omega)]; omega
  obtain ⟨b,q,q1,q2,_⟩ := sg.get (F := F) hx
  have rid : rdL K' (b,q) none = some (.i .i64 x.id) := (q2 K' (SubL.refl _)).1 0 (by omega)
  have hstep := findR_drop (id := id) hx
  rw [hstep] at hfd
  simp only [mark_eq,wp_nilchk_p,wp_fad,Nat.add_zero,Nat.zero_add,wp_ld,r0,retL_some,q1,rid,wp_eql,condW_d]
  refine ⟨fun heq => fin _ ?_,fun hne => ?_⟩
  · rw [hfd,if_pos heq]
  · simp only [mark_eq,wp_add,w1]
    rw [hI]
    refine ⟨m - 1,by omega,i + 1,by omega,by simp [e0],by simp [e1],by simp,rfl,?_⟩
    rw [hfd,if_neg hne]
theorem hremoveR (hf : H_f67 N F) (o : ROpen L u σ per sv pv ov K) (nd : (σ.x.l.map It.id).Nodup) (hl : σ.x.l.length ≤ 1000000) (id : Int) :
    CallL F (N k_f67) [.p (some (u,0)),.i .i64 id] K fun v K' => v = retIt (findId id σ.x.l) ∧ ∃ sv',ROpen L u { σ with x := { σ.x with l := rmId id σ.x.l } } per sv' pv ov K' := by
  refine CallL.opq ?_
  intro Q hQ
  apply r_f67 hf.code
  unfold D_f67_1 D_f67_2
  simp
  intro rc hrc
  obtain ⟨K1,hK1⟩ : ∃ K1,K1 = K.put rc (.raw (.cells [.i .i64 0,.i .i64 0,.i .i64 0])) := ⟨_,rfl⟩
  have s1 : SubL K K1 := by rw [hK1]; exact (SubL.refl K).put hrc _
  have krc : K1 rc = some (.raw (.cells [.i .i64 0,.i .i64 0,.i .i64 0])) := by rw [hK1,Lg.put_same]
  have nrc := o.ne hrc
  rw [← hK1]
  have o1 := o.sub s1
  refine (findH_spec hf.f66 o1 hl id).mono ?_
  rintro _ K2 ⟨rfl,hK2⟩
  rw [hK2]
  unfold D_f67_3
  rcases findR_cases id σ.x.l 0 with ⟨h1,h2,h3⟩ | ⟨j,x,h1,h2,h3,h4,h5⟩
  · rw [h1]
    simp [fillP]
    rw [stL_cells krc (by simp) (by simp) (by simp),res_cell_tmp _ _ (Lg.put_same _ _ _) (by simp [splice])]
    refine ⟨K,?_,hQ _ _ ⟨by rw [h2]; simp [splice,retIt,It.zero,It.av,It.cells],sv,?_⟩⟩
    · rw [hK1,Lg.put_put]; exact ((SubL.refl K).put hrc _).sees
    · rw [h3]; exact o
  · have hj := (List.getElem?_eq_some_iff.1 h2).1
    have e1 : ((0 + j : Nat) : Int) = (j : Int) := by omega
    rw [h1,e1]
    obtain ⟨b,q,q1,q2,_⟩ := o1.slG.get (F := F) h2
    have hr := (q2 K1 (SubL.refl _)).2
    have w1 : wr .i64 ((j : Int) + 1) = ((j + 1 : Nat) : Int) := by rw [wr_id (by omega) (by omega)]; omega
    simp only [mark_eq,wp_lss,condW_d]
    refine ⟨fun h9 => absurd h9 (by omega),fun _ => ?_⟩
    simp only [mark_eq,wp_nilchk_p,wp_fad,Nat.add_zero,wp_ld,o1.r0,retL_some,q1,hr,wp_alloc]
    intro x9 hx9
    have n9 : x9 ≠ rc := by rintro rfl; rw [krc] at hx9; cases hx9
    have n9u := o1.ne hx9
    rw [wp_st,stL_cells (Lg.put_same _ _ _) (It.one3 x) (It.len3 x) (by simp),Lg.put_put,show splice [AV.i .i64 0,.i .i64 0,.i .i64 0] 0 x.cells = x.cells by simp [splice,It.cells]]
    obtain ⟨K4,hK4⟩ : ∃ K4,K4 = K1.put x9 (.raw (.cells x.cells)) := ⟨_,rfl⟩
    have s4 : SubL K1 K4 := by rw [hK4]; exact (SubL.refl K1).put hx9 _
    have k9 : K4 x9 = some (.raw (.cells x.cells)) := by rw [hK4,Lg.put_same]
    rw [← hK4]
    have o4 := o1.sub s4
    refine LitS.start ?_
    intro v11 K5 l5
    have o5 := o4.sub l5.s
    obtain ⟨va,e2,sa⟩ := o5.slG.upto (k := j) (by omega)
    simp only [mark_eq,wp_nilchk_p,wp_fad,Nat.add_zero,wp_ld,o5.r0,retL_some,wp_slc,e2]
    refine l5.app It.len3 It.one3 (by omega) sa (by simp; omega) ?_
    intro v16 K6 l6
    have o6 := o4.sub l6.s
    obtain ⟨vb,e3,sb⟩ := o6.slG.from (k := j + 1) (by omega)
    simp only [mark_eq,wp_nilchk_p,wp_fad,Nat.add_zero,wp_ld,o6.r0,retL_some,wp_add,w1,wp_slc,e3]
    refine l6.app It.len3 It.one3 (by omega) sb (by simp; omega) ?_
    intro v22 K7 l7
    have hfl : [] ++ flatc It.cells (σ.x.l.take j) ++ flatc It.cells (σ.x.l.drop (j + 1)) = flatc It.cells (rmId id σ.x.l) := by
      rw [List.nil_append,← flatc_append,h5 nd]
    have hln : 0 + (σ.x.l.take j).length + (σ.x.l.drop (j + 1)).length = (rmId id σ.x.l).length := by
      rw [← h5 nd,List.length_append]; omega
    rw [hfl,hln] at l7
    have o8 := o4.newH l7
    simp only [mark_eq,wp_nilchk_p,wp_fad,Nat.add_zero,wp_st]
    refine o4.st l7.s (by omega) l7.o.cellsOf ?_
    refine ⟨⟨by simp [againV,semRL,rLdL,o6.r0,o4.r0,o.hs.same],trivial⟩,?_⟩
    have nrc7 : rc ≠ u := nrc.1
    have kk : ∀ {b : Nat} {d : LC},b ≠ u → K4 b = some d → (K7.put u (.raw (.cells [v22,.i .i64 σ.x.seq,pv,ov,.i .i64 σ.named]))) b = some d := fun {b d} g1 g2 => by rw [Lg.put_ne _ _ _ g1]; exact l7.s b d g2
    have r9 := rdL_cells (o := 0) (n := 3) (kk n9u.1 k9) (by simp [It.cells])
    have rrc := kk nrc.1 (s4 _ _ krc)
    have ta : (AV.agg (List.take 3 (List.drop 0 x.cells))) = .agg x.cells := rfl
    rw [ta] at r9
    rw [List.set_cons_zero]
    simp only [mark_eq,wp_ld,r9,retL_some]
    rw [wp_st,stL_cells rrc (It.one3 x) (It.len3 x) (by simp),res_cell_tmp _ _ (Lg.put_same _ _ _) (by simp [splice,It.cells])]
    refine ⟨_,Sees.refl _,hQ _ _ ⟨by rw [h4]; simp [splice,It.cells,It.av,retIt],v22,?_⟩⟩
    exact o8.putX nrc.1 nrc.2.1 (fun h9 => by have := l7.f rc h9; rw [s4 _ _ krc] at this; cases this) nrc.2.2.2.1 nrc.2.2.2.2 _
end
end Go.AM


set_option linter.unusedVariables false
set_option linter.unusedSimpArgs false
namespace Go.AM
variable {N : Nat → Nat} {F : Nat → Option AFn}
structure PerOk (per : List (Int × Int)) (x : Xs) : Prop where
  pm : (per.map (·.1)).Perm (x.l.map It.id)
  eq : ∀ j,x.pf j = perOf j per
theorem rmP_fst {id : Int} : ∀ {l : List (Int × Int)},(l.map (·.1)).Nodup → (rmP id l).map (·.1) = (l.map (·.1)).filter fun j => !decide (j = id)
  | [],_ => rfl
  | a :: r,nd => by
    simp only [List.map_cons,List.nodup_cons] at nd
    by_cases h : a.1 = id
    · have : (r.map (·.1)).filter (fun j => !decide (j = id)) = r.map (·.1) := by
        rw [List.filter_eq_self]
        intro j hj
        have : ¬ j = id := fun h9 => nd.1 (by rw [h,← h9]; exact hj)
        simp [this]
      simp only [rmP,h,if_true,List.map_cons]
      rw [List.filter_cons_of_neg (by simp),this]
    · have := rmP_fst (id := id) nd.2
      simp only [rmP,h,if_false,List.map_cons]
      rw [List.filter_cons_of_pos (by simp [h]),this]
theorem rmId_ids (id : Int) (l : List It) : (rmId id l).map It.id = (l.map It.id).filter fun j => !decide (j = id) := by
  unfold rmId
  rw [List.filter_map]; rfl
theorem PerOk.nd {per : List (Int × Int)} {x : Xs} (h : PerOk per x) (nd : (x.l.map It.id).Nodup) : (per.map (·.1)).Nodup := h.pm.nodup_iff.2 nd
theorem PerOk.len {per : List (Int × Int)} {x : Xs} (h : PerOk per x) : per.length = x.l.length := by simpa using h.pm.length_eq
theorem PerOk.stop {per : List (Int × Int)} {x : Xs} (h : PerOk per x) (nd : (x.l.map It.id).Nodup) (id : Int) : PerOk (rmP id per) (x.stop id) := by
  have n1 := h.nd nd
  refine ⟨?_,fun j => ?_⟩
  · simp only [Xs.stop]
    rw [rmP_fst n1,rmId_ids]; exact h.pm.filter _
  · rw [(rmP_nd (id := id) n1).2.2 j]
    simp only [Xs.stop,updI,h.eq]
theorem PerOk.armed {per : List (Int × Int)} {x : Xs} (h : PerOk per x) (nd : (x.l.map It.id).Nodup) (id w p : Int) : PerOk (rmP id per ++ [(id,p)]) (x.armed id w p) := by
  have n1 := h.nd nd
  have hs := h.stop nd id
  refine ⟨?_,fun j => ?_⟩
  · simp only [Xs.armed,List.map_append,List.map_cons,List.map_nil]
    refine List.Perm.trans ?_ ((ins_perm _ _).map It.id).symm
    simp only [List.map_cons]
    refine List.Perm.trans List.perm_append_comm ?_
    exact hs.pm.cons _
  · rw [perOf_append (rmP_nd n1).2.1]
    simp only [Xs.armed,updI]
    have := hs.eq j
    simp only [Xs.stop,updI] at this
    rw [this]
theorem retIt_eq (o : Option It) : retIt o = .tup [(o.getD It.zero).av,.b o.isSome] := by cases o <;> rfl
section
variable {L K : Lg} {u : Nat} {σ : Tms} {per : List (Int × Int)} {sv pv ov : AV}
theorem hputR (hf : H_f69 N F) (o : ROpen L u σ per sv pv ov K) (hs : σ.x.l.Pairwise It.lt) (hb : ∀ y ∈ σ.x.l,y.s ≤ σ.x.seq) (hl : σ.x.l.length < 1000000) (hq : 0 ≤ σ.x.seq ∧ σ.x.seq < 4611686018427387904) (id when : Int) :
    CallL F (N k_f69) [.p (some (u,0)),.i .i64 id,.i .i64 when] K fun v K' => v = .tup [] ∧ ∃ sv',ROpen L u { σ with x := { σ.x with l := ins ⟨id,when,σ.x.seq + 1⟩ σ.x.l,seq := σ.x.seq + 1 } } per sv' pv ov K' := by
  refine CallL.opq ?_
  intro Q hQ
  apply r_f69 hf.code
  generalize hE : initE [AV.p (some (u,0)),.i .i64 id,.i .i64 when] 0 = E
  have e0 : E 0 = .p (some (u,0)) := by rw [← hE]; simp [initE]
  have e1 : E 1 = .i .i64 id := by rw [← hE]; simp [initE]
  have e2 : E 2 = .i .i64 when := by rw [← hE]; simp [initE]
  clear hE
  obtain ⟨l,hll⟩ : ∃ l,l = σ.x.l := ⟨_,rfl⟩
  have hll2 : l.length < 1000000 := by rw [hll]; exact hl
  obtain ⟨s,hss⟩ : ∃ s,s = σ.x.seq := ⟨_,rfl⟩
  have w1 : wr .i64 (s + 1) = s + 1 := by rw [wr_id (by omega) (by omega)]
  have r1 := o.r1
  rw [← hss] at r1
  unfold D_f69_1
  simp only [mark_eq,e0,wp_nilchk_p,wp_fad,Nat.zero_add,wp_ld,r1,retL_some,wp_add,w1,wp_st]
  refine o.st (SubL.refl _) (by omega) rfl ?_
  have o1 := o.seq (s + 1)
  simp only [List.set_cons_succ,List.set_cons_zero]
  generalize (K.put u (.raw (.cells [sv,.i .i64 (s + 1),pv,ov,.i .i64 σ.named]))) = K1 at o1
  have sg := o1.slG
  simp only [← hll] at sg
  have hlen := fun X k => sg.len (F := F) X k
  unfold D_f69_2 D_f69_6
  simp only [mark_eq,e0,wp_nilchk_p,wp_fad,Nat.zero_add,wp_ld,o1.r0,retL_some,hlen]
  obtain ⟨I,hI⟩ : ∃ I : Nat → Env → Lg → Prop,I = fun m E K' => E 0 = .p (some (u,0)) ∧ E 1 = .i .i64 id ∧ E 2 = .i .i64 when ∧ E 6 = .i .i64 m ∧ K' = K1 ∧ m ≤ l.length ∧ ∀ y ∈ l.drop m,when < y.w := ⟨_,rfl⟩
  refine loopW_intro I l.length ?_ ?_
  · rw [hI]; exact ⟨by simp [e0],by simp [e1],by simp [e2],by simp,rfl,Nat.le_refl _,by simp⟩
  intro m E t K' hi
  rw [hI] at hi
  obtain ⟨e0,e1,e2,e6,rfl,hm,hd⟩ := hi
  have w0 : ∀ i : Nat,0 < i → i ≤ l.length → wr .i64 ((i : Int) - 1) = ((i - 1 : Nat) : Int) := fun i h1 h2 => by rw [wr_id (by omega) (by omega)]; omega
  have key : (∀ y ∈ l.take m,¬ when < y.w) → D_f69_4 F N Q (.p (some (u,0))) (.i .i64 id) (.i .i64 when) (.i .i64 m) K' := by
    intro hA
    obtain ⟨x,hx⟩ : ∃ x : It,x = ⟨id,when,s + 1⟩ := ⟨_,rfl⟩
    have hins : ins x l = l.take m ++ x :: l.drop m := by
      have := ins_at (x := x) (l.take m) (l.drop m) (fun y hy => ?_) (fun y hy => ?_)
      · rwa [List.take_append_drop] at this
      · have h1 := hA y hy
        have h2 := hb y (by rw [← hll]; exact List.mem_of_mem_take hy)
        rw [hx]; unfold It.lt; simp only; omega
      · have h1 := hd y hy
        rw [hx]; unfold It.lt; simp only; omega
    unfold D_f69_4
    refine LitS.start ?_
    intro v1 K2 l2
    have o2 := o1.sub l2.s
    have sg2 := o2.slG
    simp only [← hll] at sg2
    obtain ⟨va,c2,sa⟩ := sg2.upto (k := m) hm
    simp only [mark_eq,wp_nilchk_p,wp_fad,Nat.zero_add,wp_ld,o2.r0,retL_some,wp_slc,c2]
    have hlt : (l.take m).length = m := by simp; omega
    refine l2.app It.len3 It.one3 (by omega) sa (by rw [hlt]; omega) ?_
    intro v6 K3 l3
    have o3 := o1.sub l3.s
    have r13 := o3.r1
    simp only at r13
    simp only [mark_eq,wp_nilchk_p,wp_fad,Nat.zero_add,wp_ld,r13,retL_some]
    simp [fillP,splice,ble_nat,beq_nat]
    rw [show [AV.i .i64 id,.i .i64 when,.i .i64 (s + 1)] = x.cells by rw [hx]; rfl]
    refine litOneN rfl (It.len3 x) (It.one3 x) ?_
    intro v11 K4 o11 s4 f11
    have l4 := l3.mono s4
    have s11 : SlG It.cells 3 K4 v11 [x] := SlG.of_own (f := It.cells) It.len3 (by simpa [flatc] using o11)
    refine l4.app It.len3 It.one3 (by omega) s11 (by rw [hlt]; simp; omega) ?_
    intro v12 K5 l5
    have o5 := o1.sub l5.s
    have sg5 := o5.slG
    simp only [← hll] at sg5
    obtain ⟨vb,c5,sb⟩ := sg5.from (k := m) hm
    simp only [mark_eq,wp_nilchk_p,wp_fad,Nat.zero_add,wp_ld,o5.r0,retL_some,wp_slc,c5]
    refine l5.app It.len3 It.one3 (by omega) sb (by simp; omega) ?_
    intro v17 K6 l6
    have hfl : [] ++ flatc It.cells (l.take m) ++ flatc It.cells [x] ++ flatc It.cells (l.drop m) = flatc It.cells (ins x l) := by
      rw [List.nil_append,← flatc_append,← flatc_append,hins]; simp
    have hln : 0 + (l.take m).length + [x].length + (l.drop m).length = (ins x l).length := by rw [hins]; simp; omega
    rw [hfl,hln] at l6
    have o6 := o1.newH l6
    simp only [mark_eq,wp_nilchk_p,wp_fad,Nat.zero_add,wp_st]
    refine o1.st l6.s (by omega) l6.o.cellsOf ?_
    have o4 := o1.sub l4.s
    have r12 := o2.r1
    have r11 := o1.r1
    simp only at r12 r11
    refine ⟨⟨?_,?_,?_,trivial⟩,?_⟩
    · simp [againV,semRL,rLdL,r13,r11]
    · simp [againV,semRL,rLdL,o5.r0,o1.r0,o.hs.same]
    · simp [againV,semRL,rLdL,o5.r0,o3.r0,o.hs.same]
    · refine ⟨_,Sees.refl _,hQ _ _ ⟨rfl,v17,?_⟩⟩
      rw [← hll,← hss,← hx]
      exact o6
  unfold D_f69_7
  rw [e0,e1,e2,e6]
  by_cases hm0 : m = 0
  · have c : ¬ (0 : Int) < (m : Int) := by omega
    simp only [mark_eq,wp_gtr,c,decide_false,gdOp_ft,gdOp_tup,wp_pick_f,condW_f]
    exact key (by simp [hm0])
  · have c : (0 : Int) < (m : Int) := by omega
    have hx : l[m - 1]? = some l[m - 1] := List.getElem?_eq_getElem (by omega)
    generalize l[m - 1]'(by omega) = y at hx
    obtain ⟨b,q,q1,q2,_⟩ := sg.get (F := F) hx
    have rw_ : rdL K' (b,q + 1) none = some (.i .i64 y.w) := (q2 K' (SubL.refl _)).1 1 (by omega)
    simp only [mark_eq,wp_gtr,c,decide_true,gdOp_same,wp_mv,wp_nilchk_p,wp_fad,Nat.zero_add,wp_ld,o1.r0,retL_some,wp_sub,w0 m (by omega) hm,q1,rw_,wp_pick_t,condW_d]
    refine ⟨fun hlt => ?_,fun hnl => ?_⟩
    · rw [hI]
      refine ⟨m - 1,by omega,by simp [e0],by simp [e1],by simp [e2],by simp,rfl,by omega,?_⟩
      have : l.drop (m - 1) = y :: l.drop m := by
        have h9 := List.getElem?_eq_some_iff.1 hx
        rw [List.drop_eq_getElem_cons h9.1,h9.2,show m - 1 + 1 = m by omega]
      rw [this]
      intro z hz
      rcases List.mem_cons.1 hz with rfl | hz
      · exact hlt
      · exact hd z hz
    · refine key ?_
      intro z hz
      rw [← hll] at hs
      obtain ⟨i,hi⟩ := List.mem_iff_getElem?.1 hz
      have hi1 := (List.getElem?_eq_some_iff.1 hi).1
      rw [List.length_take] at hi1
      have hi2 : i < m := by omega
      rw [List.getElem?_take_of_lt hi2] at hi
      by_cases hie : i = m - 1
      · rw [hie,hx] at hi; cases hi; exact hnl
      · have h8 := List.getElem?_eq_some_iff.1 hi
        have h9 := List.getElem?_eq_some_iff.1 hx
        have := (List.pairwise_iff_getElem.1 hs) i (m - 1) h8.1 h9.1 (by omega)
        rw [h8.2,h9.2] at this
        unfold It.lt at this
        omega
theorem tperiodR (hf : H_f82 N F) (o : ROpen L u σ per sv pv ov K) (hl : per.length ≤ 1000000) (id : Int) : CallL F (N k_f82) [.p (some (u,0)),.i .i64 id] K fun w K' => w = .i .i64 ((perOf id per).getD (-1)) ∧ K' = K := by
  refine CallL.opq ?_
  intro Q hQ
  apply r_f82 hf.code
  unfold D_f82_1 D_f82_4 D_f82_6
  obtain ⟨I,hI⟩ : ∃ I : Nat → Env → Lg → Prop,I = fun m E K' => ∃ i : Nat,m + i = per.length ∧ E 0 = .p (some (u,0)) ∧ E 1 = .i .i64 id ∧ E 5 = .i .i64 i ∧ K' = K ∧ ∀ j y,j < i → per[j]? = some y → y.1 ≠ id := ⟨_,rfl⟩
  refine loopW_intro I per.length ?_ ?_
  · rw [hI]; exact ⟨0,by omega,by simp [initE],by simp [initE],by simp,rfl,fun j y h => by omega⟩
  intro m E t K' hi
  rw [hI] at hi
  obtain ⟨i,hm,e0,e1,e5,rfl,hfd⟩ := hi
  have r2 := o.r2
  have sg := o.slP
  have hlen := fun X k => sg.len (F := F) X k
  unfold D_f82_7
  rw [e0,e1,e5]
  simp only [mark_eq,wp_nilchk_p,wp_fad,Nat.zero_add,wp_ld,r2,retL_some,hlen,wp_lss,condW_d]
  refine ⟨fun hlt => ?_,fun hnl => ?_⟩
  rotate_left
  · unfold D_f82_3
    refine ⟨K',Sees.refl _,hQ _ _ ⟨?_,rfl⟩⟩
    rw [perOf_no (fun y hy => by
      obtain ⟨j,hj⟩ := List.mem_iff_getElem?.1 hy
      exact hfd j y (by have := (List.getElem?_eq_some_iff.1 hj).1; omega) hj)]
    rfl
  have hil : i < per.length := by omega
  have hx : per[i]? = some per[i] := List.getElem?_eq_getElem hil
  generalize per[i] = x at hx
  have w1 : wr .i64 ((i : Int) + 1) = ((i + 1 : Nat) : Int) := by rw [wr_id (by omega) (by omega)]; omega
  obtain ⟨b,q,q1,q2,_⟩ := sg.get (F := F) hx
  have ra : rdL K' (b,q) none = some (.i .i64 x.1) := (q2 K' (SubL.refl _)).1 0 (by omega)
  have rb : rdL K' (b,q + 1) none = some (.i .i64 x.2) := (q2 K' (SubL.refl _)).1 1 (by omega)
  simp only [mark_eq,wp_nilchk_p,wp_fad,Nat.add_zero,Nat.zero_add,wp_ld,r2,retL_some,q1,ra,wp_eql,condW_d]
  refine ⟨fun heq => ?_,fun hne => ?_⟩
  · simp only [mark_eq,wp_nilchk_p,wp_fad,Nat.add_zero,Nat.zero_add,wp_ld,r2,retL_some,q1,rb]
    exact ⟨K',Sees.refl _,hQ _ _ ⟨by rw [perOf_at hx heq hfd]; rfl,rfl⟩⟩
  · simp only [mark_eq,wp_add,w1]
    rw [hI]
    refine ⟨m - 1,by omega,i + 1,by omega,by simp [e0],by simp [e1],by simp,rfl,fun j y hj hy => ?_⟩
    by_cases h9 : j = i
    · subst h9; rw [hx] at hy; cases hy; exact hne
    · exact hfd j y (by omega) hy
theorem tstopR (hf : H_f68 N F) (o : ROpen L u σ per sv pv ov K) (nd : (σ.x.l.map It.id).Nodup) (hl : σ.x.l.length ≤ 1000000) (hp : per.length ≤ 1000000) (id : Int) :
    CallL F (N k_f68) [.p (some (u,0)),.i .i64 id] K fun v K' => v = .b (findId id σ.x.l).isSome ∧ ∃ sv' pv',ROpen L u { σ with x := σ.x.stop id } (rmP id per) sv' pv' ov K' := by
  refine CallL.opq ?_
  intro Q hQ
  apply r_f68 hf.code
  generalize hE : initE [AV.p (some (u,0)),.i .i64 id] 0 = E
  have e0 : E 0 = .p (some (u,0)) := by rw [← hE]; simp [initE]
  have e1 : E 1 = .i .i64 id := by rw [← hE]; simp [initE]
  clear hE
  unfold D_f68_1 D_f68_2
  have p0 : (Env.put E 4 (.b false)) 0 = .p (some (u,0)) := by simp [e0]
  have p1 : (Env.put E 4 (.b false)) 1 = .i .i64 id := by simp [e1]
  generalize Env.put E 4 (.b false) = E1 at p0 p1
  simp only [mark_eq,p0,p1,wp_nilchk_p,wp_fad,Nat.add_zero]
  refine (hremoveR hf.f67 o nd hl id).mono ?_
  rintro _ K2 ⟨rfl,sv',o2⟩
  rw [retIt_eq]
  simp only [mark_eq,wp_ext,List.getElem?_cons_zero,List.getElem?_cons_succ,retL_some,wp_alloc]
  intro x6 hx6
  rw [wp_st]
  rw [show (findId id σ.x.l |>.getD It.zero).av = .agg ((findId id σ.x.l |>.getD It.zero).cells) from rfl,stL_cells (Lg.put_same _ _ _) (It.one3 _) (It.len3 _) (by simp),Lg.put_put]
  generalize splice [AV.i .i64 0,.i .i64 0,.i .i64 0] 0 (findId id σ.x.l |>.getD It.zero).cells = cs6
  have o3 := o2.sub ((SubL.refl K2).put hx6 (.raw (.cells cs6)))
  generalize K2.put x6 (.raw (.cells cs6)) = K3 at o3
  clear hx6 x6
  obtain ⟨was,hw⟩ : ∃ was,was = (findId id σ.x.l).isSome := ⟨_,rfl⟩
  rw [← hw] at hQ ⊢
  obtain ⟨σ2,h2⟩ : ∃ σ2 : Tms,σ2 = { σ with x := { σ.x with l := rmId id σ.x.l } } := ⟨_,rfl⟩
  rw [← h2] at o3
  have q0 : (Env.put E1 6 (.b was)) 0 = .p (some (u,0)) := by simp [p0]
  have q1 : (Env.put E1 6 (.b was)) 1 = .i .i64 id := by simp [p1]
  have q6 : (Env.put E1 6 (.b was)) 6 = .b was := by simp
  generalize Env.put E1 6 (.b was) = E2 at q0 q1 q6
  have fin : ∀ (K' : Lg) (pv' : AV),ROpen L u σ2 (rmP id per) sv' pv' ov K' → fin1 (some (.b was)) Q K' := by
    intro K' pv' o'
    refine ⟨K',Sees.refl _,hQ _ _ ⟨rfl,sv',pv',?_⟩⟩
    rw [h2] at o'
    exact o'.pf _
  unfold D_f68_5 D_f68_7
  obtain ⟨I,hI⟩ : ∃ I : Nat → Env → Lg → Prop,I = fun m E K' => ∃ i : Nat,m + i = per.length ∧ E 0 = .p (some (u,0)) ∧ E 1 = .i .i64 id ∧ E 6 = .b was ∧ E 7 = .i .i64 i ∧ K' = K3 ∧ ∀ j y,j < i → per[j]? = some y → y.1 ≠ id := ⟨_,rfl⟩
  refine loopW_intro I per.length ?_ ?_
  · rw [hI]; exact ⟨0,by omega,by simp [q0],by simp [q1],by simp [q6],by simp,rfl,fun j y h => by omega⟩
  intro m E t K' hi
  rw [hI] at hi
  obtain ⟨i,hm,e0,e1,e6,e7,rfl,hfd⟩ := hi
  have r2 := o3.r2
  have sg := o3.slP
  have hlen := fun X k => sg.len (F := F) X k
  unfold D_f68_8
  rw [e0,e1,e6,e7]
  unfold D_f68_4
  simp only [mark_eq,wp_nilchk_p,wp_fad,Nat.zero_add,wp_ld,r2,retL_some,hlen,wp_lss,condW_d]
  refine ⟨fun hlt => ?_,fun hnl => ?_⟩
  rotate_left
  · refine fin K' pv ?_
    rw [rmP_no (fun y hy => by
      obtain ⟨j,hj⟩ := List.mem_iff_getElem?.1 hy
      exact hfd j y (by have := (List.getElem?_eq_some_iff.1 hj).1; omega) hj)]
    exact o3
  have hil : i < per.length := by omega
  have hx : per[i]? = some per[i] := List.getElem?_eq_getElem hil
  generalize per[i] = x at hx
  have w1 : wr .i64 ((i : Int) + 1) = ((i + 1 : Nat) : Int) := by rw [wr_id (by omega) (by omega)]; omega
  obtain ⟨b,q,g1,g2,_⟩ := sg.get (F := F) hx
  have ra : rdL K' (b,q) none = some (.i .i64 x.1) := (g2 K' (SubL.refl _)).1 0 (by omega)
  simp only [mark_eq,wp_nilchk_p,wp_fad,Nat.add_zero,Nat.zero_add,wp_ld,r2,retL_some,g1,ra,wp_eql,condW_d]
  refine ⟨fun heq => ?_,fun hne => ?_⟩
  · refine LitS.start ?_
    intro v13 K5 l5
    have o5 := o3.sub l5.s
    obtain ⟨va,c2,sa⟩ := o5.slP.upto (k := i) (by omega)
    simp only [mark_eq,wp_nilchk_p,wp_fad,Nat.zero_add,wp_ld,o5.r2,retL_some,wp_slc,c2]
    refine l5.app per3_len per3_one (by omega) sa (by simp; omega) ?_
    intro v18 K6 l6
    have o6 := o3.sub l6.s
    obtain ⟨vb,c3,sb⟩ := o6.slP.from (k := i + 1) (by omega)
    simp only [mark_eq,wp_nilchk_p,wp_fad,Nat.zero_add,wp_ld,o6.r2,retL_some,wp_add,w1,wp_slc,c3]
    refine l6.app per3_len per3_one (by omega) sb (by simp; omega) ?_
    intro v24 K7 l7
    have hat := rmP_at hx heq hfd
    have hfl : [] ++ flatc per3 (per.take i) ++ flatc per3 (per.drop (i + 1)) = flatc per3 (rmP id per) := by
      rw [List.nil_append,← flatc_append,hat]
    have hln : 0 + (per.take i).length + (per.drop (i + 1)).length = (rmP id per).length := by
      rw [hat,List.length_append]; omega
    rw [hfl,hln] at l7
    have o8 := o3.newP l7.o (fun r d hr _ => l7.s r d hr) (fun b hb => .inl (l7.f b hb))
    simp only [mark_eq,wp_nilchk_p,wp_fad,Nat.zero_add,wp_st]
    refine o3.st l7.s (by omega) l7.o.cellsOf ?_
    refine ⟨⟨by simp [againV,semRL,rLdL,o6.r2,o3.r2,o.ps.same],trivial⟩,?_⟩
    exact fin _ v24 o8
  · simp only [mark_eq,wp_add,w1]
    rw [hI]
    refine ⟨m - 1,by omega,i + 1,by omega,by simp [e0],by simp [e1],by simp [e6],by simp,rfl,fun j y hj hy => ?_⟩
    by_cases h9 : j = i
    · subst h9; rw [hx] at hy; cases hy; exact hne
    · exact hfd j y (by omega) hy
end
end Go.AM


set_option linter.unusedVariables false
set_option linter.unusedSimpArgs false
namespace Go.AM
variable {N : Nat → Nat} {F : Nat → Option AFn}
section
variable {L K : Lg} {u : Nat} {σ : Tms} {per : List (Int × Int)} {sv pv ov : AV}
structure RFine (σ : Tms) (per : List (Int × Int)) (B : Int) : Prop where
  g : XG σ.x B
  b : B < 1000000
  p : PerOk per σ.x
theorem RFine.l {B : Int} (h : RFine σ per B) : σ.x.l.length < 1000000 := by have := h.g.len; have := h.b; omega
theorem RFine.pl {B : Int} (h : RFine σ per B) : per.length < 1000000 := by rw [h.p.len]; exact h.l
theorem RFine.q {B : Int} (h : RFine σ per B) : 0 ≤ σ.x.seq ∧ σ.x.seq < 4611686018427387904 := by have := h.g.pos; have := h.g.seq; have := h.b; omega
theorem tarmR (hf : H_f70 N F) (o : ROpen L u σ per sv pv ov K) {B : Int} (fi : RFine σ per B) (id when period : Int) :
    CallL F (N k_f70) [.p (some (u,0)),.i .i64 id,.i .i64 when,.i .i64 period] K fun v K' => v = .i .i64 (σ.x.arm id when period).2 ∧ ∃ per' sv' pv',ROpen L u { σ with x := (σ.x.arm id when period).1 } per' sv' pv' ov K' ∧ PerOk per' (σ.x.arm id when period).1 := by
  refine CallL.opq ?_
  intro Q hQ
  apply r_f70 hf.code
  unfold D_f70_1
  have bad : badT when period = true → fin1 (some (.i .i64 1)) Q K := fun h => ⟨K,Sees.refl _,hQ _ _ ⟨by simp [Xs.arm,h],per,sv,pv,by simpa [Xs.arm,h] using o,by simpa [Xs.arm,h] using fi.p⟩⟩
  by_cases c1 : when < 0
  · simp [c1]; exact bad (by simp [badT]; omega)
  by_cases c2 : 4611686018427387904 < when
  · simp [c1,c2]; exact bad (by simp [badT]; omega)
  by_cases c3 : period < 0
  · simp [c1,c2,c3]; exact bad (by simp [badT]; omega)
  by_cases c4 : 4611686018427387904 < period
  · simp [c1,c2,c3,c4]; exact bad (by simp [badT]; omega)
  have hb : badT when period = false := by simp [badT]; omega
  simp only [mark_eq,wp_lss,wp_gtr,c1,c2,c3,c4,decide_false,gdOp_same,wp_mv,wp_pick_t,wp_pick_f,condW_f]
  have pl := fi.pl
  have ll := fi.l
  refine (tstopR hf.f68 o fi.g.nd (by omega) (by omega) id).mono ?_
  rintro _ K2 ⟨rfl,sv2,pv2,o2⟩
  simp only [mark_eq,wp_nilchk_p,wp_fad,Nat.add_zero]
  have gs := fi.g.stop id
  have hq := fi.q
  have hls : (σ.x.stop id).l.length < 1000000 := by have := rmId_length id σ.x.l; simp only [Xs.stop]; omega
  refine (hputR hf.f69 o2 gs.sorted gs.below hls hq id when).mono ?_
  rintro _ K3 ⟨rfl,sv3,o3⟩
  simp only [mark_eq,wp_nilchk_p,wp_fad,Nat.zero_add,wp_ld,o3.r2,retL_some]
  simp [fillP,splice,ble_nat,beq_nat]
  refine litOneN (cs := per3 (id,period)) rfl rfl rfl ?_
  intro v19 K4 o19 s4 f19
  have s19 : SlG per3 3 K4 v19 [(id,period)] := SlG.of_own (f := per3) per3_len (by simpa [flatc] using o19)
  have o4 := o3.sub s4
  have hrl : (rmP id per).length ≤ per.length := by
    have := fi.p.stop fi.g.nd id
    rw [this.len,fi.p.len]; exact rmId_length _ _
  refine o4.ps.app per3_len per3_one (by omega) s19 (by simp; omega) ?_
  intro v20 K5 p5 k5 f5
  have o5 := o4.newP (v := v20) (l := rmP id per ++ [(id,period)]) (by rw [flatc_append]; simpa using p5) k5 f5
  simp only [mark_eq,wp_nilchk_p,wp_fad,Nat.zero_add,wp_st]
  have kr : K5 u = some (.raw (.cells [sv3,.i .i64 (σ.x.seq + 1),pv2,ov,.i .i64 σ.named])) := k5 u _ o4.root (fun h9 => (o4.a2 u h9).1 rfl)
  rw [stL_cell kr (by simp) p5.cellsOf]
  refine ⟨_,Sees.refl _,hQ _ _ ⟨by simp [Xs.arm,hb],rmP id per ++ [(id,period)],sv3,v20,?_,?_⟩⟩
  · simp only [Xs.arm,hb]
    exact o5.pf _
  · simp only [Xs.arm,hb]
    exact fi.p.armed fi.g.nd id when period
theorem wp_minI (a b : Int) (X : Lg) (k : AV → Lg → Prop) : wpOp F .min [.i .i64 a,.i .i64 b] X k = k (.i .i64 (min a b)) X := by simp
theorem next_clamp {w p now : Int} (hp : 0 < p) : (if (clockNext w p (min now 4611686018427387904)).2 = 0 ∧ now < (clockNext w p (min now 4611686018427387904)).1 then true else false) = (if (clockNext w p now).2 = 0 ∧ now < (clockNext w p now).1 then true else false) ∧ ((clockNext w p now).2 = 0 ∧ now < (clockNext w p now).1 → (clockNext w p (min now 4611686018427387904)).1 = (clockNext w p now).1) := by
  by_cases h : now ≤ 4611686018427387904
  · rw [Int.min_eq_left h]; exact ⟨rfl,fun _ => rfl⟩
  · rw [Int.min_eq_right (by omega)]
    have h1 : clockNext w p now = (0,1) := by unfold clockNext; rw [if_pos (by omega)]
    have h2 : ¬ ((clockNext w p 4611686018427387904).2 = 0 ∧ now < (clockNext w p 4611686018427387904).1) := by
      intro ⟨_,h3⟩
      unfold clockNext at h3
      split at h3
      · simp at h3; omega
      · split at h3
        · simp at h3; omega
        · simp at h3
          unfold clockAdd held at h3; omega
    rw [if_neg h2,h1]
    simp
theorem ttakeR (hf : H_f84 N F) (o : ROpen L u σ per sv pv ov K) {B : Int} (fi : RFine σ per B) (now : Int) :
    CallL F (N k_f84) [.p (some (u,0)),.i .i64 now] K fun v K' => v = retDue (σ.x.take now).2.1 (σ.x.take now).2.2 ∧ ∃ per' sv' pv',ROpen L u { σ with x := (σ.x.take now).1 } per' sv' pv' ov K' ∧ PerOk per' (σ.x.take now).1 := by
  refine CallL.opq ?_
  intro Q hQ
  apply r_f84 hf.code
  unfold D_f84_1 D_f84_2
  simp only [mark_eq,wp_alloc]
  intro rc hrc
  obtain ⟨K1,hK1⟩ : ∃ K1,K1 = K.put rc (.raw (.cells [.i .i64 0,.i .i64 0,.i .i64 0])) := ⟨_,rfl⟩
  obtain ⟨L1,hL1⟩ : ∃ L1,L1 = L.put rc (.raw (.cells [.i .i64 0,.i .i64 0,.i .i64 0])) := ⟨_,rfl⟩
  have krc : K1 rc = some (.raw (.cells [.i .i64 0,.i .i64 0,.i .i64 0])) := by rw [hK1,Lg.put_same]
  have nrc := o.ne hrc
  have o1 : ROpen L1 u σ per sv pv ov K1 := by rw [hK1,hL1]; exact o.onto hrc _
  have lrc : L1 rc = some (.raw (.cells [.i .i64 0,.i .i64 0,.i .i64 0])) := by rw [hL1,Lg.put_same]
  have low : ∀ r d,r ≠ u → L r = some d → L1 r = some d := fun r d _ hd => by
    rw [hL1,Lg.put_ne _ _ _ (by rintro rfl; rw [nrc.2.1] at hd; cases hd)]; exact hd
  rw [← hK1]
  have idle : σ.x.take now = (σ.x,(0,0,0),false) → stL 3 K1 (fun _ L22 => fin1 (resVL Env.nil Env.nil L22 [.cell (.c (.p (some (rc,0)))) (some 3),.tmp (.c (.b false))]) Q L22) [.p (some (rc,0)),.agg [.i .i64 0,.i .i64 0,.i .i64 0]] := by
    intro htk
    rw [stL_cells krc (by simp) (by simp) (by simp),res_cell_tmp _ _ (Lg.put_same _ _ _) (by simp [splice])]
    refine ⟨K,?_,hQ _ _ ⟨by rw [htk]; simp [splice,retDue],per,sv,pv,by rw [htk]; exact o,by rw [htk]; exact fi.p⟩⟩
    rw [hK1,Lg.put_put]; exact ((SubL.refl K).put hrc _).sees
  have sg := o1.slG
  have hlen := fun X k => sg.len (F := F) X k
  by_cases c1 : now < 0
  · have htk : σ.x.take now = (σ.x,(0,0,0),false) := by
      unfold Xs.take; split
      · rfl
      · rw [if_pos (.inl c1)]
    simp [c1,fillP]
    exact idle htk
  cases hx : σ.x.l with
  | nil =>
    have htk : σ.x.take now = (σ.x,(0,0,0),false) := by unfold Xs.take; simp [hx]
    have l0 : ((σ.x.l.length : Nat) : Int) = 0 := by rw [hx]; rfl
    simp only [mark_eq,wp_lss,c1,decide_false,gdOp_same,wp_mv,wp_nilchk_p,wp_fad,Nat.add_zero,Nat.zero_add,wp_ld,o1.r0,retL_some,hlen,wp_eql,l0,decide_true,wp_pick_t,wp_pick_f]
    simp [fillP]
    exact idle htk
  | cons y r =>
    have l0 : ¬ ((σ.x.l.length : Nat) : Int) = 0 := by rw [hx]; simp; omega
    have hy : σ.x.l[0]? = some y := by rw [hx]; rfl
    obtain ⟨b,q,q1,q2,_⟩ := sg.get (F := F) hy
    have q1 : ∀ (X : Lg) (k : AV → Lg → Prop),wpOp F (.iad 3) [sv,.i .i64 0] X k = k (.p (some (b,q))) X := q1
    have rw_ : rdL K1 (b,q + 1) none = some (.i .i64 y.w) := (q2 K1 (SubL.refl _)).1 1 (by omega)
    have rall := (q2 K1 (SubL.refl _)).2
    simp only [mark_eq,wp_lss,wp_gtr,c1,decide_false,gdOp_same,wp_mv,wp_nilchk_p,wp_fad,Nat.add_zero,Nat.zero_add,wp_ld,o1.r0,retL_some,hlen,wp_eql,l0,wp_pick_t,wp_pick_f,q1,rw_,condW_d]
    refine ⟨fun c2 => ?_,fun c2 => ?_⟩
    · have htk : σ.x.take now = (σ.x,(0,0,0),false) := by unfold Xs.take; simp [hx,c2]
      simp [fillP]
      exact idle htk
    obtain ⟨p,hp,hp1,hp2⟩ := fi.g.per y (by rw [hx]; simp)
    have hpo : perOf y.id per = some p := by rw [← fi.p.eq]; exact hp
    have hnc := fun hpp : 0 < p => next_clamp (w := y.w) (p := p) (now := now) hpp
    have htk : σ.x.take now = (if (clockNext y.w p now).2 = 0 ∧ now < (clockNext y.w p now).1 then ((σ.x.stop y.id).arm y.id (clockNext y.w p now).1 p).1 else σ.x.stop y.id,(y.id,y.w,now),true) := by
      unfold Xs.take
      simp only [hx,List.head?_cons]
      rw [if_neg (by omega)]
      simp only [hp,Option.getD_some]
    unfold D_f84_3
    simp only [mark_eq,wp_nilchk_p,wp_fad,Nat.add_zero,wp_ld,o1.r0,retL_some,q1,rall,wp_alloc]
    intro x7 hx7
    rw [wp_st,stL_cells (Lg.put_same _ _ _) (It.one3 y) (It.len3 y) (by simp),Lg.put_put,show splice [AV.i .i64 0,.i .i64 0,.i .i64 0] 0 y.cells = y.cells by simp [splice,It.cells]]
    obtain ⟨K2,hK2⟩ : ∃ K2,K2 = K1.put x7 (.raw (.cells y.cells)) := ⟨_,rfl⟩
    obtain ⟨L2,hL2⟩ : ∃ L2,L2 = L1.put x7 (.raw (.cells y.cells)) := ⟨_,rfl⟩
    have n7 := o1.ne hx7
    have o2 : ROpen L2 u σ per sv pv ov K2 := by rw [hK2,hL2]; exact o1.onto hx7 _
    have l7 : L2 x7 = some (.raw (.cells y.cells)) := by rw [hL2,Lg.put_same]
    have l2rc : L2 rc = some (.raw (.cells [.i .i64 0,.i .i64 0,.i .i64 0])) := by
      rw [hL2,Lg.put_ne _ _ _ (by rintro rfl; rw [krc] at hx7; cases hx7)]; exact lrc
    have low2 : ∀ r d,r ≠ u → L1 r = some d → L2 r = some d := fun r d _ hd => by
      rw [hL2,Lg.put_ne _ _ _ (by rintro rfl; rw [n7.2.1] at hd; cases hd)]; exact hd
    rw [← hK2]
    -- what is at the boxes,whatever came
    have c7 : ∀ {σ' : Tms} {per' : List (Int × Int)} {sv' pv' ov' : AV} {K' : Lg},ROpen L2 u σ' per' sv' pv' ov' K' → rdL K' (x7,0) none = some (.i .i64 y.id) ∧ rdL K' (x7,1) none = some (.i .i64 y.w) := by
      intro σ' per' sv' pv' ov' K' o'
      have h := o'.old x7 _ n7.1 l7
      exact ⟨by rw [rdL_cell h]; rfl,by rw [rdL_cell h]; rfl⟩
    have fin : ∀ {σ' : Tms} {per' : List (Int × Int)} {sv' pv' : AV} {K' : Lg},ROpen L2 u σ' per' sv' pv' ov K' → σ' = { σ with x := (σ.x.take now).1 } → PerOk per' (σ.x.take now).1 → D_f84_7 F N Q (.i .i64 now) (.p (some (rc,0))) (.p (some (x7,0))) K' := by
      intro σ' per' sv' pv' K' o' hσ hpk
      obtain ⟨a1,a2⟩ := c7 o'
      unfold D_f84_7
      simp only [mark_eq,wp_fad,Nat.add_zero,Nat.zero_add,wp_ld,a1,a2,retL_some]
      simp [fillP,splice,ble_nat,beq_nat]
      have krc' := o'.old rc _ nrc.1 l2rc
      rw [stL_cells krc' (by simp) (by simp) (by simp),res_cell_tmp _ _ (Lg.put_same _ _ _) (by simp [splice])]
      have o3 := (o'.below low2).below low
      have f1 : slB sv' ≠ some rc := fun h9 => by have := (o'.a1 rc h9).2; rw [l2rc] at this; cases this
      have f2 : slB pv' ≠ some rc := fun h9 => by have := (o'.a2 rc h9).2.1; rw [l2rc] at this; cases this
      have f3 : slB ov ≠ some rc := fun h9 => by have := (o'.a3 rc h9).2.1; rw [l2rc] at this; cases this
      refine ⟨_,Sees.refl _,hQ _ _ ⟨by rw [htk]; simp [splice,retDue],per',sv',pv',?_,hpk⟩⟩
      rw [← hσ]
      exact o3.putX nrc.1 nrc.2.1 f1 f2 f3 _
    unfold D_f84_4
    obtain ⟨a1,a2⟩ := c7 o2
    simp only [mark_eq,wp_fad,Nat.add_zero,Nat.zero_add,wp_ld,a1,retL_some]
    have pl := fi.pl
    have ll := fi.l
    refine (tperiodR hf.f82 o2 (by omega) y.id).mono ?_
    rintro _ K3 ⟨rfl,hK3⟩
    rw [hK3,hpo,Option.getD_some]
    unfold D_f84_5
    simp only [mark_eq,wp_fad,Nat.add_zero,Nat.zero_add,wp_ld,a1,retL_some]
    refine (tstopR hf.f68 o2 fi.g.nd (by omega) (by omega) y.id).mono ?_
    rintro _ K4 ⟨rfl,sv4,pv4,o4⟩
    obtain ⟨a3,a4⟩ := c7 o4
    have pst := fi.p.stop fi.g.nd y.id
    unfold D_f84_6
    simp only [mark_eq,wp_gtr,condW_d]
    refine ⟨fun hpp => ?_,fun hpp => ?_⟩
    rotate_left
    · refine fin o4 ?_ ?_
      · rw [htk,if_neg]
        rintro ⟨h1,_⟩
        have : clockNext y.w p now = (0,1) := by unfold clockNext; rw [if_pos (by omega)]
        rw [this] at h1; cases h1
      · rw [htk,if_neg]
        · exact pst
        · rintro ⟨h1,_⟩
          have : clockNext y.w p now = (0,1) := by unfold clockNext; rw [if_pos (by omega)]
          rw [this] at h1; cases h1
    obtain ⟨h8,h9⟩ := hnc hpp
    simp only [mark_eq,wp_fad,Nat.add_zero,Nat.zero_add,wp_ld,a4,retL_some,wp_minI]
    refine (nextR_spec hf.f83 _ _ _ _).mono ?_
    rintro _ K5 ⟨rfl,hK5⟩
    rw [hK5]
    generalize hc : clockNext y.w p (min now 4611686018427387904) = c at h8 h9
    simp only [mark_eq,wp_ext,List.getElem?_cons_zero,List.getElem?_cons_succ,retL_some]
    by_cases d1 : c.2 = 0
    · by_cases d2 : now < c.1
      · rw [if_pos ⟨d1,d2⟩] at h8
        have hyes : (clockNext y.w p now).2 = 0 ∧ now < (clockNext y.w p now).1 := by
          by_cases h : (clockNext y.w p now).2 = 0 ∧ now < (clockNext y.w p now).1
          · exact h
          · rw [if_neg h] at h8; cases h8
        have hce := h9 hyes
        rw [if_pos hyes] at htk
        simp only [mark_eq,wp_eql,d1,decide_true,gdOp_same,wp_mv,wp_gtr,d2,wp_pick_t,condW_t,wp_fad,Nat.add_zero,wp_ld,a3,retL_some]
        have fi4 : RFine { σ with x := σ.x.stop y.id } (rmP y.id per) B := ⟨fi.g.stop y.id,fi.b,pst⟩
        refine (tarmR hf.f70 o4 fi4 y.id c.1 p).mono ?_
        rintro _ K6 ⟨rfl,per6,sv6,pv6,o6,pk6⟩
        refine fin o6 ?_ ?_
        · rw [htk,hce]
        · rw [htk,← hce]; exact pk6
      · have hno : ¬ ((clockNext y.w p now).2 = 0 ∧ now < (clockNext y.w p now).1) := by
          rw [if_neg (fun h => d2 h.2)] at h8
          intro h; rw [if_pos h] at h8; cases h8
        rw [if_neg hno] at htk
        simp only [mark_eq,wp_eql,d1,decide_true,gdOp_same,wp_mv,wp_gtr,d2,decide_false,wp_pick_t,condW_f]
        exact fin o4 (by rw [htk]) (by rw [htk]; exact pst)
    · have hno : ¬ ((clockNext y.w p now).2 = 0 ∧ now < (clockNext y.w p now).1) := by
        rw [if_neg (fun h => d1 h.1)] at h8
        intro h; rw [if_pos h] at h8; cases h8
      rw [if_neg hno] at htk
      simp [d1]
      exact fin o4 (by rw [htk]) (by rw [htk]; exact pst)
end
end Go.AM


set_option linter.unusedVariables false
set_option linter.unusedSimpArgs false
namespace Go.AM
variable {N : Nat → Nat} {F : Nat → Option AFn}
def fI (n : Int) : List AV := [.i .i64 n]
theorem fI_len (n : Int) : (fI n).length = 1 := rfl
theorem fI_one (n : Int) : (fI n).all AV.one = true := rfl
theorem Wt.len3 (w : Wt) : w.cells.length = 3 := rfl
theorem Wt.one3 (w : Wt) : w.cells.all AV.one = true := rfl
theorem Wk.len5 (w : Wk) : w.cells.length = 5 := rfl
theorem wkcells_flat : ∀ l : List Wk,wkcells l = flatc Wk.cells l
  | [] => rfl
  | w :: r => by simp [wkcells,flatc,wkcells_flat r]
def crt (x : Ch) (bv sv rv : AV) : List AV := [.i .i64 x.cap,.b x.timed,.b x.signal,.b x.closed,bv,sv,rv]
structure CROpen (L : Lg) (c : Nat) (x : Ch) (bv sv rv : AV) (K : Lg) : Prop where
  root : K c = some (.raw (.cells (crt x bv sv rv)))
  bs : OSe K bv (flatc fI x.vals) x.vals.length 1
  ss : OSe K sv (flatc Wt.cells x.sends) x.sends.length 3
  rs : OSe K rv (flatc Wt.cells x.recvs) x.recvs.length 3
  a1 : ∀ b,slB bv = some b → b ≠ c ∧ L b = none
  a2 : ∀ b,slB sv = some b → b ≠ c ∧ L b = none ∧ slB bv ≠ some b
  a3 : ∀ b,slB rv = some b → b ≠ c ∧ L b = none ∧ slB bv ≠ some b ∧ slB sv ≠ some b
  old : ∀ r d,r ≠ c → L r = some d → K r = some d
  len : x.recvs.length ≤ 1000000 ∧ x.sends.length ≤ 1000000 ∧ x.vals.length ≤ 1000000
def ChRP (c : Nat) (x : Ch) (h : Hp) : Prop := ∃ bv sv rv M,CROpen Lg.nil c x bv sv rv M ∧ Sat M h
section
variable {L K : Lg} {c : Nat} {x : Ch} {bv sv rv : AV}
theorem CROpen.ne (o : CROpen L c x bv sv rv K) {b : Nat} (hb : K b = none) : b ≠ c ∧ L b = none ∧ slB bv ≠ some b ∧ slB sv ≠ some b ∧ slB rv ≠ some b := by
  have h1 : b ≠ c := by rintro rfl; have := o.root; rw [hb] at this; cases this
  refine ⟨h1,?_,?_,?_,?_⟩
  · cases h : L b with
    | none => rfl
    | some d => rw [o.old b d h1 h] at hb; cases hb
  · intro h; have := o.bs.block h; rw [hb] at this; cases this
  · intro h; have := o.ss.block h; rw [hb] at this; cases this
  · intro h; have := o.rs.block h; rw [hb] at this; cases this
theorem CROpen.shut (o : CROpen L c x bv sv rv K) : Sees K (L.put c (.abs (ChRP c x))) := by
  refine Sees.shutAt (fun b => b = c ∨ slB bv = some b ∨ slB sv = some b ∨ slB rv = some b) (.inl rfl) ?_ ?_ (.inl ⟨_,o.root⟩) ?_
  · intro b d hb hd
    simp only [not_or] at hb
    exact o.old b d hb.1 hd
  · rintro b (rfl | h | h | h) hb
    · exact absurd rfl hb
    · exact (o.a1 b h).2
    · exact (o.a2 b h).2.1
    · exact (o.a3 b h).2.1
  · intro M hp hM hN hs
    refine ⟨bv,sv,rv,M,⟨?_,o.bs.mono fun b hb => hM b (.inr (.inl hb)),o.ss.mono fun b hb => hM b (.inr (.inr (.inl hb))),o.rs.mono fun b hb => hM b (.inr (.inr (.inr hb))),fun b hb => ⟨(o.a1 b hb).1,rfl⟩,fun b hb => ⟨(o.a2 b hb).1,rfl,(o.a2 b hb).2.2⟩,fun b hb => ⟨(o.a3 b hb).1,rfl,(o.a3 b hb).2.2⟩,fun r d _ hd => by simp [Lg.nil] at hd,o.len⟩,hs⟩
    rw [hM c (.inl rfl)]; exact o.root
theorem CallL.openCR {f : Nat} {vs : List AV} {Q : AV → Lg → Prop} (e : L c = some (.abs (ChRP c x))) (H : ∀ bv sv rv K,CROpen L c x bv sv rv K → CallL F f vs K Q) : CallL F f vs L Q := by
  apply CallL.opens e
  rintro hm ⟨bv,sv,rv,M,o,hs⟩
  refine ⟨M,hs,by rw [o.root]; simp,fun hf => ?_⟩
  obtain ⟨S,hS⟩ : ∃ S : Nat → Prop,S = fun b => b = c ∨ slB bv = some b ∨ slB sv = some b ∨ slB rv = some b := ⟨_,rfl⟩
  have hi : ∀ b d,M b = some d → (M.over L) b = some d := fun b d h => by simp [Lg.over,h]
  have sb : ∀ {v : AV} {cs : List AV} {n z : Nat},OSe M v cs n z → OSe (M.over L) v cs n z := fun h => h.sub fun b d _ hd => hi b d hd
  refine H bv sv rv (M.over L) ⟨hi _ _ o.root,sb o.bs,sb o.ss,sb o.rs,fun b hb => ⟨(o.a1 b hb).1,hf b _ (o.bs.block hb) (o.a1 b hb).1⟩,fun b hb => ⟨(o.a2 b hb).1,hf b _ (o.ss.block hb) (o.a2 b hb).1,(o.a2 b hb).2.2⟩,
    fun b hb => ⟨(o.a3 b hb).1,hf b _ (o.rs.block hb) (o.a3 b hb).1,(o.a3 b hb).2.2⟩,fun r d hr hd => ?_,o.len⟩
  have : M r = none := by
    cases h : M r with
    | none => rfl
    | some e => have := hf r e h hr; rw [hd] at this; cases this
  simp [Lg.over,this,hd]
theorem CROpen.back (o : CROpen L c x bv sv rv K) (e : L c = some (.abs (ChRP c x))) : Sees K L := by
  have := o.shut
  rwa [Lg.put_self L c _ e] at this
theorem CROpen.sub (o : CROpen L c x bv sv rv K) {K' : Lg} (h : SubL K K') : CROpen L c x bv sv rv K' :=
  ⟨h _ _ o.root,o.bs.sub fun b d _ hd => h b d hd,o.ss.sub fun b d _ hd => h b d hd,o.rs.sub fun b d _ hd => h b d hd,o.a1,o.a2,o.a3,fun r d hr hd => h r d (o.old r d hr hd),o.len⟩
theorem CROpen.onto (o : CROpen L c x bv sv rv K) {b : Nat} (hb : K b = none) (d : LC) : CROpen (L.put b d) c x bv sv rv (K.put b d) := by
  obtain ⟨n1,n2,n3,n4,n5⟩ := o.ne hb
  have key : ∀ {r : Nat} {v : AV},slB v = some r → slB v ≠ some b → (L.put b d) r = L r := fun {r} {v} h1 h2 => Lg.put_ne _ _ _ (by rintro rfl; exact h2 h1)
  have o' := o.sub ((SubL.refl K).put hb d)
  refine ⟨o'.root,o'.bs,o'.ss,o'.rs,fun r h => ?_,fun r h => ?_,fun r h => ?_,fun r e hr he => ?_,o.len⟩
  · rw [key h n3]; exact o.a1 r h
  · rw [key h n4]; exact o.a2 r h
  · rw [key h n5]; exact o.a3 r h
  · rw [Lg.put_apply] at he ⊢
    split
    · rename_i h9; rw [if_pos h9] at he; exact he
    · rename_i h9; rw [if_neg h9] at he; exact o.old r e hr he
theorem CROpen.below (o : CROpen L c x bv sv rv K) {L0 : Lg} (h : ∀ r d,r ≠ c → L0 r = some d → L r = some d) : CROpen L0 c x bv sv rv K := by
  have key : ∀ b,b ≠ c → L b = none → L0 b = none := fun b h1 h2 => by
    cases h3 : L0 b with
    | none => rfl
    | some d => rw [h b d h1 h3] at h2; cases h2
  exact ⟨o.root,o.bs,o.ss,o.rs,fun b hb => ⟨(o.a1 b hb).1,key b (o.a1 b hb).1 (o.a1 b hb).2⟩,fun b hb => ⟨(o.a2 b hb).1,key b (o.a2 b hb).1 (o.a2 b hb).2.1,(o.a2 b hb).2.2⟩,
    fun b hb => ⟨(o.a3 b hb).1,key b (o.a3 b hb).1 (o.a3 b hb).2.1,(o.a3 b hb).2.2⟩,fun r d hr hd => o.old r d hr (h r d hr hd),o.len⟩
theorem CROpen.newB (o : CROpen L c x bv sv rv K) {v : AV} {l : List Int} {K1 : Lg} (h : LitS K v (flatc fI l) l.length 1 K1) (hl : l.length ≤ 1000000) : CROpen L c { x with vals := l } v sv rv (K1.put c (.raw (.cells (crt x v sv rv)))) := by
  have fr := fun b hb => o.ne (h.f b hb)
  have kp : ∀ {b : Nat} {d : LC},b ≠ c → K b = some d → (K1.put c (.raw (.cells (crt x v sv rv)))) b = some d := fun {b d} h1 h2 => by rw [Lg.put_ne _ _ _ h1]; exact h.s b d h2
  exact ⟨Lg.put_same _ _ _,h.o.mono fun b hb => Lg.put_ne _ _ _ (fr b hb).1,o.ss.sub fun b d hb hd => kp (o.a2 b hb).1 hd,o.rs.sub fun b d hb hd => kp (o.a3 b hb).1 hd,
    fun b hb => ⟨(fr b hb).1,(fr b hb).2.1⟩,fun b hb => ⟨(o.a2 b hb).1,(o.a2 b hb).2.1,fun h9 => (fr b h9).2.2.2.1 hb⟩,fun b hb => ⟨(o.a3 b hb).1,(o.a3 b hb).2.1,fun h9 => (fr b h9).2.2.2.2 hb,(o.a3 b hb).2.2.2⟩,
    fun r d hr hd => kp hr (o.old r d hr hd),⟨o.len.1,o.len.2.1,hl⟩⟩
theorem CROpen.newR (o : CROpen L c x bv sv rv K) {v : AV} {l : List Wt} {K1 : Lg} (h : LitS K v (flatc Wt.cells l) l.length 3 K1) (hl : l.length ≤ 1000000) : CROpen L c { x with recvs := l } bv sv v (K1.put c (.raw (.cells (crt x bv sv v)))) := by
  have fr := fun b hb => o.ne (h.f b hb)
  have kp : ∀ {b : Nat} {d : LC},b ≠ c → K b = some d → (K1.put c (.raw (.cells (crt x bv sv v)))) b = some d := fun {b d} h1 h2 => by rw [Lg.put_ne _ _ _ h1]; exact h.s b d h2
  exact ⟨Lg.put_same _ _ _,o.bs.sub fun b d hb hd => kp (o.a1 b hb).1 hd,o.ss.sub fun b d hb hd => kp (o.a2 b hb).1 hd,h.o.mono fun b hb => Lg.put_ne _ _ _ (fr b hb).1,
    o.a1,o.a2,fun b hb => ⟨(fr b hb).1,(fr b hb).2.1,(fr b hb).2.2.1,(fr b hb).2.2.2.1⟩,
    fun r d hr hd => kp hr (o.old r d hr hd),⟨hl,o.len.2⟩⟩
theorem LitS.nil (K : Lg) (z : Nat) : LitS K (.sl none 0 0 0) [] 0 z K := ⟨.inl (OSl.nil K z),SubL.refl K,fun b h => by cases h⟩
theorem CROpen.rd (o : CROpen L c x bv sv rv K) (i : Nat) : rdL K (c,i) none = (crt x bv sv rv)[i]? := rdL_cell o.root
theorem CROpen.r0 (o : CROpen L c x bv sv rv K) : rdL K (c,0) none = some (.i .i64 x.cap) := o.rd 0
theorem CROpen.r1 (o : CROpen L c x bv sv rv K) : rdL K (c,1) none = some (.b x.timed) := o.rd 1
theorem CROpen.r3 (o : CROpen L c x bv sv rv K) : rdL K (c,3) none = some (.b x.closed) := o.rd 3
theorem CROpen.r4 (o : CROpen L c x bv sv rv K) : rdL K (c,4) none = some bv := o.rd 4
theorem CROpen.r5 (o : CROpen L c x bv sv rv K) : rdL K (c,5) none = some sv := o.rd 5
theorem CROpen.r6 (o : CROpen L c x bv sv rv K) : rdL K (c,6) none = some rv := o.rd 6
theorem CROpen.sb (o : CROpen L c x bv sv rv K) : SlG fI 1 K bv x.vals := OSe.slG fI_len o.bs
theorem CROpen.sS (o : CROpen L c x bv sv rv K) : SlG Wt.cells 3 K sv x.sends := OSe.slG Wt.len3 o.ss
theorem CROpen.sR (o : CROpen L c x bv sv rv K) : SlG Wt.cells 3 K rv x.recvs := OSe.slG Wt.len3 o.rs
theorem CROpen.st (o : CROpen L c x bv sv rv K) {K1 : Lg} (h : SubL K K1) {i : Nat} (hi : i < 7) {w : AV} (hw : w.cellsOf = some [w]) {k : AV → Lg → Prop}
    (hk : k .bad (K1.put c (.raw (.cells ((crt x bv sv rv).set i w))))) : stL 1 K1 k [.p (some (c,i)),w] := by
  rw [stL_cell (h _ _ o.root) (by simpa [crt] using hi) hw]; exact hk
theorem newTimedR_spec (hf : H_f62 N F) (L : Lg) : CallL F (N k_f62) [] L fun v L' => ∃ c,L c = none ∧ v = .p (some (c,0)) ∧ L' = L.put c (.abs (ChRP c .tm)) := by
  refine CallL.opq ?_
  intro Q hQ
  apply r_f62 hf.code
  unfold D_f62_1
  simp [fillP,splice,ble_nat,beq_nat]
  rw [newL_box_agg _ _ _ (by simp)]
  intro c hc
  have o : CROpen L c .tm (.sl none 0 0 0) (.sl none 0 0 0) (.sl none 0 0 0) (L.put c (.raw (.cells [.i .i64 1,.b true,.b false,.b false,.sl none 0 0 0,.sl none 0 0 0,.sl none 0 0 0]))) :=
    ⟨Lg.put_same _ _ _,.inl (OSl.nil _ _),.inl (OSl.nil _ _),.inl (OSl.nil _ _),(fun b h => by cases h),(fun b h => by cases h),(fun b h => by cases h),(fun r d hr hd => by rw [Lg.put_ne _ _ _ hr]; exact hd),(by simp [Ch.tm])⟩
  exact ⟨_,o.shut,hQ _ _ ⟨c,hc,rfl,rfl⟩⟩
def Lg.putR (L : Lg) (c : Option Nat) (x : Ch) : Lg := match c with
  | none => L
  | some c => L.put c (.abs (ChRP c x))
def Lg.hasR (L : Lg) (s : Nat) (c : Option Nat) (x : Ch) : Prop := ∀ a,c = some a → a ≠ s ∧ L a = some (.abs (ChRP a x))
theorem dropR_spec (hf : H_f79 N F) {s : Nat} {c : Option Nat} {x : Ch} (hx : x.timed = true) (h : L.hasR s c x) : CallL F (N k_f79) [ptr c] L fun v L' => v = .b (dropsC c x) ∧ L' = L.putR c x.dropped := by
  refine CallL.opq ?_
  intro Q hQ
  cases c with
  | none =>
    apply r_f79 hf.code
    unfold D_f79_1
    simp [ptr]
    exact ⟨L,Sees.refl _,hQ _ _ ⟨rfl,rfl⟩⟩
  | some c =>
    have e := (h c rfl).2
    apply CallL.openCR e
    intro bv sv rv K o
    apply r_f79 hf.code
    unfold D_f79_1
    have hlen := fun X k => o.sb.len (F := F) X k
    have r1 := o.r1
    rw [hx] at r1
    have fin : ∀ (b : Bool) (y : Ch) {K' : Lg},dropsC (some c) x = b → x.dropped = y → Sees K' (L.put c (.abs (ChRP c y))) → fin1 (some (.b b)) Q K' := by
      intro b y K' h1 h2 h3
      subst h1 h2
      exact ⟨_,h3,hQ _ _ ⟨rfl,rfl⟩⟩
    by_cases hv : (x.vals.length : Int) = 0
    · have hl : x.vals = [] := List.length_eq_zero_iff.1 (by omega)
      simp [ptr,r1,o.r4,hlen,hl]
      exact fin _ x (by simp [dropsC,Ch.left,hl]) (by cases x; simp [Ch.dropped] at hl ⊢; exact hl) o.shut
    · have hp : 0 < x.vals.length := by omega
      simp only [ptr,Option.map_some,mark_eq,wp_eqp_sn,gdOp_same,wp_mv,wp_nilchk_p,wp_fad,Nat.zero_add,wp_ld,r1,retL_some,wp_not,Bool.not_true,wp_pick_f,o.r4,hlen,wp_eql,hv,decide_false,condW_f,wp_st]
      refine o.st (SubL.refl _) (by omega) rfl ?_
      have o1 := o.newB (l := []) (LitS.nil K 1) (by simp)
      exact fin _ { x with vals := [] } (by simp [dropsC,Ch.left,hp]) rfl o1.shut
def Ch.snd (x : Ch) (v : Int) : Ch × List Wk × Bool := match x.recvs with
  | w :: ws => ({ x with recvs := ws },[⟨w.t,w.c,v,true,false⟩],true)
  | [] => if x.vals.length < x.cap then ({ x with vals := x.vals ++ [v] },[],true) else (x,[],false)
theorem sendR_spec (hf : H_f85 N F) (o : CROpen L c x bv sv rv K) (hl : x.vals.length < 1000000) (v : Int) : CallL F (N k_f85) [.p (some (c,0)),.i .i64 v] K fun r K' => ∃ s,r = .tup [.b (x.snd v).2.2,s] ∧
    FreshSl (L.put c (.abs (ChRP c (x.snd v).1))) s (wkcells (x.snd v).2.1) (x.snd v).2.1.length 5 K' := by
  refine CallL.opq ?_
  intro Q hQ
  apply r_f85 hf.code
  unfold D_f85_1 D_f85_2
  have hlen := fun X k => o.sR.len (F := F) X k
  have hlenB := fun X k => o.sb.len (F := F) X k
  cases hr : x.recvs with
  | cons w ws =>
    have hsn : x.snd v = ({ x with recvs := ws },[⟨w.t,w.c,v,true,false⟩],true) := by simp [Ch.snd,hr]
    have hlr := o.len.1
    rw [hr] at hlr
    simp at hlr
    have c0 : (0 : Int) < (x.recvs.length : Int) := by rw [hr]; simp
    have hx0 : x.recvs[0]? = some w := by rw [hr]; rfl
    obtain ⟨b,q,q1,q2,_⟩ := o.sR.get (F := F) hx0
    have rall := (q2 K (SubL.refl _)).2
    have q1' : ∀ (X : Lg) (k : AV → Lg → Prop),wpOp F (.iad 3) [rv,.i .i64 0] X k = k (.p (some (b,q))) X := q1
    simp only [mark_eq,wp_nilchk_p,wp_fad,Nat.zero_add,wp_ld,o.r6,retL_some,hlen,wp_gtr,c0,decide_true,condW_t,q1',rall,wp_alloc]
    intro x11 hx11
    rw [wp_st,stL_cells (Lg.put_same _ _ _) (Wt.one3 w) (Wt.len3 w) (by simp),Lg.put_put,splice_w]
    have n11 := o.ne hx11
    have o2 := o.onto hx11 (.raw (.cells w.cells))
    have l11 : (L.put x11 (.raw (.cells w.cells))) x11 = some (.raw (.cells w.cells)) := Lg.put_same _ _ _
    have low : ∀ r d,r ≠ c → L r = some d → (L.put x11 (.raw (.cells w.cells))) r = some d := fun r d _ hd => by
      rw [Lg.put_ne _ _ _ (by rintro rfl; rw [n11.2.1] at hd; cases hd)]; exact hd
    generalize hK2 : K.put x11 (.raw (.cells w.cells)) = K2 at o2 ⊢
    generalize L.put x11 (.raw (.cells w.cells)) = L2 at o2 l11 low
    refine LitS.start ?_
    intro v13 K3 l3
    have o3 := o2.sub l3.s
    obtain ⟨vb,c3,s3⟩ := o3.sR.from (k := 1) (by omega)
    have c3' : slcV 3 true false false [rv,.i .i64 1] = some vb := c3
    simp only [mark_eq,wp_nilchk_p,wp_fad,Nat.zero_add,wp_ld,o3.r6,retL_some,wp_slc,c3']
    rw [hr] at s3
    simp only [List.drop_succ_cons,List.drop_zero] at s3
    refine l3.app Wt.len3 Wt.one3 (by omega) s3 (by omega) ?_
    intro v18 K4 l4
    have o5 := o2.newR (l := ws) (by simpa using l4) (by omega)
    simp only [mark_eq,wp_nilchk_p,wp_fad,Nat.zero_add,wp_st]
    refine o2.st l4.s (by omega) l4.o.cellsOf ?_
    have k11 := o5.old x11 _ n11.1 l11
    have e5 : (crt x bv sv rv).set 6 v18 = crt x bv sv v18 := rfl
    rw [e5]
    generalize K4.put c (.raw (.cells (crt x bv sv v18))) = K5 at o5 k11
    have g0 : rdL K5 (x11,0) none = some (.i .i64 w.t) := by rw [rdL_cell k11]; rfl
    have g1 : rdL K5 (x11,1) none = some (.i .i64 w.c) := by rw [rdL_cell k11]; rfl
    simp only [mark_eq,wp_fad,Nat.zero_add,Nat.add_zero,wp_ld,g0,g1,retL_some]
    simp [fillP,splice,ble_nat,beq_nat]
    rw [newL_bslice (c := Wk.cells ⟨w.t,w.c,v,true,false⟩) _ _ (by simp [reps,fillP,splice,ble_nat,beq_nat,Wk.cells,AV.cellsOf]) rfl]
    intro b1 hb1
    have o6 := (o5.below low)
    have n1 := o6.ne hb1
    have o7 := o6.onto hb1 (.raw (.cells (Wk.cells ⟨w.t,w.c,v,true,false⟩)))
    have sh := o7.shut
    rw [Lg.put_comm _ n1.1] at sh
    refine ⟨_,sh,hQ _ _ ⟨_,by rw [hsn],?_⟩⟩
    rw [hsn]
    exact .inr ⟨b1,0,by rw [Lg.put_ne _ _ _ n1.1]; exact n1.2.1,by simp,rfl,rfl,by simp [wkcells]⟩
  | nil =>
    have c0 : ¬ (0 : Int) < (x.recvs.length : Int) := by rw [hr]; simp
    simp only [mark_eq,wp_nilchk_p,wp_fad,Nat.zero_add,wp_ld,o.r6,retL_some,hlen,wp_gtr,c0,decide_false,condW_f]
    unfold D_f85_3
    simp only [mark_eq,wp_nilchk_p,wp_fad,Nat.zero_add,Nat.add_zero,wp_ld,o.r4,o.r0,retL_some,hlenB,wp_lss,condW_d]
    refine ⟨fun hlt => ?_,fun hnl => ?_⟩
    rotate_left
    · have hsn : x.snd v = (x,[],false) := by simp only [Ch.snd,hr]; rw [if_neg (by omega)]
      refine ⟨_,o.shut,hQ _ _ ⟨_,by rw [hsn],?_⟩⟩
      rw [hsn]
      exact .inl ⟨rfl,rfl,rfl,rfl⟩
    · have hsn : x.snd v = ({ x with vals := x.vals ++ [v] },[],true) := by simp only [Ch.snd,hr]; rw [if_pos (by omega)]
      refine LitS.start ?_
      intro v9 K3 l3
      have o3 := o.sub l3.s
      simp only [mark_eq,wp_nilchk_p,wp_fad,Nat.zero_add,wp_ld,o3.r4,retL_some]
      refine l3.app fI_len fI_one (by omega) o3.sb (by omega) ?_
      intro v13 K4 l4
      refine new1 rfl ?_
      intro v14 K5 o14 k5 f14
      have s5 : SubL K4 K5 := fun r d hr' => k5.none_ hr'
      have s14 : SlG fI 1 K5 v14 [v] := SlG.of_own (f := fI) fI_len (by simpa [flatc,fI] using o14)
      refine (l4.mono s5).app fI_len fI_one (by omega) s14 (by simp; omega) ?_
      intro v15 K6 l6
      have o6 := o.newB (l := x.vals ++ [v]) (by rw [flatc_append]; simpa using l6) (by simp; omega)
      simp only [mark_eq,wp_nilchk_p,wp_fad,Nat.zero_add,wp_st]
      refine o.st l6.s (by omega) l6.o.cellsOf ?_
      refine ⟨_,o6.shut,hQ _ _ ⟨_,by rw [hsn],?_⟩⟩
      rw [hsn]
      exact .inl ⟨rfl,rfl,rfl,rfl⟩
theorem putR_spec (hf : H_f86 N F) {s : Nat} {c : Option Nat} {x : Ch} (hx : x.timed = true) (hl : x.vals.length ≤ x.cap) (hc : x.cap < 1000000) (h : L.hasR s c x) (now : Int) : CallL F (N k_f86) [ptr c,.i .i64 now] L fun v L' => ∃ sl,v = .tup [sl,.b (putsC c x now).2.2] ∧
    FreshSl (L.putR c (putsC c x now).1) sl (wkcells (putsC c x now).2.1) (putsC c x now).2.1.length 5 L' := by
  refine CallL.opq ?_
  intro Q hQ
  cases c with
  | none =>
    apply r_f86 hf.code
    unfold D_f86_1
    simp [ptr]
    exact ⟨L,Sees.refl _,hQ _ _ ⟨_,rfl,.inl ⟨rfl,rfl,rfl,rfl⟩⟩⟩
  | some c =>
    have e := (h c rfl).2
    apply CallL.openCR e
    intro bv sv rv K o
    apply r_f86 hf.code
    unfold D_f86_1
    have r1 := o.r1
    rw [hx] at r1
    have hps : x.put now = x.snd now := by
      unfold Ch.put Ch.snd
      rw [if_pos hx]
      cases x.recvs with
      | cons w ws => rfl
      | nil =>
        by_cases h9 : x.vals.length = x.cap
        · simp [h9]
        · simp only [h9,if_false]; rw [if_pos (by omega)]
    simp only [ptr,Option.map_some,mark_eq,wp_eqp_sn,gdOp_same,wp_mv,wp_nilchk_p,wp_fad,Nat.zero_add,wp_ld,r1,retL_some,wp_not,Bool.not_true,wp_pick_f,condW_f]
    refine (sendR_spec hf.f85 o (by omega) now).mono ?_
    rintro _ K2 ⟨sl,rfl,hfs⟩
    simp only [mark_eq,wp_ext,List.getElem?_cons_zero,List.getElem?_cons_succ,retL_some]
    exact ⟨K2,Sees.refl _,hQ _ _ ⟨sl,by simp only [putsC,hps],by simp only [putsC,hps,Lg.putR]; exact hfs⟩⟩
theorem recvRNil_spec (hf : H_f93 N F) (L : Lg) : CallL F (N k_f93) [.p none] L fun r L' => r = .tup [.i .i64 0,.b false,.b false,.sl none 0 0 0] ∧ L' = L := by
  apply r_f93 hf.code
  unfold D_f93_1 D_f93_2
  simp
theorem recvR_spec (hf : H_f93 N F) (e : L c = some (.abs (ChRP c x))) (hs : x.sends = []) : CallL F (N k_f93) [.p (some (c,0))] L fun r L' => r = .tup [.i .i64 x.recv.2.1,.b x.recv.2.2.1,.b x.recv.2.2.2.1,.sl none 0 0 0] ∧ L' = L.put c (.abs (ChRP c x.recv.1)) ∧ x.recv.2.2.2.2 = [] := by
  refine CallL.opq ?_
  intro Q hQ
  apply CallL.openCR e
  intro bv sv rv K o
  apply r_f93 hf.code
  unfold D_f93_1 D_f93_2 D_f93_6 D_f93_7
  have hlenS := fun X k => o.sS.len (F := F) X k
  have hlenB := fun X k => o.sb.len (F := F) X k
  have s0 : (x.sends.length : Int) = 0 := by rw [hs]; rfl
  cases hv : x.vals with
  | nil =>
    have hrc : x.recv = (x,0,false,x.closed,[]) := by simp [Ch.recv,hv,hs]
    have c0 : ¬ (0 : Int) < (x.vals.length : Int) := by rw [hv]; simp
    have c1 : ¬ (0 : Int) < (x.sends.length : Int) := by omega
    unfold D_f93_13 D_f93_4 D_f93_5
    simp only [mark_eq,wp_eqp_sn,condW_f,wp_nilchk_p,wp_fad,Nat.zero_add,wp_ld,o.r4,o.r5,o.r3,retL_some,hlenB,hlenS,wp_gtr,c0,c1,decide_false]
    exact ⟨_,o.shut,hQ _ _ (by rw [hrc]; exact ⟨rfl,rfl,rfl⟩)⟩
  | cons a vs =>
    have hrc : x.recv = ({ x with vals := vs },a,true,true,[]) := by simp [Ch.recv,hv,hs]
    have c0 : (0 : Int) < (x.vals.length : Int) := by rw [hv]; simp
    have hlv := o.len.2.2
    rw [hv] at hlv
    simp at hlv
    have hx0 : x.vals[0]? = some a := by rw [hv]; rfl
    obtain ⟨b,q,q1,q2,_⟩ := o.sb.get (F := F) hx0
    have q1' : ∀ (X : Lg) (k : AV → Lg → Prop),wpOp F (.iad 1) [bv,.i .i64 0] X k = k (.p (some (b,q))) X := q1
    have ra : rdL K (b,q) none = some (.i .i64 a) := (q2 K (SubL.refl _)).1 0 (by omega)
    unfold D_f93_8 D_f93_9
    simp only [mark_eq,wp_eqp_sn,condW_f,wp_nilchk_p,wp_fad,Nat.zero_add,wp_ld,o.r4,retL_some,hlenB,wp_gtr,c0,decide_true,condW_t,q1',ra]
    refine LitS.start ?_
    intro v1 K3 l3
    have o3 := o.sub l3.s
    obtain ⟨vb,c3,s3⟩ := o3.sb.from (k := 1) (by omega)
    have c3' : slcV 1 true false false [bv,.i .i64 1] = some vb := c3
    simp only [mark_eq,wp_nilchk_p,wp_fad,Nat.zero_add,wp_ld,o3.r4,retL_some,wp_slc,c3']
    rw [hv] at s3
    simp only [List.drop_succ_cons,List.drop_zero] at s3
    refine l3.app fI_len fI_one (by omega) s3 (by omega) ?_
    intro v6 K4 l4
    have o5 := o.newB (l := vs) (by simpa using l4) (by omega)
    simp only [mark_eq,wp_nilchk_p,wp_fad,Nat.zero_add,wp_st]
    refine o.st l4.s (by omega) l4.o.cellsOf ?_
    have e5 : (crt x bv sv rv).set 4 v6 = crt x v6 sv rv := rfl
    rw [e5]
    generalize K4.put c (.raw (.cells (crt x v6 sv rv))) = K5 at o5
    have hlenS' := fun X k => o5.sS.len (F := F) X k
    unfold D_f93_10
    simp only [mark_eq,wp_nilchk_p,wp_fad,Nat.zero_add,wp_ld,o5.r5,retL_some,hlenS',s0,wp_eql,decide_true,condW_t]
    exact ⟨_,o5.shut,hQ _ _ (by rw [hrc]; exact ⟨rfl,rfl,rfl⟩)⟩
theorem othersR_spec (hf : H_f99 N F) {v : AV} {l : List Wt} (hv : SlG Wt.cells 3 K v l) (hl : l.length ≤ 1000000) (task : Int) : CallL F (N k_f99) [v,.i .i64 task] K fun r K' => r = .b (l.any fun y => !decide (y.t = task)) ∧ K' = K := by
  refine CallL.opq ?_
  intro Q hQ
  apply r_f99 hf.code
  unfold D_f99_1 D_f99_4 D_f99_6
  obtain ⟨I,hI⟩ : ∃ I : Nat → Env → Lg → Prop,I = fun m E K' => ∃ i : Nat,m + i = l.length ∧ E 0 = v ∧ E 1 = .i .i64 task ∧ E 5 = .i .i64 i ∧ K' = K ∧ (l.any fun y => !decide (y.t = task)) = ((l.drop i).any fun y => !decide (y.t = task)) := ⟨_,rfl⟩
  refine loopW_intro I l.length ?_ ?_
  · rw [hI]; exact ⟨0,by omega,by simp [initE],by simp [initE],by simp,rfl,rfl⟩
  intro m E t K' hi
  rw [hI] at hi
  obtain ⟨i,hm,e0,e1,e5,rfl,hfd⟩ := hi
  have hlen := fun X k => hv.len (F := F) X k
  unfold D_f99_7
  rw [e0,e1,e5]
  simp only [mark_eq,hlen,wp_lss,condW_d]
  refine ⟨fun hlt => ?_,fun hnl => ?_⟩
  rotate_left
  · unfold D_f99_3
    exact ⟨K',Sees.refl _,hQ _ _ ⟨by rw [hfd,List.drop_eq_nil_iff.2 (by omega)]; rfl,rfl⟩⟩
  have hil : i < l.length := by omega
  have hx : l[i]? = some l[i] := List.getElem?_eq_getElem hil
  have hdr : l.drop i = l[i] :: l.drop (i + 1) := List.drop_eq_getElem_cons hil
  generalize l[i] = x at hx hdr
  have w1 : wr .i64 ((i : Int) + 1) = ((i + 1 : Nat) : Int) := by rw [wr_id (by omega) (by omega)]; omega
  obtain ⟨b,q,q1,q2,_⟩ := hv.get (F := F) hx
  have ra : rdL K' (b,q) none = some (.i .i64 x.t) := (q2 K' (SubL.refl _)).1 0 (by omega)
  rw [hdr] at hfd
  simp only [mark_eq,wp_fad,Nat.add_zero,wp_ld,ra,retL_some,q1,wp_neq,condW_d]
  refine ⟨fun hne => ?_,fun heq => ?_⟩
  · exact ⟨K',Sees.refl _,hQ _ _ ⟨by rw [hfd]; simp [hne],rfl⟩⟩
  · simp only [mark_eq,wp_add,w1]
    rw [hI]
    have heq' : x.t = task := by simpa using heq
    exact ⟨m - 1,by omega,i + 1,by omega,by simp [e0],by simp [e1],by simp,rfl,by rw [hfd]; simp [heq']⟩
theorem waitRNil_spec (hf : H_f100 N F) (L : Lg) (w : Wt) (send : Bool) : CallL F (N k_f100) [.p none,w.av,.b send] L fun v L' => v = .i .i64 6 ∧ L' = L := by
  refine CallL.opq ?_
  intro Q hQ
  apply r_f100 hf.code
  unfold D_f100_1 D_f100_5 D_f100_6 D_f100_7 Wt.av
  simp only [mark_eq,wp_box]
  rw [newL_box_agg _ _ _ (Wt.one3 w)]
  intro b0 hb0
  simp only [mark_eq,wp_eqp_nn,Bool.not_false,condW_t]
  exact ⟨L,((SubL.refl L).put hb0 _).sees,hQ _ _ ⟨rfl,rfl⟩⟩
theorem waitR_spec (hf : H_f100 N F) (e : L c = some (.abs (ChRP c x))) (hs : x.sends = []) (hl : x.recvs.length < 1000000) (w : Wt) :
    CallL F (N k_f100) [.p (some (c,0)),w.av,.b false] L fun v L' => v = .i .i64 (x.waits w false).2 ∧ L' = L.put c (.abs (ChRP c (x.waits w false).1)) := by
  refine CallL.opq ?_
  intro Q hQ
  apply CallL.openCR e
  intro bv sv rv K o
  apply r_f100 hf.code
  unfold D_f100_1 Wt.av
  simp only [mark_eq,wp_box]
  rw [newL_box_agg _ _ _ (Wt.one3 w)]
  intro b0 hb0
  have n0 := o.ne hb0
  have o1 := o.onto hb0 (.raw (.cells w.cells))
  have l0 : (L.put b0 (.raw (.cells w.cells))) b0 = some (.raw (.cells w.cells)) := Lg.put_same _ _ _
  have low : ∀ r d,r ≠ c → L r = some d → (L.put b0 (.raw (.cells w.cells))) r = some d := fun r d _ hd => by
    rw [Lg.put_ne _ _ _ (by rintro rfl; rw [n0.2.1] at hd; cases hd)]; exact hd
  generalize K.put b0 (.raw (.cells w.cells)) = K1 at o1
  generalize L.put b0 (.raw (.cells w.cells)) = L1 at o1 l0 low
  have hlenS := fun X k => o1.sS.len (F := F) X k
  have hlenB := fun X k => o1.sb.len (F := F) X k
  have k0 := o1.old b0 _ n0.1 l0
  have g0 : rdL K1 (b0,0) none = some (.i .i64 w.t) := by rw [rdL_cell k0]; rfl
  have fin : ∀ (n : Int) (y : Ch) {bv' sv' rv' : AV} {K' : Lg},x.waits w false = (y,n) → CROpen L1 c y bv' sv' rv' K' → fin1 (some (.i .i64 n)) Q K' := by
    intro n y bv' sv' rv' K' h1 o'
    exact ⟨_,(o'.below low).shut,hQ _ _ ⟨by rw [h1],by rw [h1]⟩⟩
  unfold D_f100_5 D_f100_6 D_f100_8 D_f100_9 D_f100_11 D_f100_12
  simp only [mark_eq,wp_eqp_sn,condW_f,gdOp_ft,gdOp_tup,wp_pick_f,wp_nilchk_p,wp_fad,Nat.zero_add,wp_ld,o1.r3,retL_some]
  cases hc : x.closed with
  | true =>
    simp only [mark_eq,condW_t]
    unfold D_f100_13
    exact fin 5 x (by simp [Ch.waits,hc]) o1
  | false =>
    simp only [mark_eq,condW_f]
    unfold D_f100_16
    simp only [mark_eq,gdOp_ft,gdOp_tup,wp_pick_f]
    unfold D_f100_17
    simp only [mark_eq,condW_f,wp_not,Bool.not_false,gdOp_same,wp_mv,wp_nilchk_p,wp_fad,Nat.zero_add,wp_ld,o1.r4,retL_some,hlenB,wp_gtr]
    have any0 : (x.sends.any fun y => !decide (y.t = w.t)) = false := by rw [hs]; rfl
    by_cases hv : (0 : Int) < (x.vals.length : Int)
    · simp only [mark_eq,hv,decide_true,Bool.not_false,gdOp_tf,gdOp_tup,gdOp_same,wp_pick_t]
      unfold D_f100_15
      simp only [mark_eq,hv,decide_true,Bool.not_false,gdOp_same,wp_pick_t,condW_t]
      refine fin 1 x ?_ o1
      have : 0 < x.vals.length := by omega
      simp [Ch.waits,hc,Ch.free,this]
    · simp only [mark_eq,hv,decide_false,gdOp_same,wp_mv,wp_nilchk_p,wp_fad,Nat.zero_add,Nat.add_zero,wp_ld,o1.r5,g0,retL_some,wp_call]
      refine (othersR_spec hf.f99 o1.sS o1.len.2.1 w.t).mono ?_
      rintro _ K2 ⟨rfl,hK2⟩
      rw [hK2,any0]
      simp only [mark_eq,hv,decide_false,Bool.not_false,gdOp_same,wp_pick_f,wp_pick_t]
      unfold D_f100_15
      simp only [mark_eq,hv,decide_false,Bool.not_false,gdOp_same,wp_pick_f,wp_pick_t,condW_f]
      refine LitS.start ?_
      intro v12 K3 l3
      have o3 := o1.sub l3.s
      simp only [mark_eq,wp_nilchk_p,wp_fad,Nat.zero_add,wp_ld,o3.r6,retL_some]
      refine l3.app Wt.len3 Wt.one3 (by omega) o3.sR (by omega) ?_
      intro v16 K4 l4
      have k4 : rdL K4 (b0,0) (some 3) = some (.agg w.cells) := by rw [rdL_cells (l4.s _ _ k0) (by simp [Wt.cells])]; rfl
      have k1 : rdL K1 (b0,0) (some 3) = some (.agg w.cells) := by rw [rdL_cells k0 (by simp [Wt.cells])]; rfl
      simp only [mark_eq,wp_ld,k4,retL_some]
      refine litOne rfl (Wt.len3 w) (Wt.one3 w) ?_
      intro v18 K5 o18 s5 f18
      have s18 : SlG Wt.cells 3 K5 v18 [w] := SlG.of_own (f := Wt.cells) Wt.len3 (by simpa [flatc] using o18)
      refine (l4.mono s5).app Wt.len3 Wt.one3 (by omega) s18 (by simp; omega) ?_
      intro v19 K6 l6
      have o6 := o1.newR (l := x.recvs ++ [w]) (by rw [flatc_append]; simpa using l6) (by simp; omega)
      simp only [mark_eq,wp_nilchk_p,wp_fad,Nat.zero_add,wp_st]
      refine o1.st l6.s (by omega) l6.o.cellsOf ?_
      refine ⟨⟨by simp [againV,semRL,rLdL,k4,k1,Wt.cells,sameV,sameL,same1,iEq_eq],trivial⟩,?_⟩
      unfold D_f100_3
      refine fin 0 _ ?_ o6
      have : ¬ 0 < x.vals.length := by omega
      simp [Ch.waits,hc,Ch.free,this,Ch.wait,hs]
theorem canR_spec (hf : H_f107 N F) {s : Nat} {c : Option Nat} {x : Ch} (h : L.hasR s c x) : CallL F (N k_f107) [ptr c,.b false] L fun v L' => v = .b (c.isSome && x.can false) ∧ L' = L := by
  refine CallL.opq ?_
  intro Q hQ
  cases c with
  | none =>
    apply r_f107 hf.code
    unfold D_f107_1 D_f107_5 D_f107_6
    simp [ptr]
    exact ⟨L,Sees.refl _,hQ _ _ ⟨rfl,rfl⟩⟩
  | some c =>
    have e := (h c rfl).2
    apply CallL.openCR e
    intro bv sv rv K o
    rw [show ptr (some c) = AV.p (some (c,0)) from rfl]
    apply r_f107 hf.code
    unfold D_f107_1 D_f107_5 D_f107_6 D_f107_3
    have hlenS := fun X k => o.sS.len (F := F) X k
    have hlenB := fun X k => o.sb.len (F := F) X k
    have fin : ∀ b : Bool,x.can false = b → fin1 (some (.b b)) Q K := fun b hb => ⟨L,o.back e,hQ _ _ ⟨by rw [← hb]; rfl,rfl⟩⟩
    have hcan : x.can false = (x.closed || decide (0 < x.vals.length) || decide (0 < x.sends.length)) := by simp [Ch.can,Ch.free,Ch.wait]
    rw [hcan] at fin
    simp only [mark_eq,wp_eqp_sn,gdOp_same,wp_mv,gdOp_ft,gdOp_tup,wp_pick_f,condW_f,wp_nilchk_p,wp_fad,Nat.zero_add,wp_ld,o.r3,retL_some]
    cases hc : x.closed with
    | true =>
      rw [hc] at fin
      simp only [mark_eq,gdOp_tf,gdOp_tup,wp_pick_t]
      exact fin true rfl
    | false =>
      rw [hc] at fin
      simp only [mark_eq,gdOp_same,wp_mv,wp_nilchk_p,wp_fad,Nat.zero_add,wp_ld,o.r5,o.r4,retL_some,hlenS,hlenB,wp_gtr,wp_pick_f]
      by_cases h1 : (0 : Int) < (x.sends.length : Int)
      · simp only [mark_eq,h1,decide_true,gdOp_tf,gdOp_tup,wp_pick_t]
        exact fin true (by simp; right; omega)
      · simp only [mark_eq,h1,decide_false,gdOp_same,wp_mv,wp_nilchk_p,wp_fad,Nat.zero_add,wp_ld,o.r4,retL_some,hlenB,wp_gtr,wp_pick_f]
        refine fin _ ?_
        have : ¬ 0 < x.sends.length := by omega
        simp [this]
def SlV {α : Type} (f : α → List AV) (z : Nat) (K : Lg) (v : AV) (l : List α) : Prop := ∃ a cap ex,v = .sl a l.length cap ex ∧ (l = [] ∨ ∃ b off cs,a = some (b,off) ∧ (K b = some (.raw (.cells cs)) ∨ K b = some (.raw (.ro cs))) ∧ off + l.length * z ≤ cs.length ∧ ∀ (i : Nat) (x : α),l[i]? = some x → (cs.drop (off + i * z)).take z = f x)
theorem SlV.len {α : Type} {f : α → List AV} {z : Nat} {v : AV} {l : List α} (h : SlV f z K v l) (X : Lg) (k : AV → Lg → Prop) : wpOp F .lenSl [v] X k = k (.i .i64 l.length) X := by
  obtain ⟨a,cap,ex,rfl,_⟩ := h
  simp
theorem SlV.mono {α : Type} {f : α → List AV} {z : Nat} {K' : Lg} {v : AV} {l : List α} (h : SlV f z K v l) (e : SubL K K') : SlV f z K' v l := by
  obtain ⟨a,cap,ex,rfl,h1 | ⟨b,off,cs,rfl,h2,h3⟩⟩ := h
  · exact ⟨_,_,_,rfl,.inl h1⟩
  · exact ⟨_,_,_,rfl,.inr ⟨b,off,cs,rfl,h2.imp (e _ _) (e _ _),h3⟩⟩
theorem SlV.get {α : Type} {f : α → List AV} {z : Nat} {v : AV} {l : List α} (h : SlV f z K v l) {i : Nat} {x : α} (hi : l[i]? = some x) : ∃ b o,(∀ (X : Lg) (k : AV → Lg → Prop),wpOp F (.iad z) [v,.i .i64 i] X k = k (.p (some (b,o))) X) ∧
    (∀ X : Lg,SubL K X → (∀ j,j < z → rdL X (b,o + j) none = (f x)[j]?) ∧ rdL X (b,o) (some z) = some (.agg (f x))) ∧ K b ≠ none := by
  obtain ⟨a,cap,ex,rfl,h1 | ⟨b,off,cs,rfl,h2,h6,h3⟩⟩ := h
  · subst h1; simp at hi
  · have hl := (List.getElem?_eq_some_iff.1 hi).1
    have h4 := row_le hl h6
    have h5 := h3 i x hi
    refine ⟨b,off + i * z,fun X k => ?_,fun X hX => ?_,?_⟩
    · rw [wp_iad F X k z b off l.length cap ex .i64 i (by omega) (by omega)]
      simp
    · rcases h2 with h2 | h2
      · refine ⟨fun j hj => ?_,?_⟩
        · rw [rdL_cell (hX _ _ h2),drop_get h5 hj]
        · rw [rdL_cells (hX _ _ h2) h4,h5]
      · refine ⟨fun j hj => ?_,?_⟩
        · rw [rdL_ro (hX _ _ h2),drop_get h5 hj]
        · rw [rdL_ros (hX _ _ h2) h4,h5]
    · rcases h2 with h2 | h2 <;> rw [h2] <;> simp
theorem FreshSl.slV {v : AV} {l : List Wk} {K' : Lg} (h : FreshSl K v (wkcells l) l.length 5 K') : SlV Wk.cells 5 K' v l := by
  rw [wkcells_flat] at h
  rcases h with ⟨h1,h2,rfl,rfl⟩ | ⟨b,ex,h1,h2,rfl,h3,rfl⟩
  · exact ⟨none,0,0,by rw [h1],.inl (List.length_eq_zero_iff.1 h1)⟩
  · refine ⟨some (b,0),l.length,ex,rfl,.inr ⟨b,0,flatc Wk.cells l,rfl,.inl (Lg.put_same _ _ _),by omega,fun i x hi => ?_⟩⟩
    have := flatc_at (f := Wk.cells) (k := 5) (fun _ => rfl) l i x hi
    simpa using this.1
theorem eqAt_wk (x y : Wk) : eqAt x.cells y.cells [(0,1),(1,1),(2,1),(3,0),(4,0)] = some (decide (x = y)) := by
  obtain ⟨a,b,d,e,f⟩ := x
  obtain ⟨a',b',d',e',f'⟩ := y
  cases e <;> cases e' <;> cases f <;> cases f' <;> by_cases h1 : a = a' <;> by_cases h2 : b = b' <;> by_cases h3 : d = d' <;> simp [Wk.cells,eqAt,eqOne,iEq_dec,h1,h2,h3]
theorem wakesR_spec (hf : H_f88 N F) {a b : AV} {l m : List Wk} (ha : SlV Wk.cells 5 K a l) (hb : SlV Wk.cells 5 K b m) (hl : l.length ≤ 1000000) : CallL F (N k_f88) [a,b] K fun v K' => v = .b (decide (l = m)) ∧ K' = K := by
  refine CallL.opq ?_
  intro Q hQ
  apply r_f88 hf.code
  generalize hE : initE [a,b] 0 = E
  have e0 : E 0 = a := by rw [← hE]; simp [initE]
  have e1 : E 1 = b := by rw [← hE]; simp [initE]
  clear hE
  have hlenA := fun X k => ha.len (F := F) X k
  have hlenB := fun X k => hb.len (F := F) X k
  unfold D_f88_1 D_f88_2
  have p0 : (Env.put E 4 (.b false)) 0 = a := by simp [e0]
  have p1 : (Env.put E 4 (.b false)) 1 = b := by simp [e1]
  generalize Env.put E 4 (.b false) = E1 at p0 p1
  simp only [mark_eq,p0,p1,hlenA,hlenB,wp_neq,condW_d]
  refine ⟨fun hne => ?_,fun heq => ?_⟩
  · refine ⟨K,Sees.refl _,hQ _ _ ⟨?_,rfl⟩⟩
    have : l ≠ m := by rintro rfl; exact hne rfl
    simp [this]
  have hlm : l.length = m.length := by
    have : ¬ ((l.length : Int) ≠ (m.length : Int)) := heq
    omega
  unfold D_f88_5 D_f88_7
  obtain ⟨I,hI⟩ : ∃ I : Nat → Env → Lg → Prop,I = fun n E K' => ∃ i : Nat,n + i = l.length ∧ E 0 = a ∧ E 1 = b ∧ E 5 = .i .i64 i ∧ K' = K ∧ ∀ j,j < i → l[j]? = m[j]? := ⟨_,rfl⟩
  refine loopW_intro I l.length ?_ ?_
  · rw [hI]; exact ⟨0,by omega,by simp [p0],by simp [p1],by simp,rfl,fun j h => by omega⟩
  intro n E t K' hi
  rw [hI] at hi
  obtain ⟨i,hm,e0,e1,e5,rfl,hfd⟩ := hi
  unfold D_f88_8
  rw [e0,e1,e5]
  simp only [mark_eq,hlenA,wp_lss,condW_d]
  refine ⟨fun hlt => ?_,fun hnl => ?_⟩
  rotate_left
  · unfold D_f88_4
    refine ⟨K',Sees.refl _,hQ _ _ ⟨?_,rfl⟩⟩
    have : l = m := by
      apply List.ext_getElem?
      intro j
      by_cases hj : j < i
      · exact hfd j hj
      · rw [List.getElem?_eq_none (by omega),List.getElem?_eq_none (by omega)]
    simp [this]
  have hil : i < l.length := by omega
  have hx : l[i]? = some l[i] := List.getElem?_eq_getElem hil
  have hy : m[i]? = some (m[i]'(by omega)) := List.getElem?_eq_getElem (by omega)
  generalize l[i] = x at hx
  generalize m[i]'(by omega) = y at hy
  have w1 : wr .i64 ((i : Int) + 1) = ((i + 1 : Nat) : Int) := by rw [wr_id (by omega) (by omega)]; omega
  obtain ⟨b1,q1,g1,g2,_⟩ := ha.get (F := F) hx
  obtain ⟨b2,q2,g3,g4,_⟩ := hb.get (F := F) hy
  simp only [mark_eq,g1,wp_ld,(g2 K' (SubL.refl _)).2,g3,(g4 K' (SubL.refl _)).2,retL_some,wp_eqagg,eqAt_wk,Option.map_some]
  by_cases hxy : x = y
  · simp only [hxy,decide_true,bne_self_eq_false,condW_f,mark_eq,wp_add,w1]
    rw [hI]
    refine ⟨n - 1,by omega,i + 1,by omega,by simp [e0],by simp [e1],by simp,rfl,fun j hj => ?_⟩
    by_cases h9 : j = i
    · subst h9; rw [hx,hy,hxy]
    · exact hfd j (by omega)
  · have : (decide (x = y) != true) = true := by simp [hxy]
    rw [this]
    simp only [condW_t]
    refine ⟨K',Sees.refl _,hQ _ _ ⟨?_,rfl⟩⟩
    have : l ≠ m := by rintro rfl; rw [hx] at hy; cases hy; exact hxy rfl
    simp [this]
end
end Go.AM


set_option linter.unusedVariables false
set_option linter.unusedSimpArgs false
namespace Go.AM
variable {N : Nat → Nat} {F : Nat → Option AFn}
theorem On.len4 (w : On) : w.cells.length = 4 := rfl
theorem On.one4 (w : On) : w.cells.all AV.one = true := w.cells_one
def TmRP (u : Nat) (σ : Tms) (h : Hp) : Prop := ∃ per sv pv ov M,ROpen Lg.nil u σ per sv pv ov M ∧ PerOk per σ.x ∧ Sat M h
section
variable {L K : Lg} {u : Nat} {σ : Tms} {per : List (Int × Int)} {sv pv ov : AV}
theorem ROpen.shut (o : ROpen L u σ per sv pv ov K) (pk : PerOk per σ.x) : Sees K (L.put u (.abs (TmRP u σ))) := by
  refine Sees.shutAt (fun b => b = u ∨ slB sv = some b ∨ slB pv = some b ∨ slB ov = some b) (.inl rfl) ?_ ?_ (.inl ⟨_,o.root⟩) ?_
  · intro b d hb hd
    simp only [not_or] at hb
    exact o.old b d hb.1 hd
  · rintro b (rfl | h | h | h) hb
    · exact absurd rfl hb
    · exact (o.a1 b h).2
    · exact (o.a2 b h).2.1
    · exact (o.a3 b h).2.1
  · intro M hp hM hN hs
    refine ⟨per,sv,pv,ov,M,⟨?_,o.hs.mono fun b hb => hM b (.inr (.inl hb)),o.ps.mono fun b hb => hM b (.inr (.inr (.inl hb))),o.os.mono fun b hb => hM b (.inr (.inr (.inr hb))),fun b hb => ⟨(o.a1 b hb).1,rfl⟩,fun b hb => ⟨(o.a2 b hb).1,rfl,(o.a2 b hb).2.2⟩,fun b hb => ⟨(o.a3 b hb).1,rfl,(o.a3 b hb).2.2⟩,fun r d _ hd => by simp [Lg.nil] at hd⟩,pk,hs⟩
    rw [hM u (.inl rfl)]; exact o.root
theorem CallL.openTR {f : Nat} {vs : List AV} {Q : AV → Lg → Prop} (e : L u = some (.abs (TmRP u σ))) (H : ∀ per sv pv ov K,ROpen L u σ per sv pv ov K → PerOk per σ.x → CallL F f vs K Q) : CallL F f vs L Q := by
  apply CallL.opens e
  rintro hm ⟨per,sv,pv,ov,M,o,pk,hs⟩
  refine ⟨M,hs,by rw [o.root]; simp,fun hf => ?_⟩
  have hi : ∀ b d,M b = some d → (M.over L) b = some d := fun b d h => by simp [Lg.over,h]
  have sb : ∀ {v : AV} {cs : List AV} {n z : Nat},OSe M v cs n z → OSe (M.over L) v cs n z := fun h => h.sub fun b d _ hd => hi b d hd
  refine H per sv pv ov (M.over L) ⟨hi _ _ o.root,sb o.hs,sb o.ps,o.os.sub fun b d _ hd => hi b d hd,fun b hb => ⟨(o.a1 b hb).1,hf b _ (o.hs.block hb) (o.a1 b hb).1⟩,fun b hb => ⟨(o.a2 b hb).1,hf b _ (o.ps.block hb) (o.a2 b hb).1,(o.a2 b hb).2.2⟩,
    fun b hb => ⟨(o.a3 b hb).1,hf b _ (o.os.block hb) (o.a3 b hb).1,(o.a3 b hb).2.2⟩,fun r d hr hd => ?_⟩ pk
  have : M r = none := by
    cases h : M r with
    | none => rfl
    | some e => have := hf r e h hr; rw [hd] at this; cases this
  simp [Lg.over,this,hd]
theorem ROpen.back (o : ROpen L u σ per sv pv ov K) (pk : PerOk per σ.x) (e : L u = some (.abs (TmRP u σ))) : Sees K L := by
  have := o.shut pk
  rwa [Lg.put_self L u _ e] at this
theorem ROpen.putOld (o : ROpen L u σ per sv pv ov K) {b : Nat} (h1 : b ≠ u) {d0 : LC} (h2 : L b = some d0) (d : LC) : ROpen (L.put b d) u σ per sv pv ov (K.put b d) := by
  have ne : ∀ {r : Nat},L r = none → r ≠ b := fun hr => by rintro rfl; rw [h2] at hr; cases hr
  have e1 := fun r hr => ne (o.a1 r hr).2
  have e2 := fun r hr => ne (o.a2 r hr).2.1
  have e3 := fun r hr => ne (o.a3 r hr).2.1
  refine ⟨by rw [Lg.put_ne _ _ _ (Ne.symm h1)]; exact o.root,o.hs.mono fun r hr => Lg.put_ne _ _ _ (e1 r hr),o.ps.mono fun r hr => Lg.put_ne _ _ _ (e2 r hr),o.os.mono fun r hr => Lg.put_ne _ _ _ (e3 r hr),
    fun r hr => by rw [Lg.put_ne _ _ _ (e1 r hr)]; exact o.a1 r hr,fun r hr => by rw [Lg.put_ne _ _ _ (e2 r hr)]; exact o.a2 r hr,fun r hr => by rw [Lg.put_ne _ _ _ (e3 r hr)]; exact o.a3 r hr,fun r e hr he => ?_⟩
  rw [Lg.put_apply] at he ⊢
  split
  · rename_i h9; rw [if_pos h9] at he; exact he
  · rename_i h9; rw [if_neg h9] at he; exact o.old r e hr he
theorem ROpen.newO (o : ROpen L u σ per sv pv ov K) {v : AV} {l : List On} {K1 : Lg} (h1 : OSl K1 v (flatc On.cells l) l.length 4) (h2 : KeepE (slB ov) K K1) (h3 : ∀ b,slB v = some b → K b = none ∨ slB ov = some b) :
    ROpen L u { σ with ones := l } per sv pv v (K1.put u (.raw (.cells [sv,.i .i64 σ.x.seq,pv,v,.i .i64 σ.named]))) := by
  have fr : ∀ b,slB v = some b → b ≠ u ∧ L b = none ∧ slB sv ≠ some b ∧ slB pv ≠ some b := fun b hb => by
    rcases h3 b hb with h | h
    · have := o.ne h; exact ⟨this.1,this.2.1,this.2.2.1,this.2.2.2.1⟩
    · exact o.a3 b h
  have kp : ∀ {b : Nat} {d : LC},b ≠ u → slB ov ≠ some b → K b = some d → (K1.put u (.raw (.cells [sv,.i .i64 σ.x.seq,pv,v,.i .i64 σ.named]))) b = some d := fun {b d} g1 g2 g3 => by rw [Lg.put_ne _ _ _ g1]; exact h2 b d g3 g2
  exact ⟨Lg.put_same _ _ _,o.hs.sub fun b d hb hd => kp (o.a1 b hb).1 (fun h9 => (o.a3 b h9).2.2.1 hb) hd,o.ps.sub fun b d hb hd => kp (o.a2 b hb).1 (fun h9 => (o.a3 b h9).2.2.2 hb) hd,h1.mono fun b hb => Lg.put_ne _ _ _ (fr b hb).1,
    o.a1,o.a2,fr,fun r d hr hd => kp hr (fun h9 => by have := (o.a3 r h9).2.1; rw [hd] at this; cases this) (o.old r d hr hd)⟩
theorem ROpen.setN (o : ROpen L u σ per sv pv ov K) (q : Int) : ROpen L u { σ with named := q } per sv pv ov (K.put u (.raw (.cells [sv,.i .i64 σ.x.seq,pv,ov,.i .i64 q]))) :=
  ⟨Lg.put_same _ _ _,o.hs.mono fun b hb => Lg.put_ne _ _ _ (o.a1 b hb).1,o.ps.mono fun b hb => Lg.put_ne _ _ _ (o.a2 b hb).1,o.os.mono fun b hb => Lg.put_ne _ _ _ (o.a3 b hb).1,o.a1,o.a2,o.a3,
    fun r d hr hd => by rw [Lg.put_ne _ _ _ hr]; exact o.old r d hr hd⟩
theorem ROpen.gen (o : ROpen L u σ per sv pv ov K) {i : Nat} {w : On} (hw : σ.ones[i]? = some w) (g : Int) {b : Nat} (hb : slB ov = some b) :
    ROpen L u { σ with ones := σ.ones.set i { w with gen := g } } per sv pv ov (K.put b (.raw (.cells ((flatc On.cells σ.ones).set (i * 4 + 3) (.i .i64 g))))) := by
  obtain ⟨n1,n2,n3,n4⟩ := o.a3 b hb
  have ne : ∀ {r : Nat} {v : AV},slB v = some r → slB v ≠ some b → r ≠ b := fun {r} {v} g1 g2 => by rintro rfl; exact g2 g1
  refine ⟨by rw [Lg.put_ne _ _ _ (Ne.symm n1)]; exact o.root,o.hs.mono fun r hr => Lg.put_ne _ _ _ (ne hr n3),o.ps.mono fun r hr => Lg.put_ne _ _ _ (ne hr n4),?_,o.a1,o.a2,o.a3,
    fun r e hr he => by rw [Lg.put_ne _ _ _ (by rintro rfl; rw [n2] at he; cases he)]; exact o.old r e hr he⟩
  rw [flatc_setc (f := On.cells) (k := 4) (fun _ => rfl) σ.ones i w { w with gen := g } 3 _ hw (by omega) (by simp [On.cells])]
  rcases o.os with ⟨h1,h2,h3⟩ | ⟨b',ex,h1,h2,h3,h4,h5⟩
  · rw [h3] at hb; cases hb
  · rw [h2] at hb; simp [slB] at hb; subst hb
    exact .inr ⟨b',ex,by simpa using h1,by simpa using h2,h3,Lg.put_same _ _ _,by simp [flatc_length (f := On.cells) (k := 4) (fun _ => rfl)]⟩
theorem inR_spec (hf : H_f78 N F) (o : ROpen L u σ per sv pv ov K) (id : Int) : CallL F (N k_f78) [.p (some (u,0)),.i .i64 id] K fun v K' => v = .b (σ.has id) ∧ K' = K := by
  refine CallL.opq ?_
  intro Q hQ
  apply r_f78 hf.code
  unfold D_f78_1
  have hlen := fun X k => o.slO.len (F := F) X k
  have fin : ∀ b : Bool,σ.has id = b → fin1 (some (.b b)) Q K := fun b h => ⟨K,Sees.refl _,hQ _ _ ⟨by rw [h],rfl⟩⟩
  by_cases h : 0 ≤ id
  · simp only [mark_eq,wp_geq,ge_iff_le,h,decide_true,gdOp_same,wp_mv,wp_nilchk_p,wp_fad,Nat.zero_add,wp_ld,o.r3,retL_some,hlen,wp_lss,wp_pick_t]
    exact fin _ (by simp [Tms.has,h])
  · simp [h]
    exact fin _ (by simp [Tms.has,h])
theorem clock_late (now d : Int) : clockAdd now (max (clockAdd d 0) 0) = clockAdd now (max d 0) := by unfold clockAdd held; omega
theorem late_min {d : Int} (h : 1 ≤ d) : max (clockAdd d 0) 0 = min d 4611686018427387904 := by unfold clockAdd held; omega
theorem armR_spec (hf : H_f71 N F) (o : ROpen L u σ per sv pv ov K) {B : Int} (fi : RFine σ per B) {i : Nat} {w : On} (hw : σ.ones[i]? = some w) (now d : Int) (hk : w.kind = 2 → 1 ≤ d) :
    CallL F (N k_f71) [.p (some (u,0)),.i .i64 i,.i .i64 now,.i .i64 d] K fun v K' => v = .tup [] ∧ ∃ per' sv' pv',ROpen L u { σ with x := (σ.armed i w now d).x } per' sv' pv' ov K' ∧ PerOk per' (σ.armed i w now d).x := by
  refine CallL.opq ?_
  intro Q hQ
  apply r_f71 hf.code
  unfold D_f71_1
  obtain ⟨b,q,q1,q2,_⟩ := o.slO.get (F := F) hw
  have r0 : rdL K (b,q) none = some (.i .i64 w.kind) := (q2 K (SubL.refl _)).1 0 (by omega)
  simp only [mark_eq,wp_nilchk_p,wp_fad,Nat.zero_add,Nat.add_zero,wp_ld,o.r3,retL_some,q1,r0,wp_eql,condW_d]
  refine ⟨fun h2 => ?_,fun h2 => ?_⟩
  · refine (lateR_spec hf.f63 _ _).mono ?_
    rintro _ _ ⟨rfl,rfl⟩
    simp only [mark_eq,wp_nilchk_p,wp_fad,Nat.add_zero]
    refine (lateR_spec hf.f63 _ _).mono ?_
    rintro _ K1 ⟨rfl,hK1⟩
    rw [hK1]
    refine (addR_spec hf.f65 _ _ _).mono ?_
    rintro _ K1 ⟨rfl,hK1⟩
    rw [hK1,clock_late,late_min (hk h2)]
    refine (tarmR hf.f70 o fi _ _ _).mono ?_
    rintro _ K2 ⟨rfl,per',sv',pv',o',pk⟩
    refine ⟨K2,Sees.refl _,hQ _ _ ⟨rfl,per',sv',pv',?_⟩⟩
    simp only [Tms.armed,h2,if_true]
    exact ⟨o',pk⟩
  · simp only [mark_eq,wp_nilchk_p,wp_fad,Nat.add_zero]
    refine (lateR_spec hf.f63 _ _).mono ?_
    rintro _ K1 ⟨rfl,hK1⟩
    rw [hK1]
    refine (addR_spec hf.f65 _ _ _).mono ?_
    rintro _ K1 ⟨rfl,hK1⟩
    rw [hK1,clock_late]
    refine (tarmR hf.f70 o fi _ _ _).mono ?_
    rintro _ K2 ⟨rfl,per',sv',pv',o',pk⟩
    refine ⟨K2,Sees.refl _,hQ _ _ ⟨rfl,per',sv',pv',?_⟩⟩
    simp only [Tms.armed,h2,if_false]
    exact ⟨o',pk⟩
theorem OSe.osl {v : AV} {cs : List AV} {n size : Nat} (h : OSe K v cs n size) (hn : 0 < n) : OSl K v cs n size := by
  rcases h with h | ⟨h1,_⟩
  · exact h
  · omega
theorem addOneR {B : Int} (fi : RFine σ per B) (ho : σ.ones.length < 1000000) (o : ROpen L u σ per sv pv ov K) (w : On) {k : AV → Lg → Prop}
    (hk : ∀ v K1,v.cellsOf = some [v] → ROpen L u { σ with ones := σ.ones ++ [w] } per sv pv v (K1.put u (.raw (.cells [sv,.i .i64 σ.x.seq,pv,v,.i .i64 σ.named]))) → K1 u = some (.raw (.cells [sv,.i .i64 σ.x.seq,pv,ov,.i .i64 σ.named])) → k v K1) :
    wpOp F (.bslice [.i .i64 0,.i .i64 0,.p none,.i .i64 0] 1 4 [0]) [.agg w.cells] K fun v5 L5 => wpOp F (.app 4 32) [ov,v5] L5 k := by
  refine litOne (cs := w.cells) rfl (On.len4 w) (On.one4 w) ?_
  intro v5 K4 o5 s4 f5
  have s5 : SlG On.cells 4 K4 v5 [w] := SlG.of_own (f := On.cells) On.len4 (by simpa [flatc] using o5)
  have o4 := o.sub s4
  refine OSe.app (v := ov) On.len4 On.one4 (by omega) (.inl o4.os) s5 (by simp; omega) ?_
  intro v6 K5 p6 k6 f6
  have os6 : OSl K5 v6 (flatc On.cells (σ.ones ++ [w])) (σ.ones ++ [w]).length 4 := by rw [flatc_append]; simpa using p6.osl (by simp)
  have o6 := o4.newO os6 k6 f6
  exact hk v6 K5 os6.cellsOf o6 (k6 u _ o4.root (fun h9 => (o4.a3 u h9).1 rfl))
theorem makeR_spec (hf : H_f72 N F) (o : ROpen L u σ per sv pv ov K) {B : Int} (fi : RFine σ per B) (ho : σ.ones.length < 1000000) (hn : 0 ≤ σ.named) {kind data : Int} (h4 : kind ≠ 4) (now d : Int) :
    CallL F (N k_f72) [.p (some (u,0)),.i .i64 kind,.i .i64 now,.i .i64 d,.i .i64 data] K fun v K' =>
      ((σ.make ⟨kind,data,none,0⟩ now d).2.2 ≠ 0 ∧ v = .tup [.i .i64 0,.i .i64 (σ.make ⟨kind,data,none,0⟩ now d).2.2] ∧ K' = K) ∨
      ∃ c per' sv' pv' ov',(kind = 3 → c = none) ∧ (kind ≠ 3 → ∃ a,c = some a ∧ L a = none ∧ a ≠ u) ∧ (σ.make ⟨kind,data,c,0⟩ now d).2.2 = 0 ∧ v = .tup [.i .i64 σ.ones.length,.i .i64 0] ∧
        ROpen (L.putR c .tm) u (σ.make ⟨kind,data,c,0⟩ now d).1 per' sv' pv' ov' K' ∧ PerOk per' (σ.make ⟨kind,data,c,0⟩ now d).1.x := by
  refine CallL.opq ?_
  intro Q hQ
  apply r_f72 hf.code
  unfold D_f72_1 D_f72_2
  have bad : ∀ e : Int,(σ.make ⟨kind,data,none,0⟩ now d).2.2 = e → e ≠ 0 → fin1 (some (.tup [.i .i64 0,.i .i64 e])) Q K := fun e h1 h2 => ⟨K,Sees.refl _,hQ _ _ (.inl ⟨by rw [h1]; exact h2,by rw [h1],rfl⟩)⟩
  by_cases c1 : now < 0
  · simp [c1]; exact bad 1 (by simp [Tms.make,badN,c1]) (by omega)
  by_cases c2 : 4611686018427387904 < now
  · simp [c1,c2]; exact bad 1 (by simp [Tms.make,badN,c2]) (by omega)
  have hbn : badN now = false := by simp [badN]; omega
  by_cases c3 : data < 0
  · simp [c1,c2,c3]; exact bad 1 (by simp [Tms.make,c3]) (by omega)
  by_cases c4 : kind = 2 ∧ d < 1
  · simp [c1,c2,c3,c4]; exact bad 1 (by simp [Tms.make,c4]) (by omega)
  have hpass : D_f72_3 F N Q (.p (some (u,0))) (.i .i64 kind) (.i .i64 now) (.i .i64 d) (.i .i64 data) K → (wpOp F (.bin .lss) [.i .i64 now,(.i .i64 0)] K fun v1 L1 =>
      gdOp F v1 false .mv [.i .i64 now] L1 fun v2 L2 => gdOp F v1 false (.bin .gtr) [v2,(.i .i64 4611686018427387904)] L2 fun v3 L3 => wpOp F .pick [v1,(.b true),v3] L3 fun v4 L4 =>
      gdOp F v4 false .mv [.i .i64 data] L4 fun v5 L5 => gdOp F v4 false (.bin .lss) [v5,(.i .i64 0)] L5 fun v6 L6 => wpOp F .pick [v4,(.b true),v6] L6 fun v7 L7 =>
      gdOp F v7 false .mv [.i .i64 kind] L7 fun v8 L8 => gdOp F v7 false (.bin .eql) [v8,(.i .i64 2)] L8 fun v9 L9 => gdOp F v7 false .mv [v9] L9 fun v10 L10 =>
      gdOp F v10 true .mv [.i .i64 d] L10 fun v11 L11 => gdOp F v10 true (.bin .lss) [v11,(.i .i64 1)] L11 fun v12 L12 => gdOp F v7 false .pick [v10,v12,(.b false)] L12 fun v13 L13 =>
      wpOp F .pick [v7,(.b true),v13] L13 fun v14 L14 => condW v14 (fin1 (some (.tup [(.i .i64 0),(.i .i64 1)])) Q L14) (D_f72_3 F N Q (.p (some (u,0))) (.i .i64 kind) (.i .i64 now) (.i .i64 d) (.i .i64 data) L14)) := by
    intro h
    by_cases k2 : kind = 2
    · have d1 : ¬ d < 1 := fun h9 => c4 ⟨k2,h9⟩
      simp only [mark_eq,wp_lss,wp_gtr,wp_eql,c1,c2,c3,k2,d1,decide_true,decide_false,gdOp_same,wp_mv,wp_pick_t,wp_pick_f,condW_f]
      rw [k2] at h; exact h
    · simp only [mark_eq,wp_lss,wp_gtr,wp_eql,c1,c2,c3,k2,decide_true,decide_false,gdOp_same,gdOp_ft,gdOp_tup,wp_mv,wp_pick_t,wp_pick_f,condW_f]
      exact h
  refine hpass ?_
  clear hpass
  unfold D_f72_3
  simp only [mark_eq,wp_nilchk_p,wp_fad,Nat.zero_add,wp_ld,o.r4,retL_some,wp_geq,condW_d]
  refine ⟨fun c5 => ?_,fun c5 => ?_⟩
  · refine bad 3 ?_ (by omega)
    have : 64 ≤ σ.named := c5
    simp only [Tms.make]
    rw [if_neg (by simp [hbn]; exact ⟨by omega,fun h => Int.not_lt.1 (fun h9 => c4 ⟨h,h9⟩)⟩),if_pos ⟨h4,this⟩]
  have c5' : ¬ 64 ≤ σ.named := c5
  have w1 : wr .i64 (σ.named + 1) = σ.named + 1 := wr_id (by omega) (by omega)
  unfold D_f72_4
  simp only [mark_eq,wp_nilchk_p,wp_fad,Nat.zero_add,wp_ld,o.r4,retL_some,wp_add,w1,wp_st]
  refine o.st (SubL.refl _) (by omega) rfl ?_
  have o1 := o.setN (σ.named + 1)
  simp only [List.set_cons_succ,List.set_cons_zero]
  generalize (K.put u (.raw (.cells [sv,.i .i64 σ.x.seq,pv,ov,.i .i64 (σ.named + 1)]))) = K1 at o1
  unfold D_f72_5
  simp [fillP,splice,ble_nat,beq_nat]
  intro x12 hx12
  have n12 := o1.ne hx12
  rw [stL_cells (Lg.put_same _ _ _) (by simp) (by simp) (by simp),Lg.put_put]
  have o2 := o1.sub ((SubL.refl K1).put hx12 (.raw (.cells (splice [.i .i64 0,.i .i64 0,.p none,.i .i64 0] 0 [.i .i64 kind,.i .i64 data,.p none,.i .i64 1]))))
  have k12 : (K1.put x12 (.raw (.cells (splice [.i .i64 0,.i .i64 0,.p none,.i .i64 0] 0 [.i .i64 kind,.i .i64 data,.p none,.i .i64 1])))) x12 = some (.raw (.cells [.i .i64 kind,.i .i64 data,.p none,.i .i64 1])) := by rw [Lg.put_same]; simp [splice]
  generalize (K1.put x12 (.raw (.cells (splice [.i .i64 0,.i .i64 0,.p none,.i .i64 0] 0 [.i .i64 kind,.i .i64 data,.p none,.i .i64 1])))) = K2 at o2 k12
  clear hx12
  have fin : ∀ (c : Option Nat) (K3 : Lg),(kind = 3 → c = none) → (kind ≠ 3 → ∃ a,c = some a ∧ L a = none ∧ a ≠ u) → ROpen (L.putR c .tm) u { σ with named := σ.named + 1 } per sv pv ov K3 → K3 x12 = some (.raw (.cells (On.cells ⟨kind,data,c,1⟩))) →
      D_f72_7 F N Q (.p (some (u,0))) (.i .i64 now) (.i .i64 d) (.p (some (x12,0))) K3 := by
    intro c K3 hc1 hc2 o3 k3
    unfold D_f72_7
    have rb : rdL K3 (x12,0) (some 4) = some (.agg (On.cells ⟨kind,data,c,1⟩)) := by rw [rdL_cells k3 (by simp [On.cells])]; rfl
    have fi3 : RFine { σ with named := σ.named + 1 } per B := ⟨fi.g,fi.b,fi.p⟩
    simp only [mark_eq,wp_nilchk_p,wp_fad,Nat.zero_add,wp_ld,o3.r3,rb,retL_some]
    refine addOneR fi3 ho o3 ⟨kind,data,c,1⟩ ?_
    intro v6 K5 hv6 o6 kr
    simp only [mark_eq,wp_nilchk_p,wp_fad,Nat.zero_add,wp_st]
    rw [stL_cell kr (by simp) hv6]
    simp only [List.set_cons_succ,List.set_cons_zero]
    generalize K5.put u (.raw (.cells [sv,.i .i64 σ.x.seq,pv,v6,.i .i64 (σ.named + 1)])) = K6 at o6
    have hlen := fun X k => o6.slO.len (F := F) X k
    have wl : wr .i64 (((σ.ones ++ [(⟨kind,data,c,1⟩ : On)]).length : Int) - 1) = (σ.ones.length : Int) := by simp only [List.length_append,List.length_cons,List.length_nil]; rw [wr_id (by omega) (by omega)]; omega
    simp only [mark_eq,wp_nilchk_p,wp_fad,Nat.zero_add,wp_ld,o6.r3,retL_some,hlen,wp_sub,wl]
    have fi6 : RFine { σ with named := σ.named + 1,ones := σ.ones ++ [(⟨kind,data,c,1⟩ : On)] } per B := ⟨fi.g,fi.b,fi.p⟩
    refine (armR_spec hf.f71 o6 fi6 (i := σ.ones.length) (w := ⟨kind,data,c,1⟩) (by simp) now d (fun h => Int.not_lt.1 (fun h9 => c4 ⟨h,h9⟩))).mono ?_
    rintro _ K7 ⟨rfl,per',sv',pv',o7,pk⟩
    have hmk : σ.make ⟨kind,data,c,0⟩ now d = ({ σ with named := σ.named + 1,ones := σ.ones ++ [(⟨kind,data,c,0⟩ : On)] }.armed σ.ones.length ⟨kind,data,c,0⟩ now d,(σ.ones.length : Int),0) := by
      simp only [Tms.make]
      rw [if_neg (by simp [hbn]; exact ⟨by omega,fun h => Int.not_lt.1 (fun h9 => c4 ⟨h,h9⟩)⟩),if_neg (by simp [h4]; omega),if_neg h4]
    refine ⟨K7,Sees.refl _,hQ _ _ (.inr ⟨c,per',sv',pv',v6,hc1,hc2,by rw [hmk],by rw [wl],?_,?_⟩)⟩
    · rw [hmk]
      have e1 : (σ.ones ++ [(⟨kind,data,c,0⟩ : On)]).set σ.ones.length ⟨kind,data,c,0 + 1⟩ = σ.ones ++ [(⟨kind,data,c,1⟩ : On)] := by simp
      simp only [Tms.armed,e1] at o7 ⊢
      exact o7
    · rw [hmk]; exact pk
  unfold D_f72_6
  simp only [mark_eq,wp_neq,condW_d]
  refine ⟨fun k3 => ?_,fun k3 => ?_⟩
  · refine (newTimedR_spec hf.f62 K2).mono ?_
    rintro _ _ ⟨a,ha,rfl,rfl⟩
    have na := o2.ne ha
    have n1 : x12 ≠ a := by rintro rfl; rw [k12] at ha; cases ha
    have o3 := o2.onto ha (.abs (ChRP a .tm))
    have k3' : (K2.put a (.abs (ChRP a .tm))) x12 = some (.raw (.cells [.i .i64 kind,.i .i64 data,.p none,.i .i64 1])) := by rw [Lg.put_ne _ _ _ n1]; exact k12
    simp only [mark_eq,wp_fad,Nat.zero_add,wp_st]
    rw [stL_cell k3' (by simp) rfl]
    simp only [List.set_cons_succ,List.set_cons_zero]
    refine fin (some a) _ (fun h => absurd h k3) (fun _ => ⟨a,rfl,na.2.1,na.1⟩) ?_ (Lg.put_same _ _ _)
    exact o3.putX n12.1 (by rw [Lg.put_ne _ _ _ n1]; exact n12.2.1) n12.2.2.1 n12.2.2.2.1 n12.2.2.2.2 _
  · have k3' : kind = 3 := by simpa using k3
    exact fin none K2 (fun _ => rfl) (fun h => absurd k3' h) o2 k12
end
end Go.AM


set_option linter.unusedVariables false
set_option linter.unusedSimpArgs false
namespace Go.AM
variable {N : Nat → Nat} {F : Nat → Option AFn}
section
variable {L K : Lg} {u : Nat} {σ : Tms} {per : List (Int × Int)} {sv pv ov : AV}
structure TFine (σ : Tms) (B : Int) : Prop where
  g : XG σ.x B
  b : B < 1000000
  o : σ.ones.length < 1000000
  n : 0 ≤ σ.named
theorem TFine.r {B : Int} (h : TFine σ B) (pk : PerOk per σ.x) : RFine σ per B := ⟨h.g,h.b,pk⟩
theorem TFine.ll {B : Int} (h : TFine σ B) : σ.x.l.length < 1000000 := by have := h.g.len; have := h.b; omega
theorem make_c {w : On} {now d : Int} (c : Option Nat) : (σ.make { w with c := c } now d).2.2 = (σ.make w now d).2.2 ∧ (σ.make { w with c := c } now d).2.1 = (σ.make w now d).2.1 := by
  simp only [Tms.make]
  split
  · exact ⟨rfl,rfl⟩
  · split <;> exact ⟨rfl,rfl⟩
theorem make_ok {w : On} {now d : Int} (h : (σ.make w now d).2.2 = 0) : (σ.make w now d).2.1 = σ.ones.length ∧ (σ.make w now d).1.ones = σ.ones ++ [{ w with gen := w.gen + 1 }] := by
  simp only [Tms.make] at h ⊢
  split at h
  · simp at h
  · rename_i h1
    split at h
    · simp at h
    · rename_i h2
      rw [if_neg h1,if_neg h2]
      simp [Tms.armed]
def WithR (L : Lg) (u : Nat) (σ : Tms) (kind now d : Int) (v : AV) (L' : Lg) : Prop :=
  ((σ.make ⟨kind,0,none,0⟩ now d).2.2 ≠ 0 ∧ v = .tup [.i .i64 0,.p none,.i .i64 (σ.make ⟨kind,0,none,0⟩ now d).2.2] ∧ L' = L) ∨
  ∃ c,L c = none ∧ c ≠ u ∧ (σ.make ⟨kind,0,some c,0⟩ now d).2.2 = 0 ∧ v = .tup [.i .i64 σ.ones.length,.p (some (c,0)),.i .i64 0] ∧ L' = (L.put u (.abs (TmRP u (σ.make ⟨kind,0,some c,0⟩ now d).1))).put c (.abs (ChRP c .tm))
theorem withR_spec (hf : H_f73 N F) (e : L u = some (.abs (TmRP u σ))) {B : Int} (fi : TFine σ B) {kind : Int} (h4 : kind ≠ 4) (h3 : kind ≠ 3) (now d : Int) :
    CallL F (N k_f73) [.p (some (u,0)),.i .i64 kind,.i .i64 now,.i .i64 d] L (WithR L u σ kind now d) := by
  refine CallL.opq (Q0 := WithR L u σ kind now d) ?_
  intro Q hQ
  apply CallL.openTR e
  intro per sv pv ov K o pk
  apply r_f73 hf.code
  unfold D_f73_1
  refine (makeR_spec hf.f72 o (fi.r pk) fi.o fi.n h4 now d).mono ?_
  rintro _ K' (⟨h1,rfl,hK⟩ | ⟨c,per',sv',pv',ov',hc1,hc2,h1,rfl,o',pk'⟩)
  · rw [hK]
    simp only [mark_eq,wp_ext,List.getElem?_cons_zero,List.getElem?_cons_succ,retL_some,wp_neq,h1,ne_eq,not_false_eq_true,decide_true,condW_t]
    exact ⟨L,o.back pk e,hQ _ _ (.inl ⟨h1,rfl,rfl⟩)⟩
  · obtain ⟨a,rfl,ha,hau⟩ := hc2 h3
    obtain ⟨m1,m2⟩ := make_ok h1
    have hw : (σ.make ⟨kind,0,some a,0⟩ now d).1.ones[σ.ones.length]? = some ⟨kind,0,some a,0 + 1⟩ := by rw [m2]; simp
    obtain ⟨b,q,q1,q2,_⟩ := o'.slO.get (F := F) hw
    have r2 : rdL K' (b,q + 2) none = some (ptr (some a)) := (q2 K' (SubL.refl _)).1 2 (by omega)
    simp only [mark_eq,wp_ext,List.getElem?_cons_zero,List.getElem?_cons_succ,retL_some,wp_neq,ne_eq,not_true_eq_false,decide_false,condW_f,wp_nilchk_p,wp_fad,Nat.zero_add,wp_ld,o'.r3,q1,r2]
    refine ⟨_,o'.shut pk',hQ _ _ (.inr ⟨a,ha,hau,h1,rfl,?_⟩)⟩
    simp only [Lg.putR]
    exact Lg.put_comm _ hau _ _
theorem timerR_spec (hf : H_f74 N F) (e : L u = some (.abs (TmRP u σ))) {B : Int} (fi : TFine σ B) (now d : Int) :
    CallL F (N k_f74) [.p (some (u,0)),.i .i64 now,.i .i64 d] L (WithR L u σ 1 now d) := by
  refine CallL.opq (Q0 := WithR L u σ 1 now d) ?_
  intro Q hQ
  apply r_f74 hf.code
  unfold D_f74_1
  refine (withR_spec hf.f73 e fi (by omega) (by omega) now d).mono ?_
  intro v L' h
  have hv : ∃ a b c,v = .tup [a,b,c] := by
    rcases h with ⟨_,rfl,_⟩ | ⟨c,_,_,_,rfl,_⟩ <;> exact ⟨_,_,_,rfl⟩
  obtain ⟨a,b,c,rfl⟩ := hv
  simp only [mark_eq,wp_ext,List.getElem?_cons_zero,List.getElem?_cons_succ,retL_some]
  exact ⟨L',Sees.refl _,hQ _ _ h⟩
theorem tickerR_spec (hf : H_f75 N F) (e : L u = some (.abs (TmRP u σ))) {B : Int} (fi : TFine σ B) (now d : Int) :
    CallL F (N k_f75) [.p (some (u,0)),.i .i64 now,.i .i64 d] L (WithR L u σ 2 now d) := by
  refine CallL.opq (Q0 := WithR L u σ 2 now d) ?_
  intro Q hQ
  apply r_f75 hf.code
  unfold D_f75_1
  refine (withR_spec hf.f73 e fi (by omega) (by omega) now d).mono ?_
  intro v L' h
  have hv : ∃ a b c,v = .tup [a,b,c] := by
    rcases h with ⟨_,rfl,_⟩ | ⟨c,_,_,_,rfl,_⟩ <;> exact ⟨_,_,_,rfl⟩
  obtain ⟨a,b,c,rfl⟩ := hv
  simp only [mark_eq,wp_ext,List.getElem?_cons_zero,List.getElem?_cons_succ,retL_some]
  exact ⟨L',Sees.refl _,hQ _ _ h⟩
theorem funcR_spec (hf : H_f76 N F) (e : L u = some (.abs (TmRP u σ))) {B : Int} (fi : TFine σ B) (now d prog : Int) :
    CallL F (N k_f76) [.p (some (u,0)),.i .i64 now,.i .i64 d,.i .i64 prog] L fun v L' => v = .tup [.i .i64 (σ.make ⟨3,prog,none,0⟩ now d).2.1,.i .i64 (σ.make ⟨3,prog,none,0⟩ now d).2.2] ∧ L' = L.put u (.abs (TmRP u (σ.make ⟨3,prog,none,0⟩ now d).1)) := by
  refine CallL.opq ?_
  intro Q hQ
  apply CallL.openTR e
  intro per sv pv ov K o pk
  apply r_f76 hf.code
  unfold D_f76_1
  refine (makeR_spec hf.f72 o (fi.r pk) fi.o fi.n (by omega) now d).mono ?_
  rintro _ K' (⟨h1,rfl,hK⟩ | ⟨c,per',sv',pv',ov',hc1,hc2,h1,rfl,o',pk'⟩)
  · rw [hK]
    obtain ⟨m1,m2⟩ := make_err h1
    simp only [mark_eq,wp_ext,List.getElem?_cons_zero,List.getElem?_cons_succ,retL_some]
    exact ⟨_,o.shut pk,hQ _ _ ⟨by rw [m2],by rw [m1]⟩⟩
  · have hc := hc1 rfl
    subst hc
    obtain ⟨m1,m2⟩ := make_ok h1
    simp only [mark_eq,wp_ext,List.getElem?_cons_zero,List.getElem?_cons_succ,retL_some]
    exact ⟨_,o'.shut pk',hQ _ _ ⟨by rw [m1,h1],rfl⟩⟩
theorem lapse_clock (when : Int) : clockAdd 0 (max when 0) = max (clockAdd when 0) 0 := by unfold clockAdd held; omega
theorem lapseR_spec (hf : H_f77 N F) (e : L u = some (.abs (TmRP u σ))) {B : Int} (fi : TFine σ B) (when ctx : Int) :
    CallL F (N k_f77) [.p (some (u,0)),.i .i64 when,.i .i64 ctx] L fun v L' => v = .tup [.i .i64 (σ.make ⟨4,ctx,none,0⟩ 0 when).2.1,.i .i64 (σ.make ⟨4,ctx,none,0⟩ 0 when).2.2] ∧ L' = L.put u (.abs (TmRP u (σ.make ⟨4,ctx,none,0⟩ 0 when).1)) := by
  refine CallL.opq ?_
  intro Q hQ
  apply CallL.openTR e
  intro per sv pv ov K o pk
  apply r_f77 hf.code
  unfold D_f77_1
  have hbn : badN 0 = false := by simp [badN]
  simp only [mark_eq,wp_lss,condW_d]
  refine ⟨fun c1 => ?_,fun c1 => ?_⟩
  · have hm : σ.make ⟨4,ctx,none,0⟩ 0 when = (σ,0,1) := by simp [Tms.make,c1]
    exact ⟨_,o.shut pk,hQ _ _ ⟨by rw [hm],by rw [hm]⟩⟩
  have hm : σ.make ⟨4,ctx,none,0⟩ 0 when = ({ σ with ones := σ.ones ++ [(⟨4,ctx,none,0⟩ : On)] }.armed σ.ones.length ⟨4,ctx,none,0⟩ 0 when,(σ.ones.length : Int),0) := by
    simp only [Tms.make]
    rw [if_neg (by simp [hbn]; omega),if_neg (by simp),if_pos trivial]
  simp only [mark_eq,wp_nilchk_p,wp_fad,Nat.zero_add,wp_ld,o.r3,retL_some]
  have hb : ∀ k : AV → Lg → Prop,wpOp F (.build [.i .i64 0,.i .i64 0,.p none,.i .i64 0] [(0,1),(1,1),(3,1)]) [.i .i64 4,.i .i64 ctx,.i .i64 1] K k = k (.agg (On.cells ⟨4,ctx,none,1⟩)) K := by
    intro k; simp [fillP,splice,ble_nat,beq_nat,On.cells,ptr]
  rw [hb]
  refine addOneR (fi.r pk) fi.o o ⟨4,ctx,none,1⟩ ?_
  intro v6 K5 hv6 o6 kr
  simp only [mark_eq,wp_nilchk_p,wp_fad,Nat.zero_add,wp_st]
  rw [stL_cell kr (by simp) hv6]
  simp only [List.set_cons_succ,List.set_cons_zero]
  generalize K5.put u (.raw (.cells [sv,.i .i64 σ.x.seq,pv,v6,.i .i64 σ.named])) = K6 at o6
  have hlen := fun X k => o6.slO.len (F := F) X k
  have ho := fi.o
  have wl : wr .i64 (((σ.ones ++ [(⟨4,ctx,none,1⟩ : On)]).length : Int) - 1) = (σ.ones.length : Int) := by simp only [List.length_append,List.length_cons,List.length_nil]; rw [wr_id (by omega) (by omega)]; omega
  simp only [mark_eq,wp_nilchk_p,wp_fad,Nat.zero_add,Nat.add_zero,wp_ld,o6.r3,retL_some,hlen,wp_sub,wl]
  refine (lateR_spec hf.f63 _ _).mono ?_
  rintro _ K7 ⟨rfl,hK7⟩
  rw [hK7]
  have fi6 : RFine { σ with ones := σ.ones ++ [(⟨4,ctx,none,1⟩ : On)] } per B := ⟨fi.g,fi.b,pk⟩
  refine (tarmR hf.f70 o6 fi6 _ _ _).mono ?_
  rintro _ K8 ⟨rfl,per',sv',pv',o8,pk8⟩
  simp only [← lapse_clock,wl] at o8 pk8
  refine ⟨_,o8.shut pk8,hQ _ _ ⟨by rw [hm,wl],?_⟩⟩
  rw [hm]
  have e1 : (σ.ones ++ [(⟨4,ctx,none,0⟩ : On)]).set σ.ones.length ⟨4,ctx,none,0 + 1⟩ = σ.ones ++ [(⟨4,ctx,none,1⟩ : On)] := by simp
  simp only [Tms.armed,e1]
  rw [if_neg (by omega)]
theorem stopR_open (hf : H_f80 N F) (o : ROpen L u σ per sv pv ov K) (pk : PerOk per σ.x) {B : Int} (fi : TFine σ B) (id : Int) {w : On} (ho : σ.one id = some w) {x : Ch} (hx : x.timed = true) (hc : L.hasR u w.c x) :
    CallL F (N k_f80) [.p (some (u,0)),.i .i64 id] K fun v K' => v = .tup [.b (dropsC w.c x || (findId id σ.x.l).isSome),.i .i64 0] ∧ ∃ sv' pv',ROpen (L.putR w.c x.dropped) u { σ with x := σ.x.stop id } (rmP id per) sv' pv' ov K' := by
  refine CallL.opq ?_
  intro Q hQ
  obtain ⟨i,rfl,hi,hw,hh⟩ := on_get ho
  apply r_f80 hf.code
  unfold D_f80_1
  refine (inR_spec hf.f78 o _).mono ?_
  rintro _ K1 ⟨rfl,hK1⟩
  rw [hK1,hh]
  simp only [mark_eq,wp_not,Bool.not_true,condW_f,wp_nilchk_p,wp_fad,Nat.add_zero]
  have ll := fi.ll
  have pl := (fi.r pk).pl
  refine (tstopR hf.f68 o fi.g.nd (by omega) (by omega) _).mono ?_
  rintro _ K2 ⟨rfl,sv',pv',o2⟩
  obtain ⟨b,q,q1,q2,_⟩ := o2.slO.get (F := F) (show ({ σ with x := σ.x.stop i } : Tms).ones[i]? = some w from hw)
  have r2 : rdL K2 (b,q + 2) none = some (ptr w.c) := (q2 K2 (SubL.refl _)).1 2 (by omega)
  simp only [mark_eq,wp_nilchk_p,wp_fad,Nat.zero_add,wp_ld,o2.r3,retL_some,q1,r2]
  have hc2 : K2.hasR u w.c x := fun a ha => ⟨(hc a ha).1,o2.old a _ (hc a ha).1 (hc a ha).2⟩
  refine (dropR_spec hf.f79 hx hc2).mono ?_
  rintro _ K3 ⟨rfl,hK3⟩
  have o3 : ROpen (L.putR w.c x.dropped) u { σ with x := σ.x.stop i } (rmP i per) sv' pv' ov K3 := by
    rw [hK3]
    cases hcc : w.c with
    | none => exact o2
    | some a => exact o2.putOld (hc a hcc).1 (hc a hcc).2 _
  cases hfi : (findId (i : Int) σ.x.l).isSome with
  | true =>
    simp only [mark_eq,gdOp_tf,gdOp_tup,wp_pick_t]
    exact ⟨K3,Sees.refl _,hQ _ _ ⟨by rw [hfi]; simp,sv',pv',o3⟩⟩
  | false =>
    simp only [mark_eq,gdOp_same,wp_mv,wp_pick_f]
    exact ⟨K3,Sees.refl _,hQ _ _ ⟨by rw [hfi]; simp,sv',pv',o3⟩⟩
theorem stopR_none (hf : H_f80 N F) (e : L u = some (.abs (TmRP u σ))) (id : Int) (ho : σ.one id = none) :
    CallL F (N k_f80) [.p (some (u,0)),.i .i64 id] L fun v L' => v = .tup [.b false,.i .i64 4] ∧ L' = L := by
  refine CallL.opq ?_
  intro Q hQ
  apply CallL.openTR e
  intro per sv pv ov K o pk
  apply r_f80 hf.code
  unfold D_f80_1
  refine (inR_spec hf.f78 o _).mono ?_
  rintro _ K1 ⟨rfl,hK1⟩
  rw [hK1,one_none ho]
  simp only [mark_eq,wp_not,Bool.not_false,condW_t]
  exact ⟨L,o.back pk e,hQ _ _ ⟨rfl,rfl⟩⟩
theorem putR_comm {c : Option Nat} {x : Ch} (h : ∀ a,c = some a → a ≠ u) (d : LC) : (L.putR c x).put u d = (L.put u d).putR c x := by
  cases c with
  | none => rfl
  | some a => exact Lg.put_comm _ (h a rfl) _ _
theorem stopR_spec (hf : H_f80 N F) (e : L u = some (.abs (TmRP u σ))) {B : Int} (fi : TFine σ B) (id : Int) {w : On} (ho : σ.one id = some w) {x : Ch} (hx : x.timed = true) (hc : L.hasR u w.c x) :
    CallL F (N k_f80) [.p (some (u,0)),.i .i64 id] L fun v L' => v = .tup [.b (dropsC w.c x || (findId id σ.x.l).isSome),.i .i64 0] ∧ L' = (L.put u (.abs (TmRP u { σ with x := σ.x.stop id }))).putR w.c x.dropped := by
  apply CallL.openTR e
  intro per sv pv ov K o pk
  refine (stopR_open hf o pk fi id ho hx hc).sees ?_
  rintro _ K' ⟨rfl,sv',pv',o'⟩
  refine ⟨_,o'.shut (pk.stop fi.g.nd id),rfl,?_⟩
  exact putR_comm (fun a ha => (hc a ha).1) _
end
end Go.AM


set_option linter.unusedVariables false
set_option linter.unusedSimpArgs false
namespace Go.AM
variable {N : Nat → Nat} {F : Nat → Option AFn}
section
variable {L K : Lg} {u : Nat} {σ : Tms} {per : List (Int × Int)} {sv pv ov : AV}
theorem resetR_none (hf : H_f81 N F) (e : L u = some (.abs (TmRP u σ))) (id now d : Int) (ho : σ.one id = none) :
    CallL F (N k_f81) [.p (some (u,0)),.i .i64 id,.i .i64 now,.i .i64 d] L fun v L' => v = .tup [.b false,.i .i64 4] ∧ L' = L := by
  refine CallL.opq ?_
  intro Q hQ
  apply CallL.openTR e
  intro per sv pv ov K o pk
  apply r_f81 hf.code
  unfold D_f81_1 D_f81_5
  refine (inR_spec hf.f78 o _).mono ?_
  rintro _ K1 ⟨rfl,hK1⟩
  rw [hK1,one_none ho]
  unfold D_f81_6
  simp only [mark_eq,wp_not,Bool.not_false,condW_t]
  exact ⟨L,o.back pk e,hQ _ _ ⟨rfl,rfl⟩⟩
theorem resetR_spec (hf : H_f81 N F) (e : L u = some (.abs (TmRP u σ))) {B : Int} (fi : TFine σ B) (id now d : Int) {w : On} (ho : σ.one id = some w) (hg : 0 ≤ w.gen ∧ w.gen < 4611686018427387904) {x : Ch} (hx : x.timed = true) (hc : L.hasR u w.c x) :
    CallL F (N k_f81) [.p (some (u,0)),.i .i64 id,.i .i64 now,.i .i64 d] L fun v L' =>
      if badN now = true ∨ (w.kind = 2 ∧ d < 1) then v = .tup [.b false,.i .i64 1] ∧ L' = L
      else if w.kind = 4 then v = .tup [.b false,.i .i64 7] ∧ L' = L
      else v = .tup [.b (dropsC w.c x || (findId id σ.x.l).isSome),.i .i64 0] ∧ L' = (L.put u (.abs (TmRP u (σ.reset id w now d)))).putR w.c x.dropped := by
  refine CallL.opq ?_
  intro Q hQ
  obtain ⟨i,rfl,hi,hw,hh⟩ := on_get ho
  apply CallL.openTR e
  intro per sv pv ov K o pk
  apply r_f81 hf.code
  unfold D_f81_1 D_f81_5
  refine (inR_spec hf.f78 o _).mono ?_
  rintro _ K1 ⟨rfl,hK1⟩
  rw [hK1,hh]
  unfold D_f81_6
  have hb := o.back pk e
  have bad : badN now = true ∨ (w.kind = 2 ∧ d < 1) → fin1 (some (.tup [.b false,.i .i64 1])) Q K := fun h => ⟨L,hb,hQ _ _ (by rw [if_pos h]; exact ⟨rfl,rfl⟩)⟩
  simp only [mark_eq,wp_not,Bool.not_true,condW_f]
  by_cases c1 : now < 0
  · simp [c1]; exact bad (.inl (by simp [badN,c1]))
  by_cases c2 : 4611686018427387904 < now
  · simp [c1,c2]; exact bad (.inl (by simp [badN,c2]))
  have hbn : badN now = false := by simp [badN]; omega
  obtain ⟨b,q,q1,q2,_⟩ := o.slO.get (F := F) hw
  have r0 : rdL K (b,q) none = some (.i .i64 w.kind) := (q2 K (SubL.refl _)).1 0 (by omega)
  by_cases c4 : w.kind = 2 ∧ d < 1
  · simp only [mark_eq,wp_lss,wp_gtr,wp_eql,c1,c2,c4.1,c4.2,decide_true,decide_false,gdOp_same,wp_mv,wp_pick_t,wp_pick_f,wp_nilchk_p,wp_fad,Nat.zero_add,Nat.add_zero,wp_ld,o.r3,retL_some,q1,r0,condW_t]
    exact bad (.inr c4)
  have hno : ¬ (badN now = true ∨ (w.kind = 2 ∧ d < 1)) := by rw [hbn]; simpa using c4
  have go : ∀ P : Lg → Prop,P K → (gdOp F (.b (decide (w.kind = 2))) true .mv [.i .i64 d] K fun v15 L15 => gdOp F (.b (decide (w.kind = 2))) true (.bin .lss) [v15,(.i .i64 1)] L15 fun v16 L16 =>
      gdOp F (.b false) false .pick [.b (decide (w.kind = 2)),v16,(.b false)] L16 fun v17 L17 => wpOp F .pick [.b false,(.b true),v17] L17 fun v18 L18 => condW v18 (fin1 (some (.tup [(.b false),(.i .i64 1)])) Q L18) (P L18)) := by
    intro P hP
    by_cases k2 : w.kind = 2
    · have d1 : ¬ d < 1 := fun h9 => c4 ⟨k2,h9⟩
      simp only [mark_eq,wp_lss,k2,d1,decide_true,decide_false,gdOp_same,wp_mv,wp_pick_t,wp_pick_f,condW_f]
      exact hP
    · simp only [mark_eq,k2,decide_false,gdOp_ft,gdOp_tup,gdOp_same,wp_pick_f,condW_f]
      exact hP
  simp only [mark_eq,wp_lss,wp_gtr,wp_eql,c1,c2,decide_false,gdOp_same,wp_mv,wp_pick_t,wp_pick_f,wp_nilchk_p,wp_fad,Nat.zero_add,Nat.add_zero,wp_ld,o.r3,retL_some,q1,r0]
  have go2 := go (fun X => wpOp F .nilchk [.p (some (u,0))] X fun v19 L19 => wpOp F (.fad 3) [v19] L19 fun v20 L20 => wpOp F (.ld none) [v20] L20 fun v21 L21 => wpOp F (.iad 4) [v21,.i .i64 i] L21 fun v22 L22 => wpOp F (.fad 0) [v22] L22 fun v23 L23 => wpOp F (.ld none) [v23] L23 fun v24 L24 => wpOp F (.bin .eql) [v24,(.i .i64 4)] L24 fun v25 L25 =>
    condW v25 (fin1 (some (.tup [(.b false),(.i .i64 7)])) Q L25) (D_f81_3 F N Q (.p (some (u,0))) (.i .i64 i) (.i .i64 now) (.i .i64 d) L25))
  simp only [mark_eq,wp_nilchk_p,wp_fad,Nat.zero_add,Nat.add_zero,wp_ld,o.r3,retL_some,q1,r0,wp_eql] at go2
  refine go2 ?_
  clear go go2
  simp only [condW_d]
  refine ⟨fun k4 => ?_,fun k4 => ?_⟩
  · exact ⟨L,hb,hQ _ _ (by rw [if_neg hno,if_pos k4]; exact ⟨rfl,rfl⟩)⟩
  unfold D_f81_3
  refine (stopR_open hf.f80 o pk fi _ ho hx hc).mono ?_
  rintro _ K2 ⟨rfl,sv2,pv2,o2⟩
  simp only [mark_eq,wp_ext,List.getElem?_cons_zero,List.getElem?_cons_succ,retL_some]
  have fi2 : RFine { σ with x := σ.x.stop i } (rmP i per) B := ⟨fi.g.stop i,fi.b,pk.stop fi.g.nd i⟩
  refine (armR_spec hf.f71 o2 fi2 (i := i) (w := w) hw now d (fun h => Int.not_lt.1 (fun h9 => c4 ⟨h,h9⟩))).mono ?_
  rintro _ K3 ⟨rfl,per3',sv3,pv3,o3,pk3⟩
  have os3 : OSl K3 ov (flatc On.cells σ.ones) σ.ones.length 4 := o3.os
  obtain ⟨b3,g1,g2,g3,g4⟩ := os3.iad (F := F) (x := (i : Int)) (by omega) (by omega)
  have g4' : ∀ (X : Lg) (k : AV → Lg → Prop),wpOp F (.iad 4) [ov,.i .i64 i] X k = k (.p (some (b3,i * 4))) X := fun X k => by simpa using g4 X k .i64
  have rg : rdL K3 (b3,i * 4 + 3) none = some (.i .i64 w.gen) := by
    rw [rdL_cell g2,flatc_get (f := On.cells) (k := 4) (fun _ => rfl) σ.ones i 3 w hw (by omega)]; rfl
  have wg : wr .i64 (w.gen + 1) = w.gen + 1 := wr_id (by omega) (by omega)
  simp only [mark_eq,wp_nilchk_p,wp_fad,Nat.zero_add,wp_ld,o3.r3,retL_some,g4',rg,wp_add,wg,wp_st]
  rw [stL_cell g2 (by rw [g3]; omega) rfl]
  have o4 := o3.gen (i := i) (w := w) hw (w.gen + 1) g1
  refine ⟨_,o4.shut pk3,hQ _ _ ?_⟩
  rw [if_neg hno,if_neg k4]
  refine ⟨rfl,?_⟩
  rw [putR_comm (fun a ha => (hc a ha).1)]
  simp only [Tms.reset,Tms.armed,Int.toNat_natCast]
theorem fireR_none (hf : H_f87 N F) (e : L u = some (.abs (TmRP u σ))) {B : Int} (fi : TFine σ B) (now : Int) (hk : (σ.x.take now).2.2 = false) :
    CallL F (N k_f87) [.p (some (u,0)),.i .i64 now] L fun v L' => v = .tup [firedAV 0 0 0 0 0 (.sl none 0 0 0) false,.b false] ∧ L' = L := by
  refine CallL.opq ?_
  intro Q hQ
  apply CallL.openTR e
  intro per sv pv ov K o pk
  apply r_f87 hf.code
  unfold D_f87_1 D_f87_2
  simp only [mark_eq,wp_alloc]
  intro x4 hx4
  have n4 := o.ne hx4
  obtain ⟨K1,hK1⟩ : ∃ K1,K1 = K.put x4 (.raw (.cells [.i .i64 0,.i .i64 0,.i .i64 0,.i .i64 0,.i .i64 0,.sl none 0 0 0,.b false])) := ⟨_,rfl⟩
  obtain ⟨L1,hL1⟩ : ∃ L1,L1 = L.put x4 (.raw (.cells [.i .i64 0,.i .i64 0,.i .i64 0,.i .i64 0,.i .i64 0,.sl none 0 0 0,.b false])) := ⟨_,rfl⟩
  have o1 : ROpen L1 u σ per sv pv ov K1 := by rw [hK1,hL1]; exact o.onto hx4 _
  have l4 : L1 x4 = some (.raw (.cells [.i .i64 0,.i .i64 0,.i .i64 0,.i .i64 0,.i .i64 0,.sl none 0 0 0,.b false])) := by rw [hL1,Lg.put_same]
  have low : ∀ r d,r ≠ u → L r = some d → L1 r = some d := fun r d _ hd => by
    rw [hL1,Lg.put_ne _ _ _ (by rintro rfl; rw [n4.2.1] at hd; cases hd)]; exact hd
  rw [← hK1]
  simp only [mark_eq,wp_nilchk_p,wp_fad,Nat.add_zero]
  refine (ttakeR hf.f84 o1 (fi.r pk) now).mono ?_
  rintro _ K2 ⟨rfl,per',sv',pv',o2,pk2⟩
  have hx : (σ.x.take now).1 = σ.x ∧ (σ.x.take now).2.1 = (0,0,0) := by
    unfold Xs.take at hk ⊢
    split
    · exact ⟨rfl,rfl⟩
    · rename_i y hy
      rw [hy] at hk
      simp only at hk
      split
      · exact ⟨rfl,rfl⟩
      · rename_i h9; rw [if_neg h9] at hk; simp at hk
  rw [hx.1] at o2 pk2
  rw [hk,hx.2]
  simp only [mark_eq,retDue,wp_ext,List.getElem?_cons_zero,List.getElem?_cons_succ,retL_some,wp_alloc]
  intro x6 hx6
  rw [wp_st,stL_cells (Lg.put_same _ _ _) (by simp) (by simp) (by simp),Lg.put_put]
  have o3 := o2.sub ((SubL.refl K2).put hx6 (.raw (.cells (splice [.i .i64 0,.i .i64 0,.i .i64 0] 0 [.i .i64 0,.i .i64 0,.i .i64 0]))))
  generalize K2.put x6 (.raw (.cells (splice [.i .i64 0,.i .i64 0,.i .i64 0] 0 [.i .i64 0,.i .i64 0,.i .i64 0]))) = K3 at o3
  unfold D_f87_3
  simp [fillP]
  have k4 := o3.old x4 _ n4.1 l4
  rw [stL_cells k4 (by simp) (by simp) (by simp),res_cell_tmp _ _ (Lg.put_same _ _ _) (by simp [splice])]
  have o5 := o3.below low
  have f1 : slB sv' ≠ some x4 := fun h9 => by have := (o3.a1 x4 h9).2; rw [l4] at this; cases this
  have f2 : slB pv' ≠ some x4 := fun h9 => by have := (o3.a2 x4 h9).2.1; rw [l4] at this; cases this
  have f3 : slB ov ≠ some x4 := fun h9 => by have := (o3.a3 x4 h9).2.1; rw [l4] at this; cases this
  refine ⟨_,(o5.putX n4.1 n4.2.1 f1 f2 f3 _).back pk2 e,hQ _ _ ⟨?_,rfl⟩⟩
  simp [splice,firedAV]
theorem fireR_spec (hf : H_f87 N F) (e : L u = some (.abs (TmRP u σ))) {B : Int} (fi : TFine σ B) (now : Int) {x' : Xs} {id when : Int} (tk : σ.x.take now = (x',(id,when,now),true))
    {w : On} (ho : σ.one id = some w) {x : Ch} (hx : x.timed = true) (hl : x.vals.length ≤ x.cap) (hcp : x.cap < 1000000) (hc : L.hasR u w.c x) :
    CallL F (N k_f87) [.p (some (u,0)),.i .i64 now] L fun v L' => ∃ sl,v = .tup [firedAV id w.kind when now w.data sl (putsC w.c x now).2.2,.b true] ∧
      FreshSl ((L.put u (.abs (TmRP u { σ with x := x' }))).putR w.c (putsC w.c x now).1) sl (wkcells (putsC w.c x now).2.1) (putsC w.c x now).2.1.length 5 L' := by
  refine CallL.opq ?_
  intro Q hQ
  obtain ⟨i,rfl,hi,hw,hh⟩ := on_get ho
  apply CallL.openTR e
  intro per sv pv ov K o pk
  apply r_f87 hf.code
  unfold D_f87_1 D_f87_2
  simp only [mark_eq,wp_alloc]
  intro x4 hx4
  have n4 := o.ne hx4
  obtain ⟨K1,hK1⟩ : ∃ K1,K1 = K.put x4 (.raw (.cells [.i .i64 0,.i .i64 0,.i .i64 0,.i .i64 0,.i .i64 0,.sl none 0 0 0,.b false])) := ⟨_,rfl⟩
  obtain ⟨L1,hL1⟩ : ∃ L1,L1 = L.put x4 (.raw (.cells [.i .i64 0,.i .i64 0,.i .i64 0,.i .i64 0,.i .i64 0,.sl none 0 0 0,.b false])) := ⟨_,rfl⟩
  have o1 : ROpen L1 u σ per sv pv ov K1 := by rw [hK1,hL1]; exact o.onto hx4 _
  have l4 : L1 x4 = some (.raw (.cells [.i .i64 0,.i .i64 0,.i .i64 0,.i .i64 0,.i .i64 0,.sl none 0 0 0,.b false])) := by rw [hL1,Lg.put_same]
  have low : ∀ r d,r ≠ u → L r = some d → L1 r = some d := fun r d _ hd => by
    rw [hL1,Lg.put_ne _ _ _ (by rintro rfl; rw [n4.2.1] at hd; cases hd)]; exact hd
  rw [← hK1]
  simp only [mark_eq,wp_nilchk_p,wp_fad,Nat.add_zero]
  refine (ttakeR hf.f84 o1 (fi.r pk) now).mono ?_
  rintro _ K2 ⟨rfl,per',sv',pv',o2,pk2⟩
  rw [tk] at o2 pk2 ⊢
  simp only [mark_eq,retDue,wp_ext,List.getElem?_cons_zero,List.getElem?_cons_succ,retL_some,wp_alloc]
  intro x6 hx6
  have n6 := o2.ne hx6
  rw [wp_st,stL_cells (Lg.put_same _ _ _) (by simp) (by simp) (by simp),Lg.put_put]
  have hsp : splice [AV.i .i64 0,.i .i64 0,.i .i64 0] 0 [.i .i64 i,.i .i64 when,.i .i64 now] = [.i .i64 i,.i .i64 when,.i .i64 now] := rfl
  rw [hsp]
  have k64 : x6 ≠ x4 := by rintro rfl; have := o2.old x6 _ n4.1 l4; rw [hx6] at this; cases this
  have o3 := o2.onto hx6 (.raw (.cells [.i .i64 i,.i .i64 when,.i .i64 now]))
  have l6 : (L1.put x6 (.raw (.cells [.i .i64 i,.i .i64 when,.i .i64 now]))) x6 = some (.raw (.cells [.i .i64 i,.i .i64 when,.i .i64 now])) := Lg.put_same _ _ _
  have l46 : (L1.put x6 (.raw (.cells [.i .i64 i,.i .i64 when,.i .i64 now]))) x4 = some (.raw (.cells [.i .i64 0,.i .i64 0,.i .i64 0,.i .i64 0,.i .i64 0,.sl none 0 0 0,.b false])) := by rw [Lg.put_ne _ _ _ (Ne.symm k64)]; exact l4
  have low3 : ∀ r d,r ≠ u → L1 r = some d → (L1.put x6 (.raw (.cells [.i .i64 i,.i .i64 when,.i .i64 now]))) r = some d := fun r d _ hd => by
    rw [Lg.put_ne _ _ _ (by rintro rfl; rw [n6.2.1] at hd; cases hd)]; exact hd
  generalize K2.put x6 (.raw (.cells [.i .i64 i,.i .i64 when,.i .i64 now])) = K3 at o3
  generalize L1.put x6 (.raw (.cells [.i .i64 i,.i .i64 when,.i .i64 now])) = L3 at o3 l6 l46 low3
  clear hx6 hx4 hK1 hL1 o2 o1
  unfold D_f87_3 D_f87_4
  have k6 := o3.old x6 _ n6.1 l6
  have a0 : rdL K3 (x6,0) none = some (.i .i64 i) := by rw [rdL_cell k6]; rfl
  obtain ⟨b,q,q1,q2,_⟩ := o3.slO.get (F := F) (show ({ σ with x := x' } : Tms).ones[i]? = some w from hw)
  have rall := (q2 K3 (SubL.refl _)).2
  simp only [mark_eq,wp_not,Bool.not_true,condW_f,wp_nilchk_p,wp_fad,Nat.zero_add,Nat.add_zero,wp_ld,o3.r3,a0,retL_some,q1,rall,wp_alloc]
  intro x8 hx8
  have n8 := o3.ne hx8
  rw [wp_st,stL_cells (Lg.put_same _ _ _) (On.one4 w) (On.len4 w) (by simp),Lg.put_put]
  have hsp2 : splice [AV.i .i64 0,.i .i64 0,.p none,.i .i64 0] 0 w.cells = w.cells := rfl
  rw [hsp2]
  have k84 : x8 ≠ x4 := by rintro rfl; have := o3.old x8 _ n4.1 l46; rw [hx8] at this; cases this
  have k86 : x8 ≠ x6 := by rintro rfl; rw [k6] at hx8; cases hx8
  have o4 := o3.onto hx8 (.raw (.cells w.cells))
  have l8 : (L3.put x8 (.raw (.cells w.cells))) x8 = some (.raw (.cells w.cells)) := Lg.put_same _ _ _
  have low4 : ∀ r d,r ≠ u → L3 r = some d → (L3.put x8 (.raw (.cells w.cells))) r = some d := fun r d _ hd => by
    rw [Lg.put_ne _ _ _ (by rintro rfl; rw [n8.2.1] at hd; cases hd)]; exact hd
  generalize K3.put x8 (.raw (.cells w.cells)) = K4 at o4
  generalize L3.put x8 (.raw (.cells w.cells)) = L4 at o4 l8 low4
  have l44 := low4 x4 _ n4.1 l46
  have l64 := low4 x6 _ n6.1 l6
  have lowAll : ∀ r d,r ≠ u → L r = some d → L4 r = some d := fun r d hr hd => low4 r d hr (low3 r d hr (low r d hr hd))
  unfold D_f87_5
  have k6' := o4.old x6 _ n6.1 l64
  have k8' := o4.old x8 _ n8.1 l8
  have b0 : rdL K4 (x6,0) none = some (.i .i64 i) := by rw [rdL_cell k6']; rfl
  have b1 : rdL K4 (x6,1) none = some (.i .i64 when) := by rw [rdL_cell k6']; rfl
  have d0 : rdL K4 (x8,0) none = some (.i .i64 w.kind) := by rw [rdL_cell k8']; rfl
  have d1 : rdL K4 (x8,1) none = some (.i .i64 w.data) := by rw [rdL_cell k8']; rfl
  have d2 : rdL K4 (x8,2) none = some (ptr w.c) := by rw [rdL_cell k8']; rfl
  simp only [mark_eq,wp_fad,Nat.zero_add,Nat.add_zero,wp_ld,b0,b1,d0,d1,retL_some]
  have hb : ∀ k : AV → Lg → Prop,wpOp F (.build [.i .i64 0,.i .i64 0,.i .i64 0,.i .i64 0,.i .i64 0,.sl none 0 0 0,.b false] [(0,1),(1,1),(2,1),(3,1),(4,1)]) [.i .i64 i,.i .i64 w.kind,.i .i64 when,.i .i64 now,.i .i64 w.data] K4 k = k (.agg [.i .i64 i,.i .i64 w.kind,.i .i64 when,.i .i64 now,.i .i64 w.data,.sl none 0 0 0,.b false]) K4 := by
    intro k; simp [fillP,splice,ble_nat,beq_nat]
  rw [hb]
  simp only [mark_eq,wp_alloc]
  intro x10 hx10
  have n10 := o4.ne hx10
  rw [wp_st,stL_cells (Lg.put_same _ _ _) (by simp) (by simp) (by simp),Lg.put_put,splice_7]
  have k10 : ∀ {r : Nat} {d : LC},r ≠ u → L4 r = some d → x10 ≠ r := fun hr hd => by rintro rfl; rw [n10.2.1] at hd; cases hd
  have o5 := o4.onto hx10 (.raw (.cells [.i .i64 i,.i .i64 w.kind,.i .i64 when,.i .i64 now,.i .i64 w.data,.sl none 0 0 0,.b false]))
  have l10 : (L4.put x10 (.raw (.cells [.i .i64 i,.i .i64 w.kind,.i .i64 when,.i .i64 now,.i .i64 w.data,.sl none 0 0 0,.b false]))) x10 = some (.raw (.cells [.i .i64 i,.i .i64 w.kind,.i .i64 when,.i .i64 now,.i .i64 w.data,.sl none 0 0 0,.b false])) := Lg.put_same _ _ _
  have low5 : ∀ r d,r ≠ u → L4 r = some d → (L4.put x10 (.raw (.cells [.i .i64 i,.i .i64 w.kind,.i .i64 when,.i .i64 now,.i .i64 w.data,.sl none 0 0 0,.b false]))) r = some d := fun r d _ hd => by
    rw [Lg.put_ne _ _ _ (by rintro rfl; rw [n10.2.1] at hd; cases hd)]; exact hd
  generalize K4.put x10 (.raw (.cells [.i .i64 i,.i .i64 w.kind,.i .i64 when,.i .i64 now,.i .i64 w.data,.sl none 0 0 0,.b false])) = K5 at o5
  generalize L4.put x10 (.raw (.cells [.i .i64 i,.i .i64 w.kind,.i .i64 when,.i .i64 now,.i .i64 w.data,.sl none 0 0 0,.b false])) = L5 at o5 l10 low5
  have l45 := low5 x4 _ n4.1 l44
  have k8'' := o5.old x8 _ n8.1 (low5 x8 _ n8.1 l8)
  have e2 : rdL K5 (x8,2) none = some (ptr w.c) := by rw [rdL_cell k8'']; rfl
  have lowA : ∀ r d,r ≠ u → L r = some d → L5 r = some d := fun r d hr hd => low5 r d hr (lowAll r d hr hd)
  have lx4 : L x4 = none := n4.2.1
  have sub0 : ∀ {r : Nat} {P : LC},r ≠ u → L r = some P → r ≠ x4 ∧ r ≠ x10 := fun hr hd => ⟨(by rintro rfl; rw [lx4] at hd; cases hd),fun h9 => by rw [h9] at hd; exact absurd (lowAll x10 _ n10.1 hd) (by rw [n10.2.1]; simp)⟩
  have fin : ∀ (L0 : Lg) (sl : AV) (kept : Bool) (K' Lb : Lg),ROpen Lb u { σ with x := x' } per' sv' pv' ov K' → Lb x4 = some (.raw (.cells [.i .i64 0,.i .i64 0,.i .i64 0,.i .i64 0,.i .i64 0,.sl none 0 0 0,.b false])) →
      Lb x10 = some (.raw (.cells [.i .i64 i,.i .i64 w.kind,.i .i64 when,.i .i64 now,.i .i64 w.data,sl,.b kept])) → (∀ r d,r ≠ u → L0 r = some d → r ≠ x4 ∧ Lb r = some d) → sl.one = true → kept = (putsC w.c x now).2.2 →
      FreshSl ((L.put u (.abs (TmRP u { σ with x := x' }))).putR w.c (putsC w.c x now).1) sl (wkcells (putsC w.c x now).2.1) (putsC w.c x now).2.1.length 5 (L0.put u (.abs (TmRP u { σ with x := x' }))) →
      (wpOp F (.ld (some 7)) [.p (some (x10,0))] K' fun v26 L26 => wpOp F (.st 7) [.p (some (x4,0)),v26] L26 fun _ L27 => fin1 (resVL Env.nil Env.nil L27 [.cell (.c (.p (some (x4,0)))) (some 7),.tmp (.c (.b true))]) Q L27) := by
    intro L0 sl kept K' Lb o' h4 h10 hL0 hone hk hfs
    have r10 : rdL K' (x10,0) (some 7) = some (.agg [.i .i64 i,.i .i64 w.kind,.i .i64 when,.i .i64 now,.i .i64 w.data,sl,.b kept]) := by
      rw [rdL_cells (o'.old x10 _ n10.1 h10) (by simp)]; rfl
    simp only [mark_eq,wp_ld,r10,retL_some]
    rw [wp_st,stL_cells (o'.old x4 _ n4.1 h4) (by simp [hone]) (by simp) (by simp),res_cell_tmp _ _ (Lg.put_same _ _ _) (by simp [splice])]
    have o'' := (o'.putOld n4.1 h4 (.raw (.cells (splice [.i .i64 0,.i .i64 0,.i .i64 0,.i .i64 0,.i .i64 0,.sl none 0 0 0,.b false] 0 [.i .i64 i,.i .i64 w.kind,.i .i64 when,.i .i64 now,.i .i64 w.data,sl,.b kept])))).below (L0 := L0) (fun r d hr hd => by rw [Lg.put_ne _ _ _ (hL0 r d hr hd).1]; exact (hL0 r d hr hd).2)
    refine ⟨_,o''.shut pk2,hQ _ _ ⟨sl,?_,hfs⟩⟩
    rw [splice_7,hk]; rfl
  simp only [mark_eq,wp_fad,Nat.zero_add,wp_ld,e2,retL_some]
  cases hcc : w.c with
  | none =>
    simp only [mark_eq,ptr,Option.map_none,wp_eqp_nn,Bool.not_true,condW_f]
    refine fin L (.sl none 0 0 0) false K5 L5 o5 l45 l10 (fun r d hr hd => ⟨(sub0 hr hd).1,lowA r d hr hd⟩) rfl (by rw [hcc]; rfl) ?_
    rw [hcc]
    exact .inl ⟨rfl,rfl,rfl,rfl⟩
  | some a =>
    have ha := hc a hcc
    have ha5 := lowA a _ ha.1 ha.2
    have hcK : K5.hasR u (some a) x := fun q hq => by cases hq; exact ⟨ha.1,o5.old a _ ha.1 ha5⟩
    have na4 : a ≠ x4 := (sub0 ha.1 ha.2).1
    have na10 : a ≠ x10 := (sub0 ha.1 ha.2).2
    rw [hcc] at e2
    simp only [ptr,Option.map_some] at e2
    simp only [mark_eq,ptr,Option.map_some,wp_eqp_sn,condW_t,wp_fad,Nat.zero_add,wp_ld,e2,retL_some]
    refine (putR_spec hf.f86 hx hl hcp hcK now).mono ?_
    rintro _ K6 ⟨sl,rfl,hfs⟩
    have o6 := o5.putOld ha.1 ha5 (.abs (ChRP a (putsC (some a) x now).1))
    have l4a : (L5.put a (.abs (ChRP a (putsC (some a) x now).1))) x4 = some (.raw (.cells [.i .i64 0,.i .i64 0,.i .i64 0,.i .i64 0,.i .i64 0,.sl none 0 0 0,.b false])) := by rw [Lg.put_ne _ _ _ (Ne.symm na4)]; exact l45
    have l10a : (L5.put a (.abs (ChRP a (putsC (some a) x now).1))) x10 = some (.raw (.cells [.i .i64 i,.i .i64 w.kind,.i .i64 when,.i .i64 now,.i .i64 w.data,.sl none 0 0 0,.b false])) := by rw [Lg.put_ne _ _ _ (Ne.symm na10)]; exact l10
    have lowa : ∀ r d,r ≠ u → (L.put a (.abs (ChRP a (putsC (some a) x now).1))) r = some d → r ≠ x4 ∧ r ≠ x10 ∧ (L5.put a (.abs (ChRP a (putsC (some a) x now).1))) r = some d := by
      intro r d hr hd
      rw [Lg.put_apply] at hd ⊢
      by_cases h9 : r = a
      · rw [if_pos h9] at hd ⊢; exact ⟨by rw [h9]; exact na4,by rw [h9]; exact na10,hd⟩
      · rw [if_neg h9] at hd ⊢; exact ⟨(sub0 hr hd).1,(sub0 hr hd).2,lowA r d hr hd⟩
    -- whatever slice came
    have tail : ∀ (L0 Lb : Lg),ROpen Lb u { σ with x := x' } per' sv' pv' ov K6 → Lb x4 = some (.raw (.cells [.i .i64 0,.i .i64 0,.i .i64 0,.i .i64 0,.i .i64 0,.sl none 0 0 0,.b false])) →
        Lb x10 = some (.raw (.cells [.i .i64 i,.i .i64 w.kind,.i .i64 when,.i .i64 now,.i .i64 w.data,.sl none 0 0 0,.b false])) → (∀ r d,r ≠ u → L0 r = some d → r ≠ x4 ∧ r ≠ x10 ∧ Lb r = some d) → sl.cellsOf = some [sl] →
        FreshSl ((L.put u (.abs (TmRP u { σ with x := x' }))).putR w.c (putsC w.c x now).1) sl (wkcells (putsC w.c x now).2.1) (putsC w.c x now).2.1.length 5 (L0.put u (.abs (TmRP u { σ with x := x' }))) →
        (wpOp F (.ext 0) [.tup [sl,.b (putsC (some a) x now).2.2]] K6 fun v18 L18 => wpOp F (.ext 1) [.tup [sl,.b (putsC (some a) x now).2.2]] L18 fun v19 L19 => wpOp F (.fad 5) [.p (some (x10,0))] L19 fun v20 L20 => wpOp F (.st 1) [v20,v18] L20 fun _ L21 =>
          wpOp F (.fad 6) [.p (some (x10,0))] L21 fun v22 L22 => wpOp F (.st 1) [v22,v19] L22 fun _ L23 => wpOp F (.ld (some 7)) [.p (some (x10,0))] L23 fun v24 L24 => wpOp F (.st 7) [.p (some (x4,0)),v24] L24 fun _ L25 =>
          fin1 (resVL Env.nil Env.nil L25 [.cell (.c (.p (some (x4,0)))) (some 7),.tmp (.c (.b true))]) Q L25) := by
      intro L0 Lb o' h4 h10 hL0 hsl hfr
      simp only [mark_eq,wp_ext,List.getElem?_cons_zero,List.getElem?_cons_succ,retL_some,wp_fad,Nat.zero_add,wp_st]
      rw [stL_cell (o'.old x10 _ n10.1 h10) (by simp) hsl]
      simp only [mark_eq,wp_fad,Nat.zero_add,wp_st]
      rw [stL_cell (Lg.put_same _ _ _) (by simp) rfl,Lg.put_put]
      have o9 := o'.putOld n10.1 h10 (.raw (.cells [.i .i64 i,.i .i64 w.kind,.i .i64 when,.i .i64 now,.i .i64 w.data,sl,.b (putsC (some a) x now).2.2]))
      have h410 : x4 ≠ x10 := Ne.symm (k10 n4.1 l44)
      refine fin L0 sl _ _ _ o9 (by rw [Lg.put_ne _ _ _ h410]; exact h4) (Lg.put_same _ _ _) (fun r d hr hd => ⟨(hL0 r d hr hd).1,by rw [Lg.put_ne _ _ _ (hL0 r d hr hd).2.1]; exact (hL0 r d hr hd).2.2⟩) (by have := cellsOf_one hsl; simpa using this) (by rw [hcc]) hfr
    rcases hfs with ⟨f1,f2,f3,f4⟩ | ⟨b1,ex,f1,f2,f3,f4,f5⟩
    · subst f4 f3
      refine tail (L.put a (.abs (ChRP a (putsC (some a) x now).1))) _ o6 l4a l10a lowa rfl ?_
      rw [hcc]
      exact .inl ⟨f1,f2,rfl,Lg.put_comm _ ha.1 _ _⟩
    · subst f5 f3
      simp only [Lg.putR] at f1
      have nb := o6.ne f1
      have o7 := o6.onto f1 (.raw (.cells (wkcells (putsC (some a) x now).2.1)))
      have nb4 : x4 ≠ b1 := by rintro rfl; rw [nb.2.1] at l4a; cases l4a
      have nb10 : x10 ≠ b1 := by rintro rfl; rw [nb.2.1] at l10a; cases l10a
      refine tail ((L.put a (.abs (ChRP a (putsC (some a) x now).1))).put b1 (.raw (.cells (wkcells (putsC (some a) x now).2.1)))) _ o7 (by rw [Lg.put_ne _ _ _ nb4]; exact l4a) (by rw [Lg.put_ne _ _ _ nb10]; exact l10a) ?_ rfl ?_
      · intro r d hr hd
        rw [Lg.put_apply] at hd ⊢
        by_cases h9 : r = b1
        · rw [if_pos h9] at hd ⊢; exact ⟨by rw [h9]; exact Ne.symm nb4,by rw [h9]; exact Ne.symm nb10,hd⟩
        · rw [if_neg h9] at hd ⊢; exact lowa r d hr hd
      · rw [hcc]
        refine .inr ⟨b1,ex,?_,f2,rfl,f4,?_⟩
        · simp only [Lg.putR]
          have : (L.put a (.abs (ChRP a (putsC (some a) x now).1))) b1 = none := by
            cases h : (L.put a (.abs (ChRP a (putsC (some a) x now).1))) b1 with
            | none => rfl
            | some d => have := (lowa b1 d nb.1 h).2.2; rw [nb.2.1] at this; cases this
          rw [← Lg.put_comm _ ha.1,Lg.put_ne _ _ _ nb.1]; exact this
        · simp only [Lg.putR]
          rw [Lg.put_comm _ nb.1,← Lg.put_comm _ ha.1]
theorem chanR_spec (hf : H_f92 N F) (e : L u = some (.abs (TmRP u σ))) (id : Int) : CallL F (N k_f92) [.p (some (u,0)),.i .i64 id] L fun v L' => v = (match σ.one id with | some o => ptr o.c | none => .p none) ∧ L' = L := by
  refine CallL.opq ?_
  intro Q hQ
  apply CallL.openTR e
  intro per sv pv ov K o pk
  apply r_f92 hf.code
  unfold D_f92_1
  refine (inR_spec hf.f78 o _).mono ?_
  rintro _ K1 ⟨rfl,hK1⟩
  rw [hK1]
  cases ho : σ.one id with
  | none =>
    rw [one_none ho]
    simp only [mark_eq,wp_not,Bool.not_false,condW_t]
    exact ⟨L,o.back pk e,hQ _ _ ⟨by rw [ho],rfl⟩⟩
  | some w =>
    obtain ⟨i,rfl,hi,hw,hh⟩ := on_get ho
    obtain ⟨b,q,q1,q2,_⟩ := o.slO.get (F := F) hw
    have r0 : rdL K (b,q + 2) none = some (ptr w.c) := (q2 K (SubL.refl _)).1 2 (by omega)
    rw [hh]
    simp only [mark_eq,wp_not,Bool.not_true,condW_f,wp_nilchk_p,wp_fad,Nat.zero_add,Nat.add_zero,wp_ld,o.r3,retL_some,q1,r0]
    exact ⟨L,o.back pk e,hQ _ _ ⟨by rw [ho],rfl⟩⟩
end
end Go.AM


set_option linter.unusedVariables false
set_option linter.unusedSimpArgs false
namespace Go.AM
variable {N : Nat → Nat} {F : Nat → Option AFn}
theorem CallL.outO {f : Nat} {vs : List AV} {L : Lg} {Q Q' : AV → Lg → Prop} (h : CallL F f vs L Q) (hq : ∀ v L',Q v L' → ∃ r P,L' r = some (.abs P) ∧ ∀ hm,P hm → ∃ M : Lg,Sat M hm ∧ M r ≠ none ∧ ((∀ b c,M b = some c → b ≠ r → L' b = none) → Q' v (M.over L'))) : CallL F f vs L Q' := by
  intro S m
  obtain ⟨n,v,S',h1,L',h2,h3⟩ := h S m
  obtain ⟨r,P,e,hh⟩ := hq v L' h3
  obtain ⟨hm,hP,hM⟩ := h2.unfold e
  obtain ⟨M,hs,hr,hc⟩ := hh hm hP
  obtain ⟨m1,hf⟩ := hM M hs
  exact ⟨n,v,S',h1,M.over L',by rw [← over_del M L' hr]; exact m1,hc hf⟩
theorem CallL.viaR {f : Nat} {vs : List AV} {Lb K : Lg} {u : Nat} {ρ : Tms} {per : List (Int × Int)} {sv pv ov : AV} {Q Q' : AV → Lg → Prop} (o : ROpen Lb u ρ per sv pv ov K) (pk : PerOk per ρ.x)
    (h : CallL F f vs (Lb.put u (.abs (TmRP u ρ))) Q) (hq : ∀ v L',Q v L' → ∃ ρ',L' u = some (.abs (TmRP u ρ')) ∧ ∀ per' sv' pv' ov' K',ROpen L' u ρ' per' sv' pv' ov' K' → PerOk per' ρ'.x → Q' v K') : CallL F f vs K Q' := by
  refine CallL.pre (o.shut pk) (h.outO ?_)
  intro v L' hv
  obtain ⟨ρ',e,hh⟩ := hq v L' hv
  refine ⟨u,_,e,?_⟩
  rintro hm ⟨per',sv',pv',ov',M,o',pk',hs⟩
  refine ⟨M,hs,by rw [o'.root]; simp,fun hf => ?_⟩
  have hi : ∀ b d,M b = some d → (M.over L') b = some d := fun b d h => by simp [Lg.over,h]
  have sb : ∀ {v : AV} {cs : List AV} {n z : Nat},OSe M v cs n z → OSe (M.over L') v cs n z := fun h => h.sub fun b d _ hd => hi b d hd
  refine hh per' sv' pv' ov' (M.over L') ⟨hi _ _ o'.root,sb o'.hs,sb o'.ps,o'.os.sub fun b d _ hd => hi b d hd,fun b hb => ⟨(o'.a1 b hb).1,hf b _ (o'.hs.block hb) (o'.a1 b hb).1⟩,fun b hb => ⟨(o'.a2 b hb).1,hf b _ (o'.ps.block hb) (o'.a2 b hb).1,(o'.a2 b hb).2.2⟩,
    fun b hb => ⟨(o'.a3 b hb).1,hf b _ (o'.os.block hb) (o'.a3 b hb).1,(o'.a3 b hb).2.2⟩,fun r d hr hd => ?_⟩ pk'
  have : M r = none := by
    cases h : M r with
    | none => rfl
    | some e => have := hf r e h hr; rw [hd] at this; cases this
  simp [Lg.over,this,hd]
def updN (χ : Nat → Ch) (i : Nat) (y : Ch) (j : Nat) : Ch := if j = i then y else χ j
structure TA (L0 Lb : Lg) (b s u : Nat) (now : Int) (σ ρ : Tms) (χ ψ : Nat → Ch) : Prop where
  bed : Lb b = some (.raw (.cells [.p (some (s,0)),.p (some (u,0)),.i .i64 now]))
  bu : b ≠ u
  set : Lb s = some (.abs (SetP s σ))
  su : s ≠ u
  ch : ∀ (i : Nat) (w : On) (a : Nat),σ.ones[i]? = some w → w.c = some a → a ≠ u ∧ a ≠ s ∧ Lb a = some (.abs (ChanP a (χ i)))
  ch' : ∀ (i : Nat) (w : On) (a : Nat),ρ.ones[i]? = some w → w.c = some a → a ≠ u ∧ a ≠ s ∧ Lb a = some (.abs (ChRP a (ψ i)))
  d1 : ∀ (i j : Nat) (w w' : On) (a : Nat),σ.ones[i]? = some w → σ.ones[j]? = some w' → w.c = some a → w'.c = some a → i = j
  d2 : ∀ (i j : Nat) (w w' : On) (a : Nat),ρ.ones[i]? = some w → ρ.ones[j]? = some w' → w.c = some a → w'.c = some a → i = j
  d3 : ∀ (i j : Nat) (w w' : On) (a : Nat),σ.ones[i]? = some w → ρ.ones[j]? = some w' → w.c = some a → w'.c = some a → False
  keep : ∀ (q : Nat) (x : AB),q ≠ u → q ≠ b → L0 q = some (.raw x) → Lb q = some (.raw x)
section
variable {L0 Lb : Lg} {b s u : Nat} {now : Int} {σ ρ : Tms} {χ ψ : Nat → Ch}
theorem TA.keepA (t : TA L0 Lb b s u now σ ρ χ ψ) {q : Nat} {x : AB} (h1 : q ≠ u) (h2 : q ≠ b) (h3 : L0 q = some (.raw x)) {a : Nat} {P : Hp → Prop} (ha : Lb a = some (.abs P)) (d : LC) : (Lb.put a d) q = some (.raw x) := by
  have := t.keep q x h1 h2 h3
  rw [Lg.put_ne _ _ _ (by rintro rfl; rw [this] at ha; cases ha)]; exact this
theorem TA.mono (t : TA L0 Lb b s u now σ ρ χ ψ) {L1 : Lg} (h : ∀ (q : Nat) (x : AB),q ≠ u → q ≠ b → L1 q = some (.raw x) → Lb q = some (.raw x)) : TA L1 Lb b s u now σ ρ χ ψ :=
  ⟨t.bed,t.bu,t.set,t.su,t.ch,t.ch',t.d1,t.d2,t.d3,h⟩
theorem TA.junk (t : TA L0 Lb b s u now σ ρ χ ψ) {x : Nat} (hx : x = u ∨ Lb x = none) (d : LC) : TA L0 (Lb.put x d) b s u now σ ρ χ ψ := by
  have ne : ∀ {r : Nat} {P : LC},r ≠ u → Lb r = some P → (Lb.put x d) r = some P := fun {r P} hr h => by
    rw [Lg.put_ne]; exact h
    rintro rfl; rcases hx with h9 | h9
    · exact hr h9
    · rw [h9] at h; cases h
  exact ⟨ne t.bu t.bed,t.bu,ne t.su t.set,t.su,fun i w a h1 h2 => ⟨(t.ch i w a h1 h2).1,(t.ch i w a h1 h2).2.1,ne (t.ch i w a h1 h2).1 (t.ch i w a h1 h2).2.2⟩,fun i w a h1 h2 => ⟨(t.ch' i w a h1 h2).1,(t.ch' i w a h1 h2).2.1,ne (t.ch' i w a h1 h2).1 (t.ch' i w a h1 h2).2.2⟩,t.d1,t.d2,t.d3,fun q x h1 h2 h3 => ne h1 (t.keep q x h1 h2 h3)⟩
theorem TA.bs (t : TA L0 Lb b s u now σ ρ χ ψ) : b ≠ s := by rintro rfl; have := t.set; rw [t.bed] at this; cases this
theorem TA.ba (t : TA L0 Lb b s u now σ ρ χ ψ) {a : Nat} {P : Hp → Prop} (h : Lb a = some (.abs P)) : b ≠ a := by rintro rfl; rw [t.bed] at h; cases h
theorem TA.putNow (t : TA L0 Lb b s u now σ ρ χ ψ) (now' : Int) : TA L0 (Lb.put b (.raw (.cells [.p (some (s,0)),.p (some (u,0)),.i .i64 now']))) b s u now' σ ρ χ ψ := by
  refine ⟨Lg.put_same _ _ _,t.bu,by rw [Lg.put_ne _ _ _ (Ne.symm t.bs)]; exact t.set,t.su,fun i w a h1 h2 => ?_,fun i w a h1 h2 => ?_,t.d1,t.d2,t.d3,fun q x h1 h2 h3 => by rw [Lg.put_ne _ _ _ h2]; exact t.keep q x h1 h2 h3⟩
  · obtain ⟨g1,g2,g3⟩ := t.ch i w a h1 h2
    exact ⟨g1,g2,by rw [Lg.put_ne _ _ _ (Ne.symm (t.ba g3))]; exact g3⟩
  · obtain ⟨g1,g2,g3⟩ := t.ch' i w a h1 h2
    exact ⟨g1,g2,by rw [Lg.put_ne _ _ _ (Ne.symm (t.ba g3))]; exact g3⟩
theorem TA.putS (t : TA L0 Lb b s u now σ ρ χ ψ) (σ' : Tms) (hc : ∀ (i : Nat) (w' : On) (a : Nat),σ'.ones[i]? = some w' → w'.c = some a → ∃ w,σ.ones[i]? = some w ∧ w.c = some a) : TA L0 (Lb.put s (.abs (SetP s σ'))) b s u now σ' ρ χ ψ := by
  refine ⟨by rw [Lg.put_ne _ _ _ t.bs]; exact t.bed,t.bu,Lg.put_same _ _ _,t.su,fun i w a h1 h2 => ?_,fun i w a h1 h2 => ?_,fun i j w w' a h1 h2 h3 h4 => ?_,t.d2,fun i j w w' a h1 h2 h3 h4 => ?_,fun q x h1 h2 h3 => t.keepA h1 h2 h3 t.set _⟩
  · obtain ⟨w0,g1,g2⟩ := hc i w a h1 h2
    obtain ⟨k1,k2,k3⟩ := t.ch i w0 a g1 g2
    exact ⟨k1,k2,by rw [Lg.put_ne _ _ _ k2]; exact k3⟩
  · obtain ⟨k1,k2,k3⟩ := t.ch' i w a h1 h2
    exact ⟨k1,k2,by rw [Lg.put_ne _ _ _ k2]; exact k3⟩
  · obtain ⟨w0,g1,g2⟩ := hc i w a h1 h3
    obtain ⟨w1,g3,g4⟩ := hc j w' a h2 h4
    exact t.d1 i j w0 w1 a g1 g3 g2 g4
  · obtain ⟨w0,g1,g2⟩ := hc i w a h1 h3
    exact t.d3 i j w0 w' a g1 h2 g2 h4
theorem TA.setR (t : TA L0 Lb b s u now σ ρ χ ψ) (ρ' : Tms) (hc : ∀ (i : Nat) (w' : On) (a : Nat),ρ'.ones[i]? = some w' → w'.c = some a → ∃ w,ρ.ones[i]? = some w ∧ w.c = some a) : TA L0 Lb b s u now σ ρ' χ ψ := by
  refine ⟨t.bed,t.bu,t.set,t.su,t.ch,fun i w a h1 h2 => ?_,t.d1,fun i j w w' a h1 h2 h3 h4 => ?_,fun i j w w' a h1 h2 h3 h4 => ?_,t.keep⟩
  · obtain ⟨w0,g1,g2⟩ := hc i w a h1 h2
    exact t.ch' i w0 a g1 g2
  · obtain ⟨w0,g1,g2⟩ := hc i w a h1 h3
    obtain ⟨w1,g3,g4⟩ := hc j w' a h2 h4
    exact t.d2 i j w0 w1 a g1 g3 g2 g4
  · obtain ⟨w1,g3,g4⟩ := hc j w' a h2 h4
    exact t.d3 i j w w1 a h1 g3 h3 g4
theorem TA.putC (t : TA L0 Lb b s u now σ ρ χ ψ) {i : Nat} {w : On} (hw : σ.ones[i]? = some w) (y : Ch) : TA L0 (Lb.putC w.c y) b s u now σ ρ (updN χ i y) ψ := by
  cases hc : w.c with
  | none =>
    refine ⟨t.bed,t.bu,t.set,t.su,fun j w' a h1 h2 => ?_,t.ch',t.d1,t.d2,t.d3,t.keep⟩
    have hj : j ≠ i := by rintro rfl; rw [hw] at h1; cases h1; rw [hc] at h2; cases h2
    simp only [updN,hj,if_false]
    exact t.ch j w' a h1 h2
  | some a =>
    obtain ⟨g1,g2,g3⟩ := t.ch i w a hw hc
    refine ⟨by simp only [Lg.putC]; rw [Lg.put_ne _ _ _ (t.ba g3)]; exact t.bed,t.bu,by simp only [Lg.putC]; rw [Lg.put_ne _ _ _ (Ne.symm g2)]; exact t.set,t.su,fun j w' a' h1 h2 => ?_,fun j w' a' h1 h2 => ?_,t.d1,t.d2,t.d3,fun q x h1 h2 h3 => t.keepA h1 h2 h3 g3 _⟩
    · obtain ⟨k1,k2,k3⟩ := t.ch j w' a' h1 h2
      refine ⟨k1,k2,?_⟩
      simp only [Lg.putC]
      by_cases hj : j = i
      · subst hj
        rw [hw] at h1; cases h1
        rw [hc] at h2; cases h2
        rw [Lg.put_same]; simp [updN]
      · have : a' ≠ a := by rintro rfl; exact hj (t.d1 j i w' w a' h1 hw h2 hc)
        rw [Lg.put_ne _ _ _ this,k3]; simp [updN,hj]
    · obtain ⟨k1,k2,k3⟩ := t.ch' j w' a' h1 h2
      refine ⟨k1,k2,?_⟩
      have : a' ≠ a := by rintro rfl; exact t.d3 i j w w' a' hw h1 hc h2
      simp only [Lg.putC]
      rw [Lg.put_ne _ _ _ this]; exact k3
theorem TA.putR (t : TA L0 Lb b s u now σ ρ χ ψ) {i : Nat} {w : On} (hw : ρ.ones[i]? = some w) (y : Ch) : TA L0 (Lb.putR w.c y) b s u now σ ρ χ (updN ψ i y) := by
  cases hc : w.c with
  | none =>
    refine ⟨t.bed,t.bu,t.set,t.su,t.ch,fun j w' a h1 h2 => ?_,t.d1,t.d2,t.d3,t.keep⟩
    have hj : j ≠ i := by rintro rfl; rw [hw] at h1; cases h1; rw [hc] at h2; cases h2
    simp only [updN,hj,if_false]
    exact t.ch' j w' a h1 h2
  | some a =>
    obtain ⟨g1,g2,g3⟩ := t.ch' i w a hw hc
    refine ⟨by simp only [Lg.putR]; rw [Lg.put_ne _ _ _ (t.ba g3)]; exact t.bed,t.bu,by simp only [Lg.putR]; rw [Lg.put_ne _ _ _ (Ne.symm g2)]; exact t.set,t.su,fun j w' a' h1 h2 => ?_,fun j w' a' h1 h2 => ?_,t.d1,t.d2,t.d3,fun q x h1 h2 h3 => t.keepA h1 h2 h3 g3 _⟩
    · obtain ⟨k1,k2,k3⟩ := t.ch j w' a' h1 h2
      refine ⟨k1,k2,?_⟩
      have : a' ≠ a := by rintro rfl; exact t.d3 j i w' w a' h1 hw h2 hc
      simp only [Lg.putR]
      rw [Lg.put_ne _ _ _ this]; exact k3
    · obtain ⟨k1,k2,k3⟩ := t.ch' j w' a' h1 h2
      refine ⟨k1,k2,?_⟩
      simp only [Lg.putR]
      by_cases hj : j = i
      · subst hj
        rw [hw] at h1; cases h1
        rw [hc] at h2; cases h2
        rw [Lg.put_same]; simp [updN]
      · have : a' ≠ a := by rintro rfl; exact hj (t.d2 j i w' w a' h1 hw h2 hc)
        rw [Lg.put_ne _ _ _ this,k3]; simp [updN,hj]
theorem push_get {l : List On} {w w' : On} {i : Nat} (h : (l ++ [w])[i]? = some w') : (i = l.length ∧ w' = w) ∨ (i < l.length ∧ l[i]? = some w') := by
  by_cases hi : i < l.length
  · rw [List.getElem?_append_left hi] at h; exact .inr ⟨hi,h⟩
  · rw [List.getElem?_append_right (by omega)] at h
    have h1 := (List.getElem?_eq_some_iff.1 h).1
    simp at h1
    have e : i - l.length = 0 := by omega
    rw [e] at h; simp at h
    exact .inl ⟨by omega,h.symm⟩
theorem TA.newC (t : TA L0 Lb b s u now σ ρ χ ψ) {σ' : Tms} {w : On} (ho : σ'.ones = σ.ones ++ [w]) {a : Nat} (hc : w.c = some a) (ha : Lb a = none) (hu : a ≠ u) (y : Ch) :
    TA L0 ((Lb.put s (.abs (SetP s σ'))).put a (.abs (ChanP a y))) b s u now σ' ρ (updN χ σ.ones.length y) ψ := by
  have ne : ∀ {r : Nat} {P : LC},Lb r = some P → r ≠ a := fun {r P} h => by rintro rfl; rw [ha] at h; cases h
  have has : a ≠ s := fun h9 => by rw [h9,t.set] at ha; cases ha
  refine ⟨by rw [Lg.put_ne _ _ _ (ne t.bed),Lg.put_ne _ _ _ t.bs]; exact t.bed,t.bu,by rw [Lg.put_ne _ _ _ (Ne.symm has),Lg.put_same],t.su,fun i w' a' h1 h2 => ?_,fun i w' a' h1 h2 => ?_,fun i j w1 w2 a' h1 h2 h3 h4 => ?_,t.d2,fun i j w1 w2 a' h1 h2 h3 h4 => ?_,fun q x h1 h2 h3 => by rw [Lg.put_ne _ _ _ (ne (t.keep q x h1 h2 h3))]; exact t.keepA h1 h2 h3 t.set _⟩
  · rw [ho] at h1
    rcases push_get h1 with ⟨rfl,rfl⟩ | ⟨hi,h1⟩
    · rw [hc] at h2; cases h2
      exact ⟨hu,has,by rw [Lg.put_same]; simp [updN]⟩
    · obtain ⟨k1,k2,k3⟩ := t.ch i w' a' h1 h2
      refine ⟨k1,k2,?_⟩
      have hi' : ¬ i = σ.ones.length := by omega
      rw [Lg.put_ne _ _ _ (ne k3),Lg.put_ne _ _ _ k2,k3]; simp [updN,hi']
  · obtain ⟨k1,k2,k3⟩ := t.ch' i w' a' h1 h2
    exact ⟨k1,k2,by rw [Lg.put_ne _ _ _ (ne k3),Lg.put_ne _ _ _ k2,k3]⟩
  · rw [ho] at h1 h2
    rcases push_get h1 with ⟨rfl,rfl⟩ | ⟨hi,h1'⟩ <;> rcases push_get h2 with ⟨rfl,rfl⟩ | ⟨hj,h2'⟩
    · rfl
    · rw [hc] at h3; cases h3
      exact absurd rfl (ne (t.ch j w2 _ h2' h4).2.2)
    · rw [hc] at h4; cases h4
      exact absurd rfl (ne (t.ch i w1 _ h1' h3).2.2)
    · exact t.d1 i j w1 w2 a' h1' h2' h3 h4
  · rw [ho] at h1
    rcases push_get h1 with ⟨rfl,rfl⟩ | ⟨hi,h1⟩
    · rw [hc] at h3; cases h3
      exact absurd rfl (ne (t.ch' j w2 _ h2 h4).2.2)
    · exact t.d3 i j w1 w2 a' h1 h2 h3 h4
theorem TA.newR (t : TA L0 Lb b s u now σ ρ χ ψ) {ρ' : Tms} {w : On} (ho : ρ'.ones = ρ.ones ++ [w]) {a : Nat} (hc : w.c = some a) (ha : Lb a = none) (hu : a ≠ u) (y : Ch) :
    TA L0 (Lb.put a (.abs (ChRP a y))) b s u now σ ρ' χ (updN ψ ρ.ones.length y) := by
  have ne : ∀ {r : Nat} {P : LC},Lb r = some P → r ≠ a := fun {r P} h => by rintro rfl; rw [ha] at h; cases h
  have has : a ≠ s := fun h9 => by rw [h9,t.set] at ha; cases ha
  refine ⟨by rw [Lg.put_ne _ _ _ (ne t.bed)]; exact t.bed,t.bu,by rw [Lg.put_ne _ _ _ (Ne.symm has)]; exact t.set,t.su,fun i w' a' h1 h2 => ?_,fun i w' a' h1 h2 => ?_,t.d1,fun i j w1 w2 a' h1 h2 h3 h4 => ?_,fun i j w1 w2 a' h1 h2 h3 h4 => ?_,fun q x h1 h2 h3 => by rw [Lg.put_ne _ _ _ (ne (t.keep q x h1 h2 h3))]; exact t.keep q x h1 h2 h3⟩
  · obtain ⟨k1,k2,k3⟩ := t.ch i w' a' h1 h2
    exact ⟨k1,k2,by rw [Lg.put_ne _ _ _ (ne k3),k3]⟩
  · rw [ho] at h1
    rcases push_get h1 with ⟨rfl,rfl⟩ | ⟨hi,h1⟩
    · rw [hc] at h2; cases h2
      exact ⟨hu,has,by rw [Lg.put_same]; simp [updN]⟩
    · obtain ⟨k1,k2,k3⟩ := t.ch' i w' a' h1 h2
      refine ⟨k1,k2,?_⟩
      have hi' : ¬ i = ρ.ones.length := by omega
      rw [Lg.put_ne _ _ _ (ne k3),k3]; simp [updN,hi']
  · rw [ho] at h1 h2
    rcases push_get h1 with ⟨rfl,rfl⟩ | ⟨hi,h1'⟩ <;> rcases push_get h2 with ⟨rfl,rfl⟩ | ⟨hj,h2'⟩
    · rfl
    · rw [hc] at h3; cases h3
      exact absurd rfl (ne (t.ch' j w2 _ h2' h4).2.2)
    · rw [hc] at h4; cases h4
      exact absurd rfl (ne (t.ch' i w1 _ h1' h3).2.2)
    · exact t.d2 i j w1 w2 a' h1' h2' h3 h4
  · rw [ho] at h2
    rcases push_get h2 with ⟨rfl,rfl⟩ | ⟨hj,h2⟩
    · rw [hc] at h4; cases h4
      exact absurd rfl (ne (t.ch i w1 _ h1 h3).2.2)
    · exact t.d3 i j w1 w2 a' h1 h2 h3 h4
end
structure On.like (w w' : On) : Prop where
  kind : w'.kind = w.kind
  data : w'.data = w.data
  gen : w'.gen = w.gen
  c : w'.c.isSome = w.c.isSome
structure TR (σ ρ : Tms) : Prop where
  x : ρ.x = σ.x
  n : ρ.named = σ.named
  len : ρ.ones.length = σ.ones.length
  pair : ∀ (i : Nat) (w w' : On),σ.ones[i]? = some w → ρ.ones[i]? = some w' → w.like w'
section
variable {σ ρ : Tms}
theorem TR.other (h : TR σ ρ) {i : Nat} {w : On} (hw : σ.ones[i]? = some w) : ∃ w',ρ.ones[i]? = some w' ∧ w.like w' := by
  have hi := (List.getElem?_eq_some_iff.1 hw).1
  have : ρ.ones[i]? = some (ρ.ones[i]'(by rw [h.len]; exact hi)) := List.getElem?_eq_getElem _
  exact ⟨_,this,h.pair i w _ hw this⟩
theorem TR.has (h : TR σ ρ) (id : Int) : ρ.has id = σ.has id := by simp only [Tms.has,h.len]
theorem TR.one (h : TR σ ρ) (id : Int) : (σ.one id = none ∧ ρ.one id = none) ∨ ∃ (i : Nat) (w w' : On),id = (i : Int) ∧ i < σ.ones.length ∧ σ.ones[i]? = some w ∧ ρ.ones[i]? = some w' ∧ σ.one id = some w ∧ ρ.one id = some w' ∧ w.like w' := by
  cases ho : σ.one id with
  | none =>
    left
    refine ⟨rfl,?_⟩
    have := one_none ho
    unfold Tms.one
    rw [h.has,this]; rfl
  | some w =>
    right
    obtain ⟨i,rfl,hi,hw,hh⟩ := on_get ho
    obtain ⟨w',h1,h2⟩ := h.other hw
    refine ⟨i,w,w',rfl,hi,hw,h1,rfl,?_,h2⟩
    unfold Tms.one
    rw [h.has,hh]; simpa using h1
theorem TR.setX (h : TR σ ρ) (x : Xs) : TR { σ with x := x } { ρ with x := x } := ⟨rfl,h.n,h.len,h.pair⟩
theorem TR.armed (h : TR σ ρ) {i : Nat} {w w' : On} (hl : w.like w') (now d : Int) : TR (σ.armed i w now d) (ρ.armed i w' now d) := by
  refine ⟨by simp only [Tms.armed,h.x,hl.kind],h.n,by simp [Tms.armed,h.len],fun j v v' h1 h2 => ?_⟩
  simp only [Tms.armed] at h1 h2
  by_cases hj : i = j
  · subst hj
    have l1 := (List.getElem?_eq_some_iff.1 h1).1
    have l2 := (List.getElem?_eq_some_iff.1 h2).1
    simp at l1 l2
    rw [List.getElem?_set_self (by exact l1)] at h1
    rw [List.getElem?_set_self (by exact l2)] at h2
    cases h1; cases h2
    exact ⟨hl.kind,hl.data,by simp [hl.gen],hl.c⟩
  · rw [List.getElem?_set_ne hj] at h1 h2
    exact h.pair j v v' h1 h2
theorem TR.push (h : TR σ ρ) {w w' : On} (hl : w.like w') (n : Int) : TR { σ with named := n,ones := σ.ones ++ [w] } { ρ with named := n,ones := ρ.ones ++ [w'] } := by
  refine ⟨h.x,rfl,by simp [h.len],fun j v v' h1 h2 => ?_⟩
  rcases push_get h1 with ⟨hj,rfl⟩ | ⟨hj,h1⟩ <;> rcases push_get h2 with ⟨hk,rfl⟩ | ⟨hk,h2⟩
  · exact hl
  · have := h.len; omega
  · have := h.len; omega
  · exact h.pair j v v' h1 h2
theorem TR.make (h : TR σ ρ) {w w' : On} (hl : w.like w') (now d : Int) : TR (σ.make w now d).1 (ρ.make w' now d).1 ∧ (ρ.make w' now d).2.1 = (σ.make w now d).2.1 ∧ (ρ.make w' now d).2.2 = (σ.make w now d).2.2 := by
  simp only [Tms.make,hl.kind,hl.data,h.n,h.len]
  split
  · exact ⟨h,rfl,rfl⟩
  · split
    · exact ⟨h,rfl,rfl⟩
    · exact ⟨(h.push hl _).armed hl now d,rfl,rfl⟩
theorem TR.reset (h : TR σ ρ) {w w' : On} (hl : w.like w') (id now d : Int) : TR (σ.reset id w now d) (ρ.reset id w' now d) := by
  simp only [Tms.reset,h.x]
  exact (h.setX _).armed hl now d
end
end Go.AM


