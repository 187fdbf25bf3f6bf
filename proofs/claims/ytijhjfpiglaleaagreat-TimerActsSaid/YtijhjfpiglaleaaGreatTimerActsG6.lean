/- The texts LibHeapP, LibHeapB, LibHeapC, LibHeapD, LibExpire, GenC, LibTimerA, LibTimerB, LibTimerC, LibRefA, LibTimerD, LawTimerP, LawTimerX, GenD, LgR, LibSlice, LibSignal, LgT, LgO, LibEnd, LibEndB, LibEndC, LibTree, LibTreeB, LibTreeC of a proof of TimerActs, merged. -/
import Derived.Test.YtijhjfpiglaleaaGreatTimerActsG5
import Derived.KernelRfl
import Derived.ChangeSlices
import Derived.WideShapes
import Derived.ChangeOld
import Derived.Carry
import Derived.ChangeArms
set_option linter.unusedVariables false
set_option linter.unusedSimpArgs false
namespace Go.AM

def par (i : Nat) : Nat := (i - 1) / 4
def gA (A : List It) (j : Nat) : It := A.getD j It.zero
theorem par_lt {j : Nat} (h : 0 < j) : par j < j := by unfold par; omega
theorem gA_get {A : List It} {j : Nat} (h : j < A.length) : A[j]? = some (gA A j) := by simp [gA,h]
theorem gA_set {A : List It} {i j : Nat} {x : It} (h : i < A.length) : gA (A.set i x) j = if i = j then x else gA A j := by
  unfold gA
  simp only [List.getD_eq_getElem?_getD,List.getElem?_set]
  by_cases hij : i = j
  · subst hij; simp [h]
  · simp [hij]
def Exx (A : List It) (i : Nat) : Prop := (∀ j,0 < j → j < A.length → j ≠ i → par j ≠ i → ¬ (gA A j).lt (gA A (par j))) ∧ ∀ j,0 < j → j < A.length → par j = i → 0 < i → ¬ (gA A j).lt (gA A (par i))
def Up (A : List It) (i : Nat) : Prop := (∀ j,0 < j → j < A.length → j ≠ i → ¬ (gA A j).lt (gA A (par j))) ∧ ∀ j,0 < j → j < A.length → par j = i → 0 < i → ¬ (gA A j).lt (gA A (par i))
def Dn (A : List It) (i : Nat) : Prop := (∀ j,0 < j → j < A.length → par j ≠ i → ¬ (gA A j).lt (gA A (par j))) ∧ ∀ j,0 < j → j < A.length → par j = i → 0 < i → ¬ (gA A j).lt (gA A (par i))
def HeapA (A : List It) : Prop := ∀ j,0 < j → j < A.length → ¬ (gA A j).lt (gA A (par j))
def swap (A : List It) (i p : Nat) : List It := (A.set i (gA A p)).set p (gA A i)
theorem swap_length (A : List It) (i p : Nat) : (swap A i p).length = A.length := by simp [swap]
theorem gA_swap {A : List It} {i p : Nat} (hi : i < A.length) (hp : p < A.length) (j : Nat) : gA (swap A i p) j = if p = j then gA A i else if i = j then gA A p else gA A j := by
  unfold swap
  rw [gA_set (by simpa using hp),gA_set hi]
theorem Exx.up {A : List It} {i : Nat} (h : Exx A i) (hi : 0 < i) (hl : (gA A i).lt (gA A (par i))) : Up A i := by
  refine ⟨fun j h0 hj hji => ?_,h.2⟩
  by_cases hp : par j = i
  · rw [hp]
    have := h.2 j h0 hj hp hi
    exact fun h3 => this (It.lt_trans h3 hl)
  · exact h.1 j h0 hj hji hp
theorem Up.step {A : List It} {i : Nat} (h : Up A i) (hi : 0 < i) (hn : i < A.length) (hl : (gA A i).lt (gA A (par i))) : Up (swap A i (par i)) (par i) := by
  have hp : par i < i := par_lt hi
  have hpn : par i < A.length := by omega
  refine ⟨fun j h0 hj hji => ?_,fun j h0 hj hpj hp0 => ?_⟩
  · rw [swap_length] at hj
    rw [gA_swap hn hpn,gA_swap hn hpn]
    rw [if_neg (Ne.symm hji)]
    by_cases h1 : i = j
    · subst h1
      simp only [if_true]
      exact It.lt_asymm hl
    · rw [if_neg h1]
      by_cases h2 : par i = par j
      · rw [if_pos h2]
        have := h.1 j h0 hj (Ne.symm h1)
        rw [← h2] at this
        exact fun h3 => this (It.lt_trans h3 hl)
      · rw [if_neg h2]
        by_cases h3 : i = par j
        · rw [if_pos h3]
          exact h.2 j h0 hj h3.symm hi
        · rw [if_neg h3]
          exact h.1 j h0 hj (Ne.symm h1)
  · rw [swap_length] at hj
    have hpp : par (par i) < par i := par_lt hp0
    have hjp : j ≠ par i := by rintro rfl; omega
    rw [gA_swap hn hpn,gA_swap hn hpn,if_neg (Ne.symm hjp)]
    rw [if_neg (show par i ≠ par (par i) by omega),if_neg (show i ≠ par (par i) by omega)]
    have hb := h.1 (par i) hp0 hpn (by omega)
    by_cases h1 : i = j
    · rw [if_pos h1]; exact hb
    · rw [if_neg h1]
      have := h.1 j h0 hj (Ne.symm h1)
      rw [hpj] at this
      exact It.ge_trans this hb
theorem Up.heap {A : List It} {i : Nat} (h : Up A i) (hi : i = 0 ∨ ¬ (gA A i).lt (gA A (par i))) : HeapA A := by
  intro j h0 hj
  by_cases h1 : j = i
  · subst h1
    rcases hi with h2 | h2
    · omega
    · exact h2
  · exact h.1 j h0 hj h1
theorem Exx.dn {A : List It} {i : Nat} (h : Exx A i) (hi : i = 0 ∨ ¬ (gA A i).lt (gA A (par i))) : Dn A i := by
  refine ⟨fun j h0 hj hp => ?_,h.2⟩
  by_cases h1 : j = i
  · subst h1
    rcases hi with h2 | h2
    · omega
    · exact h2
  · exact h.1 j h0 hj h1 hp
theorem Dn.step {A : List It} {i m : Nat} (h : Dn A i) (hm0 : 0 < m) (hm : m < A.length) (hpm : par m = i) (hmin : ∀ j,0 < j → j < A.length → par j = i → ¬ (gA A j).lt (gA A m)) (hx : ¬ (gA A i).lt (gA A m)) : Dn (swap A i m) m := by
  have him : i < m := by rw [← hpm]; exact par_lt hm0
  have hn : i < A.length := by omega
  refine ⟨fun j h0 hj hp => ?_,fun j h0 hj hp _ => ?_⟩
  · rw [swap_length] at hj
    rw [gA_swap hn hm,gA_swap hn hm,if_neg (Ne.symm hp)]
    by_cases h1 : m = j
    · subst h1; rw [if_pos rfl,hpm,if_pos rfl]; exact hx
    · rw [if_neg h1]
      by_cases h2 : i = j
      · subst h2
        rw [if_pos rfl,if_neg (show i ≠ par i by have := par_lt h0; omega)]
        exact h.2 m hm0 hm hpm h0
      · rw [if_neg h2]
        by_cases h3 : i = par j
        · rw [if_pos h3]; exact hmin j h0 hj h3.symm
        · rw [if_neg h3]; exact h.1 j h0 hj (Ne.symm h3)
  · rw [swap_length] at hj
    have hjm : j ≠ m := by rintro rfl; have := par_lt h0; omega
    have hji : j ≠ i := by rintro rfl; have := par_lt h0; omega
    rw [gA_swap hn hm,gA_swap hn hm,if_neg (Ne.symm hjm),if_neg (Ne.symm hji),hpm,if_neg (show m ≠ i by omega),if_pos rfl]
    have := h.1 j h0 hj (by omega)
    rw [hp] at this
    exact this
theorem Dn.heap {A : List It} {i : Nat} (h : Dn A i) (hc : ∀ j,0 < j → j < A.length → par j = i → ¬ (gA A j).lt (gA A i)) : HeapA A := by
  intro j h0 hj
  by_cases h1 : par j = i
  · rw [h1]; exact hc j h0 hj h1
  · exact h.1 j h0 hj h1
theorem HeapA.root {A : List It} (h : HeapA A) : ∀ j,j < A.length → ¬ (gA A j).lt (gA A 0) := by
  intro j
  induction j using Nat.strongRecOn with
  | ind j ih =>
    intro hj
    by_cases h0 : j = 0
    · subst h0; exact It.lt_irrefl _
    · have := par_lt (show 0 < j by omega)
      exact It.ge_trans (h j (by omega) hj) (ih _ this (by omega))
theorem swap_perm {A : List It} {i p : Nat} (hi : i < A.length) (hp : p < A.length) : (swap A i p).Perm A := by
  by_cases h : i = p
  · subst h
    have : swap A i i = A := by
      apply List.ext_getElem?
      intro j
      simp only [swap,List.getElem?_set,List.length_set]
      by_cases hj : i = j
      · subst hj; simp [hi,gA]
      · simp [hj]
    rw [this]
  · unfold swap
    have h1 : gA A p = A[p] := by simp [gA,hp]
    have h2 : gA A i = A[i] := by simp [gA,hi]
    rw [h1,h2]
    exact List.set_set_perm hi hp

def Ids (A : List It) : Prop := ∀ j k,j < A.length → k < A.length → (gA A j).id = (gA A k).id → j = k
def Cons (A : List It) (mp : Int → Option Int) : Prop := Ids A ∧ (∀ j,j < A.length → mp (gA A j).id = some (j : Int)) ∧ ∀ k v,mp k = some v → ∃ j,j < A.length ∧ v = (j : Int) ∧ (gA A j).id = k
def ConsH (A : List It) (mp : Int → Option Int) (i : Nat) : Prop := Ids A ∧ (∀ j,j < A.length → j ≠ i → mp (gA A j).id = some (j : Int)) ∧ ∀ k v,mp k = some v → k = (gA A i).id ∨ ∃ j,j < A.length ∧ j ≠ i ∧ v = (j : Int) ∧ (gA A j).id = k
theorem ConsH.fill {A : List It} {mp : Int → Option Int} {i : Nat} (h : ConsH A mp i) (hi : i < A.length) : Cons A (updI mp (gA A i).id (some (i : Int))) := by
  refine ⟨h.1,fun j hj => ?_,fun k v hk => ?_⟩
  · unfold updI
    by_cases h1 : (gA A i).id = (gA A j).id
    · have := h.1 i j hi hj h1; subst this; simp
    · rw [if_neg h1]; exact h.2.1 j hj (fun e => h1 (by rw [e]))
  · unfold updI at hk
    by_cases h1 : (gA A i).id = k
    · rw [if_pos h1] at hk; cases hk; exact ⟨i,hi,rfl,h1⟩
    · rw [if_neg h1] at hk
      rcases h.2.2 k v hk with h2 | ⟨j,h2,_,h3,h4⟩
      · exact absurd h2.symm h1
      · exact ⟨j,h2,h3,h4⟩
theorem Cons.hole {A : List It} {mp : Int → Option Int} (h : Cons A mp) (i : Nat) : ConsH A mp i := by
  refine ⟨h.1,fun j hj _ => h.2.1 j hj,fun k v hk => ?_⟩
  obtain ⟨j,h2,h3,h4⟩ := h.2.2 k v hk
  by_cases h5 : j = i
  · subst h5; exact .inl h4.symm
  · exact .inr ⟨j,h2,h5,h3,h4⟩
theorem Ids.swap {A : List It} (h : Ids A) {i p : Nat} (hi : i < A.length) (hp : p < A.length) : Ids (swap A i p) := by
  have key : ∀ j,gA (Go.AM.swap A i p) j = gA A (if p = j then i else if i = j then p else j) := by
    intro j
    rw [gA_swap hi hp]
    split
    · rfl
    · split <;> rfl
  intro j k hj hk
  rw [swap_length] at hj hk
  rw [key,key]
  intro e
  have := h _ _ (by split; exact hi; split; exact hp; exact hj) (by split; exact hi; split; exact hp; exact hk) e
  split at this <;> split at this <;> (try split at this) <;> (try split at this) <;> omega
theorem ConsH.step {A : List It} {mp : Int → Option Int} {i p : Nat} (h : ConsH A mp i) (hi : i < A.length) (hp : p < A.length) (hne : p ≠ i) : ConsH (swap A i p) (updI mp (gA A p).id (some (i : Int))) p := by
  refine ⟨h.1.swap hi hp,fun j hj hjp => ?_,fun k v hk => ?_⟩
  · rw [swap_length] at hj
    rw [gA_swap hi hp,if_neg (Ne.symm hjp)]
    unfold updI
    by_cases h1 : i = j
    · subst h1; simp
    · rw [if_neg h1]
      have h2 : (gA A p).id ≠ (gA A j).id := fun e => hjp (h.1 p j hp hj e).symm
      rw [if_neg h2]
      exact h.2.1 j hj (Ne.symm h1)
  · unfold updI at hk
    rw [gA_swap hi hp,if_pos rfl]
    by_cases h1 : (gA A p).id = k
    · rw [if_pos h1] at hk; cases hk
      refine .inr ⟨i,by rw [swap_length]; exact hi,Ne.symm hne,rfl,?_⟩
      rw [gA_swap hi hp,if_neg hne,if_pos rfl]; exact h1
    · rw [if_neg h1] at hk
      rcases h.2.2 k v hk with h2 | ⟨j,h2,h3,h4,h5⟩
      · exact .inl h2
      · have hjp : j ≠ p := by rintro rfl; exact h1 h5
        refine .inr ⟨j,by rw [swap_length]; exact h2,hjp,h4,?_⟩
        rw [gA_swap hi hp,if_neg (Ne.symm hjp),if_neg (Ne.symm h3)]; exact h5
end Go.AM


set_option linter.unusedVariables false
set_option linter.unusedSimpArgs false
namespace Go.AM
variable {N : Nat → Nat} {F : Nat → Option AFn}

def HSl (L : Lg) (h mb : Nat) (its : List It) (sv : AV) (K : Lg) : Prop :=
  (its = [] ∧ sv = .sl none 0 0 0) ∨ ∃ b cap sp,sv = .sl (some (b,0)) its.length cap 3 ∧ K b = some (.raw (.cells (icells its ++ sp))) ∧ sp.length + its.length * 3 = cap * 3 ∧ b ≠ h ∧ b ≠ mb ∧ L b = none
def HOpen (L : Lg) (h : Nat) (its : List It) (mp : Int → Option Int) (seq : Int) (K : Lg) : Prop :=
  ∃ (sv : AV) (mb : Nat) (es : List (AV × AV)),K h = some (.raw (.cells [sv,.m (some mb),.i .i64 seq])) ∧ K mb = some (.raw (.map es)) ∧ MapI es mp ∧ mb ≠ h ∧ L mb = none ∧ HSl L h mb its sv K ∧
    ∀ r d,r ≠ h → L r = some d → K r = some d

section
variable {L K : Lg} {h : Nat} {its : List It} {mp : Int → Option Int} {seq : Int}
theorem HOpen.ne (ho : HOpen L h its mp seq K) {r : Nat} (hr : K r = none) : r ≠ h ∧ L r = none := by
  obtain ⟨sv,mb,es,h1,h2,h3,h4,h5,h6,h7⟩ := ho
  have n : r ≠ h := by rintro rfl; rw [h1] at hr; cases hr
  refine ⟨n,?_⟩
  cases e : L r with
  | none => rfl
  | some d => rw [h7 r d n e] at hr; cases hr
theorem HOpen.onto (ho : HOpen L h its mp seq K) {r : Nat} (hr : K r = none) (d : LC) : HOpen (L.put r d) h its mp seq (K.put r d) := by
  obtain ⟨sv,mb,es,h1,h2,h3,h4,h5,h6,h7⟩ := ho
  have nb : ∀ {x : Nat} {k : LC},K x = some k → x ≠ r := fun hx hxr => by rw [hxr,hr] at hx; cases hx
  refine ⟨sv,mb,es,by rw [Lg.put_ne _ _ _ (nb h1)]; exact h1,by rw [Lg.put_ne _ _ _ (nb h2)]; exact h2,h3,h4,by rw [Lg.put_ne _ _ _ (nb h2)]; exact h5,?_,?_⟩
  · rcases h6 with h6 | ⟨b,cap,sp,a1,a2,a3,a4,a5,a6⟩
    · exact .inl h6
    · exact .inr ⟨b,cap,sp,a1,by rw [Lg.put_ne _ _ _ (nb a2)]; exact a2,a3,a4,a5,by rw [Lg.put_ne _ _ _ (nb a2)]; exact a6⟩
  · intro x k hx hk
    rw [Lg.put_apply] at hk ⊢
    split
    · rename_i h9; rw [if_pos h9] at hk; exact hk
    · rename_i h9; rw [if_neg h9] at hk; exact h7 x k hx hk
theorem HOpen.weak {r : Nat} {d : LC} (ho : HOpen (L.put r d) h its mp seq K) (hr : L r = none) : HOpen L h its mp seq K := by
  obtain ⟨sv,mb,es,h1,h2,h3,h4,h5,h6,h7⟩ := ho
  have n1 : mb ≠ r := by rintro rfl; simp at h5
  rw [Lg.put_ne _ _ _ n1] at h5
  refine ⟨sv,mb,es,h1,h2,h3,h4,h5,?_,?_⟩
  · rcases h6 with h6 | ⟨b,cap,sp,a1,a2,a3,a4,a5,a6⟩
    · exact .inl h6
    · have n2 : b ≠ r := by rintro rfl; simp at a6
      rw [Lg.put_ne _ _ _ n2] at a6
      exact .inr ⟨b,cap,sp,a1,a2,a3,a4,a5,a6⟩
  · intro x k hx hk
    have : x ≠ r := by rintro rfl; rw [hr] at hk; cases hk
    exact h7 x k hx (by rw [Lg.put_ne _ _ _ this]; exact hk)
theorem HOpen.old (ho : HOpen L h its mp seq K) {r : Nat} {d : LC} (hr : r ≠ h) (hd : L r = some d) : K r = some d := by
  obtain ⟨sv,mb,es,h1,h2,h3,h4,h5,h6,h7⟩ := ho
  exact h7 r d hr hd

theorem hput_spec (hf : H_f26 N F) (ho : HOpen L h its mp seq K) (i : Nat) (hi : i < its.length) (x : It) :
    CallL F (N k_f26) [.p (some (h,0)),.i .i64 i,x.av] K fun v K' => v = .tup [] ∧ HOpen L h (its.set i x) (updI mp x.id (some (i : Int))) seq K' := by
  apply r_f26 hf.code
  obtain ⟨sv,mb,es,h1,h2,h3,h4,h5,h6,h7⟩ := ho
  rcases h6 with ⟨rfl,_⟩ | ⟨b,cap,sp,rfl,a2,a3,a4,a5,a6⟩
  · simp at hi
  obtain ⟨es',hs,hM⟩ := h3.set x.id i
  unfold D_f26_1 It.av
  simp
  rw [newL_box_agg _ _ _ (by simp [It.cells])]
  intro r hr
  have nb : ∀ {y : Nat} {k : LC},K y = some k → y ≠ r := fun hx hxr => by rw [hxr,hr] at hx; cases hx
  have n1 := nb h1
  have n2 := nb h2
  have n3 := nb a2
  have e1 : (i : Int) < (its.length : Int) := by omega
  have eb : ((K.put r (.raw (.cells x.cells))) b) = some (.raw (.cells (icells its ++ sp))) := by rw [Lg.put_ne _ _ _ n3]; exact a2
  have hlen : i * 3 + 3 ≤ (icells its ++ sp).length := by simp [icells_length]; omega
  have er : (K.put r (.raw (.cells x.cells))) r = some (.raw (.cells x.cells)) := Lg.put_same _ _ _
  simp [rdL,AB.read,look,Lg.put_apply,n1,Ne.symm n1,h1,cut,ble_nat]
  have el : 3 ≤ x.cells.length := by simp [It.cells]
  have et : List.take 3 x.cells = x.cells := by simp [It.cells]
  simp [el,et,wp_iad _ _ _ 3 b 0 its.length cap 3 .i64 (i : Int) (Int.natCast_nonneg _) e1]
  rw [stL_cells eb (by simp [It.cells]) (by simp [It.cells]) hlen]
  rw [icells_set its i x sp hi]
  simp [rdL,AB.read,look,Lg.put_apply,n1,Ne.symm n1,h1,a4,Ne.symm a4,Ne.symm n3,It.cells,msetW,n2,Ne.symm n2,a5,Ne.symm a5,h2,hs]
  refine ⟨_,Sees.refl _,.sl (some (b,0)) its.length cap 3,mb,es',?_,Lg.put_same _ _ _,hM,h4,h5,.inr ⟨b,cap,sp,by simp,?_,by simpa using a3,a4,a5,a6⟩,?_⟩
  · simp [Lg.put_apply,Ne.symm h4,Ne.symm a4,n1,h1]
  · simp [Lg.put_apply,a5]
  · intro y d hy hd
    have c1 : y ≠ r := by rintro rfl; rw [h7 y d hy hd] at hr; cases hr
    have c2 : y ≠ b := by rintro rfl; rw [a6] at hd; cases hd
    have c3 : y ≠ mb := by rintro rfl; rw [h5] at hd; cases hd
    simp [Lg.put_apply,c1,c2,c3,h7 y d hy hd]
theorem set_set_self (A : List It) (i : Nat) (y x : It) : (A.set i y).set i x = A.set i x := by simp
theorem set_gA {A : List It} {i : Nat} (hi : i < A.length) : A.set i (gA A i) = A := by
  apply List.ext_getElem?
  intro j
  rw [List.getElem?_set]
  by_cases hj : i = j
  · subst hj; simp [hi,gA]
  · simp [hj]
theorem hup_spec (hf : H_f31 N F) {A : List It} (ho : HOpen L h A mp seq K) (i : Nat) (hi : i < A.length) (hn : A.length ≤ 1000000) (hc : ConsH A mp i) (he : Exx A i) :
    CallL F (N k_f31) [.p (some (h,0)),.i .i64 i] K fun v K' => v = .tup [] ∧ ∃ A' mp',A'.Perm A ∧ HOpen L h A' mp' seq K' ∧ Cons A' mp' ∧ (Up A i → HeapA A') ∧ ∃ i',i' < A'.length ∧ gA A' i' = gA A i ∧ Dn A' i' := by
  apply r_f31 hf.code
  generalize hQ : (fun (v : AV) (K' : Lg) => v = .tup [] ∧ ∃ A' mp',A'.Perm A ∧ HOpen L h A' mp' seq K' ∧ Cons A' mp' ∧ (Up A i → HeapA A') ∧ ∃ i',i' < A'.length ∧ gA A' i' = gA A i ∧ Dn A' i') = Q
  unfold D_f31_1
  have ho' := ho
  obtain ⟨sv,mb,es,h1,h2,h3,h4,h5,h6,h7⟩ := ho'
  rcases h6 with ⟨rfl,_⟩ | ⟨b,cap,sp,rfl,a2,a3,a4,a5,a6⟩
  · simp at hi
  have e1 : (i : Int) < (A.length : Int) := by omega
  have hat := icells_at A i (gA A i) sp (gA_get hi)
  have hat2 := hat.2
  rw [List.length_append] at hat2
  simp [rdL,AB.read,look,h1,wp_iad _ _ _ 3 b 0 A.length cap 3 .i64 (i : Int) (Int.natCast_nonneg _) e1,a2,cut,ble_nat,hat.1,hat2]
  intro x4 hx4
  rw [stL_cells (Lg.put_same _ _ _) (by simp [It.cells]) (by simp [It.cells]) (by simp),Lg.put_put,show splice [AV.i .i64 0,.i .i64 0,.i .i64 0] 0 (gA A i).cells = (gA A i).cells by simp [splice,It.cells]]
  have hne := ho.ne hx4
  obtain ⟨I,hI⟩ : ∃ I : Nat → Env → Lg → Prop,I = fun n l' K' => ∃ A' i' mp' y,A'.Perm A ∧ gA A' i' = gA A i ∧ i' < A'.length ∧ n = i' ∧ ConsH A' mp' i' ∧ (Up A' i' ∨ (A' = A ∧ i' = i)) ∧ (Up A i → Up A' i') ∧
    HOpen (L.put x4 (.raw (.cells (gA A i).cells))) h (A'.set i' y) mp' seq K' ∧ l' 0 = .p (some (h,0)) ∧ l' 1 = .i .i64 i' ∧ l' 4 = .p (some (x4,0)) := ⟨_,rfl⟩
  unfold D_f31_5
  refine loopW_intro I i ?_ ?_
  · rw [hI]
    refine ⟨A,i,mp,gA A i,List.Perm.refl _,rfl,hi,rfl,hc,.inr ⟨rfl,rfl⟩,id,?_,by simp,by simp,by simp⟩
    rw [set_gA hi]
    exact ho.onto hx4 _
  · intro n l' t K' hinv
    rw [hI] at hinv
    obtain ⟨A',i',mp',y,p1,p2,p3,rfl,p5,p6,p7,p8,l0,l1,l4⟩ := hinv
    have plen := p1.length_eq
    unfold D_f31_6
    rw [l0,l1,l4]
    have k4 : K' x4 = some (.raw (.cells (gA A i).cells)) := p8.old hne.1 (Lg.put_same _ _ _)
    have hexx : Exx A' n := by
      rcases p6 with h8 | ⟨rfl,rfl⟩
      · exact ⟨fun j a b c d => h8.1 j a b c,h8.2⟩
      · exact he
    have fin : (n = 0 ∨ ¬ (gA A' n).lt (gA A' (par n))) → ∀ K2 : Lg,K2 = K' → D_f31_3 F N Q (.p (some (h,0))) (.i .i64 n) (.p (some (x4,0))) K2 := by
      rintro hcond K2 rfl
      unfold D_f31_3
      simp [rdL_cells k4 (show 0 + 3 ≤ (gA A i).cells.length by simp [It.cells])]
      have : AV.agg (List.take 3 (gA A i).cells) = (gA A i).av := by simp [It.cells,It.av]
      rw [this]
      refine (hput_spec hf.f26 p8 n (by simpa using p3) (gA A i)).mono ?_
      rintro _ K3 ⟨rfl,ho3⟩
      rw [set_set_self,← p2,set_gA p3] at ho3
      simp
      refine ⟨K3,Sees.refl _,?_⟩
      subst hQ
      refine ⟨rfl,A',_,p1,ho3.weak hne.2,p5.fill p3,fun hu => (p7 hu).heap hcond,n,p3,p2,hexx.dn hcond⟩
    by_cases h0 : n = 0
    · subst h0
      simp
      exact fin (.inl rfl) _ rfl
    · have hpos : (0 : Int) < (n : Int) := by omega
      have hpos' : 0 < n := by omega
      obtain ⟨k,hk⟩ : ∃ k,k = n - 1 := ⟨_,rfl⟩
      have w1 : wr .i64 ((n : Int) - 1) = (k : Int) := by rw [wr_id (by omega) (by omega)]; omega
      obtain ⟨p,hp⟩ : ∃ p,p = par n := ⟨_,rfl⟩
      have hpk : p < n := by rw [hp]; exact par_lt (by omega)
      have w2 : wr .i64 ((k : Int).tdiv 4) = (p : Int) := by
        have e1 : (k : Int).tdiv 4 = ((k / 4 : Nat) : Int) := by rw [Int.ofNat_tdiv]; rfl
        have e2 : k / 4 = p := by rw [hp,hk]; rfl
        rw [e1,e2]
        exact wr_id (by omega) (by omega)
      have w3 : wr .i64 ((k : Int) / 4) = (p : Int) := by
        have e1 : (k : Int) / 4 = ((k / 4 : Nat) : Int) := rfl
        have e2 : k / 4 = p := by rw [hp,hk]; rfl
        rw [e1,e2]
        exact wr_id (by omega) (by omega)
      have hpl : p < A'.length := by omega
      have h40 : (4 : Int) ≠ 0 := by omega
      have p8' := p8
      obtain ⟨sv,mb,es,h1,h2,h3,h4,h5,h6,h7⟩ := p8'
      rcases h6 with ⟨h6,_⟩ | ⟨b,cap,sp,rfl,a2,a3,a4,a5,a6⟩
      · exfalso; have := congrArg List.length h6; rw [List.length_set,List.length_nil] at this; omega
      have e2 : (p : Int) < ((A'.set n y).length : Int) := by simp; omega
      have hat := icells_at (A'.set n y) p (gA A' p) sp (by rw [List.getElem?_set_ne (by omega)]; exact gA_get hpl)
      have hat2 := hat.2
      rw [List.length_append] at hat2
      rw [List.length_set] at h1 e2
      have et : AV.agg (List.take 3 (gA A i).cells) = (gA A i).av := by simp [It.cells,It.av]
      have et2 : AV.agg (gA A' p).cells = (gA A' p).av := rfl
      have el : 3 ≤ (gA A i).cells.length := by simp [It.cells]
      simp [hpos,hpos',rdL,AB.read,look,k4,h1,wp_quo _ _ _ _ _ _ h40,w2,w3,w1,wp_iad _ _ _ 3 b 0 A'.length cap 3 .i64 (p : Int) (Int.natCast_nonneg _) e2,a2,cut,ble_nat,hat.1,hat2,et,et2,el]
      refine (ahead_spec hf.f30 (gA A i) (gA A' p)).mono ?_
      rintro _ K1 ⟨rfl,rfl⟩
      simp [hpos,hpos',It.cmp_neg]
      refine ⟨fun hlt => ?_,fun hlt => ?_⟩
      · simp [rdL,AB.read,look,h1,wp_quo _ _ _ _ _ _ h40,w2,w3,w1,wp_iad _ _ _ 3 b 0 A'.length cap 3 .i64 (p : Int) (Int.natCast_nonneg _) e2,a2,cut,ble_nat,hat.1,hat2,et2]
        refine (hput_spec hf.f26 p8 n (by simpa using p3) (gA A' p)).mono ?_
        rintro _ K3 ⟨rfl,ho3⟩
        rw [set_set_self] at ho3
        simp [wp_quo _ _ _ _ _ _ h40,w2,w3,w1]
        refine ⟨p,hpk,?_⟩
        rw [hI]
        have hltp : (gA A' n).lt (gA A' (par n)) := by rw [p2,← hp]; exact hlt
        have hup : Up A' n := by
          rcases p6 with h8 | ⟨rfl,rfl⟩
          · exact h8
          · exact he.up hpos' hltp
        have hst := hup.step hpos' p3 hltp
        rw [← hp] at hst
        refine ⟨swap A' n p,p,_,gA A' p,(swap_perm p3 hpl).trans p1,?_,by rw [swap_length]; exact hpl,rfl,p5.step p3 hpl (by omega),.inl hst,fun _ => hst,?_,by simp [l0],by simp,by simp [l4]⟩
        · rw [gA_swap p3 hpl,if_pos rfl,p2]
        · have : (swap A' n p).set p (gA A' p) = A'.set n (gA A' p) := by
            unfold swap
            rw [set_set_self]
            apply List.ext_getElem?
            intro j
            rw [List.getElem?_set]
            by_cases hj : p = j
            · subst hj
              simp [hpl,List.getElem?_set,gA]
              rw [List.getElem_set_ne (by omega)]
            · simp [hj]
          rw [this]
          exact ho3
      · refine fin (.inr ?_) _ rfl
        rw [p2,← hp]; exact hlt
theorem hdown_spec (hf : H_f32 N F) {A : List It} (ho : HOpen L h A mp seq K) (i : Nat) (hi : i < A.length) (hn : A.length ≤ 1000000) (hc : Cons A mp) (he : Dn A i) :
    CallL F (N k_f32) [.p (some (h,0)),.i .i64 i] K fun v K' => v = .tup [] ∧ ∃ A' mp',A'.Perm A ∧ HOpen L h A' mp' seq K' ∧ Cons A' mp' ∧ HeapA A' := by
  apply r_f32 hf.code
  generalize hQ : (fun (v : AV) (K' : Lg) => v = .tup [] ∧ ∃ A' mp',A'.Perm A ∧ HOpen L h A' mp' seq K' ∧ Cons A' mp' ∧ HeapA A') = Q
  unfold D_f32_1
  have ho' := ho
  obtain ⟨sv,mb,es,h1,h2,h3,h4,h5,h6,h7⟩ := ho'
  rcases h6 with ⟨rfl,_⟩ | ⟨b,cap,sp,rfl,a2,a3,a4,a5,a6⟩
  · simp at hi
  have e1 : (i : Int) < (A.length : Int) := by omega
  have hat := icells_at A i (gA A i) sp (gA_get hi)
  have hat2 := hat.2
  rw [List.length_append] at hat2
  simp [rdL,AB.read,look,h1,wp_iad _ _ _ 3 b 0 A.length cap 3 .i64 (i : Int) (Int.natCast_nonneg _) e1,a2,cut,ble_nat,hat.1,hat2]
  intro x4 hx4
  rw [stL_cells (Lg.put_same _ _ _) (by simp [It.cells]) (by simp [It.cells]) (by simp),Lg.put_put,show splice [AV.i .i64 0,.i .i64 0,.i .i64 0] 0 (gA A i).cells = (gA A i).cells by simp [splice,It.cells]]
  have hne := ho.ne hx4
  obtain ⟨I,hI⟩ : ∃ I : Nat → Env → Lg → Prop,I = fun n l' K' => ∃ A' i' mp' y,A'.Perm A ∧ gA A' i' = gA A i ∧ i' < A'.length ∧ n = A'.length - i' ∧ ConsH A' mp' i' ∧ Dn A' i' ∧
    HOpen (L.put x4 (.raw (.cells (gA A i).cells))) h (A'.set i' y) mp' seq K' ∧ l' 0 = .p (some (h,0)) ∧ l' 1 = .i .i64 i' ∧ l' 4 = .p (some (x4,0)) := ⟨_,rfl⟩
  unfold D_f32_5
  clear h1 h2 h3 h4 h5 h7 a2 a3 a4 a5 a6 hat hat2 e1
  refine loopW_intro I (A.length - i) ?_ ?_
  · rw [hI]
    refine ⟨A,i,mp,gA A i,List.Perm.refl _,rfl,hi,rfl,hc.hole i,he,?_,by simp,by simp,by simp⟩
    rw [set_gA hi]
    exact ho.onto hx4 _
  · intro n l' t K' hinv
    rw [hI] at hinv
    obtain ⟨A',i',mp',y,p1,p2,p3,hn',p5,p6,p8,l0,l1,l4⟩ := hinv
    have plen := p1.length_eq
    have k4 : K' x4 = some (.raw (.cells (gA A i).cells)) := p8.old hne.1 (Lg.put_same _ _ _)
    have fin : (∀ j,0 < j → j < A'.length → par j = i' → ¬ (gA A' j).lt (gA A' i')) → D_f32_3 F N Q (.p (some (h,0))) (.i .i64 i') (.p (some (x4,0))) K' := by
      intro hcond
      unfold D_f32_3
      simp [rdL_cells k4 (show 0 + 3 ≤ (gA A i).cells.length by simp [It.cells])]
      have : AV.agg (List.take 3 (gA A i).cells) = (gA A i).av := by simp [It.cells,It.av]
      rw [this]
      refine (hput_spec hf.f26 p8 i' (by simpa using p3) (gA A i)).mono ?_
      rintro _ K3 ⟨rfl,ho3⟩
      rw [set_set_self,← p2,set_gA p3] at ho3
      simp
      refine ⟨K3,Sees.refl _,?_⟩
      subst hQ
      exact ⟨rfl,A',_,p1,ho3.weak hne.2,p5.fill p3,p6.heap hcond⟩
    have p8' := p8
    obtain ⟨sv,mb,es,h1,h2,h3,h4,h5,h6,h7⟩ := p8'
    rcases h6 with ⟨h6,_⟩ | ⟨b,cap,sp,rfl,a2,a3,a4,a5,a6⟩
    · exfalso; have := congrArg List.length h6; rw [List.length_set,List.length_nil] at this; omega
    rw [List.length_set] at h1 a3
    obtain ⟨fst,hfst⟩ : ∃ fst,fst = 4 * i' + 1 := ⟨_,rfl⟩
    have w1 : wr .i64 (4 * (i' : Int)) = 4 * (i' : Int) := wr_id (by omega) (by omega)
    have w2 : wr .i64 (4 * (i' : Int) + 1) = (fst : Int) := by rw [wr_id (by omega) (by omega)]; omega
    have rdel : ∀ j,j < A'.length → j ≠ i' → List.take 3 (List.drop (j * 3) (icells (A'.set i' y) ++ sp)) = (gA A' j).cells ∧ j * 3 + 3 ≤ (icells (A'.set i' y)).length + sp.length := by
      intro j hj hji
      have := icells_at (A'.set i' y) j (gA A' j) sp (by rw [List.getElem?_set_ne (Ne.symm hji)]; exact gA_get hj)
      rw [List.length_append] at this
      exact this
    have kids : ∀ j,0 < j → (par j = i' ↔ fst ≤ j ∧ j < fst + 4) := by intro j hj; unfold par; omega
    unfold D_f32_7 D_f32_8
    rw [l1]
    simp [w1,w2,l0,l1,l4,rdL,AB.read,look,h1]
    refine ⟨fun hge => ?_,fun hlt => ?_⟩
    · refine fin fun j h0 hj hpj => ?_
      have := (kids j h0).1 hpj
      omega
    · have hlt' : fst < A'.length := by omega
      unfold D_f32_9 D_f32_12
      have w3 : wr .i64 ((fst : Int) + 1) = ((fst + 1 : Nat) : Int) := by rw [wr_id (by omega) (by omega)]; omega
      simp
      rw [w3]
      unfold D_f32_14
      obtain ⟨J,hJ⟩ : ∃ J : Nat → Env → Lg → Prop,J = fun m l'' K'' => ∃ ls k : Nat,fst ≤ ls ∧ ls < k ∧ k ≤ fst + 4 ∧ k ≤ A'.length ∧ m = fst + 4 - k ∧ (∀ j,fst ≤ j → j < k → ¬ (gA A' j).lt (gA A' ls)) ∧ K'' = K' ∧
        l'' 0 = .p (some (h,0)) ∧ l'' 1 = .i .i64 i' ∧ l'' 4 = .p (some (x4,0)) ∧ l'' 5 = .i .i64 fst ∧ l'' 6 = .i .i64 ls ∧ l'' 7 = .i .i64 k := ⟨_,rfl⟩
      refine loopW_intro J 3 ?_ ?_
      · rw [hJ]
        refine ⟨fst,fst + 1,by omega,by omega,by omega,by omega,by omega,?_,rfl,by simp [l0],by simp [l1],by simp [l4],by simp,by simp,by simp⟩
        intro j h1 h2
        have : j = fst := by omega
        subst this; exact It.lt_irrefl _
      · intro m l'' t'' K'' hj
        rw [hJ] at hj
        obtain ⟨ls,k,c1,c2,c3,c4,rfl,c6,rfl,d0,d1,d4,d5,d6,d7⟩ := hj
        have w4 : wr .i64 ((fst : Int) + 4) = (fst : Int) + 4 := wr_id (by omega) (by omega)
        have hlsl : ls < A'.length := by omega
        have els : (ls : Int) < (A'.length : Int) := by omega
        have rls := rdel ls hlsl (by omega)
        have etl : AV.agg (gA A' ls).cells = (gA A' ls).av := rfl
        unfold D_f32_15
        rw [d0,d5,d6,d7]
        have w5 : wr .i64 ((k : Int) + 1) = ((k + 1 : Nat) : Int) := by rw [wr_id (by omega) (by omega)]; omega
        by_cases hk : k < fst + 4 ∧ k < A'.length
        · have hk1 : (k : Int) < (fst : Int) + 4 ∧ (k : Int) < (A'.length : Int) := by omega
          have hk2 : (k : Int) < min ((fst : Int) + 4) (A'.length : Int) := by omega
          have rk := rdel k hk.2 (by omega)
          have etk : AV.agg (gA A' k).cells = (gA A' k).av := rfl
          simp [w4,rdL,AB.read,look,h1,hk1,hk.2,wp_iad _ _ _ 3 b 0 A'.length cap 3 .i64 (k : Int) (Int.natCast_nonneg _) hk1.2,wp_iad _ _ _ 3 b 0 A'.length cap 3 .i64 (ls : Int) (Int.natCast_nonneg _) els,a2,cut,ble_nat,rk.1,rk.2,rls.1,rls.2,etk,etl]
          refine ⟨fun _ => ?_,fun hx => by omega⟩
          refine (ahead_spec hf.f30 (gA A' k) (gA A' ls)).mono ?_
          rintro _ K1 ⟨rfl,rfl⟩
          simp [It.cmp_neg]
          refine ⟨fun hl => ?_,fun hl => ?_⟩
          · refine ⟨fst + 4 - (k + 1),by omega,?_⟩
            rw [hJ]
            refine ⟨k,k + 1,by omega,by omega,by omega,by omega,rfl,?_,rfl,by simp [d0],by simp [d1],by simp [d4],by simp [d5],by simp,by simp [w5]⟩
            intro j j1 j2
            by_cases hjk : j = k
            · subst hjk; exact It.lt_irrefl _
            · exact fun h9 => c6 j j1 (by omega) (It.lt_trans h9 hl)
          · refine ⟨fst + 4 - (k + 1),by omega,?_⟩
            rw [hJ]
            refine ⟨ls,k + 1,by omega,by omega,by omega,by omega,rfl,?_,rfl,by simp [d0],by simp [d1],by simp [d4],by simp [d5],by simp [d6],by simp [w5]⟩
            intro j j1 j2
            by_cases hjk : j = k
            · subst hjk; exact hl
            · exact c6 j j1 (by omega)
        · have hk2 : ¬ ((k : Int) < min ((fst : Int) + 4) (A'.length : Int)) := by omega
          have hmin : ∀ j,0 < j → j < A'.length → par j = i' → ¬ (gA A' j).lt (gA A' ls) := by
            intro j h0 hj hpj
            have := (kids j h0).1 hpj
            exact c6 j this.1 (by omega)
          have etx : AV.agg (List.take 3 (gA A i).cells) = (gA A i).av := by simp [It.cells,It.av]
          have elx : 3 ≤ (gA A i).cells.length := by simp [It.cells]
          have hk3 : (k : Int) < (fst : Int) + 4 → (A'.length : Int) ≤ (k : Int) := by omega
          have hk4 : ¬ ((k : Int) < (fst : Int) + 4 ∧ (k : Int) < (A'.length : Int)) := by omega
          simp [w4,rdL,AB.read,look,h1]
          refine ⟨fun hx1 => by omega,fun _ => ?_⟩
          unfold D_f32_11
          rw [d0,d1,d4,d6]
          simp [rdL,AB.read,look,h1,k4,wp_iad _ _ _ 3 b 0 A'.length cap 3 .i64 (ls : Int) (Int.natCast_nonneg _) els,a2,cut,ble_nat,rls.1,rls.2,etl,etx,elx]
          refine (ahead_spec hf.f30 (gA A i) (gA A' ls)).mono ?_
          rintro _ K1 ⟨rfl,rfl⟩
          simp [It.cmp_neg]
          refine ⟨fun hl => ?_,fun hl => ?_⟩
          · refine fin fun j h0 hj hpj => ?_
            have := hmin j h0 hj hpj
            rw [p2]
            exact fun h9 => this (It.lt_trans h9 hl)
          · simp [rdL,AB.read,look,h1,wp_iad _ _ _ 3 b 0 A'.length cap 3 .i64 (ls : Int) (Int.natCast_nonneg _) els,a2,cut,ble_nat,rls.1,rls.2,etl]
            refine (hput_spec hf.f26 p8 i' (by simpa using p3) (gA A' ls)).mono ?_
            rintro _ K3 ⟨rfl,ho3⟩
            rw [set_set_self] at ho3
            have hls0 : 0 < ls := by omega
            have hpls : par ls = i' := (kids ls hls0).2 ⟨c1,by omega⟩
            have hst := p6.step hls0 hlsl hpls hmin (by rw [p2]; exact hl)
            refine ⟨A'.length - ls,by omega,?_⟩
            rw [hI]
            refine ⟨swap A' i' ls,ls,_,gA A' ls,(swap_perm p3 hlsl).trans p1,?_,by rw [swap_length]; exact hlsl,by rw [swap_length],p5.step p3 hlsl (by omega),hst,?_,by simp [d0],by simp,by simp [d4]⟩
            · rw [gA_swap p3 hlsl,if_pos rfl,p2]
            · have : (swap A' i' ls).set ls (gA A' ls) = A'.set i' (gA A' ls) := by
                unfold swap
                rw [set_set_self]
                apply List.ext_getElem?
                intro j
                rw [List.getElem?_set]
                by_cases hj : ls = j
                · subst hj
                  simp [hlsl,List.getElem?_set,gA]
                  rw [List.getElem_set_ne (by omega)]
                · simp [hj]
              rw [this]
              exact ho3
end
end Go.AM


set_option linter.unusedVariables false
set_option linter.unusedSimpArgs false
namespace Go.AM
variable {N : Nat → Nat} {F : Nat → Option AFn}

def ins (x : It) : List It → List It
  | [] => [x]
  | y :: r => if x.lt y then x :: y :: r else y :: ins x r
theorem ins_perm (x : It) : ∀ l,(ins x l).Perm (x :: l)
  | [] => List.Perm.refl _
  | y :: r => by
    unfold ins
    split
    · exact List.Perm.refl _
    · exact ((ins_perm x r).cons y).trans (List.Perm.swap x y r)
theorem ins_sorted {x : It} : ∀ {l : List It},l.Pairwise It.lt → (∀ y,y ∈ l → x.s ≠ y.s) → (ins x l).Pairwise It.lt
  | [],_,_ => by simp [ins]
  | y :: r,h,hx => by
    rw [List.pairwise_cons] at h
    unfold ins
    split
    · rename_i hlt
      rw [List.pairwise_cons]
      refine ⟨fun z hz => ?_,List.pairwise_cons.2 h⟩
      rcases List.mem_cons.1 hz with rfl | hz
      · exact hlt
      · exact It.lt_trans hlt (h.1 z hz)
    · rename_i hlt
      have hyx : y.lt x := by
        have := hx y (by simp)
        unfold It.lt at *
        omega
      rw [List.pairwise_cons]
      refine ⟨fun z hz => ?_,ins_sorted h.2 (fun z hz => hx z (by simp [hz]))⟩
      rcases List.mem_cons.1 ((ins_perm x r).mem_iff.1 hz) with rfl | hz
      · exact hyx
      · exact h.1 z hz
def rmId (id : Int) (l : List It) : List It := l.filter fun y => !decide (y.id = id)
def findId (id : Int) (l : List It) : Option It := l.find? fun y => decide (y.id = id)
theorem cons_set_perm {α : Type} (y : α) : ∀ (l : List α) (i : Nat) (h : i < l.length),(l[i] :: l.set i y).Perm (y :: l)
  | [],i,h => by simp at h
  | a :: r,0,h => by simpa using List.Perm.swap y a r
  | a :: r,i + 1,h => by
    have := cons_set_perm y r i (by simpa using h)
    simp only [List.set_cons_succ,List.getElem_cons_succ]
    exact (List.Perm.swap a _ _).trans ((this.cons a).trans (List.Perm.swap y a r))

def HeapP (h : Nat) (l : List It) (seq : Int) (hp : Hp) : Prop := ∃ its mp M,HOpen Lg.nil h its mp seq M ∧ Cons its mp ∧ HeapA its ∧ its.Perm l ∧ Sat M hp

section
variable {L K : Lg} {h : Nat} {its l : List It} {mp : Int → Option Int} {seq : Int}
theorem HOpen.shut (ho : HOpen L h its mp seq K) (hc : Cons its mp) (hh : HeapA its) (hp : its.Perm l) : Sees K (L.put h (.abs (HeapP h l seq))) := by
  obtain ⟨sv,mb,es,h1,h2,h3,h4,h5,h6,h7⟩ := ho
  rcases h6 with ⟨rfl,rfl⟩ | ⟨b,cap,sp,rfl,a2,a3,a4,a5,a6⟩
  · refine Sees.shutAt (fun r => r = h ∨ r = mb) (.inl rfl) ?_ ?_ (.inl ⟨_,h1⟩) ?_
    · intro r d hr hd; simp only [not_or] at hr; exact h7 r d hr.1 hd
    · rintro r (rfl | rfl) hr
      · exact absurd rfl hr
      · exact h5
    · intro M hm hM hN hs
      refine ⟨[],mp,M,⟨_,mb,es,by rw [hM h (.inl rfl)]; exact h1,by rw [hM mb (.inr rfl)]; exact h2,h3,h4,rfl,.inl ⟨rfl,rfl⟩,fun r d _ hd => by cases hd⟩,hc,hh,hp,hs⟩
  · refine Sees.shutAt (fun r => r = h ∨ r = mb ∨ r = b) (.inl rfl) ?_ ?_ (.inl ⟨_,h1⟩) ?_
    · intro r d hr hd; simp only [not_or] at hr; exact h7 r d hr.1 hd
    · rintro r (rfl | rfl | rfl) hr
      · exact absurd rfl hr
      · exact h5
      · exact a6
    · intro M hm hM hN hs
      refine ⟨its,mp,M,⟨_,mb,es,by rw [hM h (.inl rfl)]; exact h1,by rw [hM mb (.inr (.inl rfl))]; exact h2,h3,h4,rfl,.inr ⟨b,cap,sp,rfl,by rw [hM b (.inr (.inr rfl))]; exact a2,a3,a4,a5,rfl⟩,fun r d _ hd => by cases hd⟩,hc,hh,hp,hs⟩
theorem CallL.openH {f : Nat} {vs : List AV} {Q : AV → Lg → Prop} (e : L h = some (.abs (HeapP h l seq)))
    (H : ∀ its mp K,HOpen L h its mp seq K → Cons its mp → HeapA its → its.Perm l → CallL F f vs K Q) : CallL F f vs L Q := by
  apply CallL.opens e
  rintro hm ⟨its,mp,M,ho,hc,hh,hp,hs⟩
  obtain ⟨sv,mb,es,h1,h2,h3,h4,h5,h6,h7⟩ := ho
  refine ⟨M,hs,by rw [h1]; simp,fun hf => ?_⟩
  have hover : ∀ b d,M b = some d → (M.over L) b = some d := fun b d hb => by simp [Lg.over,hb]
  refine H its mp (M.over L) ⟨sv,mb,es,hover _ _ h1,hover _ _ h2,h3,h4,hf _ _ h2 h4,?_,?_⟩ hc hh hp
  · rcases h6 with h6 | ⟨b,cap,sp,a1,a2,a3,a4,a5,a6⟩
    · exact .inl h6
    · exact .inr ⟨b,cap,sp,a1,hover _ _ a2,a3,a4,a5,hf _ _ a2 a4⟩
  · intro r d hr hd
    cases hM : M r with
    | none => simp [Lg.over,hM,hd]
    | some c => rw [hf r c hM hr] at hd; cases hd
theorem HOpen.back (ho : HOpen L h its mp seq K) (hc : Cons its mp) (hh : HeapA its) (hp : its.Perm l) (e : L h = some (.abs (HeapP h l seq))) : Sees K L := by
  have := ho.shut hc hh hp
  rwa [Lg.put_self L h _ e] at this
theorem Cons.find {A : List It} {mp : Int → Option Int} (hc : Cons A mp) (hp : A.Perm l) (id : Int) : (mp id = none ∧ findId id l = none) ∨ ∃ j,j < A.length ∧ mp id = some (j : Int) ∧ findId id l = some (gA A j) ∧ (gA A j).id = id := by
  have huniq : ∀ x y,x ∈ A → y ∈ A → x.id = y.id → x = y := by
    intro x y hx hy e
    obtain ⟨i,hi,rfl⟩ := List.getElem_of_mem hx
    obtain ⟨j,hj,rfl⟩ := List.getElem_of_mem hy
    have e1 : gA A i = A[i] := by simp [gA,hi]
    have e2 : gA A j = A[j] := by simp [gA,hj]
    rw [← e1,← e2] at e
    have := hc.1 i j hi hj e
    subst this; rfl
  cases hm : mp id with
  | none =>
    refine .inl ⟨rfl,?_⟩
    unfold findId
    rw [List.find?_eq_none]
    intro x hx
    have hxA := hp.mem_iff.2 hx
    obtain ⟨j,hj,rfl⟩ := List.getElem_of_mem hxA
    have := hc.2.1 j hj
    have e1 : gA A j = A[j] := by simp [gA,hj]
    rw [e1] at this
    simp
    rintro rfl
    rw [hm] at this; cases this
  | some v =>
    obtain ⟨j,hj,rfl,hid⟩ := hc.2.2 id v hm
    refine .inr ⟨j,hj,rfl,?_,hid⟩
    have e1 : gA A j = A[j] := by simp [gA,hj]
    have hmem : gA A j ∈ l := hp.mem_iff.1 (by rw [e1]; exact List.getElem_mem _)
    cases hf : findId id l with
    | none =>
      unfold findId at hf
      rw [List.find?_eq_none] at hf
      have := hf _ hmem
      simp [hid] at this
    | some z =>
      have hz1 := List.mem_of_find?_eq_some hf
      have hz2 := List.find?_some hf
      simp at hz2
      rw [huniq z (gA A j) (hp.mem_iff.2 hz1) (hp.mem_iff.2 hmem) (by rw [hz2,hid])]
theorem hlen_open (hf : H_f41 N F) (ho : HOpen L h its mp seq K) : CallL F (N k_f41) [.p (some (h,0))] K fun v K' => v = .i .i64 its.length ∧ K' = K := by
  obtain ⟨sv,mb,es,h1,h2,h3,h4,h5,h6,h7⟩ := ho
  apply r_f41 hf.code
  rcases h6 with ⟨rfl,rfl⟩ | ⟨b,cap,sp,rfl,a2,a3,a4,a5,a6⟩ <;> simp [D_f41_1,rdL,AB.read,look,h1]
def retIt (o : Option It) : AV := match o with
  | some x => .tup [x.av,.b true]
  | none => .tup [It.zero.av,.b false]
theorem hfind_open (hf : H_f25 N F) (ho : HOpen L h its mp seq K) (hc : Cons its mp) (hp : its.Perm l) (id : Int) : CallL F (N k_f25) [.p (some (h,0)),.i .i64 id] K fun v K' => v = retIt (findId id l) ∧ K' = K := by
  obtain ⟨sv,mb,es,h1,h2,h3,h4,h5,h6,h7⟩ := ho
  apply r_f25 hf.code
  generalize hQ : (fun (v : AV) (K' : Lg) => v = retIt (findId id l) ∧ K' = K) = Q
  unfold D_f25_1
  simp
  intro r hr
  have nb : ∀ {y : Nat} {k : LC},K y = some k → y ≠ r := fun hx hxr => by rw [hxr,hr] at hx; cases hx
  have n1 := nb h1
  have n2 := nb h2
  have hd : ∀ c : List AV,Sees (K.put r (.raw (.cells c))) K := fun c => ((Ext2.refl K).put hr _).sees
  rcases hc.find hp id with ⟨m1,m2⟩ | ⟨j,hj,m1,m2,m3⟩
  · simp [rdL,AB.read,look,Lg.put_apply,n1,h1,rLkupL,n2,h2,h3.find id,m1,fillP,stL_cells (Lg.put_same _ _ _),splice,res_cell_tmp _ _ (Lg.put_same _ _ _)]
    refine ⟨K,hd _,?_⟩
    subst hQ
    exact ⟨by rw [m2]; rfl,rfl⟩
  · rcases h6 with ⟨rfl,rfl⟩ | ⟨b,cap,sp,rfl,a2,a3,a4,a5,a6⟩
    · simp at hj
    · have n3 := nb a2
      have ej : (j : Int) < (its.length : Int) := by omega
      have hat := icells_at its j (gA its j) sp (gA_get hj)
      have hat2 := hat.2
      rw [List.length_append] at hat2
      simp [rdL,AB.read,look,Lg.put_apply,n1,h1,rLkupL,n2,h2,h3.find id,m1,wp_iad _ _ _ 3 b 0 its.length cap 3 .i64 (j : Int) (Int.natCast_nonneg _) ej,n3,a2,cut,ble_nat,hat.1,hat2]
      rw [stL_cells (Lg.put_same _ _ _) (by simp [It.cells]) (by simp [It.cells]) (by simp)]
      simp
      rw [res_cell_tmp _ _ (Lg.put_same _ _ _) (by simp [splice,It.cells])]
      simp [splice,It.cells]
      refine ⟨K,hd _,?_⟩
      subst hQ
      exact ⟨by rw [m2]; rfl,rfl⟩
theorem hmin_spec (hf : H_f42 N F) (e : L h = some (.abs (HeapP h l seq))) (hs : l.Pairwise It.lt) : CallL F (N k_f42) [.p (some (h,0))] L fun v L' => v = retIt l.head? ∧ L' = L := by
  apply CallL.openH e
  intro its mp K ho hc hh hp
  have hb := ho.back hc hh hp e
  apply r_f42 hf.code
  generalize hQ : (fun (v : AV) (K' : Lg) => v = retIt l.head? ∧ K' = L) = Q
  unfold D_f42_1
  simp
  intro r hr
  refine (hlen_open hf.f41 (ho.onto hr _)).mono ?_
  rintro _ K1 ⟨rfl,rfl⟩
  obtain ⟨sv,mb,es,h1,h2,h3,h4,h5,h6,h7⟩ := ho
  have nb : ∀ {y : Nat} {k : LC},K y = some k → y ≠ r := fun hx hxr => by rw [hxr,hr] at hx; cases hx
  have n1 := nb h1
  have hd : ∀ c : List AV,Sees (K.put r (.raw (.cells c))) L := fun c => (((Ext2.refl K).put hr _).sees).trans hb
  rcases h6 with ⟨rfl,rfl⟩ | ⟨b,cap,sp,rfl,a2,a3,a4,a5,a6⟩
  · have hl : l = [] := hp.symm.eq_nil
    simp [fillP,stL_cells (Lg.put_same _ _ _),splice,res_cell_tmp _ _ (Lg.put_same _ _ _)]
    refine ⟨L,hd _,?_⟩
    subst hQ
    subst hl
    exact ⟨rfl,rfl⟩
  · by_cases h0 : its.length = 0
    · have hi0 := List.length_eq_zero_iff.1 h0
      subst hi0
      have hl : l = [] := hp.symm.eq_nil
      simp [fillP,stL_cells (Lg.put_same _ _ _),splice,res_cell_tmp _ _ (Lg.put_same _ _ _)]
      refine ⟨L,hd _,?_⟩
      subst hQ
      subst hl
      exact ⟨rfl,rfl⟩
    · have h0' : ¬ ((its.length : Int) = 0) := by omega
      have h0'' : its ≠ [] := fun e => h0 (by rw [e]; rfl)
      have n3 := nb a2
      have ej : ((0 : Nat) : Int) < (its.length : Int) := by omega
      have hat := icells_at its 0 (gA its 0) sp (gA_get (by omega))
      have hat2 := hat.2
      rw [List.length_append] at hat2
      simp at hat hat2
      simp [h0,h0'',rdL,AB.read,look,Lg.put_apply,n1,h1,wp_iad _ _ _ 3 b 0 its.length cap 3 .i64 (0 : Int) (by omega) ej,n3,a2,cut,ble_nat,hat.1,hat2]
      rw [stL_cells (Lg.put_same _ _ _) (by simp [It.cells]) (by simp [It.cells]) (by simp)]
      simp
      rw [res_cell_tmp _ _ (Lg.put_same _ _ _) (by simp [splice,It.cells])]
      simp [splice,It.cells]
      refine ⟨L,hd _,?_⟩
      subst hQ
      have hhead : l.head? = some (gA its 0) := by
        cases hl : l with
        | nil => rw [hl] at hp; exact absurd hp.eq_nil h0''
        | cons z rest =>
          simp
          have hz : z ∈ its := hp.mem_iff.2 (by rw [hl]; simp)
          obtain ⟨j,hj,hzj⟩ := List.getElem_of_mem hz
          have hz2 : gA its j = z := by simp [gA,hj,hzj]
          have hroot := hh.root j hj
          have hmem : gA its 0 ∈ l := hp.mem_iff.1 (by
            have h00 : 0 < its.length := by omega
            have : gA its 0 = its[0] := by simp [gA,h00]
            rw [this]; exact List.getElem_mem _)
          rw [hl] at hmem hs
          rcases List.mem_cons.1 hmem with h9 | h9
          · exact h9.symm
          · rw [hz2] at hroot
            exact absurd ((List.pairwise_cons.1 hs).1 _ h9) hroot
      exact ⟨by rw [hhead]; rfl,rfl⟩

theorem cons_new {mp : Int → Option Int} {A : List It} (hc : Cons A mp) {x : It} (hx : mp x.id = none) : ConsH (A ++ [x]) mp A.length := by
  have g1 : ∀ j,j < A.length → gA (A ++ [x]) j = gA A j := by intro j hj; simp [gA,List.getElem?_append,hj]
  have g2 : gA (A ++ [x]) A.length = x := by simp [gA]
  refine ⟨?_,?_,?_⟩
  · intro j k hj hk e
    simp at hj hk
    by_cases j1 : j < A.length <;> by_cases k1 : k < A.length
    · rw [g1 j j1,g1 k k1] at e; exact hc.1 j k j1 k1 e
    · have : k = A.length := by omega
      subst this
      rw [g1 j j1,g2] at e
      have := hc.2.1 j j1
      rw [e,hx] at this; cases this
    · have : j = A.length := by omega
      subst this
      rw [g1 k k1,g2] at e
      have := hc.2.1 k k1
      rw [← e,hx] at this; cases this
    · omega
  · intro j hj hjn
    simp at hj
    have : j < A.length := by omega
    rw [g1 j this]
    exact hc.2.1 j this
  · intro k v hk
    obtain ⟨j,hj,hv,hid⟩ := hc.2.2 k v hk
    exact .inr ⟨j,by simp; omega,by omega,hv,by rw [g1 j hj]; exact hid⟩
theorem up_new {A : List It} (hh : HeapA A) (x : It) : Up (A ++ [x]) A.length := by
  have g1 : ∀ j,j < A.length → gA (A ++ [x]) j = gA A j := by intro j hj; simp [gA,List.getElem?_append,hj]
  refine ⟨fun j h0 hj hjn => ?_,fun j h0 hj hp _ => ?_⟩
  · simp at hj
    have h1 : j < A.length := by omega
    have := par_lt h0
    rw [g1 j h1,g1 _ (by omega)]
    exact hh j h0 h1
  · simp at hj
    have := par_lt h0
    omega
theorem hadd_spec (hf : H_f35 N F) (e : L h = some (.abs (HeapP h l seq))) (hl : l.length < 1000000) (hq : 0 ≤ seq ∧ seq < 4611686018427387904) (id when : Int) :
    CallL F (N k_f35) [.p (some (h,0)),.i .i64 id,.i .i64 when] L fun v L' =>
      if (findId id l).isSome = true then v = .i .i64 1 ∧ L' = L else v = .i .i64 0 ∧ L' = L.put h (.abs (HeapP h (ins ⟨id,when,seq + 1⟩ l) (seq + 1))) := by
  apply CallL.openH e
  intro its mp K ho hc hh hp
  have hb := ho.back hc hh hp e
  apply r_f35 hf.code
  generalize hQ : (fun (v : AV) (L' : Lg) => if (findId id l).isSome = true then v = .i .i64 1 ∧ L' = L else v = .i .i64 0 ∧ L' = L.put h (.abs (HeapP h (ins ⟨id,when,seq + 1⟩ l) (seq + 1)))) = Q
  unfold D_f35_1 D_f35_2 D_f35_3
  have ho' := ho
  obtain ⟨sv,mb,es,h1,h2,h3,h4,h5,h6,h7⟩ := ho'
  have plen := hp.length_eq
  rcases hc.find hp id with ⟨m1,m2⟩ | ⟨j,hj,m1,m2,m3⟩
  · simp [rdL,AB.read,look,h1,rLkupL,h2,h3.find id,m1]
    unfold D_f35_4
    have w1 : wr .i64 (seq + 1) = seq + 1 := wr_id (by omega) (by omega)
    obtain ⟨x,hx⟩ : ∃ x : It,x = ⟨id,when,seq + 1⟩ := ⟨_,rfl⟩
    have hxc : x.cells = [.i .i64 id,.i .i64 when,.i .i64 (seq + 1)] := by rw [hx]; rfl
    simp [rdL,AB.read,look,h1,w1,stL_cell h1,fillP,splice,ble_nat,beq_nat]
    rw [newL_bslice (c := x.cells) _ _ (by rw [hxc]; simp [reps,fillP,cellsOf_agg',splice,ble_nat,beq_nat]) (by rw [hxc]; simp)]
    intro b1 hb1
    rw [show [sv,AV.m (some mb),AV.i .i64 seq].set 2 (.i .i64 (seq + 1)) = [sv,.m (some mb),.i .i64 (seq + 1)] from rfl] at *
    have n1 : b1 ≠ h := by rintro rfl; simp at hb1
    rw [Lg.put_ne _ _ _ n1] at hb1
    have nb : ∀ {y : Nat} {k : LC},K y = some k → y ≠ b1 := fun hx hxr => by rw [hxr,hb1] at hx; cases hx
    have upcall : ∀ {K2 : Lg},HOpen L h (its ++ [x]) mp (seq + 1) K2 → CallL F (N k_f31) [.p (some (h,0)),.i .i64 its.length] K2 fun v25 L25 => fin1 (some (.i .i64 0)) Q L25 := by
      intro K2 hk2
      have hxn : mp x.id = none := by rw [hx]; exact m1
      have hup := up_new hh x
      refine (hup_spec hf.f31 hk2 its.length (by simp) (by simp; omega) (cons_new hc hxn) ⟨fun j a b c d => hup.1 j a b c,hup.2⟩).mono ?_
      rintro _ K3 ⟨rfl,A',mp',p1,ho3,hc3,hh3,_⟩
      have hp3 : A'.Perm (ins x l) := p1.trans (((hp.append (List.Perm.refl [x])).trans List.perm_append_comm).trans (ins_perm x l).symm)
      refine ⟨_,ho3.shut hc3 (hh3 hup) hp3,?_⟩
      subst hQ
      simp [m2,hx]
    have hrd : rdCellsL ((K.put h (.raw (.cells [sv,.m (some mb),.i .i64 (seq + 1)]))).put b1 (.raw (.cells x.cells))) (some (b1,0)) (1 * 3) = some x.cells := by
      simp [rdCellsL,AB.read,cut,hxc,ble_nat]
    have hxone : x.cells.all AV.one = true := by rw [hxc]; simp
    have hxlen : x.cells.length = 3 := by rw [hxc]; rfl
    have hnb1 := nb h1
    have hmb1 := nb h2
    have wl : ∀ n : Nat,n ≤ 1000000 → wr .i64 (n : Int) = (n : Int) := fun n hn => wr_id (by omega) (by omega)
    have tail : ∀ (b2 : Nat) (Kb : Lg) (c : List AV),(∀ r,r ≠ b2 → r ≠ h → r ≠ b1 → K r ≠ none → L r ≠ none ∨ r = mb → Kb r = K r) → Kb h = some (.raw (.cells [sv,.m (some mb),.i .i64 (seq + 1)])) → b2 ≠ h → K b2 = none → c = icells (its ++ [x]) →
        (fun v16 L16 => wpOp F .nilchk [.p (some (h,0))] L16 fun v17 L17 => wpOp F (.fad 0) [v17] L17 fun v18 L18 => wpOp F (.st 1) [v18,v16] L18 fun _ L19 =>
          wpOp F .nilchk [.p (some (h,0))] L19 fun v20 L20 => wpOp F (.fad 0) [v20] L20 fun v21 L21 => wpOp F (.ld none) [v21] L21 fun v22 L22 => wpOp F .lenSl [v22] L22 fun v23 L23 =>
          wpOp F (.bin .sub) [v23,(.i .i64 1)] L23 fun v24 L24 => CallL F (N k_f31) [.p (some (h,0)),v24] L24 fun v25 L25 => fin1 (some (.i .i64 0)) Q L25) (.sl (some (b2,0)) (its.length + 1) (its.length + 1) 3) (Kb.put b2 (.raw (.cells c))) := by
      intro b2 Kb c hKb hKh n3 hb2 hc2
      have nb2 : ∀ {y : Nat} {k : LC},K y = some k → y ≠ b2 := fun hx hxr => by rw [hxr,hb2] at hx; cases hx
      have hmb2 := nb2 h2
      simp [rdL,AB.read,look,Lg.put_apply,Ne.symm n3,hKh,stL,wrL,splice_one,wl its.length (by omega)]
      refine upcall ⟨.sl (some (b2,0)) (its.length + 1) (its.length + 1) 3,mb,es,Lg.put_same _ _ _,?_,h3,h4,h5,.inr ⟨b2,its.length + 1,[],by simp,?_,by simp,n3,Ne.symm hmb2,(ho.ne hb2).2⟩,?_⟩
      · have := hKb mb hmb2 h4 hmb1 (by rw [h2]; simp) (.inr rfl)
        simp [Lg.put_apply,h4,hmb2,this,h2]
      · simp [Lg.put_apply,n3,hc2]
      · intro r d hr hd
        have hk := h7 r d hr hd
        have c1 : r ≠ b1 := by rintro rfl; rw [hk] at hb1; cases hb1
        have c2 : r ≠ b2 := by rintro rfl; rw [hk] at hb2; cases hb2
        have := hKb r c2 hr c1 (by rw [hk]; simp) (.inl (by rw [hd]; simp))
        simp [Lg.put_apply,hr,c2,this,hk]
    rcases h6 with ⟨rfl,rfl⟩ | ⟨b,cap,sp,rfl,a2,a3,a4,a5,a6⟩
    · simp
      refine appW_grow (m := 1) hrd hxone (by omega) (by omega) (old := []) (by simp [rdCellsL]) (by simp [goneL]; rfl) ?_
      intro b2 hb2
      have n2 : b2 ≠ b1 := by rintro rfl; simp at hb2
      have n3 : b2 ≠ h := by rintro rfl; simp [Lg.put_apply,hnb1] at hb2
      rw [Lg.put_ne _ _ _ n2,Lg.put_ne _ _ _ n3] at hb2
      refine tail b2 _ _ ?_ ?_ n3 hb2 ?_
      · intro r c1 c2 c3 _ _; simp [Lg.put_apply,c2,c3]
      · simp [Lg.put_apply,hnb1]
      · simp [icells]
    · have n3 := nb a2
      have eb : ((K.put h (.raw (.cells [.sl (some (b,0)) its.length cap 3,.m (some mb),.i .i64 (seq + 1)]))).put b1 (.raw (.cells x.cells))) b = some (.raw (.cells (icells its ++ sp))) := by
        simp [Lg.put_apply,n3,a4,a2]
      by_cases hcap : its.length + 1 ≤ cap
      · have hle : its.length * 3 + x.cells.length ≤ (icells its ++ sp).length := by rw [List.length_append,icells_length,hxlen]; omega
        have hsp : splice (icells its ++ sp) (its.length * 3) x.cells = icells (its ++ [x]) ++ sp.drop 3 := by
          unfold splice
          rw [← icells_length its,List.take_left,← List.drop_drop,List.drop_left,icells_append,hxlen]
          simp [icells]
        simp
        refine appW_room (m := 1) hrd hxone hcap (by omega) (L' := (((K.put h (.raw (.cells [.sl (some (b,0)) its.length cap 3,.m (some mb),.i .i64 (seq + 1)]))).put b1 (.raw (.cells x.cells))).put b (.raw (.cells (icells (its ++ [x]) ++ sp.drop 3))))) ?_ ?_
        · simp only [wrL,Nat.zero_add,eb,hle,hxone,and_self,if_true,hsp]
        · simp [rdL,AB.read,look,Lg.put_apply,hnb1,Ne.symm a4,stL,wrL,splice_one,wl its.length (by omega)]
          refine upcall ⟨.sl (some (b,0)) (its.length + 1) cap 3,mb,es,Lg.put_same _ _ _,?_,h3,h4,h5,.inr ⟨b,cap,sp.drop 3,by simp,?_,?_,a4,a5,a6⟩,?_⟩
          · simp [Lg.put_apply,h4,hmb1,Ne.symm a5,h2]
          · simp [Lg.put_apply,a4]
          · simp; omega
          · intro r d hr hd
            have hk := h7 r d hr hd
            have c1 : r ≠ b1 := by rintro rfl; rw [hk] at hb1; cases hb1
            have c2 : r ≠ b := by rintro rfl; rw [a6] at hd; cases hd
            simp [Lg.put_apply,hr,c1,c2,hk]
      · have hsp0 : sp = [] := List.length_eq_zero_iff.1 (by omega)
        subst hsp0
        have hcut : its.length * 3 ≤ (icells its).length := by rw [icells_length]; omega
        have htake : (icells its).take (its.length * 3) = icells its := List.take_of_length_le (by rw [icells_length]; omega)
        simp
        refine appW_grow (m := 1) hrd hxone hcap (by omega) (old := icells its) ?_ (L' := (((K.put h (.raw (.cells [.sl (some (b,0)) its.length cap 3,.m (some mb),.i .i64 (seq + 1)]))).put b1 (.raw (.cells x.cells))).del b)) ?_ ?_
        · simp only [rdCellsL,eb,AB.read,List.append_nil,cut,ble_nat,Nat.zero_add,hcut,decide_true,cond_true,List.drop_zero,htake]
        · simp only [goneL,eb]; simp
        · intro b2 hb2
          have n2 : b2 ≠ b1 := by rintro rfl; simp at hb2
          have n4 : b2 ≠ h := by rintro rfl; simp [Lg.put_apply,hnb1] at hb2
          rw [Lg.put_ne _ _ _ n2,Lg.put_ne _ _ _ n4] at hb2
          refine tail b2 _ _ ?_ ?_ n4 hb2 ?_
          · intro r c1 c2 c3 _ hor
            have c4 : r ≠ b := by
              rintro rfl
              rcases hor with h9 | h9
              · exact h9 a6
              · exact a5 h9
            simp [Lg.put_apply,Lg.del_apply,c2,c3,c4]
          · simp [Lg.put_apply,Lg.del_apply,hnb1,Ne.symm a4]
          · rw [icells_append]; simp [icells]
  · simp [rdL,AB.read,look,h1,rLkupL,h2,h3.find id,m1]
    refine ⟨L,hb,?_⟩
    subst hQ
    simp [m2]
end
end Go.AM


set_option linter.unusedVariables false
set_option linter.unusedSimpArgs false
namespace Go.AM
variable {N : Nat → Nat} {F : Nat → Option AFn}

theorem slc_hi {s r o len cap ex m : Nat} {j : IntKind} (h1 : m ≤ cap) (h2 : ex = 0 ∨ ex = s) : slcV s false true false [.sl (some (r,o)) len cap ex,.i j (m : Int)] = some (.sl (some (r,o)) m cap ex) := by
  show (bif Nat.ble 0 m && Nat.ble m cap && Nat.ble cap cap && (Nat.beq ex 0 || Nat.beq ex s) then _ else _) = _
  have : (Nat.beq ex 0 || Nat.beq ex s) = true := by rcases h2 with rfl | rfl <;> simp [beq_nat]
  simp [ble_nat,h1,this]
section
variable {L L0 K : Lg} {h : Nat} {its l : List It} {mp : Int → Option Int} {seq : Int}
theorem HOpen.sub (ho : HOpen L0 h its mp seq K) (hs : ∀ r d,r ≠ h → L r = some d → L0 r = some d) : HOpen L h its mp seq K := by
  obtain ⟨sv,mb,es,h1,h2,h3,h4,h5,h6,h7⟩ := ho
  have hn : ∀ r,r ≠ h → L0 r = none → L r = none := by
    intro r hr h0
    cases e : L r with
    | none => rfl
    | some d => rw [hs r d hr e] at h0; cases h0
  refine ⟨sv,mb,es,h1,h2,h3,h4,hn mb h4 h5,?_,fun r d hr hd => h7 r d hr (hs r d hr hd)⟩
  rcases h6 with h6 | ⟨b,cap,sp,a1,a2,a3,a4,a5,a6⟩
  · exact .inl h6
  · exact .inr ⟨b,cap,sp,a1,a2,a3,a4,a5,hn b a4 a6⟩
theorem HOpen.putOld (ho : HOpen L h its mp seq K) {r : Nat} {d : LC} (hr : r ≠ h) (hd : L r = some d) (d' : LC) : HOpen (L.put r d') h its mp seq (K.put r d') := by
  obtain ⟨sv,mb,es,h1,h2,h3,h4,h5,h6,h7⟩ := ho
  have n1 : mb ≠ r := by rintro rfl; rw [hd] at h5; cases h5
  refine ⟨sv,mb,es,by rw [Lg.put_ne _ _ _ (Ne.symm hr)]; exact h1,by rw [Lg.put_ne _ _ _ n1]; exact h2,h3,h4,by rw [Lg.put_ne _ _ _ n1]; exact h5,?_,?_⟩
  · rcases h6 with h6 | ⟨b,cap,sp,a1,a2,a3,a4,a5,a6⟩
    · exact .inl h6
    · have n2 : b ≠ r := by rintro rfl; rw [hd] at a6; cases a6
      exact .inr ⟨b,cap,sp,a1,by rw [Lg.put_ne _ _ _ n2]; exact a2,a3,a4,a5,by rw [Lg.put_ne _ _ _ n2]; exact a6⟩
  · intro x k hx hk
    rw [Lg.put_apply] at hk ⊢
    split
    · rename_i h9; rw [if_pos h9] at hk; exact hk
    · rename_i h9; rw [if_neg h9] at hk; exact h7 x k hx hk

theorem gA_take {A : List It} {n j : Nat} (hj : j < n) : gA (A.take n) j = gA A j := by
  simp [gA,List.getElem?_take,hj]
theorem cons_drop {A : List It} {mp : Int → Option Int} (hc : Cons A mp) (hn : 0 < A.length) : Cons (A.take (A.length - 1)) (updI mp (gA A (A.length - 1)).id none) := by
  have hl : (A.take (A.length - 1)).length = A.length - 1 := by simp
  refine ⟨?_,?_,?_⟩
  · intro j k hj hk e
    rw [hl] at hj hk
    rw [gA_take hj,gA_take hk] at e
    exact hc.1 j k (by omega) (by omega) e
  · intro j hj
    rw [hl] at hj
    rw [gA_take hj]
    unfold updI
    have : (gA A (A.length - 1)).id ≠ (gA A j).id := fun e => by have := hc.1 _ _ (by omega) (by omega) e; omega
    rw [if_neg this]
    exact hc.2.1 j (by omega)
  · intro k v hk
    unfold updI at hk
    split at hk
    · cases hk
    · rename_i hne
      obtain ⟨j,hj,hv,hid⟩ := hc.2.2 k v hk
      have : j ≠ A.length - 1 := by rintro rfl; exact hne hid
      exact ⟨j,by rw [hl]; omega,hv,by rw [gA_take (by omega)]; exact hid⟩
theorem heap_drop {A : List It} (hh : HeapA A) : HeapA (A.take (A.length - 1)) := by
  intro j h0 hj
  simp at hj
  have := par_lt h0
  rw [gA_take (by omega),gA_take (by omega)]
  exact hh j h0 (by omega)
theorem cons_fill {A : List It} {mp : Int → Option Int} (hc : Cons A mp) {i : Nat} (hi : i < A.length - 1) :
    Cons ((A.take (A.length - 1)).set i (gA A (A.length - 1))) (updI (updI mp (gA A i).id none) (gA A (A.length - 1)).id (some (i : Int))) := by
  have hl : (A.take (A.length - 1)).length = A.length - 1 := by simp
  have hg : ∀ j,j < A.length - 1 → gA ((A.take (A.length - 1)).set i (gA A (A.length - 1))) j = if i = j then gA A (A.length - 1) else gA A j := by
    intro j hj; rw [gA_set (by rw [hl]; exact hi)]; split
    · rfl
    · exact gA_take hj
  have hl' : ((A.take (A.length - 1)).set i (gA A (A.length - 1))).length = A.length - 1 := by simp
  have huniq : ∀ j k,j < A.length → k < A.length → (gA A j).id = (gA A k).id → j = k := hc.1
  refine ⟨?_,?_,?_⟩
  · intro j k hj hk e
    rw [hl'] at hj hk
    rw [hg j hj,hg k hk] at e
    by_cases j1 : i = j <;> by_cases k1 : i = k
    · omega
    · simp only [j1,if_true] at e
      rw [if_neg (by omega)] at e
      have := huniq _ _ (by omega) (by omega) e; omega
    · simp only [k1,if_true] at e
      rw [if_neg (by omega)] at e
      have := huniq _ _ (by omega) (by omega) e; omega
    · simp only [j1,k1,if_false] at e
      exact huniq _ _ (by omega) (by omega) e
  · intro j hj
    rw [hl'] at hj
    rw [hg j hj]
    unfold updI
    by_cases j1 : i = j
    · simp [j1]
    · simp only [j1,if_false]
      have n1 : (gA A (A.length - 1)).id ≠ (gA A j).id := fun e => by have := huniq _ _ (by omega) (by omega) e; omega
      have n2 : (gA A i).id ≠ (gA A j).id := fun e => by have := huniq _ _ (by omega) (by omega) e; omega
      rw [if_neg n1,if_neg n2]
      exact hc.2.1 j (by omega)
  · intro k v hk
    unfold updI at hk
    split at hk
    · rename_i h1; cases hk
      exact ⟨i,by rw [hl']; exact hi,rfl,by rw [hg i hi,if_pos rfl]; exact h1⟩
    · rename_i h1
      split at hk
      · cases hk
      · rename_i h2
        obtain ⟨j,hj,hv,hid⟩ := hc.2.2 k v hk
        have a1 : j ≠ A.length - 1 := by rintro rfl; exact h1 hid
        have a2 : i ≠ j := by rintro rfl; exact h2 hid
        exact ⟨j,by rw [hl']; omega,hv,by rw [hg j (by omega),if_neg a2]; exact hid⟩
theorem exx_fill {A : List It} (hh : HeapA A) {i : Nat} (hi : i < A.length - 1) (y : It) : Exx ((A.take (A.length - 1)).set i y) i := by
  have hl : (A.take (A.length - 1)).length = A.length - 1 := by simp
  have hg : ∀ j,j < A.length - 1 → j ≠ i → gA ((A.take (A.length - 1)).set i y) j = gA A j := by
    intro j hj hji; rw [gA_set (by rw [hl]; exact hi),if_neg (Ne.symm hji)]; exact gA_take hj
  refine ⟨fun j h0 hj hji hp => ?_,fun j h0 hj hp h00 => ?_⟩
  · simp at hj
    have := par_lt h0
    rw [hg j (by omega) hji,hg _ (by omega) hp]
    exact hh j h0 (by omega)
  · simp at hj
    have h1 := par_lt h0
    have h2 := par_lt h00
    rw [hg j (by omega) (by omega),hg _ (by omega) (by omega)]
    have a1 := hh j h0 (by omega)
    rw [hp] at a1
    exact It.ge_trans a1 (hh i h00 (by omega))
theorem take_last {A : List It} (hn : 0 < A.length) : A.take (A.length - 1) ++ [gA A (A.length - 1)] = A := by
  have h1 : gA A (A.length - 1) = A[A.length - 1] := by simp [gA,show A.length - 1 < A.length by omega]
  rw [h1]
  have := List.take_append_getElem (l := A) (i := A.length - 1) (by omega)
  rw [this]
  exact List.take_of_length_le (by omega)
theorem rm_perm {A : List It} (hc : Ids A) {i : Nat} (hi : i < A.length) (hp : A.Perm l) : ∀ B : List It,(gA A i :: B).Perm A → B.Perm (rmId (gA A i).id l) := by
  intro B hB
  have h1 := (hB.trans hp).filter (fun y => !decide (y.id = (gA A i).id))
  have h2 : (gA A i :: B).filter (fun y => !decide (y.id = (gA A i).id)) = B := by
    rw [List.filter_cons]
    simp
    intro y hy
    -- one and no other has that number
    intro hid
    have hcnt : (A.filter fun y => decide (y.id = (gA A i).id)).length ≤ 1 := by
      have : ∀ (A : List It),Ids A → ∀ d,(A.filter fun y => decide (y.id = d)).length ≤ 1 := by
        intro A
        induction A with
        | nil => intro _ d; simp
        | cons a r ih =>
          intro hA d
          have hr : Ids r := by
            intro j k hj hk e
            have := hA (j + 1) (k + 1) (by simpa using hj) (by simpa using hk) (by simpa [gA] using e)
            omega
          rw [List.filter_cons]
          split
          · rename_i had
            simp at had
            have : (r.filter fun y => decide (y.id = d)) = [] := by
              rw [List.filter_eq_nil_iff]
              intro z hz
              simp
              intro hzd
              obtain ⟨k,hk,rfl⟩ := List.getElem_of_mem hz
              have := hA 0 (k + 1) (by simp) (by simpa using hk) (by simp [gA,hk,had,hzd])
              omega
            simp [this]
          · exact ih hr d
      exact this A hc _
    have h3 := (hB.filter (fun y => decide (y.id = (gA A i).id))).length_eq
    rw [List.filter_cons] at h3
    simp at h3
    have h4 : 0 < (B.filter fun y => decide (y.id = (gA A i).id)).length := List.length_pos_iff.2 (by
      intro e9
      have : y ∈ B.filter fun y => decide (y.id = (gA A i).id) := by simp [hy,hid]
      rw [e9] at this; cases this)
    omega
  rw [h2] at h1
  exact h1

theorem drop_perm {A : List It} (hc : Ids A) (hp : A.Perm l) (hn : 0 < A.length) : (A.take (A.length - 1)).Perm (rmId (gA A (A.length - 1)).id l) := by
  refine rm_perm hc (by omega) hp _ ?_
  have h1 := take_last hn
  have h2 : (gA A (A.length - 1) :: A.take (A.length - 1)).Perm (A.take (A.length - 1) ++ [gA A (A.length - 1)]) := List.perm_append_comm (l₁ := [gA A (A.length - 1)])
  rw [h1] at h2
  exact h2
theorem fill_perm {A : List It} (hc : Ids A) (hp : A.Perm l) {i : Nat} (hi : i < A.length - 1) : ((A.take (A.length - 1)).set i (gA A (A.length - 1))).Perm (rmId (gA A i).id l) := by
  refine rm_perm hc (by omega) hp _ ?_
  have h1 := cons_set_perm (gA A (A.length - 1)) (A.take (A.length - 1)) i (by simp; omega)
  have h2 : (A.take (A.length - 1))[i]'(by simp; omega) = gA A i := by
    simp [gA,show i < A.length by omega]
  rw [h2] at h1
  refine h1.trans ?_
  have h4 : (gA A (A.length - 1) :: A.take (A.length - 1)).Perm (A.take (A.length - 1) ++ [gA A (A.length - 1)]) := List.perm_append_comm (l₁ := [gA A (A.length - 1)])
  rw [take_last (by omega)] at h4
  exact h4
theorem icells_last {A : List It} (sp : List AV) (hn : 0 < A.length) : icells A ++ sp = icells (A.take (A.length - 1)) ++ ((gA A (A.length - 1)).cells ++ sp) := by
  have h1 : icells A = icells (A.take (A.length - 1) ++ [gA A (A.length - 1)]) := by rw [take_last hn]
  rw [h1,icells_append]
  simp [icells]
theorem hremove_spec (hf : H_f33 N F) (e : L h = some (.abs (HeapP h l seq))) (hl : l.length ≤ 1000000) (id : Int) :
    CallL F (N k_f33) [.p (some (h,0)),.i .i64 id] L fun v L' => v = retIt (findId id l) ∧ L' = L.put h (.abs (HeapP h (rmId id l) seq)) := by
  apply CallL.openH e
  intro its mp K ho hc hh hp
  have plen := hp.length_eq
  apply r_f33 hf.code
  generalize hQ : (fun (v : AV) (L' : Lg) => v = retIt (findId id l) ∧ L' = L.put h (.abs (HeapP h (rmId id l) seq))) = Q
  unfold D_f33_1 D_f33_2
  simp
  intro rc hrc
  have z1 := ho.onto hrc (.raw (.cells [.i .i64 0,.i .i64 0,.i .i64 0]))
  have nrc := ho.ne hrc
  refine (hfind_open hf.f25 z1 hc hp id).mono ?_
  rintro _ K1 ⟨rfl,rfl⟩
  rcases hc.find hp id with ⟨m1,m2⟩ | ⟨j,hj,m1,m2,m3⟩
  · rw [m2] at hQ ⊢
    simp [retIt,It.av]
    intro x6 hx6
    have nx6 := z1.ne hx6
    rw [stL_cells (Lg.put_same _ _ _) (by simp [It.cells]) (by simp [It.cells]) (by simp),Lg.put_put]
    have n6 : x6 ≠ rc := by rintro rfl; simp at hx6
    unfold D_f33_3
    have erc : ((K.put rc (.raw (.cells [.i .i64 0,.i .i64 0,.i .i64 0]))).put x6 (.raw (.cells (splice [.i .i64 0,.i .i64 0,.i .i64 0] 0 It.zero.cells)))) rc = some (.raw (.cells [.i .i64 0,.i .i64 0,.i .i64 0])) := by
      rw [Lg.put_ne _ _ _ (Ne.symm n6),Lg.put_same]
    simp [fillP]
    rw [stL_cells erc (by simp) (by simp) (by simp)]
    rw [res_cell_tmp _ _ (Lg.put_same _ _ _) (by simp [splice])]
    refine ⟨L,?_,?_⟩
    · have hb := ho.back hc hh hp e
      refine Sees.trans (Sees.drop ?_) hb
      intro r d hr
      have c1 : r ≠ rc := by rintro rfl; rw [hrc] at hr; cases hr
      have c2 : r ≠ x6 := by
        rintro rfl
        rw [Lg.put_ne _ _ _ n6,hr] at hx6; cases hx6
      simp [Lg.put_apply,c1,c2,hr]
    · subst hQ
      refine ⟨rfl,?_⟩
      have : rmId id l = l := by
        unfold rmId
        rw [List.filter_eq_self]
        intro y hy
        unfold findId at m2
        rw [List.find?_eq_none] at m2
        have := m2 y hy
        simpa using this
      rw [this,Lg.put_self L h _ e]
  · rw [m2] at hQ ⊢
    obtain ⟨x,hx⟩ : ∃ x,x = gA its j := ⟨_,rfl⟩
    rw [← hx] at hQ m3 ⊢
    simp [retIt,It.av]
    intro x6 hx6
    have nx6 := z1.ne hx6
    have z2 := z1.onto hx6 (.raw (.cells x.cells))
    rw [stL_cells (Lg.put_same _ _ _) (by simp [It.cells]) (by simp [It.cells]) (by simp),Lg.put_put,show splice [AV.i .i64 0,.i .i64 0,.i .i64 0] 0 x.cells = x.cells by simp [splice,It.cells]]
    unfold D_f33_3 D_f33_4
    have hpos : 0 < its.length := by omega
    obtain ⟨n,hn⟩ : ∃ n,n = its.length - 1 := ⟨_,rfl⟩
    have w1 : wr .i64 ((its.length : Int) - 1) = (n : Int) := by rw [wr_id (by omega) (by omega)]; omega
    obtain ⟨lastI,hlast⟩ : ∃ y,y = gA its n := ⟨_,rfl⟩
    have z2' := z2
    obtain ⟨sv,mb,es,h1,h2,h3,h4,h5,h6,h7⟩ := z2'
    rcases h6 with ⟨rfl,_⟩ | ⟨b,cap,sp,rfl,a2,a3,a4,a5,a6⟩
    · simp at hpos
    have en : (n : Int) < (its.length : Int) := by omega
    have hat := icells_at its n lastI sp (by rw [hlast]; exact gA_get (by omega))
    have hat2 := hat.2
    rw [List.length_append] at hat2
    have hncap : n ≤ cap := by omega
    simp [rdL,AB.read,look,h1,h2,rLkupL,h3.find id,m1,w1]
    unfold D_f33_5
    simp [rdL,AB.read,look,h1,wp_iad _ _ _ 3 b 0 its.length cap 3 .i64 (n : Int) (Int.natCast_nonneg _) en,a2,cut,ble_nat,hat.1,hat2]
    intro x10 hx10
    have nx10 := z2.ne hx10
    have z3 := z2.onto hx10 (.raw (.cells lastI.cells))
    rw [stL_cells (Lg.put_same _ _ _) (by simp [It.cells]) (by simp [It.cells]) (by simp),Lg.put_put,show splice [AV.i .i64 0,.i .i64 0,.i .i64 0] 0 lastI.cells = lastI.cells by simp [splice,It.cells]]
    obtain ⟨L0,hL0⟩ : ∃ L0,L0 = ((L.put rc (.raw (.cells [.i .i64 0,.i .i64 0,.i .i64 0]))).put x6 (.raw (.cells x.cells))).put x10 (.raw (.cells lastI.cells)) := ⟨_,rfl⟩
    rw [← hL0] at z3
    have n6 : x6 ≠ rc := by rintro rfl; simp at hx6
    have n10 : x10 ≠ x6 := by rintro rfl; simp at hx10
    have n10' : x10 ≠ rc := by rintro rfl; rw [Lg.put_ne _ _ _ n10,Lg.put_same] at hx10; cases hx10
    have r10 : L0 x10 = some (.raw (.cells lastI.cells)) := by rw [hL0]; exact Lg.put_same _ _ _
    have r6 : L0 x6 = some (.raw (.cells x.cells)) := by rw [hL0,Lg.put_ne _ _ _ (Ne.symm n10)]; exact Lg.put_same _ _ _
    have rrc : L0 rc = some (.raw (.cells [.i .i64 0,.i .i64 0,.i .i64 0])) := by rw [hL0,Lg.put_ne _ _ _ (Ne.symm n10'),Lg.put_ne _ _ _ (Ne.symm n6)]; exact Lg.put_same _ _ _
    have hsub : ∀ r d,r ≠ h → L r = some d → L0 r = some d := by
      intro r d hr hd
      have c1 : r ≠ rc := by rintro rfl; rw [nrc.2] at hd; cases hd
      have c2 : r ≠ x6 := by
        rintro rfl
        have := nx6.2
        rw [Lg.put_ne _ _ _ n6,hd] at this; cases this
      have c3 : r ≠ x10 := by
        rintro rfl
        have := nx10.2
        rw [Lg.put_ne _ _ _ n10,Lg.put_ne _ _ _ n10',hd] at this; cases this
      rw [hL0]; simp [Lg.put_apply,c1,c2,c3,hd]
    -- the end: what was there is handed out
    have fin2 : ∀ {its' : List It} {mp' : Int → Option Int} {K' : Lg},HOpen L0 h its' mp' seq K' → Cons its' mp' → HeapA its' → its'.Perm (rmId id l) →
        stL 3 K' (fun _ L19 => fin1 (resVL Env.nil Env.nil L19 [.cell (.c (.p (some (rc,0)))) (some 3),.tmp (.c (.b true))]) Q L19) [.p (some (rc,0)),.agg x.cells] := by
      intro its' mp' K' ho' hc' hh' hp'
      have krc := ho'.old nrc.1 rrc
      rw [stL_cells krc (by simp [It.cells]) (by simp [It.cells]) (by simp)]
      rw [res_cell_tmp _ _ (Lg.put_same _ _ _) (by simp [splice,It.cells])]
      have ho2 := (ho'.putOld nrc.1 rrc (.raw (.cells (splice [.i .i64 0,.i .i64 0,.i .i64 0] 0 x.cells)))).sub (L := L) (fun r d hr hd => by
        have c1 : r ≠ rc := by rintro rfl; rw [nrc.2] at hd; cases hd
        rw [Lg.put_ne _ _ _ c1]; exact hsub r d hr hd)
      refine ⟨_,ho2.shut hc' hh' hp',?_⟩
      subst hQ
      exact ⟨by simp [splice,It.cells,It.av,retIt],rfl⟩
    have fin : ∀ {its' : List It} {mp' : Int → Option Int} {K' : Lg},HOpen L0 h its' mp' seq K' → Cons its' mp' → HeapA its' → its'.Perm (rmId id l) →
        wpOp F (.ld (some 3)) [.p (some (x6,0))] K' fun v18 L18 => wpOp F (.st 3) [.p (some (rc,0)),v18] L18 fun _ L19 =>
          fin1 (resVL Env.nil Env.nil L19 [.cell (.c (.p (some (rc,0)))) (some 3),.tmp (.c (.b true))]) Q L19 := by
      intro its' mp' K' ho' hc' hh' hp'
      have k6 := ho'.old nx6.1 r6
      simp [rdL_cells k6 (show 0 + 3 ≤ x.cells.length by simp [It.cells])]
      have : AV.agg (List.take 3 x.cells) = .agg x.cells := by simp [It.cells]
      rw [this]
      exact fin2 ho' hc' hh' hp'
    obtain ⟨K3,hK3⟩ : ∃ K3,K3 = ((K.put rc (.raw (.cells [.i .i64 0,.i .i64 0,.i .i64 0]))).put x6 (.raw (.cells x.cells))).put x10 (.raw (.cells lastI.cells)) := ⟨_,rfl⟩
    rw [← hK3] at z3 ⊢
    clear h1 h2 h3 h4 h5 h7 a2 a3 a4 a5 a6 hat hat2 hncap hK3
    unfold D_f33_6
    have zz := z3
    obtain ⟨sv,mb,es,h1,h2,h3,h4,h5,h6,h7⟩ := z3
    rcases h6 with ⟨rfl,_⟩ | ⟨b,cap,sp,rfl,a2,a3,a4,a5,a6⟩
    · simp at hpos
    have hncap : n ≤ cap := by omega
    have hb10 : x10 ≠ h := nx10.1
    simp [rdL,AB.read,look,h1,slc_hi hncap (.inr rfl),stL_cell h1]
    unfold D_f33_7
    obtain ⟨es',hes,hM⟩ := h3.del id
    have nbm : x10 ≠ mb := by rintro rfl; rw [h5] at r10; cases r10
    have nb6 : x6 ≠ mb := by rintro rfl; rw [h5] at r6; cases r6
    -- the row without the last one
    have hrow : HOpen L0 h (its.take n) (updI mp id none) seq ((K3.put h (.raw (.cells ([.sl (some (b,0)) its.length cap 3,.m (some mb),.i .i64 seq].set 0 (.sl (some (b,0)) n cap 3))))).put mb (.raw (.map es'))) :=
      ⟨.sl (some (b,0)) n cap 3,mb,es',by rw [Lg.put_ne _ _ _ (Ne.symm h4),Lg.put_same]; rfl,Lg.put_same _ _ _,hM,h4,h5,
        .inr ⟨b,cap,lastI.cells ++ sp,by rw [List.length_take]; congr 1; omega,by rw [Lg.put_ne _ _ _ a5,Lg.put_ne _ _ _ a4,a2,hlast,hn,icells_last sp hpos],by simp [It.cells]; omega,a4,a5,a6⟩,
        fun r d hr hd => by
          have c1 : r ≠ mb := by rintro rfl; rw [h5] at hd; cases hd
          rw [Lg.put_ne _ _ _ c1,Lg.put_ne _ _ _ hr]; exact h7 r d hr hd⟩
    have k310 := h7 x10 _ nx10.1 r10
    have k36 := h7 x6 _ nx6.1 r6
    have el3 : 3 ≤ lastI.cells.length := by simp [It.cells]
    have ex3 : 3 ≤ x.cells.length := by simp [It.cells]
    have el : AV.agg (List.take 3 lastI.cells) = lastI.av := by simp [It.cells,It.av]
    have exx : AV.agg (List.take 3 x.cells) = .agg x.cells := by simp [It.cells]
    by_cases hjn : j < n
    · have hjn' : (j : Int) < (n : Int) := by omega
      have k10 := hrow.old nx10.1 r10
      have hfill := cons_fill hc (i := j) (by omega)
      have hexx := exx_fill hh (i := j) (by omega) (gA its (its.length - 1))
      have hpm := fill_perm hc.1 hp (i := j) (by omega)
      rw [← hn,← hlast,← hx,m3] at hfill hpm
      rw [← hn,← hlast] at hexx
      simp [rdL,AB.read,look,h4,Ne.symm h4,mdelW,Lg.put_apply,h2,hes,hjn,hjn',nbm,nx10.1,k310,cut,ble_nat,el3,el]
      refine (hput_spec hf.f26 hrow j (by rw [List.length_take]; omega) lastI).mono ?_
      rintro _ K4 ⟨rfl,ho4⟩
      have hl4 : ((its.take n).set j lastI).length = n := by simp; omega
      refine (hup_spec hf.f31 ho4 j (by rw [hl4]; omega) (by rw [hl4]; omega) (hfill.hole j) hexx).mono ?_
      rintro _ K5 ⟨rfl,A',mp',p1,ho5,hc5,_,i',hi',hg,hdn⟩
      have hg2 : gA A' i' = lastI := by rw [hg,gA_set (by simp; omega),if_pos rfl]
      have hlk : mp' lastI.id = some (i' : Int) := by rw [← hg2]; exact hc5.2.1 i' hi'
      have hl5 := p1.length_eq
      have k10' := ho5.old nx10.1 r10
      have ho5' := ho5
      obtain ⟨sv5,mb5,es5,g1,g2,g3,g4,g5,g6,g7⟩ := ho5'
      simp [rdL,AB.read,look,g1,k10',It.cells,rLkupL,g2,g3.find lastI.id,hlk]
      refine (hdown_spec hf.f32 ho5 i' hi' (by rw [hl5,hl4]; omega) hc5 hdn).mono ?_
      rintro _ K6 ⟨rfl,A'',mp'',p2,ho6,hc6,hh6⟩
      exact fin ho6 hc6 hh6 ((p2.trans p1).trans hpm)
    · have hjn2 : j = n := by omega
      have hjn' : ¬ (j : Int) < (n : Int) := by omega
      have hxl : x = lastI := by rw [hx,hlast,hjn2]
      have hcd := cons_drop hc hpos
      have hpd := drop_perm hc.1 hp hpos
      rw [← hn,← hlast,← hxl,m3] at hcd hpd
      have hhd := heap_drop hh
      rw [← hn] at hhd
      simp [rdL,AB.read,look,h4,Ne.symm h4,mdelW,Lg.put_apply,h2,hes,hjn,hjn',nb6,nx6.1,k36,cut,ble_nat,ex3,exx]
      exact fin2 hrow hcd hhd hpd
theorem hpop_spec (hf : H_f44 N F) (e : L h = some (.abs (HeapP h l seq))) (hs : l.Pairwise It.lt) (hl : l.length ≤ 1000000) : CallL F (N k_f44) [.p (some (h,0))] L fun v L' => v = retIt l.head? ∧
    L' = match (generalizing := false) l with
      | [] => L
      | x :: r => L.put h (.abs (HeapP h (rmId x.id (x :: r)) seq)) := by
  apply r_f44 hf.code
  generalize hQ : (fun (v : AV) (L' : Lg) => v = retIt l.head? ∧ L' = match (generalizing := false) l with
      | [] => L
      | x :: r => L.put h (.abs (HeapP h (rmId x.id (x :: r)) seq))) = Q
  unfold D_f44_1
  simp
  intro rc hrc
  have nrc : rc ≠ h := by rintro rfl; rw [e] at hrc; cases hrc
  have e1 : (L.put rc (.raw (.cells [.i .i64 0,.i .i64 0,.i .i64 0]))) h = some (.abs (HeapP h l seq)) := by rw [Lg.put_ne _ _ _ (Ne.symm nrc)]; exact e
  refine (hmin_spec hf.f42 e1 hs).mono ?_
  rintro _ K1 ⟨rfl,rfl⟩
  cases hl0 : l with
  | nil =>
    rw [hl0] at hQ
    simp [retIt,It.av]
    intro x5 hx5
    have n5 : x5 ≠ rc := by rintro rfl; simp at hx5
    rw [stL_cells (Lg.put_same _ _ _) (by simp [It.cells]) (by simp [It.cells]) (by simp),Lg.put_put]
    have erc : ((L.put rc (.raw (.cells [.i .i64 0,.i .i64 0,.i .i64 0]))).put x5 (.raw (.cells (splice [.i .i64 0,.i .i64 0,.i .i64 0] 0 It.zero.cells)))) rc = some (.raw (.cells [.i .i64 0,.i .i64 0,.i .i64 0])) := by
      rw [Lg.put_ne _ _ _ (Ne.symm n5),Lg.put_same]
    simp
    rw [rdL_cells (Lg.put_same _ _ _) (by simp [splice,It.cells])]
    simp
    rw [stL_cells erc (by simp [splice,It.cells]) (by simp [splice,It.cells]) (by simp)]
    rw [res_cell_tmp _ _ (Lg.put_same _ _ _) (by simp [splice,It.cells])]
    refine ⟨L,Sees.drop ?_,?_⟩
    · intro r d hr
      have c1 : r ≠ rc := by rintro rfl; rw [hrc] at hr; cases hr
      have c2 : r ≠ x5 := by rintro rfl; rw [Lg.put_ne _ _ _ n5,hr] at hx5; cases hx5
      simp [Lg.put_apply,c1,c2,hr]
    · subst hQ
      exact ⟨by simp [splice,It.cells,It.zero,It.av,retIt],rfl⟩
  | cons x r =>
    rw [hl0] at hQ
    simp [retIt,It.av]
    intro x5 hx5
    have n5 : x5 ≠ rc := by rintro rfl; simp at hx5
    have n5h : x5 ≠ h := by rintro rfl; rw [e1] at hx5; cases hx5
    rw [stL_cells (Lg.put_same _ _ _) (by simp [It.cells]) (by simp [It.cells]) (by simp),Lg.put_put,show splice [AV.i .i64 0,.i .i64 0,.i .i64 0] 0 x.cells = x.cells by simp [splice,It.cells]]
    have e2 : ((L.put rc (.raw (.cells [.i .i64 0,.i .i64 0,.i .i64 0]))).put x5 (.raw (.cells x.cells))) h = some (.abs (HeapP h (x :: r) seq)) := by rw [Lg.put_ne _ _ _ (Ne.symm n5h),e1,hl0]
    simp [rdL,AB.read,look,It.cells]
    rw [hl0] at hl
    refine (hremove_spec hf.f33 e2 hl x.id).mono ?_
    rintro _ K2 ⟨rfl,rfl⟩
    have k5 : (((L.put rc (.raw (.cells [.i .i64 0,.i .i64 0,.i .i64 0]))).put x5 (.raw (.cells x.cells))).put h (.abs (HeapP h (rmId x.id (x :: r)) seq))) x5 = some (.raw (.cells x.cells)) := by
      rw [Lg.put_ne _ _ _ n5h,Lg.put_same]
    have krc : (((L.put rc (.raw (.cells [.i .i64 0,.i .i64 0,.i .i64 0]))).put x5 (.raw (.cells x.cells))).put h (.abs (HeapP h (rmId x.id (x :: r)) seq))) rc = some (.raw (.cells [.i .i64 0,.i .i64 0,.i .i64 0])) := by
      rw [Lg.put_ne _ _ _ nrc,Lg.put_ne _ _ _ (Ne.symm n5),Lg.put_same]
    simp [rdL_cells k5 (show 0 + 3 ≤ x.cells.length by simp [It.cells])]
    have : AV.agg (List.take 3 x.cells) = .agg x.cells := by simp [It.cells]
    rw [this,stL_cells krc (by simp [It.cells]) (by simp [It.cells]) (by simp)]
    rw [res_cell_tmp _ _ (Lg.put_same _ _ _) (by simp [splice,It.cells])]
    refine ⟨L.put h (.abs (HeapP h (rmId x.id (x :: r)) seq)),Sees.drop ?_,?_⟩
    · intro y d hr
      rw [Lg.put_apply] at hr
      have c1 : y ≠ rc := by
        rintro rfl
        rw [if_neg nrc,hrc] at hr; cases hr
      have c2 : y ≠ x5 := by
        rintro rfl
        rw [if_neg n5h] at hr
        rw [Lg.put_ne _ _ _ n5,hr] at hx5; cases hx5
      simp [Lg.put_apply,c1,c2]
      exact hr
    · subst hQ
      exact ⟨by simp [splice,It.cells,It.av,retIt],rfl⟩
theorem hnew_spec (hf : H_f19 N F) : CallL F (N k_f19) [] L fun v L' => ∃ h,L h = none ∧ v = .p (some (h,0)) ∧ L' = L.put h (.abs (HeapP h [] 0)) := by
  apply r_f19 hf.code
  unfold D_f19_1
  simp
  intro mb hmb
  simp [fillP,splice,ble_nat,beq_nat]
  intro h hh
  have n1 : h ≠ mb := by rintro rfl; simp at hh
  rw [Lg.put_ne _ _ _ n1] at hh
  have ho : HOpen L h [] (fun _ => none) 0 ((L.put mb (.raw (.map []))).put h (.raw (.cells [.sl none 0 0 0,.m (some mb),.i .i64 0]))) :=
    ⟨_,mb,[],Lg.put_same _ _ _,by rw [Lg.put_ne _ _ _ (Ne.symm n1),Lg.put_same],mapI_nil,Ne.symm n1,hmb,.inl ⟨rfl,rfl⟩,fun r d hr hd => by
      have c1 : r ≠ mb := by rintro rfl; rw [hmb] at hd; cases hd
      rw [Lg.put_ne _ _ _ hr,Lg.put_ne _ _ _ c1]; exact hd⟩
  exact ⟨_,ho.shut ⟨fun j k hj => by simp at hj,fun j hj => by simp at hj,fun k v hk => by cases hk⟩ (fun j _ hj => by simp at hj) (List.Perm.refl _),h,hh,rfl,rfl⟩
end
end Go.AM


set_option linter.unusedVariables false
set_option linter.unusedSimpArgs false
namespace Go.AM
variable {N : Nat → Nat} {F : Nat → Option AFn}

structure Xs where
  l : List It
  seq : Int
  pf : Int → Option Int
def Xs.stop (x : Xs) (id : Int) : Xs := { x with l := rmId id x.l,pf := updI x.pf id none }
def Xs.armed (x : Xs) (id when period : Int) : Xs := { l := ins ⟨id,when,x.seq + 1⟩ (rmId id x.l),seq := x.seq + 1,pf := updI (updI x.pf id none) id (some period) }
def badT (a b : Int) : Bool := decide (min a b < 0) || decide (4611686018427387904 < max a b)
def Xs.arm (x : Xs) (id when period : Int) : Xs × Int := if badT when period = true then (x,1) else (x.armed id when period,0)
def Xs.next (x : Xs) : Int × Bool := match x.l.head? with
  | some y => (y.w,true)
  | none => (0,false)
def Xs.take (x : Xs) (now : Int) : Xs × (Int × Int × Int) × Bool := match x.l.head? with
  | none => (x,(0,0,0),false)
  | some y => if now < 0 ∨ now < y.w then (x,(0,0,0),false) else
    let p := (x.pf y.id).getD 0
    let z : Xs := x.stop y.id
    let c := clockNext y.w p now
    (if c.2 = 0 ∧ now < c.1 then (z.arm y.id c.1 p).1 else z,(y.id,y.w,now),true)
def TmP (t : Nat) (x : Xs) (hp : Hp) : Prop := ∃ (h pm : Nat) (es : List (AV × AV)) (M : Lg),M t = some (.raw (.cells [.p (some (h,0)),.m (some pm)])) ∧ M h = some (.abs (HeapP h x.l x.seq)) ∧ M pm = some (.raw (.map es)) ∧ MapI es x.pf ∧ h ≠ t ∧ pm ≠ t ∧ pm ≠ h ∧ Sat M hp
structure XOpen (L : Lg) (t : Nat) (x : Xs) (h pm : Nat) (K : Lg) : Prop where
  root : K t = some (.raw (.cells [.p (some (h,0)),.m (some pm)]))
  heap : K h = some (.abs (HeapP h x.l x.seq))
  per : ∃ es,K pm = some (.raw (.map es)) ∧ MapI es x.pf
  n1 : h ≠ t
  n2 : pm ≠ t
  n3 : pm ≠ h
  f1 : L h = none
  f2 : L pm = none
  old : ∀ r d,r ≠ t → L r = some d → K r = some d

section
variable {L L0 K : Lg} {t h pm : Nat} {x : Xs}
theorem XOpen.shut (o : XOpen L t x h pm K) : Sees K (L.put t (.abs (TmP t x))) := by
  obtain ⟨es,e1,e2⟩ := o.per
  refine Sees.shutAt (fun r => r = t ∨ r = h ∨ r = pm) (.inl rfl) ?_ ?_ (.inl ⟨_,o.root⟩) ?_
  · intro r d hr hd; simp only [not_or] at hr; exact o.old r d hr.1 hd
  · rintro r (rfl | rfl | rfl) hr
    · exact absurd rfl hr
    · exact o.f1
    · exact o.f2
  · intro M hm hM hN hs
    exact ⟨h,pm,es,M,by rw [hM t (.inl rfl)]; exact o.root,by rw [hM h (.inr (.inl rfl))]; exact o.heap,by rw [hM pm (.inr (.inr rfl))]; exact e1,e2,o.n1,o.n2,o.n3,hs⟩
theorem CallL.openX {f : Nat} {vs : List AV} {Q : AV → Lg → Prop} (e : L t = some (.abs (TmP t x))) (H : ∀ h pm K,XOpen L t x h pm K → CallL F f vs K Q) : CallL F f vs L Q := by
  apply CallL.opens e
  rintro hm ⟨h,pm,es,M,m1,m2,m3,m4,n1,n2,n3,hs⟩
  refine ⟨M,hs,by rw [m1]; simp,fun hf => ?_⟩
  have hover : ∀ b d,M b = some d → (M.over L) b = some d := fun b d hb => by simp [Lg.over,hb]
  refine H h pm (M.over L) ⟨hover _ _ m1,hover _ _ m2,⟨es,hover _ _ m3,m4⟩,n1,n2,n3,hf _ _ m2 n1,hf _ _ m3 n2,?_⟩
  intro r d hr hd
  cases hM : M r with
  | none => simp [Lg.over,hM,hd]
  | some c => rw [hf r c hM hr] at hd; cases hd
theorem XOpen.ne (o : XOpen L t x h pm K) {r : Nat} (hr : K r = none) : r ≠ t ∧ L r = none := by
  have n : r ≠ t := by rintro rfl; rw [o.root] at hr; cases hr
  refine ⟨n,?_⟩
  cases e : L r with
  | none => rfl
  | some d => rw [o.old r d n e] at hr; cases hr
theorem XOpen.nes (o : XOpen L t x h pm K) {r : Nat} (hr : K r = none) : r ≠ t ∧ r ≠ h ∧ r ≠ pm := by
  obtain ⟨es,e1,_⟩ := o.per
  refine ⟨?_,?_,?_⟩ <;> rintro rfl
  · rw [o.root] at hr; cases hr
  · rw [o.heap] at hr; cases hr
  · rw [e1] at hr; cases hr
theorem XOpen.onto (o : XOpen L t x h pm K) {r : Nat} (hr : K r = none) (d : LC) : XOpen (L.put r d) t x h pm (K.put r d) := by
  obtain ⟨es,e1,e2⟩ := o.per
  obtain ⟨c1,c2,c3⟩ := o.nes hr
  refine ⟨by rw [Lg.put_ne _ _ _ (Ne.symm c1)]; exact o.root,by rw [Lg.put_ne _ _ _ (Ne.symm c2)]; exact o.heap,⟨es,by rw [Lg.put_ne _ _ _ (Ne.symm c3)]; exact e1,e2⟩,o.n1,o.n2,o.n3,
    by rw [Lg.put_ne _ _ _ (Ne.symm c2)]; exact o.f1,by rw [Lg.put_ne _ _ _ (Ne.symm c3)]; exact o.f2,?_⟩
  intro y k hy hk
  rw [Lg.put_apply] at hk ⊢
  split
  · rename_i h9; rw [if_pos h9] at hk; exact hk
  · rename_i h9; rw [if_neg h9] at hk; exact o.old y k hy hk
theorem XOpen.putOld (o : XOpen L t x h pm K) {r : Nat} {d : LC} (hr : r ≠ t) (hd : L r = some d) (d' : LC) : XOpen (L.put r d') t x h pm (K.put r d') := by
  obtain ⟨es,e1,e2⟩ := o.per
  have c2 : r ≠ h := by rintro rfl; rw [o.f1] at hd; cases hd
  have c3 : r ≠ pm := by rintro rfl; rw [o.f2] at hd; cases hd
  refine ⟨by rw [Lg.put_ne _ _ _ (Ne.symm hr)]; exact o.root,by rw [Lg.put_ne _ _ _ (Ne.symm c2)]; exact o.heap,⟨es,by rw [Lg.put_ne _ _ _ (Ne.symm c3)]; exact e1,e2⟩,o.n1,o.n2,o.n3,
    by rw [Lg.put_ne _ _ _ (Ne.symm c2)]; exact o.f1,by rw [Lg.put_ne _ _ _ (Ne.symm c3)]; exact o.f2,?_⟩
  intro y k hy hk
  rw [Lg.put_apply] at hk ⊢
  split
  · rename_i h9; rw [if_pos h9] at hk; exact hk
  · rename_i h9; rw [if_neg h9] at hk; exact o.old y k hy hk
theorem XOpen.sub (o : XOpen L0 t x h pm K) (hs : ∀ r d,r ≠ t → L r = some d → L0 r = some d) : XOpen L t x h pm K := by
  have hn : ∀ r,r ≠ t → L0 r = none → L r = none := by
    intro r hr h0
    cases e : L r with
    | none => rfl
    | some d => rw [hs r d hr e] at h0; cases h0
  exact ⟨o.root,o.heap,o.per,o.n1,o.n2,o.n3,hn h o.n1 o.f1,hn pm o.n2 o.f2,fun r d hr hd => o.old r d hr (hs r d hr hd)⟩
theorem XOpen.setHeap (o : XOpen L t x h pm K) (l : List It) (seq : Int) : XOpen L t { x with l := l,seq := seq } h pm (K.put h (.abs (HeapP h l seq))) := by
  obtain ⟨es,e1,e2⟩ := o.per
  refine ⟨by rw [Lg.put_ne _ _ _ (Ne.symm o.n1)]; exact o.root,Lg.put_same _ _ _,⟨es,by rw [Lg.put_ne _ _ _ o.n3]; exact e1,e2⟩,o.n1,o.n2,o.n3,o.f1,o.f2,?_⟩
  intro r d hr hd
  have : r ≠ h := by rintro rfl; rw [o.f1] at hd; cases hd
  rw [Lg.put_ne _ _ _ this]; exact o.old r d hr hd
theorem XOpen.setPer (o : XOpen L t x h pm K) {es : List (AV × AV)} {f : Int → Option Int} (hm : MapI es f) : XOpen L t { x with pf := f } h pm (K.put pm (.raw (.map es))) := by
  refine ⟨by rw [Lg.put_ne _ _ _ (Ne.symm o.n2)]; exact o.root,by rw [Lg.put_ne _ _ _ (Ne.symm o.n3)]; exact o.heap,⟨es,Lg.put_same _ _ _,hm⟩,o.n1,o.n2,o.n3,o.f1,o.f2,?_⟩
  intro r d hr hd
  have : r ≠ pm := by rintro rfl; rw [o.f2] at hd; cases hd
  rw [Lg.put_ne _ _ _ this]; exact o.old r d hr hd
theorem XOpen.back (o : XOpen L t x h pm K) (e : L t = some (.abs (TmP t x))) : Sees K L := by
  have := o.shut
  rwa [Lg.put_self L t _ e] at this

theorem xnew_spec (hf : H_f20 N F) : CallL F (N k_f20) [] L fun v L' => ∃ t,L t = none ∧ v = .p (some (t,0)) ∧ L' = L.put t (.abs (TmP t ⟨[],0,fun _ => none⟩)) := by
  apply r_f20 hf.code
  unfold D_f20_1
  refine (hnew_spec hf.f19).mono ?_
  rintro _ _ ⟨h,hh,rfl,rfl⟩
  simp
  intro pm hpm
  have n1 : pm ≠ h := by rintro rfl; simp at hpm
  rw [Lg.put_ne _ _ _ n1] at hpm
  simp [fillP,splice,ble_nat,beq_nat]
  intro t ht
  have n2 : t ≠ pm := by rintro rfl; simp at ht
  have n3 : t ≠ h := by rintro rfl; simp [Lg.put_apply,Ne.symm n1] at ht
  rw [Lg.put_ne _ _ _ n2,Lg.put_ne _ _ _ n3] at ht
  have o : XOpen L t ⟨[],0,fun _ => none⟩ h pm (((L.put h (.abs (HeapP h [] 0))).put pm (.raw (.map []))).put t (.raw (.cells [.p (some (h,0)),.m (some pm)]))) :=
    ⟨Lg.put_same _ _ _,by simp [Lg.put_apply,Ne.symm n3,Ne.symm n1],⟨[],by simp [Lg.put_apply,Ne.symm n2],mapI_nil⟩,Ne.symm n3,Ne.symm n2,n1,hh,hpm,fun r d hr hd => by
      have c1 : r ≠ h := by rintro rfl; rw [hh] at hd; cases hd
      have c2 : r ≠ pm := by rintro rfl; rw [hpm] at hd; cases hd
      simp [Lg.put_apply,hr,c1,c2,hd]⟩
  exact ⟨_,o.shut,t,ht,rfl,rfl⟩
theorem xstop_open (hf : H_f34 N F) (o : XOpen L t x h pm K) (hl : x.l.length ≤ 1000000) (id : Int) :
    CallL F (N k_f34) [.p (some (t,0)),.i .i64 id] K fun v K' => v = .b (findId id x.l).isSome ∧ XOpen L t (x.stop id) h pm K' := by
  apply r_f34 hf.code
  generalize hQ : (fun (v : AV) (K' : Lg) => v = .b (findId id x.l).isSome ∧ XOpen L t (x.stop id) h pm K') = Q
  unfold D_f34_1
  simp [rdL,AB.read,look,o.root]
  refine (hremove_spec hf.f33 o.heap hl id).mono ?_
  rintro _ _ ⟨rfl,rfl⟩
  have o2 := o.setHeap (rmId id x.l) x.seq
  obtain ⟨es,e1,e2⟩ := o2.per
  obtain ⟨es',hd,hM⟩ := e2.del id
  have o3 := o2.setPer hM
  have key : ∀ z : It,∀ r : Nat,(K.put h (.abs (HeapP h (rmId id x.l) x.seq))) r = none → ∀ c : LC,
      wpOp F .nilchk [.p (some (t,0))] ((K.put h (.abs (HeapP h (rmId id x.l) x.seq))).put r c) fun v10 L10 => wpOp F (.fad 1) [v10] L10 fun v11 L11 => wpOp F (.ld none) [v11] L11 fun v12 L12 => wpOp F .mdel [v12,.i .i64 id] L12 fun _ L13 =>
        fin1 (some (.b (findId id x.l).isSome)) Q L13 := by
    intro z r hr c
    obtain ⟨c1,c2,c3⟩ := o2.nes hr
    have o4 := (o2.onto hr c).setPer hM
    have hr1 : ((K.put h (.abs (HeapP h (rmId id x.l) x.seq))).put r c) t = some (.raw (.cells [.p (some (h,0)),.m (some pm)])) := by rw [Lg.put_ne _ _ _ (Ne.symm c1)]; exact o2.root
    have hr2 : ((K.put h (.abs (HeapP h (rmId id x.l) x.seq))).put r c) pm = some (.raw (.map es)) := by rw [Lg.put_ne _ _ _ (Ne.symm c3)]; exact e1
    simp [rdL,AB.read,look,hr1,mdelW,hr2,hd]
    refine ⟨_,Sees.refl _,?_⟩
    subst hQ
    refine ⟨rfl,o4.sub fun y d hy hyd => ?_⟩
    have : y ≠ r := by rintro rfl; rw [(o2.ne hr).2] at hyd; cases hyd
    rw [Lg.put_ne _ _ _ this]; exact hyd
  cases hfi : findId id x.l with
  | none =>
    rw [hfi] at key
    simp [retIt,It.av]
    intro r hr
    rw [stL_cells (Lg.put_same _ _ _) (by simp [It.cells]) (by simp [It.cells]) (by simp),Lg.put_put]
    exact key It.zero r hr _
  | some y =>
    rw [hfi] at key
    simp [retIt,It.av]
    intro r hr
    rw [stL_cells (Lg.put_same _ _ _) (by simp [It.cells]) (by simp [It.cells]) (by simp),Lg.put_put]
    exact key y r hr _
theorem findId_rmId (id : Int) (l : List It) : findId id (rmId id l) = none := by
  unfold findId rmId
  rw [List.find?_eq_none]
  intro y hy
  simp at hy
  simp [hy.2]
theorem rmId_length (id : Int) (l : List It) : (rmId id l).length ≤ l.length := List.length_filter_le _ _
theorem xarm_open (hf : H_f36 N F) (o : XOpen L t x h pm K) (hl : x.l.length < 1000000) (hq : 0 ≤ x.seq ∧ x.seq < 4611686018427387904) (id when period : Int) :
    CallL F (N k_f36) [.p (some (t,0)),.i .i64 id,.i .i64 when,.i .i64 period] K fun v K' => v = .i .i64 (x.arm id when period).2 ∧ XOpen L t (x.arm id when period).1 h pm K' := by
  apply r_f36 hf.code
  unfold D_f36_1 Xs.arm badT
  generalize hQ : (fun (v : AV) (K' : Lg) => v = .i .i64 (if (decide (min when period < 0) || decide (4611686018427387904 < max when period)) = true then (x,(1 : Int)) else (x.armed id when period,0)).2 ∧
    XOpen L t (if (decide (min when period < 0) || decide (4611686018427387904 < max when period)) = true then (x,(1 : Int)) else (x.armed id when period,0)).1 h pm K') = Q
  by_cases c1 : min when period < 0
  · simp [c1]
    refine ⟨K,Sees.refl _,?_⟩
    subst hQ
    simp [c1,o]
  · by_cases c2 : 4611686018427387904 < max when period
    · simp [c1,c2]
      refine ⟨K,Sees.refl _,?_⟩
      subst hQ
      simp [c1,c2,o]
    · simp [c1,c2]
      refine (xstop_open hf.f34 o (by omega) id).mono ?_
      rintro _ K2 ⟨rfl,o2⟩
      obtain ⟨es,e1,e2⟩ := o2.per
      obtain ⟨es',hd,hM⟩ := e2.set id period
      have o3 := o2.setPer hM
      have hl2 : (x.stop id).l.length < 1000000 := Nat.lt_of_le_of_lt (rmId_length id x.l) hl
      simp [rdL,AB.read,look,o2.root,msetW,e1,hd,Lg.put_apply,Ne.symm o2.n2]
      refine (hadd_spec hf.f35 o3.heap hl2 hq id when).mono ?_
      intro v K4 hv
      have hn : findId id (x.stop id).l = none := findId_rmId id x.l
      simp only [hn] at hv
      simp at hv
      obtain ⟨rfl,rfl⟩ := hv
      refine ⟨_,Sees.refl _,?_⟩
      subst hQ
      simp [c1,c2]
      exact o3.setHeap _ _
theorem xnext_open (hf : H_f43 N F) (o : XOpen L t x h pm K) (hs : x.l.Pairwise It.lt) :
    CallL F (N k_f43) [.p (some (t,0))] K fun v K' => v = .tup [.i .i64 x.next.1,.b x.next.2] ∧ K' = K := by
  apply r_f43 hf.code
  generalize hQ : (fun (v : AV) (K' : Lg) => v = .tup [.i .i64 x.next.1,.b x.next.2] ∧ K' = K) = Q
  unfold D_f43_1
  simp [rdL,AB.read,look,o.root]
  refine (hmin_spec hf.f42 o.heap hs).mono ?_
  rintro _ K1 ⟨rfl,rfl⟩
  cases hh : x.l.head? with
  | none =>
    simp [retIt,It.av]
    intro r hr
    rw [stL_cells (Lg.put_same _ _ _) (by simp [It.cells]) (by simp [It.cells]) (by simp),Lg.put_put]
    simp [rdL,AB.read,look,splice,It.cells,It.zero]
    refine ⟨K1,((Ext2.refl _).put hr _).sees,?_⟩
    subst hQ
    simp [Xs.next,hh]
  | some y =>
    simp [retIt,It.av]
    intro r hr
    rw [stL_cells (Lg.put_same _ _ _) (by simp [It.cells]) (by simp [It.cells]) (by simp),Lg.put_put]
    simp [rdL,AB.read,look,splice,It.cells]
    refine ⟨K1,((Ext2.refl _).put hr _).sees,?_⟩
    subst hQ
    simp [Xs.next,hh]
def retDue (d : Int × Int × Int) (ok : Bool) : AV := .tup [.agg [.i .i64 d.1,.i .i64 d.2.1,.i .i64 d.2.2],.b ok]
theorem xtake_open (hf : H_f45 N F) (o : XOpen L t x h pm K) (hs : x.l.Pairwise It.lt) (hl : x.l.length < 1000000) (hq : 0 ≤ x.seq ∧ x.seq < 4611686018427387904) (now : Int) :
    CallL F (N k_f45) [.p (some (t,0)),.i .i64 now] K fun v K' => v = retDue (x.take now).2.1 (x.take now).2.2 ∧ XOpen L t (x.take now).1 h pm K' := by
  apply r_f45 hf.code
  generalize hQ : (fun (v : AV) (K' : Lg) => v = retDue (x.take now).2.1 (x.take now).2.2 ∧ XOpen L t (x.take now).1 h pm K') = Q
  unfold D_f45_1 D_f45_2
  simp
  intro rc hrc
  have o1 := o.onto hrc (.raw (.cells [.i .i64 0,.i .i64 0,.i .i64 0]))
  have nrc := o.ne hrc
  refine (xnext_open hf.f43 o1 hs).mono ?_
  rintro _ _ ⟨rfl,rfl⟩
  unfold D_f45_3
  -- nothing is due
  have idle : ∀ {K1 : Lg},K1 = K.put rc (.raw (.cells [.i .i64 0,.i .i64 0,.i .i64 0])) → x.take now = (x,(0,0,0),false) →
      stL 3 K1 (fun _ L10 => fin1 (resVL Env.nil Env.nil L10 [.cell (.c (.p (some (rc,0)))) (some 3),.tmp (.c (.b false))]) Q L10) [.p (some (rc,0)),.agg [.i .i64 0,.i .i64 0,.i .i64 0]] := by
    rintro K1 rfl htk
    rw [stL_cells (Lg.put_same _ _ _) (by simp) (by simp) (by simp)]
    rw [res_cell_tmp _ _ (Lg.put_same _ _ _) (by simp [splice])]
    refine ⟨K,?_,?_⟩
    · rw [Lg.put_put]; exact ((Ext2.refl _).put hrc _).sees
    · subst hQ
      rw [htk]
      exact ⟨by simp [splice,retDue],o⟩
  cases hh : x.l.head? with
  | none =>
    have htk : x.take now = (x,(0,0,0),false) := by simp [Xs.take,hh]
    simp [Xs.next,hh,fillP]
    exact idle rfl htk
  | some y =>
    by_cases c1 : now < 0
    · have htk : x.take now = (x,(0,0,0),false) := by simp [Xs.take,hh,c1]
      simp [Xs.next,hh,fillP,c1]
      exact idle rfl htk
    · by_cases c2 : now < y.w
      · have htk : x.take now = (x,(0,0,0),false) := by simp [Xs.take,hh,c2]
        simp [Xs.next,hh,fillP,c1,c2]
        exact idle rfl htk
      · simp [Xs.next,hh,c1,c2]
        unfold D_f45_4
        simp [rdL,AB.read,look,Lg.put_apply,o1.root,Ne.symm nrc.1,o.root]
        refine (hpop_spec hf.f44 o1.heap hs (by omega)).mono ?_
        rintro _ K2 ⟨rfl,hK2⟩
        obtain ⟨rest,hxl⟩ : ∃ rest,x.l = y :: rest := by
          cases hx : x.l with
          | nil => rw [hx] at hh; cases hh
          | cons a b => rw [hx] at hh; simp at hh; subst hh; exact ⟨b,rfl⟩
        simp only [hxl] at hK2
        rw [← hxl] at hK2
        subst hK2
        have o2 := o1.setHeap (rmId y.id x.l) x.seq
        rw [hh]
        simp [retIt,It.av]
        intro x7 hx7
        rw [stL_cells (Lg.put_same _ _ _) (by simp [It.cells]) (by simp [It.cells]) (by simp),Lg.put_put,show splice [AV.i .i64 0,.i .i64 0,.i .i64 0] 0 y.cells = y.cells by simp [splice,It.cells]]
        have n7 := o2.ne hx7
        have o3 := o2.onto hx7 (.raw (.cells y.cells))
        obtain ⟨L3,hL3⟩ : ∃ L3,L3 = (L.put rc (.raw (.cells [.i .i64 0,.i .i64 0,.i .i64 0]))).put x7 (.raw (.cells y.cells)) := ⟨_,rfl⟩
        obtain ⟨K3,hK3⟩ : ∃ K3,K3 = ((K.put rc (.raw (.cells [.i .i64 0,.i .i64 0,.i .i64 0]))).put h (.abs (HeapP h (rmId y.id x.l) x.seq))).put x7 (.raw (.cells y.cells)) := ⟨_,rfl⟩
        rw [← hL3,← hK3] at o3
        rw [← hK3]
        have n7r : x7 ≠ rc := by
          rintro rfl
          have := n7.2
          rw [Lg.put_same] at this; cases this
        have r7 : L3 x7 = some (.raw (.cells y.cells)) := by rw [hL3]; exact Lg.put_same _ _ _
        have rrc : L3 rc = some (.raw (.cells [.i .i64 0,.i .i64 0,.i .i64 0])) := by rw [hL3,Lg.put_ne _ _ _ (Ne.symm n7r)]; exact Lg.put_same _ _ _
        have hsub : ∀ r d,r ≠ t → L r = some d → L3 r = some d := by
          intro r d hr hd
          have c1 : r ≠ rc := by rintro rfl; rw [nrc.2] at hd; cases hd
          have c2 : r ≠ x7 := by
            rintro rfl
            have := n7.2
            rw [Lg.put_ne _ _ _ c1,hd] at this; cases this
          rw [hL3]; simp [Lg.put_apply,c1,c2,hd]
        clear hK3 hL3 o2 o1 hx7
        obtain ⟨es,e1,e2⟩ := o3.per
        have k7 := o3.old x7 _ n7.1 r7
        unfold D_f45_5
        obtain ⟨p,hp⟩ : ∃ p,p = (x.pf y.id).getD 0 := ⟨_,rfl⟩
        have hlk : rLkupL (.i .i64 0) false K3 [.m (some pm),.i .i64 y.id] = some (.i .i64 p) := by
          simp [rLkupL,e1,e2.find y.id,hp]
          cases x.pf y.id <;> rfl
        simp [rdL,AB.read,look,o3.root,k7,It.cells,hlk]
        unfold D_f45_6
        obtain ⟨es',hd,hM⟩ := e2.del y.id
        have o4 := o3.setPer hM
        have n7p : x7 ≠ pm := by rintro rfl; rw [o3.f2] at r7; cases r7
        simp [rdL,AB.read,look,o3.root,k7,It.cells,mdelW,e1,hd]
        obtain ⟨K4,hK4⟩ : ∃ K4,K4 = K3.put pm (.raw (.map es')) := ⟨_,rfl⟩
        rw [← hK4] at o4 ⊢
        have k47 := o4.old x7 _ n7.1 r7
        -- the end: what is due is handed out
        have fin : ∀ {z : Xs} {K' : Lg},XOpen L3 t z h pm K' → (x.take now) = (z,(y.id,y.w,now),true) →
            stL 3 K' (fun _ L15 => fin1 (resVL Env.nil Env.nil L15 [.cell (.c (.p (some (rc,0)))) (some 3),.tmp (.c (.b true))]) Q L15) [.p (some (rc,0)),.agg [.i .i64 y.id,.i .i64 y.w,.i .i64 now]] := by
          intro z K' o' hz
          have krc := o'.old rc _ nrc.1 rrc
          rw [stL_cells krc (by simp) (by simp) (by simp)]
          rw [res_cell_tmp _ _ (Lg.put_same _ _ _) (by simp [splice])]
          have o2 := (o'.putOld nrc.1 rrc (.raw (.cells (splice [.i .i64 0,.i .i64 0,.i .i64 0] 0 [.i .i64 y.id,.i .i64 y.w,.i .i64 now])))).sub (L := L) (fun r d hr hd => by
            have c1 : r ≠ rc := by rintro rfl; rw [nrc.2] at hd; cases hd
            rw [Lg.put_ne _ _ _ c1]; exact hsub r d hr hd)
          refine ⟨_,Sees.refl _,?_⟩
          subst hQ
          rw [hz]
          exact ⟨by simp [splice,retDue],o2⟩
        have htake : x.take now = (if (clockNext y.w p now).2 = 0 ∧ now < (clockNext y.w p now).1 then ((x.stop y.id).arm y.id (clockNext y.w p now).1 p).1 else x.stop y.id,(y.id,y.w,now),true) := by
          simp [Xs.take,hh,c1,c2,← hp]
        unfold D_f45_7
        refine (clockNext_spec hf.f3 y.w p now K4).mono ?_
        rintro _ K4 ⟨rfl,rfl⟩
        have hst : XOpen L3 t (x.stop y.id) h pm K4 := o4
        by_cases d1 : (clockNext y.w p now).2 = 0
        · by_cases d2 : now < (clockNext y.w p now).1
          · simp [d1,d2,rdL,AB.read,look,k47,It.cells]
            refine (xarm_open hf.f36 hst (Nat.lt_of_le_of_lt (rmId_length y.id x.l) hl) hq y.id _ p).mono ?_
            rintro _ K5 ⟨rfl,o5⟩
            have k57 := o5.old x7 _ n7.1 r7
            simp [rdL,AB.read,look,k57,It.cells,fillP,splice,ble_nat,beq_nat]
            refine fin o5 ?_
            rw [htake,if_pos ⟨d1,d2⟩]
          · simp [d1,d2,rdL,AB.read,look,k47,It.cells,fillP,splice,ble_nat,beq_nat]
            refine fin hst ?_
            rw [htake,if_neg (fun hc => d2 hc.2)]
        · simp [d1,rdL,AB.read,look,k47,It.cells,fillP,splice,ble_nat,beq_nat]
          refine fin hst ?_
          rw [htake,if_neg (fun hc => d1 hc.1)]
end
end Go.AM


set_option linter.unusedVariables false
set_option maxRecDepth 100000
namespace Go.AM
end Go.AM

set_option linter.unusedVariables false
set_option linter.unusedSimpArgs false
namespace Go.AM
variable {N : Nat → Nat} {F : Nat → Option AFn}

section
variable {L : Lg} {t : Nat} {x : Xs}
theorem xstop_spec (hf : H_f34 N F) (e : L t = some (.abs (TmP t x))) (hl : x.l.length ≤ 1000000) (id : Int) :
    CallL F (N k_f34) [.p (some (t,0)),.i .i64 id] L fun v L' => v = .b (findId id x.l).isSome ∧ L' = L.put t (.abs (TmP t (x.stop id))) := by
  apply CallL.openX e
  intro h pm K o
  refine (xstop_open hf o hl id).sees ?_
  rintro _ K' ⟨rfl,o'⟩
  exact ⟨_,o'.shut,rfl,rfl⟩
theorem xarm_spec (hf : H_f36 N F) (e : L t = some (.abs (TmP t x))) (hl : x.l.length < 1000000) (hq : 0 ≤ x.seq ∧ x.seq < 4611686018427387904) (id when period : Int) :
    CallL F (N k_f36) [.p (some (t,0)),.i .i64 id,.i .i64 when,.i .i64 period] L fun v L' => v = .i .i64 (x.arm id when period).2 ∧ L' = L.put t (.abs (TmP t (x.arm id when period).1)) := by
  apply CallL.openX e
  intro h pm K o
  refine (xarm_open hf o hl hq id when period).sees ?_
  rintro _ K' ⟨rfl,o'⟩
  exact ⟨_,o'.shut,rfl,rfl⟩
theorem xnext_spec (hf : H_f43 N F) (e : L t = some (.abs (TmP t x))) (hs : x.l.Pairwise It.lt) :
    CallL F (N k_f43) [.p (some (t,0))] L fun v L' => v = .tup [.i .i64 x.next.1,.b x.next.2] ∧ L' = L := by
  apply CallL.openX e
  intro h pm K o
  refine (xnext_open hf o hs).sees ?_
  rintro _ K' ⟨rfl,rfl⟩
  exact ⟨_,o.back e,rfl,rfl⟩
theorem xtake_spec (hf : H_f45 N F) (e : L t = some (.abs (TmP t x))) (hs : x.l.Pairwise It.lt) (hl : x.l.length < 1000000) (hq : 0 ≤ x.seq ∧ x.seq < 4611686018427387904) (now : Int) :
    CallL F (N k_f45) [.p (some (t,0)),.i .i64 now] L fun v L' => v = retDue (x.take now).2.1 (x.take now).2.2 ∧ L' = L.put t (.abs (TmP t (x.take now).1)) := by
  apply CallL.openX e
  intro h pm K o
  refine (xtake_open hf o hs hl hq now).sees ?_
  rintro _ K' ⟨rfl,o'⟩
  exact ⟨_,o'.shut,rfl,rfl⟩
end

structure On where
  kind : Int
  data : Int
  c : Option Nat
  gen : Int
def On.cells (o : On) : List AV := [.i .i64 o.kind,.i .i64 o.data,ptr o.c,.i .i64 o.gen]
def ocells : List On → List AV
  | [] => []
  | o :: r => o.cells ++ ocells r
theorem ocells_length : ∀ (A : List On),(ocells A).length = A.length * 4
  | [] => rfl
  | w :: A => by simp [ocells,ocells_length A,On.cells]; omega
theorem ocells_append : ∀ (A B : List On),ocells (A ++ B) = ocells A ++ ocells B
  | [],_ => rfl
  | w :: A,B => by simp [ocells,ocells_append A B]
theorem ocells_get : ∀ (ws : List On) (i k : Nat) (w : On),ws[i]? = some w → k < 4 → (ocells ws)[i * 4 + k]? = w.cells[k]?
  | [],i,k,w,h,_ => by simp at h
  | a :: r,0,k,w,h,hk => by
    simp at h; subst h
    simp only [ocells,Nat.zero_mul,Nat.zero_add]
    rw [List.getElem?_append_left (by simp [On.cells]; omega)]
  | a :: r,i + 1,k,w,h,hk => by
    have := ocells_get r i k w (by simpa using h) hk
    have e : (i + 1) * 4 + k = a.cells.length + (i * 4 + k) := by simp [On.cells]; omega
    rw [e]
    simp only [ocells]
    rw [List.getElem?_append_right (by omega),Nat.add_sub_cancel_left]
    exact this
theorem ocells_at : ∀ (ws : List On) (i : Nat) (w : On),ws[i]? = some w → ((ocells ws).drop (i * 4)).take 4 = w.cells ∧ i * 4 + 4 ≤ (ocells ws).length
  | [],i,w,h => by simp at h
  | a :: r,0,w,h => by simp at h; subst h; simp [ocells,On.cells]
  | a :: r,i + 1,w,h => by
    have := ocells_at r i w (by simpa using h)
    have e : (i + 1) * 4 = i * 4 + 1 + 1 + 1 + 1 := by omega
    rw [e]
    simp only [ocells,On.cells,List.cons_append,List.nil_append,List.drop_succ_cons,List.length_cons]
    exact ⟨this.1,by omega⟩
theorem ocells_gen : ∀ (ws : List On) (i : Nat) (w : On) (g : Int),ws[i]? = some w → (ocells ws).set (i * 4 + 3) (.i .i64 g) = ocells (ws.set i { w with gen := g })
  | [],i,w,g,h => by simp at h
  | a :: r,0,w,g,h => by simp at h; subst h; simp [ocells,On.cells]
  | a :: r,i + 1,w,g,h => by
    have := ocells_gen r i w g (by simpa using h)
    have e : (i + 1) * 4 + 3 = (i * 4 + 3) + 1 + 1 + 1 + 1 := by omega
    rw [e,List.set_cons_succ]
    simp only [ocells,On.cells,List.cons_append,List.nil_append,List.set_cons_succ]
    rw [this]
structure Tms where
  ones : List On
  x : Xs
  named : Int
def SSl (L : Lg) (s t : Nat) (ones : List On) (sv : AV) (K : Lg) : Prop :=
  (ones = [] ∧ sv = .sl none 0 0 0) ∨ ∃ b,sv = .sl (some (b,0)) ones.length ones.length 4 ∧ K b = some (.raw (.cells (ocells ones))) ∧ b ≠ s ∧ b ≠ t ∧ L b = none ∧ 0 < ones.length
def SOpen (L : Lg) (s : Nat) (σ : Tms) (t : Nat) (K : Lg) : Prop :=
  ∃ sv,K s = some (.raw (.cells [sv,.p (some (t,0)),.i .i64 σ.named])) ∧ K t = some (.abs (TmP t σ.x)) ∧ t ≠ s ∧ L t = none ∧ SSl L s t σ.ones sv K ∧ ∀ r d,r ≠ s → L r = some d → K r = some d
def SetP (s : Nat) (σ : Tms) (hp : Hp) : Prop := ∃ t M,SOpen Lg.nil s σ t M ∧ Sat M hp
section
variable {L L0 K : Lg} {s t : Nat} {σ : Tms}
theorem SOpen.shut (o : SOpen L s σ t K) : Sees K (L.put s (.abs (SetP s σ))) := by
  obtain ⟨sv,h1,h2,h3,h4,h5,h6⟩ := o
  rcases h5 with ⟨g1,rfl⟩ | ⟨b,rfl,a2,a3,a4,a5,a6⟩
  · refine Sees.shutAt (fun r => r = s ∨ r = t) (.inl rfl) ?_ ?_ (.inl ⟨_,h1⟩) ?_
    · intro r d hr hd; simp only [not_or] at hr; exact h6 r d hr.1 hd
    · rintro r (rfl | rfl) hr
      · exact absurd rfl hr
      · exact h4
    · intro M hm hM hN hs
      exact ⟨t,M,⟨_,by rw [hM s (.inl rfl)]; exact h1,by rw [hM t (.inr rfl)]; exact h2,h3,rfl,.inl ⟨g1,rfl⟩,fun r d _ hd => by cases hd⟩,hs⟩
  · refine Sees.shutAt (fun r => r = s ∨ r = t ∨ r = b) (.inl rfl) ?_ ?_ (.inl ⟨_,h1⟩) ?_
    · intro r d hr hd; simp only [not_or] at hr; exact h6 r d hr.1 hd
    · rintro r (rfl | rfl | rfl) hr
      · exact absurd rfl hr
      · exact h4
      · exact a5
    · intro M hm hM hN hs
      exact ⟨t,M,⟨_,by rw [hM s (.inl rfl)]; exact h1,by rw [hM t (.inr (.inl rfl))]; exact h2,h3,rfl,.inr ⟨b,rfl,by rw [hM b (.inr (.inr rfl))]; exact a2,a3,a4,rfl,a6⟩,fun r d _ hd => by cases hd⟩,hs⟩
theorem CallL.openS {f : Nat} {vs : List AV} {Q : AV → Lg → Prop} (e : L s = some (.abs (SetP s σ))) (H : ∀ t K,SOpen L s σ t K → CallL F f vs K Q) : CallL F f vs L Q := by
  apply CallL.opens e
  rintro hm ⟨t,M,⟨sv,h1,h2,h3,h4,h5,h6⟩,hs⟩
  refine ⟨M,hs,by rw [h1]; simp,fun hf => ?_⟩
  have hover : ∀ b d,M b = some d → (M.over L) b = some d := fun b d hb => by simp [Lg.over,hb]
  refine H t (M.over L) ⟨sv,hover _ _ h1,hover _ _ h2,h3,hf _ _ h2 h3,?_,?_⟩
  · rcases h5 with h5 | ⟨b,a1,a2,a3,a4,a5,a6⟩
    · exact .inl h5
    · exact .inr ⟨b,a1,hover _ _ a2,a3,a4,hf _ _ a2 a3,a6⟩
  · intro r d hr hd
    cases hM : M r with
    | none => simp [Lg.over,hM,hd]
    | some c => rw [hf r c hM hr] at hd; cases hd
theorem SOpen.back (o : SOpen L s σ t K) (e : L s = some (.abs (SetP s σ))) : Sees K L := by
  have := o.shut
  rwa [Lg.put_self L s _ e] at this
theorem SOpen.ne (o : SOpen L s σ t K) {r : Nat} (hr : K r = none) : r ≠ s ∧ L r = none := by
  obtain ⟨sv,h1,h2,h3,h4,h5,h6⟩ := o
  have n : r ≠ s := by rintro rfl; rw [h1] at hr; cases hr
  refine ⟨n,?_⟩
  cases e : L r with
  | none => rfl
  | some d => rw [h6 r d n e] at hr; cases hr
theorem SOpen.old (o : SOpen L s σ t K) {r : Nat} {d : LC} (hr : r ≠ s) (hd : L r = some d) : K r = some d := by
  obtain ⟨sv,h1,h2,h3,h4,h5,h6⟩ := o
  exact h6 r d hr hd
theorem SOpen.onto (o : SOpen L s σ t K) {r : Nat} (hr : K r = none) (d : LC) : SOpen (L.put r d) s σ t (K.put r d) := by
  obtain ⟨sv,h1,h2,h3,h4,h5,h6⟩ := o
  have nb : ∀ {y : Nat} {k : LC},K y = some k → y ≠ r := fun hx hxr => by rw [hxr,hr] at hx; cases hx
  refine ⟨sv,by rw [Lg.put_ne _ _ _ (nb h1)]; exact h1,by rw [Lg.put_ne _ _ _ (nb h2)]; exact h2,h3,by rw [Lg.put_ne _ _ _ (nb h2)]; exact h4,?_,?_⟩
  · rcases h5 with h5 | ⟨b,a1,a2,a3,a4,a5,a6⟩
    · exact .inl h5
    · exact .inr ⟨b,a1,by rw [Lg.put_ne _ _ _ (nb a2)]; exact a2,a3,a4,by rw [Lg.put_ne _ _ _ (nb a2)]; exact a5,a6⟩
  · intro y k hy hk
    rw [Lg.put_apply] at hk ⊢
    split
    · rename_i h9; rw [if_pos h9] at hk; exact hk
    · rename_i h9; rw [if_neg h9] at hk; exact h6 y k hy hk
theorem SOpen.putOld (o : SOpen L s σ t K) {r : Nat} {d : LC} (hr : r ≠ s) (hd : L r = some d) (d' : LC) : SOpen (L.put r d') s σ t (K.put r d') := by
  obtain ⟨sv,h1,h2,h3,h4,h5,h6⟩ := o
  have c2 : t ≠ r := by rintro rfl; rw [h4] at hd; cases hd
  refine ⟨sv,by rw [Lg.put_ne _ _ _ (Ne.symm hr)]; exact h1,by rw [Lg.put_ne _ _ _ c2]; exact h2,h3,by rw [Lg.put_ne _ _ _ c2]; exact h4,?_,?_⟩
  · rcases h5 with h5 | ⟨b,a1,a2,a3,a4,a5,a6⟩
    · exact .inl h5
    · have c3 : b ≠ r := by rintro rfl; rw [a5] at hd; cases hd
      exact .inr ⟨b,a1,by rw [Lg.put_ne _ _ _ c3]; exact a2,a3,a4,by rw [Lg.put_ne _ _ _ c3]; exact a5,a6⟩
  · intro y k hy hk
    rw [Lg.put_apply] at hk ⊢
    split
    · rename_i h9; rw [if_pos h9] at hk; exact hk
    · rename_i h9; rw [if_neg h9] at hk; exact h6 y k hy hk
theorem SOpen.sub (o : SOpen L0 s σ t K) (hs : ∀ r d,r ≠ s → L r = some d → L0 r = some d) : SOpen L s σ t K := by
  obtain ⟨sv,h1,h2,h3,h4,h5,h6⟩ := o
  have hn : ∀ r,r ≠ s → L0 r = none → L r = none := by
    intro r hr h0
    cases e : L r with
    | none => rfl
    | some d => rw [hs r d hr e] at h0; cases h0
  refine ⟨sv,h1,h2,h3,hn t h3 h4,?_,fun r d hr hd => h6 r d hr (hs r d hr hd)⟩
  rcases h5 with h5 | ⟨b,a1,a2,a3,a4,a5,a6⟩
  · exact .inl h5
  · exact .inr ⟨b,a1,a2,a3,a4,hn b a3 a5,a6⟩
theorem SOpen.setX (o : SOpen L s σ t K) (x : Xs) : SOpen L s { σ with x := x } t (K.put t (.abs (TmP t x))) := by
  obtain ⟨sv,h1,h2,h3,h4,h5,h6⟩ := o
  refine ⟨sv,by rw [Lg.put_ne _ _ _ (Ne.symm h3)]; exact h1,Lg.put_same _ _ _,h3,h4,?_,?_⟩
  · rcases h5 with h5 | ⟨b,a1,a2,a3,a4,a5,a6⟩
    · exact .inl h5
    · exact .inr ⟨b,a1,by rw [Lg.put_ne _ _ _ a4]; exact a2,a3,a4,a5,a6⟩
  · intro r d hr hd
    have : r ≠ t := by rintro rfl; rw [h4] at hd; cases hd
    rw [Lg.put_ne _ _ _ this]; exact h6 r d hr hd
def Tms.has (σ : Tms) (id : Int) : Bool := decide (0 ≤ id) && decide (id < σ.ones.length)
theorem has_open (hf : H_f49 N F) (o : SOpen L s σ t K) (id : Int) : CallL F (N k_f49) [.p (some (s,0)),.i .i64 id] K fun v K' => v = .b (σ.has id) ∧ K' = K := by
  obtain ⟨sv,h1,h2,h3,h4,h5,h6⟩ := o
  apply r_f49 hf.code
  unfold D_f49_1 Tms.has
  by_cases c1 : 0 ≤ id
  · rcases h5 with ⟨g1,rfl⟩ | ⟨b,rfl,a2,a3,a4,a5,a6⟩
    · have : ¬ id < 0 := by omega
      simp [c1,rdL,AB.read,look,h1,g1]
    · simp [c1,rdL,AB.read,look,h1]
  · simp [c1]
theorem bad_spec (hf : H_f24 N F) (n : Int) : CallL F (N k_f24) [.i .i64 n] L fun v L' => v = .b (decide (n < 0) || decide (4611686018427387904 < n)) ∧ L' = L := by
  apply r_f24 hf.code
  unfold D_f24_1
  by_cases c1 : n < 0 <;> simp [c1]
theorem tnew_spec (hf : H_f21 N F) : CallL F (N k_f21) [] L fun v L' => ∃ s,L s = none ∧ v = .p (some (s,0)) ∧ L' = L.put s (.abs (SetP s ⟨[],⟨[],0,fun _ => none⟩,0⟩)) := by
  apply r_f21 hf.code
  unfold D_f21_1
  refine (xnew_spec hf.f20).mono ?_
  rintro _ _ ⟨t,ht,rfl,rfl⟩
  simp [fillP,splice,ble_nat,beq_nat]
  intro s hs
  have n1 : s ≠ t := by rintro rfl; simp at hs
  rw [Lg.put_ne _ _ _ n1] at hs
  have o : SOpen L s ⟨[],⟨[],0,fun _ => none⟩,0⟩ t ((L.put t (.abs (TmP t ⟨[],0,fun _ => none⟩))).put s (.raw (.cells [.sl none 0 0 0,.p (some (t,0)),.i .i64 0]))) :=
    ⟨_,Lg.put_same _ _ _,by rw [Lg.put_ne _ _ _ (Ne.symm n1),Lg.put_same],Ne.symm n1,ht,.inl ⟨rfl,rfl⟩,fun r d hr hd => by
      have c1 : r ≠ t := by rintro rfl; rw [ht] at hd; cases hd
      rw [Lg.put_ne _ _ _ hr,Lg.put_ne _ _ _ c1]; exact hd⟩
  exact ⟨_,o.shut,s,hs,rfl,rfl⟩
theorem tnext_spec (hf : H_f102 N F) (e : L s = some (.abs (SetP s σ))) (hs : σ.x.l.Pairwise It.lt) : CallL F (N k_f102) [.p (some (s,0))] L fun v L' => v = .tup [.i .i64 σ.x.next.1,.b σ.x.next.2] ∧ L' = L := by
  apply CallL.openS e
  intro t K o
  have hb := o.back e
  obtain ⟨sv,h1,h2,h3,h4,h5,h6⟩ := o
  apply r_f102 hf.code
  unfold D_f102_1
  simp [rdL,AB.read,look,h1]
  refine (xnext_spec hf.f43 h2 hs).mono ?_
  rintro _ _ ⟨rfl,rfl⟩
  simpa using hb
theorem tlen_spec (hf : H_f103 N F) (e : L s = some (.abs (SetP s σ))) : CallL F (N k_f103) [.p (some (s,0))] L fun v L' => v = .i .i64 σ.ones.length ∧ L' = L := by
  apply CallL.openS e
  intro t K o
  have hb := o.back e
  obtain ⟨sv,h1,h2,h3,h4,h5,h6⟩ := o
  apply r_f103 hf.code
  unfold D_f103_1
  rcases h5 with ⟨g1,rfl⟩ | ⟨b,rfl,a2,a3,a4,a5,a6⟩
  · simpa [rdL,AB.read,look,h1,g1] using hb
  · simpa [rdL,AB.read,look,h1] using hb
theorem Tms.has_nat {σ : Tms} {id : Int} (h : σ.has id = true) : ∃ i : Nat,id = (i : Int) ∧ i < σ.ones.length := by
  simp [Tms.has] at h
  obtain ⟨i,rfl⟩ := Int.eq_ofNat_of_zero_le h.1
  exact ⟨i,rfl,by omega⟩
def Tms.one (σ : Tms) (id : Int) : Option On := if σ.has id = true then σ.ones[id.toNat]? else none
theorem tkind_spec (hf : H_f104 N F) (e : L s = some (.abs (SetP s σ))) (id : Int) : CallL F (N k_f104) [.p (some (s,0)),.i .i64 id] L fun v L' => v = .i .i64 (match σ.one id with | some o => o.kind | none => 0) ∧ L' = L := by
  apply CallL.openS e
  intro t K o
  have hb := o.back e
  apply r_f104 hf.code
  unfold D_f104_1 Tms.one
  refine (has_open hf.f49 o id).mono ?_
  rintro _ _ ⟨rfl,rfl⟩
  cases hh : σ.has id
  · simpa using hb
  · obtain ⟨i,rfl,hi⟩ := Tms.has_nat hh
    obtain ⟨sv,h1,h2,h3,h4,h5,h6⟩ := o
    rcases h5 with ⟨g1,rfl⟩ | ⟨b,rfl,a2,a3,a4,a5,a6⟩
    · rw [g1] at hi; simp at hi
    · have ei : (i : Int) < (σ.ones.length : Int) := by omega
      have hg : σ.ones[i]? = some σ.ones[i] := List.getElem?_eq_getElem hi
      have h9 := ocells_get σ.ones i 0 _ hg (by omega)
      simp [On.cells] at h9
      simpa [rdL,AB.read,look,h1,wp_iad _ _ _ 4 b 0 σ.ones.length σ.ones.length 4 .i64 (i : Int) (Int.natCast_nonneg _) ei,a2,h9,hi] using hb
theorem tgen_spec (hf : H_f60 N F) (e : L s = some (.abs (SetP s σ))) (id : Int) : CallL F (N k_f60) [.p (some (s,0)),.i .i64 id] L fun v L' => v = .i .i64 (match σ.one id with | some o => o.gen | none => 0) ∧ L' = L := by
  apply CallL.openS e
  intro t K o
  have hb := o.back e
  apply r_f60 hf.code
  unfold D_f60_1 Tms.one
  refine (has_open hf.f49 o id).mono ?_
  rintro _ _ ⟨rfl,rfl⟩
  cases hh : σ.has id
  · simpa using hb
  · obtain ⟨i,rfl,hi⟩ := Tms.has_nat hh
    obtain ⟨sv,h1,h2,h3,h4,h5,h6⟩ := o
    rcases h5 with ⟨g1,rfl⟩ | ⟨b,rfl,a2,a3,a4,a5,a6⟩
    · rw [g1] at hi; simp at hi
    · have ei : (i : Int) < (σ.ones.length : Int) := by omega
      have hg : σ.ones[i]? = some σ.ones[i] := List.getElem?_eq_getElem hi
      have h9 := ocells_get σ.ones i 3 _ hg (by omega)
      simp [On.cells] at h9
      simpa [rdL,AB.read,look,h1,wp_iad _ _ _ 4 b 0 σ.ones.length σ.ones.length 4 .i64 (i : Int) (Int.natCast_nonneg _) ei,a2,h9,hi] using hb
theorem tchan_spec (hf : H_f90 N F) (e : L s = some (.abs (SetP s σ))) (id : Int) : CallL F (N k_f90) [.p (some (s,0)),.i .i64 id] L fun v L' => v = (match σ.one id with | some o => ptr o.c | none => .p none) ∧ L' = L := by
  apply CallL.openS e
  intro t K o
  have hb := o.back e
  apply r_f90 hf.code
  unfold D_f90_1 Tms.one
  refine (has_open hf.f49 o id).mono ?_
  rintro _ _ ⟨rfl,rfl⟩
  cases hh : σ.has id
  · simpa using hb
  · obtain ⟨i,rfl,hi⟩ := Tms.has_nat hh
    obtain ⟨sv,h1,h2,h3,h4,h5,h6⟩ := o
    rcases h5 with ⟨g1,rfl⟩ | ⟨b,rfl,a2,a3,a4,a5,a6⟩
    · rw [g1] at hi; simp at hi
    · have ei : (i : Int) < (σ.ones.length : Int) := by omega
      have hg : σ.ones[i]? = some σ.ones[i] := List.getElem?_eq_getElem hi
      have h9 := ocells_get σ.ones i 2 _ hg (by omega)
      simp [On.cells] at h9
      simpa [rdL,AB.read,look,h1,wp_iad _ _ _ 4 b 0 σ.ones.length σ.ones.length 4 .i64 (i : Int) (Int.natCast_nonneg _) ei,a2,h9,hi] using hb
end
end Go.AM


set_option linter.unusedVariables false
set_option linter.unusedSimpArgs false
namespace Go.AM
variable {N : Nat → Nat} {F : Nat → Option AFn}

def Tms.armed (σ : Tms) (i : Nat) (w : On) (now d : Int) : Tms :=
  { σ with ones := σ.ones.set i { w with gen := w.gen + 1 },x := (σ.x.arm i (clockAdd now (max d 0)) (if w.kind = 2 then min d 4611686018427387904 else 0)).1 }
structure Tms.fine (σ : Tms) (n : Nat) (q : Int) : Prop where
  len : σ.x.l.length < n
  pos : 0 ≤ σ.x.seq
  seq : σ.x.seq < q
  named : 0 ≤ σ.named ∧ σ.named ≤ 64
  ones : σ.ones.length < n
section
variable {L K : Lg} {s t : Nat} {σ : Tms}
theorem arm_open (hf : H_f37 N F) (o : SOpen L s σ t K) {i : Nat} {w : On} (hw : σ.ones[i]? = some w) (hx : σ.x.l.length < 1000000) (hq : 0 ≤ σ.x.seq ∧ σ.x.seq < 4611686018427387904) (hg : 0 ≤ w.gen ∧ w.gen < 4611686018427387904) (now d : Int) :
    CallL F (N k_f37) [.p (some (s,0)),.i .i64 i,.i .i64 now,.i .i64 d] K fun v K' => v = .tup [] ∧ SOpen L s (σ.armed i w now d) t K' := by
  have hi : i < σ.ones.length := by
    rcases Nat.lt_or_ge i σ.ones.length with h | h
    · exact h
    · rw [List.getElem?_eq_none h] at hw; cases hw
  apply r_f37 hf.code
  generalize hQ : (fun (v : AV) (K' : Lg) => v = .tup [] ∧ SOpen L s (σ.armed i w now d) t K') = Q
  unfold D_f37_1 D_f37_2
  have o' := o
  obtain ⟨sv,h1,h2,h3,h4,h5,h6⟩ := o'
  rcases h5 with ⟨g1,rfl⟩ | ⟨b,rfl,a2,a3,a4,a5,a6⟩
  · rw [g1] at hi; simp at hi
  have ei : (i : Int) < (σ.ones.length : Int) := by omega
  have g0 := ocells_get σ.ones i 0 w hw (by omega)
  have g3 := ocells_get σ.ones i 3 w hw (by omega)
  have gat := ocells_at σ.ones i w hw
  have hle : i * 4 + 3 + 1 ≤ (ocells σ.ones).length := by have := gat.2; omega
  have hlt : i * 4 + 3 < (ocells σ.ones).length := by omega
  simp [On.cells] at g0 g3
  have w1 : wr .i64 (w.gen + 1) = w.gen + 1 := wr_id (by omega) (by omega)
  have key : ∀ p : Int,p = (if w.kind = 2 then min d 4611686018427387904 else 0) → ∀ K0 : Lg,K0 = K → D_f37_3 F N Q (.p (some (s,0))) (.i .i64 i) (.i .i64 now) (.i .i64 d) (.i .i64 p) K0 := by
    rintro p hp K0 rfl
    unfold D_f37_3
    simp [rdL,AB.read,look,h1]
    refine (clockAdd_spec hf.f2 now (max d 0) _).mono ?_
    rintro _ K1 ⟨rfl,rfl⟩
    refine (xarm_spec hf.f36 h2 hx hq i (clockAdd now (max d 0)) p).mono ?_
    rintro _ K2 ⟨rfl,rfl⟩
    have o2 := o.setX (σ.x.arm i (clockAdd now (max d 0)) p).1
    refine ⟨⟨?_,trivial⟩,?_⟩
    · simp [againV,semRL,rLdL,rdL,AB.read,look,h1]
    · have hs2 : (K1.put t (.abs (TmP t (σ.x.arm i (clockAdd now (max d 0)) p).1))) s = some (.raw (.cells [.sl (some (b,0)) σ.ones.length σ.ones.length 4,.p (some (t,0)),.i .i64 σ.named])) := by rw [Lg.put_ne _ _ _ (Ne.symm h3)]; exact h1
      have hb2 : (K1.put t (.abs (TmP t (σ.x.arm i (clockAdd now (max d 0)) p).1))) b = some (.raw (.cells (ocells σ.ones))) := by rw [Lg.put_ne _ _ _ a4]; exact a2
      simp [rdL,AB.read,look,hs2,wp_iad _ _ _ 4 b 0 σ.ones.length σ.ones.length 4 .i64 (i : Int) (Int.natCast_nonneg _) ei,hb2,g3,w1]
      rw [stL_cell hb2 hlt rfl,ocells_gen σ.ones i w (w.gen + 1) hw]
      refine ⟨_,Sees.refl _,?_⟩
      subst hQ
      refine ⟨rfl,.sl (some (b,0)) σ.ones.length σ.ones.length 4,?_,?_,h3,h4,.inr ⟨b,by simp [Tms.armed],by simp [Tms.armed],a3,a4,a5,by simpa [Tms.armed] using a6⟩,?_⟩
      · rw [Lg.put_ne _ _ _ (Ne.symm a3)]; exact hs2
      · rw [Lg.put_ne _ _ _ (Ne.symm a4),Lg.put_same]; simp [Tms.armed,hp]
      · intro r e hr he
        have c1 : r ≠ b := by rintro rfl; rw [a5] at he; cases he
        have c2 : r ≠ t := by rintro rfl; rw [h4] at he; cases he
        rw [Lg.put_ne _ _ _ c1,Lg.put_ne _ _ _ c2]; exact h6 r e hr he
  simp [rdL,AB.read,look,h1,wp_iad _ _ _ 4 b 0 σ.ones.length σ.ones.length 4 .i64 (i : Int) (Int.natCast_nonneg _) ei,a2,g0]
  refine ⟨fun hk => ?_,fun hk => ?_⟩
  · exact key _ (by rw [if_pos hk]) _ rfl
  · exact key 0 (by rw [if_neg hk]) _ rfl
theorem On.cells_one (w : On) : w.cells.all AV.one = true := by simp [On.cells,ptr]
theorem make4 (hf : H_f37 N F) (o : SOpen L s σ t K) {w : On} (hw0 : w.gen = 0) (hx : σ.x.l.length < 1000000) (hq : 0 ≤ σ.x.seq ∧ σ.x.seq < 4611686018427387904) (ho : σ.ones.length < 1000000) (now d : Int) {x5 : Nat} (h5s : x5 ≠ s) (r5 : K x5 = some (.raw (.cells w.cells))) {Q : AV → Lg → Prop}
    (hQ : ∀ K',SOpen L s ({ σ with ones := σ.ones ++ [w] }.armed σ.ones.length w now d) t K' → Q (.tup [.i .i64 σ.ones.length,.i .i64 0]) K') :
    D_f38_4 F N Q (.p (some (s,0))) (.i .i64 now) (.i .i64 d) (.p (some (x5,0))) K := by
  have o' := o
  obtain ⟨sv,h1,h2,h3,h4,h5,h6⟩ := o'
  unfold D_f38_4
  have rc : cut w.cells 0 4 = some w.cells := by simp [cut,On.cells,ble_nat]
  have wl : wr .i64 ((σ.ones.length : Int)) = (σ.ones.length : Int) := wr_id (by omega) (by omega)
  have hsv : OwnSl K sv (ocells σ.ones) σ.ones.length 4 := by
    rcases h5 with ⟨g1,rfl⟩ | ⟨b,rfl,a2,a3,a4,a5,a6⟩
    · exact .inl ⟨by simp [g1],by simp [g1,ocells],rfl⟩
    · exact .inr ⟨b,a6,rfl,a2,ocells_length _⟩
  have hsb : ∀ b,slB sv = some b → b ≠ s ∧ b ≠ t ∧ L b = none ∧ K b ≠ none := by
    intro b hb
    rcases h5 with ⟨g1,rfl⟩ | ⟨b',rfl,a2,a3,a4,a5,a6⟩
    · simp [slB] at hb
    · simp [slB] at hb; subst hb; exact ⟨a3,a4,a5,by rw [a2]; simp⟩
  have hdel : ∀ (M : Lg) r,slB sv ≠ some r → (M.delO (slB sv)) r = M r := by
    intro M r hr
    cases hh : slB sv with
    | none => rfl
    | some b => rw [hh] at hr; simp only [Lg.delO]; rw [Lg.del_apply,if_neg]; intro h; exact hr (by rw [h])
  simp [rdL,AB.read,look,h1,rLdL,rdCellsL,r5,rc]
  rw [newL_bslice (c := w.cells) _ _ (by simp [On.cells,reps,fillP,cellsOf_agg',splice,ble_nat,beq_nat,ptr]) w.cells_one]
  intro b1 hb1
  have nb : ∀ {y : Nat} {k : LC},K y = some k → y ≠ b1 := fun hx hxr => by rw [hxr,hb1] at hx; cases hx
  have hsv1 : OwnSl (K.put b1 (.raw (.cells w.cells))) sv (ocells σ.ones) σ.ones.length 4 := by
    rcases hsv with h | ⟨b,c0,c1,c2,c3⟩
    · exact .inl h
    · exact .inr ⟨b,c0,c1,by rw [Lg.put_ne _ _ _ (nb c2)]; exact c2,c3⟩
  simp
  refine hsv1.app (m := 1) (by omega) rfl (by omega) (new := w.cells) (by simp [rdCellsL,AB.read,rc]) (by simp [On.cells]) w.cells_one (by omega) ?_
  intro b2 hb2
  rw [Lg.put_apply] at hb2
  have n12 : b2 ≠ b1 := by rintro rfl; simp at hb2
  rw [if_neg n12] at hb2
  have nb2 : ∀ {y : Nat} {k : LC},K y = some k → y ≠ b2 := fun hx hxr => by rw [hxr,hb2] at hx; cases hx
  have onew : ocells σ.ones ++ w.cells = ocells (σ.ones ++ [w]) := by rw [ocells_append]; simp [ocells]
  rw [onew]
  have hds : slB sv ≠ some s := fun h => (hsb _ h).1 rfl
  have hdt : slB sv ≠ some t := fun h => (hsb _ h).2.1 rfl
  obtain ⟨M,hM⟩ : ∃ M,M = ((K.put b1 (.raw (.cells w.cells))).delO (slB sv)).put b2 (.raw (.cells (ocells (σ.ones ++ [w])))) := ⟨_,rfl⟩
  have hMs : M s = some (.raw (.cells [sv,.p (some (t,0)),.i .i64 σ.named])) := by rw [hM,Lg.put_ne _ _ _ (nb2 h1),hdel _ _ hds,Lg.put_ne _ _ _ (nb h1)]; exact h1
  have hMt : M t = some (.abs (TmP t σ.x)) := by rw [hM,Lg.put_ne _ _ _ (nb2 h2),hdel _ _ hdt,Lg.put_ne _ _ _ (nb h2)]; exact h2
  have hMb : M b2 = some (.raw (.cells (ocells (σ.ones ++ [w])))) := by rw [hM,Lg.put_same]
  have hMo : ∀ r d,r ≠ s → L r = some d → M r = some d := by
    intro r d hr hd
    have hk := h6 r d hr hd
    have hdr : slB sv ≠ some r := fun h => by rw [(hsb _ h).2.2.1] at hd; cases hd
    rw [hM,Lg.put_ne _ _ _ (nb2 hk),hdel _ _ hdr,Lg.put_ne _ _ _ (nb hk)]; exact hk
  rw [← hM]
  have hb2s : b2 ≠ s := Ne.symm (nb2 h1)
  have hb2t : b2 ≠ t := Ne.symm (nb2 h2)
  have hb2L : L b2 = none := (o.ne hb2).2
  have oN : SOpen L s { σ with ones := σ.ones ++ [w] } t (M.put s (.raw (.cells [.sl (some (b2,0)) (σ.ones.length + 1) (σ.ones.length + 1) 4,.p (some (t,0)),.i .i64 σ.named]))) :=
    ⟨.sl (some (b2,0)) (σ.ones.length + 1) (σ.ones.length + 1) 4,Lg.put_same _ _ _,by rw [Lg.put_ne _ _ _ h3]; exact hMt,h3,h4,.inr ⟨b2,by simp,by rw [Lg.put_ne _ _ _ hb2s]; exact hMb,hb2s,hb2t,hb2L,by simp⟩,fun r d hr hd => by rw [Lg.put_ne _ _ _ hr]; exact hMo r d hr hd⟩
  simp [rdL,AB.read,look,hMs,stL_cell hMs,wl]
  refine (arm_open hf oN (i := σ.ones.length) (w := w) (by simp) hx hq (by omega) now d).mono ?_
  rintro _ K' ⟨rfl,oR⟩
  have oR' := oR
  obtain ⟨sv',k1,k2,k3,k4,k5,k6⟩ := oR'
  have := hQ K' oR
  rcases k5 with ⟨g1,rfl⟩ | ⟨b',rfl,e2,e3,e4,e5,e6⟩
  · simp [Tms.armed] at g1
  · simp [rdL,AB.read,look,k1,wl,Tms.armed]
    exact ⟨_,Sees.refl _,by simpa [Tms.armed] using this⟩
def badN (now : Int) : Bool := decide (now < 0) || decide (4611686018427387904 < now)
def Tms.make (σ : Tms) (w : On) (now d : Int) : Tms × Int × Int :=
  if badN now = true ∨ w.data < 0 ∨ (w.kind = 2 ∧ d < 1) then (σ,0,1)
  else if w.kind ≠ 4 ∧ 64 ≤ σ.named then (σ,0,3)
  else ({ σ with named := if w.kind = 4 then σ.named else σ.named + 1,ones := σ.ones ++ [w] }.armed σ.ones.length w now d,σ.ones.length,0)
theorem make_open (hf : H_f38 N F) (o : SOpen L s σ t K) {w : On} (hw0 : w.gen = 0) (hfi : σ.fine 1000000 4611686018427387904) (now d : Int) :
    CallL F (N k_f38) [.p (some (s,0)),.agg w.cells,.i .i64 now,.i .i64 d] K fun v K' => v = .tup [.i .i64 (σ.make w now d).2.1,.i .i64 (σ.make w now d).2.2] ∧ SOpen L s (σ.make w now d).1 t K' := by
  apply r_f38 hf.code
  generalize hQ : (fun (v : AV) (K' : Lg) => v = .tup [.i .i64 (σ.make w now d).2.1,.i .i64 (σ.make w now d).2.2] ∧ SOpen L s (σ.make w now d).1 t K') = Q
  unfold D_f38_1
  simp
  rw [newL_box_agg _ _ _ (by simp [On.cells])]
  intro x5 hx5
  have n5 := o.ne hx5
  have o1 := o.onto hx5 (.raw (.cells w.cells))
  have r5 : (K.put x5 (.raw (.cells w.cells))) x5 = some (.raw (.cells w.cells)) := Lg.put_same _ _ _
  have hsub : ∀ r d,r ≠ s → L r = some d → (L.put x5 (.raw (.cells w.cells))) r = some d := by
    intro r d hr hd
    have : r ≠ x5 := by rintro rfl; rw [n5.2] at hd; cases hd
    rw [Lg.put_ne _ _ _ this]; exact hd
  have finE : ∀ k : Int,σ.make w now d = (σ,0,k) → fin1 (some (.tup [.i .i64 0,.i .i64 k])) Q (K.put x5 (.raw (.cells w.cells))) := by
    intro k hk
    refine ⟨_,Sees.refl _,?_⟩
    subst hQ
    rw [hk]
    exact ⟨rfl,o1.sub hsub⟩
  unfold D_f38_2
  refine (bad_spec hf.f24 now).mono ?_
  rintro _ K1 ⟨rfl,hK1⟩
  rw [← hK1] at finE o1 r5
  clear hK1
  rw [show (decide (now < 0) || decide (4611686018427387904 < now)) = badN now from rfl]
  cases hbad : badN now
  case true =>
    have := finE 1 (by simp [Tms.make,hbad])
    simpa using this
  case false =>
    have rd : ∀ k : Nat,rdL K1 (x5,k) none = w.cells[k]? := fun k => rdL_cell r5
    by_cases c2 : w.data < 0
    · have := finE 1 (by simp [Tms.make,c2])
      simpa [rd,On.cells,c2] using this
    · have nos : x5 ≠ s := n5.1
      by_cases c3 : w.kind = 2 ∧ d < 1
      · have := finE 1 (by simp [Tms.make,c3])
        simpa [rd,On.cells,c2,c3] using this
      · have c4 : ¬ (badN now = true ∨ w.data < 0 ∨ (w.kind = 2 ∧ d < 1)) := by simp [hbad,c2,c3]
        have o2 := o1.sub hsub
        have o2' := o2
        obtain ⟨sv,h1,h2,h3,h4,h5,h6⟩ := o2'
        have m3 : ¬ (w.kind ≠ 4 ∧ 64 ≤ σ.named) → D_f38_3 F N Q (.p (some (s,0))) (.i .i64 now) (.i .i64 d) (.p (some (x5,0))) K1 := by
          intro c5
          unfold D_f38_3
          by_cases c6 : w.kind = 4
          · simp [rd,On.cells,c6]
            refine make4 hf.f37 o2 hw0 hfi.len ⟨hfi.pos,hfi.seq⟩ hfi.ones now d nos r5 ?_
            intro K' oR
            subst hQ
            simp only [Tms.make,if_neg c4,if_neg c5,if_pos c6]
            exact ⟨by trivial,oR⟩
          · have w1 : wr .i64 (σ.named + 1) = σ.named + 1 := wr_id (by have := hfi.named; omega) (by have := hfi.named; omega)
            simp [r5,On.cells,c6,rdL,AB.read,look,h1,w1,stL_cell h1]
            have oN : SOpen L s { σ with named := σ.named + 1 } t (K1.put s (.raw (.cells [sv,.p (some (t,0)),.i .i64 (σ.named + 1)]))) := by
              refine ⟨sv,Lg.put_same _ _ _,by rw [Lg.put_ne _ _ _ h3]; exact h2,h3,h4,?_,fun r d hr hd => by rw [Lg.put_ne _ _ _ hr]; exact h6 r d hr hd⟩
              rcases h5 with h5 | ⟨b,a1,a2,a3,a4,a5,a6⟩
              · exact .inl h5
              · exact .inr ⟨b,a1,by rw [Lg.put_ne _ _ _ a3]; exact a2,a3,a4,a5,a6⟩
            refine make4 hf.f37 oN hw0 hfi.len ⟨hfi.pos,hfi.seq⟩ hfi.ones now d nos (by rw [Lg.put_ne _ _ _ nos]; exact r5) ?_
            intro K' oR
            subst hQ
            simp only [Tms.make,if_neg c4,if_neg c5,if_neg c6]
            exact ⟨by trivial,oR⟩
        have fin3 := fun h : w.kind ≠ 4 ∧ 64 ≤ σ.named => finE 3 (by simp only [Tms.make,if_neg c4,if_pos h])
        by_cases c6 : w.kind = 4
        · have := m3 (by simp [c6])
          simpa [rd,On.cells,c2,c6] using this
        · by_cases c7 : 64 ≤ σ.named
          · have := fin3 ⟨c6,c7⟩
            by_cases c8 : w.kind = 2
            · have c9 : ¬ d < 1 := fun h => c3 ⟨c8,h⟩
              simpa [r5,On.cells,c2,c6,c8,c9,rdL,AB.read,look,h1,c7] using this
            · simpa [r5,On.cells,c2,c6,c8,rdL,AB.read,look,h1,c7] using this
          · have := m3 (by simp [c7])
            by_cases c8 : w.kind = 2
            · have c9 : ¬ d < 1 := fun h => c3 ⟨c8,h⟩
              simpa [r5,On.cells,c2,c6,c8,c9,rdL,AB.read,look,h1,c7] using this
            · simpa [r5,On.cells,c2,c6,c8,rdL,AB.read,look,h1,c7] using this
end
end Go.AM


set_option linter.unusedVariables false
set_option linter.unusedSimpArgs false
namespace Go.AM
variable {N : Nat → Nat} {F : Nat → Option AFn}

theorem CallL.opq {f : Nat} {vs : List AV} {L : Lg} {Q0 : AV → Lg → Prop} (h : ∀ Q : AV → Lg → Prop,(∀ v L,Q0 v L → Q v L) → CallL F f vs L Q) : CallL F f vs L Q0 := h Q0 fun _ _ h => h
def Ch.tm : Ch := ⟨[],1,[],[],true,false,false⟩
def Lg.putC (L : Lg) (c : Option Nat) (x : Ch) : Lg := match c with
  | none => L
  | some c => L.put c (.abs (ChanP c x))
def Lg.hasC (L : Lg) (s : Nat) (c : Option Nat) (x : Ch) : Prop := ∀ a,c = some a → a ≠ s ∧ L a = some (.abs (ChanP a x))
section
variable {L K : Lg} {s t : Nat} {σ : Tms}
theorem make_spec (hf : H_f38 N F) (e : L s = some (.abs (SetP s σ))) {w : On} (hw0 : w.gen = 0) (hfi : σ.fine 1000000 4611686018427387904) (now d : Int) :
    CallL F (N k_f38) [.p (some (s,0)),.agg w.cells,.i .i64 now,.i .i64 d] L fun v L' => v = .tup [.i .i64 (σ.make w now d).2.1,.i .i64 (σ.make w now d).2.2] ∧ L' = L.put s (.abs (SetP s (σ.make w now d).1)) := by
  apply CallL.openS e
  intro t K o
  refine (make_open hf o hw0 hfi now d).sees ?_
  rintro _ K' ⟨rfl,o'⟩
  exact ⟨_,o'.shut,rfl,rfl⟩
theorem make_err {w : On} {now d : Int} (h : (σ.make w now d).2.2 ≠ 0) : (σ.make w now d).1 = σ ∧ (σ.make w now d).2.1 = 0 := by
  unfold Tms.make at *
  split
  · exact ⟨rfl,rfl⟩
  · split
    · exact ⟨rfl,rfl⟩
    · simp_all
theorem channel_spec (hf : H_f39 N F) (e : L s = some (.abs (SetP s σ))) (hfi : σ.fine 1000000 4611686018427387904) (kind now d : Int) :
    CallL F (N k_f39) [.p (some (s,0)),.i .i64 kind,.i .i64 now,.i .i64 d] L fun v L' => ∃ c,L c = none ∧ c ≠ s ∧
      ((σ.make ⟨kind,0,some c,0⟩ now d).2.2 = 0 ∧ v = .tup [.i .i64 (σ.make ⟨kind,0,some c,0⟩ now d).2.1,.p (some (c,0)),.i .i64 0] ∧ L' = (L.put s (.abs (SetP s (σ.make ⟨kind,0,some c,0⟩ now d).1))).put c (.abs (ChanP c .tm)) ∨
       (σ.make ⟨kind,0,some c,0⟩ now d).2.2 ≠ 0 ∧ v = .tup [.i .i64 0,.p none,.i .i64 (σ.make ⟨kind,0,some c,0⟩ now d).2.2] ∧ L' = L) := by
  refine CallL.opq ?_
  intro Q hQ
  apply r_f39 hf.code
  unfold D_f39_1
  refine (timed_spec hf.f23).mono ?_
  rintro _ L1 ⟨c,hc,rfl,rfl⟩
  have hcs : c ≠ s := by rintro rfl; rw [e] at hc; cases hc
  have e1 : (L.put c (.abs (ChanP c .tm))) s = some (.abs (SetP s σ)) := by rw [Lg.put_ne _ _ _ (Ne.symm hcs)]; exact e
  simp [fillP,splice,ble_nat,beq_nat]
  have hm := make_spec hf.f38 e1 (w := ⟨kind,0,some c,0⟩) rfl hfi now d
  refine CallL.mono hm ?_
  rintro _ L2 ⟨rfl,rfl⟩
  by_cases h0 : (σ.make ⟨kind,0,some c,0⟩ now d).2.2 = 0
  · simp [h0]
    refine ⟨_,Sees.refl _,hQ _ _ ⟨c,hc,hcs,.inl ⟨h0,rfl,?_⟩⟩⟩
    rw [Lg.put_comm _ (Ne.symm hcs)]
  · have h9 := make_err h0
    simp [h0,h9]
    refine ⟨L,?_,hQ _ _ ⟨c,hc,hcs,.inr ⟨h0,rfl,rfl⟩⟩⟩
    rw [Lg.put_self _ s _ e1]
    exact ((Ext2.refl L).put hc _).sees
theorem ttimer_spec (hf : H_f40 N F) (e : L s = some (.abs (SetP s σ))) (hfi : σ.fine 1000000 4611686018427387904) (now d : Int) :
    CallL F (N k_f40) [.p (some (s,0)),.i .i64 now,.i .i64 d] L fun v L' => ∃ c,L c = none ∧ c ≠ s ∧
      ((σ.make ⟨1,0,some c,0⟩ now d).2.2 = 0 ∧ v = .tup [.i .i64 (σ.make ⟨1,0,some c,0⟩ now d).2.1,.p (some (c,0)),.i .i64 0] ∧ L' = (L.put s (.abs (SetP s (σ.make ⟨1,0,some c,0⟩ now d).1))).put c (.abs (ChanP c .tm)) ∨
       (σ.make ⟨1,0,some c,0⟩ now d).2.2 ≠ 0 ∧ v = .tup [.i .i64 0,.p none,.i .i64 (σ.make ⟨1,0,some c,0⟩ now d).2.2] ∧ L' = L) := by
  refine CallL.opq ?_
  intro Q hQ
  apply r_f40 hf.code
  unfold D_f40_1
  refine (channel_spec hf.f39 e hfi 1 now d).mono ?_
  rintro _ L' ⟨c,hc,hcs,⟨h0,rfl,rfl⟩ | ⟨h0,rfl,rfl⟩⟩
  · simp
    exact ⟨_,Sees.refl _,hQ _ _ ⟨c,hc,hcs,.inl ⟨h0,rfl,rfl⟩⟩⟩
  · simp
    exact ⟨_,Sees.refl _,hQ _ _ ⟨c,hc,hcs,.inr ⟨h0,rfl,rfl⟩⟩⟩
theorem tticker_spec (hf : H_f52 N F) (e : L s = some (.abs (SetP s σ))) (hfi : σ.fine 1000000 4611686018427387904) (now d : Int) :
    CallL F (N k_f52) [.p (some (s,0)),.i .i64 now,.i .i64 d] L fun v L' => ∃ c,L c = none ∧ c ≠ s ∧
      ((σ.make ⟨2,0,some c,0⟩ now d).2.2 = 0 ∧ v = .tup [.i .i64 (σ.make ⟨2,0,some c,0⟩ now d).2.1,.p (some (c,0)),.i .i64 0] ∧ L' = (L.put s (.abs (SetP s (σ.make ⟨2,0,some c,0⟩ now d).1))).put c (.abs (ChanP c .tm)) ∨
       (σ.make ⟨2,0,some c,0⟩ now d).2.2 ≠ 0 ∧ v = .tup [.i .i64 0,.p none,.i .i64 (σ.make ⟨2,0,some c,0⟩ now d).2.2] ∧ L' = L) := by
  refine CallL.opq ?_
  intro Q hQ
  apply r_f52 hf.code
  unfold D_f52_1
  refine (channel_spec hf.f39 e hfi 2 now d).mono ?_
  rintro _ L' ⟨c,hc,hcs,⟨h0,rfl,rfl⟩ | ⟨h0,rfl,rfl⟩⟩
  · simp
    exact ⟨_,Sees.refl _,hQ _ _ ⟨c,hc,hcs,.inl ⟨h0,rfl,rfl⟩⟩⟩
  · simp
    exact ⟨_,Sees.refl _,hQ _ _ ⟨c,hc,hcs,.inr ⟨h0,rfl,rfl⟩⟩⟩
theorem tfunc_spec (hf : H_f53 N F) (e : L s = some (.abs (SetP s σ))) (hfi : σ.fine 1000000 4611686018427387904) (now d prog : Int) :
    CallL F (N k_f53) [.p (some (s,0)),.i .i64 now,.i .i64 d,.i .i64 prog] L fun v L' => v = .tup [.i .i64 (σ.make ⟨3,prog,none,0⟩ now d).2.1,.i .i64 (σ.make ⟨3,prog,none,0⟩ now d).2.2] ∧ L' = L.put s (.abs (SetP s (σ.make ⟨3,prog,none,0⟩ now d).1)) := by
  refine CallL.opq ?_
  intro Q hQ
  apply r_f53 hf.code
  unfold D_f53_1
  simp [fillP,splice,ble_nat,beq_nat]
  refine (make_spec hf.f38 e (w := ⟨3,prog,none,0⟩) rfl hfi now d).mono ?_
  rintro _ L2 ⟨rfl,rfl⟩
  simp
  exact ⟨_,Sees.refl _,hQ _ _ ⟨rfl,rfl⟩⟩
theorem tlapse_spec (hf : H_f55 N F) (e : L s = some (.abs (SetP s σ))) (hfi : σ.fine 1000000 4611686018427387904) (when ctx : Int) :
    CallL F (N k_f55) [.p (some (s,0)),.i .i64 when,.i .i64 ctx] L fun v L' => v = .tup [.i .i64 (σ.make ⟨4,ctx,none,0⟩ 0 when).2.1,.i .i64 (σ.make ⟨4,ctx,none,0⟩ 0 when).2.2] ∧ L' = L.put s (.abs (SetP s (σ.make ⟨4,ctx,none,0⟩ 0 when).1)) := by
  refine CallL.opq ?_
  intro Q hQ
  apply r_f55 hf.code
  unfold D_f55_1
  simp [fillP,splice,ble_nat,beq_nat]
  refine (make_spec hf.f38 e (w := ⟨4,ctx,none,0⟩) rfl hfi 0 when).mono ?_
  rintro _ L2 ⟨rfl,rfl⟩
  simp
  exact ⟨_,Sees.refl _,hQ _ _ ⟨rfl,rfl⟩⟩
theorem on_get {id : Int} {o : On} (h : σ.one id = some o) : ∃ i : Nat,id = (i : Int) ∧ i < σ.ones.length ∧ σ.ones[i]? = some o ∧ σ.has id = true := by
  unfold Tms.one at h
  split at h
  · rename_i hh
    obtain ⟨i,rfl,hi⟩ := Tms.has_nat hh
    exact ⟨i,rfl,hi,by simpa using h,hh⟩
  · cases h
theorem one_none {id : Int} (h : σ.one id = none) : σ.has id = false := by
  unfold Tms.one at h
  cases hh : σ.has id
  · rfl
  · obtain ⟨i,rfl,hi⟩ := Tms.has_nat hh
    simp [hh] at h; omega
def Ch.left (x : Ch) : Bool := decide (0 < x.vals.length)
def Ch.dropped (x : Ch) : Ch := { x with vals := [] }
def dropsC (c : Option Nat) (x : Ch) : Bool := c.isSome && x.left
theorem dropC_spec (hf : H_f50 N F) {c : Option Nat} {x : Ch} (hx : x.timed = true) (h : L.hasC s c x) : CallL F (N k_f50) [ptr c] L fun v L' => v = .b (dropsC c x) ∧ L' = L.putC c x.dropped := by
  cases c with
  | none => exact dropNil_spec hf
  | some c =>
    refine (drop_spec hf (h c rfl).2).mono ?_
    intro v L' h
    rw [if_pos hx] at h
    obtain ⟨rfl,rfl⟩ := h
    exact ⟨by simp [dropsC,Ch.left],rfl⟩
theorem stop_spec (hf : H_f51 N F) (e : L s = some (.abs (SetP s σ))) (hl : σ.x.l.length ≤ 1000000) (id : Int) {o : On} (ho : σ.one id = some o) {x : Ch} (hx : x.timed = true) (hc : L.hasC s o.c x) :
    CallL F (N k_f51) [.p (some (s,0)),.i .i64 id] L fun v L' => v = .tup [.b (dropsC o.c x || (findId id σ.x.l).isSome),.i .i64 0] ∧ L' = (L.put s (.abs (SetP s { σ with x := σ.x.stop id }))).putC o.c x.dropped := by
  refine CallL.opq ?_
  intro Q hQ
  obtain ⟨i,rfl,hi,hg,hh⟩ := on_get ho
  apply CallL.openS e
  intro t K op
  apply r_f51 hf.code
  unfold D_f51_1
  refine (has_open hf.f49 op i).mono ?_
  rintro _ K0 ⟨rfl,rfl⟩
  have op' := op
  obtain ⟨sv,h1,h2,h3,h4,h5,h6⟩ := op'
  simp [hh,rdL,AB.read,look,h1]
  refine (xstop_spec hf.f34 h2 hl i).mono ?_
  rintro _ K1 ⟨rfl,rfl⟩
  have o2 := op.setX (σ.x.stop i)
  rcases h5 with ⟨g1,rfl⟩ | ⟨b,rfl,a2,a3,a4,a5,a6⟩
  · rw [g1] at hi; simp at hi
  have ei : (i : Int) < (σ.ones.length : Int) := by omega
  have h9 := ocells_get σ.ones i 2 _ hg (by omega)
  simp [On.cells] at h9
  have hs2 : (K0.put t (.abs (TmP t (σ.x.stop i)))) s = some (.raw (.cells [.sl (some (b,0)) σ.ones.length σ.ones.length 4,.p (some (t,0)),.i .i64 σ.named])) := by rw [Lg.put_ne _ _ _ (Ne.symm h3)]; exact h1
  have hb2 : (K0.put t (.abs (TmP t (σ.x.stop i)))) b = some (.raw (.cells (ocells σ.ones))) := by rw [Lg.put_ne _ _ _ a4]; exact a2
  simp [rdL,AB.read,look,hs2,wp_iad _ _ _ 4 b 0 σ.ones.length σ.ones.length 4 .i64 (i : Int) (Int.natCast_nonneg _) ei,hb2,h9]
  have hsee : ∀ y,Sees ((K0.put t (.abs (TmP t (σ.x.stop i)))).putC o.c y) ((L.put s (.abs (SetP s { σ with x := σ.x.stop i }))).putC o.c y) := by
    intro y
    cases hoc : o.c with
    | none => exact o2.shut
    | some c =>
      have h8 := hc c hoc
      simp only [Lg.putC]
      rw [Lg.put_comm _ (Ne.symm h8.1)]
      exact (o2.putOld h8.1 h8.2 _).shut
  have hc2 : (K0.put t (.abs (TmP t (σ.x.stop i)))).hasC s o.c x := by
    intro c hoc
    have h8 := hc c hoc
    exact ⟨h8.1,o2.old h8.1 h8.2⟩
  refine (dropC_spec hf.f50 hx hc2).mono ?_
  rintro _ K2 ⟨rfl,rfl⟩
  cases hd : dropsC o.c x
  · simp
    exact ⟨_,hsee _,hQ _ _ ⟨by simp [hd],rfl⟩⟩
  · simp
    exact ⟨_,hsee _,hQ _ _ ⟨by simp [hd],rfl⟩⟩
theorem stop_none (hf : H_f51 N F) (e : L s = some (.abs (SetP s σ))) (id : Int) (ho : σ.one id = none) :
    CallL F (N k_f51) [.p (some (s,0)),.i .i64 id] L fun v L' => v = .tup [.b false,.i .i64 4] ∧ L' = L := by
  refine CallL.opq ?_
  intro Q hQ
  apply CallL.openS e
  intro t K op
  apply r_f51 hf.code
  unfold D_f51_1
  refine (has_open hf.f49 op id).mono ?_
  rintro _ K0 ⟨rfl,rfl⟩
  simp [one_none ho]
  exact ⟨_,op.back e,hQ _ _ ⟨rfl,rfl⟩⟩
end
end Go.AM


set_option linter.unusedVariables false
set_option linter.unusedSimpArgs false
namespace Go.AM
variable {N : Nat → Nat} {F : Nat → Option AFn}
theorem heldR_spec (h : H_f64 N F) (t : Int) (L : Lg) : CallL F (N k_f64) [.i .i64 t] L fun v L' => v = .i .i64 (held t) ∧ L' = L := by
  apply r_f64 h.code
  simp [D_f64_1]
  unfold held; omega
theorem addR_spec (h : H_f65 N F) (t d : Int) (L : Lg) : CallL F (N k_f65) [.i .i64 t,.i .i64 d] L fun v L' => v = .i .i64 (clockAdd t d) ∧ L' = L := by
  apply r_f65 h.code
  unfold D_f65_1
  refine (heldR_spec h.f64 _ _).mono ?_
  rintro _ _ ⟨rfl,rfl⟩
  refine (heldR_spec h.f64 _ _).mono ?_
  rintro _ _ ⟨rfl,rfl⟩
  have h1 := held_bounds t
  have h2 := held_bounds d
  have e4 : clockAdd t d = min (max (held t + held d) (-4611686018427387904)) 4611686018427387904 := rfl
  by_cases c1 : 0 < held d
  · have e2 : wr .i64 (4611686018427387904 - held d) = 4611686018427387904 - held d := wr_id (by omega) (by omega)
    have c2 : ¬ held d < 0 := by omega
    by_cases c3 : 4611686018427387904 - held d < held t
    · simp [c1,e2,c3,e4]; omega
    · have e1 : wr .i64 (held t + held d) = held t + held d := wr_id (by omega) (by omega)
      simp [c1,e2,c3,c2,e1,e4]; omega
  · by_cases c2 : held d < 0
    · have e3 : wr .i64 (-4611686018427387904 - held d) = -4611686018427387904 - held d := wr_id (by omega) (by omega)
      by_cases c3 : held t < -4611686018427387904 - held d
      · simp [c1,e3,c3,c2,e4]; omega
      · have e1 : wr .i64 (held t + held d) = held t + held d := wr_id (by omega) (by omega)
        simp [c1,e3,c3,c2,e1,e4]; omega
    · have e1 : wr .i64 (held t + held d) = held t + held d := wr_id (by omega) (by omega)
      simp [c1,c2,e1,e4]; omega
theorem lateR_spec (h : H_f63 N F) (d : Int) (L : Lg) : CallL F (N k_f63) [.i .i64 d] L fun v L' => v = .i .i64 (max (clockAdd d 0) 0) ∧ L' = L := by
  apply r_f63 h.code
  simp [D_f63_1]
  unfold clockAdd held; omega
theorem nextR_spec (h : H_f83 N F) (w p n : Int) (L : Lg) : CallL F (N k_f83) [.i .i64 w,.i .i64 p,.i .i64 n] L fun v L' => v = .tup [.i .i64 (clockNext w p n).1,.i .i64 (clockNext w p n).2] ∧ L' = L := by
  refine CallL.opq ?_
  intro Q hQ
  have fin : ∀ a b : Int,(a,b) = clockNext w p n → fin1 (some (.tup [.i .i64 a,.i .i64 b])) Q L := fun a b hab => ⟨L,Sees.refl _,hQ _ _ ⟨by rw [← hab],rfl⟩⟩
  apply r_f83 h.code
  unfold D_f83_1 D_f83_2
  have bad : (p < 1 ∨ min w n < 0 ∨ 4611686018427387904 < max w (max p n)) → fin1 (some (.tup [.i .i64 0,.i .i64 1])) Q L := fun hb => fin 0 1 (by unfold clockNext; rw [if_pos hb])
  by_cases c1 : p < 1
  · simp [c1]; exact bad (by omega)
  by_cases c2 : w < 0
  · simp [c1,c2]; exact bad (by omega)
  by_cases c3 : n < 0
  · simp [c1,c2,c3]; exact bad (by omega)
  by_cases c4 : 4611686018427387904 < p
  · simp [c1,c2,c3,c4]; exact bad (by omega)
  by_cases c5 : 4611686018427387904 < w
  · simp [c1,c2,c3,c4,c5]; exact bad (by omega)
  by_cases c6 : 4611686018427387904 < n
  · simp [c1,c2,c3,c4,c5,c6]; exact bad (by omega)
  simp [c1,c2,c3,c4,c5,c6]
  unfold D_f83_3
  have hgood : ¬ (p < 1 ∨ min w n < 0 ∨ 4611686018427387904 < max w (max p n)) := by omega
  by_cases c7 : n < w
  · simp [c7]
    exact fin w 0 (by unfold clockNext; rw [if_neg hgood,if_pos c7])
  have hp : p ≠ 0 := by omega
  have hp0 : 0 < p := by omega
  obtain ⟨q,hq⟩ : ∃ q,q = (n - w) / p := ⟨_,rfl⟩
  obtain ⟨r,hr⟩ : ∃ r,r = (n - w) % p := ⟨_,rfl⟩
  have hdm : p * q + r = n - w := by rw [hq,hr]; exact Int.mul_ediv_add_emod (n - w) p
  have hr0 : 0 ≤ r ∧ r < p := by rw [hr]; exact ⟨Int.emod_nonneg _ hp,Int.emod_lt_of_pos _ hp0⟩
  have hq0 : 0 ≤ q := by rw [hq]; exact Int.ediv_nonneg (by omega) (by omega)
  have hqn : q ≤ n - w := by rw [hq]; exact Int.ediv_le_self _ (by omega)
  have t1 : (n - w).tdiv p = q := by rw [Int.tdiv_eq_ediv_of_nonneg (by omega),hq]
  have t2 : (n - w).tmod p = r := by rw [Int.tmod_eq_emod_of_nonneg (by omega),hr]
  have hk : q + 1 ≠ 0 := by omega
  have t3 : (4611686018427387904 - w).tdiv (q + 1) = (4611686018427387904 - w) / (q + 1) := Int.tdiv_eq_ediv_of_nonneg (by omega)
  have e1 : wr .i64 (n - w) = n - w := wr_id (by omega) (by omega)
  have e2 : wr .i64 q = q := wr_id (by omega) (by omega)
  have e3 : wr .i64 (q + 1) = q + 1 := wr_id (by omega) (by omega)
  have e4 : wr .i64 (4611686018427387904 - w) = 4611686018427387904 - w := wr_id (by omega) (by omega)
  have hz : 0 ≤ (4611686018427387904 - w) / (q + 1) := Int.ediv_nonneg (by omega) (by omega)
  have hz2 : (4611686018427387904 - w) / (q + 1) ≤ 4611686018427387904 - w := Int.ediv_le_self _ (by omega)
  have e5 : wr .i64 ((4611686018427387904 - w) / (q + 1)) = (4611686018427387904 - w) / (q + 1) := wr_id (by omega) (by omega)
  have hle : p ≤ (4611686018427387904 - w) / (q + 1) ↔ p * (q + 1) ≤ 4611686018427387904 - w := Int.le_ediv_iff_mul_le (by omega)
  have hmul : p * (q + 1) = p * q + p := by rw [Int.mul_add,Int.mul_one]
  have hval : clockNext w p n = (clockAdd n (p - r),0) := by unfold clockNext; rw [if_neg hgood,if_neg c7,t2]
  have hca : clockAdd n (p - r) = min (w + p * (q + 1)) 4611686018427387904 := by
    rw [hmul]
    unfold clockAdd held
    omega
  simp [c7,e1,wp_quo _ _ _ _ _ _ hp,t1,e2,e3,e4,wp_quo _ _ _ _ _ _ hk,t3,e5]
  by_cases c8 : (4611686018427387904 - w) / (q + 1) < p
  · have : ¬ p * (q + 1) ≤ 4611686018427387904 - w := fun h9 => by have := hle.2 h9; omega
    refine ⟨fun _ => fin _ _ ?_,fun h9 => absurd c8 (by omega)⟩
    rw [hval,hca]
    congr 1
    omega
  · have h9 : p * (q + 1) ≤ 4611686018427387904 - w := hle.1 (by omega)
    have hpos : 0 ≤ p * (q + 1) := Int.mul_nonneg (by omega) (by omega)
    have e6 : wr .i64 ((q + 1) * p) = p * (q + 1) := by rw [Int.mul_comm,wr_id (by omega) (by omega)]
    have e7 : wr .i64 (w + p * (q + 1)) = w + p * (q + 1) := wr_id (by omega) (by omega)
    refine ⟨fun h10 => absurd h10 c8,fun _ => ?_⟩
    simp [e6,e7]
    refine fin _ _ ?_
    rw [hval,hca]
    congr 1
    omega
end Go.AM


set_option linter.unusedVariables false
set_option linter.unusedSimpArgs false
namespace Go.AM
variable {N : Nat → Nat} {F : Nat → Option AFn}
section
variable {L K : Lg} {s t : Nat} {σ : Tms}
theorem arm_spec (hf : H_f37 N F) (e : L s = some (.abs (SetP s σ))) {i : Nat} {w : On} (hw : σ.ones[i]? = some w) (hx : σ.x.l.length < 1000000) (hq : 0 ≤ σ.x.seq ∧ σ.x.seq < 4611686018427387904) (hg : 0 ≤ w.gen ∧ w.gen < 4611686018427387904) (now d : Int) :
    CallL F (N k_f37) [.p (some (s,0)),.i .i64 i,.i .i64 now,.i .i64 d] L fun v L' => v = .tup [] ∧ L' = L.put s (.abs (SetP s (σ.armed i w now d))) := by
  apply CallL.openS e
  intro t K o
  refine (arm_open hf o hw hx hq hg now d).sees ?_
  rintro _ K' ⟨rfl,o'⟩
  exact ⟨_,o'.shut,rfl,rfl⟩
def Tms.reset (σ : Tms) (id : Int) (o : On) (now d : Int) : Tms := { σ with x := σ.x.stop id }.armed id.toNat o now d
theorem reset_spec (hf : H_f54 N F) (e : L s = some (.abs (SetP s σ))) (hl : σ.x.l.length < 1000000) (hq : 0 ≤ σ.x.seq ∧ σ.x.seq < 4611686018427387904) (id now d : Int) {o : On} (ho : σ.one id = some o) (hg : 0 ≤ o.gen ∧ o.gen < 4611686018427387904) {x : Ch} (hx : x.timed = true) (hc : L.hasC s o.c x) :
    CallL F (N k_f54) [.p (some (s,0)),.i .i64 id,.i .i64 now,.i .i64 d] L fun v L' =>
      if badN now = true ∨ (o.kind = 2 ∧ d < 1) then v = .tup [.b false,.i .i64 1] ∧ L' = L
      else if o.kind = 4 then v = .tup [.b false,.i .i64 7] ∧ L' = L
      else v = .tup [.b (dropsC o.c x || (findId id σ.x.l).isSome),.i .i64 0] ∧ L' = (L.put s (.abs (SetP s (σ.reset id o now d)))).putC o.c x.dropped := by
  refine CallL.opq ?_
  intro Q hQ
  obtain ⟨i,rfl,hi,hg0,hh⟩ := on_get ho
  apply CallL.openS e
  intro t K op
  apply r_f54 hf.code
  unfold D_f54_1 D_f54_2
  refine (has_open hf.f49 op i).mono ?_
  rintro _ K0 ⟨rfl,rfl⟩
  have op' := op
  obtain ⟨sv,h1,h2,h3,h4,h5,h6⟩ := op'
  simp [hh]
  refine (bad_spec hf.f24 now).mono ?_
  rintro _ K1 ⟨rfl,rfl⟩
  rw [show (decide (now < 0) || decide (4611686018427387904 < now)) = badN now from rfl]
  have hb := op.back e
  rcases h5 with ⟨g1,rfl⟩ | ⟨b,rfl,a2,a3,a4,a5,a6⟩
  · rw [g1] at hi; simp at hi
  have ei : (i : Int) < (σ.ones.length : Int) := by omega
  have h9 := ocells_get σ.ones i 0 _ hg0 (by omega)
  simp [On.cells] at h9
  have iad := wp_iad F
  have rest : ¬ (badN now = true ∨ (o.kind = 2 ∧ d < 1)) → ¬ o.kind = 4 → D_f54_3 F N Q (.p (some (s,0))) (.i .i64 i) (.i .i64 now) (.i .i64 d) K1 := by
    intro c1 c2
    unfold D_f54_3
    refine CallL.pre hb ?_
    refine (stop_spec hf.f51 e (by omega) i ho hx hc).mono ?_
    rintro _ L2 ⟨rfl,rfl⟩
    have e2 : ((L.put s (.abs (SetP s { σ with x := σ.x.stop i }))).putC o.c x.dropped) s = some (.abs (SetP s { σ with x := σ.x.stop i })) := by
      cases hoc : o.c with
      | none => exact Lg.put_same _ _ _
      | some c => simp only [Lg.putC]; rw [Lg.put_ne _ _ _ (Ne.symm (hc c hoc).1),Lg.put_same]
    simp
    refine (arm_spec hf.f37 e2 (i := i) (w := o) hg0 (Nat.lt_of_le_of_lt (rmId_length _ _) hl) hq hg now d).mono ?_
    rintro _ L3 ⟨rfl,rfl⟩
    simp
    refine ⟨_,Sees.refl _,hQ _ _ ?_⟩
    rw [if_neg c1,if_neg c2]
    refine ⟨rfl,?_⟩
    cases hoc : o.c with
    | none => simp [Lg.putC,Tms.reset]
    | some c => simp only [Lg.putC,Tms.reset,Int.toNat_natCast]; rw [Lg.put_comm _ (hc c hoc).1,Lg.put_put]
  have fin1' : badN now = true ∨ (o.kind = 2 ∧ d < 1) → fin1 (some (.tup [.b false,.i .i64 1])) Q K1 := fun h => ⟨_,hb,hQ _ _ (by rw [if_pos h]; exact ⟨rfl,rfl⟩)⟩
  have fin2' : ¬ (badN now = true ∨ (o.kind = 2 ∧ d < 1)) → o.kind = 4 → fin1 (some (.tup [.b false,.i .i64 7])) Q K1 := fun h h4 => ⟨_,hb,hQ _ _ (by rw [if_neg h,if_pos h4]; exact ⟨rfl,rfl⟩)⟩
  cases hbad : badN now
  case true =>
    have := fin1' (.inl hbad)
    simpa using this
  case false =>
    by_cases c3 : o.kind = 2
    · by_cases c4 : d < 1
      · have := fin1' (.inr ⟨c3,c4⟩)
        simpa [rdL,AB.read,look,h1,wp_iad _ _ _ 4 b 0 σ.ones.length σ.ones.length 4 .i64 (i : Int) (Int.natCast_nonneg _) ei,a2,h9,c3,c4] using this
      · have := rest (by simp [hbad,c4]) (by omega)
        simpa [rdL,AB.read,look,h1,wp_iad _ _ _ 4 b 0 σ.ones.length σ.ones.length 4 .i64 (i : Int) (Int.natCast_nonneg _) ei,a2,h9,c3,c4] using this
    · by_cases c5 : o.kind = 4
      · have := fin2' (by simp [hbad,c3]) c5
        simpa [rdL,AB.read,look,h1,wp_iad _ _ _ 4 b 0 σ.ones.length σ.ones.length 4 .i64 (i : Int) (Int.natCast_nonneg _) ei,a2,h9,c3,c5] using this
      · have := rest (by simp [hbad,c3]) c5
        simpa [rdL,AB.read,look,h1,wp_iad _ _ _ 4 b 0 σ.ones.length σ.ones.length 4 .i64 (i : Int) (Int.natCast_nonneg _) ei,a2,h9,c3,c5] using this
theorem reset_none (hf : H_f54 N F) (e : L s = some (.abs (SetP s σ))) (id now d : Int) (ho : σ.one id = none) :
    CallL F (N k_f54) [.p (some (s,0)),.i .i64 id,.i .i64 now,.i .i64 d] L fun v L' => v = .tup [.b false,.i .i64 4] ∧ L' = L := by
  refine CallL.opq ?_
  intro Q hQ
  apply CallL.openS e
  intro t K op
  apply r_f54 hf.code
  unfold D_f54_1 D_f54_2
  refine (has_open hf.f49 op id).mono ?_
  rintro _ K0 ⟨rfl,rfl⟩
  simp [one_none ho]
  exact ⟨_,op.back e,hQ _ _ ⟨rfl,rfl⟩⟩
theorem Ext2.both {A B : Lg} (h : Ext2 A B) (r : Nat) (d : LC) : Ext2 (A.put r d) (B.put r d) := by
  intro b c e
  rw [Lg.put_apply] at e ⊢
  split
  · rename_i h9; rw [if_pos h9] at e; exact e
  · rename_i h9; rw [if_neg h9] at e; exact h b c e
theorem Ext2.bothC {A B : Lg} (h : Ext2 A B) (c : Option Nat) (y : Ch) : Ext2 (A.putC c y) (B.putC c y) := by
  cases c with
  | none => exact h
  | some c => exact h.both c _
theorem hasC_ext {A B : Lg} (h : Ext2 A B) {c : Option Nat} {x : Ch} (hc : A.hasC s c x) : B.hasC s c x := fun a ha => ⟨(hc a ha).1,h _ _ (hc a ha).2⟩
theorem putC_none {A : Lg} {c : Option Nat} {x y : Ch} {r : Nat} (hc : A.hasC s c x) (hr : A r = none) : (A.putC c y) r = none := by
  cases c with
  | none => exact hr
  | some c =>
    simp only [Lg.putC]
    rw [Lg.put_ne]
    · exact hr
    · rintro rfl; rw [(hc r rfl).2] at hr; cases hr
def putsC (c : Option Nat) (x : Ch) (now : Int) : Ch × List Wk × Bool := match c with
  | none => (x,[],false)
  | some _ => x.put now
theorem putC_spec (hf : H_f47 N F) {c : Option Nat} {x : Ch} (h : L.hasC s c x) (now : Int) : CallL F (N k_f47) [ptr c,.i .i64 now] L fun v L' => ∃ sl,v = .tup [sl,.b (putsC c x now).2.2] ∧
    FreshSl (L.putC c (putsC c x now).1) sl (wkcells (putsC c x now).2.1) (putsC c x now).2.1.length 5 L' := by
  cases c with
  | none =>
    refine (putNil_spec hf now).mono ?_
    rintro _ _ ⟨rfl,rfl⟩
    exact ⟨_,rfl,.inl ⟨rfl,rfl,rfl,rfl⟩⟩
  | some c => exact put_spec hf (h c rfl).2 now
def firedAV (id kind when now data : Int) (sl : AV) (kept : Bool) : AV := .agg [.i .i64 id,.i .i64 kind,.i .i64 when,.i .i64 now,.i .i64 data,sl,.b kept]
theorem fire_none (hf : H_f48 N F) (e : L s = some (.abs (SetP s σ))) (hs : σ.x.l.Pairwise It.lt) (hl : σ.x.l.length < 1000000) (hq : 0 ≤ σ.x.seq ∧ σ.x.seq < 4611686018427387904) (now : Int) (hk : (σ.x.take now).2.2 = false) :
    CallL F (N k_f48) [.p (some (s,0)),.i .i64 now] L fun v L' => v = .tup [firedAV 0 0 0 0 0 (.sl none 0 0 0) false,.b false] ∧ L' = L := by
  refine CallL.opq ?_
  intro Q hQ
  apply CallL.openS e
  intro t K op
  have hb := op.back e
  have tk : σ.x.take now = (σ.x,(0,0,0),false) := by
    unfold Xs.take at hk ⊢
    split
    · rfl
    · rename_i h; simp only [h] at hk
      split
      · rfl
      · rename_i h2; rw [if_neg h2] at hk; simp at hk
  apply r_f48 hf.code
  unfold D_f48_1 D_f48_2 D_f48_3
  simp
  intro a4 h4
  have e1 : Ext2 K (K.put a4 (.raw (.cells [.i .i64 0,.i .i64 0,.i .i64 0,.i .i64 0,.i .i64 0,.sl none 0 0 0,.b false]))) := (Ext2.refl K).put h4 _
  obtain ⟨sv,h1,h2,h3,h5,h6,h7⟩ := op
  simp [rdL,AB.read,look,e1 _ _ h1]
  refine (xtake_spec hf.f45 (e1 _ _ h2) hs hl hq now).mono ?_
  rintro _ K2 ⟨rfl,rfl⟩
  rw [tk]
  simp only [retDue]
  rw [Lg.put_self _ t _ (e1 _ _ h2)]
  simp
  intro a6 h6'
  rw [stL_cells (Lg.put_same _ _ _) (by simp) (by simp) (by simp)]
  simp [splice]
  unfold D_f48_4
  have n64 : a6 ≠ a4 := by rintro rfl; simp at h6'
  simp [fillP,splice,ble_nat,beq_nat]
  rw [stL_cells (c := [.i .i64 0,.i .i64 0,.i .i64 0,.i .i64 0,.i .i64 0,.sl none 0 0 0,.b false]) (by rw [Lg.put_ne _ _ _ (Ne.symm n64),Lg.put_same]) (by simp) (by simp) (by simp)]
  rw [res_cell_tmp _ _ (Lg.put_same _ _ _) (by simp [splice])]
  simp [splice]
  refine ⟨L,Sees.trans (Ext2.sees ?_) hb,hQ _ _ ⟨rfl,rfl⟩⟩
  have h6k : K a6 = none := by rw [Lg.put_ne _ _ _ n64] at h6'; exact h6'
  exact ((((Ext2.refl K).put h4 _).put h6k _).put h4 _)
theorem splice_3 (z1 z2 z3 a b c : AV) : splice [z1,z2,z3] 0 [a,b,c] = [a,b,c] := rfl
theorem splice_7 (z1 z2 z3 z4 z5 z6 z7 a b c d e f g : AV) : splice [z1,z2,z3,z4,z5,z6,z7] 0 [a,b,c,d,e,f,g] = [a,b,c,d,e,f,g] := rfl
theorem fire_spec (hf : H_f48 N F) (e : L s = some (.abs (SetP s σ))) (hs : σ.x.l.Pairwise It.lt) (hl : σ.x.l.length < 1000000) (hq : 0 ≤ σ.x.seq ∧ σ.x.seq < 4611686018427387904) (now : Int) {x' : Xs} {id when : Int} (tk : σ.x.take now = (x',(id,when,now),true))
    {o : On} (ho : σ.one id = some o) {x : Ch} (hc : L.hasC s o.c x) :
    CallL F (N k_f48) [.p (some (s,0)),.i .i64 now] L fun v L' => ∃ sl,v = .tup [firedAV id o.kind when now o.data sl (putsC o.c x now).2.2,.b true] ∧
      FreshSl ((L.put s (.abs (SetP s { σ with x := x' }))).putC o.c (putsC o.c x now).1) sl (wkcells (putsC o.c x now).2.1) (putsC o.c x now).2.1.length 5 L' := by
  refine CallL.opq ?_
  intro Q hQ
  obtain ⟨i,rfl,hi,hg0,hh⟩ := on_get ho
  apply CallL.openS e
  intro t K op
  apply r_f48 hf.code
  unfold D_f48_1 D_f48_2 D_f48_3
  simp
  intro a4 h4
  have e1 : Ext2 K (K.put a4 (.raw (.cells [.i .i64 0,.i .i64 0,.i .i64 0,.i .i64 0,.i .i64 0,.sl none 0 0 0,.b false]))) := (Ext2.refl K).put h4 _
  have oX := op.setX x'
  have op' := op
  obtain ⟨sv,h1,h2,h3,h5,h6,h7⟩ := op'
  simp [rdL,AB.read,look,e1 _ _ h1]
  refine (xtake_spec hf.f45 (e1 _ _ h2) hs hl hq now).mono ?_
  rintro _ K2 ⟨rfl,rfl⟩
  rw [tk]
  simp only [retDue]
  have nt4 : t ≠ a4 := by rintro rfl; rw [h2] at h4; cases h4
  obtain ⟨K2,hK2⟩ : ∃ K2,K2 = (K.put a4 (.raw (.cells [.i .i64 0,.i .i64 0,.i .i64 0,.i .i64 0,.i .i64 0,.sl none 0 0 0,.b false]))).put t (.abs (TmP t x')) := ⟨_,rfl⟩
  rw [← hK2]
  have E2 : Ext2 (K.put t (.abs (TmP t x'))) K2 := by rw [hK2]; exact e1.both _ _
  have r4 : K2 a4 = some (.raw (.cells [.i .i64 0,.i .i64 0,.i .i64 0,.i .i64 0,.i .i64 0,.sl none 0 0 0,.b false])) := by rw [hK2,Lg.put_ne _ _ _ (Ne.symm nt4),Lg.put_same]
  have b4 : (K.put t (.abs (TmP t x'))) a4 = none := by rw [Lg.put_ne _ _ _ (Ne.symm nt4)]; exact h4
  simp
  intro a6 h6'
  rw [stL_cells (Lg.put_same _ _ _) (by simp) (by simp) (by simp),Lg.put_put,splice_3]
  obtain ⟨K3,hK3⟩ : ∃ K3,K3 = K2.put a6 (.raw (.cells [.i .i64 i,.i .i64 when,.i .i64 now])) := ⟨_,rfl⟩
  rw [← hK3]
  have E3 : Ext2 K2 K3 := by rw [hK3]; exact (Ext2.refl _).put h6' _
  have r6 : K3 a6 = some (.raw (.cells [.i .i64 i,.i .i64 when,.i .i64 now])) := by rw [hK3,Lg.put_same]
  unfold D_f48_4
  simp
  unfold D_f48_5
  obtain ⟨sv',g1,g2,g3,g4,g5,g6⟩ := oX
  rcases g5 with ⟨q1,rfl⟩ | ⟨b,rfl,a2,a3,aa4,a5,aa6⟩
  · rw [show ({ σ with x := x' } : Tms).ones = σ.ones from rfl] at q1; rw [q1] at hi; simp at hi
  have ei : (i : Int) < (σ.ones.length : Int) := by omega
  have k3s := E3 _ _ (E2 _ _ g1)
  have k3b := E3 _ _ (E2 _ _ a2)
  have gat := ocells_at σ.ones i o hg0
  have f1 : rdL K3 (b,i * 4) (some 4) = some (.agg o.cells) := by rw [rdL_cells k3b (by exact gat.2)]; rw [show (ocells ({ σ with x := x' } : Tms).ones) = ocells σ.ones from rfl,gat.1]
  have f2 : rdL K3 (s,0) none = some (.sl (some (b,0)) σ.ones.length σ.ones.length 4) := by rw [rdL_cell k3s]; rfl
  have f3 : rdL K3 (a6,0) none = some (.i .i64 i) := by rw [rdL_cell r6]; rfl
  simp [f1,f2,f3,wp_iad _ _ _ 4 b 0 σ.ones.length σ.ones.length 4 .i64 (i : Int) (Int.natCast_nonneg _) ei]
  intro a8 h8
  rw [stL_cells (Lg.put_same _ _ _) o.cells_one (by simp [On.cells]) (by simp)]
  have n68 : a6 ≠ a8 := by rintro rfl; rw [r6] at h8; cases h8
  obtain ⟨K4,hK4⟩ : ∃ K4,K4 = K3.put a8 (.raw (.cells o.cells)) := ⟨_,rfl⟩
  have E4 : Ext2 K3 K4 := by rw [hK4]; exact (Ext2.refl _).put h8 _
  have r8 : K4 a8 = some (.raw (.cells o.cells)) := by rw [hK4,Lg.put_same]
  have r64 := E4 _ _ r6
  have spl : splice [AV.i .i64 0,.i .i64 0,.p none,.i .i64 0] 0 o.cells = o.cells := by simp [splice,On.cells]
  rw [spl,Lg.put_put,← hK4]
  simp [rdL,AB.read,look,r64,r8,On.cells,fillP,splice,ble_nat,beq_nat]
  intro a21 h21
  rw [stL_cells (Lg.put_same _ _ _) (by simp) (by simp) (by simp),Lg.put_put,splice_7]
  obtain ⟨K5,hK5⟩ : ∃ K5,K5 = K4.put a21 (.raw (.cells [.i .i64 i,.i .i64 o.kind,.i .i64 when,.i .i64 now,.i .i64 o.data,.sl none 0 0 0,.b false])) := ⟨_,rfl⟩
  rw [← hK5]
  have E5 : Ext2 K4 K5 := by rw [hK5]; exact (Ext2.refl _).put h21 _
  have r21 : K5 a21 = some (.raw (.cells [.i .i64 i,.i .i64 o.kind,.i .i64 when,.i .i64 now,.i .i64 o.data,.sl none 0 0 0,.b false])) := by rw [hK5,Lg.put_same]
  have r85 := E5 _ _ r8
  simp [rdL,AB.read,look,r85,On.cells]
  have E25 : Ext2 (K.put t (.abs (TmP t x'))) K5 := ((E2.trans E3).trans E4).trans E5
  have hcK : (K.put t (.abs (TmP t x'))).hasC s o.c x := fun c hoc => ⟨(hc c hoc).1,g6 _ _ (hc c hoc).1 (hc c hoc).2⟩
  have hc5 : K5.hasC s o.c x := hasC_ext E25 hcK
  have n21 : (K.put t (.abs (TmP t x'))) a21 = none := ((E2.trans E3).trans E4).none h21
  refine (putC_spec hf.f47 hc5 now).mono ?_
  rintro _ K6 ⟨sl,rfl,hfr⟩
  obtain ⟨y,hy⟩ : ∃ y,y = (putsC o.c x now) := ⟨_,rfl⟩
  rw [← hy] at hfr
  rw [← hy]
  rw [← hy] at hQ
  have oX2 : SOpen (L.putC o.c y.1) s { σ with x := x' } t ((K.put t (.abs (TmP t x'))).putC o.c y.1) := by
    cases hoc : o.c with
    | none => exact op.setX x'
    | some c => exact (op.setX x').putOld (hc c hoc).1 (hc c hoc).2 _
  have comm : ∀ d,(L.putC o.c y.1).put s d = (L.put s d).putC o.c y.1 := by
    intro d
    cases hoc : o.c with
    | none => rfl
    | some c => simp only [Lg.putC]; rw [Lg.put_comm _ (hc c hoc).1]
  have E6 : Ext2 ((K.put t (.abs (TmP t x'))).putC o.c y.1) (K5.putC o.c y.1) := E25.bothC _ _
  have c4 : ((K.put t (.abs (TmP t x'))).putC o.c y.1) a4 = none := putC_none hcK b4
  have c21 : ((K.put t (.abs (TmP t x'))).putC o.c y.1) a21 = none := putC_none hcK n21
  have r4K : K5 a4 = some (.raw (.cells [.i .i64 0,.i .i64 0,.i .i64 0,.i .i64 0,.i .i64 0,.sl none 0 0 0,.b false])) := E5 _ _ (E4 _ _ (E3 _ _ r4))
  have n4c : ∀ c,o.c = some c → a4 ≠ c := fun c hoc h => by rw [← h] at hoc; have := (hcK a4 hoc).2; rw [b4] at this; cases this
  have n21c : ∀ c,o.c = some c → a21 ≠ c := fun c hoc h => by rw [← h] at hoc; have := (hcK a21 hoc).2; rw [n21] at this; cases this
  have getC : ∀ r d,(∀ c,o.c = some c → r ≠ c) → K5 r = some d → (K5.putC o.c y.1) r = some d := by
    intro r d h1 h2
    cases hoc : o.c with
    | none => exact h2
    | some c => simp only [Lg.putC]; rw [Lg.put_ne _ _ _ (h1 c hoc)]; exact h2
  have q4 := getC _ _ n4c r4K
  have q21 := getC _ _ n21c r21
  have n421 : a4 ≠ a21 := by rintro rfl; rw [E4 _ _ (E3 _ _ r4)] at h21; cases h21
  have fin : ∀ (B : Lg),Ext2 B K6 → B a4 = none → B a21 = none → K6 a4 = some (.raw (.cells [.i .i64 0,.i .i64 0,.i .i64 0,.i .i64 0,.i .i64 0,.sl none 0 0 0,.b false])) → K6 a21 = some (.raw (.cells [.i .i64 i,.i .i64 o.kind,.i .i64 when,.i .i64 now,.i .i64 o.data,.sl none 0 0 0,.b false])) → sl.one = true → sl.cellsOf = some [sl] → (∀ K7,Ext2 B K7 → ∃ L',Sees K7 L' ∧ FreshSl ((L.putC o.c y.1).put s (.abs (SetP s { σ with x := x' }))) sl (wkcells y.2.1) y.2.1.length 5 L') → 
      wpOp F (.ext 0) [.tup [sl,.b y.2.2]] K6 fun v26 L26 => wpOp F (.ext 1) [.tup [sl,.b y.2.2]] L26 fun v27 L27 => wpOp F (.fad 5) [.p (some (a21,0))] L27 fun v28 L28 => wpOp F (.st 1) [v28,v26] L28 fun _ L29 =>
        wpOp F (.fad 6) [.p (some (a21,0))] L29 fun v30 L30 => wpOp F (.st 1) [v30,v27] L30 fun _ L31 => wpOp F (.ld (some 7)) [.p (some (a21,0))] L31 fun v32 L32 => wpOp F (.st 7) [.p (some (a4,0)),v32] L32 fun _ L33 =>
        fin1 (resVL Env.nil Env.nil L33 [.cell (.c (.p (some (a4,0)))) (some 7),.tmp (.c (.b true))]) Q L33 := by
    intro B hB b4 b21 k4 k21 hone hco hfin
    simp
    rw [stL_cell k21 (by simp) hco]
    simp
    rw [stL_cell (Lg.put_same _ _ _) (by simp) rfl,Lg.put_put]
    simp
    rw [rdL_cells (Lg.put_same _ _ _) (by simp)]
    simp
    rw [stL_cells (c := [.i .i64 0,.i .i64 0,.i .i64 0,.i .i64 0,.i .i64 0,.sl none 0 0 0,.b false]) (by rw [Lg.put_ne _ _ _ n421]; exact k4) (by simp [hone]) (by simp) (by simp),splice_7]
    rw [res_cell_tmp _ _ (Lg.put_same _ _ _) (by simp)]
    simp
    obtain ⟨L',g1,g2⟩ := hfin _ ((hB.put b21 _).put b4 _)
    refine ⟨_,g1,hQ _ _ ⟨sl,rfl,?_⟩⟩
    rw [← comm]
    exact g2
  rcases hfr with ⟨z1,z2,rfl,rfl⟩ | ⟨bs,ex,z1,z2,rfl,z3,rfl⟩
  · refine fin _ E6 c4 c21 q4 q21 rfl rfl ?_
    intro K7 hK7
    exact ⟨_,(Ext2.sees hK7).trans oX2.shut,.inl ⟨z1,z2,rfl,rfl⟩⟩
  · have nb4 : a4 ≠ bs := by rintro rfl; rw [q4] at z1; cases z1
    have nb21 : a21 ≠ bs := by rintro rfl; rw [q21] at z1; cases z1
    have zz := E6.none z1
    refine fin _ (E6.both bs _) (by rw [Lg.put_ne _ _ _ nb4]; exact c4) (by rw [Lg.put_ne _ _ _ nb21]; exact c21) (by rw [Lg.put_ne _ _ _ nb4]; exact q4) (by rw [Lg.put_ne _ _ _ nb21]; exact q21) rfl rfl ?_
    intro K7 hK7
    have o9 := oX2.onto zz (.raw (.cells (wkcells y.2.1)))
    have ne := oX2.ne zz
    refine ⟨_,(Ext2.sees hK7).trans o9.shut,.inr ⟨bs,ex,?_,z2,rfl,z3,?_⟩⟩
    · rw [Lg.put_ne _ _ _ ne.1]; exact ne.2
    · rw [Lg.put_comm _ ne.1]
end
end Go.AM


set_option linter.unusedVariables false
set_option linter.unusedSimpArgs false
namespace Go.AM

theorem badT_ok {a b : Int} (h1 : 0 ≤ a) (h2 : 0 ≤ b) (h3 : a ≤ 4611686018427387904) (h4 : b ≤ 4611686018427387904) : badT a b = false := by
  simp [badT]; omega
section
variable {σ : Tms} {k dat g due q p : Int} {c : Option Nat}
end
end Go.AM


set_option linter.unusedVariables false
set_option linter.unusedSimpArgs false
namespace Go.AM
structure XG (x : Xs) (K : Int) : Prop where
  sorted : x.l.Pairwise It.lt
  nd : (x.l.map It.id).Nodup
  below : ∀ y ∈ x.l,y.s ≤ x.seq
  pos : 0 ≤ x.seq
  seq : x.seq ≤ K
  len : (x.l.length : Int) ≤ K
  per : ∀ y ∈ x.l,∃ p,x.pf y.id = some p ∧ 0 ≤ p ∧ p ≤ 4611686018427387904
  time : ∀ y ∈ x.l,0 ≤ y.w ∧ y.w ≤ 4611686018427387904
theorem rmId_mem {id : Int} {l : List It} {y : It} : y ∈ rmId id l ↔ y ∈ l ∧ y.id ≠ id := by simp [rmId]
theorem XG.mono {x : Xs} {K K' : Int} (h : XG x K) (hk : K ≤ K') : XG x K' := ⟨h.sorted,h.nd,h.below,h.pos,Int.le_trans h.seq hk,Int.le_trans h.len hk,h.per,h.time⟩
theorem XG.stop {x : Xs} {K : Int} (h : XG x K) (id : Int) : XG (x.stop id) K := by
  have sub : (rmId id x.l).Sublist x.l := List.filter_sublist
  refine ⟨h.sorted.sublist sub,h.nd.sublist (sub.map _),?_,h.pos,h.seq,?_,?_,?_⟩
  · intro y hy; exact h.below y (rmId_mem.1 hy).1
  · have h1 := sub.length_le
    have h2 := h.len
    have h3 : ((rmId id x.l).length : Int) ≤ (x.l.length : Int) := by omega
    exact Int.le_trans h3 h2
  · intro y hy
    have hy' := rmId_mem.1 hy
    obtain ⟨p,h1,h2⟩ := h.per y hy'.1
    have hn : ¬ id = y.id := fun h9 => hy'.2 h9.symm
    exact ⟨p,by simp [Xs.stop,updI,hn,hy'.2,h1],h2⟩
  · intro y hy; exact h.time y (rmId_mem.1 hy).1
theorem stop_mem {x : Xs} {id : Int} {y : It} : y ∈ (x.stop id).l ↔ y ∈ x.l ∧ y.id ≠ id := rmId_mem
theorem ins_mem {x y : It} {l : List It} : y ∈ ins x l ↔ y = x ∨ y ∈ l := by rw [(ins_perm x l).mem_iff]; simp
theorem XG.arm {x : Xs} {K : Int} (h : XG x K) (id when p : Int) (h1 : 0 ≤ when) (h2 : 0 ≤ p) (h3 : when ≤ 4611686018427387904) (h4 : p ≤ 4611686018427387904) :
    XG (x.arm id when p).1 (K + 1) ∧ (∀ y,y ∈ (x.arm id when p).1.l ↔ y = ⟨id,when,x.seq + 1⟩ ∨ (y ∈ x.l ∧ y.id ≠ id)) ∧ (x.arm id when p).1.pf id = some p ∧ (∀ j,j ≠ id → (x.arm id when p).1.pf j = x.pf j) ∧ (x.arm id when p).1.seq = x.seq + 1 := by
  have hb := badT_ok h1 h2 h3 h4
  have e : (x.arm id when p).1 = x.armed id when p := by simp [Xs.arm,hb]
  rw [e]
  have mem : ∀ y,y ∈ (x.armed id when p).l ↔ y = ⟨id,when,x.seq + 1⟩ ∨ (y ∈ x.l ∧ y.id ≠ id) := by
    intro y
    simp only [Xs.armed]
    rw [ins_mem,rmId_mem]
  have hs := h.stop id
  refine ⟨⟨?_,?_,?_,?_,?_,?_,?_,?_⟩,mem,by simp [Xs.armed,updI],?_,rfl⟩
  · refine ins_sorted hs.sorted ?_
    intro y hy
    have := h.below y (rmId_mem.1 hy).1
    simp; omega
  · simp only [Xs.armed]
    rw [((ins_perm _ _).map It.id).nodup_iff]
    simp only [List.map_cons,List.nodup_cons]
    refine ⟨?_,hs.nd⟩
    intro h9
    obtain ⟨y,hy,hyi⟩ := List.mem_map.1 h9
    exact (rmId_mem.1 hy).2 hyi
  · intro y hy
    rcases (mem y).1 hy with rfl | ⟨h5,_⟩
    · simp [Xs.armed]
    · have := h.below y h5; simp [Xs.armed]; omega
  · have := h.pos; simp [Xs.armed]; omega
  · have := h.seq; simp [Xs.armed]; omega
  · have h5 := hs.len
    simp only [Xs.armed,(ins_perm _ _).length_eq,List.length_cons]
    simp only [Xs.stop] at h5
    omega
  · intro y hy
    rcases (mem y).1 hy with rfl | ⟨h5,h6⟩
    · exact ⟨p,by simp [Xs.armed,updI],h2,h4⟩
    · obtain ⟨q,h7,h8⟩ := h.per y h5
      have hn : ¬ id = y.id := fun h9 => h6 h9.symm
      exact ⟨q,by simp [Xs.armed,updI,hn,h6,h7],h8⟩
  · intro y hy
    rcases (mem y).1 hy with rfl | ⟨h5,h6⟩
    · exact ⟨h1,h3⟩
    · exact h.time y h5
  · intro j hj
    have hn : ¬ id = j := fun h9 => hj h9.symm
    simp [Xs.armed,updI,hn,hj]
end Go.AM


set_option linter.unusedVariables false
set_option maxRecDepth 100000
namespace Go.AM
end Go.AM

set_option linter.unusedVariables false
namespace Go.AM
open Go.RowKit

structure AR (W : World) (S : St) (β : Bt) (L : Lg) : Prop where
  mod : Mod S L
  rel : Rel β W.heap.size S.h W
  wf : S.wf
  free : ∀ k,S.nx ≤ k → β k = none
theorem AR.nil (W : World) : AR W ⟨.nil,0⟩ (fun _ => none) Lg.nil := ⟨mod_nil 0,rel_nil W,wf_nil 0,fun _ _ => rfl⟩
def Bt.put (β : Bt) (n : Nat) (x : Nat × Nat × Nat) : Bt := fun m => if m = n then some x else β m
theorem AR.ext {W : World} {S : St} {β : Bt} {L : Lg} (h : AR W S β L) (x : Nat × Nat × Nat) : Ext β (Bt.put β S.nx x) := by
  intro n y e
  unfold Bt.put
  split
  · rename_i h9; subst h9; rw [h.free _ (Nat.le_refl _)] at e; cases e
  · exact e
theorem AR.slice {W : World} {S : St} {β : Bt} {L : Lg} (h : AR W S β L) {b off : Nat} {c : List AV} {cur t fr} (hb : W.heap[b]? = some (.cells cur t fr)) (hc : CellsR β c off cur) :
    AR W ⟨S.h.set S.nx (some (.ro c)),S.nx + 1⟩ (Bt.put β S.nx (b,off,0)) (L.put S.nx (.raw (.ro c))) := by
  have he := h.ext (b,off,0)
  have hlt : b < W.heap.size := (Array.getElem?_eq_some_iff.1 hb).1
  refine ⟨h.mod.new _,⟨?_,?_,?_,h.rel.le⟩,?_,?_⟩
  · intro n bl b' o z hg hn
    rw [PM.get_set] at hg
    unfold Bt.put at hn
    split at hg
    · rename_i h9
      rw [if_pos h9] at hn
      cases hg; cases hn
      exact ⟨cur,t,fr,hb,hc.mono he⟩
    · rename_i h9
      rw [if_neg h9] at hn
      exact (h.rel.blk n bl b' o z hg hn).mono he
  · intro n m bl bm b' x y hg hm ho hn hm2
    rw [PM.get_set] at hg hm
    unfold Bt.put at hn hm2
    split at hg
    · cases hg; simp [AB.own] at ho
    · rename_i h9
      rw [if_neg h9] at hn
      have hbase := (h.rel.blk n bl b' x.1 x.2 hg hn).le ho
      split at hm
      · rename_i h8
        rw [if_pos h8] at hm2
        simp only [Option.some.injEq,Prod.mk.injEq] at hm2
        have := hm2.1
        have h3 := h.rel.lt n b' x hn
        have h4 := h.rel.le
        omega
      · rename_i h8
        rw [if_neg h8] at hm2
        exact h.rel.inj n m bl bm b' x y hg hm ho hn hm2
  · intro n b' x hn
    unfold Bt.put at hn
    split at hn
    · cases hn; exact hlt
    · exact h.rel.lt n b' x hn
  · intro n bl hg
    rw [PM.get_set] at hg
    split at hg
    · rename_i h9; subst h9; exact Nat.lt_succ_self _
    · exact Nat.lt_succ_of_lt (h.wf n bl hg)
  · intro k hk
    have h9 : k ≠ S.nx := by have : S.nx + 1 ≤ k := hk; omega
    unfold Bt.put
    rw [if_neg h9]
    exact h.free k (by have : S.nx + 1 ≤ k := hk; omega)
theorem AR.calls {W : World} {S : St} {β : Bt} {L : Lg} (h : AR W S β L) {P : Program} {F : Nat → Option AFn} (hm : P.follows .mixedOrders = true) (hF : TblOk P F) {f : Nat} {vs : List AV} {as : Array Value} (hv : VRs β vs as.toList)
    (hc : CallL F f vs L fun v _ => v = .b true) : Calls P f as W fun e w' => e = .returned (.bool true) ∧ Below W.heap.size W w' := by
  obtain ⟨n,v,S',h1,L',h2,rfl⟩ := hc S h.mod
  exact calls_true hm hF h1 h.wf hv h.rel (fun k h3 _ => h.free k h3)
def ArgSl (L : Lg) (v : AV) (cs : List AV) (n size : Nat) : Prop := cs.length = n * size ∧ ((n = 0 ∧ v = .sl none 0 0 0) ∨ ∃ b cap,v = .sl (some (b,0)) n cap 0 ∧ L b = some (.raw (.ro cs)))
theorem ArgSl.len {F : Nat → Option AFn} {L : Lg} {a : AV} {cs : List AV} {n size : Nat} (h : ArgSl L a cs n size) (M : Lg) (k : AV → Lg → Prop) : wpOp F .lenSl [a] M k = k (.i .i64 n) M := by
  obtain ⟨_,⟨rfl,rfl⟩ | ⟨b,cap,rfl,_⟩⟩ := h
  · simp
  · simp
theorem ArgSl.get {L : Lg} {a : AV} {cs : List AV} {n size : Nat} (h : ArgSl L a cs n size) {i : Nat} (hi : i < n) : ∃ b cap,a = .sl (some (b,0)) n cap 0 ∧ L b = some (.raw (.ro cs)) := by
  obtain ⟨_,⟨rfl,rfl⟩ | ⟨b,cap,rfl,e⟩⟩ := h
  · omega
  · exact ⟨b,cap,rfl,e⟩
end Go.AM

set_option linter.unusedVariables false
set_option linter.unusedSimpArgs false
namespace Go.AM
variable {N : Nat → Nat} {F : Nat → Option AFn}
end Go.AM


set_option linter.unusedVariables false
set_option linter.unusedSimpArgs false
namespace Go.AM
variable {N : Nat → Nat} {F : Nat → Option AFn} {L : Lg}
section
variable {c rg q1 q2 : Nat} {x : Ch} {K : Lg} {Q : AV → Lg → Prop}
end
end Go.AM


set_option linter.unusedVariables false
namespace Go.AM
open Go.RowKit
theorem flat_get {X : Type} {f : X → List AV} {z : Nat} : ∀ (l : List X),(∀ x ∈ l,(f x).length = z) → ∀ (k : Nat) (v : AV),(l.flatMap f)[k]? = some v → ∃ i j x,l[i]? = some x ∧ (f x)[j]? = some v ∧ k = i * z + j
  | [],_,k,v,h => by simp at h
  | y :: r,hz,k,v,h => by
    have hy := hz y (by simp)
    rw [List.flatMap_cons] at h
    by_cases hk : k < z
    · rw [List.getElem?_append_left (by omega)] at h
      exact ⟨0,k,y,rfl,h,by omega⟩
    · rw [List.getElem?_append_right (by omega),hy] at h
      obtain ⟨i,j,x,h1,h2,h3⟩ := flat_get r (fun x hx => hz x (by simp [hx])) (k - z) v h
      exact ⟨i + 1,j,x,by simpa using h1,h2,by rw [Nat.add_mul]; omega⟩
theorem flat_len {X : Type} {f : X → List AV} {z : Nat} : ∀ (l : List X),(∀ x ∈ l,(f x).length = z) → (l.flatMap f).length = l.length * z
  | [],_ => by simp
  | y :: r,hz => by
    rw [List.flatMap_cons,List.length_append,hz y (by simp),flat_len r (fun x hx => hz x (by simp [hx])),List.length_cons,Nat.add_mul]
    omega
theorem AR.rows {X : Type} [Inhabited X] (f : X → List AV) {z : Nat} {H : Type} {enc : TypeId × Value → H} {P : Program} {W : World} {S : St} {β : Bt} {L : Lg} (h : AR W S β L) {t e : TypeId} {v : Value} {d : DataW H} {ps : List MemPlace} (ht : P.underlying t = some (.slice e)) (hc : P.cellsOf e = z) (hfz : ∀ x,(f x).length = z)
    (hX : ∀ n cs y,DataW.trod enc P W 0 (fun _ => true) true n e cs = some y → ∃ x,VRs (fun _ => none) (f x) cs) {base : Nat} (hval : Value.okWide P W .any base t v) (hd : DataW.Trod enc P W 0 (fun _ => true) true t v d ps) :
    ∃ (l : List X) (S' : St) (β' : Bt) (L' : Lg) (a : AV),AR W S' β' L' ∧ Ext β β' ∧ Ext2 L L' ∧ VR β' a v ∧ ArgSl L' a (l.flatMap f) l.length z := by
  obtain ⟨a0,len,cap,rfl⟩ := Go.WideShapes.okWide_slice ht hval
  obtain ⟨fuel,hf⟩ := hd
  have hf : DataW.trod enc P W 0 (fun _ => true) true fuel t [.slice a0 len cap] = some (d,ps) := hf
  rcases DataW.trod_slice ht hf with ⟨h0,_⟩ | ⟨a,len',cap',elems,rest,n,_,h0,_,hb,hl,hm,hlen,hel,_,_⟩
  · cases h0
    exact ⟨[],S,β,L,_,h,Ext.refl β,Ext2.refl L,.sln,by simp,.inl ⟨rfl,rfl⟩⟩
  · cases h0
    have hok : Cell.ok P W .any base t (.slice (some a) len cap) := by
      simp only [Value.okWide,ht,Cell.okWide] at hval
      exact hval
    simp only [Cell.ok,ht] at hok
    obtain ⟨_,_,_,hsp,row,cells,hsh,_⟩ := hok
    obtain ⟨ab,aoff,asp⟩ := a
    simp only at hsp
    subst hsp
    have hsh' : ∃ cur t fr,W.heap[ab]? = some (.cells cur t fr) := by
      unfold World.shape? at hsh
      split at hsh
      · rename_i cur el fr hh; exact ⟨_,_,_,hh⟩
      · cases hsh
    obtain ⟨cur,tt,fr,hh⟩ := hsh'
    have hx : ∀ i,∃ x : X,i < len → ∀ (j : Nat) (u : AV),(f x)[j]? = some u → ∃ w,cur[aoff + (i * z + j)]? = some w ∧ VR (fun _ => none) u w := by
      intro i
      by_cases hi : i < len
      · have h1 := hel i hi
        have h2 : ∃ y,elems[i]? = some y := ⟨_,List.getElem?_eq_getElem (by omega)⟩
        obtain ⟨y,hy⟩ := h2
        rw [hy,Option.bind_eq_some_iff] at h1
        obtain ⟨cs,hcs,hty⟩ := h1
        obtain ⟨x,hxv⟩ := hX _ _ _ hty
        refine ⟨x,fun _ j u hu => ?_⟩
        obtain ⟨w,hw,hr⟩ := hxv.get hu
        refine ⟨w,?_,hr⟩
        unfold World.cells? at hcs
        rw [if_pos (by omega)] at hcs
        have hjz : j < z := by have := (List.getElem?_eq_some_iff.1 hu).1; rw [hfz] at this; exact this
        have := mapM_some_get hcs j j (by simp [hc,hjz])
        rw [hw,hc,Go.WideShapes.add_plain,Go.WideShapes.add_plain] at this
        simp only [World.cell?,hh,Option.isSome_none,Bool.false_eq_true,if_false] at this
        rw [← this,Nat.add_assoc]
      · exact ⟨default,fun h9 => absurd h9 hi⟩
    obtain ⟨g,hg⟩ := Classical.axiomOfChoice hx
    have hall : ∀ x ∈ (List.range len).map g,(f x).length = z := fun x _ => hfz x
    have hcr : CellsR β (((List.range len).map g).flatMap f) aoff cur := by
      intro k u hu
      obtain ⟨i,j,x,h1,h2,h3⟩ := flat_get _ hall k u hu
      rw [List.getElem?_map] at h1
      simp only [Option.map_eq_some_iff] at h1
      obtain ⟨i',h4,h5⟩ := h1
      have hi : i < len ∧ i' = i := by
        have h6 := List.getElem?_eq_some_iff.1 h4
        obtain ⟨h7,h8⟩ := h6
        simp at h7 h8
        exact ⟨h7,h8.symm⟩
      obtain ⟨hi,rfl⟩ := hi
      subst h5
      obtain ⟨w,hw,hr⟩ := hg i' hi j u h2
      rw [h3]
      exact ⟨w,hw,hr.mono (fun _ _ h9 => by cases h9)⟩
    have hlen2 : ((List.range len).map g).length = len := by simp
    refine ⟨(List.range len).map g,_,_,_,.sl (some (S.nx,0)) len cap 0,h.slice hh hcr,h.ext _,?_,?_,?_⟩
    · exact (Ext2.refl L).put (h.mod.fresh (Nat.le_refl _)) _
    · exact .sl (b := ab) (o := aoff) (z := 0) (by simp [Bt.put]) hl (Nat.le_refl _) (fun _ => rfl) (fun h9 => absurd rfl h9) (.inr (by simp))
    · exact ⟨flat_len _ hall,.inr ⟨S.nx,cap,by rw [hlen2],Lg.put_same _ _ _⟩⟩
def t3 (x : Int × Int × Int) : List AV := [.i .i64 x.1,.i .i64 x.2.1,.i .i64 x.2.2]
def tcl (l : List (Int × Int × Int)) : List AV := l.flatMap t3
theorem open_t3 {H : Type} {enc : TypeId × Value → H} {P : Program} {W : World} {e ti : TypeId} {fs : Array Field} (he : P.underlying e = some (.struct fs)) (h3 : fs.size = 3) (hfs : ∀ (i : Nat) (f : Field),fs[i]? = some f → f.offset = i ∧ f.type = ti) (hi : P.underlying ti = some (.int .i64)) (hc1 : P.cellsOf ti = 1) (hc3 : P.cellsOf e = 3)
    (n : Nat) (cs : List Value) (y : DataW H × List MemPlace) (h : DataW.trod enc P W 0 (fun _ => true) true n e cs = some y) : ∃ x,VRs (fun _ => none) (t3 x) cs := by
  obtain ⟨xs,m,_,_,hl,hxl,hf⟩ := DataW.trod_struct he h
  rw [hc3] at hl
  match cs,hl with
  | [c0,c1,c2],_ =>
    have one : ∀ i,i < 3 → ∃ k,([c0,c1,c2].drop i).take 1 = [.int .i64 k] := by
      intro i hi3
      have h5 : ∃ f,fs[i]? = some f := ⟨_,Array.getElem?_eq_getElem (by omega)⟩
      obtain ⟨f,hfi⟩ := h5
      have h6 := hf i f hfi
      obtain ⟨o1,o2⟩ := hfs i f hfi
      rw [o1,o2,hc1] at h6
      have h7 : ∃ y,xs[i]? = some y := ⟨_,List.getElem?_eq_getElem (by omega)⟩
      obtain ⟨y',hy'⟩ := h7
      rw [hy'] at h6
      obtain ⟨k,hk,_⟩ := DataW.trod_int hi h6
      exact ⟨k,hk⟩
    obtain ⟨k0,e0⟩ := one 0 (by omega)
    obtain ⟨k1,e1⟩ := one 1 (by omega)
    obtain ⟨k2,e2⟩ := one 2 (by omega)
    simp at e0 e1 e2
    subst e0 e1 e2
    exact ⟨(k0,k1,k2),.cons (.i _ _) (.cons (.i _ _) (.cons (.i _ _) .nil))⟩
theorem AR.acts {H : Type} {enc : TypeId × Value → H} {P : Program} {W : World} {S : St} {β : Bt} {L : Lg} (h : AR W S β L) {t e ti : TypeId} {fs : Array Field} {v : Value} {d : DataW H} {ps : List MemPlace} (ht : P.underlying t = some (.slice e)) (he : P.underlying e = some (.struct fs)) (h3 : fs.size = 3) (hfs : ∀ (i : Nat) (f : Field),fs[i]? = some f → f.offset = i ∧ f.type = ti)
    (hi : P.underlying ti = some (.int .i64)) (hc1 : P.cellsOf ti = 1) (hc3 : P.cellsOf e = 3) {base : Nat} (hval : Value.okWide P W .any base t v) (hd : DataW.Trod enc P W 0 (fun _ => true) true t v d ps) :
    ∃ (l : List (Int × Int × Int)) (S' : St) (β' : Bt) (L' : Lg) (a : AV),AR W S' β' L' ∧ Ext β β' ∧ Ext2 L L' ∧ VR β' a v ∧ ArgSl L' a (tcl l) l.length 3 :=
  h.rows t3 ht hc3 (fun x => rfl) (fun n cs y hy => open_t3 he h3 hfs hi hc1 hc3 n cs y hy) hval hd
end Go.AM

set_option linter.unusedVariables false
set_option linter.unusedSimpArgs false
namespace Go.AM
section
variable {M L : Lg} {r b : Nat} {d : LC}
end
def OSl (K : Lg) (v : AV) (cs : List AV) (n size : Nat) : Prop :=
  (n = 0 ∧ cs = [] ∧ v = .sl none 0 0 0) ∨ ∃ b ex,0 < n ∧ v = .sl (some (b,0)) n n ex ∧ (ex = 0 ∨ ex = size) ∧ K b = some (.raw (.cells cs)) ∧ cs.length = n * size
section
variable {K K' : Lg} {v : AV} {cs : List AV} {n size : Nat}
theorem OSl.nil (K : Lg) (size : Nat) : OSl K (.sl none 0 0 0) [] 0 size := .inl ⟨rfl,rfl,rfl⟩
theorem OSl.mono (h : OSl K v cs n size) (e : ∀ b,slB v = some b → K' b = K b) : OSl K' v cs n size := by
  rcases h with h | ⟨b,ex,h1,h2,h3,h4,h5⟩
  · exact .inl h
  · exact .inr ⟨b,ex,h1,h2,h3,by rw [e b (by rw [h2]; rfl)]; exact h4,h5⟩
theorem OSl.block (h : OSl K v cs n size) {b : Nat} (e : slB v = some b) : K b = some (.raw (.cells cs)) := by
  rcases h with ⟨_,_,h3⟩ | ⟨b',ex,h1,h2,h3,h4,h5⟩
  · rw [h3] at e; cases e
  · rw [h2] at e; simp [slB] at e; subst e; exact h4
theorem OSl.iad {F : Nat → Option AFn} (h : OSl K v cs n size) {x : Int} (h0 : 0 ≤ x) (h1 : x < n) : ∃ b,slB v = some b ∧ K b = some (.raw (.cells cs)) ∧ cs.length = n * size ∧ ∀ (L : Lg) (k : AV → Lg → Prop) (j : IntKind),wpOp F (.iad size) [v,.i j x] L k = k (.p (some (b,x.toNat * size))) L := by
  rcases h with ⟨e1,_,h3⟩ | ⟨b',ex,g1,g2,g3,g4,g5⟩
  · omega
  · refine ⟨b',by rw [g2]; rfl,g4,g5,fun L k j => ?_⟩
    rw [g2,wp_iad F L k size b' 0 n n ex j x h0 h1]
    simp
theorem OSl.cellsOf (h : OSl K v cs n size) : v.cellsOf = some [v] := by
  rcases h with ⟨_,_,h3⟩ | ⟨b',ex,g1,g2,g3,g4,g5⟩
  · rw [h3]; rfl
  · rw [g2]; rfl
theorem OSl.rdAll (h : OSl K v cs n size) : ∃ a ex,v = .sl a n n ex ∧ rdCellsL K a (n * size) = some cs ∧ (n = 0 → ex = 0) := by
  rcases h with ⟨h1,h2,h3⟩ | ⟨b',ex,g1,g2,g3,g4,g5⟩
  · exact ⟨none,0,by rw [h3,h1],by simp [rdCellsL,h1,h2],fun _ => rfl⟩
  · refine ⟨_,ex,g2,?_,fun h => by omega⟩
    simp only [rdCellsL,g4,AB.read,cut,ble_nat,Nat.zero_add,g5,Nat.le_refl,decide_true,cond_true,List.drop_zero]
    rw [← g5,List.take_length]
structure Grown (K : Lg) (v : AV) (b : Nat) (cs : List AV) (K1 : Lg) : Prop where
  fresh : K b = none
  now : K1 b = some (.raw (.cells cs))
  same : ∀ r,r ≠ b → slB v ≠ some r → K1 r = K r
  gone : ∀ r,r ≠ b → K1 r = none ∨ K1 r = K r
theorem OSl.app {bytes m : Nat} {src : AV} {new : List AV} (h : OSl K v cs n size) (hsz : 0 < size) {a : Option (Nat × Nat)} {c e : Nat} (hs : src = .sl a m c e) (hm : 0 < m) (hr : rdCellsL K a (m * size) = some new) (hn : new.length = m * size) (h1 : new.all AV.one = true)
    (hb : (n + m) * bytes ≤ 70368744177664) {k : AV → Lg → Prop} (hk : ∀ b K1,Grown K v b (cs ++ new) K1 → OSl K1 (.sl (some (b,0)) (n + m) (n + m) size) (cs ++ new) (n + m) size → k (.sl (some (b,0)) (n + m) (n + m) size) K1) : appW size bytes K k [v,src] := by
  subst hs
  obtain ⟨av,ex,hv,hrd,hz⟩ := h.rdAll
  have hlen : cs.length = n * size := by
    rcases h with ⟨h1,h2,h3⟩ | ⟨b',ex,g1,g2,g3,g4,g5⟩
    · simp [h1,h2]
    · exact g5
  have key : ∀ K1 : Lg,(K1 = K ∨ ∃ q,slB v = some q ∧ K1 = K.del q) → goneL K av ex size = some K1 → appW size bytes K k [v,.sl a m c e] := by
    intro K1 hK1 hg
    rw [hv]
    refine appW_grow (L' := K1) hr h1 (by omega) hb hrd hg ?_
    intro b hbn
    refine hk b _ ⟨hbn,Lg.put_same _ _ _,?_,?_⟩ (.inr ⟨b,size,by omega,rfl,.inr rfl,Lg.put_same _ _ _,by simp [hlen,hn,Nat.add_mul]⟩)
    · intro r hr hq
      rw [Lg.put_ne _ _ _ hr]
      rcases hK1 with rfl | ⟨q,hq1,rfl⟩
      · rfl
      · rw [Lg.del_apply,if_neg]; rintro rfl; exact hq hq1
    · intro r hr
      rw [Lg.put_ne _ _ _ hr]
      rcases hK1 with rfl | ⟨q,hq1,rfl⟩
      · exact .inr rfl
      · rw [Lg.del_apply]; split
        · exact .inl rfl
        · exact .inr rfl
  rcases h with ⟨h1,h2,h3⟩ | ⟨b',ex',g1,g2,g3,g4,g5⟩
  · have : ex = 0 := hz h1
    exact key K (.inl rfl) (by rw [this]; simp [goneL])
  · have hv2 := hv
    rw [g2] at hv2
    cases hv2
    rcases g3 with g3 | g3
    · exact key K (.inl rfl) (by simp [goneL,g3])
    · refine key (K.del b') (.inr ⟨b',by rw [g2]; rfl,rfl⟩) ?_
      have : ¬ size = 0 := by omega
      simp [goneL,this,g4,g3]
theorem OSl.app0 {bytes : Nat} {src : AV} (h : OSl K v cs n size) {a : Option (Nat × Nat)} {c e : Nat} (hs : src = .sl a 0 c e) (hr : rdCellsL K a 0 = some []) {k : AV → Lg → Prop} (hk : k v K) : appW size bytes K k [v,src] := by
  subst hs
  rcases h with ⟨h1,h2,h3⟩ | ⟨b',ex',g1,g2,g3,g4,g5⟩
  · rw [h3]; rw [h3] at hk
    simp only [appW,Nat.zero_mul,hr,appL]
    simpa using hk
  · rw [g2]; rw [g2] at hk
    simp only [appW,Nat.zero_mul,hr,appL]
    simpa using hk
end
def flatc {α : Type} (f : α → List AV) : List α → List AV
  | [] => []
  | x :: r => f x ++ flatc f r
section
variable {α : Type} {f : α → List AV} {k : Nat}
theorem flatc_append : ∀ (a b : List α),flatc f (a ++ b) = flatc f a ++ flatc f b
  | [],_ => rfl
  | x :: r,b => by simp [flatc,flatc_append r b]
theorem flatc_length (hf : ∀ x,(f x).length = k) : ∀ (a : List α),(flatc f a).length = a.length * k
  | [] => by simp [flatc]
  | x :: r => by
    simp only [flatc,List.length_append,hf,flatc_length hf r,List.length_cons,Nat.add_mul,Nat.one_mul]; omega
theorem flatc_one (h1 : ∀ x,(f x).all AV.one = true) : ∀ (a : List α),(flatc f a).all AV.one = true
  | [] => rfl
  | x :: r => by simp [flatc,List.all_append,h1,flatc_one h1 r]
theorem flatc_at (hf : ∀ x,(f x).length = k) : ∀ (l : List α) (i : Nat) (x : α),l[i]? = some x → ((flatc f l).drop (i * k)).take k = f x ∧ i * k + k ≤ (flatc f l).length
  | [],i,x,h => by simp at h
  | a :: r,0,x,h => by
    simp at h; subst h
    have := hf a
    simp only [flatc,Nat.zero_mul,List.drop_zero,List.length_append,this,Nat.zero_add]
    exact ⟨by rw [← this,List.take_left],by omega⟩
  | a :: r,i + 1,x,h => by
    have := flatc_at hf r i x (by simpa using h)
    have e : (i + 1) * k = (f a).length + i * k := by rw [hf,Nat.add_mul]; omega
    rw [e]
    simp only [flatc,List.length_append]
    rw [← List.drop_drop,List.drop_left]
    exact ⟨this.1,by omega⟩
theorem flatc_get (hf : ∀ x,(f x).length = k) (l : List α) (i j : Nat) (x : α) (h : l[i]? = some x) (hj : j < k) : (flatc f l)[i * k + j]? = (f x)[j]? := by
  have h1 := flatc_at hf l i x h
  rw [← h1.1,List.getElem?_take_of_lt hj,List.getElem?_drop]
theorem flatc_setc (hf : ∀ x,(f x).length = k) : ∀ (l : List α) (i : Nat) (x y : α) (j : Nat) (v : AV),l[i]? = some x → j < k → (f x).set j v = f y → (flatc f l).set (i * k + j) v = flatc f (l.set i y)
  | [],i,x,y,j,v,h,_,_ => by simp at h
  | a :: r,0,x,y,j,v,h,hj,e => by
    simp at h; subst h
    have := hf a
    simp only [flatc,Nat.zero_mul,Nat.zero_add,List.set_cons_zero]
    rw [List.set_append_left _ _ (by omega),e]
  | a :: r,i + 1,x,y,j,v,h,hj,e => by
    have := flatc_setc hf r i x y j v (by simpa using h) hj e
    have e2 : (i + 1) * k + j = (f a).length + (i * k + j) := by rw [hf,Nat.add_mul]; omega
    rw [e2]
    simp only [flatc,List.set_cons_succ]
    rw [List.set_append_right _ _ (by omega),Nat.add_sub_cancel_left,this]
end
end Go.AM

set_option linter.unusedVariables false
set_option linter.unusedSimpArgs false
namespace Go.AM
variable {N : Nat → Nat} {F : Nat → Option AFn}
section
variable {L K : Lg} {c rg q1 q2 : Nat} {x : Ch} {Q : AV → Lg → Prop}
end
end Go.AM


set_option linter.unusedVariables false
set_option linter.unusedSimpArgs false
namespace Go.AM
variable {N : Nat → Nat} {F : Nat → Option AFn}
section
variable {L K : Lg} {c rg q1 q2 : Nat} {x : Ch} {Q : AV → Lg → Prop}
end
end Go.AM


set_option linter.unusedVariables false
set_option linter.unusedSimpArgs false
namespace Go.AM
variable {N : Nat → Nat} {F : Nat → Option AFn}
section
variable {L K : Lg} {c rg q1 q2 : Nat} {x : Ch} {Q : AV → Lg → Prop}
end
end Go.AM


set_option linter.unusedVariables false
set_option linter.unusedSimpArgs false
namespace Go.AM
variable {N : Nat → Nat} {F : Nat → Option AFn}
structure Nd where
  parent : Int
  linked : Bool
  kids : List Int
section
variable {L L0 K : Lg} {t : Nat} {ns : List Nd} {sv : AV} {kv : Nat → AV} {nb : Option Nat} {kb : Nat → Option Nat}
end
end Go.AM


set_option linter.unusedVariables false
set_option linter.unusedSimpArgs false
namespace Go.AM
variable {N : Nat → Nat} {F : Nat → Option AFn}
section
variable {L L0 K : Lg} {t : Nat} {ns : List Nd} {sv : AV} {kv : Nat → AV} {nb : Option Nat} {kb : Nat → Option Nat} {Q : AV → Lg → Prop}
end
end Go.AM


set_option linter.unusedVariables false
set_option linter.unusedSimpArgs false
namespace Go.AM
variable {N : Nat → Nat} {F : Nat → Option AFn}
section
variable {L L0 K : Lg} {t : Nat} {ns : List Nd} {sv : AV} {kv : Nat → AV} {nb : Option Nat} {kb : Nat → Option Nat} {Q : AV → Lg → Prop}
end
end Go.AM


