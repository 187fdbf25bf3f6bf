/- The texts LibWait, GenB, LibChan, LibMap, LibHeapA, LibHeapP, LibHeapB, LibHeapC, LibHeapD, LibExpire, GenC, LibTimerA, LibTimerB, LibTimerC of a proof of CtxAfters, merged. -/
import Derived.Test.YtddabelahpdekaaCtxAftersG1
import Derived.KernelRfl
/- wait: what its functions do. -/
set_option linter.unusedVariables false
set_option linter.unusedSimpArgs false
namespace Go.AM
variable {N : Nat → Nat} {F : Nat → Option AFn}

/-- one who waits -/
structure Wt where
  t : Int
  c : Int
  v : Int
  deriving DecidableEq
def Wt.cells (w : Wt) : List AV := [.i .i64 w.t, .i .i64 w.c, .i .i64 w.v]
def Wt.av (w : Wt) : AV := .agg w.cells
def Wt.zero : Wt := ⟨0, 0, 0⟩
def ptr (o : Option Nat) : AV := .p (o.map fun b => (b, 0))
@[simp] theorem ptr_none : ptr none = .p none := rfl
@[simp] theorem ptr_some (b : Nat) : ptr (some b) = .p (some (b, 0)) := rfl
@[simp] theorem ptr_cellsOf (o : Option Nat) : (ptr o).cellsOf = some [ptr o] := rfl
@[simp] theorem ptr_one (o : Option Nat) : (ptr o).one = true := rfl
def wnode (w : Wt) (p n : Option Nat) : LC := .raw (.cells [.i .i64 w.t, .i .i64 w.c, .i .i64 w.v, ptr p, ptr n])
def hd (n : Option Nat) : List (Nat × Wt) → Option Nat
  | [] => n
  | x :: _ => some x.1
def lst (p : Option Nat) : List (Nat × Wt) → Option Nat
  | [] => p
  | x :: r => lst (some x.1) r
def Seg (M : Lg) (p : Option Nat) : List (Nat × Wt) → Option Nat → Prop
  | [], _ => True
  | (i, w) :: r, n => M i = some (wnode w p (hd n r)) ∧ Seg M (some i) r n
def idsOf (l : List (Nat × Wt)) : List Nat := l.map (·.1)
@[simp] theorem hd_nil (n : Option Nat) : hd n [] = n := rfl
@[simp] theorem hd_cons (n : Option Nat) (x : Nat × Wt) (r : List (Nat × Wt)) : hd n (x :: r) = some x.1 := rfl
@[simp] theorem lst_nil (n : Option Nat) : lst n [] = n := rfl
@[simp] theorem lst_cons (n : Option Nat) (x : Nat × Wt) (r : List (Nat × Wt)) : lst n (x :: r) = lst (some x.1) r := rfl
theorem hd_append (n : Option Nat) : ∀ (A B : List (Nat × Wt)), hd n (A ++ B) = hd (hd n B) A
  | [], _ => rfl
  | _ :: _, _ => rfl
theorem lst_append : ∀ (A B : List (Nat × Wt)) (p : Option Nat), lst p (A ++ B) = lst (lst p A) B
  | [], _, _ => rfl
  | _ :: A, B, _ => lst_append A B _
theorem Seg.append (M : Lg) : ∀ (A B : List (Nat × Wt)) (p n : Option Nat), Seg M p (A ++ B) n ↔ Seg M p A (hd n B) ∧ Seg M (lst p A) B n
  | [], _, _, _ => by simp [Seg, lst]
  | (i, w) :: A, B, p, n => by
    simp only [List.cons_append, Seg, lst, hd_append, Seg.append M A B, and_assoc]
theorem Seg.congr {M M' : Lg} : ∀ {l : List (Nat × Wt)} {p n : Option Nat}, (∀ i, i ∈ idsOf l → M' i = M i) → Seg M p l n → Seg M' p l n
  | [], _, _, _, _ => trivial
  | (i, w) :: r, p, n, h, hs => ⟨by rw [h i (by simp [idsOf])]; exact hs.1, Seg.congr (fun j hj => h j (by simp [idsOf] at hj ⊢; exact .inr hj)) hs.2⟩

theorem Seg.some {M : Lg} : ∀ {l : List (Nat × Wt)} {p n : Option Nat}, Seg M p l n → ∀ i, i ∈ idsOf l → M i ≠ none
  | [], _, _, _, i, hi => by simp [idsOf] at hi
  | (j, w) :: r, p, n, hs, i, hi => by
    simp only [idsOf, List.map_cons, List.mem_cons] at hi
    rcases hi with rfl | hi
    · rw [hs.1]; simp
    · exact Seg.some hs.2 i hi

/-- a queue: who waits, in order -/
def QueueP (q : Nat) (ws : List Wt) (h : Hp) : Prop := ∃ (l : List (Nat × Wt)) (M : Lg), l.map (·.2) = ws ∧ (q :: idsOf l).Nodup ∧ ws.length ≤ 1000000 ∧
  M q = some (.raw (.cells [ptr (hd none l), ptr (lst none l), .i .i64 ws.length])) ∧ Seg M none l none ∧ (∀ b, b ∉ q :: idsOf l → M b = none) ∧ Sat M h

section
variable {L : Lg} {q : Nat} {ws : List Wt}
/-- a queue, opened -/
structure QOpen (L : Lg) (q : Nat) (l : List (Nat × Wt)) (L1 : Lg) : Prop where
  nd : (q :: idsOf l).Nodup
  root : L1 q = some (.raw (.cells [ptr (hd none l), ptr (lst none l), .i .i64 l.length]))
  seg : Seg L1 none l none
  old : ∀ b c, b ∉ q :: idsOf l → L b = some c → L1 b = some c
  new : ∀ b, b ∈ idsOf l → L b = none
theorem QOpen.shut {l : List (Nat × Wt)} {L1 : Lg} (h : QOpen L q l L1) (hl : l.length ≤ 1000000) : Sees L1 (L.put q (.abs (QueueP q (l.map (·.2))))) := by
  refine Sees.shutAt (fun b => b ∈ q :: idsOf l) (List.mem_cons_self ..) h.old ?_ (.inl ⟨_, h.root⟩) ?_
  · intro b hb hbq
    rcases List.mem_cons.1 hb with rfl | hb
    · exact absurd rfl hbq
    · exact h.new b hb
  · intro M hp hM hN hs
    refine ⟨l, M, rfl, h.nd, by simpa using hl, ?_, ?_, hN, hs⟩
    · rw [hM q (List.mem_cons_self ..), h.root]; simp
    · exact Seg.congr (fun i hi => hM i (List.mem_cons_of_mem _ hi)) h.seg
theorem CallL.openQ {f : Nat} {vs : List AV} {Q : AV → Lg → Prop} (e : L q = some (.abs (QueueP q ws)))
    (h : ∀ l L1, l.map (·.2) = ws → l.length ≤ 1000000 → QOpen L q l L1 → (∀ b, b ∉ q :: idsOf l → L1 b = L b) → CallL F f vs L1 Q) : CallL F f vs L Q := by
  apply CallL.opens e
  rintro hm ⟨l, M, h1, h2, h3, h4, h5, h6, hs⟩
  refine ⟨M, hs, by rw [h4]; simp, fun hf => ?_⟩
  have hover : ∀ b c, M b = some c → (M.over L) b = some c := fun b c hb => by simp [Lg.over, hb]
  have hseg : ∀ {l : List (Nat × Wt)} {p n : Option Nat}, Seg M p l n → Seg (M.over L) p l n := by
    intro l
    induction l with
    | nil => intros; trivial
    | cons x r ih => intro p n hs; exact ⟨hover _ _ hs.1, ih hs.2⟩
  have hin : ∀ {l : List (Nat × Wt)} {p n : Option Nat}, Seg M p l n → ∀ i, i ∈ idsOf l → ∃ c, M i = some c := by
    intro l
    induction l with
    | nil => intro p n hs i hi; simp [idsOf] at hi
    | cons x r ih =>
      intro p n hs i hi
      simp only [idsOf, List.map_cons, List.mem_cons] at hi
      rcases hi with rfl | hi
      · exact ⟨_, hs.1⟩
      · exact ih hs.2 i hi
  have hlen : l.length = ws.length := by rw [← h1]; simp
  refine h l (M.over L) h1 (by omega) ⟨h2, ?_, hseg h5, ?_, ?_⟩ ?_
  · rw [hlen]; exact hover q _ h4
  · intro b c hb hL; simp [Lg.over, h6 b hb, hL]
  · intro b hb
    obtain ⟨c, hc⟩ := hin h5 b hb
    refine hf b c hc ?_
    rintro rfl
    exact (List.nodup_cons.1 h2).1 hb
  · intro b hb; simp [Lg.over, h6 b hb]

theorem queueNew_spec (h : H_wait_New N F) : CallL F (N k_wait_New) [] L fun v L' => ∃ q, L q = none ∧ v = .p (some (q, 0)) ∧ L' = L.put q (.abs (QueueP q [])) := by
  apply r_wait_New h.code
  simp [D_wait_New_1, fillP]
  intro b hb
  refine ⟨L.put b (.abs (QueueP b [])), ?_, b, hb, rfl, rfl⟩
  have : QOpen L b [] (L.put b (.raw (.cells [.p none, .p none, .i .i64 0]))) :=
    ⟨by simp [idsOf], by simp [hd, lst], trivial, fun c d h1 h2 => by simp [idsOf] at h1; rw [Lg.put_ne _ _ _ h1]; exact h2, fun c hc => by simp [idsOf] at hc⟩
  exact this.shut (by simp)
theorem idsOf_append (A B : List (Nat × Wt)) : idsOf (A ++ B) = idsOf A ++ idsOf B := by simp [idsOf]
theorem idsOf_cons (x : Nat × Wt) (B : List (Nat × Wt)) : idsOf (x :: B) = x.1 :: idsOf B := rfl
@[simp] theorem idsOf_nil : idsOf [] = [] := rfl
theorem QOpen.dropped {A B : List (Nat × Wt)} {i : Nat} {w : Wt} {L1 : Lg} (hq : QOpen L q (A ++ (i, w) :: B) L1) {Lf : Lg}
    (f1 : Lf q = some (.raw (.cells [ptr (hd none (A ++ B)), ptr (lst none (A ++ B)), .i .i64 (A ++ B).length])))
    (f2 : ∀ A' j u, A = A' ++ [(j, u)] → Lf j = some (wnode u (lst none A') (hd none B)))
    (f3 : ∀ k z B', B = (k, z) :: B' → Lf k = some (wnode z (lst none A) (hd none B')))
    (f4 : ∀ b, b ≠ q → (∀ A' j u, A = A' ++ [(j, u)] → b ≠ j) → (∀ k z B', B = (k, z) :: B' → b ≠ k) → Lf b = L1 b) : QOpen L q (A ++ B) Lf := by
  have hseg := (Seg.append L1 A ((i, w) :: B) none none).1 hq.seg
  have hnd := hq.nd
  rw [idsOf_append, idsOf_cons] at hnd
  have h1 := (List.nodup_cons.1 hnd).1
  have h2 := List.nodup_append.1 (List.nodup_cons.1 hnd).2
  have h3 := List.nodup_cons.1 h2.2.1
  refine ⟨?_, f1, ?_, ?_, ?_⟩
  · rw [idsOf_append, List.nodup_cons, List.nodup_append]
    refine ⟨fun h => h1 ?_, h2.1, h3.2, fun a ha b hb => h2.2.2 a ha b (List.mem_cons_of_mem _ hb)⟩
    rw [List.mem_append] at h ⊢
    exact h.imp id (List.mem_cons_of_mem _)
  · rw [Seg.append]
    refine ⟨?_, ?_⟩
    · rcases List.eq_nil_or_concat A with rfl | ⟨A', ⟨j, u⟩, rfl⟩
      · trivial
      · simp only [List.concat_eq_append] at *
        have hs := (Seg.append L1 A' [(j, u)] none (some i)).1 hseg.1
        rw [Seg.append]
        refine ⟨Seg.congr ?_ hs.1, f2 A' j u rfl, trivial⟩
        intro b hb
        have hnA := h2.1
        rw [idsOf_append, List.nodup_append] at hnA
        refine f4 b ?_ ?_ ?_
        · rintro rfl; exact h1 (by rw [idsOf_append]; simp [hb])
        · intro A'' j' u' e hbj
          have := (List.append_inj' e rfl).2
          simp at this
          subst hbj
          exact hnA.2.2 b hb j (by simp [idsOf]) this.1.symm
        · intro k z B' e hbk
          subst hbk
          refine h2.2.2 b (by rw [idsOf_append]; simp [hb]) b ?_ rfl
          rw [e, idsOf_cons]; simp
    · cases B with
      | nil => trivial
      | cons x B' =>
        obtain ⟨k, z⟩ := x
        refine ⟨f3 k z B' rfl, Seg.congr ?_ hseg.2.2.2⟩
        intro b hb
        rw [idsOf_cons] at h3
        have h4 := List.nodup_cons.1 h3.2
        refine f4 b ?_ ?_ ?_
        · rintro rfl; exact h1 (by rw [idsOf_cons]; simp [hb])
        · intro A' j u e hbj
          subst hbj
          refine h2.2.2 b (by rw [e, idsOf_append]; simp [idsOf]) b (by rw [idsOf_cons]; simp [hb]) rfl
        · intro k' z' B'' e hbk
          simp at e
          subst hbk
          rw [← e.1.1] at hb
          exact h4.1 hb
  · intro b c hb hc
    rw [idsOf_append] at hb
    by_cases hbi : b = i
    · subst hbi
      have := hq.new b (by rw [idsOf_append, idsOf_cons]; simp)
      rw [this] at hc; cases hc
    · have hb' : b ∉ q :: idsOf (A ++ (i, w) :: B) := by
        rw [idsOf_append, idsOf_cons]
        simp at hb ⊢
        exact ⟨hb.1, hb.2.1, hbi, hb.2.2⟩
      simp at hb
      rw [f4 b hb.1 ?_ ?_]
      · exact hq.old b c hb' hc
      · rintro A' j u rfl rfl; exact hb.2.1 (by simp [idsOf])
      · rintro k z B' rfl rfl; exact hb.2.2 (by simp [idsOf])
  · intro b hb
    refine hq.new b ?_
    rw [idsOf_append, idsOf_cons]
    rw [idsOf_append] at hb
    rw [List.mem_append] at hb ⊢
    exact hb.imp id (List.mem_cons_of_mem _)
theorem queueDrop_open (h : H_wait_Queue_drop N F) {A B : List (Nat × Wt)} {i : Nat} {w : Wt} {L1 : Lg} (hq : QOpen L q (A ++ (i, w) :: B) L1) (hl : (A ++ (i, w) :: B).length ≤ 1000000) :
    CallL F (N k_wait_Queue_drop) [.p (some (q, 0)), .p (some (i, 0))] L1 fun v L' => v = .tup [] ∧ QOpen L q (A ++ B) L' ∧ L' i = some (wnode w (lst none A) (hd none B)) ∧ ∀ b, b ∉ q :: idsOf (A ++ B) → L' b = L1 b := by
  apply r_wait_Queue_drop h.code
  have hseg := (Seg.append L1 A ((i, w) :: B) none none).1 hq.seg
  have hnd := hq.nd
  rw [idsOf_append, idsOf_cons] at hnd
  have h1 := (List.nodup_cons.1 hnd).1
  have h2 := List.nodup_append.1 (List.nodup_cons.1 hnd).2
  have h3 := List.nodup_cons.1 h2.2.1
  have hiq : i ≠ q := by rintro rfl; exact h1 (by simp)
  have hi : L1 i = some (wnode w (lst none A) (hd none B)) := hseg.2.1
  have hroot := hq.root
  unfold D_wait_Queue_drop_1 D_wait_Queue_drop_2
  have e1 : wr .i64 ((((A ++ (i, w) :: B).length : Nat) : Int) - 1) = ((A ++ B).length : Nat) := by rw [wr_id (by simp at hl ⊢; omega) (by omega)]; simp; omega
  have hr1 : hd none (A ++ (i, w) :: B) = hd (some i) A := by rw [hd_append]; rfl
  have hr2 : lst none (A ++ (i, w) :: B) = lst (some i) B := by rw [lst_append]; rfl
  rw [hr1, hr2] at hroot
  obtain ⟨n, hn⟩ : ∃ n, n = (A ++ (i, w) :: B).length := ⟨_, rfl⟩
  obtain ⟨m, hm⟩ : ∃ m, m = (A ++ B).length := ⟨_, rfl⟩
  rw [← hn] at e1 hroot
  rw [← hm] at e1
  rcases List.eq_nil_or_concat A with rfl | ⟨A', ⟨j, u⟩, rfl⟩
  · cases B with
    | nil =>
      simp [rdL, AB.read, look, hi, wnode, hroot, stL, wrL, splice_one, Lg.put_apply, hiq, Ne.symm hiq, e1]
      refine ⟨_, Sees.refl _, hq.dropped ?_ ?_ ?_ ?_, ?_, ?_⟩
      · simp [hm]
      · intro A' j u e; simp at e
      · intro k z B' e; simp at e
      · intro b b1 b2 b3; simp [Lg.put_apply, b1]
      · simp [Lg.put_apply, hiq, hi, wnode]
      · intro b b1; simp [Lg.put_apply, b1]
    | cons x B' =>
      obtain ⟨k, z⟩ := x
      have hk : L1 k = some (wnode z (some i) (hd none B')) := hseg.2.2.1
      have hkq : k ≠ q := by rintro rfl; exact h1 (by simp [idsOf])
      have hki : k ≠ i := by rintro rfl; exact h3.1 (by simp [idsOf])
      simp [rdL, AB.read, look, hi, hk, wnode, hroot, stL, wrL, splice_one, Lg.put_apply, hiq, Ne.symm hiq, hkq, Ne.symm hkq, hki, Ne.symm hki, e1]
      refine ⟨_, Sees.refl _, hq.dropped ?_ ?_ ?_ ?_, ?_, ?_⟩
      · simp [hm]
      · intro A' j u e; simp at e
      · intro k' z' B'' e
        simp at e
        obtain ⟨⟨rfl, rfl⟩, rfl⟩ := e
        simp [Lg.put_apply, hkq, wnode]
      · intro b b1 b2 b3
        have : b ≠ k := b3 k z B' rfl
        simp [Lg.put_apply, b1, this]
      · simp [Lg.put_apply, hiq, Ne.symm hki, hi, wnode]
      · intro b b1 b2
        have b3 : b ≠ k := by rintro rfl; exact b2 (by simp [idsOf])
        simp [Lg.put_apply, b1, b3]
  · simp only [List.concat_eq_append] at *
    have hsA := (Seg.append L1 A' [(j, u)] none _).1 hseg.1
    have hj : L1 j = some (wnode u (lst none A') (some i)) := hsA.2.1
    have hjq : j ≠ q := by rintro rfl; exact h1 (by simp [idsOf])
    have hji : j ≠ i := fun e => h2.2.2 j (by simp [idsOf]) i (by simp) e
    have hl1 : lst none (A' ++ [(j, u)]) = some j := by simp [lst_append]
    have hh1 : hd (some i) (A' ++ [(j, u)]) = hd (some j) A' := by simp [hd_append]
    rw [hl1] at hi
    rw [hh1] at hroot
    cases B with
    | nil =>
      simp [rdL, AB.read, look, hi, hj, wnode, hroot, stL, wrL, splice_one, Lg.put_apply, hiq, Ne.symm hiq, hjq, Ne.symm hjq, hji, Ne.symm hji, e1]
      refine ⟨_, Sees.refl _, ?_, ?_, ?_⟩
      rw [← List.append_nil (A' ++ [(j, u)])]
      refine hq.dropped ?_ ?_ ?_ ?_
      · have : hd none (A' ++ [(j, u)]) = hd (some j) A' := by simp [hd_append]
        rw [hm]; simp [this, hl1]
      · intro A'' j' u' e
        obtain ⟨rfl, e2⟩ := List.append_inj' e rfl
        simp at e2
        obtain ⟨rfl, rfl⟩ := e2
        simp [Lg.put_apply, hjq, wnode]
      · intro k z B' e; simp at e
      · intro b b1 b2 b3
        have : b ≠ j := b2 A' j u rfl
        simp [Lg.put_apply, b1, this]
      · simp [Lg.put_apply, hiq, Ne.symm hji, hi, wnode, hl1]
      · intro b b1 b2
        have b3 : b ≠ j := by rintro rfl; exact b2 (by simp [idsOf])
        simp [Lg.put_apply, b1, b3]
    | cons x B' =>
      obtain ⟨k, z⟩ := x
      have hk : L1 k = some (wnode z (some i) (hd none B')) := hseg.2.2.1
      have hkq : k ≠ q := by rintro rfl; exact h1 (by simp [idsOf])
      have hki : k ≠ i := by rintro rfl; exact h3.1 (by simp [idsOf])
      have hkj : k ≠ j := fun e => h2.2.2 j (by simp [idsOf]) k (by simp [idsOf]) e.symm
      simp [rdL, AB.read, look, hi, hj, hk, wnode, hroot, stL, wrL, splice_one, Lg.put_apply, hiq, Ne.symm hiq, hjq, Ne.symm hjq, hji, Ne.symm hji, hkq, Ne.symm hkq, hki, Ne.symm hki, hkj, Ne.symm hkj, e1]
      refine ⟨_, Sees.refl _, ?_, ?_, ?_⟩
      rw [show A' ++ (j, u) :: (k, z) :: B' = A' ++ [(j, u)] ++ (k, z) :: B' by simp]
      refine hq.dropped ?_ ?_ ?_ ?_
      · have : hd none (A' ++ [(j, u)] ++ (k, z) :: B') = hd (some j) A' := by rw [hd_append, hd_append]; simp
        have h9 : lst none (A' ++ [(j, u)] ++ (k, z) :: B') = lst (some k) B' := by rw [lst_append]; simp
        rw [this, h9, ← hm]
        simp [Lg.put_apply]
      · intro A'' j' u' e
        obtain ⟨rfl, e2⟩ := List.append_inj' e rfl
        simp at e2
        obtain ⟨rfl, rfl⟩ := e2
        simp [Lg.put_apply, hjq, Ne.symm hkj, wnode]
      · intro k' z' B'' e
        simp at e
        obtain ⟨⟨rfl, rfl⟩, rfl⟩ := e
        simp [Lg.put_apply, hkq, hkj, wnode, hl1]
      · intro b b1 b2 b3
        have c1 : b ≠ k := b3 k z B' rfl
        have c2 : b ≠ j := b2 A' j u rfl
        simp [Lg.put_apply, b1, c1, c2]
      · simp [Lg.put_apply, hiq, Ne.symm hji, Ne.symm hki, hi, wnode, hl1]
      · intro b b1 b2
        have b3 : b ≠ j := by rintro rfl; exact b2 (by simp [idsOf])
        have b4 : b ≠ k := by rintro rfl; exact b2 (by simp [idsOf])
        simp [Lg.put_apply, b1, b3, b4]

theorem QOpen.other {l : List (Nat × Wt)} {L1 : Lg} (h : QOpen L q l L1) {L2 : Lg} (h2 : ∀ b c, L1 b = some c → L2 b = some c) : QOpen L q l L2 := by
  refine ⟨h.nd, h2 _ _ h.root, ?_, fun b c hb hc => h2 _ _ (h.old b c hb hc), h.new⟩
  have : ∀ {l : List (Nat × Wt)} {p n : Option Nat}, Seg L1 p l n → Seg L2 p l n := by
    intro l
    induction l with
    | nil => intros; trivial
    | cons x r ih => intro p n hs; exact ⟨h2 _ _ hs.1, ih hs.2⟩
  exact this h.seg
theorem QOpen.put {l : List (Nat × Wt)} {L1 : Lg} (h : QOpen L q l L1) {rc : Nat} {c : LC} (h1 : rc ∉ q :: idsOf l) (h2 : L rc = none) : QOpen L q l (L1.put rc c) := by
  have h3 : ∀ b, b ∈ q :: idsOf l → (L1.put rc c) b = L1 b := fun b hb => Lg.put_ne _ _ _ (fun e => h1 (e ▸ hb))
  refine ⟨h.nd, ?_, Seg.congr (fun i hi => h3 i (List.mem_cons_of_mem _ hi)) h.seg, ?_, h.new⟩
  · rw [h3 q (List.mem_cons_self ..)]; exact h.root
  · intro b d hb hd
    have : b ≠ rc := by rintro rfl; rw [h2] at hd; cases hd
    rw [Lg.put_ne _ _ _ this]
    exact h.old b d hb hd
theorem QOpen.keeps {l : List (Nat × Wt)} {L1 : Lg} (h : QOpen L q l L1) {b : Nat} {c : LC} (hb : b ≠ q) (hc : L b = some c) : L1 b = some c := by
  by_cases hi : b ∈ idsOf l
  · rw [h.new b hi] at hc; cases hc
  · exact h.old b c (by simp [hb, hi]) hc
/-- the first of them that is so, and the others -/
def takeW (p : Wt → Bool) : List Wt → Option (Wt × List Wt)
  | [] => none
  | w :: r => if p w = true then some (w, r) else (takeW p r).map fun x => (x.1, w :: x.2)
theorem takeW_skip (p : Wt → Bool) (w : Wt) (B : List Wt) : ∀ (A : List Wt), (∀ x, x ∈ A → p x = false) → p w = true → takeW p (A ++ w :: B) = some (w, A ++ B)
  | [], _, hw => by simp [takeW, hw]
  | a :: A, hA, hw => by simp [takeW, hA a (by simp), takeW_skip p w B A (fun x hx => hA x (by simp [hx])) hw]
theorem takeW_none (p : Wt → Bool) : ∀ (A : List Wt), (∀ x, x ∈ A → p x = false) → takeW p A = none
  | [], _ => rfl
  | a :: A, hA => by simp [takeW, hA a (by simp), takeW_none p A (fun x hx => hA x (by simp [hx]))]
theorem queueTake_spec (h : H_wait_Queue_take N F) (e : L q = some (.abs (QueueP q ws))) {f : Nat} {fst cap : List AV} {p : Wt → Bool}
    (hso : ∀ (w : Wt) L', (∀ b c, b ≠ q → L b = some c → L' b = some c) → CallL F f (fst ++ w.av :: cap) L' fun v L'' => v = .b (p w) ∧ L'' = L') :
    CallL F (N k_wait_Queue_take) [.p (some (q, 0)), .fn f fst cap] L fun v L' => match (generalizing := false) takeW p ws with
      | none => v = .tup [Wt.zero.av, .b false] ∧ L' = L
      | some (w, r) => v = .tup [w.av, .b true] ∧ L' = L.put q (.abs (QueueP q r)) := by
  apply CallL.openQ e
  intro l L1 h1 h2 hq hn
  apply r_wait_Queue_take h.code
  unfold D_wait_Queue_take_1 D_wait_Queue_take_2 D_wait_Queue_take_5
  generalize hQ : (fun (v : AV) (L' : Lg) => match takeW p ws with
      | none => v = AV.tup [Wt.zero.av, .b false] ∧ L' = L
      | some (w, r) => v = AV.tup [w.av, .b true] ∧ L' = L.put q (.abs (QueueP q r))) = Q
  simp [initE]
  intro rc hrc
  have hrq : rc ≠ q := by rintro rfl; rw [hq.root] at hrc; cases hrc
  simp [Env.put_apply, rdL, AB.read, look, Lg.put_apply, Ne.symm hrq, hq.root, D_wait_Queue_take_7]
  have hq2 : QOpen L q l (L1.put rc (.raw (.cells [.i .i64 0, .i .i64 0, .i .i64 0]))) := hq.other (fun b c hb => by
    have : b ≠ rc := by rintro rfl; rw [hrc] at hb; cases hb
    rw [Lg.put_ne _ _ _ this]; exact hb)
  refine loopW_intro (fun n l' L' => ∃ A B, l = A ++ B ∧ (∀ x, x ∈ A → p x.2 = false) ∧ n = B.length ∧ L' = L1.put rc (.raw (.cells [.i .i64 0, .i .i64 0, .i .i64 0])) ∧ l' 0 = .p (some (q, 0)) ∧ l' 1 = .fn f fst cap ∧ l' 4 = .p (some (rc, 0)) ∧ l' 6 = ptr (hd none B))
    l.length ⟨[], l, rfl, by simp, rfl, rfl, by simp [Env.put_apply], by simp [Env.put_apply], by simp [Env.put_apply], by simp [Env.put_apply]⟩ ?_
  rintro n l' t L' ⟨A, B, rfl, hA, hnB, rfl, l0, l1, l4, l6⟩
  unfold D_wait_Queue_take_8
  rw [l0, l1, l4, l6]
  have h0 : ∀ b c, b ≠ q → L b = some c → (L1.put rc (.raw (.cells [.i .i64 0, .i .i64 0, .i .i64 0]))) b = some c := fun b c hb hc => hq2.keeps hb hc
  cases B with
  | nil =>
    simp [D_wait_Queue_take_4, fillP, stL_cells (Lg.put_same _ _ _), splice, res_cell_tmp _ _ (Lg.put_same _ _ _)]
    refine ⟨L, ?_, ?_⟩
    · have := hq2.shut h2
      rwa [h1, Lg.put_self L q _ e] at this
    · subst hQ
      have : takeW p ws = none := takeW_none p ws (by rw [← h1]; intro x hx; simp at hx; obtain ⟨a, hx⟩ := hx; exact hA _ hx)
      simp only [this]
      exact ⟨rfl, trivial⟩
  | cons x B =>
    obtain ⟨i, w⟩ := x
    have hseg := (Seg.append _ A ((i, w) :: B) none none).1 hq2.seg
    have hi := hseg.2.1
    simp [rdL, AB.read, look, hi, wnode, cut, ble_nat]
    refine (hso w _ h0).mono ?_
    rintro _ _ ⟨rfl, rfl⟩
    rw [condW_bool]
    refine ⟨fun hw => ?_, fun hw => ?_⟩
    · refine (queueDrop_open h.wait_Queue_drop hq2 h2).mono ?_
      rintro _ L3 ⟨rfl, hq3, h3i, h3o⟩
      have hrc3 : L3 rc = some (.raw (.cells [.i .i64 0, .i .i64 0, .i .i64 0])) := by
        rw [h3o rc, Lg.put_same]
        intro hm
        rw [idsOf_append] at hm
        have : rc ∈ idsOf (A ++ (i, w) :: B) := by
          rw [idsOf_append, idsOf_cons]
          simp at hm ⊢
          rcases hm with hm | hm | hm
          · exact absurd hm hrq
          · exact .inl hm
          · exact .inr (.inr hm)
        exact Seg.some hq.seg rc this hrc
      simp [rdL, AB.read, look, h3i, wnode, cut, ble_nat, stL_cells hrc3, splice, res_cell_tmp _ _ (Lg.put_same _ _ _)]
      have hrcL : L rc = none := by
        cases hL : L rc with
        | none => rfl
        | some c => rw [hq.keeps hrq hL] at hrc; cases hrc
      have hrc4 : rc ∉ q :: idsOf (A ++ B) := by
        intro hm
        rcases List.mem_cons.1 hm with hm | hm
        · exact hrq hm
        · have h7 := Seg.some hq3.seg rc hm
          have : rc ∈ idsOf (A ++ (i, w) :: B) := by
            rw [idsOf_append] at hm
            rw [idsOf_append, idsOf_cons]
            simp at hm ⊢
            rcases hm with hm | hm
            · exact .inl hm
            · exact .inr (.inr hm)
          exact Seg.some hq.seg rc this hrc
      refine ⟨_, (hq3.put hrc4 hrcL).shut ?_, ?_⟩
      · simp at h2 ⊢; omega
      · subst hQ
        have : takeW p ws = some (w, (A ++ B).map (·.2)) := by
          rw [← h1]; simpa using takeW_skip p w (B.map (·.2)) (A.map (·.2)) (by intro x hx; simp at hx; obtain ⟨a, hx⟩ := hx; exact hA _ hx) hw
        simp only [this]
        exact ⟨rfl, trivial⟩
    · simp [rdL, AB.read, look, hi, wnode]
      refine ⟨B.length, by simp at hnB; omega, A ++ [(i, w)], B, by simp, ?_, rfl, l0, l1, l4, rfl⟩
      intro a b hx
      rcases List.mem_append.1 hx with hx | hx
      · exact hA _ hx
      · simp at hx; obtain ⟨_, rfl⟩ := hx; exact hw
theorem queuePop_spec (h : H_wait_Queue_Pop N F) (e : L q = some (.abs (QueueP q ws))) :
    CallL F (N k_wait_Queue_Pop) [.p (some (q, 0))] L fun v L' => match (generalizing := false) ws with
      | [] => v = .tup [Wt.zero.av, .b false] ∧ L' = L
      | w :: r => v = .tup [w.av, .b true] ∧ L' = L.put q (.abs (QueueP q r)) := by
  apply r_wait_Queue_Pop h.code
  unfold D_wait_Queue_Pop_1
  simp
  intro rc hrc
  have hrq : rc ≠ q := by rintro rfl; rw [e] at hrc; cases hrc
  have e2 : (L.put rc (.raw (.cells [.i .i64 0, .i .i64 0, .i .i64 0]))) q = some (.abs (QueueP q ws)) := by rw [Lg.put_ne _ _ _ (Ne.symm hrq)]; exact e
  refine (queueTake_spec h.wait_Queue_take e2 (f := N k_wait_Queue_Pop_1) (fst := []) (cap := []) (p := fun _ => true) ?_).mono ?_
  · intro w L' hL'
    apply r_wait_Queue_Pop_1 h.wait_Queue_Pop_1.code
    simp [D_wait_Queue_Pop_1_1, Wt.av]
    rw [newL_box_agg _ _ _ (by simp [Wt.cells])]
    intro b hb
    exact Sees.drop fun c d hc => by
      have : c ≠ b := by rintro rfl; rw [hb] at hc; cases hc
      rw [Lg.put_ne _ _ _ this]; exact hc
  · intro v L' hv
    have hs1 : Sees (L.put rc (.raw (.cells [.i .i64 0, .i .i64 0, .i .i64 0]))) L := Sees.drop fun c d hc => by
      have : c ≠ rc := by rintro rfl; rw [hrc] at hc; cases hc
      rw [Lg.put_ne _ _ _ this]; exact hc
    cases ws with
    | nil =>
      simp only [takeW] at hv
      obtain ⟨rfl, rfl⟩ := hv
      simp [Wt.av, Wt.cells, Wt.zero, stL_cells (Lg.put_same _ _ _), splice, res_cell_tmp _ _ (Lg.put_same _ _ _)]
      simpa using hs1
    | cons w r =>
      simp only [takeW, if_true] at hv
      obtain ⟨rfl, rfl⟩ := hv
      have e3 : ((L.put rc (.raw (.cells [.i .i64 0, .i .i64 0, .i .i64 0]))).put q (.abs (QueueP q r))) rc = some (.raw (.cells [.i .i64 0, .i .i64 0, .i .i64 0])) := by
        rw [Lg.put_ne _ _ _ hrq, Lg.put_same]
      simp [Wt.av, Wt.cells, stL_cells e3, splice, res_cell_tmp _ _ (Lg.put_same _ _ _)]
      apply Sees.drop
      intro c d hc
      have : c ≠ rc := by
        rintro rfl
        rw [Lg.put_ne _ _ _ hrq, hrc] at hc; cases hc
      rw [Lg.put_ne _ _ _ this, Lg.put_apply]
      rw [Lg.put_apply] at hc
      split
      · rename_i h9; rw [if_pos h9] at hc; exact hc
      · rename_i h9; rw [if_neg h9] at hc; rw [Lg.put_ne _ _ _ this]; exact hc
theorem QOpen.onto {l : List (Nat × Wt)} {L1 : Lg} (h : QOpen L q l L1) {b : Nat} {c : LC} {L2 : Lg} (hb : L1 b = none) (h2 : Ext2 L1 L2) (h3 : L2 b = some c) : QOpen (L.put b c) q l L2 := by
  have hx := h.other h2
  refine ⟨hx.nd, hx.root, hx.seg, ?_, ?_⟩
  · intro d e hd he
    rw [Lg.put_apply] at he
    split at he
    · rename_i h4; subst h4; cases he; exact h3
    · exact hx.old d e hd he
  · intro d hd
    have : d ≠ b := by rintro rfl; exact Seg.some h.seg d hd hb
    rw [Lg.put_ne _ _ _ this]
    exact h.new d hd
end
end Go.AM


/- The code of functions, with names for their numbers, and what is left of its weakest preconditions. PRINTED by our printgen.py. -/
set_option linter.unusedVariables false
set_option maxRecDepth 100000
namespace Go.AM
def k_chanq_New : Nat := 22
def k_heap_Heap_Find : Nat := 25
def k_heap_Heap_put : Nat := 26
def k_cmp_isNaN_int : Nat := 27
def k_cmp_Compare_int : Nat := 28
def k_cmp_Or_int : Nat := 29
def k_heap_ahead : Nat := 30
def k_heap_Heap_up : Nat := 31
def k_heap_Heap_down : Nat := 32
def k_heap_Heap_Remove : Nat := 33
def k_expire_Timers_Stop : Nat := 34
def k_timer_Set_has : Nat := 49
def k_chanq_Chan_Drop : Nat := 50
def k_timer_Set_Stop : Nat := 51
def q_chanq_New_1 (N : TN) : ACode := (.seq (.reg [⟨.l 2, none, .mv, [.c (.p none)]⟩, ⟨.l 3, none, .mv, [.c (.i .i64 0)]⟩]) (.seq (.reg [⟨.t 7, none, .mv, [.l 0]⟩, ⟨.t 8, none, .call (N k_ring_New), [.t 7]⟩, ⟨.t 6, none, .mv, [.t 8]⟩, ⟨.t 9, none, .ext 0, [.t 6]⟩, ⟨.t 10, none, .ext 1, [.t 6]⟩, ⟨.l 4, none, .mv, [.t 9]⟩, ⟨.l 5, none, .mv, [.t 10]⟩]) (.seq (.seq (.reg [⟨.t 11, none, .mv, [.l 5]⟩, ⟨.t 12, none, .bin .neq, [.t 11, .c (.i .i64 0)]⟩]) (.cond (.t 12) (.seq (.reg [⟨.t 13, none, .mv, [.l 5]⟩, ⟨.l 2, none, .mv, [.c (.p none)]⟩, ⟨.l 3, none, .mv, [.t 13]⟩]) .ret) .skip)) (.seq (.reg [⟨.t 14, none, .mv, [.l 4]⟩, ⟨.t 15, none, .call (N k_wait_New), []⟩, ⟨.t 16, none, .call (N k_wait_New), []⟩, ⟨.t 17, none, .build [.p none, .p none, .p none, .b false, .b false, .b false] [(0, 1), (1, 1), (2, 1)], [.t 14, .t 15, .t 16]⟩, ⟨.t 18, none, .box, [.t 17]⟩, ⟨.l 2, none, .mv, [.t 18]⟩, ⟨.l 3, none, .mv, [.c (.i .i64 0)]⟩]) .ret))))
noncomputable def D_chanq_New_1 (F : TF) (N : TN) (Q : TQ) (x0 : AV) (L : Lg) : Prop :=
 CallL F (N k_ring_New) [x0] L fun v1 L1 =>
 wpOp F (.ext 0) [v1] L1 fun v2 L2 =>
 wpOp F (.ext 1) [v1] L2 fun v3 L3 =>
 wpOp F (.bin .neq) [v3, (.i .i64 0)] L3 fun v4 L4 =>
 condW v4
 (fin1 (some (.tup [(.p none), v3])) Q L4)
 (CallL F (N k_wait_New) [] L4 fun v5 L5 =>
 CallL F (N k_wait_New) [] L5 fun v6 L6 =>
 wpOp F (.build [.p none, .p none, .p none, .b false, .b false, .b false] [(0, 1), (1, 1), (2, 1)]) [v2, v5, v6] L6 fun v7 L7 =>
 wpOp F .box [v7] L7 fun v8 L8 =>
 fin1 (some (.tup [v8, (.i .i64 0)])) Q L8)
theorem e_chanq_New_1 (F : TF) (N : TN) (Q : TQ) (l t : Env) (L : Lg) : wp F (q_chanq_New_1 N) l t L (fin [.tmp (.l 2), .tmp (.l 3)] Q) nE (fin [.tmp (.l 2), .tmp (.l 3)] Q) = D_chanq_New_1 F N Q (l 0) L := by kernel_rfl
/-- tarpaulin/chanq.New -/
def c_chanq_New (N : TN) : AFn := ⟨q_chanq_New_1 N, [.tmp (.l 2), .tmp (.l 3)]⟩
structure H_chanq_New (N : TN) (F : TF) : Prop where
  code : F (N k_chanq_New) = some (c_chanq_New N)
  ring_New : H_ring_New N F
  wait_New : H_wait_New N F
theorem r_chanq_New {F : TF} {N : TN} (h : F (N k_chanq_New) = some (c_chanq_New N)) {Q : TQ} {a0 : AV} {L : Lg} (e : D_chanq_New_1 F N Q a0 L) : CallL F (N k_chanq_New) [a0] L Q :=
  CallL.of_wp h (Eq.mpr (Eq.trans (e_chanq_New_1 F N Q (initE [a0] 0) Env.nil L) (by kernel_rfl : _ = D_chanq_New_1 F N Q a0 L)) e)
def q_heap_Heap_Find_1 (N : TN) : ACode := (.seq (.reg [⟨.l 4, none, .alloc [.i .i64 0, .i .i64 0, .i .i64 0], []⟩, ⟨.l 5, none, .mv, [.c (.b false)]⟩]) (.seq (.seq (.reg [⟨.t 8, none, .mv, [.l 0]⟩, ⟨.t 9, none, .eq false .ptr, [.t 8, .c (.p none)]⟩]) (.cond (.t 9) (.seq (.reg [⟨.t 10, none, .build [.i .i64 0, .i .i64 0, .i .i64 0] [], []⟩, ⟨.no, none, .st 3, [.l 4, .t 10]⟩, ⟨.l 5, none, .mv, [.c (.b false)]⟩]) .ret) .skip)) (.seq (.reg [⟨.t 12, none, .mv, [.l 0]⟩, ⟨.t 13, none, .nilchk, [.t 12]⟩, ⟨.t 14, none, .fad 1, [.t 13]⟩, ⟨.t 15, none, .ld none, [.t 14]⟩, ⟨.t 16, none, .mv, [.l 1]⟩, ⟨.t 17, none, .lkup (.i .i64 0) true, [.t 15, .t 16]⟩, ⟨.t 11, none, .mv, [.t 17]⟩, ⟨.t 18, none, .ext 0, [.t 11]⟩, ⟨.t 19, none, .ext 1, [.t 11]⟩, ⟨.l 6, none, .mv, [.t 18]⟩, ⟨.l 7, none, .mv, [.t 19]⟩]) (.seq (.seq (.reg [⟨.t 20, none, .mv, [.l 7]⟩, ⟨.t 21, none, .un .not, [.t 20]⟩]) (.cond (.t 21) (.seq (.reg [⟨.t 22, none, .build [.i .i64 0, .i .i64 0, .i .i64 0] [], []⟩, ⟨.no, none, .st 3, [.l 4, .t 22]⟩, ⟨.l 5, none, .mv, [.c (.b false)]⟩]) .ret) .skip)) (.seq (.reg [⟨.t 23, none, .mv, [.l 0]⟩, ⟨.t 24, none, .nilchk, [.t 23]⟩, ⟨.t 25, none, .fad 0, [.t 24]⟩, ⟨.t 26, none, .ld none, [.t 25]⟩, ⟨.t 27, none, .mv, [.l 6]⟩, ⟨.t 28, none, .iad 3, [.t 26, .t 27]⟩, ⟨.t 29, none, .ld (some 3), [.t 28]⟩, ⟨.no, none, .st 3, [.l 4, .t 29]⟩, ⟨.l 5, none, .mv, [.c (.b true)]⟩]) .ret)))))
noncomputable def D_heap_Heap_Find_1 (F : TF) (N : TN) (Q : TQ) (x0 : AV) (x1 : AV) (L : Lg) : Prop :=
 wpOp F (.alloc [.i .i64 0, .i .i64 0, .i .i64 0]) [] L fun v1 L1 =>
 wpOp F (.eq false .ptr) [x0, (.p none)] L1 fun v2 L2 =>
 condW v2
 (wpOp F (.build [.i .i64 0, .i .i64 0, .i .i64 0] []) [] L2 fun v3 L3 =>
 wpOp F (.st 3) [v1, v3] L3 fun _ L4 =>
 fin1 (resVL Env.nil Env.nil L4 [.cell (.c v1) (some 3), .tmp (.c (.b false))]) Q L4)
 (wpOp F .nilchk [x0] L2 fun v5 L5 =>
 wpOp F (.fad 1) [v5] L5 fun v6 L6 =>
 wpOp F (.ld none) [v6] L6 fun v7 L7 =>
 wpOp F (.lkup (.i .i64 0) true) [v7, x1] L7 fun v8 L8 =>
 wpOp F (.ext 0) [v8] L8 fun v9 L9 =>
 wpOp F (.ext 1) [v8] L9 fun v10 L10 =>
 wpOp F (.un .not) [v10] L10 fun v11 L11 =>
 condW v11
 (wpOp F (.build [.i .i64 0, .i .i64 0, .i .i64 0] []) [] L11 fun v12 L12 =>
 wpOp F (.st 3) [v1, v12] L12 fun _ L13 =>
 fin1 (resVL Env.nil Env.nil L13 [.cell (.c v1) (some 3), .tmp (.c (.b false))]) Q L13)
 (wpOp F .nilchk [x0] L11 fun v14 L14 =>
 wpOp F (.fad 0) [v14] L14 fun v15 L15 =>
 wpOp F (.ld none) [v15] L15 fun v16 L16 =>
 wpOp F (.iad 3) [v16, v9] L16 fun v17 L17 =>
 wpOp F (.ld (some 3)) [v17] L17 fun v18 L18 =>
 wpOp F (.st 3) [v1, v18] L18 fun _ L19 =>
 fin1 (resVL Env.nil Env.nil L19 [.cell (.c v1) (some 3), .tmp (.c (.b true))]) Q L19))
theorem e_heap_Heap_Find_1 (F : TF) (N : TN) (Q : TQ) (l t : Env) (L : Lg) : wp F (q_heap_Heap_Find_1 N) l t L (fin [.cell (.l 4) (some 3), .tmp (.l 5)] Q) nE (fin [.cell (.l 4) (some 3), .tmp (.l 5)] Q) = D_heap_Heap_Find_1 F N Q (l 0) (l 1) L := by kernel_rfl
/-- (*tarpaulin/heap.Heap).Find -/
def c_heap_Heap_Find (N : TN) : AFn := ⟨q_heap_Heap_Find_1 N, [.cell (.l 4) (some 3), .tmp (.l 5)]⟩
structure H_heap_Heap_Find (N : TN) (F : TF) : Prop where
  code : F (N k_heap_Heap_Find) = some (c_heap_Heap_Find N)
theorem r_heap_Heap_Find {F : TF} {N : TN} (h : F (N k_heap_Heap_Find) = some (c_heap_Heap_Find N)) {Q : TQ} {a0 a1 : AV} {L : Lg} (e : D_heap_Heap_Find_1 F N Q a0 a1 L) : CallL F (N k_heap_Heap_Find) [a0, a1] L Q :=
  CallL.of_wp h (Eq.mpr (Eq.trans (e_heap_Heap_Find_1 F N Q (initE [a0, a1] 0) Env.nil L) (by kernel_rfl : _ = D_heap_Heap_Find_1 F N Q a0 a1 L)) e)
def q_heap_Heap_put_1 (N : TN) : ACode := (.seq (.reg [⟨.l 5, none, .box, [.l 2]⟩]) (.seq (.reg [⟨.t 6, none, .mv, [.l 0]⟩, ⟨.t 7, none, .nilchk, [.t 6]⟩, ⟨.t 8, none, .fad 0, [.t 7]⟩, ⟨.t 9, none, .ld none, [.t 8]⟩, ⟨.t 10, none, .mv, [.l 1]⟩, ⟨.t 11, none, .ld (some 3), [.l 5]⟩, ⟨.t 12, none, .iad 3, [.t 9, .t 10]⟩, ⟨.no, none, .st 3, [.t 12, .t 11]⟩]) (.reg [⟨.t 13, none, .mv, [.l 0]⟩, ⟨.t 14, none, .nilchk, [.t 13]⟩, ⟨.t 15, none, .fad 1, [.t 14]⟩, ⟨.t 16, none, .ld none, [.t 15]⟩, ⟨.t 17, none, .fad 0, [.l 5]⟩, ⟨.t 18, none, .ld none, [.t 17]⟩, ⟨.t 19, none, .mv, [.l 1]⟩, ⟨.no, none, .mset, [.t 16, .t 18, .t 19]⟩])))
noncomputable def D_heap_Heap_put_1 (F : TF) (N : TN) (Q : TQ) (x0 : AV) (x1 : AV) (x2 : AV) (L : Lg) : Prop :=
 wpOp F .box [x2] L fun v1 L1 =>
 wpOp F .nilchk [x0] L1 fun v2 L2 =>
 wpOp F (.fad 0) [v2] L2 fun v3 L3 =>
 wpOp F (.ld none) [v3] L3 fun v4 L4 =>
 wpOp F (.ld (some 3)) [v1] L4 fun v5 L5 =>
 wpOp F (.iad 3) [v4, x1] L5 fun v6 L6 =>
 wpOp F (.st 3) [v6, v5] L6 fun _ L7 =>
 wpOp F .nilchk [x0] L7 fun v8 L8 =>
 wpOp F (.fad 1) [v8] L8 fun v9 L9 =>
 wpOp F (.ld none) [v9] L9 fun v10 L10 =>
 wpOp F (.fad 0) [v1] L10 fun v11 L11 =>
 wpOp F (.ld none) [v11] L11 fun v12 L12 =>
 wpOp F .mset [v10, v12, x1] L12 fun _ L13 =>
 fin1 (some (.tup [])) Q L13
theorem e_heap_Heap_put_1 (F : TF) (N : TN) (Q : TQ) (l t : Env) (L : Lg) : wp F (q_heap_Heap_put_1 N) l t L (fin [] Q) nE (fin [] Q) = D_heap_Heap_put_1 F N Q (l 0) (l 1) (l 2) L := by kernel_rfl
/-- (*tarpaulin/heap.Heap).put -/
def c_heap_Heap_put (N : TN) : AFn := ⟨q_heap_Heap_put_1 N, []⟩
structure H_heap_Heap_put (N : TN) (F : TF) : Prop where
  code : F (N k_heap_Heap_put) = some (c_heap_Heap_put N)
theorem r_heap_Heap_put {F : TF} {N : TN} (h : F (N k_heap_Heap_put) = some (c_heap_Heap_put N)) {Q : TQ} {a0 a1 a2 : AV} {L : Lg} (e : D_heap_Heap_put_1 F N Q a0 a1 a2 L) : CallL F (N k_heap_Heap_put) [a0, a1, a2] L Q :=
  CallL.of_wp h (Eq.mpr (Eq.trans (e_heap_Heap_put_1 F N Q (initE [a0, a1, a2] 0) Env.nil L) (by kernel_rfl : _ = D_heap_Heap_put_1 F N Q a0 a1 a2 L)) e)
def q_cmp_isNaN_int_1 (N : TN) : ACode := (.seq (.reg [⟨.l 2, none, .mv, [.c (.b false)]⟩]) (.seq (.reg [⟨.t 3, none, .mv, [.l 0]⟩, ⟨.t 4, none, .mv, [.l 0]⟩, ⟨.t 5, none, .bin .neq, [.t 3, .t 4]⟩, ⟨.l 2, none, .mv, [.t 5]⟩]) .ret))
noncomputable def D_cmp_isNaN_int_1 (F : TF) (N : TN) (Q : TQ) (x0 : AV) (L : Lg) : Prop :=
 wpOp F (.bin .neq) [x0, x0] L fun v1 L1 =>
 fin1 (some v1) Q L1
theorem e_cmp_isNaN_int_1 (F : TF) (N : TN) (Q : TQ) (l t : Env) (L : Lg) : wp F (q_cmp_isNaN_int_1 N) l t L (fin [.tmp (.l 2)] Q) nE (fin [.tmp (.l 2)] Q) = D_cmp_isNaN_int_1 F N Q (l 0) L := by kernel_rfl
/-- cmp.isNaN[int] -/
def c_cmp_isNaN_int (N : TN) : AFn := ⟨q_cmp_isNaN_int_1 N, [.tmp (.l 2)]⟩
structure H_cmp_isNaN_int (N : TN) (F : TF) : Prop where
  code : F (N k_cmp_isNaN_int) = some (c_cmp_isNaN_int N)
theorem r_cmp_isNaN_int {F : TF} {N : TN} (h : F (N k_cmp_isNaN_int) = some (c_cmp_isNaN_int N)) {Q : TQ} {a0 : AV} {L : Lg} (e : D_cmp_isNaN_int_1 F N Q a0 L) : CallL F (N k_cmp_isNaN_int) [a0] L Q :=
  CallL.of_wp h (Eq.mpr (Eq.trans (e_cmp_isNaN_int_1 F N Q (initE [a0] 0) Env.nil L) (by kernel_rfl : _ = D_cmp_isNaN_int_1 F N Q a0 L)) e)
def q_cmp_Compare_int_1 (N : TN) : ACode := (.seq (.reg [⟨.l 4, none, .mv, [.c (.i .i64 0)]⟩]) (.seq (.reg [⟨.t 7, none, .mv, [.l 0]⟩, ⟨.t 8, none, .call (N k_cmp_isNaN_int), [.t 7]⟩, ⟨.l 5, none, .mv, [.t 8]⟩]) (.seq (.reg [⟨.t 9, none, .mv, [.l 1]⟩, ⟨.t 10, none, .call (N k_cmp_isNaN_int), [.t 9]⟩, ⟨.l 6, none, .mv, [.t 10]⟩]) (.seq (.seq (.reg [⟨.t 11, none, .mv, [.l 5]⟩]) (.cond (.t 11) (.seq (.seq (.reg [⟨.t 12, none, .mv, [.l 6]⟩]) (.cond (.t 12) (.seq (.reg [⟨.l 4, none, .mv, [.c (.i .i64 0)]⟩]) .ret) .skip)) (.seq (.reg [⟨.l 4, none, .mv, [.c (.i .i64 (-1))]⟩]) .ret)) .skip)) (.seq (.seq (.reg [⟨.t 13, none, .mv, [.l 6]⟩]) (.cond (.t 13) (.seq (.reg [⟨.l 4, none, .mv, [.c (.i .i64 1)]⟩]) .ret) .skip)) (.seq (.seq (.reg [⟨.t 14, none, .mv, [.l 0]⟩, ⟨.t 15, none, .mv, [.l 1]⟩, ⟨.t 16, none, .bin .lss, [.t 14, .t 15]⟩]) (.cond (.t 16) (.seq (.reg [⟨.l 4, none, .mv, [.c (.i .i64 (-1))]⟩]) .ret) .skip)) (.seq (.seq (.reg [⟨.t 17, none, .mv, [.l 0]⟩, ⟨.t 18, none, .mv, [.l 1]⟩, ⟨.t 19, none, .bin .gtr, [.t 17, .t 18]⟩]) (.cond (.t 19) (.seq (.reg [⟨.l 4, none, .mv, [.c (.i .i64 1)]⟩]) .ret) .skip)) (.seq (.reg [⟨.l 4, none, .mv, [.c (.i .i64 0)]⟩]) .ret))))))))
noncomputable def D_cmp_Compare_int_1 (F : TF) (N : TN) (Q : TQ) (x0 : AV) (x1 : AV) (L : Lg) : Prop :=
 CallL F (N k_cmp_isNaN_int) [x0] L fun v1 L1 =>
 CallL F (N k_cmp_isNaN_int) [x1] L1 fun v2 L2 =>
 condW v1
 (condW v2
 (fin1 (some (.i .i64 0)) Q L2)
 (fin1 (some (.i .i64 (-1))) Q L2))
 (condW v2
 (fin1 (some (.i .i64 1)) Q L2)
 (wpOp F (.bin .lss) [x0, x1] L2 fun v3 L3 =>
 condW v3
 (fin1 (some (.i .i64 (-1))) Q L3)
 (wpOp F (.bin .gtr) [x0, x1] L3 fun v4 L4 =>
 condW v4
 (fin1 (some (.i .i64 1)) Q L4)
 (fin1 (some (.i .i64 0)) Q L4))))
theorem e_cmp_Compare_int_1 (F : TF) (N : TN) (Q : TQ) (l t : Env) (L : Lg) : wp F (q_cmp_Compare_int_1 N) l t L (fin [.tmp (.l 4)] Q) nE (fin [.tmp (.l 4)] Q) = D_cmp_Compare_int_1 F N Q (l 0) (l 1) L := by kernel_rfl
/-- cmp.Compare[int] -/
def c_cmp_Compare_int (N : TN) : AFn := ⟨q_cmp_Compare_int_1 N, [.tmp (.l 4)]⟩
structure H_cmp_Compare_int (N : TN) (F : TF) : Prop where
  code : F (N k_cmp_Compare_int) = some (c_cmp_Compare_int N)
  cmp_isNaN_int : H_cmp_isNaN_int N F
theorem r_cmp_Compare_int {F : TF} {N : TN} (h : F (N k_cmp_Compare_int) = some (c_cmp_Compare_int N)) {Q : TQ} {a0 a1 : AV} {L : Lg} (e : D_cmp_Compare_int_1 F N Q a0 a1 L) : CallL F (N k_cmp_Compare_int) [a0, a1] L Q :=
  CallL.of_wp h (Eq.mpr (Eq.trans (e_cmp_Compare_int_1 F N Q (initE [a0, a1] 0) Env.nil L) (by kernel_rfl : _ = D_cmp_Compare_int_1 F N Q a0 a1 L)) e)
def q_cmp_Or_int_4 (N : TN) : ACode := (.seq (.reg [⟨.t 17, none, .mv, [.l 3]⟩, ⟨.l 2, none, .mv, [.t 17]⟩]) .ret)
noncomputable def D_cmp_Or_int_4 (F : TF) (N : TN) (Q : TQ) (x3 : AV) (L : Lg) : Prop :=
 fin1 (some x3) Q L
theorem e_cmp_Or_int_4 (F : TF) (N : TN) (Q : TQ) (l t : Env) (L : Lg) : wp F (q_cmp_Or_int_4 N) l t L (fin [.tmp (.l 2)] Q) nE (fin [.tmp (.l 2)] Q) = D_cmp_Or_int_4 F N Q (l 3) L := by kernel_rfl
def y_cmp_Or_int_6 (F : TF) (N : TN) (Q : TQ) : Nat → Kn := (fun (j : Nat) (l t : Env) (L : Lg) => bif Nat.beq j 0 then (fun (l t : Env) (L : Lg) => D_cmp_Or_int_4 F N Q (l 3) L) l t L else nE j l t L)
def q_cmp_Or_int_8 (N : TN) : ACode := (.seq (.reg [⟨.t 9, none, .bin .lss, [.l 8, .l 7]⟩]) (.seq (.cond (.t 9) .skip (.exit 0)) (.seq (.block 1 (.seq (.reg [⟨.t 10, none, .iad 1, [.l 6, .l 8]⟩, ⟨.t 11, none, .ld none, [.t 10]⟩, ⟨.l 5, none, .mv, [.t 11]⟩]) (.seq (.reg [⟨.t 12, none, .mv, [.l 5]⟩, ⟨.t 13, none, .mv, [.l 3]⟩, ⟨.t 14, none, .bin .neq, [.t 12, .t 13]⟩]) (.cond (.t 14) (.seq (.reg [⟨.t 15, none, .mv, [.l 5]⟩, ⟨.l 2, none, .mv, [.t 15]⟩]) .ret) .skip)))) (.reg [⟨.t 16, none, .bin .add, [.l 8, .c (.i .i64 1)]⟩, ⟨.l 8, none, .mv, [.t 16]⟩]))))
noncomputable def D_cmp_Or_int_8 (F : TF) (N : TN) (Q : TQ) (k1 : TK) (l : Env) (L : Lg) : Prop :=
 wpOp F (.bin .lss) [(l 8), (l 7)] L fun v1 L1 =>
 condW v1
 (wpOp F (.iad 1) [(l 6), (l 8)] L1 fun v2 L2 =>
 wpOp F (.ld none) [v2] L2 fun v3 L3 =>
 wpOp F (.bin .neq) [v3, (l 3)] L3 fun v4 L4 =>
 condW v4
 (fin1 (some v3) Q L4)
 (wpOp F (.bin .add) [(l 8), (.i .i64 1)] L4 fun v5 L5 =>
 k1 (Env.put (Env.put l 5 v3) 8 v5) L5))
 (D_cmp_Or_int_4 F N Q (l 3) L1)
theorem e_cmp_Or_int_8 (F : TF) (N : TN) (Q : TQ) (k1 : TK) (l t : Env) (L : Lg) : wp F (q_cmp_Or_int_8 N) l t L (fun (l _ : Env) (L : Lg) => k1 l L) (y_cmp_Or_int_6 F N Q) (fin [.tmp (.l 2)] Q) = D_cmp_Or_int_8 F N Q k1 l L := by kernel_rfl
def q_cmp_Or_int_7 (N : TN) : ACode := (.loop (q_cmp_Or_int_8 N))
noncomputable def D_cmp_Or_int_7 (F : TF) (N : TN) (Q : TQ) (l : Env) (L : Lg) : Prop :=
 loopW (fun l t L k1 => D_cmp_Or_int_8 F N Q k1 l L) l L
theorem e_cmp_Or_int_7 (F : TF) (N : TN) (Q : TQ) (l t : Env) (L : Lg) : wp F (q_cmp_Or_int_7 N) l t L (fun (l t : Env) (L : Lg) => D_cmp_Or_int_4 F N Q (l 3) L) (y_cmp_Or_int_6 F N Q) (fin [.tmp (.l 2)] Q) = D_cmp_Or_int_7 F N Q l L := wpL (fun l t L k1 => e_cmp_Or_int_8 F N Q k1 l t L) (by kernel_rfl)
def q_cmp_Or_int_6 (N : TN) : ACode := (.block 0 (q_cmp_Or_int_7 N))
theorem e_cmp_Or_int_6 (F : TF) (N : TN) (Q : TQ) (l t : Env) (L : Lg) : wp F (q_cmp_Or_int_6 N) l t L (fun (l t : Env) (L : Lg) => D_cmp_Or_int_4 F N Q (l 3) L) nE (fin [.tmp (.l 2)] Q) = D_cmp_Or_int_7 F N Q l L := wpB (e_cmp_Or_int_7 F N Q l t L)
def q_cmp_Or_int_5a (N : TN) : ACode := (.reg [⟨.l 6, none, .mv, [.l 0]⟩, ⟨.l 7, none, .lenSl, [.l 6]⟩, ⟨.l 8, none, .mv, [.c (.i .i64 0)]⟩])
def q_cmp_Or_int_5 (N : TN) : ACode := (.seq (q_cmp_Or_int_5a N) (q_cmp_Or_int_6 N))
noncomputable def D_cmp_Or_int_5 (F : TF) (N : TN) (Q : TQ) (l : Env) (L : Lg) : Prop :=
 wpOp F .lenSl [(l 0)] L fun v1 L1 =>
 D_cmp_Or_int_7 F N Q (Env.put (Env.put (Env.put l 6 (l 0)) 7 v1) 8 (.i .i64 0)) L1
theorem e_cmp_Or_int_5 (F : TF) (N : TN) (Q : TQ) (l t : Env) (L : Lg) : wp F (q_cmp_Or_int_5 N) l t L (fun (l t : Env) (L : Lg) => D_cmp_Or_int_4 F N Q (l 3) L) nE (fin [.tmp (.l 2)] Q) = D_cmp_Or_int_5 F N Q l L := wpS (e_cmp_Or_int_6 F N Q) (by kernel_rfl)
def q_cmp_Or_int_3 (N : TN) : ACode := (.seq (q_cmp_Or_int_5 N) (q_cmp_Or_int_4 N))
theorem e_cmp_Or_int_3 (F : TF) (N : TN) (Q : TQ) (l t : Env) (L : Lg) : wp F (q_cmp_Or_int_3 N) l t L (fin [.tmp (.l 2)] Q) nE (fin [.tmp (.l 2)] Q) = D_cmp_Or_int_5 F N Q l L := wpS (e_cmp_Or_int_4 F N Q) (e_cmp_Or_int_5 F N Q l t L)
def q_cmp_Or_int_2a (N : TN) : ACode := (.reg [⟨.l 3, none, .mv, [.c (.i .i64 0)]⟩])
def q_cmp_Or_int_2 (N : TN) : ACode := (.seq (q_cmp_Or_int_2a N) (q_cmp_Or_int_3 N))
noncomputable def D_cmp_Or_int_2 (F : TF) (N : TN) (Q : TQ) (l : Env) (L : Lg) : Prop :=
 D_cmp_Or_int_5 F N Q (Env.put l 3 (.i .i64 0)) L
theorem e_cmp_Or_int_2 (F : TF) (N : TN) (Q : TQ) (l t : Env) (L : Lg) : wp F (q_cmp_Or_int_2 N) l t L (fin [.tmp (.l 2)] Q) nE (fin [.tmp (.l 2)] Q) = D_cmp_Or_int_2 F N Q l L := wpS (e_cmp_Or_int_3 F N Q) (by kernel_rfl)
def q_cmp_Or_int_1a (N : TN) : ACode := (.reg [⟨.l 2, none, .mv, [.c (.i .i64 0)]⟩])
def q_cmp_Or_int_1 (N : TN) : ACode := (.seq (q_cmp_Or_int_1a N) (q_cmp_Or_int_2 N))
noncomputable def D_cmp_Or_int_1 (F : TF) (N : TN) (Q : TQ) (l : Env) (L : Lg) : Prop :=
 D_cmp_Or_int_2 F N Q (Env.put l 2 (.i .i64 0)) L
theorem e_cmp_Or_int_1 (F : TF) (N : TN) (Q : TQ) (l t : Env) (L : Lg) : wp F (q_cmp_Or_int_1 N) l t L (fin [.tmp (.l 2)] Q) nE (fin [.tmp (.l 2)] Q) = D_cmp_Or_int_1 F N Q l L := wpS (e_cmp_Or_int_2 F N Q) (by kernel_rfl)
/-- cmp.Or[int] -/
def c_cmp_Or_int (N : TN) : AFn := ⟨q_cmp_Or_int_1 N, [.tmp (.l 2)]⟩
structure H_cmp_Or_int (N : TN) (F : TF) : Prop where
  code : F (N k_cmp_Or_int) = some (c_cmp_Or_int N)
theorem r_cmp_Or_int {F : TF} {N : TN} (h : F (N k_cmp_Or_int) = some (c_cmp_Or_int N)) {Q : TQ} {a0 : AV} {L : Lg} (e : D_cmp_Or_int_1 F N Q (initE [a0] 0) L) : CallL F (N k_cmp_Or_int) [a0] L Q :=
  CallL.of_wp h (Eq.mpr (Eq.trans (e_cmp_Or_int_1 F N Q (initE [a0] 0) Env.nil L) (by kernel_rfl : _ = D_cmp_Or_int_1 F N Q (initE [a0] 0) L)) e)
def q_heap_ahead_1 (N : TN) : ACode := (.seq (.reg [⟨.l 2, none, .box, [.l 0]⟩, ⟨.l 3, none, .box, [.l 1]⟩, ⟨.l 4, none, .mv, [.c (.i .i64 0)]⟩]) (.seq (.regD [⟨.t 5, none, .fad 1, [.l 2]⟩, ⟨.t 6, none, .ld none, [.t 5]⟩, ⟨.t 7, none, .fad 1, [.l 3]⟩, ⟨.t 8, none, .ld none, [.t 7]⟩, ⟨.t 9, none, .call (N k_cmp_Compare_int), [.t 6, .t 8]⟩, ⟨.t 10, none, .fad 2, [.l 2]⟩, ⟨.t 11, none, .ld none, [.t 10]⟩, ⟨.t 12, none, .fad 2, [.l 3]⟩, ⟨.t 13, none, .ld none, [.t 12]⟩, ⟨.t 14, none, .call (N k_cmp_Compare_int), [.t 11, .t 13]⟩, ⟨.t 15, none, .bslice [.i .i64 0] 2 1 [0, 1], [.t 9, .t 14]⟩, ⟨.t 16, none, .call (N k_cmp_Or_int), [.t 15]⟩, ⟨.l 4, none, .mv, [.t 16]⟩] [(6, 0), (8, 0)]) .ret))
noncomputable def D_heap_ahead_1 (F : TF) (N : TN) (Q : TQ) (x0 : AV) (x1 : AV) (L : Lg) : Prop :=
 wpOp F .box [x0] L fun v1 L1 =>
 wpOp F .box [x1] L1 fun v2 L2 =>
 wpOp F (.fad 1) [v1] L2 fun v3 L3 =>
 wpOp F (.ld none) [v3] L3 fun v4 L4 =>
 wpOp F (.fad 1) [v2] L4 fun v5 L5 =>
 wpOp F (.ld none) [v5] L5 fun v6 L6 =>
 CallL F (N k_cmp_Compare_int) [v4, v6] L6 fun v7 L7 =>
 wpOp F (.fad 2) [v1] L7 fun v8 L8 =>
 wpOp F (.ld none) [v8] L8 fun v9 L9 =>
 wpOp F (.fad 2) [v2] L9 fun v10 L10 =>
 wpOp F (.ld none) [v10] L10 fun v11 L11 =>
 CallL F (N k_cmp_Compare_int) [v9, v11] L11 fun v12 L12 =>
 wpOp F (.bslice [.i .i64 0] 2 1 [0, 1]) [v7, v12] L12 fun v13 L13 =>
 CallL F (N k_cmp_Or_int) [v13] L13 fun v14 L14 =>
 (againV (.ld none) [v8] L8 L2 ∧ againV (.ld none) [v10] L10 L2 ∧ True) ∧ (fin1 (some v14) Q L14)
theorem e_heap_ahead_1 (F : TF) (N : TN) (Q : TQ) (l t : Env) (L : Lg) : wp F (q_heap_ahead_1 N) l t L (fin [.tmp (.l 4)] Q) nE (fin [.tmp (.l 4)] Q) = D_heap_ahead_1 F N Q (l 0) (l 1) L := by kernel_rfl
/-- tarpaulin/heap.ahead -/
def c_heap_ahead (N : TN) : AFn := ⟨q_heap_ahead_1 N, [.tmp (.l 4)]⟩
structure H_heap_ahead (N : TN) (F : TF) : Prop where
  code : F (N k_heap_ahead) = some (c_heap_ahead N)
  cmp_Compare_int : H_cmp_Compare_int N F
  cmp_Or_int : H_cmp_Or_int N F
theorem r_heap_ahead {F : TF} {N : TN} (h : F (N k_heap_ahead) = some (c_heap_ahead N)) {Q : TQ} {a0 a1 : AV} {L : Lg} (e : D_heap_ahead_1 F N Q a0 a1 L) : CallL F (N k_heap_ahead) [a0, a1] L Q :=
  CallL.of_wp h (Eq.mpr (Eq.trans (e_heap_ahead_1 F N Q (initE [a0, a1] 0) Env.nil L) (by kernel_rfl : _ = D_heap_ahead_1 F N Q a0 a1 L)) e)
def q_heap_Heap_up_3 (N : TN) : ACode := (.reg [⟨.t 43, none, .mv, [.l 0]⟩, ⟨.t 44, none, .mv, [.l 1]⟩, ⟨.t 45, none, .ld (some 3), [.l 4]⟩, ⟨.t 46, none, .call (N k_heap_Heap_put), [.t 43, .t 44, .t 45]⟩])
noncomputable def D_heap_Heap_up_3 (F : TF) (N : TN) (Q : TQ) (x0 : AV) (x1 : AV) (x4 : AV) (L : Lg) : Prop :=
 wpOp F (.ld (some 3)) [x4] L fun v1 L1 =>
 CallL F (N k_heap_Heap_put) [x0, x1, v1] L1 fun v2 L2 =>
 fin1 (some (.tup [])) Q L2
theorem e_heap_Heap_up_3 (F : TF) (N : TN) (Q : TQ) (l t : Env) (L : Lg) : wp F (q_heap_Heap_up_3 N) l t L (fin [] Q) nE (fin [] Q) = D_heap_Heap_up_3 F N Q (l 0) (l 1) (l 4) L := by kernel_rfl
def w_heap_Heap_up_2 (F : TF) (N : TN) (Q : TQ) : Kn := (fun (l t : Env) (L : Lg) => D_heap_Heap_up_3 F N Q (l 0) (l 1) (l 4) L)
def y_heap_Heap_up_4 (F : TF) (N : TN) (Q : TQ) : Nat → Kn := (fun (j : Nat) (l t : Env) (L : Lg) => bif Nat.beq j 0 then (w_heap_Heap_up_2 F N Q) l t L else nE j l t L)
def q_heap_Heap_up_6 (N : TN) : ACode := (.seq (.seq (.reg [⟨.t 12, none, .mv, [.l 1]⟩, ⟨.t 13, none, .bin .gtr, [.t 12, .c (.i .i64 0)]⟩, ⟨.t 14, none, .mv, [.t 13]⟩, ⟨.t 15, some (.t 14, true), .ld (some 3), [.l 4]⟩, ⟨.t 16, some (.t 14, true), .mv, [.l 0]⟩, ⟨.t 17, some (.t 14, true), .nilchk, [.t 16]⟩, ⟨.t 18, some (.t 14, true), .fad 0, [.t 17]⟩, ⟨.t 19, some (.t 14, true), .ld none, [.t 18]⟩, ⟨.t 20, some (.t 14, true), .mv, [.l 1]⟩, ⟨.t 21, some (.t 14, true), .bin .sub, [.t 20, .c (.i .i64 1)]⟩, ⟨.t 22, some (.t 14, true), .bin .quo, [.t 21, .c (.i .i64 4)]⟩, ⟨.t 23, some (.t 14, true), .iad 3, [.t 19, .t 22]⟩, ⟨.t 24, some (.t 14, true), .ld (some 3), [.t 23]⟩, ⟨.t 25, some (.t 14, true), .call (N k_heap_ahead), [.t 15, .t 24]⟩, ⟨.t 26, some (.t 14, true), .bin .lss, [.t 25, .c (.i .i64 0)]⟩, ⟨.t 27, none, .pick, [.t 14, .t 26, .c (.b false)]⟩]) (.cond (.t 27) .skip (.exit 0))) (.block 1 (.seq (.reg [⟨.t 28, none, .mv, [.l 0]⟩, ⟨.t 29, none, .mv, [.l 1]⟩, ⟨.t 30, none, .mv, [.l 0]⟩, ⟨.t 31, none, .nilchk, [.t 30]⟩, ⟨.t 32, none, .fad 0, [.t 31]⟩, ⟨.t 33, none, .ld none, [.t 32]⟩, ⟨.t 34, none, .mv, [.l 1]⟩, ⟨.t 35, none, .bin .sub, [.t 34, .c (.i .i64 1)]⟩, ⟨.t 36, none, .bin .quo, [.t 35, .c (.i .i64 4)]⟩, ⟨.t 37, none, .iad 3, [.t 33, .t 36]⟩, ⟨.t 38, none, .ld (some 3), [.t 37]⟩, ⟨.t 39, none, .call (N k_heap_Heap_put), [.t 28, .t 29, .t 38]⟩]) (.reg [⟨.t 40, none, .mv, [.l 1]⟩, ⟨.t 41, none, .bin .sub, [.t 40, .c (.i .i64 1)]⟩, ⟨.t 42, none, .bin .quo, [.t 41, .c (.i .i64 4)]⟩, ⟨.l 1, none, .mv, [.t 42]⟩]))))
noncomputable def D_heap_Heap_up_6 (F : TF) (N : TN) (Q : TQ) (k1 : TK) (l : Env) (L : Lg) : Prop :=
 wpOp F (.bin .gtr) [(l 1), (.i .i64 0)] L fun v1 L1 =>
 gdOp F v1 true (.ld (some 3)) [(l 4)] L1 fun v2 L2 =>
 gdOp F v1 true .mv [(l 0)] L2 fun v3 L3 =>
 gdOp F v1 true .nilchk [v3] L3 fun v4 L4 =>
 gdOp F v1 true (.fad 0) [v4] L4 fun v5 L5 =>
 gdOp F v1 true (.ld none) [v5] L5 fun v6 L6 =>
 gdOp F v1 true .mv [(l 1)] L6 fun v7 L7 =>
 gdOp F v1 true (.bin .sub) [v7, (.i .i64 1)] L7 fun v8 L8 =>
 gdOp F v1 true (.bin .quo) [v8, (.i .i64 4)] L8 fun v9 L9 =>
 gdOp F v1 true (.iad 3) [v6, v9] L9 fun v10 L10 =>
 gdOp F v1 true (.ld (some 3)) [v10] L10 fun v11 L11 =>
 gdOp F v1 true (.call (N k_heap_ahead)) [v2, v11] L11 fun v12 L12 =>
 gdOp F v1 true (.bin .lss) [v12, (.i .i64 0)] L12 fun v13 L13 =>
 wpOp F .pick [v1, v13, (.b false)] L13 fun v14 L14 =>
 condW v14
 (wpOp F .nilchk [(l 0)] L14 fun v15 L15 =>
 wpOp F (.fad 0) [v15] L15 fun v16 L16 =>
 wpOp F (.ld none) [v16] L16 fun v17 L17 =>
 wpOp F (.bin .sub) [(l 1), (.i .i64 1)] L17 fun v18 L18 =>
 wpOp F (.bin .quo) [v18, (.i .i64 4)] L18 fun v19 L19 =>
 wpOp F (.iad 3) [v17, v19] L19 fun v20 L20 =>
 wpOp F (.ld (some 3)) [v20] L20 fun v21 L21 =>
 CallL F (N k_heap_Heap_put) [(l 0), (l 1), v21] L21 fun v22 L22 =>
 wpOp F (.bin .sub) [(l 1), (.i .i64 1)] L22 fun v23 L23 =>
 wpOp F (.bin .quo) [v23, (.i .i64 4)] L23 fun v24 L24 =>
 k1 (Env.put l 1 v24) L24)
 (D_heap_Heap_up_3 F N Q (l 0) (l 1) (l 4) L14)
theorem e_heap_Heap_up_6 (F : TF) (N : TN) (Q : TQ) (k1 : TK) (l t : Env) (L : Lg) : wp F (q_heap_Heap_up_6 N) l t L (fun (l _ : Env) (L : Lg) => k1 l L) (y_heap_Heap_up_4 F N Q) (fin [] Q) = D_heap_Heap_up_6 F N Q k1 l L := by kernel_rfl
def q_heap_Heap_up_5 (N : TN) : ACode := (.loop (q_heap_Heap_up_6 N))
noncomputable def D_heap_Heap_up_5 (F : TF) (N : TN) (Q : TQ) (l : Env) (L : Lg) : Prop :=
 loopW (fun l t L k1 => D_heap_Heap_up_6 F N Q k1 l L) l L
theorem e_heap_Heap_up_5 (F : TF) (N : TN) (Q : TQ) (l t : Env) (L : Lg) : wp F (q_heap_Heap_up_5 N) l t L (w_heap_Heap_up_2 F N Q) (y_heap_Heap_up_4 F N Q) (fin [] Q) = D_heap_Heap_up_5 F N Q l L := wpL (fun l t L k1 => e_heap_Heap_up_6 F N Q k1 l t L) (by kernel_rfl)
def q_heap_Heap_up_4 (N : TN) : ACode := (.block 0 (q_heap_Heap_up_5 N))
theorem e_heap_Heap_up_4 (F : TF) (N : TN) (Q : TQ) (l t : Env) (L : Lg) : wp F (q_heap_Heap_up_4 N) l t L (w_heap_Heap_up_2 F N Q) nE (fin [] Q) = D_heap_Heap_up_5 F N Q l L := wpB (e_heap_Heap_up_5 F N Q l t L)
def q_heap_Heap_up_2 (N : TN) : ACode := (.seq (q_heap_Heap_up_4 N) (q_heap_Heap_up_3 N))
theorem e_heap_Heap_up_2 (F : TF) (N : TN) (Q : TQ) (l t : Env) (L : Lg) : wp F (q_heap_Heap_up_2 N) l t L (fin [] Q) nE (fin [] Q) = D_heap_Heap_up_5 F N Q l L := wpS (e_heap_Heap_up_3 F N Q) (e_heap_Heap_up_4 F N Q l t L)
def q_heap_Heap_up_1a (N : TN) : ACode := (.reg [⟨.t 5, none, .mv, [.l 0]⟩, ⟨.t 6, none, .nilchk, [.t 5]⟩, ⟨.t 7, none, .fad 0, [.t 6]⟩, ⟨.t 8, none, .ld none, [.t 7]⟩, ⟨.t 9, none, .mv, [.l 1]⟩, ⟨.t 10, none, .iad 3, [.t 8, .t 9]⟩, ⟨.t 11, none, .ld (some 3), [.t 10]⟩, ⟨.l 4, none, .alloc [.i .i64 0, .i .i64 0, .i .i64 0], []⟩, ⟨.no, none, .st 3, [.l 4, .t 11]⟩])
def q_heap_Heap_up_1 (N : TN) : ACode := (.seq (q_heap_Heap_up_1a N) (q_heap_Heap_up_2 N))
noncomputable def D_heap_Heap_up_1 (F : TF) (N : TN) (Q : TQ) (l : Env) (L : Lg) : Prop :=
 wpOp F .nilchk [(l 0)] L fun v1 L1 =>
 wpOp F (.fad 0) [v1] L1 fun v2 L2 =>
 wpOp F (.ld none) [v2] L2 fun v3 L3 =>
 wpOp F (.iad 3) [v3, (l 1)] L3 fun v4 L4 =>
 wpOp F (.ld (some 3)) [v4] L4 fun v5 L5 =>
 wpOp F (.alloc [.i .i64 0, .i .i64 0, .i .i64 0]) [] L5 fun v6 L6 =>
 wpOp F (.st 3) [v6, v5] L6 fun _ L7 =>
 D_heap_Heap_up_5 F N Q (Env.put l 4 v6) L7
theorem e_heap_Heap_up_1 (F : TF) (N : TN) (Q : TQ) (l t : Env) (L : Lg) : wp F (q_heap_Heap_up_1 N) l t L (fin [] Q) nE (fin [] Q) = D_heap_Heap_up_1 F N Q l L := wpS (e_heap_Heap_up_2 F N Q) (by kernel_rfl)
/-- (*tarpaulin/heap.Heap).up -/
def c_heap_Heap_up (N : TN) : AFn := ⟨q_heap_Heap_up_1 N, []⟩
structure H_heap_Heap_up (N : TN) (F : TF) : Prop where
  code : F (N k_heap_Heap_up) = some (c_heap_Heap_up N)
  heap_ahead : H_heap_ahead N F
  heap_Heap_put : H_heap_Heap_put N F
theorem r_heap_Heap_up {F : TF} {N : TN} (h : F (N k_heap_Heap_up) = some (c_heap_Heap_up N)) {Q : TQ} {a0 a1 : AV} {L : Lg} (e : D_heap_Heap_up_1 F N Q (initE [a0, a1] 0) L) : CallL F (N k_heap_Heap_up) [a0, a1] L Q :=
  CallL.of_wp h (Eq.mpr (Eq.trans (e_heap_Heap_up_1 F N Q (initE [a0, a1] 0) Env.nil L) (by kernel_rfl : _ = D_heap_Heap_up_1 F N Q (initE [a0, a1] 0) L)) e)
def q_heap_Heap_down_3 (N : TN) : ACode := (.reg [⟨.t 78, none, .mv, [.l 0]⟩, ⟨.t 79, none, .mv, [.l 1]⟩, ⟨.t 80, none, .ld (some 3), [.l 4]⟩, ⟨.t 81, none, .call (N k_heap_Heap_put), [.t 78, .t 79, .t 80]⟩])
noncomputable def D_heap_Heap_down_3 (F : TF) (N : TN) (Q : TQ) (x0 : AV) (x1 : AV) (x4 : AV) (L : Lg) : Prop :=
 wpOp F (.ld (some 3)) [x4] L fun v1 L1 =>
 CallL F (N k_heap_Heap_put) [x0, x1, v1] L1 fun v2 L2 =>
 fin1 (some (.tup [])) Q L2
theorem e_heap_Heap_down_3 (F : TF) (N : TN) (Q : TQ) (l t : Env) (L : Lg) : wp F (q_heap_Heap_down_3 N) l t L (fin [] Q) nE (fin [] Q) = D_heap_Heap_down_3 F N Q (l 0) (l 1) (l 4) L := by kernel_rfl
def w_heap_Heap_down_2 (F : TF) (N : TN) (Q : TQ) : Kn := (fun (l t : Env) (L : Lg) => D_heap_Heap_down_3 F N Q (l 0) (l 1) (l 4) L)
def y_heap_Heap_down_4 (F : TF) (N : TN) (Q : TQ) : Nat → Kn := (fun (j : Nat) (l t : Env) (L : Lg) => bif Nat.beq j 0 then (w_heap_Heap_down_2 F N Q) l t L else nE j l t L)
def y_heap_Heap_down_6 (F : TF) (N : TN) (Q : TQ) (k1 : TK) : Nat → Kn := (fun (j : Nat) (l t : Env) (L : Lg) => bif Nat.beq j 1 then (fun (l _ : Env) (L : Lg) => k1 l L) l t L else (y_heap_Heap_down_4 F N Q) j l t L)
def q_heap_Heap_down_11 (N : TN) : ACode := (.seq (.seq (.reg [⟨.t 57, none, .ld (some 3), [.l 4]⟩, ⟨.t 58, none, .mv, [.l 0]⟩, ⟨.t 59, none, .nilchk, [.t 58]⟩, ⟨.t 60, none, .fad 0, [.t 59]⟩, ⟨.t 61, none, .ld none, [.t 60]⟩, ⟨.t 62, none, .mv, [.l 6]⟩, ⟨.t 63, none, .iad 3, [.t 61, .t 62]⟩, ⟨.t 64, none, .ld (some 3), [.t 63]⟩, ⟨.t 65, none, .call (N k_heap_ahead), [.t 57, .t 64]⟩, ⟨.t 66, none, .bin .lss, [.t 65, .c (.i .i64 0)]⟩]) (.cond (.t 66) (.exit 0) .skip)) (.seq (.reg [⟨.t 67, none, .mv, [.l 0]⟩, ⟨.t 68, none, .mv, [.l 1]⟩, ⟨.t 69, none, .mv, [.l 0]⟩, ⟨.t 70, none, .nilchk, [.t 69]⟩, ⟨.t 71, none, .fad 0, [.t 70]⟩, ⟨.t 72, none, .ld none, [.t 71]⟩, ⟨.t 73, none, .mv, [.l 6]⟩, ⟨.t 74, none, .iad 3, [.t 72, .t 73]⟩, ⟨.t 75, none, .ld (some 3), [.t 74]⟩, ⟨.t 76, none, .call (N k_heap_Heap_put), [.t 67, .t 68, .t 75]⟩]) (.reg [⟨.t 77, none, .mv, [.l 6]⟩, ⟨.l 1, none, .mv, [.t 77]⟩])))
noncomputable def D_heap_Heap_down_11 (F : TF) (N : TN) (Q : TQ) (k1 : TK) (l : Env) (L : Lg) : Prop :=
 wpOp F (.ld (some 3)) [(l 4)] L fun v1 L1 =>
 wpOp F .nilchk [(l 0)] L1 fun v2 L2 =>
 wpOp F (.fad 0) [v2] L2 fun v3 L3 =>
 wpOp F (.ld none) [v3] L3 fun v4 L4 =>
 wpOp F (.iad 3) [v4, (l 6)] L4 fun v5 L5 =>
 wpOp F (.ld (some 3)) [v5] L5 fun v6 L6 =>
 CallL F (N k_heap_ahead) [v1, v6] L6 fun v7 L7 =>
 wpOp F (.bin .lss) [v7, (.i .i64 0)] L7 fun v8 L8 =>
 condW v8
 (D_heap_Heap_down_3 F N Q (l 0) (l 1) (l 4) L8)
 (wpOp F .nilchk [(l 0)] L8 fun v9 L9 =>
 wpOp F (.fad 0) [v9] L9 fun v10 L10 =>
 wpOp F (.ld none) [v10] L10 fun v11 L11 =>
 wpOp F (.iad 3) [v11, (l 6)] L11 fun v12 L12 =>
 wpOp F (.ld (some 3)) [v12] L12 fun v13 L13 =>
 CallL F (N k_heap_Heap_put) [(l 0), (l 1), v13] L13 fun v14 L14 =>
 k1 (Env.put l 1 (l 6)) L14)
theorem e_heap_Heap_down_11 (F : TF) (N : TN) (Q : TQ) (k1 : TK) (l t : Env) (L : Lg) : wp F (q_heap_Heap_down_11 N) l t L (fun (l _ : Env) (L : Lg) => k1 l L) (y_heap_Heap_down_6 F N Q k1) (fin [] Q) = D_heap_Heap_down_11 F N Q k1 l L := by kernel_rfl
def w_heap_Heap_down_10 (F : TF) (N : TN) (Q : TQ) (k1 : TK) : Kn := (fun (l t : Env) (L : Lg) => D_heap_Heap_down_11 F N Q k1 l L)
def y_heap_Heap_down_13 (F : TF) (N : TN) (Q : TQ) (k1 : TK) : Nat → Kn := (fun (j : Nat) (l t : Env) (L : Lg) => bif Nat.beq j 2 then (w_heap_Heap_down_10 F N Q k1) l t L else (y_heap_Heap_down_6 F N Q k1) j l t L)
def q_heap_Heap_down_15 (N : TN) : ACode := (.seq (.seq (.reg [⟨.t 28, none, .mv, [.l 7]⟩, ⟨.t 29, none, .mv, [.l 5]⟩, ⟨.t 30, none, .bin .add, [.t 29, .c (.i .i64 4)]⟩, ⟨.t 31, none, .mv, [.l 0]⟩, ⟨.t 32, none, .nilchk, [.t 31]⟩, ⟨.t 33, none, .fad 0, [.t 32]⟩, ⟨.t 34, none, .ld none, [.t 33]⟩, ⟨.t 35, none, .lenSl, [.t 34]⟩, ⟨.t 36, none, .min, [.t 30, .t 35]⟩, ⟨.t 37, none, .bin .lss, [.t 28, .t 36]⟩]) (.cond (.t 37) .skip (.exit 2))) (.seq (.block 3 (.seq (.reg [⟨.t 40, none, .mv, [.l 0]⟩, ⟨.t 41, none, .nilchk, [.t 40]⟩, ⟨.t 42, none, .fad 0, [.t 41]⟩, ⟨.t 43, none, .ld none, [.t 42]⟩, ⟨.t 44, none, .mv, [.l 7]⟩, ⟨.t 45, none, .iad 3, [.t 43, .t 44]⟩, ⟨.t 46, none, .ld (some 3), [.t 45]⟩, ⟨.t 47, none, .mv, [.l 0]⟩, ⟨.t 48, none, .nilchk, [.t 47]⟩, ⟨.t 49, none, .fad 0, [.t 48]⟩, ⟨.t 50, none, .ld none, [.t 49]⟩, ⟨.t 51, none, .mv, [.l 6]⟩, ⟨.t 52, none, .iad 3, [.t 50, .t 51]⟩, ⟨.t 53, none, .ld (some 3), [.t 52]⟩, ⟨.t 54, none, .call (N k_heap_ahead), [.t 46, .t 53]⟩, ⟨.t 55, none, .bin .lss, [.t 54, .c (.i .i64 0)]⟩]) (.cond (.t 55) (.reg [⟨.t 56, none, .mv, [.l 7]⟩, ⟨.l 6, none, .mv, [.t 56]⟩]) .skip))) (.reg [⟨.t 38, none, .mv, [.l 7]⟩, ⟨.t 39, none, .bin .add, [.t 38, .c (.i .i64 1)]⟩, ⟨.l 7, none, .mv, [.t 39]⟩])))
noncomputable def D_heap_Heap_down_15 (F : TF) (N : TN) (Q : TQ) (k1 : TK) (k2 : TK) (l : Env) (L : Lg) : Prop :=
 wpOp F (.bin .add) [(l 5), (.i .i64 4)] L fun v1 L1 =>
 wpOp F .nilchk [(l 0)] L1 fun v2 L2 =>
 wpOp F (.fad 0) [v2] L2 fun v3 L3 =>
 wpOp F (.ld none) [v3] L3 fun v4 L4 =>
 wpOp F .lenSl [v4] L4 fun v5 L5 =>
 wpOp F .min [v1, v5] L5 fun v6 L6 =>
 wpOp F (.bin .lss) [(l 7), v6] L6 fun v7 L7 =>
 condW v7
 (wpOp F .nilchk [(l 0)] L7 fun v8 L8 =>
 wpOp F (.fad 0) [v8] L8 fun v9 L9 =>
 wpOp F (.ld none) [v9] L9 fun v10 L10 =>
 wpOp F (.iad 3) [v10, (l 7)] L10 fun v11 L11 =>
 wpOp F (.ld (some 3)) [v11] L11 fun v12 L12 =>
 wpOp F .nilchk [(l 0)] L12 fun v13 L13 =>
 wpOp F (.fad 0) [v13] L13 fun v14 L14 =>
 wpOp F (.ld none) [v14] L14 fun v15 L15 =>
 wpOp F (.iad 3) [v15, (l 6)] L15 fun v16 L16 =>
 wpOp F (.ld (some 3)) [v16] L16 fun v17 L17 =>
 CallL F (N k_heap_ahead) [v12, v17] L17 fun v18 L18 =>
 wpOp F (.bin .lss) [v18, (.i .i64 0)] L18 fun v19 L19 =>
 condW v19
 (wpOp F (.bin .add) [(l 7), (.i .i64 1)] L19 fun v20 L20 =>
 k2 (Env.put (Env.put l 6 (l 7)) 7 v20) L20)
 (wpOp F (.bin .add) [(l 7), (.i .i64 1)] L19 fun v21 L21 =>
 k2 (Env.put l 7 v21) L21))
 (D_heap_Heap_down_11 F N Q k1 l L7)
theorem e_heap_Heap_down_15 (F : TF) (N : TN) (Q : TQ) (k1 : TK) (k2 : TK) (l t : Env) (L : Lg) : wp F (q_heap_Heap_down_15 N) l t L (fun (l _ : Env) (L : Lg) => k2 l L) (y_heap_Heap_down_13 F N Q k1) (fin [] Q) = D_heap_Heap_down_15 F N Q k1 k2 l L := by kernel_rfl
def q_heap_Heap_down_14 (N : TN) : ACode := (.loop (q_heap_Heap_down_15 N))
noncomputable def D_heap_Heap_down_14 (F : TF) (N : TN) (Q : TQ) (k1 : TK) (l : Env) (L : Lg) : Prop :=
 loopW (fun l t L k2 => D_heap_Heap_down_15 F N Q k1 k2 l L) l L
theorem e_heap_Heap_down_14 (F : TF) (N : TN) (Q : TQ) (k1 : TK) (l t : Env) (L : Lg) : wp F (q_heap_Heap_down_14 N) l t L (w_heap_Heap_down_10 F N Q k1) (y_heap_Heap_down_13 F N Q k1) (fin [] Q) = D_heap_Heap_down_14 F N Q k1 l L := wpL (fun l t L k2 => e_heap_Heap_down_15 F N Q k1 k2 l t L) (by kernel_rfl)
def q_heap_Heap_down_13 (N : TN) : ACode := (.block 2 (q_heap_Heap_down_14 N))
theorem e_heap_Heap_down_13 (F : TF) (N : TN) (Q : TQ) (k1 : TK) (l t : Env) (L : Lg) : wp F (q_heap_Heap_down_13 N) l t L (w_heap_Heap_down_10 F N Q k1) (y_heap_Heap_down_6 F N Q k1) (fin [] Q) = D_heap_Heap_down_14 F N Q k1 l L := wpB (e_heap_Heap_down_14 F N Q k1 l t L)
def q_heap_Heap_down_12a (N : TN) : ACode := (.reg [⟨.t 26, none, .mv, [.l 5]⟩, ⟨.t 27, none, .bin .add, [.t 26, .c (.i .i64 1)]⟩, ⟨.l 7, none, .mv, [.t 27]⟩])
def q_heap_Heap_down_12 (N : TN) : ACode := (.seq (q_heap_Heap_down_12a N) (q_heap_Heap_down_13 N))
noncomputable def D_heap_Heap_down_12 (F : TF) (N : TN) (Q : TQ) (k1 : TK) (l : Env) (L : Lg) : Prop :=
 wpOp F (.bin .add) [(l 5), (.i .i64 1)] L fun v1 L1 =>
 D_heap_Heap_down_14 F N Q k1 (Env.put l 7 v1) L1
theorem e_heap_Heap_down_12 (F : TF) (N : TN) (Q : TQ) (k1 : TK) (l t : Env) (L : Lg) : wp F (q_heap_Heap_down_12 N) l t L (w_heap_Heap_down_10 F N Q k1) (y_heap_Heap_down_6 F N Q k1) (fin [] Q) = D_heap_Heap_down_12 F N Q k1 l L := wpS (e_heap_Heap_down_13 F N Q k1) (by kernel_rfl)
def q_heap_Heap_down_10 (N : TN) : ACode := (.seq (q_heap_Heap_down_12 N) (q_heap_Heap_down_11 N))
theorem e_heap_Heap_down_10 (F : TF) (N : TN) (Q : TQ) (k1 : TK) (l t : Env) (L : Lg) : wp F (q_heap_Heap_down_10 N) l t L (fun (l _ : Env) (L : Lg) => k1 l L) (y_heap_Heap_down_6 F N Q k1) (fin [] Q) = D_heap_Heap_down_12 F N Q k1 l L := wpS (e_heap_Heap_down_11 F N Q k1) (e_heap_Heap_down_12 F N Q k1 l t L)
def q_heap_Heap_down_9a (N : TN) : ACode := (.reg [⟨.t 25, none, .mv, [.l 5]⟩, ⟨.l 6, none, .mv, [.t 25]⟩])
def q_heap_Heap_down_9 (N : TN) : ACode := (.seq (q_heap_Heap_down_9a N) (q_heap_Heap_down_10 N))
noncomputable def D_heap_Heap_down_9 (F : TF) (N : TN) (Q : TQ) (k1 : TK) (l : Env) (L : Lg) : Prop :=
 D_heap_Heap_down_12 F N Q k1 (Env.put l 6 (l 5)) L
theorem e_heap_Heap_down_9 (F : TF) (N : TN) (Q : TQ) (k1 : TK) (l t : Env) (L : Lg) : wp F (q_heap_Heap_down_9 N) l t L (fun (l _ : Env) (L : Lg) => k1 l L) (y_heap_Heap_down_6 F N Q k1) (fin [] Q) = D_heap_Heap_down_9 F N Q k1 l L := wpS (e_heap_Heap_down_10 F N Q k1) (by kernel_rfl)
def q_heap_Heap_down_8a (N : TN) : ACode := (.seq (.reg [⟨.t 18, none, .mv, [.l 5]⟩, ⟨.t 19, none, .mv, [.l 0]⟩, ⟨.t 20, none, .nilchk, [.t 19]⟩, ⟨.t 21, none, .fad 0, [.t 20]⟩, ⟨.t 22, none, .ld none, [.t 21]⟩, ⟨.t 23, none, .lenSl, [.t 22]⟩, ⟨.t 24, none, .bin .geq, [.t 18, .t 23]⟩]) (.cond (.t 24) (.exit 0) .skip))
def q_heap_Heap_down_8 (N : TN) : ACode := (.seq (q_heap_Heap_down_8a N) (q_heap_Heap_down_9 N))
noncomputable def D_heap_Heap_down_8 (F : TF) (N : TN) (Q : TQ) (k1 : TK) (l : Env) (L : Lg) : Prop :=
 wpOp F .nilchk [(l 0)] L fun v1 L1 =>
 wpOp F (.fad 0) [v1] L1 fun v2 L2 =>
 wpOp F (.ld none) [v2] L2 fun v3 L3 =>
 wpOp F .lenSl [v3] L3 fun v4 L4 =>
 wpOp F (.bin .geq) [(l 5), v4] L4 fun v5 L5 =>
 condW v5
 (D_heap_Heap_down_3 F N Q (l 0) (l 1) (l 4) L5)
 (D_heap_Heap_down_9 F N Q k1 l L5)
theorem e_heap_Heap_down_8 (F : TF) (N : TN) (Q : TQ) (k1 : TK) (l t : Env) (L : Lg) : wp F (q_heap_Heap_down_8 N) l t L (fun (l _ : Env) (L : Lg) => k1 l L) (y_heap_Heap_down_6 F N Q k1) (fin [] Q) = D_heap_Heap_down_8 F N Q k1 l L := wpS (e_heap_Heap_down_9 F N Q k1) (by kernel_rfl)
def q_heap_Heap_down_7a (N : TN) : ACode := (.reg [⟨.t 15, none, .mv, [.l 1]⟩, ⟨.t 16, none, .bin .mul, [.c (.i .i64 4), .t 15]⟩, ⟨.t 17, none, .bin .add, [.t 16, .c (.i .i64 1)]⟩, ⟨.l 5, none, .mv, [.t 17]⟩])
def q_heap_Heap_down_7 (N : TN) : ACode := (.seq (q_heap_Heap_down_7a N) (q_heap_Heap_down_8 N))
noncomputable def D_heap_Heap_down_7 (F : TF) (N : TN) (Q : TQ) (k1 : TK) (l : Env) (L : Lg) : Prop :=
 wpOp F (.bin .mul) [(.i .i64 4), (l 1)] L fun v1 L1 =>
 wpOp F (.bin .add) [v1, (.i .i64 1)] L1 fun v2 L2 =>
 D_heap_Heap_down_8 F N Q k1 (Env.put l 5 v2) L2
theorem e_heap_Heap_down_7 (F : TF) (N : TN) (Q : TQ) (k1 : TK) (l t : Env) (L : Lg) : wp F (q_heap_Heap_down_7 N) l t L (fun (l _ : Env) (L : Lg) => k1 l L) (y_heap_Heap_down_6 F N Q k1) (fin [] Q) = D_heap_Heap_down_7 F N Q k1 l L := wpS (e_heap_Heap_down_8 F N Q k1) (by kernel_rfl)
def q_heap_Heap_down_6 (N : TN) : ACode := (.block 1 (q_heap_Heap_down_7 N))
theorem e_heap_Heap_down_6 (F : TF) (N : TN) (Q : TQ) (k1 : TK) (l t : Env) (L : Lg) : wp F (q_heap_Heap_down_6 N) l t L (fun (l _ : Env) (L : Lg) => k1 l L) (y_heap_Heap_down_4 F N Q) (fin [] Q) = D_heap_Heap_down_7 F N Q k1 l L := wpB (e_heap_Heap_down_7 F N Q k1 l t L)
def q_heap_Heap_down_5 (N : TN) : ACode := (.loop (q_heap_Heap_down_6 N))
noncomputable def D_heap_Heap_down_5 (F : TF) (N : TN) (Q : TQ) (l : Env) (L : Lg) : Prop :=
 loopW (fun l t L k1 => D_heap_Heap_down_7 F N Q k1 l L) l L
theorem e_heap_Heap_down_5 (F : TF) (N : TN) (Q : TQ) (l t : Env) (L : Lg) : wp F (q_heap_Heap_down_5 N) l t L (w_heap_Heap_down_2 F N Q) (y_heap_Heap_down_4 F N Q) (fin [] Q) = D_heap_Heap_down_5 F N Q l L := wpL (fun l t L k1 => e_heap_Heap_down_6 F N Q k1 l t L) (by kernel_rfl)
def q_heap_Heap_down_4 (N : TN) : ACode := (.block 0 (q_heap_Heap_down_5 N))
theorem e_heap_Heap_down_4 (F : TF) (N : TN) (Q : TQ) (l t : Env) (L : Lg) : wp F (q_heap_Heap_down_4 N) l t L (w_heap_Heap_down_2 F N Q) nE (fin [] Q) = D_heap_Heap_down_5 F N Q l L := wpB (e_heap_Heap_down_5 F N Q l t L)
def q_heap_Heap_down_2 (N : TN) : ACode := (.seq (q_heap_Heap_down_4 N) (q_heap_Heap_down_3 N))
theorem e_heap_Heap_down_2 (F : TF) (N : TN) (Q : TQ) (l t : Env) (L : Lg) : wp F (q_heap_Heap_down_2 N) l t L (fin [] Q) nE (fin [] Q) = D_heap_Heap_down_5 F N Q l L := wpS (e_heap_Heap_down_3 F N Q) (e_heap_Heap_down_4 F N Q l t L)
def q_heap_Heap_down_1a (N : TN) : ACode := (.reg [⟨.t 8, none, .mv, [.l 0]⟩, ⟨.t 9, none, .nilchk, [.t 8]⟩, ⟨.t 10, none, .fad 0, [.t 9]⟩, ⟨.t 11, none, .ld none, [.t 10]⟩, ⟨.t 12, none, .mv, [.l 1]⟩, ⟨.t 13, none, .iad 3, [.t 11, .t 12]⟩, ⟨.t 14, none, .ld (some 3), [.t 13]⟩, ⟨.l 4, none, .alloc [.i .i64 0, .i .i64 0, .i .i64 0], []⟩, ⟨.no, none, .st 3, [.l 4, .t 14]⟩])
def q_heap_Heap_down_1 (N : TN) : ACode := (.seq (q_heap_Heap_down_1a N) (q_heap_Heap_down_2 N))
noncomputable def D_heap_Heap_down_1 (F : TF) (N : TN) (Q : TQ) (l : Env) (L : Lg) : Prop :=
 wpOp F .nilchk [(l 0)] L fun v1 L1 =>
 wpOp F (.fad 0) [v1] L1 fun v2 L2 =>
 wpOp F (.ld none) [v2] L2 fun v3 L3 =>
 wpOp F (.iad 3) [v3, (l 1)] L3 fun v4 L4 =>
 wpOp F (.ld (some 3)) [v4] L4 fun v5 L5 =>
 wpOp F (.alloc [.i .i64 0, .i .i64 0, .i .i64 0]) [] L5 fun v6 L6 =>
 wpOp F (.st 3) [v6, v5] L6 fun _ L7 =>
 D_heap_Heap_down_5 F N Q (Env.put l 4 v6) L7
theorem e_heap_Heap_down_1 (F : TF) (N : TN) (Q : TQ) (l t : Env) (L : Lg) : wp F (q_heap_Heap_down_1 N) l t L (fin [] Q) nE (fin [] Q) = D_heap_Heap_down_1 F N Q l L := wpS (e_heap_Heap_down_2 F N Q) (by kernel_rfl)
/-- (*tarpaulin/heap.Heap).down -/
def c_heap_Heap_down (N : TN) : AFn := ⟨q_heap_Heap_down_1 N, []⟩
structure H_heap_Heap_down (N : TN) (F : TF) : Prop where
  code : F (N k_heap_Heap_down) = some (c_heap_Heap_down N)
  heap_ahead : H_heap_ahead N F
  heap_Heap_put : H_heap_Heap_put N F
theorem r_heap_Heap_down {F : TF} {N : TN} (h : F (N k_heap_Heap_down) = some (c_heap_Heap_down N)) {Q : TQ} {a0 a1 : AV} {L : Lg} (e : D_heap_Heap_down_1 F N Q (initE [a0, a1] 0) L) : CallL F (N k_heap_Heap_down) [a0, a1] L Q :=
  CallL.of_wp h (Eq.mpr (Eq.trans (e_heap_Heap_down_1 F N Q (initE [a0, a1] 0) Env.nil L) (by kernel_rfl : _ = D_heap_Heap_down_1 F N Q (initE [a0, a1] 0) L)) e)
def q_heap_Heap_Remove_7 (N : TN) : ACode := (.seq (.reg [⟨.t 48, none, .mv, [.l 0]⟩, ⟨.t 49, none, .nilchk, [.t 48]⟩, ⟨.t 50, none, .fad 1, [.t 49]⟩, ⟨.t 51, none, .ld none, [.t 50]⟩, ⟨.t 52, none, .mv, [.l 1]⟩, ⟨.no, none, .mdel, [.t 51, .t 52]⟩]) (.seq (.seq (.reg [⟨.t 53, none, .mv, [.l 8]⟩, ⟨.t 54, none, .mv, [.l 9]⟩, ⟨.t 55, none, .bin .lss, [.t 53, .t 54]⟩]) (.cond (.t 55) (.seq (.reg [⟨.t 56, none, .mv, [.l 0]⟩, ⟨.t 57, none, .mv, [.l 8]⟩, ⟨.t 58, none, .ld (some 3), [.l 10]⟩, ⟨.t 59, none, .call (N k_heap_Heap_put), [.t 56, .t 57, .t 58]⟩]) (.seq (.reg [⟨.t 60, none, .mv, [.l 0]⟩, ⟨.t 61, none, .mv, [.l 8]⟩, ⟨.t 62, none, .call (N k_heap_Heap_up), [.t 60, .t 61]⟩]) (.reg [⟨.t 63, none, .mv, [.l 0]⟩, ⟨.t 64, none, .mv, [.l 0]⟩, ⟨.t 65, none, .nilchk, [.t 64]⟩, ⟨.t 66, none, .fad 1, [.t 65]⟩, ⟨.t 67, none, .ld none, [.t 66]⟩, ⟨.t 68, none, .fad 0, [.l 10]⟩, ⟨.t 69, none, .ld none, [.t 68]⟩, ⟨.t 70, none, .lkup (.i .i64 0) false, [.t 67, .t 69]⟩, ⟨.t 71, none, .call (N k_heap_Heap_down), [.t 63, .t 70]⟩]))) .skip)) (.seq (.reg [⟨.t 72, none, .ld (some 3), [.l 6]⟩, ⟨.no, none, .st 3, [.l 4, .t 72]⟩, ⟨.l 5, none, .mv, [.c (.b true)]⟩]) .ret)))
noncomputable def D_heap_Heap_Remove_7 (F : TF) (N : TN) (Q : TQ) (x0 : AV) (x1 : AV) (x4 : AV) (x6 : AV) (x8 : AV) (x9 : AV) (x10 : AV) (L : Lg) : Prop :=
 wpOp F .nilchk [x0] L fun v1 L1 =>
 wpOp F (.fad 1) [v1] L1 fun v2 L2 =>
 wpOp F (.ld none) [v2] L2 fun v3 L3 =>
 wpOp F .mdel [v3, x1] L3 fun _ L4 =>
 wpOp F (.bin .lss) [x8, x9] L4 fun v5 L5 =>
 condW v5
 (wpOp F (.ld (some 3)) [x10] L5 fun v6 L6 =>
 CallL F (N k_heap_Heap_put) [x0, x8, v6] L6 fun v7 L7 =>
 CallL F (N k_heap_Heap_up) [x0, x8] L7 fun v8 L8 =>
 wpOp F .nilchk [x0] L8 fun v9 L9 =>
 wpOp F (.fad 1) [v9] L9 fun v10 L10 =>
 wpOp F (.ld none) [v10] L10 fun v11 L11 =>
 wpOp F (.fad 0) [x10] L11 fun v12 L12 =>
 wpOp F (.ld none) [v12] L12 fun v13 L13 =>
 wpOp F (.lkup (.i .i64 0) false) [v11, v13] L13 fun v14 L14 =>
 CallL F (N k_heap_Heap_down) [x0, v14] L14 fun v15 L15 =>
 wpOp F (.ld (some 3)) [x6] L15 fun v16 L16 =>
 wpOp F (.st 3) [x4, v16] L16 fun _ L17 =>
 fin1 (resVL Env.nil Env.nil L17 [.cell (.c x4) (some 3), .tmp (.c (.b true))]) Q L17)
 (wpOp F (.ld (some 3)) [x6] L5 fun v18 L18 =>
 wpOp F (.st 3) [x4, v18] L18 fun _ L19 =>
 fin1 (resVL Env.nil Env.nil L19 [.cell (.c x4) (some 3), .tmp (.c (.b true))]) Q L19)
theorem e_heap_Heap_Remove_7 (F : TF) (N : TN) (Q : TQ) (l t : Env) (L : Lg) : wp F (q_heap_Heap_Remove_7 N) l t L (fin [.cell (.l 4) (some 3), .tmp (.l 5)] Q) nE (fin [.cell (.l 4) (some 3), .tmp (.l 5)] Q) = D_heap_Heap_Remove_7 F N Q (l 0) (l 1) (l 4) (l 6) (l 8) (l 9) (l 10) L := by kernel_rfl
def q_heap_Heap_Remove_6a (N : TN) : ACode := (.reg [⟨.t 39, none, .mv, [.l 0]⟩, ⟨.t 40, none, .mv, [.l 0]⟩, ⟨.t 41, none, .nilchk, [.t 40]⟩, ⟨.t 42, none, .fad 0, [.t 41]⟩, ⟨.t 43, none, .ld none, [.t 42]⟩, ⟨.t 44, none, .mv, [.l 9]⟩, ⟨.t 45, none, .slc 3 false true false, [.t 43, .t 44]⟩, ⟨.t 46, none, .nilchk, [.t 39]⟩, ⟨.t 47, none, .fad 0, [.t 46]⟩, ⟨.no, none, .st 1, [.t 47, .t 45]⟩])
def q_heap_Heap_Remove_6 (N : TN) : ACode := (.seq (q_heap_Heap_Remove_6a N) (q_heap_Heap_Remove_7 N))
noncomputable def D_heap_Heap_Remove_6 (F : TF) (N : TN) (Q : TQ) (x0 : AV) (x1 : AV) (x4 : AV) (x6 : AV) (x8 : AV) (x9 : AV) (x10 : AV) (L : Lg) : Prop :=
 wpOp F .nilchk [x0] L fun v1 L1 =>
 wpOp F (.fad 0) [v1] L1 fun v2 L2 =>
 wpOp F (.ld none) [v2] L2 fun v3 L3 =>
 wpOp F (.slc 3 false true false) [v3, x9] L3 fun v4 L4 =>
 wpOp F .nilchk [x0] L4 fun v5 L5 =>
 wpOp F (.fad 0) [v5] L5 fun v6 L6 =>
 wpOp F (.st 1) [v6, v4] L6 fun _ L7 =>
 D_heap_Heap_Remove_7 F N Q x0 x1 x4 x6 x8 x9 x10 L7
theorem e_heap_Heap_Remove_6 (F : TF) (N : TN) (Q : TQ) (l t : Env) (L : Lg) : wp F (q_heap_Heap_Remove_6 N) l t L (fin [.cell (.l 4) (some 3), .tmp (.l 5)] Q) nE (fin [.cell (.l 4) (some 3), .tmp (.l 5)] Q) = D_heap_Heap_Remove_6 F N Q (l 0) (l 1) (l 4) (l 6) (l 8) (l 9) (l 10) L := wpS (e_heap_Heap_Remove_7 F N Q) (by kernel_rfl)
def q_heap_Heap_Remove_5a (N : TN) : ACode := (.reg [⟨.t 32, none, .mv, [.l 0]⟩, ⟨.t 33, none, .nilchk, [.t 32]⟩, ⟨.t 34, none, .fad 0, [.t 33]⟩, ⟨.t 35, none, .ld none, [.t 34]⟩, ⟨.t 36, none, .mv, [.l 9]⟩, ⟨.t 37, none, .iad 3, [.t 35, .t 36]⟩, ⟨.t 38, none, .ld (some 3), [.t 37]⟩, ⟨.l 10, none, .alloc [.i .i64 0, .i .i64 0, .i .i64 0], []⟩, ⟨.no, none, .st 3, [.l 10, .t 38]⟩])
def q_heap_Heap_Remove_5 (N : TN) : ACode := (.seq (q_heap_Heap_Remove_5a N) (q_heap_Heap_Remove_6 N))
noncomputable def D_heap_Heap_Remove_5 (F : TF) (N : TN) (Q : TQ) (x0 : AV) (x1 : AV) (x4 : AV) (x6 : AV) (x8 : AV) (x9 : AV) (L : Lg) : Prop :=
 wpOp F .nilchk [x0] L fun v1 L1 =>
 wpOp F (.fad 0) [v1] L1 fun v2 L2 =>
 wpOp F (.ld none) [v2] L2 fun v3 L3 =>
 wpOp F (.iad 3) [v3, x9] L3 fun v4 L4 =>
 wpOp F (.ld (some 3)) [v4] L4 fun v5 L5 =>
 wpOp F (.alloc [.i .i64 0, .i .i64 0, .i .i64 0]) [] L5 fun v6 L6 =>
 wpOp F (.st 3) [v6, v5] L6 fun _ L7 =>
 D_heap_Heap_Remove_6 F N Q x0 x1 x4 x6 x8 x9 v6 L7
theorem e_heap_Heap_Remove_5 (F : TF) (N : TN) (Q : TQ) (l t : Env) (L : Lg) : wp F (q_heap_Heap_Remove_5 N) l t L (fin [.cell (.l 4) (some 3), .tmp (.l 5)] Q) nE (fin [.cell (.l 4) (some 3), .tmp (.l 5)] Q) = D_heap_Heap_Remove_5 F N Q (l 0) (l 1) (l 4) (l 6) (l 8) (l 9) L := wpS (e_heap_Heap_Remove_6 F N Q) (by kernel_rfl)
def q_heap_Heap_Remove_4a (N : TN) : ACode := (.reg [⟨.t 20, none, .mv, [.l 0]⟩, ⟨.t 21, none, .nilchk, [.t 20]⟩, ⟨.t 22, none, .fad 1, [.t 21]⟩, ⟨.t 23, none, .ld none, [.t 22]⟩, ⟨.t 24, none, .mv, [.l 1]⟩, ⟨.t 25, none, .lkup (.i .i64 0) false, [.t 23, .t 24]⟩, ⟨.t 26, none, .mv, [.l 0]⟩, ⟨.t 27, none, .nilchk, [.t 26]⟩, ⟨.t 28, none, .fad 0, [.t 27]⟩, ⟨.t 29, none, .ld none, [.t 28]⟩, ⟨.t 30, none, .lenSl, [.t 29]⟩, ⟨.t 31, none, .bin .sub, [.t 30, .c (.i .i64 1)]⟩, ⟨.l 8, none, .mv, [.t 25]⟩, ⟨.l 9, none, .mv, [.t 31]⟩])
def q_heap_Heap_Remove_4 (N : TN) : ACode := (.seq (q_heap_Heap_Remove_4a N) (q_heap_Heap_Remove_5 N))
noncomputable def D_heap_Heap_Remove_4 (F : TF) (N : TN) (Q : TQ) (x0 : AV) (x1 : AV) (x4 : AV) (x6 : AV) (L : Lg) : Prop :=
 wpOp F .nilchk [x0] L fun v1 L1 =>
 wpOp F (.fad 1) [v1] L1 fun v2 L2 =>
 wpOp F (.ld none) [v2] L2 fun v3 L3 =>
 wpOp F (.lkup (.i .i64 0) false) [v3, x1] L3 fun v4 L4 =>
 wpOp F .nilchk [x0] L4 fun v5 L5 =>
 wpOp F (.fad 0) [v5] L5 fun v6 L6 =>
 wpOp F (.ld none) [v6] L6 fun v7 L7 =>
 wpOp F .lenSl [v7] L7 fun v8 L8 =>
 wpOp F (.bin .sub) [v8, (.i .i64 1)] L8 fun v9 L9 =>
 D_heap_Heap_Remove_5 F N Q x0 x1 x4 x6 v4 v9 L9
theorem e_heap_Heap_Remove_4 (F : TF) (N : TN) (Q : TQ) (l t : Env) (L : Lg) : wp F (q_heap_Heap_Remove_4 N) l t L (fin [.cell (.l 4) (some 3), .tmp (.l 5)] Q) nE (fin [.cell (.l 4) (some 3), .tmp (.l 5)] Q) = D_heap_Heap_Remove_4 F N Q (l 0) (l 1) (l 4) (l 6) L := wpS (e_heap_Heap_Remove_5 F N Q) (by kernel_rfl)
def q_heap_Heap_Remove_3a (N : TN) : ACode := (.seq (.reg [⟨.t 17, none, .mv, [.l 7]⟩, ⟨.t 18, none, .un .not, [.t 17]⟩]) (.cond (.t 18) (.seq (.reg [⟨.t 19, none, .build [.i .i64 0, .i .i64 0, .i .i64 0] [], []⟩, ⟨.no, none, .st 3, [.l 4, .t 19]⟩, ⟨.l 5, none, .mv, [.c (.b false)]⟩]) .ret) .skip))
def q_heap_Heap_Remove_3 (N : TN) : ACode := (.seq (q_heap_Heap_Remove_3a N) (q_heap_Heap_Remove_4 N))
noncomputable def D_heap_Heap_Remove_3 (F : TF) (N : TN) (Q : TQ) (x0 : AV) (x1 : AV) (x4 : AV) (x6 : AV) (x7 : AV) (L : Lg) : Prop :=
 wpOp F (.un .not) [x7] L fun v1 L1 =>
 condW v1
 (wpOp F (.build [.i .i64 0, .i .i64 0, .i .i64 0] []) [] L1 fun v2 L2 =>
 wpOp F (.st 3) [x4, v2] L2 fun _ L3 =>
 fin1 (resVL Env.nil Env.nil L3 [.cell (.c x4) (some 3), .tmp (.c (.b false))]) Q L3)
 (D_heap_Heap_Remove_4 F N Q x0 x1 x4 x6 L1)
theorem e_heap_Heap_Remove_3 (F : TF) (N : TN) (Q : TQ) (l t : Env) (L : Lg) : wp F (q_heap_Heap_Remove_3 N) l t L (fin [.cell (.l 4) (some 3), .tmp (.l 5)] Q) nE (fin [.cell (.l 4) (some 3), .tmp (.l 5)] Q) = D_heap_Heap_Remove_3 F N Q (l 0) (l 1) (l 4) (l 6) (l 7) L := wpS (e_heap_Heap_Remove_4 F N Q) (by kernel_rfl)
def q_heap_Heap_Remove_2a (N : TN) : ACode := (.reg [⟨.t 12, none, .mv, [.l 0]⟩, ⟨.t 13, none, .mv, [.l 1]⟩, ⟨.t 14, none, .call (N k_heap_Heap_Find), [.t 12, .t 13]⟩, ⟨.t 11, none, .mv, [.t 14]⟩, ⟨.t 15, none, .ext 0, [.t 11]⟩, ⟨.t 16, none, .ext 1, [.t 11]⟩, ⟨.l 6, none, .alloc [.i .i64 0, .i .i64 0, .i .i64 0], []⟩, ⟨.no, none, .st 3, [.l 6, .t 15]⟩, ⟨.l 7, none, .mv, [.t 16]⟩])
def q_heap_Heap_Remove_2 (N : TN) : ACode := (.seq (q_heap_Heap_Remove_2a N) (q_heap_Heap_Remove_3 N))
noncomputable def D_heap_Heap_Remove_2 (F : TF) (N : TN) (Q : TQ) (x0 : AV) (x1 : AV) (x4 : AV) (L : Lg) : Prop :=
 CallL F (N k_heap_Heap_Find) [x0, x1] L fun v1 L1 =>
 wpOp F (.ext 0) [v1] L1 fun v2 L2 =>
 wpOp F (.ext 1) [v1] L2 fun v3 L3 =>
 wpOp F (.alloc [.i .i64 0, .i .i64 0, .i .i64 0]) [] L3 fun v4 L4 =>
 wpOp F (.st 3) [v4, v2] L4 fun _ L5 =>
 D_heap_Heap_Remove_3 F N Q x0 x1 x4 v4 v3 L5
theorem e_heap_Heap_Remove_2 (F : TF) (N : TN) (Q : TQ) (l t : Env) (L : Lg) : wp F (q_heap_Heap_Remove_2 N) l t L (fin [.cell (.l 4) (some 3), .tmp (.l 5)] Q) nE (fin [.cell (.l 4) (some 3), .tmp (.l 5)] Q) = D_heap_Heap_Remove_2 F N Q (l 0) (l 1) (l 4) L := wpS (e_heap_Heap_Remove_3 F N Q) (by kernel_rfl)
def q_heap_Heap_Remove_1a (N : TN) : ACode := (.reg [⟨.l 4, none, .alloc [.i .i64 0, .i .i64 0, .i .i64 0], []⟩, ⟨.l 5, none, .mv, [.c (.b false)]⟩])
def q_heap_Heap_Remove_1 (N : TN) : ACode := (.seq (q_heap_Heap_Remove_1a N) (q_heap_Heap_Remove_2 N))
noncomputable def D_heap_Heap_Remove_1 (F : TF) (N : TN) (Q : TQ) (x0 : AV) (x1 : AV) (L : Lg) : Prop :=
 wpOp F (.alloc [.i .i64 0, .i .i64 0, .i .i64 0]) [] L fun v1 L1 =>
 D_heap_Heap_Remove_2 F N Q x0 x1 v1 L1
theorem e_heap_Heap_Remove_1 (F : TF) (N : TN) (Q : TQ) (l t : Env) (L : Lg) : wp F (q_heap_Heap_Remove_1 N) l t L (fin [.cell (.l 4) (some 3), .tmp (.l 5)] Q) nE (fin [.cell (.l 4) (some 3), .tmp (.l 5)] Q) = D_heap_Heap_Remove_1 F N Q (l 0) (l 1) L := wpS (e_heap_Heap_Remove_2 F N Q) (by kernel_rfl)
/-- (*tarpaulin/heap.Heap).Remove -/
def c_heap_Heap_Remove (N : TN) : AFn := ⟨q_heap_Heap_Remove_1 N, [.cell (.l 4) (some 3), .tmp (.l 5)]⟩
structure H_heap_Heap_Remove (N : TN) (F : TF) : Prop where
  code : F (N k_heap_Heap_Remove) = some (c_heap_Heap_Remove N)
  heap_Heap_Find : H_heap_Heap_Find N F
  heap_Heap_put : H_heap_Heap_put N F
  heap_Heap_up : H_heap_Heap_up N F
  heap_Heap_down : H_heap_Heap_down N F
theorem r_heap_Heap_Remove {F : TF} {N : TN} (h : F (N k_heap_Heap_Remove) = some (c_heap_Heap_Remove N)) {Q : TQ} {a0 a1 : AV} {L : Lg} (e : D_heap_Heap_Remove_1 F N Q a0 a1 L) : CallL F (N k_heap_Heap_Remove) [a0, a1] L Q :=
  CallL.of_wp h (Eq.mpr (Eq.trans (e_heap_Heap_Remove_1 F N Q (initE [a0, a1] 0) Env.nil L) (by kernel_rfl : _ = D_heap_Heap_Remove_1 F N Q a0 a1 L)) e)
def q_expire_Timers_Stop_1 (N : TN) : ACode := (.seq (.reg [⟨.l 4, none, .mv, [.c (.b false)]⟩]) (.seq (.seq (.reg [⟨.t 7, none, .mv, [.l 0]⟩, ⟨.t 8, none, .eq false .ptr, [.t 7, .c (.p none)]⟩]) (.cond (.t 8) (.seq (.reg [⟨.l 4, none, .mv, [.c (.b false)]⟩]) .ret) .skip)) (.seq (.reg [⟨.t 10, none, .mv, [.l 0]⟩, ⟨.t 11, none, .nilchk, [.t 10]⟩, ⟨.t 12, none, .fad 0, [.t 11]⟩, ⟨.t 13, none, .ld none, [.t 12]⟩, ⟨.t 14, none, .mv, [.l 1]⟩, ⟨.t 15, none, .call (N k_heap_Heap_Remove), [.t 13, .t 14]⟩, ⟨.t 9, none, .mv, [.t 15]⟩, ⟨.t 16, none, .ext 0, [.t 9]⟩, ⟨.t 17, none, .ext 1, [.t 9]⟩, ⟨.t 5, none, .alloc [.i .i64 0, .i .i64 0, .i .i64 0], []⟩, ⟨.no, none, .st 3, [.t 5, .t 16]⟩, ⟨.l 6, none, .mv, [.t 17]⟩]) (.seq (.reg [⟨.t 18, none, .mv, [.l 0]⟩, ⟨.t 19, none, .nilchk, [.t 18]⟩, ⟨.t 20, none, .fad 1, [.t 19]⟩, ⟨.t 21, none, .ld none, [.t 20]⟩, ⟨.t 22, none, .mv, [.l 1]⟩, ⟨.no, none, .mdel, [.t 21, .t 22]⟩]) (.seq (.reg [⟨.t 23, none, .mv, [.l 6]⟩, ⟨.l 4, none, .mv, [.t 23]⟩]) .ret)))))
noncomputable def D_expire_Timers_Stop_1 (F : TF) (N : TN) (Q : TQ) (x0 : AV) (x1 : AV) (L : Lg) : Prop :=
 wpOp F (.eq false .ptr) [x0, (.p none)] L fun v1 L1 =>
 condW v1
 (fin1 (some (.b false)) Q L1)
 (wpOp F .nilchk [x0] L1 fun v2 L2 =>
 wpOp F (.fad 0) [v2] L2 fun v3 L3 =>
 wpOp F (.ld none) [v3] L3 fun v4 L4 =>
 CallL F (N k_heap_Heap_Remove) [v4, x1] L4 fun v5 L5 =>
 wpOp F (.ext 0) [v5] L5 fun v6 L6 =>
 wpOp F (.ext 1) [v5] L6 fun v7 L7 =>
 wpOp F (.alloc [.i .i64 0, .i .i64 0, .i .i64 0]) [] L7 fun v8 L8 =>
 wpOp F (.st 3) [v8, v6] L8 fun _ L9 =>
 wpOp F .nilchk [x0] L9 fun v10 L10 =>
 wpOp F (.fad 1) [v10] L10 fun v11 L11 =>
 wpOp F (.ld none) [v11] L11 fun v12 L12 =>
 wpOp F .mdel [v12, x1] L12 fun _ L13 =>
 fin1 (some v7) Q L13)
theorem e_expire_Timers_Stop_1 (F : TF) (N : TN) (Q : TQ) (l t : Env) (L : Lg) : wp F (q_expire_Timers_Stop_1 N) l t L (fin [.tmp (.l 4)] Q) nE (fin [.tmp (.l 4)] Q) = D_expire_Timers_Stop_1 F N Q (l 0) (l 1) L := by kernel_rfl
/-- (*tarpaulin/expire.Timers).Stop -/
def c_expire_Timers_Stop (N : TN) : AFn := ⟨q_expire_Timers_Stop_1 N, [.tmp (.l 4)]⟩
structure H_expire_Timers_Stop (N : TN) (F : TF) : Prop where
  code : F (N k_expire_Timers_Stop) = some (c_expire_Timers_Stop N)
  heap_Heap_Remove : H_heap_Heap_Remove N F
theorem r_expire_Timers_Stop {F : TF} {N : TN} (h : F (N k_expire_Timers_Stop) = some (c_expire_Timers_Stop N)) {Q : TQ} {a0 a1 : AV} {L : Lg} (e : D_expire_Timers_Stop_1 F N Q a0 a1 L) : CallL F (N k_expire_Timers_Stop) [a0, a1] L Q :=
  CallL.of_wp h (Eq.mpr (Eq.trans (e_expire_Timers_Stop_1 F N Q (initE [a0, a1] 0) Env.nil L) (by kernel_rfl : _ = D_expire_Timers_Stop_1 F N Q a0 a1 L)) e)
def q_timer_Set_has_1 (N : TN) : ACode := (.seq (.reg [⟨.l 4, none, .mv, [.c (.b false)]⟩]) (.seq (.reg [⟨.t 5, none, .mv, [.l 0]⟩, ⟨.t 6, none, .eq true .ptr, [.t 5, .c (.p none)]⟩, ⟨.t 7, none, .mv, [.t 6]⟩, ⟨.t 8, some (.t 7, true), .mv, [.l 1]⟩, ⟨.t 9, some (.t 7, true), .bin .geq, [.t 8, .c (.i .i64 0)]⟩, ⟨.t 10, none, .pick, [.t 7, .t 9, .c (.b false)]⟩, ⟨.t 11, none, .mv, [.t 10]⟩, ⟨.t 12, some (.t 11, true), .mv, [.l 1]⟩, ⟨.t 13, some (.t 11, true), .mv, [.l 0]⟩, ⟨.t 14, some (.t 11, true), .nilchk, [.t 13]⟩, ⟨.t 15, some (.t 11, true), .fad 0, [.t 14]⟩, ⟨.t 16, some (.t 11, true), .ld none, [.t 15]⟩, ⟨.t 17, some (.t 11, true), .lenSl, [.t 16]⟩, ⟨.t 18, some (.t 11, true), .bin .lss, [.t 12, .t 17]⟩, ⟨.t 19, none, .pick, [.t 11, .t 18, .c (.b false)]⟩, ⟨.l 4, none, .mv, [.t 19]⟩]) .ret))
noncomputable def D_timer_Set_has_1 (F : TF) (N : TN) (Q : TQ) (x0 : AV) (x1 : AV) (L : Lg) : Prop :=
 wpOp F (.eq true .ptr) [x0, (.p none)] L fun v1 L1 =>
 gdOp F v1 true .mv [x1] L1 fun v2 L2 =>
 gdOp F v1 true (.bin .geq) [v2, (.i .i64 0)] L2 fun v3 L3 =>
 wpOp F .pick [v1, v3, (.b false)] L3 fun v4 L4 =>
 gdOp F v4 true .mv [x1] L4 fun v5 L5 =>
 gdOp F v4 true .mv [x0] L5 fun v6 L6 =>
 gdOp F v4 true .nilchk [v6] L6 fun v7 L7 =>
 gdOp F v4 true (.fad 0) [v7] L7 fun v8 L8 =>
 gdOp F v4 true (.ld none) [v8] L8 fun v9 L9 =>
 gdOp F v4 true .lenSl [v9] L9 fun v10 L10 =>
 gdOp F v4 true (.bin .lss) [v5, v10] L10 fun v11 L11 =>
 wpOp F .pick [v4, v11, (.b false)] L11 fun v12 L12 =>
 fin1 (some v12) Q L12
theorem e_timer_Set_has_1 (F : TF) (N : TN) (Q : TQ) (l t : Env) (L : Lg) : wp F (q_timer_Set_has_1 N) l t L (fin [.tmp (.l 4)] Q) nE (fin [.tmp (.l 4)] Q) = D_timer_Set_has_1 F N Q (l 0) (l 1) L := by kernel_rfl
/-- (*tarpaulin/timer.Set).has -/
def c_timer_Set_has (N : TN) : AFn := ⟨q_timer_Set_has_1 N, [.tmp (.l 4)]⟩
structure H_timer_Set_has (N : TN) (F : TF) : Prop where
  code : F (N k_timer_Set_has) = some (c_timer_Set_has N)
theorem r_timer_Set_has {F : TF} {N : TN} (h : F (N k_timer_Set_has) = some (c_timer_Set_has N)) {Q : TQ} {a0 a1 : AV} {L : Lg} (e : D_timer_Set_has_1 F N Q a0 a1 L) : CallL F (N k_timer_Set_has) [a0, a1] L Q :=
  CallL.of_wp h (Eq.mpr (Eq.trans (e_timer_Set_has_1 F N Q (initE [a0, a1] 0) Env.nil L) (by kernel_rfl : _ = D_timer_Set_has_1 F N Q a0 a1 L)) e)
def q_chanq_Chan_Drop_1 (N : TN) : ACode := (.seq (.reg [⟨.l 2, none, .mv, [.c (.b false)]⟩]) (.seq (.reg [⟨.t 3, none, .mv, [.l 0]⟩, ⟨.t 4, none, .eq true .ptr, [.t 3, .c (.p none)]⟩, ⟨.t 5, none, .mv, [.t 4]⟩, ⟨.t 6, some (.t 5, true), .mv, [.l 0]⟩, ⟨.t 7, some (.t 5, true), .nilchk, [.t 6]⟩, ⟨.t 8, some (.t 5, true), .fad 3, [.t 7]⟩, ⟨.t 9, some (.t 5, true), .ld none, [.t 8]⟩, ⟨.t 10, none, .pick, [.t 5, .t 9, .c (.b false)]⟩, ⟨.t 11, none, .mv, [.t 10]⟩, ⟨.t 12, some (.t 11, true), .mv, [.l 0]⟩, ⟨.t 13, some (.t 11, true), .nilchk, [.t 12]⟩, ⟨.t 14, some (.t 11, true), .fad 0, [.t 13]⟩, ⟨.t 15, some (.t 11, true), .ld none, [.t 14]⟩, ⟨.t 16, some (.t 11, true), .call (N k_ring_Ring_Clear), [.t 15]⟩, ⟨.t 17, some (.t 11, true), .bin .gtr, [.t 16, .c (.i .i64 0)]⟩, ⟨.t 18, none, .pick, [.t 11, .t 17, .c (.b false)]⟩, ⟨.l 2, none, .mv, [.t 18]⟩]) .ret))
noncomputable def D_chanq_Chan_Drop_1 (F : TF) (N : TN) (Q : TQ) (x0 : AV) (L : Lg) : Prop :=
 wpOp F (.eq true .ptr) [x0, (.p none)] L fun v1 L1 =>
 gdOp F v1 true .mv [x0] L1 fun v2 L2 =>
 gdOp F v1 true .nilchk [v2] L2 fun v3 L3 =>
 gdOp F v1 true (.fad 3) [v3] L3 fun v4 L4 =>
 gdOp F v1 true (.ld none) [v4] L4 fun v5 L5 =>
 wpOp F .pick [v1, v5, (.b false)] L5 fun v6 L6 =>
 gdOp F v6 true .mv [x0] L6 fun v7 L7 =>
 gdOp F v6 true .nilchk [v7] L7 fun v8 L8 =>
 gdOp F v6 true (.fad 0) [v8] L8 fun v9 L9 =>
 gdOp F v6 true (.ld none) [v9] L9 fun v10 L10 =>
 gdOp F v6 true (.call (N k_ring_Ring_Clear)) [v10] L10 fun v11 L11 =>
 gdOp F v6 true (.bin .gtr) [v11, (.i .i64 0)] L11 fun v12 L12 =>
 wpOp F .pick [v6, v12, (.b false)] L12 fun v13 L13 =>
 fin1 (some v13) Q L13
theorem e_chanq_Chan_Drop_1 (F : TF) (N : TN) (Q : TQ) (l t : Env) (L : Lg) : wp F (q_chanq_Chan_Drop_1 N) l t L (fin [.tmp (.l 2)] Q) nE (fin [.tmp (.l 2)] Q) = D_chanq_Chan_Drop_1 F N Q (l 0) L := by kernel_rfl
/-- (*tarpaulin/chanq.Chan).Drop -/
def c_chanq_Chan_Drop (N : TN) : AFn := ⟨q_chanq_Chan_Drop_1 N, [.tmp (.l 2)]⟩
structure H_chanq_Chan_Drop (N : TN) (F : TF) : Prop where
  code : F (N k_chanq_Chan_Drop) = some (c_chanq_Chan_Drop N)
  ring_Ring_Clear : H_ring_Ring_Clear N F
theorem r_chanq_Chan_Drop {F : TF} {N : TN} (h : F (N k_chanq_Chan_Drop) = some (c_chanq_Chan_Drop N)) {Q : TQ} {a0 : AV} {L : Lg} (e : D_chanq_Chan_Drop_1 F N Q a0 L) : CallL F (N k_chanq_Chan_Drop) [a0] L Q :=
  CallL.of_wp h (Eq.mpr (Eq.trans (e_chanq_Chan_Drop_1 F N Q (initE [a0] 0) Env.nil L) (by kernel_rfl : _ = D_chanq_Chan_Drop_1 F N Q a0 L)) e)
def q_timer_Set_Stop_1 (N : TN) : ACode := (.seq (.reg [⟨.l 4, none, .mv, [.c (.b false)]⟩, ⟨.l 5, none, .mv, [.c (.i .i64 0)]⟩]) (.seq (.seq (.reg [⟨.t 7, none, .mv, [.l 0]⟩, ⟨.t 8, none, .mv, [.l 1]⟩, ⟨.t 9, none, .call (N k_timer_Set_has), [.t 7, .t 8]⟩, ⟨.t 10, none, .un .not, [.t 9]⟩]) (.cond (.t 10) (.seq (.reg [⟨.l 4, none, .mv, [.c (.b false)]⟩, ⟨.l 5, none, .mv, [.c (.i .i64 4)]⟩]) .ret) .skip)) (.seq (.reg [⟨.t 11, none, .mv, [.l 0]⟩, ⟨.t 12, none, .nilchk, [.t 11]⟩, ⟨.t 13, none, .fad 1, [.t 12]⟩, ⟨.t 14, none, .ld none, [.t 13]⟩, ⟨.t 15, none, .mv, [.l 1]⟩, ⟨.t 16, none, .call (N k_expire_Timers_Stop), [.t 14, .t 15]⟩, ⟨.l 6, none, .mv, [.t 16]⟩]) (.seq (.reg [⟨.t 17, none, .mv, [.l 0]⟩, ⟨.t 18, none, .nilchk, [.t 17]⟩, ⟨.t 19, none, .fad 0, [.t 18]⟩, ⟨.t 20, none, .ld none, [.t 19]⟩, ⟨.t 21, none, .mv, [.l 1]⟩, ⟨.t 22, none, .iad 4, [.t 20, .t 21]⟩, ⟨.t 23, none, .fad 2, [.t 22]⟩, ⟨.t 24, none, .ld none, [.t 23]⟩, ⟨.t 25, none, .call (N k_chanq_Chan_Drop), [.t 24]⟩, ⟨.t 26, none, .mv, [.t 25]⟩, ⟨.t 27, some (.t 26, false), .mv, [.l 6]⟩, ⟨.t 28, none, .pick, [.t 26, .c (.b true), .t 27]⟩, ⟨.l 4, none, .mv, [.t 28]⟩, ⟨.l 5, none, .mv, [.c (.i .i64 0)]⟩]) .ret))))
noncomputable def D_timer_Set_Stop_1 (F : TF) (N : TN) (Q : TQ) (x0 : AV) (x1 : AV) (L : Lg) : Prop :=
 CallL F (N k_timer_Set_has) [x0, x1] L fun v1 L1 =>
 wpOp F (.un .not) [v1] L1 fun v2 L2 =>
 condW v2
 (fin1 (some (.tup [(.b false), (.i .i64 4)])) Q L2)
 (wpOp F .nilchk [x0] L2 fun v3 L3 =>
 wpOp F (.fad 1) [v3] L3 fun v4 L4 =>
 wpOp F (.ld none) [v4] L4 fun v5 L5 =>
 CallL F (N k_expire_Timers_Stop) [v5, x1] L5 fun v6 L6 =>
 wpOp F .nilchk [x0] L6 fun v7 L7 =>
 wpOp F (.fad 0) [v7] L7 fun v8 L8 =>
 wpOp F (.ld none) [v8] L8 fun v9 L9 =>
 wpOp F (.iad 4) [v9, x1] L9 fun v10 L10 =>
 wpOp F (.fad 2) [v10] L10 fun v11 L11 =>
 wpOp F (.ld none) [v11] L11 fun v12 L12 =>
 CallL F (N k_chanq_Chan_Drop) [v12] L12 fun v13 L13 =>
 gdOp F v13 false .mv [v6] L13 fun v14 L14 =>
 wpOp F .pick [v13, (.b true), v14] L14 fun v15 L15 =>
 fin1 (some (.tup [v15, (.i .i64 0)])) Q L15)
theorem e_timer_Set_Stop_1 (F : TF) (N : TN) (Q : TQ) (l t : Env) (L : Lg) : wp F (q_timer_Set_Stop_1 N) l t L (fin [.tmp (.l 4), .tmp (.l 5)] Q) nE (fin [.tmp (.l 4), .tmp (.l 5)] Q) = D_timer_Set_Stop_1 F N Q (l 0) (l 1) L := by kernel_rfl
/-- (*tarpaulin/timer.Set).Stop -/
def c_timer_Set_Stop (N : TN) : AFn := ⟨q_timer_Set_Stop_1 N, [.tmp (.l 4), .tmp (.l 5)]⟩
structure H_timer_Set_Stop (N : TN) (F : TF) : Prop where
  code : F (N k_timer_Set_Stop) = some (c_timer_Set_Stop N)
  timer_Set_has : H_timer_Set_has N F
  expire_Timers_Stop : H_expire_Timers_Stop N F
  chanq_Chan_Drop : H_chanq_Chan_Drop N F
theorem r_timer_Set_Stop {F : TF} {N : TN} (h : F (N k_timer_Set_Stop) = some (c_timer_Set_Stop N)) {Q : TQ} {a0 a1 : AV} {L : Lg} (e : D_timer_Set_Stop_1 F N Q a0 a1 L) : CallL F (N k_timer_Set_Stop) [a0, a1] L Q :=
  CallL.of_wp h (Eq.mpr (Eq.trans (e_timer_Set_Stop_1 F N Q (initE [a0, a1] 0) Env.nil L) (by kernel_rfl : _ = D_timer_Set_Stop_1 F N Q a0 a1 L)) e)
end Go.AM

/- chanq: what its functions do. -/
set_option linter.unusedVariables false
set_option linter.unusedSimpArgs false
namespace Go.AM
variable {N : Nat → Nat} {F : Nat → Option AFn}

/-- a channel -/
structure Ch where
  vals : List Int
  cap : Nat
  recvs : List Wt
  sends : List Wt
  timed : Bool
  signal : Bool
  closed : Bool
/-- one who waits no more -/
structure Wk where
  t : Int
  c : Int
  v : Int
  ok : Bool
  panic : Bool
  deriving DecidableEq
def Wk.cells (w : Wk) : List AV := [.i .i64 w.t, .i .i64 w.c, .i .i64 w.v, .b w.ok, .b w.panic]
def wkcells : List Wk → List AV
  | [] => []
  | w :: r => w.cells ++ wkcells r
def croot (rg q1 q2 : Nat) (x : Ch) : LC := .raw (.cells [.p (some (rg, 0)), .p (some (q1, 0)), .p (some (q2, 0)), .b x.timed, .b x.signal, .b x.closed])
/-- a channel, opened -/
structure COpen (L : Lg) (c : Nat) (x : Ch) (rg q1 q2 : Nat) (L1 : Lg) : Prop where
  n1 : rg ≠ c
  n2 : q1 ≠ c
  n3 : q2 ≠ c
  n4 : rg ≠ q1
  n5 : rg ≠ q2
  n6 : q1 ≠ q2
  root : L1 c = some (croot rg q1 q2 x)
  ring : L1 rg = some (.abs (RingP rg x.vals x.cap))
  rcv : L1 q1 = some (.abs (QueueP q1 x.recvs))
  snd : L1 q2 = some (.abs (QueueP q2 x.sends))
  old : ∀ b d, b ≠ c → b ≠ rg → b ≠ q1 → b ≠ q2 → L b = some d → L1 b = some d
  f1 : L rg = none
  f2 : L q1 = none
  f3 : L q2 = none
def ChanP (c : Nat) (x : Ch) (h : Hp) : Prop := ∃ (rg q1 q2 : Nat) (M : Lg), rg ≠ c ∧ q1 ≠ c ∧ q2 ≠ c ∧ rg ≠ q1 ∧ rg ≠ q2 ∧ q1 ≠ q2 ∧ M c = some (croot rg q1 q2 x) ∧ M rg = some (.abs (RingP rg x.vals x.cap)) ∧
  M q1 = some (.abs (QueueP q1 x.recvs)) ∧ M q2 = some (.abs (QueueP q2 x.sends)) ∧ (∀ b, b ≠ c → b ≠ rg → b ≠ q1 → b ≠ q2 → M b = none) ∧ Sat M h

section
variable {L L1 : Lg} {c rg q1 q2 : Nat} {x : Ch}
theorem COpen.shut (h : COpen L c x rg q1 q2 L1) : Sees L1 (L.put c (.abs (ChanP c x))) := by
  refine Sees.shutAt (fun b => b = c ∨ b = rg ∨ b = q1 ∨ b = q2) (.inl rfl) ?_ ?_ (.inl ⟨_, h.root⟩) ?_
  · intro b d hb hd
    simp only [not_or] at hb
    exact h.old b d hb.1 hb.2.1 hb.2.2.1 hb.2.2.2 hd
  · rintro b (rfl | rfl | rfl | rfl) hb
    · exact absurd rfl hb
    · exact h.f1
    · exact h.f2
    · exact h.f3
  · intro M hp hM hN hs
    refine ⟨rg, q1, q2, M, h.n1, h.n2, h.n3, h.n4, h.n5, h.n6, ?_, ?_, ?_, ?_, ?_, hs⟩
    · rw [hM c (.inl rfl)]; exact h.root
    · rw [hM rg (.inr (.inl rfl))]; exact h.ring
    · rw [hM q1 (.inr (.inr (.inl rfl)))]; exact h.rcv
    · rw [hM q2 (.inr (.inr (.inr rfl)))]; exact h.snd
    · intro b b1 b2 b3 b4; exact hN b (by simp [b1, b2, b3, b4])
theorem CallL.openC {f : Nat} {vs : List AV} {Q : AV → Lg → Prop} (e : L c = some (.abs (ChanP c x)))
    (h : ∀ rg q1 q2 L1, COpen L c x rg q1 q2 L1 → CallL F f vs L1 Q) : CallL F f vs L Q := by
  apply CallL.opens e
  rintro hm ⟨rg, q1, q2, M, n1, n2, n3, n4, n5, n6, m1, m2, m3, m4, m5, hs⟩
  refine ⟨M, hs, by rw [m1]; simp, fun hf => ?_⟩
  have hover : ∀ b d, M b = some d → (M.over L) b = some d := fun b d hb => by simp [Lg.over, hb]
  exact h rg q1 q2 (M.over L) ⟨n1, n2, n3, n4, n5, n6, hover _ _ m1, hover _ _ m2, hover _ _ m3, hover _ _ m4,
    fun b d b1 b2 b3 b4 hd => by simp [Lg.over, m5 b b1 b2 b3 b4, hd], hf _ _ m2 n1, hf _ _ m3 n2, hf _ _ m4 n3⟩
theorem COpen.ext (h : COpen L c x rg q1 q2 L1) {L2 : Lg} (h2 : Ext2 L1 L2) : COpen L c x rg q1 q2 L2 :=
  ⟨h.n1, h.n2, h.n3, h.n4, h.n5, h.n6, h2 _ _ h.root, h2 _ _ h.ring, h2 _ _ h.rcv, h2 _ _ h.snd, fun b d b1 b2 b3 b4 hd => h2 _ _ (h.old b d b1 b2 b3 b4 hd), h.f1, h.f2, h.f3⟩
theorem COpen.setRing (h : COpen L c x rg q1 q2 L1) (ys : List Int) : COpen L c { x with vals := ys } rg q1 q2 (L1.put rg (.abs (RingP rg ys x.cap))) :=
  ⟨h.n1, h.n2, h.n3, h.n4, h.n5, h.n6, by rw [Lg.put_ne _ _ _ (Ne.symm h.n1)]; exact h.root, Lg.put_same _ _ _, by rw [Lg.put_ne _ _ _ (Ne.symm h.n4)]; exact h.rcv, by rw [Lg.put_ne _ _ _ (Ne.symm h.n5)]; exact h.snd,
    fun b d b1 b2 b3 b4 hd => by rw [Lg.put_ne _ _ _ b2]; exact h.old b d b1 b2 b3 b4 hd, h.f1, h.f2, h.f3⟩
theorem COpen.setRcv (h : COpen L c x rg q1 q2 L1) (ws : List Wt) : COpen L c { x with recvs := ws } rg q1 q2 (L1.put q1 (.abs (QueueP q1 ws))) :=
  ⟨h.n1, h.n2, h.n3, h.n4, h.n5, h.n6, by rw [Lg.put_ne _ _ _ (Ne.symm h.n2)]; exact h.root, by rw [Lg.put_ne _ _ _ h.n4]; exact h.ring, Lg.put_same _ _ _, by rw [Lg.put_ne _ _ _ (Ne.symm h.n6)]; exact h.snd,
    fun b d b1 b2 b3 b4 hd => by rw [Lg.put_ne _ _ _ b3]; exact h.old b d b1 b2 b3 b4 hd, h.f1, h.f2, h.f3⟩
theorem COpen.setSnd (h : COpen L c x rg q1 q2 L1) (ws : List Wt) : COpen L c { x with sends := ws } rg q1 q2 (L1.put q2 (.abs (QueueP q2 ws))) :=
  ⟨h.n1, h.n2, h.n3, h.n4, h.n5, h.n6, by rw [Lg.put_ne _ _ _ (Ne.symm h.n3)]; exact h.root, by rw [Lg.put_ne _ _ _ h.n5]; exact h.ring, by rw [Lg.put_ne _ _ _ h.n6]; exact h.rcv, Lg.put_same _ _ _,
    fun b d b1 b2 b3 b4 hd => by rw [Lg.put_ne _ _ _ b4]; exact h.old b d b1 b2 b3 b4 hd, h.f1, h.f2, h.f3⟩
theorem COpen.setRoot (h : COpen L c x rg q1 q2 L1) (a b d : Bool) : COpen L c { x with timed := a, signal := b, closed := d } rg q1 q2 (L1.put c (croot rg q1 q2 { x with timed := a, signal := b, closed := d })) :=
  ⟨h.n1, h.n2, h.n3, h.n4, h.n5, h.n6, Lg.put_same _ _ _, by rw [Lg.put_ne _ _ _ h.n1]; exact h.ring, by rw [Lg.put_ne _ _ _ h.n2]; exact h.rcv, by rw [Lg.put_ne _ _ _ h.n3]; exact h.snd,
    fun b d b1 b2 b3 b4 hd => by rw [Lg.put_ne _ _ _ b1]; exact h.old b d b1 b2 b3 b4 hd, h.f1, h.f2, h.f3⟩
theorem COpen.back (h : COpen L c x rg q1 q2 L1) (e : L c = some (.abs (ChanP c x))) : Sees L1 L := by
  have := h.shut
  rwa [Lg.put_self L c _ e] at this
/-- a channel, and a block that has come beside it -/
theorem COpen.onto (h : COpen L c x rg q1 q2 L1) {b : Nat} {d : LC} (hb : L1 b = none) : COpen (L.put b d) c x rg q1 q2 (L1.put b d) := by
  have e := h.ext ((Ext2.refl L1).put hb d)
  have nb : ∀ {r : Nat} {k : LC}, L1 r = some k → r ≠ b := fun hr hrb => by rw [hrb, hb] at hr; cases hr
  refine ⟨h.n1, h.n2, h.n3, h.n4, h.n5, h.n6, e.root, e.ring, e.rcv, e.snd, ?_, ?_, ?_, ?_⟩
  · intro r k b1 b2 b3 b4 hk
    rw [Lg.put_apply] at hk ⊢
    split
    · rename_i h9; rw [if_pos h9] at hk; exact hk
    · rename_i h9; rw [if_neg h9] at hk; exact h.old r k b1 b2 b3 b4 hk
  · rw [Lg.put_ne _ _ _ (nb h.ring)]; exact h.f1
  · rw [Lg.put_ne _ _ _ (nb h.rcv)]; exact h.f2
  · rw [Lg.put_ne _ _ _ (nb h.snd)]; exact h.f3
theorem COpen.none (h : COpen L c x rg q1 q2 L1) {b : Nat} (hb : L1 b = none) : b ≠ c ∧ L b = none := by
  have nb : ∀ {r : Nat} {k : LC}, L1 r = some k → b ≠ r := fun hr hrb => by rw [← hrb, hb] at hr; cases hr
  refine ⟨nb h.root, ?_⟩
  cases e : L b with
  | none => rfl
  | some d => rw [h.old b d (nb h.root) (nb h.ring) (nb h.rcv) (nb h.snd) e] at hb; cases hb

def Ch.free (x : Ch) (send : Bool) : Bool := if send = true then decide (x.vals.length < x.cap) else decide (0 < x.vals.length)
theorem drop_spec (hf : H_chanq_Chan_Drop N F) (e : L c = some (.abs (ChanP c x))) : CallL F (N k_chanq_Chan_Drop) [.p (some (c, 0))] L fun v L' =>
    if x.timed = true then v = .b (decide (0 < x.vals.length)) ∧ L' = L.put c (.abs (ChanP c { x with vals := [] })) else v = .b false ∧ L' = L := by
  apply CallL.openC e
  intro rg q1 q2 L1 h
  apply r_chanq_Chan_Drop hf.code
  unfold D_chanq_Chan_Drop_1
  cases ht : x.timed
  · simpa [rdL, AB.read, look, h.root, croot, ht] using h.back e
  · simp [rdL, AB.read, look, h.root, croot, ht]
    refine (ringClear_spec hf.ring_Ring_Clear h.ring).mono ?_
    rintro _ L2 ⟨rfl, rfl⟩
    simpa [ht] using (h.setRing []).shut
theorem dropNil_spec (hf : H_chanq_Chan_Drop N F) : CallL F (N k_chanq_Chan_Drop) [.p none] L fun v L' => v = .b false ∧ L' = L := by
  apply r_chanq_Chan_Drop hf.code
  simp [D_chanq_Chan_Drop_1]
/-- what a value that is put makes of a channel: who is woken; whether it was kept -/
def Ch.put (x : Ch) (v : Int) : Ch × List Wk × Bool :=
  if x.timed = true then match x.recvs with
    | w :: ws => ({ x with recvs := ws }, [⟨w.t, w.c, v, true, false⟩], true)
    | [] => if x.vals.length = x.cap then (x, [], false) else ({ x with vals := x.vals ++ [v] }, [], true)
  else (x, [], false)
/-- a channel that has come -/
theorem chanNew_open (hf : H_chanq_New N F) (n : Nat) (hn : n ≤ 64) : CallL F (N k_chanq_New) [.i .i64 n] L fun r L' => ∃ c rg q1 q2, L c = none ∧ r = .tup [.p (some (c, 0)), .i .i64 0] ∧ COpen L c ⟨[], n, [], [], false, false, false⟩ rg q1 q2 L' := by
  apply r_chanq_New hf.code
  unfold D_chanq_New_1
  refine (ringNew_spec hf.ring_New n hn).mono ?_
  rintro _ _ ⟨rg, hrg, rfl, rfl⟩
  simp
  refine (queueNew_spec hf.wait_New).mono ?_
  rintro _ _ ⟨q1, h1, rfl, rfl⟩
  refine (queueNew_spec hf.wait_New).mono ?_
  rintro _ _ ⟨q2, h2, rfl, rfl⟩
  have n1 : q1 ≠ rg := by rintro rfl; simp at h1
  have n2 : q2 ≠ q1 := by rintro rfl; simp at h2
  have n3 : q2 ≠ rg := by rintro rfl; rw [Lg.put_ne _ _ _ n2, Lg.put_same] at h2; cases h2
  rw [Lg.put_ne _ _ _ n1] at h1
  rw [Lg.put_ne _ _ _ n2, Lg.put_ne _ _ _ n3] at h2
  simp [fillP, splice, ble_nat, beq_nat]
  rw [newL_box_agg _ _ _ (by simp)]
  intro c hc
  have n4 : c ≠ q2 := by rintro rfl; simp at hc
  have n5 : c ≠ q1 := by rintro rfl; simp [Lg.put_apply, Ne.symm n2] at hc
  have n6 : c ≠ rg := by rintro rfl; simp [Lg.put_apply, Ne.symm n1, Ne.symm n3] at hc
  rw [Lg.put_ne _ _ _ n4, Lg.put_ne _ _ _ n5, Lg.put_ne _ _ _ n6] at hc
  refine ⟨_, Sees.refl _, c, rg, q1, q2, hc, rfl, Ne.symm n6, Ne.symm n5, Ne.symm n4, Ne.symm n1, Ne.symm n3, Ne.symm n2, Lg.put_same _ _ _, ?_, ?_, ?_, ?_, hrg, h1, h2⟩
  · simp [Lg.put_apply, Ne.symm n6, Ne.symm n1, Ne.symm n3]
  · simp [Lg.put_apply, Ne.symm n5, Ne.symm n2]
  · simp [Lg.put_apply, Ne.symm n4]
  · intro b d b1 b2 b3 b4 hd; simp [Lg.put_apply, b1, b2, b3, b4, hd]
theorem FreshSl.ext {v : AV} {cs : List AV} {n size : Nat} {L' : Lg} (h : FreshSl L v cs n size L') : Ext2 L L' := by
  rcases h with ⟨h1, h2, rfl, rfl⟩ | ⟨b, ex, h1, h2, rfl, h3, rfl⟩
  · exact Ext2.refl _
  · exact (Ext2.refl _).put h1 _
end
end Go.AM


/- maps from whole numbers to whole numbers, as the code's memory holds them. -/
set_option linter.unusedVariables false
set_option linter.unusedSimpArgs false
namespace Go.AM

def enc (ks : List (Int × Int)) : List (AV × AV) := ks.map fun x => (.i .i64 x.1, .i .i64 x.2)
def look1 (k : Int) : List (Int × Int) → Option Int
  | [] => none
  | (a, v) :: r => if a = k then some v else look1 k r
def set1 (k v : Int) : List (Int × Int) → List (Int × Int)
  | [] => [(k, v)]
  | (a, u) :: r => if a = k then (a, v) :: r else (a, u) :: set1 k v r
def del1 (k : Int) : List (Int × Int) → List (Int × Int)
  | [] => []
  | (a, u) :: r => if a = k then r else (a, u) :: del1 k r
theorem look1_cons (k a v : Int) (r : List (Int × Int)) : look1 k ((a, v) :: r) = if a = k then some v else look1 k r := rfl
theorem set1_cons (k v a u : Int) (r : List (Int × Int)) : set1 k v ((a, u) :: r) = if a = k then (a, v) :: r else (a, u) :: set1 k v r := rfl
theorem del1_cons (k a u : Int) (r : List (Int × Int)) : del1 k ((a, u) :: r) = if a = k then r else (a, u) :: del1 k r := rfl
theorem kEq64 : kEq .i64 .i64 = true := rfl
theorem iEq_dec (a b : Int) : iEq a b = decide (a = b) := by rw [iEq_eq, beq_dec]
theorem mfind_enc (k : Int) : ∀ ks, mfind .i64 k (enc ks) = some ((look1 k ks).map (.i .i64 ·))
  | [] => rfl
  | (a, v) :: r => by
    show (bif kEq .i64 .i64 then (bif iEq k a then some (some (AV.i .i64 v)) else mfind .i64 k (enc r)) else none) = _
    rw [kEq64, cond_true, mfind_enc k r, iEq_dec]
    rw [look1_cons]
    by_cases h : a = k
    · simp [h]
    · simp [h, Ne.symm h]
theorem msetL_enc (k v : Int) : ∀ ks, msetL .i64 k (.i .i64 v) (enc ks) = some (enc (set1 k v ks))
  | [] => rfl
  | (a, u) :: r => by
    show (bif kEq .i64 .i64 then (bif iEq k a then some ((AV.i .i64 a, AV.i .i64 v) :: enc r) else (msetL .i64 k (.i .i64 v) (enc r)).map ((AV.i .i64 a, AV.i .i64 u) :: ·)) else none) = _
    rw [kEq64, cond_true, msetL_enc k v r, iEq_dec]
    rw [set1_cons]
    by_cases h : a = k
    · simp [h, enc]
    · simp [h, Ne.symm h, enc]
theorem mdelL_enc (k : Int) : ∀ ks, mdelL .i64 k (enc ks) = some (enc (del1 k ks))
  | [] => rfl
  | (a, u) :: r => by
    show (bif kEq .i64 .i64 then (bif iEq k a then some (enc r) else (mdelL .i64 k (enc r)).map ((AV.i .i64 a, AV.i .i64 u) :: ·)) else none) = _
    rw [kEq64, cond_true, mdelL_enc k r, iEq_dec]
    rw [del1_cons]
    by_cases h : a = k
    · simp [h]
    · simp [h, Ne.symm h, enc]
theorem look1_set1 (k v j : Int) : ∀ ks, look1 j (set1 k v ks) = if k = j then some v else look1 j ks
  | [] => by simp [set1, look1]
  | (a, u) :: r => by
    rw [set1_cons]
    by_cases h : a = k
    · subst h; by_cases h2 : a = j <;> simp [look1, h2]
    · simp only [h, if_false, look1, look1_set1 k v j r]
      by_cases h2 : a = j
      · subst h2; simp [Ne.symm h]
      · simp [h2]
theorem look1_none (j : Int) : ∀ (ks : List (Int × Int)), j ∉ ks.map (·.1) → look1 j ks = none
  | [], _ => rfl
  | (a, u) :: r, h => by
    simp at h
    simp [look1, Ne.symm h.1, look1_none j r (by simpa using h.2)]
theorem set1_keys (k v : Int) : ∀ (ks : List (Int × Int)), (set1 k v ks).map (·.1) = if k ∈ ks.map (·.1) then ks.map (·.1) else ks.map (·.1) ++ [k]
  | [] => rfl
  | (a, u) :: r => by
    rw [set1_cons]
    by_cases h : a = k
    · simp [h]
    · simp only [h, if_false, List.map_cons, set1_keys k v r, List.mem_cons, Ne.symm h, false_or]
      split <;> simp
theorem del1_sub (k : Int) : ∀ (ks : List (Int × Int)), (del1 k ks).map (·.1) |>.Sublist (ks.map (·.1))
  | [] => List.Sublist.refl _
  | (a, u) :: r => by
    rw [del1_cons]
    by_cases h : a = k
    · simp [h]
    · simp only [h, if_false, List.map_cons]; exact (del1_sub k r).cons_cons _
theorem look1_del1 (k j : Int) : ∀ (ks : List (Int × Int)), (ks.map (·.1)).Nodup → look1 j (del1 k ks) = if k = j then none else look1 j ks
  | [], _ => by simp [del1, look1]
  | (a, u) :: r, h => by
    simp only [List.map_cons, List.nodup_cons] at h
    rw [del1_cons]
    by_cases h1 : a = k
    · subst h1
      by_cases h2 : a = j
      · subst h2; simp [look1_none a r h.1]
      · simp [look1, h2]
    · simp only [h1, if_false, look1, look1_del1 k j r h.2]
      by_cases h2 : a = j
      · subst h2; simp [Ne.symm h1]
      · simp [h2]
/-- a map's entries, and what they say -/
def MapI (es : List (AV × AV)) (f : Int → Option Int) : Prop := ∃ ks, es = enc ks ∧ (ks.map (·.1)).Nodup ∧ ∀ k, look1 k ks = f k
def updI (f : Int → Option Int) (k : Int) (v : Option Int) : Int → Option Int := fun j => if k = j then v else f j
theorem mapI_nil : MapI [] fun _ => none := ⟨[], rfl, by simp, fun _ => rfl⟩
theorem MapI.find {es : List (AV × AV)} {f : Int → Option Int} (h : MapI es f) (k : Int) : mfind .i64 k es = some ((f k).map (.i .i64 ·)) := by
  obtain ⟨ks, rfl, _, h2⟩ := h; rw [mfind_enc, h2]
theorem MapI.set {es : List (AV × AV)} {f : Int → Option Int} (h : MapI es f) (k v : Int) : ∃ es', msetL .i64 k (.i .i64 v) es = some es' ∧ MapI es' (updI f k (some v)) := by
  obtain ⟨ks, rfl, h1, h2⟩ := h
  refine ⟨_, msetL_enc k v ks, set1 k v ks, rfl, ?_, fun j => by rw [look1_set1, h2]; rfl⟩
  rw [set1_keys]
  split
  · exact h1
  · rename_i h3
    rw [List.nodup_append]
    exact ⟨h1, by simp, fun a ha b hb hab => by simp at hb; subst hb; subst hab; exact h3 ha⟩
theorem MapI.del {es : List (AV × AV)} {f : Int → Option Int} (h : MapI es f) (k : Int) : ∃ es', mdelL .i64 k es = some es' ∧ MapI es' (updI f k none) := by
  obtain ⟨ks, rfl, h1, h2⟩ := h
  exact ⟨_, mdelL_enc k ks, del1 k ks, rfl, (del1_sub k ks).nodup h1, fun j => by rw [look1_del1 k j ks h1, h2]; rfl⟩
end Go.AM


/- heap: items, the order, what is ahead. -/
set_option linter.unusedVariables false
set_option linter.unusedSimpArgs false
namespace Go.AM
variable {N : Nat → Nat} {F : Nat → Option AFn}

/-- an item -/
structure It where
  id : Int
  w : Int
  s : Int
  deriving DecidableEq
def It.cells (x : It) : List AV := [.i .i64 x.id, .i .i64 x.w, .i .i64 x.s]
def It.av (x : It) : AV := .agg x.cells
def It.zero : It := ⟨0, 0, 0⟩
def icells : List It → List AV
  | [] => []
  | x :: r => x.cells ++ icells r
theorem icells_append : ∀ (A B : List It), icells (A ++ B) = icells A ++ icells B
  | [], _ => rfl
  | w :: A, B => by simp [icells, icells_append A B]
theorem icells_length : ∀ (A : List It), (icells A).length = A.length * 3
  | [] => rfl
  | w :: A => by simp [icells, icells_length A, It.cells]; omega
theorem icells_at : ∀ (ws : List It) (i : Nat) (w : It) (sp : List AV), ws[i]? = some w → ((icells ws ++ sp).drop (i * 3)).take 3 = w.cells ∧ i * 3 + 3 ≤ (icells ws ++ sp).length
  | [], i, w, sp, h => by simp at h
  | a :: r, 0, w, sp, h => by simp at h; subst h; simp [icells, It.cells]
  | a :: r, i + 1, w, sp, h => by
    have := icells_at r i w sp (by simpa using h)
    have e : (i + 1) * 3 = i * 3 + 1 + 1 + 1 := by omega
    rw [e]
    simp only [icells, It.cells, List.cons_append, List.nil_append, List.drop_succ_cons, List.length_cons]
    exact ⟨this.1, by omega⟩
theorem splice_cons (a : AV) (c : List AV) (n : Nat) (vs : List AV) : splice (a :: c) (n + 1) vs = a :: splice c n vs := by
  have : n + 1 + vs.length = (n + vs.length) + 1 := by omega
  simp [splice, this]
theorem icells_set : ∀ (ws : List It) (i : Nat) (w : It) (sp : List AV), i < ws.length → splice (icells ws ++ sp) (i * 3) w.cells = icells (ws.set i w) ++ sp
  | [], i, w, sp, h => by simp at h
  | a :: r, 0, w, sp, h => by simp [splice, icells, It.cells]
  | a :: r, i + 1, w, sp, h => by
    have e : (i + 1) * 3 = i * 3 + 1 + 1 + 1 := by omega
    rw [e, List.set_cons_succ]
    simp only [icells, It.cells, List.cons_append, List.nil_append]
    rw [splice_cons, splice_cons, splice_cons]
    have := icells_set r i w sp (by simpa using h)
    simp only [It.cells] at this
    rw [this]
def It.lt (a b : It) : Prop := a.w < b.w ∨ (a.w = b.w ∧ a.s < b.s)
instance (a b : It) : Decidable (a.lt b) := by unfold It.lt; exact inferInstance
theorem It.lt_irrefl (a : It) : ¬ a.lt a := by unfold It.lt; omega
theorem It.lt_asymm {a b : It} (h : a.lt b) : ¬ b.lt a := by unfold It.lt at *; omega
theorem It.lt_trans {a b c : It} (h : a.lt b) (k : b.lt c) : a.lt c := by unfold It.lt at *; omega
theorem It.ge_trans {a b c : It} (h : ¬ a.lt b) (k : ¬ b.lt c) : ¬ a.lt c := by unfold It.lt at *; omega
def cmpZ (x y : Int) : Int := if x < y then -1 else if y < x then 1 else 0
def It.cmp (a b : It) : Int := if cmpZ a.w b.w ≠ 0 then cmpZ a.w b.w else cmpZ a.s b.s
theorem It.cmp_neg (a b : It) : a.cmp b < 0 ↔ a.lt b := by unfold It.cmp It.lt cmpZ; split <;> split <;> (try split) <;> (try split) <;> omega
section
variable {L : Lg}
theorem compare_spec (h : H_cmp_Compare_int N F) (x y : Int) : CallL F (N k_cmp_Compare_int) [.i .i64 x, .i .i64 y] L fun v L' => v = .i .i64 (cmpZ x y) ∧ L' = L := by
  apply r_cmp_Compare_int h.code
  unfold D_cmp_Compare_int_1
  have nan : ∀ (z : Int) (L : Lg), CallL F (N k_cmp_isNaN_int) [.i .i64 z] L fun v L' => v = .b false ∧ L' = L := by
    intro z L
    apply r_cmp_isNaN_int h.cmp_isNaN_int.code
    simp [D_cmp_isNaN_int_1]
  refine (nan x L).mono ?_
  rintro _ _ ⟨rfl, rfl⟩
  refine (nan y _).mono ?_
  rintro _ _ ⟨rfl, rfl⟩
  by_cases h1 : x < y
  · simp [h1, cmpZ]
  · by_cases h2 : y < x <;> simp [h1, h2, cmpZ]
theorem or_spec (h : H_cmp_Or_int N F) {b : Nat} {x y : Int} {cp ex : Nat} (hL : L b = some (.raw (.cells [.i .i64 x, .i .i64 y]))) : CallL F (N k_cmp_Or_int) [.sl (some (b, 0)) 2 cp ex] L fun v L' => v = .i .i64 (if x ≠ 0 then x else y) ∧ L' = L := by
  apply r_cmp_Or_int h.code
  unfold D_cmp_Or_int_1 D_cmp_Or_int_2 D_cmp_Or_int_5
  simp [D_cmp_Or_int_7]
  refine loopW_intro (fun n l' L' => ∃ i : Nat, i ≤ 2 ∧ n = 2 - i ∧ (0 < i → x = 0) ∧ (1 < i → y = 0) ∧ L' = L ∧ l' 3 = .i .i64 0 ∧ l' 6 = .sl (some (b, 0)) 2 cp ex ∧ l' 7 = .i .i64 2 ∧ l' 8 = .i .i64 i)
    2 ⟨0, by omega, by omega, by omega, by omega, rfl, by simp, by simp, by simp, by simp⟩ ?_
  rintro n l' t L' ⟨i, hi, hn, h0, h1, rfl, l3, l6, l7, l8⟩
  unfold D_cmp_Or_int_8
  rw [l3, l6, l7, l8]
  obtain rfl | rfl | rfl : i = 0 ∨ i = 1 ∨ i = 2 := by omega
  · by_cases hx : x = 0
    · simp [wp_iad _ _ _ 1 b 0 2 cp ex .i64 0 (by omega) (by omega), rdL, AB.read, look, hL, hx]
      refine ⟨1, by omega, 1, by omega, by omega, ?_⟩
      simp [hx, l3, l6, l7, wr_id]
    · simp [wp_iad _ _ _ 1 b 0 2 cp ex .i64 0 (by omega) (by omega), rdL, AB.read, look, hL, hx]
  · have hx := h0 (by omega)
    have e : ((1 : Nat) : Int) = 1 := rfl
    rw [e]
    by_cases hy : y = 0
    · simp [wp_iad _ _ _ 1 b 0 2 cp ex .i64 1 (by omega) (by omega), rdL, AB.read, look, hL, hx, hy]
      refine ⟨0, by omega, 2, by omega, by omega, ?_⟩
      simp [hx, hy, l3, l6, l7, wr_id]
    · simp [wp_iad _ _ _ 1 b 0 2 cp ex .i64 1 (by omega) (by omega), rdL, AB.read, look, hL, hx, hy]
  · have hx := h0 (by omega)
    have hy := h1 (by omega)
    simp [D_cmp_Or_int_4, hx, hy]
theorem ahead_spec (h : H_heap_ahead N F) (x y : It) : CallL F (N k_heap_ahead) [x.av, y.av] L fun v L' => v = .i .i64 (x.cmp y) ∧ L' = L := by
  apply r_heap_ahead h.code
  unfold D_heap_ahead_1 It.av
  simp
  rw [newL_box_agg _ _ _ (by simp [It.cells])]
  intro b1 h1
  simp
  rw [newL_box_agg _ _ _ (by simp [It.cells])]
  intro b2 h2
  have n1 : b2 ≠ b1 := by rintro rfl; simp at h2
  rw [Lg.put_ne _ _ _ n1] at h2
  simp [rdL, AB.read, look, Lg.put_apply, n1, Ne.symm n1, It.cells]
  refine (compare_spec h.cmp_Compare_int _ _).mono ?_
  rintro _ _ ⟨rfl, rfl⟩
  simp [rdL, AB.read, look, Lg.put_apply, n1, Ne.symm n1, It.cells]
  refine (compare_spec h.cmp_Compare_int _ _).mono ?_
  rintro _ _ ⟨rfl, rfl⟩
  simp
  rw [newL_bslice (c := [.i .i64 (cmpZ x.w y.w), .i .i64 (cmpZ x.s y.s)]) _ _ (by simp [reps, fillP, splice, ble_nat, beq_nat]) (by simp)]
  intro b3 h3
  refine (or_spec h.cmp_Or_int (Lg.put_same _ _ _)).mono ?_
  rintro _ _ ⟨rfl, rfl⟩
  have n2 : b3 ≠ b2 := by rintro rfl; simp at h3
  have n3 : b3 ≠ b1 := by rintro rfl; simp [Lg.put_apply, Ne.symm n1] at h3
  rw [Lg.put_ne _ _ _ n2, Lg.put_ne _ _ _ n3] at h3
  simp [againV, semRL, rLdL, rdL, AB.read, look, Lg.put_apply, n1, Ne.symm n1, n2, Ne.symm n2, n3, Ne.symm n3, It.cells]
  refine ⟨Sees.drop ?_, ?_⟩
  · intro c d hd
    have c1 : c ≠ b1 := by rintro rfl; rw [h1] at hd; cases hd
    have c2 : c ≠ b2 := by rintro rfl; rw [h2] at hd; cases hd
    have c3 : c ≠ b3 := by rintro rfl; rw [h3] at hd; cases hd
    simp [Lg.put_apply, c1, c2, c3, hd]
  · unfold It.cmp; by_cases h9 : cmpZ x.w y.w = 0 <;> simp [h9]
end
end Go.AM


/- heap: rows that are heaps; in plain Lean. -/
set_option linter.unusedVariables false
set_option linter.unusedSimpArgs false
namespace Go.AM

def par (i : Nat) : Nat := (i - 1) / 4
def gA (A : List It) (j : Nat) : It := A.getD j It.zero
theorem par_lt {j : Nat} (h : 0 < j) : par j < j := by unfold par; omega
theorem gA_get {A : List It} {j : Nat} (h : j < A.length) : A[j]? = some (gA A j) := by simp [gA, h]
theorem gA_set {A : List It} {i j : Nat} {x : It} (h : i < A.length) : gA (A.set i x) j = if i = j then x else gA A j := by
  unfold gA
  simp only [List.getD_eq_getElem?_getD, List.getElem?_set]
  by_cases hij : i = j
  · subst hij; simp [h]
  · simp [hij]
/-- all edges but those at i -/
def Exx (A : List It) (i : Nat) : Prop := (∀ j, 0 < j → j < A.length → j ≠ i → par j ≠ i → ¬ (gA A j).lt (gA A (par j))) ∧ ∀ j, 0 < j → j < A.length → par j = i → 0 < i → ¬ (gA A j).lt (gA A (par i))
/-- all edges but the one above i -/
def Up (A : List It) (i : Nat) : Prop := (∀ j, 0 < j → j < A.length → j ≠ i → ¬ (gA A j).lt (gA A (par j))) ∧ ∀ j, 0 < j → j < A.length → par j = i → 0 < i → ¬ (gA A j).lt (gA A (par i))
/-- all edges but those below i -/
def Dn (A : List It) (i : Nat) : Prop := (∀ j, 0 < j → j < A.length → par j ≠ i → ¬ (gA A j).lt (gA A (par j))) ∧ ∀ j, 0 < j → j < A.length → par j = i → 0 < i → ¬ (gA A j).lt (gA A (par i))
def HeapA (A : List It) : Prop := ∀ j, 0 < j → j < A.length → ¬ (gA A j).lt (gA A (par j))
def swap (A : List It) (i p : Nat) : List It := (A.set i (gA A p)).set p (gA A i)
theorem swap_length (A : List It) (i p : Nat) : (swap A i p).length = A.length := by simp [swap]
theorem gA_swap {A : List It} {i p : Nat} (hi : i < A.length) (hp : p < A.length) (j : Nat) : gA (swap A i p) j = if p = j then gA A i else if i = j then gA A p else gA A j := by
  unfold swap
  rw [gA_set (by simpa using hp), gA_set hi]
theorem Exx.up {A : List It} {i : Nat} (h : Exx A i) (hi : 0 < i) (hl : (gA A i).lt (gA A (par i))) : Up A i := by
  refine ⟨fun j h0 hj hji => ?_, h.2⟩
  by_cases hp : par j = i
  · rw [hp]
    have := h.2 j h0 hj hp hi
    exact fun h3 => this (It.lt_trans h3 hl)
  · exact h.1 j h0 hj hji hp
theorem Up.step {A : List It} {i : Nat} (h : Up A i) (hi : 0 < i) (hn : i < A.length) (hl : (gA A i).lt (gA A (par i))) : Up (swap A i (par i)) (par i) := by
  have hp : par i < i := par_lt hi
  have hpn : par i < A.length := by omega
  refine ⟨fun j h0 hj hji => ?_, fun j h0 hj hpj hp0 => ?_⟩
  · rw [swap_length] at hj
    rw [gA_swap hn hpn, gA_swap hn hpn]
    rw [if_neg (Ne.symm hji)]
    by_cases h1 : i = j
    · subst h1
      simp only [if_true]
      exact It.lt_asymm hl
    · rw [if_neg h1]
      by_cases h2 : par i = par j
      · rw [if_pos h2]
        have := h.1 j h0 hj (Ne.symm h1)
        rw [← h2] at this
        exact fun h3 => this (It.lt_trans h3 hl)
      · rw [if_neg h2]
        by_cases h3 : i = par j
        · rw [if_pos h3]
          exact h.2 j h0 hj h3.symm hi
        · rw [if_neg h3]
          exact h.1 j h0 hj (Ne.symm h1)
  · rw [swap_length] at hj
    have hpp : par (par i) < par i := par_lt hp0
    have hjp : j ≠ par i := by rintro rfl; omega
    rw [gA_swap hn hpn, gA_swap hn hpn, if_neg (Ne.symm hjp)]
    rw [if_neg (show par i ≠ par (par i) by omega), if_neg (show i ≠ par (par i) by omega)]
    have hb := h.1 (par i) hp0 hpn (by omega)
    by_cases h1 : i = j
    · rw [if_pos h1]; exact hb
    · rw [if_neg h1]
      have := h.1 j h0 hj (Ne.symm h1)
      rw [hpj] at this
      exact It.ge_trans this hb
theorem Up.heap {A : List It} {i : Nat} (h : Up A i) (hi : i = 0 ∨ ¬ (gA A i).lt (gA A (par i))) : HeapA A := by
  intro j h0 hj
  by_cases h1 : j = i
  · subst h1
    rcases hi with h2 | h2
    · omega
    · exact h2
  · exact h.1 j h0 hj h1
theorem Exx.dn {A : List It} {i : Nat} (h : Exx A i) (hi : i = 0 ∨ ¬ (gA A i).lt (gA A (par i))) : Dn A i := by
  refine ⟨fun j h0 hj hp => ?_, h.2⟩
  by_cases h1 : j = i
  · subst h1
    rcases hi with h2 | h2
    · omega
    · exact h2
  · exact h.1 j h0 hj h1 hp
theorem HeapA.dn {A : List It} (h : HeapA A) (i : Nat) (hn : i < A.length) : Dn A i := by
  refine ⟨fun j h0 hj _ => h j h0 hj, fun j h0 hj hp hi => ?_⟩
  have h1 := h j h0 hj
  rw [hp] at h1
  exact It.ge_trans h1 (h i hi hn)
theorem Dn.step {A : List It} {i m : Nat} (h : Dn A i) (hm0 : 0 < m) (hm : m < A.length) (hpm : par m = i) (hmin : ∀ j, 0 < j → j < A.length → par j = i → ¬ (gA A j).lt (gA A m)) (hx : ¬ (gA A i).lt (gA A m)) : Dn (swap A i m) m := by
  have him : i < m := by rw [← hpm]; exact par_lt hm0
  have hn : i < A.length := by omega
  refine ⟨fun j h0 hj hp => ?_, fun j h0 hj hp _ => ?_⟩
  · rw [swap_length] at hj
    rw [gA_swap hn hm, gA_swap hn hm, if_neg (Ne.symm hp)]
    by_cases h1 : m = j
    · subst h1; rw [if_pos rfl, hpm, if_pos rfl]; exact hx
    · rw [if_neg h1]
      by_cases h2 : i = j
      · subst h2
        rw [if_pos rfl, if_neg (show i ≠ par i by have := par_lt h0; omega)]
        exact h.2 m hm0 hm hpm h0
      · rw [if_neg h2]
        by_cases h3 : i = par j
        · rw [if_pos h3]; exact hmin j h0 hj h3.symm
        · rw [if_neg h3]; exact h.1 j h0 hj (Ne.symm h3)
  · rw [swap_length] at hj
    have hjm : j ≠ m := by rintro rfl; have := par_lt h0; omega
    have hji : j ≠ i := by rintro rfl; have := par_lt h0; omega
    rw [gA_swap hn hm, gA_swap hn hm, if_neg (Ne.symm hjm), if_neg (Ne.symm hji), hpm, if_neg (show m ≠ i by omega), if_pos rfl]
    have := h.1 j h0 hj (by omega)
    rw [hp] at this
    exact this
theorem Dn.heap {A : List It} {i : Nat} (h : Dn A i) (hc : ∀ j, 0 < j → j < A.length → par j = i → ¬ (gA A j).lt (gA A i)) : HeapA A := by
  intro j h0 hj
  by_cases h1 : par j = i
  · rw [h1]; exact hc j h0 hj h1
  · exact h.1 j h0 hj h1
theorem HeapA.root {A : List It} (h : HeapA A) : ∀ j, j < A.length → ¬ (gA A j).lt (gA A 0) := by
  intro j
  induction j using Nat.strongRecOn with
  | ind j ih =>
    intro hj
    by_cases h0 : j = 0
    · subst h0; exact It.lt_irrefl _
    · have := par_lt (show 0 < j by omega)
      exact It.ge_trans (h j (by omega) hj) (ih _ this (by omega))
theorem swap_perm {A : List It} {i p : Nat} (hi : i < A.length) (hp : p < A.length) : (swap A i p).Perm A := by
  by_cases h : i = p
  · subst h
    have : swap A i i = A := by
      apply List.ext_getElem?
      intro j
      simp only [swap, List.getElem?_set, List.length_set]
      by_cases hj : i = j
      · subst hj; simp [hi, gA]
      · simp [hj]
    rw [this]
  · unfold swap
    have h1 : gA A p = A[p] := by simp [gA, hp]
    have h2 : gA A i = A[i] := by simp [gA, hi]
    rw [h1, h2]
    exact List.set_set_perm hi hp

/-! ### who stands where -/
def Ids (A : List It) : Prop := ∀ j k, j < A.length → k < A.length → (gA A j).id = (gA A k).id → j = k
def Cons (A : List It) (mp : Int → Option Int) : Prop := Ids A ∧ (∀ j, j < A.length → mp (gA A j).id = some (j : Int)) ∧ ∀ k v, mp k = some v → ∃ j, j < A.length ∧ v = (j : Int) ∧ (gA A j).id = k
def ConsH (A : List It) (mp : Int → Option Int) (i : Nat) : Prop := Ids A ∧ (∀ j, j < A.length → j ≠ i → mp (gA A j).id = some (j : Int)) ∧ ∀ k v, mp k = some v → k = (gA A i).id ∨ ∃ j, j < A.length ∧ j ≠ i ∧ v = (j : Int) ∧ (gA A j).id = k
theorem ConsH.fill {A : List It} {mp : Int → Option Int} {i : Nat} (h : ConsH A mp i) (hi : i < A.length) : Cons A (updI mp (gA A i).id (some (i : Int))) := by
  refine ⟨h.1, fun j hj => ?_, fun k v hk => ?_⟩
  · unfold updI
    by_cases h1 : (gA A i).id = (gA A j).id
    · have := h.1 i j hi hj h1; subst this; simp
    · rw [if_neg h1]; exact h.2.1 j hj (fun e => h1 (by rw [e]))
  · unfold updI at hk
    by_cases h1 : (gA A i).id = k
    · rw [if_pos h1] at hk; cases hk; exact ⟨i, hi, rfl, h1⟩
    · rw [if_neg h1] at hk
      rcases h.2.2 k v hk with h2 | ⟨j, h2, _, h3, h4⟩
      · exact absurd h2.symm h1
      · exact ⟨j, h2, h3, h4⟩
theorem Cons.hole {A : List It} {mp : Int → Option Int} (h : Cons A mp) (i : Nat) : ConsH A mp i := by
  refine ⟨h.1, fun j hj _ => h.2.1 j hj, fun k v hk => ?_⟩
  obtain ⟨j, h2, h3, h4⟩ := h.2.2 k v hk
  by_cases h5 : j = i
  · subst h5; exact .inl h4.symm
  · exact .inr ⟨j, h2, h5, h3, h4⟩
theorem Ids.swap {A : List It} (h : Ids A) {i p : Nat} (hi : i < A.length) (hp : p < A.length) : Ids (swap A i p) := by
  have key : ∀ j, gA (Go.AM.swap A i p) j = gA A (if p = j then i else if i = j then p else j) := by
    intro j
    rw [gA_swap hi hp]
    split
    · rfl
    · split <;> rfl
  intro j k hj hk
  rw [swap_length] at hj hk
  rw [key, key]
  intro e
  have := h _ _ (by split; exact hi; split; exact hp; exact hj) (by split; exact hi; split; exact hp; exact hk) e
  split at this <;> split at this <;> (try split at this) <;> (try split at this) <;> omega
theorem ConsH.step {A : List It} {mp : Int → Option Int} {i p : Nat} (h : ConsH A mp i) (hi : i < A.length) (hp : p < A.length) (hne : p ≠ i) : ConsH (swap A i p) (updI mp (gA A p).id (some (i : Int))) p := by
  refine ⟨h.1.swap hi hp, fun j hj hjp => ?_, fun k v hk => ?_⟩
  · rw [swap_length] at hj
    rw [gA_swap hi hp, if_neg (Ne.symm hjp)]
    unfold updI
    by_cases h1 : i = j
    · subst h1; simp
    · rw [if_neg h1]
      have h2 : (gA A p).id ≠ (gA A j).id := fun e => hjp (h.1 p j hp hj e).symm
      rw [if_neg h2]
      exact h.2.1 j hj (Ne.symm h1)
  · unfold updI at hk
    rw [gA_swap hi hp, if_pos rfl]
    by_cases h1 : (gA A p).id = k
    · rw [if_pos h1] at hk; cases hk
      refine .inr ⟨i, by rw [swap_length]; exact hi, Ne.symm hne, rfl, ?_⟩
      rw [gA_swap hi hp, if_neg hne, if_pos rfl]; exact h1
    · rw [if_neg h1] at hk
      rcases h.2.2 k v hk with h2 | ⟨j, h2, h3, h4, h5⟩
      · exact .inl h2
      · have hjp : j ≠ p := by rintro rfl; exact h1 h5
        refine .inr ⟨j, by rw [swap_length]; exact h2, hjp, h4, ?_⟩
        rw [gA_swap hi hp, if_neg (Ne.symm hjp), if_neg (Ne.symm h3)]; exact h5
end Go.AM


/- heap: put, up, down. -/
set_option linter.unusedVariables false
set_option linter.unusedSimpArgs false
namespace Go.AM
variable {N : Nat → Nat} {F : Nat → Option AFn}

def HSl (L : Lg) (h mb : Nat) (its : List It) (sv : AV) (K : Lg) : Prop :=
  (its = [] ∧ sv = .sl none 0 0 0) ∨ ∃ b cap sp, sv = .sl (some (b, 0)) its.length cap 3 ∧ K b = some (.raw (.cells (icells its ++ sp))) ∧ sp.length + its.length * 3 = cap * 3 ∧ b ≠ h ∧ b ≠ mb ∧ L b = none
/-- a heap, opened: its row, where each stands, and the count -/
def HOpen (L : Lg) (h : Nat) (its : List It) (mp : Int → Option Int) (seq : Int) (K : Lg) : Prop :=
  ∃ (sv : AV) (mb : Nat) (es : List (AV × AV)), K h = some (.raw (.cells [sv, .m (some mb), .i .i64 seq])) ∧ K mb = some (.raw (.map es)) ∧ MapI es mp ∧ mb ≠ h ∧ L mb = none ∧ HSl L h mb its sv K ∧
    ∀ r d, r ≠ h → L r = some d → K r = some d

section
variable {L K : Lg} {h : Nat} {its : List It} {mp : Int → Option Int} {seq : Int}
theorem HOpen.ext (ho : HOpen L h its mp seq K) {K' : Lg} (e : Ext2 K K') : HOpen L h its mp seq K' := by
  obtain ⟨sv, mb, es, h1, h2, h3, h4, h5, h6, h7⟩ := ho
  refine ⟨sv, mb, es, e _ _ h1, e _ _ h2, h3, h4, h5, ?_, fun r d hr hd => e _ _ (h7 r d hr hd)⟩
  rcases h6 with h6 | ⟨b, cap, sp, a1, a2, a3⟩
  · exact .inl h6
  · exact .inr ⟨b, cap, sp, a1, e _ _ a2, a3⟩
theorem HOpen.ne (ho : HOpen L h its mp seq K) {r : Nat} (hr : K r = none) : r ≠ h ∧ L r = none := by
  obtain ⟨sv, mb, es, h1, h2, h3, h4, h5, h6, h7⟩ := ho
  have n : r ≠ h := by rintro rfl; rw [h1] at hr; cases hr
  refine ⟨n, ?_⟩
  cases e : L r with
  | none => rfl
  | some d => rw [h7 r d n e] at hr; cases hr
theorem HOpen.onto (ho : HOpen L h its mp seq K) {r : Nat} (hr : K r = none) (d : LC) : HOpen (L.put r d) h its mp seq (K.put r d) := by
  obtain ⟨sv, mb, es, h1, h2, h3, h4, h5, h6, h7⟩ := ho
  have nb : ∀ {x : Nat} {k : LC}, K x = some k → x ≠ r := fun hx hxr => by rw [hxr, hr] at hx; cases hx
  refine ⟨sv, mb, es, by rw [Lg.put_ne _ _ _ (nb h1)]; exact h1, by rw [Lg.put_ne _ _ _ (nb h2)]; exact h2, h3, h4, by rw [Lg.put_ne _ _ _ (nb h2)]; exact h5, ?_, ?_⟩
  · rcases h6 with h6 | ⟨b, cap, sp, a1, a2, a3, a4, a5, a6⟩
    · exact .inl h6
    · exact .inr ⟨b, cap, sp, a1, by rw [Lg.put_ne _ _ _ (nb a2)]; exact a2, a3, a4, a5, by rw [Lg.put_ne _ _ _ (nb a2)]; exact a6⟩
  · intro x k hx hk
    rw [Lg.put_apply] at hk ⊢
    split
    · rename_i h9; rw [if_pos h9] at hk; exact hk
    · rename_i h9; rw [if_neg h9] at hk; exact h7 x k hx hk
theorem HOpen.weak {r : Nat} {d : LC} (ho : HOpen (L.put r d) h its mp seq K) (hr : L r = none) : HOpen L h its mp seq K := by
  obtain ⟨sv, mb, es, h1, h2, h3, h4, h5, h6, h7⟩ := ho
  have n1 : mb ≠ r := by rintro rfl; simp at h5
  rw [Lg.put_ne _ _ _ n1] at h5
  refine ⟨sv, mb, es, h1, h2, h3, h4, h5, ?_, ?_⟩
  · rcases h6 with h6 | ⟨b, cap, sp, a1, a2, a3, a4, a5, a6⟩
    · exact .inl h6
    · have n2 : b ≠ r := by rintro rfl; simp at a6
      rw [Lg.put_ne _ _ _ n2] at a6
      exact .inr ⟨b, cap, sp, a1, a2, a3, a4, a5, a6⟩
  · intro x k hx hk
    have : x ≠ r := by rintro rfl; rw [hr] at hk; cases hk
    exact h7 x k hx (by rw [Lg.put_ne _ _ _ this]; exact hk)
theorem HOpen.old (ho : HOpen L h its mp seq K) {r : Nat} {d : LC} (hr : r ≠ h) (hd : L r = some d) : K r = some d := by
  obtain ⟨sv, mb, es, h1, h2, h3, h4, h5, h6, h7⟩ := ho
  exact h7 r d hr hd

theorem hput_spec (hf : H_heap_Heap_put N F) (ho : HOpen L h its mp seq K) (i : Nat) (hi : i < its.length) (x : It) :
    CallL F (N k_heap_Heap_put) [.p (some (h, 0)), .i .i64 i, x.av] K fun v K' => v = .tup [] ∧ HOpen L h (its.set i x) (updI mp x.id (some (i : Int))) seq K' := by
  apply r_heap_Heap_put hf.code
  obtain ⟨sv, mb, es, h1, h2, h3, h4, h5, h6, h7⟩ := ho
  rcases h6 with ⟨rfl, _⟩ | ⟨b, cap, sp, rfl, a2, a3, a4, a5, a6⟩
  · simp at hi
  obtain ⟨es', hs, hM⟩ := h3.set x.id i
  unfold D_heap_Heap_put_1 It.av
  simp
  rw [newL_box_agg _ _ _ (by simp [It.cells])]
  intro r hr
  have nb : ∀ {y : Nat} {k : LC}, K y = some k → y ≠ r := fun hx hxr => by rw [hxr, hr] at hx; cases hx
  have n1 := nb h1
  have n2 := nb h2
  have n3 := nb a2
  have e1 : (i : Int) < (its.length : Int) := by omega
  have eb : ((K.put r (.raw (.cells x.cells))) b) = some (.raw (.cells (icells its ++ sp))) := by rw [Lg.put_ne _ _ _ n3]; exact a2
  have hlen : i * 3 + 3 ≤ (icells its ++ sp).length := by simp [icells_length]; omega
  have er : (K.put r (.raw (.cells x.cells))) r = some (.raw (.cells x.cells)) := Lg.put_same _ _ _
  simp [rdL, AB.read, look, Lg.put_apply, n1, Ne.symm n1, h1, cut, ble_nat]
  have el : 3 ≤ x.cells.length := by simp [It.cells]
  have et : List.take 3 x.cells = x.cells := by simp [It.cells]
  simp [el, et, wp_iad _ _ _ 3 b 0 its.length cap 3 .i64 (i : Int) (Int.natCast_nonneg _) e1]
  rw [stL_cells eb (by simp [It.cells]) (by simp [It.cells]) hlen]
  rw [icells_set its i x sp hi]
  simp [rdL, AB.read, look, Lg.put_apply, n1, Ne.symm n1, h1, a4, Ne.symm a4, Ne.symm n3, It.cells, msetW, n2, Ne.symm n2, a5, Ne.symm a5, h2, hs]
  refine ⟨_, Sees.refl _, .sl (some (b, 0)) its.length cap 3, mb, es', ?_, Lg.put_same _ _ _, hM, h4, h5, .inr ⟨b, cap, sp, by simp, ?_, by simpa using a3, a4, a5, a6⟩, ?_⟩
  · simp [Lg.put_apply, Ne.symm h4, Ne.symm a4, n1, h1]
  · simp [Lg.put_apply, a5]
  · intro y d hy hd
    have c1 : y ≠ r := by rintro rfl; rw [h7 y d hy hd] at hr; cases hr
    have c2 : y ≠ b := by rintro rfl; rw [a6] at hd; cases hd
    have c3 : y ≠ mb := by rintro rfl; rw [h5] at hd; cases hd
    simp [Lg.put_apply, c1, c2, c3, h7 y d hy hd]
theorem set_set_self (A : List It) (i : Nat) (y x : It) : (A.set i y).set i x = A.set i x := by simp
theorem set_gA {A : List It} {i : Nat} (hi : i < A.length) : A.set i (gA A i) = A := by
  apply List.ext_getElem?
  intro j
  rw [List.getElem?_set]
  by_cases hj : i = j
  · subst hj; simp [hi, gA]
  · simp [hj]
theorem hup_spec (hf : H_heap_Heap_up N F) {A : List It} (ho : HOpen L h A mp seq K) (i : Nat) (hi : i < A.length) (hn : A.length ≤ 1000000) (hc : ConsH A mp i) (he : Exx A i) :
    CallL F (N k_heap_Heap_up) [.p (some (h, 0)), .i .i64 i] K fun v K' => v = .tup [] ∧ ∃ A' mp', A'.Perm A ∧ HOpen L h A' mp' seq K' ∧ Cons A' mp' ∧ (Up A i → HeapA A') ∧ ∃ i', i' < A'.length ∧ gA A' i' = gA A i ∧ Dn A' i' := by
  apply r_heap_Heap_up hf.code
  generalize hQ : (fun (v : AV) (K' : Lg) => v = .tup [] ∧ ∃ A' mp', A'.Perm A ∧ HOpen L h A' mp' seq K' ∧ Cons A' mp' ∧ (Up A i → HeapA A') ∧ ∃ i', i' < A'.length ∧ gA A' i' = gA A i ∧ Dn A' i') = Q
  unfold D_heap_Heap_up_1
  have ho' := ho
  obtain ⟨sv, mb, es, h1, h2, h3, h4, h5, h6, h7⟩ := ho'
  rcases h6 with ⟨rfl, _⟩ | ⟨b, cap, sp, rfl, a2, a3, a4, a5, a6⟩
  · simp at hi
  have e1 : (i : Int) < (A.length : Int) := by omega
  have hat := icells_at A i (gA A i) sp (gA_get hi)
  have hat2 := hat.2
  rw [List.length_append] at hat2
  simp [rdL, AB.read, look, h1, wp_iad _ _ _ 3 b 0 A.length cap 3 .i64 (i : Int) (Int.natCast_nonneg _) e1, a2, cut, ble_nat, hat.1, hat2]
  intro x4 hx4
  rw [stL_cells (Lg.put_same _ _ _) (by simp [It.cells]) (by simp [It.cells]) (by simp), Lg.put_put, show splice [AV.i .i64 0, .i .i64 0, .i .i64 0] 0 (gA A i).cells = (gA A i).cells by simp [splice, It.cells]]
  have hne := ho.ne hx4
  obtain ⟨I, hI⟩ : ∃ I : Nat → Env → Lg → Prop, I = fun n l' K' => ∃ A' i' mp' y, A'.Perm A ∧ gA A' i' = gA A i ∧ i' < A'.length ∧ n = i' ∧ ConsH A' mp' i' ∧ (Up A' i' ∨ (A' = A ∧ i' = i)) ∧ (Up A i → Up A' i') ∧
    HOpen (L.put x4 (.raw (.cells (gA A i).cells))) h (A'.set i' y) mp' seq K' ∧ l' 0 = .p (some (h, 0)) ∧ l' 1 = .i .i64 i' ∧ l' 4 = .p (some (x4, 0)) := ⟨_, rfl⟩
  unfold D_heap_Heap_up_5
  refine loopW_intro I i ?_ ?_
  · rw [hI]
    refine ⟨A, i, mp, gA A i, List.Perm.refl _, rfl, hi, rfl, hc, .inr ⟨rfl, rfl⟩, id, ?_, by simp, by simp, by simp⟩
    rw [set_gA hi]
    exact ho.onto hx4 _
  · intro n l' t K' hinv
    rw [hI] at hinv
    obtain ⟨A', i', mp', y, p1, p2, p3, rfl, p5, p6, p7, p8, l0, l1, l4⟩ := hinv
    have plen := p1.length_eq
    unfold D_heap_Heap_up_6
    rw [l0, l1, l4]
    have k4 : K' x4 = some (.raw (.cells (gA A i).cells)) := p8.old hne.1 (Lg.put_same _ _ _)
    have hexx : Exx A' n := by
      rcases p6 with h8 | ⟨rfl, rfl⟩
      · exact ⟨fun j a b c d => h8.1 j a b c, h8.2⟩
      · exact he
    have fin : (n = 0 ∨ ¬ (gA A' n).lt (gA A' (par n))) → ∀ K2 : Lg, K2 = K' → D_heap_Heap_up_3 F N Q (.p (some (h, 0))) (.i .i64 n) (.p (some (x4, 0))) K2 := by
      rintro hcond K2 rfl
      unfold D_heap_Heap_up_3
      simp [rdL_cells k4 (show 0 + 3 ≤ (gA A i).cells.length by simp [It.cells])]
      have : AV.agg (List.take 3 (gA A i).cells) = (gA A i).av := by simp [It.cells, It.av]
      rw [this]
      refine (hput_spec hf.heap_Heap_put p8 n (by simpa using p3) (gA A i)).mono ?_
      rintro _ K3 ⟨rfl, ho3⟩
      rw [set_set_self, ← p2, set_gA p3] at ho3
      simp
      refine ⟨K3, Sees.refl _, ?_⟩
      subst hQ
      refine ⟨rfl, A', _, p1, ho3.weak hne.2, p5.fill p3, fun hu => (p7 hu).heap hcond, n, p3, p2, hexx.dn hcond⟩
    by_cases h0 : n = 0
    · subst h0
      simp
      exact fin (.inl rfl) _ rfl
    · have hpos : (0 : Int) < (n : Int) := by omega
      have hpos' : 0 < n := by omega
      obtain ⟨k, hk⟩ : ∃ k, k = n - 1 := ⟨_, rfl⟩
      have w1 : wr .i64 ((n : Int) - 1) = (k : Int) := by rw [wr_id (by omega) (by omega)]; omega
      obtain ⟨p, hp⟩ : ∃ p, p = par n := ⟨_, rfl⟩
      have hpk : p < n := by rw [hp]; exact par_lt (by omega)
      have w2 : wr .i64 ((k : Int).tdiv 4) = (p : Int) := by
        have e1 : (k : Int).tdiv 4 = ((k / 4 : Nat) : Int) := by rw [Int.ofNat_tdiv]; rfl
        have e2 : k / 4 = p := by rw [hp, hk]; rfl
        rw [e1, e2]
        exact wr_id (by omega) (by omega)
      have w3 : wr .i64 ((k : Int) / 4) = (p : Int) := by
        have e1 : (k : Int) / 4 = ((k / 4 : Nat) : Int) := rfl
        have e2 : k / 4 = p := by rw [hp, hk]; rfl
        rw [e1, e2]
        exact wr_id (by omega) (by omega)
      have hpl : p < A'.length := by omega
      have h40 : (4 : Int) ≠ 0 := by omega
      have p8' := p8
      obtain ⟨sv, mb, es, h1, h2, h3, h4, h5, h6, h7⟩ := p8'
      rcases h6 with ⟨h6, _⟩ | ⟨b, cap, sp, rfl, a2, a3, a4, a5, a6⟩
      · exfalso; have := congrArg List.length h6; rw [List.length_set, List.length_nil] at this; omega
      have e2 : (p : Int) < ((A'.set n y).length : Int) := by simp; omega
      have hat := icells_at (A'.set n y) p (gA A' p) sp (by rw [List.getElem?_set_ne (by omega)]; exact gA_get hpl)
      have hat2 := hat.2
      rw [List.length_append] at hat2
      rw [List.length_set] at h1 e2
      have et : AV.agg (List.take 3 (gA A i).cells) = (gA A i).av := by simp [It.cells, It.av]
      have et2 : AV.agg (gA A' p).cells = (gA A' p).av := rfl
      have el : 3 ≤ (gA A i).cells.length := by simp [It.cells]
      simp [hpos, hpos', rdL, AB.read, look, k4, h1, wp_quo _ _ _ _ _ _ h40, w2, w3, w1, wp_iad _ _ _ 3 b 0 A'.length cap 3 .i64 (p : Int) (Int.natCast_nonneg _) e2, a2, cut, ble_nat, hat.1, hat2, et, et2, el]
      refine (ahead_spec hf.heap_ahead (gA A i) (gA A' p)).mono ?_
      rintro _ K1 ⟨rfl, rfl⟩
      simp [hpos, hpos', It.cmp_neg]
      refine ⟨fun hlt => ?_, fun hlt => ?_⟩
      · simp [rdL, AB.read, look, h1, wp_quo _ _ _ _ _ _ h40, w2, w3, w1, wp_iad _ _ _ 3 b 0 A'.length cap 3 .i64 (p : Int) (Int.natCast_nonneg _) e2, a2, cut, ble_nat, hat.1, hat2, et2]
        refine (hput_spec hf.heap_Heap_put p8 n (by simpa using p3) (gA A' p)).mono ?_
        rintro _ K3 ⟨rfl, ho3⟩
        rw [set_set_self] at ho3
        simp [wp_quo _ _ _ _ _ _ h40, w2, w3, w1]
        refine ⟨p, hpk, ?_⟩
        rw [hI]
        have hltp : (gA A' n).lt (gA A' (par n)) := by rw [p2, ← hp]; exact hlt
        have hup : Up A' n := by
          rcases p6 with h8 | ⟨rfl, rfl⟩
          · exact h8
          · exact he.up hpos' hltp
        have hst := hup.step hpos' p3 hltp
        rw [← hp] at hst
        refine ⟨swap A' n p, p, _, gA A' p, (swap_perm p3 hpl).trans p1, ?_, by rw [swap_length]; exact hpl, rfl, p5.step p3 hpl (by omega), .inl hst, fun _ => hst, ?_, by simp [l0], by simp, by simp [l4]⟩
        · rw [gA_swap p3 hpl, if_pos rfl, p2]
        · have : (swap A' n p).set p (gA A' p) = A'.set n (gA A' p) := by
            unfold swap
            rw [set_set_self]
            apply List.ext_getElem?
            intro j
            rw [List.getElem?_set]
            by_cases hj : p = j
            · subst hj
              simp [hpl, List.getElem?_set, gA]
              rw [List.getElem_set_ne (by omega)]
            · simp [hj]
          rw [this]
          exact ho3
      · refine fin (.inr ?_) _ rfl
        rw [p2, ← hp]; exact hlt
theorem hdown_spec (hf : H_heap_Heap_down N F) {A : List It} (ho : HOpen L h A mp seq K) (i : Nat) (hi : i < A.length) (hn : A.length ≤ 1000000) (hc : Cons A mp) (he : Dn A i) :
    CallL F (N k_heap_Heap_down) [.p (some (h, 0)), .i .i64 i] K fun v K' => v = .tup [] ∧ ∃ A' mp', A'.Perm A ∧ HOpen L h A' mp' seq K' ∧ Cons A' mp' ∧ HeapA A' := by
  apply r_heap_Heap_down hf.code
  generalize hQ : (fun (v : AV) (K' : Lg) => v = .tup [] ∧ ∃ A' mp', A'.Perm A ∧ HOpen L h A' mp' seq K' ∧ Cons A' mp' ∧ HeapA A') = Q
  unfold D_heap_Heap_down_1
  have ho' := ho
  obtain ⟨sv, mb, es, h1, h2, h3, h4, h5, h6, h7⟩ := ho'
  rcases h6 with ⟨rfl, _⟩ | ⟨b, cap, sp, rfl, a2, a3, a4, a5, a6⟩
  · simp at hi
  have e1 : (i : Int) < (A.length : Int) := by omega
  have hat := icells_at A i (gA A i) sp (gA_get hi)
  have hat2 := hat.2
  rw [List.length_append] at hat2
  simp [rdL, AB.read, look, h1, wp_iad _ _ _ 3 b 0 A.length cap 3 .i64 (i : Int) (Int.natCast_nonneg _) e1, a2, cut, ble_nat, hat.1, hat2]
  intro x4 hx4
  rw [stL_cells (Lg.put_same _ _ _) (by simp [It.cells]) (by simp [It.cells]) (by simp), Lg.put_put, show splice [AV.i .i64 0, .i .i64 0, .i .i64 0] 0 (gA A i).cells = (gA A i).cells by simp [splice, It.cells]]
  have hne := ho.ne hx4
  obtain ⟨I, hI⟩ : ∃ I : Nat → Env → Lg → Prop, I = fun n l' K' => ∃ A' i' mp' y, A'.Perm A ∧ gA A' i' = gA A i ∧ i' < A'.length ∧ n = A'.length - i' ∧ ConsH A' mp' i' ∧ Dn A' i' ∧
    HOpen (L.put x4 (.raw (.cells (gA A i).cells))) h (A'.set i' y) mp' seq K' ∧ l' 0 = .p (some (h, 0)) ∧ l' 1 = .i .i64 i' ∧ l' 4 = .p (some (x4, 0)) := ⟨_, rfl⟩
  unfold D_heap_Heap_down_5
  clear h1 h2 h3 h4 h5 h7 a2 a3 a4 a5 a6 hat hat2 e1
  refine loopW_intro I (A.length - i) ?_ ?_
  · rw [hI]
    refine ⟨A, i, mp, gA A i, List.Perm.refl _, rfl, hi, rfl, hc.hole i, he, ?_, by simp, by simp, by simp⟩
    rw [set_gA hi]
    exact ho.onto hx4 _
  · intro n l' t K' hinv
    rw [hI] at hinv
    obtain ⟨A', i', mp', y, p1, p2, p3, hn', p5, p6, p8, l0, l1, l4⟩ := hinv
    have plen := p1.length_eq
    have k4 : K' x4 = some (.raw (.cells (gA A i).cells)) := p8.old hne.1 (Lg.put_same _ _ _)
    have fin : (∀ j, 0 < j → j < A'.length → par j = i' → ¬ (gA A' j).lt (gA A' i')) → D_heap_Heap_down_3 F N Q (.p (some (h, 0))) (.i .i64 i') (.p (some (x4, 0))) K' := by
      intro hcond
      unfold D_heap_Heap_down_3
      simp [rdL_cells k4 (show 0 + 3 ≤ (gA A i).cells.length by simp [It.cells])]
      have : AV.agg (List.take 3 (gA A i).cells) = (gA A i).av := by simp [It.cells, It.av]
      rw [this]
      refine (hput_spec hf.heap_Heap_put p8 i' (by simpa using p3) (gA A i)).mono ?_
      rintro _ K3 ⟨rfl, ho3⟩
      rw [set_set_self, ← p2, set_gA p3] at ho3
      simp
      refine ⟨K3, Sees.refl _, ?_⟩
      subst hQ
      exact ⟨rfl, A', _, p1, ho3.weak hne.2, p5.fill p3, p6.heap hcond⟩
    have p8' := p8
    obtain ⟨sv, mb, es, h1, h2, h3, h4, h5, h6, h7⟩ := p8'
    rcases h6 with ⟨h6, _⟩ | ⟨b, cap, sp, rfl, a2, a3, a4, a5, a6⟩
    · exfalso; have := congrArg List.length h6; rw [List.length_set, List.length_nil] at this; omega
    rw [List.length_set] at h1 a3
    obtain ⟨fst, hfst⟩ : ∃ fst, fst = 4 * i' + 1 := ⟨_, rfl⟩
    have w1 : wr .i64 (4 * (i' : Int)) = 4 * (i' : Int) := wr_id (by omega) (by omega)
    have w2 : wr .i64 (4 * (i' : Int) + 1) = (fst : Int) := by rw [wr_id (by omega) (by omega)]; omega
    have rdel : ∀ j, j < A'.length → j ≠ i' → List.take 3 (List.drop (j * 3) (icells (A'.set i' y) ++ sp)) = (gA A' j).cells ∧ j * 3 + 3 ≤ (icells (A'.set i' y)).length + sp.length := by
      intro j hj hji
      have := icells_at (A'.set i' y) j (gA A' j) sp (by rw [List.getElem?_set_ne (Ne.symm hji)]; exact gA_get hj)
      rw [List.length_append] at this
      exact this
    have kids : ∀ j, 0 < j → (par j = i' ↔ fst ≤ j ∧ j < fst + 4) := by intro j hj; unfold par; omega
    unfold D_heap_Heap_down_7 D_heap_Heap_down_8
    rw [l1]
    simp [w1, w2, l0, l1, l4, rdL, AB.read, look, h1]
    refine ⟨fun hge => ?_, fun hlt => ?_⟩
    · refine fin fun j h0 hj hpj => ?_
      have := (kids j h0).1 hpj
      omega
    · have hlt' : fst < A'.length := by omega
      unfold D_heap_Heap_down_9 D_heap_Heap_down_12
      have w3 : wr .i64 ((fst : Int) + 1) = ((fst + 1 : Nat) : Int) := by rw [wr_id (by omega) (by omega)]; omega
      simp
      rw [w3]
      unfold D_heap_Heap_down_14
      obtain ⟨J, hJ⟩ : ∃ J : Nat → Env → Lg → Prop, J = fun m l'' K'' => ∃ ls k : Nat, fst ≤ ls ∧ ls < k ∧ k ≤ fst + 4 ∧ k ≤ A'.length ∧ m = fst + 4 - k ∧ (∀ j, fst ≤ j → j < k → ¬ (gA A' j).lt (gA A' ls)) ∧ K'' = K' ∧
        l'' 0 = .p (some (h, 0)) ∧ l'' 1 = .i .i64 i' ∧ l'' 4 = .p (some (x4, 0)) ∧ l'' 5 = .i .i64 fst ∧ l'' 6 = .i .i64 ls ∧ l'' 7 = .i .i64 k := ⟨_, rfl⟩
      refine loopW_intro J 3 ?_ ?_
      · rw [hJ]
        refine ⟨fst, fst + 1, by omega, by omega, by omega, by omega, by omega, ?_, rfl, by simp [l0], by simp [l1], by simp [l4], by simp, by simp, by simp⟩
        intro j h1 h2
        have : j = fst := by omega
        subst this; exact It.lt_irrefl _
      · intro m l'' t'' K'' hj
        rw [hJ] at hj
        obtain ⟨ls, k, c1, c2, c3, c4, rfl, c6, rfl, d0, d1, d4, d5, d6, d7⟩ := hj
        have w4 : wr .i64 ((fst : Int) + 4) = (fst : Int) + 4 := wr_id (by omega) (by omega)
        have hlsl : ls < A'.length := by omega
        have els : (ls : Int) < (A'.length : Int) := by omega
        have rls := rdel ls hlsl (by omega)
        have etl : AV.agg (gA A' ls).cells = (gA A' ls).av := rfl
        unfold D_heap_Heap_down_15
        rw [d0, d5, d6, d7]
        have w5 : wr .i64 ((k : Int) + 1) = ((k + 1 : Nat) : Int) := by rw [wr_id (by omega) (by omega)]; omega
        by_cases hk : k < fst + 4 ∧ k < A'.length
        · have hk1 : (k : Int) < (fst : Int) + 4 ∧ (k : Int) < (A'.length : Int) := by omega
          have hk2 : (k : Int) < min ((fst : Int) + 4) (A'.length : Int) := by omega
          have rk := rdel k hk.2 (by omega)
          have etk : AV.agg (gA A' k).cells = (gA A' k).av := rfl
          simp [w4, rdL, AB.read, look, h1, hk1, hk.2, wp_iad _ _ _ 3 b 0 A'.length cap 3 .i64 (k : Int) (Int.natCast_nonneg _) hk1.2, wp_iad _ _ _ 3 b 0 A'.length cap 3 .i64 (ls : Int) (Int.natCast_nonneg _) els, a2, cut, ble_nat, rk.1, rk.2, rls.1, rls.2, etk, etl]
          refine ⟨fun _ => ?_, fun hx => by omega⟩
          refine (ahead_spec hf.heap_ahead (gA A' k) (gA A' ls)).mono ?_
          rintro _ K1 ⟨rfl, rfl⟩
          simp [It.cmp_neg]
          refine ⟨fun hl => ?_, fun hl => ?_⟩
          · refine ⟨fst + 4 - (k + 1), by omega, ?_⟩
            rw [hJ]
            refine ⟨k, k + 1, by omega, by omega, by omega, by omega, rfl, ?_, rfl, by simp [d0], by simp [d1], by simp [d4], by simp [d5], by simp, by simp [w5]⟩
            intro j j1 j2
            by_cases hjk : j = k
            · subst hjk; exact It.lt_irrefl _
            · exact fun h9 => c6 j j1 (by omega) (It.lt_trans h9 hl)
          · refine ⟨fst + 4 - (k + 1), by omega, ?_⟩
            rw [hJ]
            refine ⟨ls, k + 1, by omega, by omega, by omega, by omega, rfl, ?_, rfl, by simp [d0], by simp [d1], by simp [d4], by simp [d5], by simp [d6], by simp [w5]⟩
            intro j j1 j2
            by_cases hjk : j = k
            · subst hjk; exact hl
            · exact c6 j j1 (by omega)
        · have hk2 : ¬ ((k : Int) < min ((fst : Int) + 4) (A'.length : Int)) := by omega
          have hmin : ∀ j, 0 < j → j < A'.length → par j = i' → ¬ (gA A' j).lt (gA A' ls) := by
            intro j h0 hj hpj
            have := (kids j h0).1 hpj
            exact c6 j this.1 (by omega)
          have etx : AV.agg (List.take 3 (gA A i).cells) = (gA A i).av := by simp [It.cells, It.av]
          have elx : 3 ≤ (gA A i).cells.length := by simp [It.cells]
          have hk3 : (k : Int) < (fst : Int) + 4 → (A'.length : Int) ≤ (k : Int) := by omega
          have hk4 : ¬ ((k : Int) < (fst : Int) + 4 ∧ (k : Int) < (A'.length : Int)) := by omega
          simp [w4, rdL, AB.read, look, h1]
          refine ⟨fun hx1 => by omega, fun _ => ?_⟩
          unfold D_heap_Heap_down_11
          rw [d0, d1, d4, d6]
          simp [rdL, AB.read, look, h1, k4, wp_iad _ _ _ 3 b 0 A'.length cap 3 .i64 (ls : Int) (Int.natCast_nonneg _) els, a2, cut, ble_nat, rls.1, rls.2, etl, etx, elx]
          refine (ahead_spec hf.heap_ahead (gA A i) (gA A' ls)).mono ?_
          rintro _ K1 ⟨rfl, rfl⟩
          simp [It.cmp_neg]
          refine ⟨fun hl => ?_, fun hl => ?_⟩
          · refine fin fun j h0 hj hpj => ?_
            have := hmin j h0 hj hpj
            rw [p2]
            exact fun h9 => this (It.lt_trans h9 hl)
          · simp [rdL, AB.read, look, h1, wp_iad _ _ _ 3 b 0 A'.length cap 3 .i64 (ls : Int) (Int.natCast_nonneg _) els, a2, cut, ble_nat, rls.1, rls.2, etl]
            refine (hput_spec hf.heap_Heap_put p8 i' (by simpa using p3) (gA A' ls)).mono ?_
            rintro _ K3 ⟨rfl, ho3⟩
            rw [set_set_self] at ho3
            have hls0 : 0 < ls := by omega
            have hpls : par ls = i' := (kids ls hls0).2 ⟨c1, by omega⟩
            have hst := p6.step hls0 hlsl hpls hmin (by rw [p2]; exact hl)
            refine ⟨A'.length - ls, by omega, ?_⟩
            rw [hI]
            refine ⟨swap A' i' ls, ls, _, gA A' ls, (swap_perm p3 hlsl).trans p1, ?_, by rw [swap_length]; exact hlsl, by rw [swap_length], p5.step p3 hlsl (by omega), hst, ?_, by simp [d0], by simp, by simp [d4]⟩
            · rw [gA_swap p3 hlsl, if_pos rfl, p2]
            · have : (swap A' i' ls).set ls (gA A' ls) = A'.set i' (gA A' ls) := by
                unfold swap
                rw [set_set_self]
                apply List.ext_getElem?
                intro j
                rw [List.getElem?_set]
                by_cases hj : ls = j
                · subst hj
                  simp [hlsl, List.getElem?_set, gA]
                  rw [List.getElem_set_ne (by omega)]
                · simp [hj]
              rw [this]
              exact ho3
end
end Go.AM


/- heap: add, remove, find, min, pop. -/
set_option linter.unusedVariables false
set_option linter.unusedSimpArgs false
namespace Go.AM
variable {N : Nat → Nat} {F : Nat → Option AFn}

/-! ### rows in order -/
def ins (x : It) : List It → List It
  | [] => [x]
  | y :: r => if x.lt y then x :: y :: r else y :: ins x r
def rmId (id : Int) (l : List It) : List It := l.filter fun y => !decide (y.id = id)
def findId (id : Int) (l : List It) : Option It := l.find? fun y => decide (y.id = id)
theorem cons_set_perm {α : Type} (y : α) : ∀ (l : List α) (i : Nat) (h : i < l.length), (l[i] :: l.set i y).Perm (y :: l)
  | [], i, h => by simp at h
  | a :: r, 0, h => by simpa using List.Perm.swap y a r
  | a :: r, i + 1, h => by
    have := cons_set_perm y r i (by simpa using h)
    simp only [List.set_cons_succ, List.getElem_cons_succ]
    exact (List.Perm.swap a _ _).trans ((this.cons a).trans (List.Perm.swap y a r))

/-- a heap: its items in order, and the count -/
def HeapP (h : Nat) (l : List It) (seq : Int) (hp : Hp) : Prop := ∃ its mp M, HOpen Lg.nil h its mp seq M ∧ Cons its mp ∧ HeapA its ∧ its.Perm l ∧ Sat M hp

section
variable {L K : Lg} {h : Nat} {its l : List It} {mp : Int → Option Int} {seq : Int}
theorem HOpen.shut (ho : HOpen L h its mp seq K) (hc : Cons its mp) (hh : HeapA its) (hp : its.Perm l) : Sees K (L.put h (.abs (HeapP h l seq))) := by
  obtain ⟨sv, mb, es, h1, h2, h3, h4, h5, h6, h7⟩ := ho
  rcases h6 with ⟨rfl, rfl⟩ | ⟨b, cap, sp, rfl, a2, a3, a4, a5, a6⟩
  · refine Sees.shutAt (fun r => r = h ∨ r = mb) (.inl rfl) ?_ ?_ (.inl ⟨_, h1⟩) ?_
    · intro r d hr hd; simp only [not_or] at hr; exact h7 r d hr.1 hd
    · rintro r (rfl | rfl) hr
      · exact absurd rfl hr
      · exact h5
    · intro M hm hM hN hs
      refine ⟨[], mp, M, ⟨_, mb, es, by rw [hM h (.inl rfl)]; exact h1, by rw [hM mb (.inr rfl)]; exact h2, h3, h4, rfl, .inl ⟨rfl, rfl⟩, fun r d _ hd => by cases hd⟩, hc, hh, hp, hs⟩
  · refine Sees.shutAt (fun r => r = h ∨ r = mb ∨ r = b) (.inl rfl) ?_ ?_ (.inl ⟨_, h1⟩) ?_
    · intro r d hr hd; simp only [not_or] at hr; exact h7 r d hr.1 hd
    · rintro r (rfl | rfl | rfl) hr
      · exact absurd rfl hr
      · exact h5
      · exact a6
    · intro M hm hM hN hs
      refine ⟨its, mp, M, ⟨_, mb, es, by rw [hM h (.inl rfl)]; exact h1, by rw [hM mb (.inr (.inl rfl))]; exact h2, h3, h4, rfl, .inr ⟨b, cap, sp, rfl, by rw [hM b (.inr (.inr rfl))]; exact a2, a3, a4, a5, rfl⟩, fun r d _ hd => by cases hd⟩, hc, hh, hp, hs⟩
theorem CallL.openH {f : Nat} {vs : List AV} {Q : AV → Lg → Prop} (e : L h = some (.abs (HeapP h l seq)))
    (H : ∀ its mp K, HOpen L h its mp seq K → Cons its mp → HeapA its → its.Perm l → CallL F f vs K Q) : CallL F f vs L Q := by
  apply CallL.opens e
  rintro hm ⟨its, mp, M, ho, hc, hh, hp, hs⟩
  obtain ⟨sv, mb, es, h1, h2, h3, h4, h5, h6, h7⟩ := ho
  refine ⟨M, hs, by rw [h1]; simp, fun hf => ?_⟩
  have hover : ∀ b d, M b = some d → (M.over L) b = some d := fun b d hb => by simp [Lg.over, hb]
  refine H its mp (M.over L) ⟨sv, mb, es, hover _ _ h1, hover _ _ h2, h3, h4, hf _ _ h2 h4, ?_, ?_⟩ hc hh hp
  · rcases h6 with h6 | ⟨b, cap, sp, a1, a2, a3, a4, a5, a6⟩
    · exact .inl h6
    · exact .inr ⟨b, cap, sp, a1, hover _ _ a2, a3, a4, a5, hf _ _ a2 a4⟩
  · intro r d hr hd
    cases hM : M r with
    | none => simp [Lg.over, hM, hd]
    | some c => rw [hf r c hM hr] at hd; cases hd
theorem HOpen.back (ho : HOpen L h its mp seq K) (hc : Cons its mp) (hh : HeapA its) (hp : its.Perm l) (e : L h = some (.abs (HeapP h l seq))) : Sees K L := by
  have := ho.shut hc hh hp
  rwa [Lg.put_self L h _ e] at this
theorem Cons.find {A : List It} {mp : Int → Option Int} (hc : Cons A mp) (hp : A.Perm l) (id : Int) : (mp id = none ∧ findId id l = none) ∨ ∃ j, j < A.length ∧ mp id = some (j : Int) ∧ findId id l = some (gA A j) ∧ (gA A j).id = id := by
  have huniq : ∀ x y, x ∈ A → y ∈ A → x.id = y.id → x = y := by
    intro x y hx hy e
    obtain ⟨i, hi, rfl⟩ := List.getElem_of_mem hx
    obtain ⟨j, hj, rfl⟩ := List.getElem_of_mem hy
    have e1 : gA A i = A[i] := by simp [gA, hi]
    have e2 : gA A j = A[j] := by simp [gA, hj]
    rw [← e1, ← e2] at e
    have := hc.1 i j hi hj e
    subst this; rfl
  cases hm : mp id with
  | none =>
    refine .inl ⟨rfl, ?_⟩
    unfold findId
    rw [List.find?_eq_none]
    intro x hx
    have hxA := hp.mem_iff.2 hx
    obtain ⟨j, hj, rfl⟩ := List.getElem_of_mem hxA
    have := hc.2.1 j hj
    have e1 : gA A j = A[j] := by simp [gA, hj]
    rw [e1] at this
    simp
    rintro rfl
    rw [hm] at this; cases this
  | some v =>
    obtain ⟨j, hj, rfl, hid⟩ := hc.2.2 id v hm
    refine .inr ⟨j, hj, rfl, ?_, hid⟩
    have e1 : gA A j = A[j] := by simp [gA, hj]
    have hmem : gA A j ∈ l := hp.mem_iff.1 (by rw [e1]; exact List.getElem_mem _)
    cases hf : findId id l with
    | none =>
      unfold findId at hf
      rw [List.find?_eq_none] at hf
      have := hf _ hmem
      simp [hid] at this
    | some z =>
      have hz1 := List.mem_of_find?_eq_some hf
      have hz2 := List.find?_some hf
      simp at hz2
      rw [huniq z (gA A j) (hp.mem_iff.2 hz1) (hp.mem_iff.2 hmem) (by rw [hz2, hid])]
def retIt (o : Option It) : AV := match o with
  | some x => .tup [x.av, .b true]
  | none => .tup [It.zero.av, .b false]
theorem hfind_open (hf : H_heap_Heap_Find N F) (ho : HOpen L h its mp seq K) (hc : Cons its mp) (hp : its.Perm l) (id : Int) : CallL F (N k_heap_Heap_Find) [.p (some (h, 0)), .i .i64 id] K fun v K' => v = retIt (findId id l) ∧ K' = K := by
  obtain ⟨sv, mb, es, h1, h2, h3, h4, h5, h6, h7⟩ := ho
  apply r_heap_Heap_Find hf.code
  generalize hQ : (fun (v : AV) (K' : Lg) => v = retIt (findId id l) ∧ K' = K) = Q
  unfold D_heap_Heap_Find_1
  simp
  intro r hr
  have nb : ∀ {y : Nat} {k : LC}, K y = some k → y ≠ r := fun hx hxr => by rw [hxr, hr] at hx; cases hx
  have n1 := nb h1
  have n2 := nb h2
  have hd : ∀ c : List AV, Sees (K.put r (.raw (.cells c))) K := fun c => ((Ext2.refl K).put hr _).sees
  rcases hc.find hp id with ⟨m1, m2⟩ | ⟨j, hj, m1, m2, m3⟩
  · simp [rdL, AB.read, look, Lg.put_apply, n1, h1, rLkupL, n2, h2, h3.find id, m1, fillP, stL_cells (Lg.put_same _ _ _), splice, res_cell_tmp _ _ (Lg.put_same _ _ _)]
    refine ⟨K, hd _, ?_⟩
    subst hQ
    exact ⟨by rw [m2]; rfl, rfl⟩
  · rcases h6 with ⟨rfl, rfl⟩ | ⟨b, cap, sp, rfl, a2, a3, a4, a5, a6⟩
    · simp at hj
    · have n3 := nb a2
      have ej : (j : Int) < (its.length : Int) := by omega
      have hat := icells_at its j (gA its j) sp (gA_get hj)
      have hat2 := hat.2
      rw [List.length_append] at hat2
      simp [rdL, AB.read, look, Lg.put_apply, n1, h1, rLkupL, n2, h2, h3.find id, m1, wp_iad _ _ _ 3 b 0 its.length cap 3 .i64 (j : Int) (Int.natCast_nonneg _) ej, n3, a2, cut, ble_nat, hat.1, hat2]
      rw [stL_cells (Lg.put_same _ _ _) (by simp [It.cells]) (by simp [It.cells]) (by simp)]
      simp
      rw [res_cell_tmp _ _ (Lg.put_same _ _ _) (by simp [splice, It.cells])]
      simp [splice, It.cells]
      refine ⟨K, hd _, ?_⟩
      subst hQ
      exact ⟨by rw [m2]; rfl, rfl⟩
end
end Go.AM


/- heap: remove, pop. -/
set_option linter.unusedVariables false
set_option linter.unusedSimpArgs false
namespace Go.AM
variable {N : Nat → Nat} {F : Nat → Option AFn}

theorem slc_hi {s r o len cap ex m : Nat} {j : IntKind} (h1 : m ≤ cap) (h2 : ex = 0 ∨ ex = s) : slcV s false true false [.sl (some (r, o)) len cap ex, .i j (m : Int)] = some (.sl (some (r, o)) m cap ex) := by
  show (bif Nat.ble 0 m && Nat.ble m cap && Nat.ble cap cap && (Nat.beq ex 0 || Nat.beq ex s) then _ else _) = _
  have : (Nat.beq ex 0 || Nat.beq ex s) = true := by rcases h2 with rfl | rfl <;> simp [beq_nat]
  simp [ble_nat, h1, this]
section
variable {L L0 K : Lg} {h : Nat} {its l : List It} {mp : Int → Option Int} {seq : Int}
theorem HOpen.sub (ho : HOpen L0 h its mp seq K) (hs : ∀ r d, r ≠ h → L r = some d → L0 r = some d) : HOpen L h its mp seq K := by
  obtain ⟨sv, mb, es, h1, h2, h3, h4, h5, h6, h7⟩ := ho
  have hn : ∀ r, r ≠ h → L0 r = none → L r = none := by
    intro r hr h0
    cases e : L r with
    | none => rfl
    | some d => rw [hs r d hr e] at h0; cases h0
  refine ⟨sv, mb, es, h1, h2, h3, h4, hn mb h4 h5, ?_, fun r d hr hd => h7 r d hr (hs r d hr hd)⟩
  rcases h6 with h6 | ⟨b, cap, sp, a1, a2, a3, a4, a5, a6⟩
  · exact .inl h6
  · exact .inr ⟨b, cap, sp, a1, a2, a3, a4, a5, hn b a4 a6⟩
theorem HOpen.putOld (ho : HOpen L h its mp seq K) {r : Nat} {d : LC} (hr : r ≠ h) (hd : L r = some d) (d' : LC) : HOpen (L.put r d') h its mp seq (K.put r d') := by
  obtain ⟨sv, mb, es, h1, h2, h3, h4, h5, h6, h7⟩ := ho
  have n1 : mb ≠ r := by rintro rfl; rw [hd] at h5; cases h5
  refine ⟨sv, mb, es, by rw [Lg.put_ne _ _ _ (Ne.symm hr)]; exact h1, by rw [Lg.put_ne _ _ _ n1]; exact h2, h3, h4, by rw [Lg.put_ne _ _ _ n1]; exact h5, ?_, ?_⟩
  · rcases h6 with h6 | ⟨b, cap, sp, a1, a2, a3, a4, a5, a6⟩
    · exact .inl h6
    · have n2 : b ≠ r := by rintro rfl; rw [hd] at a6; cases a6
      exact .inr ⟨b, cap, sp, a1, by rw [Lg.put_ne _ _ _ n2]; exact a2, a3, a4, a5, by rw [Lg.put_ne _ _ _ n2]; exact a6⟩
  · intro x k hx hk
    rw [Lg.put_apply] at hk ⊢
    split
    · rename_i h9; rw [if_pos h9] at hk; exact hk
    · rename_i h9; rw [if_neg h9] at hk; exact h7 x k hx hk

/-! ### one less -/
theorem gA_take {A : List It} {n j : Nat} (hj : j < n) : gA (A.take n) j = gA A j := by
  simp [gA, List.getElem?_take, hj]
/-- the last one is gone -/
theorem cons_drop {A : List It} {mp : Int → Option Int} (hc : Cons A mp) (hn : 0 < A.length) : Cons (A.take (A.length - 1)) (updI mp (gA A (A.length - 1)).id none) := by
  have hl : (A.take (A.length - 1)).length = A.length - 1 := by simp
  refine ⟨?_, ?_, ?_⟩
  · intro j k hj hk e
    rw [hl] at hj hk
    rw [gA_take hj, gA_take hk] at e
    exact hc.1 j k (by omega) (by omega) e
  · intro j hj
    rw [hl] at hj
    rw [gA_take hj]
    unfold updI
    have : (gA A (A.length - 1)).id ≠ (gA A j).id := fun e => by have := hc.1 _ _ (by omega) (by omega) e; omega
    rw [if_neg this]
    exact hc.2.1 j (by omega)
  · intro k v hk
    unfold updI at hk
    split at hk
    · cases hk
    · rename_i hne
      obtain ⟨j, hj, hv, hid⟩ := hc.2.2 k v hk
      have : j ≠ A.length - 1 := by rintro rfl; exact hne hid
      exact ⟨j, by rw [hl]; omega, hv, by rw [gA_take (by omega)]; exact hid⟩
theorem heap_drop {A : List It} (hh : HeapA A) : HeapA (A.take (A.length - 1)) := by
  intro j h0 hj
  simp at hj
  have := par_lt h0
  rw [gA_take (by omega), gA_take (by omega)]
  exact hh j h0 (by omega)
/-- the last one stands where one was -/
theorem cons_fill {A : List It} {mp : Int → Option Int} (hc : Cons A mp) {i : Nat} (hi : i < A.length - 1) :
    Cons ((A.take (A.length - 1)).set i (gA A (A.length - 1))) (updI (updI mp (gA A i).id none) (gA A (A.length - 1)).id (some (i : Int))) := by
  have hl : (A.take (A.length - 1)).length = A.length - 1 := by simp
  have hg : ∀ j, j < A.length - 1 → gA ((A.take (A.length - 1)).set i (gA A (A.length - 1))) j = if i = j then gA A (A.length - 1) else gA A j := by
    intro j hj; rw [gA_set (by rw [hl]; exact hi)]; split
    · rfl
    · exact gA_take hj
  have hl' : ((A.take (A.length - 1)).set i (gA A (A.length - 1))).length = A.length - 1 := by simp
  have huniq : ∀ j k, j < A.length → k < A.length → (gA A j).id = (gA A k).id → j = k := hc.1
  refine ⟨?_, ?_, ?_⟩
  · intro j k hj hk e
    rw [hl'] at hj hk
    rw [hg j hj, hg k hk] at e
    by_cases j1 : i = j <;> by_cases k1 : i = k
    · omega
    · simp only [j1, if_true] at e
      rw [if_neg (by omega)] at e
      have := huniq _ _ (by omega) (by omega) e; omega
    · simp only [k1, if_true] at e
      rw [if_neg (by omega)] at e
      have := huniq _ _ (by omega) (by omega) e; omega
    · simp only [j1, k1, if_false] at e
      exact huniq _ _ (by omega) (by omega) e
  · intro j hj
    rw [hl'] at hj
    rw [hg j hj]
    unfold updI
    by_cases j1 : i = j
    · simp [j1]
    · simp only [j1, if_false]
      have n1 : (gA A (A.length - 1)).id ≠ (gA A j).id := fun e => by have := huniq _ _ (by omega) (by omega) e; omega
      have n2 : (gA A i).id ≠ (gA A j).id := fun e => by have := huniq _ _ (by omega) (by omega) e; omega
      rw [if_neg n1, if_neg n2]
      exact hc.2.1 j (by omega)
  · intro k v hk
    unfold updI at hk
    split at hk
    · rename_i h1; cases hk
      exact ⟨i, by rw [hl']; exact hi, rfl, by rw [hg i hi, if_pos rfl]; exact h1⟩
    · rename_i h1
      split at hk
      · cases hk
      · rename_i h2
        obtain ⟨j, hj, hv, hid⟩ := hc.2.2 k v hk
        have a1 : j ≠ A.length - 1 := by rintro rfl; exact h1 hid
        have a2 : i ≠ j := by rintro rfl; exact h2 hid
        exact ⟨j, by rw [hl']; omega, hv, by rw [hg j (by omega), if_neg a2]; exact hid⟩
theorem exx_fill {A : List It} (hh : HeapA A) {i : Nat} (hi : i < A.length - 1) (y : It) : Exx ((A.take (A.length - 1)).set i y) i := by
  have hl : (A.take (A.length - 1)).length = A.length - 1 := by simp
  have hg : ∀ j, j < A.length - 1 → j ≠ i → gA ((A.take (A.length - 1)).set i y) j = gA A j := by
    intro j hj hji; rw [gA_set (by rw [hl]; exact hi), if_neg (Ne.symm hji)]; exact gA_take hj
  refine ⟨fun j h0 hj hji hp => ?_, fun j h0 hj hp h00 => ?_⟩
  · simp at hj
    have := par_lt h0
    rw [hg j (by omega) hji, hg _ (by omega) hp]
    exact hh j h0 (by omega)
  · simp at hj
    have h1 := par_lt h0
    have h2 := par_lt h00
    rw [hg j (by omega) (by omega), hg _ (by omega) (by omega)]
    have a1 := hh j h0 (by omega)
    rw [hp] at a1
    exact It.ge_trans a1 (hh i h00 (by omega))
theorem take_last {A : List It} (hn : 0 < A.length) : A.take (A.length - 1) ++ [gA A (A.length - 1)] = A := by
  have h1 : gA A (A.length - 1) = A[A.length - 1] := by simp [gA, show A.length - 1 < A.length by omega]
  rw [h1]
  have := List.take_append_getElem (l := A) (i := A.length - 1) (by omega)
  rw [this]
  exact List.take_of_length_le (by omega)
theorem rm_perm {A : List It} (hc : Ids A) {i : Nat} (hi : i < A.length) (hp : A.Perm l) : ∀ B : List It, (gA A i :: B).Perm A → B.Perm (rmId (gA A i).id l) := by
  intro B hB
  have h1 := (hB.trans hp).filter (fun y => !decide (y.id = (gA A i).id))
  have h2 : (gA A i :: B).filter (fun y => !decide (y.id = (gA A i).id)) = B := by
    rw [List.filter_cons]
    simp
    intro y hy
    -- one and no other has that number
    intro hid
    have hcnt : (A.filter fun y => decide (y.id = (gA A i).id)).length ≤ 1 := by
      have : ∀ (A : List It), Ids A → ∀ d, (A.filter fun y => decide (y.id = d)).length ≤ 1 := by
        intro A
        induction A with
        | nil => intro _ d; simp
        | cons a r ih =>
          intro hA d
          have hr : Ids r := by
            intro j k hj hk e
            have := hA (j + 1) (k + 1) (by simpa using hj) (by simpa using hk) (by simpa [gA] using e)
            omega
          rw [List.filter_cons]
          split
          · rename_i had
            simp at had
            have : (r.filter fun y => decide (y.id = d)) = [] := by
              rw [List.filter_eq_nil_iff]
              intro z hz
              simp
              intro hzd
              obtain ⟨k, hk, rfl⟩ := List.getElem_of_mem hz
              have := hA 0 (k + 1) (by simp) (by simpa using hk) (by simp [gA, hk, had, hzd])
              omega
            simp [this]
          · exact ih hr d
      exact this A hc _
    have h3 := (hB.filter (fun y => decide (y.id = (gA A i).id))).length_eq
    rw [List.filter_cons] at h3
    simp at h3
    have h4 : 0 < (B.filter fun y => decide (y.id = (gA A i).id)).length := List.length_pos_iff.2 (by
      intro e9
      have : y ∈ B.filter fun y => decide (y.id = (gA A i).id) := by simp [hy, hid]
      rw [e9] at this; cases this)
    omega
  rw [h2] at h1
  exact h1

theorem drop_perm {A : List It} (hc : Ids A) (hp : A.Perm l) (hn : 0 < A.length) : (A.take (A.length - 1)).Perm (rmId (gA A (A.length - 1)).id l) := by
  refine rm_perm hc (by omega) hp _ ?_
  have h1 := take_last hn
  have h2 : (gA A (A.length - 1) :: A.take (A.length - 1)).Perm (A.take (A.length - 1) ++ [gA A (A.length - 1)]) := List.perm_append_comm (l₁ := [gA A (A.length - 1)])
  rw [h1] at h2
  exact h2
theorem fill_perm {A : List It} (hc : Ids A) (hp : A.Perm l) {i : Nat} (hi : i < A.length - 1) : ((A.take (A.length - 1)).set i (gA A (A.length - 1))).Perm (rmId (gA A i).id l) := by
  refine rm_perm hc (by omega) hp _ ?_
  have h1 := cons_set_perm (gA A (A.length - 1)) (A.take (A.length - 1)) i (by simp; omega)
  have h2 : (A.take (A.length - 1))[i]'(by simp; omega) = gA A i := by
    simp [gA, show i < A.length by omega]
  rw [h2] at h1
  refine h1.trans ?_
  have h4 : (gA A (A.length - 1) :: A.take (A.length - 1)).Perm (A.take (A.length - 1) ++ [gA A (A.length - 1)]) := List.perm_append_comm (l₁ := [gA A (A.length - 1)])
  rw [take_last (by omega)] at h4
  exact h4
theorem icells_last {A : List It} (sp : List AV) (hn : 0 < A.length) : icells A ++ sp = icells (A.take (A.length - 1)) ++ ((gA A (A.length - 1)).cells ++ sp) := by
  have h1 : icells A = icells (A.take (A.length - 1) ++ [gA A (A.length - 1)]) := by rw [take_last hn]
  rw [h1, icells_append]
  simp [icells]
theorem hremove_spec (hf : H_heap_Heap_Remove N F) (e : L h = some (.abs (HeapP h l seq))) (hl : l.length ≤ 1000000) (id : Int) :
    CallL F (N k_heap_Heap_Remove) [.p (some (h, 0)), .i .i64 id] L fun v L' => v = retIt (findId id l) ∧ L' = L.put h (.abs (HeapP h (rmId id l) seq)) := by
  apply CallL.openH e
  intro its mp K ho hc hh hp
  have plen := hp.length_eq
  apply r_heap_Heap_Remove hf.code
  generalize hQ : (fun (v : AV) (L' : Lg) => v = retIt (findId id l) ∧ L' = L.put h (.abs (HeapP h (rmId id l) seq))) = Q
  unfold D_heap_Heap_Remove_1 D_heap_Heap_Remove_2
  simp
  intro rc hrc
  have z1 := ho.onto hrc (.raw (.cells [.i .i64 0, .i .i64 0, .i .i64 0]))
  have nrc := ho.ne hrc
  refine (hfind_open hf.heap_Heap_Find z1 hc hp id).mono ?_
  rintro _ K1 ⟨rfl, rfl⟩
  rcases hc.find hp id with ⟨m1, m2⟩ | ⟨j, hj, m1, m2, m3⟩
  · rw [m2] at hQ ⊢
    simp [retIt, It.av]
    intro x6 hx6
    have nx6 := z1.ne hx6
    rw [stL_cells (Lg.put_same _ _ _) (by simp [It.cells]) (by simp [It.cells]) (by simp), Lg.put_put]
    have n6 : x6 ≠ rc := by rintro rfl; simp at hx6
    unfold D_heap_Heap_Remove_3
    have erc : ((K.put rc (.raw (.cells [.i .i64 0, .i .i64 0, .i .i64 0]))).put x6 (.raw (.cells (splice [.i .i64 0, .i .i64 0, .i .i64 0] 0 It.zero.cells)))) rc = some (.raw (.cells [.i .i64 0, .i .i64 0, .i .i64 0])) := by
      rw [Lg.put_ne _ _ _ (Ne.symm n6), Lg.put_same]
    simp [fillP]
    rw [stL_cells erc (by simp) (by simp) (by simp)]
    rw [res_cell_tmp _ _ (Lg.put_same _ _ _) (by simp [splice])]
    refine ⟨L, ?_, ?_⟩
    · have hb := ho.back hc hh hp e
      refine Sees.trans (Sees.drop ?_) hb
      intro r d hr
      have c1 : r ≠ rc := by rintro rfl; rw [hrc] at hr; cases hr
      have c2 : r ≠ x6 := by
        rintro rfl
        rw [Lg.put_ne _ _ _ n6, hr] at hx6; cases hx6
      simp [Lg.put_apply, c1, c2, hr]
    · subst hQ
      refine ⟨rfl, ?_⟩
      have : rmId id l = l := by
        unfold rmId
        rw [List.filter_eq_self]
        intro y hy
        unfold findId at m2
        rw [List.find?_eq_none] at m2
        have := m2 y hy
        simpa using this
      rw [this, Lg.put_self L h _ e]
  · rw [m2] at hQ ⊢
    obtain ⟨x, hx⟩ : ∃ x, x = gA its j := ⟨_, rfl⟩
    rw [← hx] at hQ m3 ⊢
    simp [retIt, It.av]
    intro x6 hx6
    have nx6 := z1.ne hx6
    have z2 := z1.onto hx6 (.raw (.cells x.cells))
    rw [stL_cells (Lg.put_same _ _ _) (by simp [It.cells]) (by simp [It.cells]) (by simp), Lg.put_put, show splice [AV.i .i64 0, .i .i64 0, .i .i64 0] 0 x.cells = x.cells by simp [splice, It.cells]]
    unfold D_heap_Heap_Remove_3 D_heap_Heap_Remove_4
    have hpos : 0 < its.length := by omega
    obtain ⟨n, hn⟩ : ∃ n, n = its.length - 1 := ⟨_, rfl⟩
    have w1 : wr .i64 ((its.length : Int) - 1) = (n : Int) := by rw [wr_id (by omega) (by omega)]; omega
    obtain ⟨lastI, hlast⟩ : ∃ y, y = gA its n := ⟨_, rfl⟩
    have z2' := z2
    obtain ⟨sv, mb, es, h1, h2, h3, h4, h5, h6, h7⟩ := z2'
    rcases h6 with ⟨rfl, _⟩ | ⟨b, cap, sp, rfl, a2, a3, a4, a5, a6⟩
    · simp at hpos
    have en : (n : Int) < (its.length : Int) := by omega
    have hat := icells_at its n lastI sp (by rw [hlast]; exact gA_get (by omega))
    have hat2 := hat.2
    rw [List.length_append] at hat2
    have hncap : n ≤ cap := by omega
    simp [rdL, AB.read, look, h1, h2, rLkupL, h3.find id, m1, w1]
    unfold D_heap_Heap_Remove_5
    simp [rdL, AB.read, look, h1, wp_iad _ _ _ 3 b 0 its.length cap 3 .i64 (n : Int) (Int.natCast_nonneg _) en, a2, cut, ble_nat, hat.1, hat2]
    intro x10 hx10
    have nx10 := z2.ne hx10
    have z3 := z2.onto hx10 (.raw (.cells lastI.cells))
    rw [stL_cells (Lg.put_same _ _ _) (by simp [It.cells]) (by simp [It.cells]) (by simp), Lg.put_put, show splice [AV.i .i64 0, .i .i64 0, .i .i64 0] 0 lastI.cells = lastI.cells by simp [splice, It.cells]]
    obtain ⟨L0, hL0⟩ : ∃ L0, L0 = ((L.put rc (.raw (.cells [.i .i64 0, .i .i64 0, .i .i64 0]))).put x6 (.raw (.cells x.cells))).put x10 (.raw (.cells lastI.cells)) := ⟨_, rfl⟩
    rw [← hL0] at z3
    have n6 : x6 ≠ rc := by rintro rfl; simp at hx6
    have n10 : x10 ≠ x6 := by rintro rfl; simp at hx10
    have n10' : x10 ≠ rc := by rintro rfl; rw [Lg.put_ne _ _ _ n10, Lg.put_same] at hx10; cases hx10
    have r10 : L0 x10 = some (.raw (.cells lastI.cells)) := by rw [hL0]; exact Lg.put_same _ _ _
    have r6 : L0 x6 = some (.raw (.cells x.cells)) := by rw [hL0, Lg.put_ne _ _ _ (Ne.symm n10)]; exact Lg.put_same _ _ _
    have rrc : L0 rc = some (.raw (.cells [.i .i64 0, .i .i64 0, .i .i64 0])) := by rw [hL0, Lg.put_ne _ _ _ (Ne.symm n10'), Lg.put_ne _ _ _ (Ne.symm n6)]; exact Lg.put_same _ _ _
    have hsub : ∀ r d, r ≠ h → L r = some d → L0 r = some d := by
      intro r d hr hd
      have c1 : r ≠ rc := by rintro rfl; rw [nrc.2] at hd; cases hd
      have c2 : r ≠ x6 := by
        rintro rfl
        have := nx6.2
        rw [Lg.put_ne _ _ _ n6, hd] at this; cases this
      have c3 : r ≠ x10 := by
        rintro rfl
        have := nx10.2
        rw [Lg.put_ne _ _ _ n10, Lg.put_ne _ _ _ n10', hd] at this; cases this
      rw [hL0]; simp [Lg.put_apply, c1, c2, c3, hd]
    -- the end: what was there is handed out
    have fin2 : ∀ {its' : List It} {mp' : Int → Option Int} {K' : Lg}, HOpen L0 h its' mp' seq K' → Cons its' mp' → HeapA its' → its'.Perm (rmId id l) →
        stL 3 K' (fun _ L19 => fin1 (resVL Env.nil Env.nil L19 [.cell (.c (.p (some (rc, 0)))) (some 3), .tmp (.c (.b true))]) Q L19) [.p (some (rc, 0)), .agg x.cells] := by
      intro its' mp' K' ho' hc' hh' hp'
      have krc := ho'.old nrc.1 rrc
      rw [stL_cells krc (by simp [It.cells]) (by simp [It.cells]) (by simp)]
      rw [res_cell_tmp _ _ (Lg.put_same _ _ _) (by simp [splice, It.cells])]
      have ho2 := (ho'.putOld nrc.1 rrc (.raw (.cells (splice [.i .i64 0, .i .i64 0, .i .i64 0] 0 x.cells)))).sub (L := L) (fun r d hr hd => by
        have c1 : r ≠ rc := by rintro rfl; rw [nrc.2] at hd; cases hd
        rw [Lg.put_ne _ _ _ c1]; exact hsub r d hr hd)
      refine ⟨_, ho2.shut hc' hh' hp', ?_⟩
      subst hQ
      exact ⟨by simp [splice, It.cells, It.av, retIt], rfl⟩
    have fin : ∀ {its' : List It} {mp' : Int → Option Int} {K' : Lg}, HOpen L0 h its' mp' seq K' → Cons its' mp' → HeapA its' → its'.Perm (rmId id l) →
        wpOp F (.ld (some 3)) [.p (some (x6, 0))] K' fun v18 L18 => wpOp F (.st 3) [.p (some (rc, 0)), v18] L18 fun _ L19 =>
          fin1 (resVL Env.nil Env.nil L19 [.cell (.c (.p (some (rc, 0)))) (some 3), .tmp (.c (.b true))]) Q L19 := by
      intro its' mp' K' ho' hc' hh' hp'
      have k6 := ho'.old nx6.1 r6
      simp [rdL_cells k6 (show 0 + 3 ≤ x.cells.length by simp [It.cells])]
      have : AV.agg (List.take 3 x.cells) = .agg x.cells := by simp [It.cells]
      rw [this]
      exact fin2 ho' hc' hh' hp'
    obtain ⟨K3, hK3⟩ : ∃ K3, K3 = ((K.put rc (.raw (.cells [.i .i64 0, .i .i64 0, .i .i64 0]))).put x6 (.raw (.cells x.cells))).put x10 (.raw (.cells lastI.cells)) := ⟨_, rfl⟩
    rw [← hK3] at z3 ⊢
    clear h1 h2 h3 h4 h5 h7 a2 a3 a4 a5 a6 hat hat2 hncap hK3
    unfold D_heap_Heap_Remove_6
    have zz := z3
    obtain ⟨sv, mb, es, h1, h2, h3, h4, h5, h6, h7⟩ := z3
    rcases h6 with ⟨rfl, _⟩ | ⟨b, cap, sp, rfl, a2, a3, a4, a5, a6⟩
    · simp at hpos
    have hncap : n ≤ cap := by omega
    have hb10 : x10 ≠ h := nx10.1
    simp [rdL, AB.read, look, h1, slc_hi hncap (.inr rfl), stL_cell h1]
    unfold D_heap_Heap_Remove_7
    obtain ⟨es', hes, hM⟩ := h3.del id
    have nbm : x10 ≠ mb := by rintro rfl; rw [h5] at r10; cases r10
    have nb6 : x6 ≠ mb := by rintro rfl; rw [h5] at r6; cases r6
    -- the row without the last one
    have hrow : HOpen L0 h (its.take n) (updI mp id none) seq ((K3.put h (.raw (.cells ([.sl (some (b, 0)) its.length cap 3, .m (some mb), .i .i64 seq].set 0 (.sl (some (b, 0)) n cap 3))))).put mb (.raw (.map es'))) :=
      ⟨.sl (some (b, 0)) n cap 3, mb, es', by rw [Lg.put_ne _ _ _ (Ne.symm h4), Lg.put_same]; rfl, Lg.put_same _ _ _, hM, h4, h5,
        .inr ⟨b, cap, lastI.cells ++ sp, by rw [List.length_take]; congr 1; omega, by rw [Lg.put_ne _ _ _ a5, Lg.put_ne _ _ _ a4, a2, hlast, hn, icells_last sp hpos], by simp [It.cells]; omega, a4, a5, a6⟩,
        fun r d hr hd => by
          have c1 : r ≠ mb := by rintro rfl; rw [h5] at hd; cases hd
          rw [Lg.put_ne _ _ _ c1, Lg.put_ne _ _ _ hr]; exact h7 r d hr hd⟩
    have k310 := h7 x10 _ nx10.1 r10
    have k36 := h7 x6 _ nx6.1 r6
    have el3 : 3 ≤ lastI.cells.length := by simp [It.cells]
    have ex3 : 3 ≤ x.cells.length := by simp [It.cells]
    have el : AV.agg (List.take 3 lastI.cells) = lastI.av := by simp [It.cells, It.av]
    have exx : AV.agg (List.take 3 x.cells) = .agg x.cells := by simp [It.cells]
    by_cases hjn : j < n
    · have hjn' : (j : Int) < (n : Int) := by omega
      have k10 := hrow.old nx10.1 r10
      have hfill := cons_fill hc (i := j) (by omega)
      have hexx := exx_fill hh (i := j) (by omega) (gA its (its.length - 1))
      have hpm := fill_perm hc.1 hp (i := j) (by omega)
      rw [← hn, ← hlast, ← hx, m3] at hfill hpm
      rw [← hn, ← hlast] at hexx
      simp [rdL, AB.read, look, h4, Ne.symm h4, mdelW, Lg.put_apply, h2, hes, hjn, hjn', nbm, nx10.1, k310, cut, ble_nat, el3, el]
      refine (hput_spec hf.heap_Heap_put hrow j (by rw [List.length_take]; omega) lastI).mono ?_
      rintro _ K4 ⟨rfl, ho4⟩
      have hl4 : ((its.take n).set j lastI).length = n := by simp; omega
      refine (hup_spec hf.heap_Heap_up ho4 j (by rw [hl4]; omega) (by rw [hl4]; omega) (hfill.hole j) hexx).mono ?_
      rintro _ K5 ⟨rfl, A', mp', p1, ho5, hc5, _, i', hi', hg, hdn⟩
      have hg2 : gA A' i' = lastI := by rw [hg, gA_set (by simp; omega), if_pos rfl]
      have hlk : mp' lastI.id = some (i' : Int) := by rw [← hg2]; exact hc5.2.1 i' hi'
      have hl5 := p1.length_eq
      have k10' := ho5.old nx10.1 r10
      have ho5' := ho5
      obtain ⟨sv5, mb5, es5, g1, g2, g3, g4, g5, g6, g7⟩ := ho5'
      simp [rdL, AB.read, look, g1, k10', It.cells, rLkupL, g2, g3.find lastI.id, hlk]
      refine (hdown_spec hf.heap_Heap_down ho5 i' hi' (by rw [hl5, hl4]; omega) hc5 hdn).mono ?_
      rintro _ K6 ⟨rfl, A'', mp'', p2, ho6, hc6, hh6⟩
      exact fin ho6 hc6 hh6 ((p2.trans p1).trans hpm)
    · have hjn2 : j = n := by omega
      have hjn' : ¬ (j : Int) < (n : Int) := by omega
      have hxl : x = lastI := by rw [hx, hlast, hjn2]
      have hcd := cons_drop hc hpos
      have hpd := drop_perm hc.1 hp hpos
      rw [← hn, ← hlast, ← hxl, m3] at hcd hpd
      have hhd := heap_drop hh
      rw [← hn] at hhd
      simp [rdL, AB.read, look, h4, Ne.symm h4, mdelW, Lg.put_apply, h2, hes, hjn, hjn', nb6, nx6.1, k36, cut, ble_nat, ex3, exx]
      exact fin2 hrow hcd hhd hpd
end
end Go.AM


/- expire: what its functions do. -/
set_option linter.unusedVariables false
set_option linter.unusedSimpArgs false
namespace Go.AM
variable {N : Nat → Nat} {F : Nat → Option AFn}

/-- what will be due: in order; the count; the periods -/
structure Xs where
  l : List It
  seq : Int
  pf : Int → Option Int
structure Xs.ok (x : Xs) (n : Nat) : Prop where
  sorted : x.l.Pairwise It.lt
  len : x.l.length ≤ n
  below : ∀ y, y ∈ x.l → y.s ≤ x.seq
  pos : 0 ≤ x.seq
def Xs.stop (x : Xs) (id : Int) : Xs := { x with l := rmId id x.l, pf := updI x.pf id none }
def Xs.armed (x : Xs) (id when period : Int) : Xs := { l := ins ⟨id, when, x.seq + 1⟩ (rmId id x.l), seq := x.seq + 1, pf := updI (updI x.pf id none) id (some period) }
def badT (a b : Int) : Bool := decide (min a b < 0) || decide (4611686018427387904 < max a b)
def Xs.arm (x : Xs) (id when period : Int) : Xs × Int := if badT when period = true then (x, 1) else (x.armed id when period, 0)
def Xs.next (x : Xs) : Int × Bool := match x.l.head? with
  | some y => (y.w, true)
  | none => (0, false)
def Xs.take (x : Xs) (now : Int) : Xs × (Int × Int × Int) × Bool := match x.l.head? with
  | none => (x, (0, 0, 0), false)
  | some y => if now < 0 ∨ now < y.w then (x, (0, 0, 0), false) else
    let p := (x.pf y.id).getD 0
    let z : Xs := x.stop y.id
    let c := clockNext y.w p now
    (if c.2 = 0 ∧ now < c.1 then (z.arm y.id c.1 p).1 else z, (y.id, y.w, now), true)
def TmP (t : Nat) (x : Xs) (hp : Hp) : Prop := ∃ (h pm : Nat) (es : List (AV × AV)) (M : Lg), M t = some (.raw (.cells [.p (some (h, 0)), .m (some pm)])) ∧ M h = some (.abs (HeapP h x.l x.seq)) ∧ M pm = some (.raw (.map es)) ∧ MapI es x.pf ∧ h ≠ t ∧ pm ≠ t ∧ pm ≠ h ∧ Sat M hp
structure XOpen (L : Lg) (t : Nat) (x : Xs) (h pm : Nat) (K : Lg) : Prop where
  root : K t = some (.raw (.cells [.p (some (h, 0)), .m (some pm)]))
  heap : K h = some (.abs (HeapP h x.l x.seq))
  per : ∃ es, K pm = some (.raw (.map es)) ∧ MapI es x.pf
  n1 : h ≠ t
  n2 : pm ≠ t
  n3 : pm ≠ h
  f1 : L h = none
  f2 : L pm = none
  old : ∀ r d, r ≠ t → L r = some d → K r = some d

section
variable {L L0 K : Lg} {t h pm : Nat} {x : Xs}
theorem XOpen.shut (o : XOpen L t x h pm K) : Sees K (L.put t (.abs (TmP t x))) := by
  obtain ⟨es, e1, e2⟩ := o.per
  refine Sees.shutAt (fun r => r = t ∨ r = h ∨ r = pm) (.inl rfl) ?_ ?_ (.inl ⟨_, o.root⟩) ?_
  · intro r d hr hd; simp only [not_or] at hr; exact o.old r d hr.1 hd
  · rintro r (rfl | rfl | rfl) hr
    · exact absurd rfl hr
    · exact o.f1
    · exact o.f2
  · intro M hm hM hN hs
    exact ⟨h, pm, es, M, by rw [hM t (.inl rfl)]; exact o.root, by rw [hM h (.inr (.inl rfl))]; exact o.heap, by rw [hM pm (.inr (.inr rfl))]; exact e1, e2, o.n1, o.n2, o.n3, hs⟩
theorem CallL.openX {f : Nat} {vs : List AV} {Q : AV → Lg → Prop} (e : L t = some (.abs (TmP t x))) (H : ∀ h pm K, XOpen L t x h pm K → CallL F f vs K Q) : CallL F f vs L Q := by
  apply CallL.opens e
  rintro hm ⟨h, pm, es, M, m1, m2, m3, m4, n1, n2, n3, hs⟩
  refine ⟨M, hs, by rw [m1]; simp, fun hf => ?_⟩
  have hover : ∀ b d, M b = some d → (M.over L) b = some d := fun b d hb => by simp [Lg.over, hb]
  refine H h pm (M.over L) ⟨hover _ _ m1, hover _ _ m2, ⟨es, hover _ _ m3, m4⟩, n1, n2, n3, hf _ _ m2 n1, hf _ _ m3 n2, ?_⟩
  intro r d hr hd
  cases hM : M r with
  | none => simp [Lg.over, hM, hd]
  | some c => rw [hf r c hM hr] at hd; cases hd
theorem XOpen.ne (o : XOpen L t x h pm K) {r : Nat} (hr : K r = none) : r ≠ t ∧ L r = none := by
  have n : r ≠ t := by rintro rfl; rw [o.root] at hr; cases hr
  refine ⟨n, ?_⟩
  cases e : L r with
  | none => rfl
  | some d => rw [o.old r d n e] at hr; cases hr
theorem XOpen.nes (o : XOpen L t x h pm K) {r : Nat} (hr : K r = none) : r ≠ t ∧ r ≠ h ∧ r ≠ pm := by
  obtain ⟨es, e1, _⟩ := o.per
  refine ⟨?_, ?_, ?_⟩ <;> rintro rfl
  · rw [o.root] at hr; cases hr
  · rw [o.heap] at hr; cases hr
  · rw [e1] at hr; cases hr
theorem XOpen.onto (o : XOpen L t x h pm K) {r : Nat} (hr : K r = none) (d : LC) : XOpen (L.put r d) t x h pm (K.put r d) := by
  obtain ⟨es, e1, e2⟩ := o.per
  obtain ⟨c1, c2, c3⟩ := o.nes hr
  refine ⟨by rw [Lg.put_ne _ _ _ (Ne.symm c1)]; exact o.root, by rw [Lg.put_ne _ _ _ (Ne.symm c2)]; exact o.heap, ⟨es, by rw [Lg.put_ne _ _ _ (Ne.symm c3)]; exact e1, e2⟩, o.n1, o.n2, o.n3,
    by rw [Lg.put_ne _ _ _ (Ne.symm c2)]; exact o.f1, by rw [Lg.put_ne _ _ _ (Ne.symm c3)]; exact o.f2, ?_⟩
  intro y k hy hk
  rw [Lg.put_apply] at hk ⊢
  split
  · rename_i h9; rw [if_pos h9] at hk; exact hk
  · rename_i h9; rw [if_neg h9] at hk; exact o.old y k hy hk
theorem XOpen.putOld (o : XOpen L t x h pm K) {r : Nat} {d : LC} (hr : r ≠ t) (hd : L r = some d) (d' : LC) : XOpen (L.put r d') t x h pm (K.put r d') := by
  obtain ⟨es, e1, e2⟩ := o.per
  have c2 : r ≠ h := by rintro rfl; rw [o.f1] at hd; cases hd
  have c3 : r ≠ pm := by rintro rfl; rw [o.f2] at hd; cases hd
  refine ⟨by rw [Lg.put_ne _ _ _ (Ne.symm hr)]; exact o.root, by rw [Lg.put_ne _ _ _ (Ne.symm c2)]; exact o.heap, ⟨es, by rw [Lg.put_ne _ _ _ (Ne.symm c3)]; exact e1, e2⟩, o.n1, o.n2, o.n3,
    by rw [Lg.put_ne _ _ _ (Ne.symm c2)]; exact o.f1, by rw [Lg.put_ne _ _ _ (Ne.symm c3)]; exact o.f2, ?_⟩
  intro y k hy hk
  rw [Lg.put_apply] at hk ⊢
  split
  · rename_i h9; rw [if_pos h9] at hk; exact hk
  · rename_i h9; rw [if_neg h9] at hk; exact o.old y k hy hk
theorem XOpen.sub (o : XOpen L0 t x h pm K) (hs : ∀ r d, r ≠ t → L r = some d → L0 r = some d) : XOpen L t x h pm K := by
  have hn : ∀ r, r ≠ t → L0 r = none → L r = none := by
    intro r hr h0
    cases e : L r with
    | none => rfl
    | some d => rw [hs r d hr e] at h0; cases h0
  exact ⟨o.root, o.heap, o.per, o.n1, o.n2, o.n3, hn h o.n1 o.f1, hn pm o.n2 o.f2, fun r d hr hd => o.old r d hr (hs r d hr hd)⟩
theorem XOpen.setHeap (o : XOpen L t x h pm K) (l : List It) (seq : Int) : XOpen L t { x with l := l, seq := seq } h pm (K.put h (.abs (HeapP h l seq))) := by
  obtain ⟨es, e1, e2⟩ := o.per
  refine ⟨by rw [Lg.put_ne _ _ _ (Ne.symm o.n1)]; exact o.root, Lg.put_same _ _ _, ⟨es, by rw [Lg.put_ne _ _ _ o.n3]; exact e1, e2⟩, o.n1, o.n2, o.n3, o.f1, o.f2, ?_⟩
  intro r d hr hd
  have : r ≠ h := by rintro rfl; rw [o.f1] at hd; cases hd
  rw [Lg.put_ne _ _ _ this]; exact o.old r d hr hd
theorem XOpen.setPer (o : XOpen L t x h pm K) {es : List (AV × AV)} {f : Int → Option Int} (hm : MapI es f) : XOpen L t { x with pf := f } h pm (K.put pm (.raw (.map es))) := by
  refine ⟨by rw [Lg.put_ne _ _ _ (Ne.symm o.n2)]; exact o.root, by rw [Lg.put_ne _ _ _ (Ne.symm o.n3)]; exact o.heap, ⟨es, Lg.put_same _ _ _, hm⟩, o.n1, o.n2, o.n3, o.f1, o.f2, ?_⟩
  intro r d hr hd
  have : r ≠ pm := by rintro rfl; rw [o.f2] at hd; cases hd
  rw [Lg.put_ne _ _ _ this]; exact o.old r d hr hd
theorem XOpen.back (o : XOpen L t x h pm K) (e : L t = some (.abs (TmP t x))) : Sees K L := by
  have := o.shut
  rwa [Lg.put_self L t _ e] at this

theorem xstop_open (hf : H_expire_Timers_Stop N F) (o : XOpen L t x h pm K) (hl : x.l.length ≤ 1000000) (id : Int) :
    CallL F (N k_expire_Timers_Stop) [.p (some (t, 0)), .i .i64 id] K fun v K' => v = .b (findId id x.l).isSome ∧ XOpen L t (x.stop id) h pm K' := by
  apply r_expire_Timers_Stop hf.code
  generalize hQ : (fun (v : AV) (K' : Lg) => v = .b (findId id x.l).isSome ∧ XOpen L t (x.stop id) h pm K') = Q
  unfold D_expire_Timers_Stop_1
  simp [rdL, AB.read, look, o.root]
  refine (hremove_spec hf.heap_Heap_Remove o.heap hl id).mono ?_
  rintro _ _ ⟨rfl, rfl⟩
  have o2 := o.setHeap (rmId id x.l) x.seq
  obtain ⟨es, e1, e2⟩ := o2.per
  obtain ⟨es', hd, hM⟩ := e2.del id
  have o3 := o2.setPer hM
  have key : ∀ z : It, ∀ r : Nat, (K.put h (.abs (HeapP h (rmId id x.l) x.seq))) r = none → ∀ c : LC,
      wpOp F .nilchk [.p (some (t, 0))] ((K.put h (.abs (HeapP h (rmId id x.l) x.seq))).put r c) fun v10 L10 => wpOp F (.fad 1) [v10] L10 fun v11 L11 => wpOp F (.ld none) [v11] L11 fun v12 L12 => wpOp F .mdel [v12, .i .i64 id] L12 fun _ L13 =>
        fin1 (some (.b (findId id x.l).isSome)) Q L13 := by
    intro z r hr c
    obtain ⟨c1, c2, c3⟩ := o2.nes hr
    have o4 := (o2.onto hr c).setPer hM
    have hr1 : ((K.put h (.abs (HeapP h (rmId id x.l) x.seq))).put r c) t = some (.raw (.cells [.p (some (h, 0)), .m (some pm)])) := by rw [Lg.put_ne _ _ _ (Ne.symm c1)]; exact o2.root
    have hr2 : ((K.put h (.abs (HeapP h (rmId id x.l) x.seq))).put r c) pm = some (.raw (.map es)) := by rw [Lg.put_ne _ _ _ (Ne.symm c3)]; exact e1
    simp [rdL, AB.read, look, hr1, mdelW, hr2, hd]
    refine ⟨_, Sees.refl _, ?_⟩
    subst hQ
    refine ⟨rfl, o4.sub fun y d hy hyd => ?_⟩
    have : y ≠ r := by rintro rfl; rw [(o2.ne hr).2] at hyd; cases hyd
    rw [Lg.put_ne _ _ _ this]; exact hyd
  cases hfi : findId id x.l with
  | none =>
    rw [hfi] at key
    simp [retIt, It.av]
    intro r hr
    rw [stL_cells (Lg.put_same _ _ _) (by simp [It.cells]) (by simp [It.cells]) (by simp), Lg.put_put]
    exact key It.zero r hr _
  | some y =>
    rw [hfi] at key
    simp [retIt, It.av]
    intro r hr
    rw [stL_cells (Lg.put_same _ _ _) (by simp [It.cells]) (by simp [It.cells]) (by simp), Lg.put_put]
    exact key y r hr _
end
end Go.AM


/- The code of functions, with names for their numbers, and what is left of its weakest preconditions. PRINTED by our printgen.py. -/
set_option linter.unusedVariables false
set_option maxRecDepth 100000
namespace Go.AM
end Go.AM

/- timer: the set of timers, opened; small functions. -/
set_option linter.unusedVariables false
set_option linter.unusedSimpArgs false
namespace Go.AM
variable {N : Nat → Nat} {F : Nat → Option AFn}

section
variable {L : Lg} {t : Nat} {x : Xs}
theorem xstop_spec (hf : H_expire_Timers_Stop N F) (e : L t = some (.abs (TmP t x))) (hl : x.l.length ≤ 1000000) (id : Int) :
    CallL F (N k_expire_Timers_Stop) [.p (some (t, 0)), .i .i64 id] L fun v L' => v = .b (findId id x.l).isSome ∧ L' = L.put t (.abs (TmP t (x.stop id))) := by
  apply CallL.openX e
  intro h pm K o
  refine (xstop_open hf o hl id).sees ?_
  rintro _ K' ⟨rfl, o'⟩
  exact ⟨_, o'.shut, rfl, rfl⟩
end

/-- a timer -/
structure On where
  kind : Int
  data : Int
  c : Option Nat
  gen : Int
def On.cells (o : On) : List AV := [.i .i64 o.kind, .i .i64 o.data, ptr o.c, .i .i64 o.gen]
def ocells : List On → List AV
  | [] => []
  | o :: r => o.cells ++ ocells r
theorem ocells_get : ∀ (ws : List On) (i k : Nat) (w : On), ws[i]? = some w → k < 4 → (ocells ws)[i * 4 + k]? = w.cells[k]?
  | [], i, k, w, h, _ => by simp at h
  | a :: r, 0, k, w, h, hk => by
    simp at h; subst h
    simp only [ocells, Nat.zero_mul, Nat.zero_add]
    rw [List.getElem?_append_left (by simp [On.cells]; omega)]
  | a :: r, i + 1, k, w, h, hk => by
    have := ocells_get r i k w (by simpa using h) hk
    have e : (i + 1) * 4 + k = a.cells.length + (i * 4 + k) := by simp [On.cells]; omega
    rw [e]
    simp only [ocells]
    rw [List.getElem?_append_right (by omega), Nat.add_sub_cancel_left]
    exact this
/-- timers: each; what will be due; how many have names -/
structure Tms where
  ones : List On
  x : Xs
  named : Int
def SSl (L : Lg) (s t : Nat) (ones : List On) (sv : AV) (K : Lg) : Prop :=
  (ones = [] ∧ sv = .sl none 0 0 0) ∨ ∃ b, sv = .sl (some (b, 0)) ones.length ones.length 4 ∧ K b = some (.raw (.cells (ocells ones))) ∧ b ≠ s ∧ b ≠ t ∧ L b = none ∧ 0 < ones.length
def SOpen (L : Lg) (s : Nat) (σ : Tms) (t : Nat) (K : Lg) : Prop :=
  ∃ sv, K s = some (.raw (.cells [sv, .p (some (t, 0)), .i .i64 σ.named])) ∧ K t = some (.abs (TmP t σ.x)) ∧ t ≠ s ∧ L t = none ∧ SSl L s t σ.ones sv K ∧ ∀ r d, r ≠ s → L r = some d → K r = some d
def SetP (s : Nat) (σ : Tms) (hp : Hp) : Prop := ∃ t M, SOpen Lg.nil s σ t M ∧ Sat M hp
section
variable {L L0 K : Lg} {s t : Nat} {σ : Tms}
theorem SOpen.shut (o : SOpen L s σ t K) : Sees K (L.put s (.abs (SetP s σ))) := by
  obtain ⟨sv, h1, h2, h3, h4, h5, h6⟩ := o
  rcases h5 with ⟨g1, rfl⟩ | ⟨b, rfl, a2, a3, a4, a5, a6⟩
  · refine Sees.shutAt (fun r => r = s ∨ r = t) (.inl rfl) ?_ ?_ (.inl ⟨_, h1⟩) ?_
    · intro r d hr hd; simp only [not_or] at hr; exact h6 r d hr.1 hd
    · rintro r (rfl | rfl) hr
      · exact absurd rfl hr
      · exact h4
    · intro M hm hM hN hs
      exact ⟨t, M, ⟨_, by rw [hM s (.inl rfl)]; exact h1, by rw [hM t (.inr rfl)]; exact h2, h3, rfl, .inl ⟨g1, rfl⟩, fun r d _ hd => by cases hd⟩, hs⟩
  · refine Sees.shutAt (fun r => r = s ∨ r = t ∨ r = b) (.inl rfl) ?_ ?_ (.inl ⟨_, h1⟩) ?_
    · intro r d hr hd; simp only [not_or] at hr; exact h6 r d hr.1 hd
    · rintro r (rfl | rfl | rfl) hr
      · exact absurd rfl hr
      · exact h4
      · exact a5
    · intro M hm hM hN hs
      exact ⟨t, M, ⟨_, by rw [hM s (.inl rfl)]; exact h1, by rw [hM t (.inr (.inl rfl))]; exact h2, h3, rfl, .inr ⟨b, rfl, by rw [hM b (.inr (.inr rfl))]; exact a2, a3, a4, rfl, a6⟩, fun r d _ hd => by cases hd⟩, hs⟩
theorem CallL.openS {f : Nat} {vs : List AV} {Q : AV → Lg → Prop} (e : L s = some (.abs (SetP s σ))) (H : ∀ t K, SOpen L s σ t K → CallL F f vs K Q) : CallL F f vs L Q := by
  apply CallL.opens e
  rintro hm ⟨t, M, ⟨sv, h1, h2, h3, h4, h5, h6⟩, hs⟩
  refine ⟨M, hs, by rw [h1]; simp, fun hf => ?_⟩
  have hover : ∀ b d, M b = some d → (M.over L) b = some d := fun b d hb => by simp [Lg.over, hb]
  refine H t (M.over L) ⟨sv, hover _ _ h1, hover _ _ h2, h3, hf _ _ h2 h3, ?_, ?_⟩
  · rcases h5 with h5 | ⟨b, a1, a2, a3, a4, a5, a6⟩
    · exact .inl h5
    · exact .inr ⟨b, a1, hover _ _ a2, a3, a4, hf _ _ a2 a3, a6⟩
  · intro r d hr hd
    cases hM : M r with
    | none => simp [Lg.over, hM, hd]
    | some c => rw [hf r c hM hr] at hd; cases hd
theorem SOpen.back (o : SOpen L s σ t K) (e : L s = some (.abs (SetP s σ))) : Sees K L := by
  have := o.shut
  rwa [Lg.put_self L s _ e] at this
theorem SOpen.ne (o : SOpen L s σ t K) {r : Nat} (hr : K r = none) : r ≠ s ∧ L r = none := by
  obtain ⟨sv, h1, h2, h3, h4, h5, h6⟩ := o
  have n : r ≠ s := by rintro rfl; rw [h1] at hr; cases hr
  refine ⟨n, ?_⟩
  cases e : L r with
  | none => rfl
  | some d => rw [h6 r d n e] at hr; cases hr
theorem SOpen.old (o : SOpen L s σ t K) {r : Nat} {d : LC} (hr : r ≠ s) (hd : L r = some d) : K r = some d := by
  obtain ⟨sv, h1, h2, h3, h4, h5, h6⟩ := o
  exact h6 r d hr hd
theorem SOpen.onto (o : SOpen L s σ t K) {r : Nat} (hr : K r = none) (d : LC) : SOpen (L.put r d) s σ t (K.put r d) := by
  obtain ⟨sv, h1, h2, h3, h4, h5, h6⟩ := o
  have nb : ∀ {y : Nat} {k : LC}, K y = some k → y ≠ r := fun hx hxr => by rw [hxr, hr] at hx; cases hx
  refine ⟨sv, by rw [Lg.put_ne _ _ _ (nb h1)]; exact h1, by rw [Lg.put_ne _ _ _ (nb h2)]; exact h2, h3, by rw [Lg.put_ne _ _ _ (nb h2)]; exact h4, ?_, ?_⟩
  · rcases h5 with h5 | ⟨b, a1, a2, a3, a4, a5, a6⟩
    · exact .inl h5
    · exact .inr ⟨b, a1, by rw [Lg.put_ne _ _ _ (nb a2)]; exact a2, a3, a4, by rw [Lg.put_ne _ _ _ (nb a2)]; exact a5, a6⟩
  · intro y k hy hk
    rw [Lg.put_apply] at hk ⊢
    split
    · rename_i h9; rw [if_pos h9] at hk; exact hk
    · rename_i h9; rw [if_neg h9] at hk; exact h6 y k hy hk
/-- what is old may turn -/
theorem SOpen.putOld (o : SOpen L s σ t K) {r : Nat} {d : LC} (hr : r ≠ s) (hd : L r = some d) (d' : LC) : SOpen (L.put r d') s σ t (K.put r d') := by
  obtain ⟨sv, h1, h2, h3, h4, h5, h6⟩ := o
  have c2 : t ≠ r := by rintro rfl; rw [h4] at hd; cases hd
  refine ⟨sv, by rw [Lg.put_ne _ _ _ (Ne.symm hr)]; exact h1, by rw [Lg.put_ne _ _ _ c2]; exact h2, h3, by rw [Lg.put_ne _ _ _ c2]; exact h4, ?_, ?_⟩
  · rcases h5 with h5 | ⟨b, a1, a2, a3, a4, a5, a6⟩
    · exact .inl h5
    · have c3 : b ≠ r := by rintro rfl; rw [a5] at hd; cases hd
      exact .inr ⟨b, a1, by rw [Lg.put_ne _ _ _ c3]; exact a2, a3, a4, by rw [Lg.put_ne _ _ _ c3]; exact a5, a6⟩
  · intro y k hy hk
    rw [Lg.put_apply] at hk ⊢
    split
    · rename_i h9; rw [if_pos h9] at hk; exact hk
    · rename_i h9; rw [if_neg h9] at hk; exact h6 y k hy hk
theorem SOpen.sub (o : SOpen L0 s σ t K) (hs : ∀ r d, r ≠ s → L r = some d → L0 r = some d) : SOpen L s σ t K := by
  obtain ⟨sv, h1, h2, h3, h4, h5, h6⟩ := o
  have hn : ∀ r, r ≠ s → L0 r = none → L r = none := by
    intro r hr h0
    cases e : L r with
    | none => rfl
    | some d => rw [hs r d hr e] at h0; cases h0
  refine ⟨sv, h1, h2, h3, hn t h3 h4, ?_, fun r d hr hd => h6 r d hr (hs r d hr hd)⟩
  rcases h5 with h5 | ⟨b, a1, a2, a3, a4, a5, a6⟩
  · exact .inl h5
  · exact .inr ⟨b, a1, a2, a3, a4, hn b a3 a5, a6⟩
theorem SOpen.setX (o : SOpen L s σ t K) (x : Xs) : SOpen L s { σ with x := x } t (K.put t (.abs (TmP t x))) := by
  obtain ⟨sv, h1, h2, h3, h4, h5, h6⟩ := o
  refine ⟨sv, by rw [Lg.put_ne _ _ _ (Ne.symm h3)]; exact h1, Lg.put_same _ _ _, h3, h4, ?_, ?_⟩
  · rcases h5 with h5 | ⟨b, a1, a2, a3, a4, a5, a6⟩
    · exact .inl h5
    · exact .inr ⟨b, a1, by rw [Lg.put_ne _ _ _ a4]; exact a2, a3, a4, a5, a6⟩
  · intro r d hr hd
    have : r ≠ t := by rintro rfl; rw [h4] at hd; cases hd
    rw [Lg.put_ne _ _ _ this]; exact h6 r d hr hd
def Tms.has (σ : Tms) (id : Int) : Bool := decide (0 ≤ id) && decide (id < σ.ones.length)
theorem has_open (hf : H_timer_Set_has N F) (o : SOpen L s σ t K) (id : Int) : CallL F (N k_timer_Set_has) [.p (some (s, 0)), .i .i64 id] K fun v K' => v = .b (σ.has id) ∧ K' = K := by
  obtain ⟨sv, h1, h2, h3, h4, h5, h6⟩ := o
  apply r_timer_Set_has hf.code
  unfold D_timer_Set_has_1 Tms.has
  by_cases c1 : 0 ≤ id
  · rcases h5 with ⟨g1, rfl⟩ | ⟨b, rfl, a2, a3, a4, a5, a6⟩
    · have : ¬ id < 0 := by omega
      simp [c1, rdL, AB.read, look, h1, g1]
    · simp [c1, rdL, AB.read, look, h1]
  · simp [c1]
theorem Tms.has_nat {σ : Tms} {id : Int} (h : σ.has id = true) : ∃ i : Nat, id = (i : Int) ∧ i < σ.ones.length := by
  simp [Tms.has] at h
  obtain ⟨i, rfl⟩ := Int.eq_ofNat_of_zero_le h.1
  exact ⟨i, rfl, by omega⟩
def Tms.one (σ : Tms) (id : Int) : Option On := if σ.has id = true then σ.ones[id.toNat]? else none
end
end Go.AM


/- timer: arm, make. -/
set_option linter.unusedVariables false
set_option linter.unusedSimpArgs false
namespace Go.AM
variable {N : Nat → Nat} {F : Nat → Option AFn}

def Tms.armed (σ : Tms) (i : Nat) (w : On) (now d : Int) : Tms :=
  { σ with ones := σ.ones.set i { w with gen := w.gen + 1 }, x := (σ.x.arm i (clockAdd now (max d 0)) (if w.kind = 2 then min d 4611686018427387904 else 0)).1 }
section
variable {L K : Lg} {s t : Nat} {σ : Tms}
end
end Go.AM


/- timer: channel, Timer, Ticker, Func, Lapse, Stop, Reset. -/
set_option linter.unusedVariables false
set_option linter.unusedSimpArgs false
namespace Go.AM
variable {N : Nat → Nat} {F : Nat → Option AFn}

theorem CallL.opq {f : Nat} {vs : List AV} {L : Lg} {Q0 : AV → Lg → Prop} (h : ∀ Q : AV → Lg → Prop, (∀ v L, Q0 v L → Q v L) → CallL F f vs L Q) : CallL F f vs L Q0 := h Q0 fun _ _ h => h
def Ch.tm : Ch := ⟨[], 1, [], [], true, false, false⟩
def Lg.putC (L : Lg) (c : Option Nat) (x : Ch) : Lg := match c with
  | none => L
  | some c => L.put c (.abs (ChanP c x))
def Lg.hasC (L : Lg) (s : Nat) (c : Option Nat) (x : Ch) : Prop := ∀ a, c = some a → a ≠ s ∧ L a = some (.abs (ChanP a x))
section
variable {L K : Lg} {s t : Nat} {σ : Tms}
theorem on_get {id : Int} {o : On} (h : σ.one id = some o) : ∃ i : Nat, id = (i : Int) ∧ i < σ.ones.length ∧ σ.ones[i]? = some o ∧ σ.has id = true := by
  unfold Tms.one at h
  split at h
  · rename_i hh
    obtain ⟨i, rfl, hi⟩ := Tms.has_nat hh
    exact ⟨i, rfl, hi, by simpa using h, hh⟩
  · cases h
theorem one_none {id : Int} (h : σ.one id = none) : σ.has id = false := by
  unfold Tms.one at h
  cases hh : σ.has id
  · rfl
  · obtain ⟨i, rfl, hi⟩ := Tms.has_nat hh
    simp [hh] at h; omega
def Ch.left (x : Ch) : Bool := decide (0 < x.vals.length)
def Ch.dropped (x : Ch) : Ch := { x with vals := [] }
def dropsC (c : Option Nat) (x : Ch) : Bool := c.isSome && x.left
theorem dropC_spec (hf : H_chanq_Chan_Drop N F) {c : Option Nat} {x : Ch} (hx : x.timed = true) (h : L.hasC s c x) : CallL F (N k_chanq_Chan_Drop) [ptr c] L fun v L' => v = .b (dropsC c x) ∧ L' = L.putC c x.dropped := by
  cases c with
  | none => exact dropNil_spec hf
  | some c =>
    refine (drop_spec hf (h c rfl).2).mono ?_
    intro v L' h
    rw [if_pos hx] at h
    obtain ⟨rfl, rfl⟩ := h
    exact ⟨by simp [dropsC, Ch.left], rfl⟩
theorem stop_spec (hf : H_timer_Set_Stop N F) (e : L s = some (.abs (SetP s σ))) (hl : σ.x.l.length ≤ 1000000) (id : Int) {o : On} (ho : σ.one id = some o) {x : Ch} (hx : x.timed = true) (hc : L.hasC s o.c x) :
    CallL F (N k_timer_Set_Stop) [.p (some (s, 0)), .i .i64 id] L fun v L' => v = .tup [.b (dropsC o.c x || (findId id σ.x.l).isSome), .i .i64 0] ∧ L' = (L.put s (.abs (SetP s { σ with x := σ.x.stop id }))).putC o.c x.dropped := by
  refine CallL.opq ?_
  intro Q hQ
  obtain ⟨i, rfl, hi, hg, hh⟩ := on_get ho
  apply CallL.openS e
  intro t K op
  apply r_timer_Set_Stop hf.code
  unfold D_timer_Set_Stop_1
  refine (has_open hf.timer_Set_has op i).mono ?_
  rintro _ K0 ⟨rfl, rfl⟩
  have op' := op
  obtain ⟨sv, h1, h2, h3, h4, h5, h6⟩ := op'
  simp [hh, rdL, AB.read, look, h1]
  refine (xstop_spec hf.expire_Timers_Stop h2 hl i).mono ?_
  rintro _ K1 ⟨rfl, rfl⟩
  have o2 := op.setX (σ.x.stop i)
  rcases h5 with ⟨g1, rfl⟩ | ⟨b, rfl, a2, a3, a4, a5, a6⟩
  · rw [g1] at hi; simp at hi
  have ei : (i : Int) < (σ.ones.length : Int) := by omega
  have h9 := ocells_get σ.ones i 2 _ hg (by omega)
  simp [On.cells] at h9
  have hs2 : (K0.put t (.abs (TmP t (σ.x.stop i)))) s = some (.raw (.cells [.sl (some (b, 0)) σ.ones.length σ.ones.length 4, .p (some (t, 0)), .i .i64 σ.named])) := by rw [Lg.put_ne _ _ _ (Ne.symm h3)]; exact h1
  have hb2 : (K0.put t (.abs (TmP t (σ.x.stop i)))) b = some (.raw (.cells (ocells σ.ones))) := by rw [Lg.put_ne _ _ _ a4]; exact a2
  simp [rdL, AB.read, look, hs2, wp_iad _ _ _ 4 b 0 σ.ones.length σ.ones.length 4 .i64 (i : Int) (Int.natCast_nonneg _) ei, hb2, h9]
  have hsee : ∀ y, Sees ((K0.put t (.abs (TmP t (σ.x.stop i)))).putC o.c y) ((L.put s (.abs (SetP s { σ with x := σ.x.stop i }))).putC o.c y) := by
    intro y
    cases hoc : o.c with
    | none => exact o2.shut
    | some c =>
      have h8 := hc c hoc
      simp only [Lg.putC]
      rw [Lg.put_comm _ (Ne.symm h8.1)]
      exact (o2.putOld h8.1 h8.2 _).shut
  have hc2 : (K0.put t (.abs (TmP t (σ.x.stop i)))).hasC s o.c x := by
    intro c hoc
    have h8 := hc c hoc
    exact ⟨h8.1, o2.old h8.1 h8.2⟩
  refine (dropC_spec hf.chanq_Chan_Drop hx hc2).mono ?_
  rintro _ K2 ⟨rfl, rfl⟩
  cases hd : dropsC o.c x
  · simp
    exact ⟨_, hsee _, hQ _ _ ⟨by simp [hd], rfl⟩⟩
  · simp
    exact ⟨_, hsee _, hQ _ _ ⟨by simp [hd], rfl⟩⟩
theorem stop_none (hf : H_timer_Set_Stop N F) (e : L s = some (.abs (SetP s σ))) (id : Int) (ho : σ.one id = none) :
    CallL F (N k_timer_Set_Stop) [.p (some (s, 0)), .i .i64 id] L fun v L' => v = .tup [.b false, .i .i64 4] ∧ L' = L := by
  refine CallL.opq ?_
  intro Q hQ
  apply CallL.openS e
  intro t K op
  apply r_timer_Set_Stop hf.code
  unfold D_timer_Set_Stop_1
  refine (has_open hf.timer_Set_has op id).mono ?_
  rintro _ K0 ⟨rfl, rfl⟩
  simp [one_none ho]
  exact ⟨_, op.back e, hQ _ _ ⟨rfl, rfl⟩⟩
end
end Go.AM

