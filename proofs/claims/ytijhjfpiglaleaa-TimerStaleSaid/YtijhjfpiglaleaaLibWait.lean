/- wait: what its functions do. -/
import Derived.Test.YtijhjfpiglaleaaLibRing
set_option linter.unusedVariables false
set_option linter.unusedSimpArgs false
namespace Go.AM
variable {N : Nat → Nat} {F : Nat → Option AFn}

/-- one who waits -/
structure Wt where
  t : Int
  c : Int
  v : Int
  deriving DecidableEq
def Wt.cells (w : Wt) : List AV := [.i .i64 w.t, .i .i64 w.c, .i .i64 w.v]
def Wt.av (w : Wt) : AV := .agg w.cells
def Wt.zero : Wt := ⟨0, 0, 0⟩
def ptr (o : Option Nat) : AV := .p (o.map fun b => (b, 0))
@[simp] theorem ptr_none : ptr none = .p none := rfl
@[simp] theorem ptr_some (b : Nat) : ptr (some b) = .p (some (b, 0)) := rfl
@[simp] theorem ptr_cellsOf (o : Option Nat) : (ptr o).cellsOf = some [ptr o] := rfl
@[simp] theorem ptr_one (o : Option Nat) : (ptr o).one = true := rfl
def wnode (w : Wt) (p n : Option Nat) : LC := .raw (.cells [.i .i64 w.t, .i .i64 w.c, .i .i64 w.v, ptr p, ptr n])
def hd (n : Option Nat) : List (Nat × Wt) → Option Nat
  | [] => n
  | x :: _ => some x.1
def lst (p : Option Nat) : List (Nat × Wt) → Option Nat
  | [] => p
  | x :: r => lst (some x.1) r
def Seg (M : Lg) (p : Option Nat) : List (Nat × Wt) → Option Nat → Prop
  | [], _ => True
  | (i, w) :: r, n => M i = some (wnode w p (hd n r)) ∧ Seg M (some i) r n
def idsOf (l : List (Nat × Wt)) : List Nat := l.map (·.1)
@[simp] theorem hd_nil (n : Option Nat) : hd n [] = n := rfl
@[simp] theorem hd_cons (n : Option Nat) (x : Nat × Wt) (r : List (Nat × Wt)) : hd n (x :: r) = some x.1 := rfl
@[simp] theorem lst_nil (n : Option Nat) : lst n [] = n := rfl
@[simp] theorem lst_cons (n : Option Nat) (x : Nat × Wt) (r : List (Nat × Wt)) : lst n (x :: r) = lst (some x.1) r := rfl
theorem hd_append (n : Option Nat) : ∀ (A B : List (Nat × Wt)), hd n (A ++ B) = hd (hd n B) A
  | [], _ => rfl
  | _ :: _, _ => rfl
theorem lst_append : ∀ (A B : List (Nat × Wt)) (p : Option Nat), lst p (A ++ B) = lst (lst p A) B
  | [], _, _ => rfl
  | _ :: A, B, _ => lst_append A B _
theorem Seg.append (M : Lg) : ∀ (A B : List (Nat × Wt)) (p n : Option Nat), Seg M p (A ++ B) n ↔ Seg M p A (hd n B) ∧ Seg M (lst p A) B n
  | [], _, _, _ => by simp [Seg, lst]
  | (i, w) :: A, B, p, n => by
    simp only [List.cons_append, Seg, lst, hd_append, Seg.append M A B, and_assoc]
theorem Seg.congr {M M' : Lg} : ∀ {l : List (Nat × Wt)} {p n : Option Nat}, (∀ i, i ∈ idsOf l → M' i = M i) → Seg M p l n → Seg M' p l n
  | [], _, _, _, _ => trivial
  | (i, w) :: r, p, n, h, hs => ⟨by rw [h i (by simp [idsOf])]; exact hs.1, Seg.congr (fun j hj => h j (by simp [idsOf] at hj ⊢; exact .inr hj)) hs.2⟩

theorem Seg.some {M : Lg} : ∀ {l : List (Nat × Wt)} {p n : Option Nat}, Seg M p l n → ∀ i, i ∈ idsOf l → M i ≠ none
  | [], _, _, _, i, hi => by simp [idsOf] at hi
  | (j, w) :: r, p, n, hs, i, hi => by
    simp only [idsOf, List.map_cons, List.mem_cons] at hi
    rcases hi with rfl | hi
    · rw [hs.1]; simp
    · exact Seg.some hs.2 i hi

/-- a queue: who waits, in order -/
def QueueP (q : Nat) (ws : List Wt) (h : Hp) : Prop := ∃ (l : List (Nat × Wt)) (M : Lg), l.map (·.2) = ws ∧ (q :: idsOf l).Nodup ∧ ws.length ≤ 1000000 ∧
  M q = some (.raw (.cells [ptr (hd none l), ptr (lst none l), .i .i64 ws.length])) ∧ Seg M none l none ∧ (∀ b, b ∉ q :: idsOf l → M b = none) ∧ Sat M h

section
variable {L : Lg} {q : Nat} {ws : List Wt}
/-- a queue, opened -/
structure QOpen (L : Lg) (q : Nat) (l : List (Nat × Wt)) (L1 : Lg) : Prop where
  nd : (q :: idsOf l).Nodup
  root : L1 q = some (.raw (.cells [ptr (hd none l), ptr (lst none l), .i .i64 l.length]))
  seg : Seg L1 none l none
  old : ∀ b c, b ∉ q :: idsOf l → L b = some c → L1 b = some c
  new : ∀ b, b ∈ idsOf l → L b = none
theorem QOpen.shut {l : List (Nat × Wt)} {L1 : Lg} (h : QOpen L q l L1) (hl : l.length ≤ 1000000) : Sees L1 (L.put q (.abs (QueueP q (l.map (·.2))))) := by
  refine Sees.shutAt (fun b => b ∈ q :: idsOf l) (List.mem_cons_self ..) h.old ?_ (.inl ⟨_, h.root⟩) ?_
  · intro b hb hbq
    rcases List.mem_cons.1 hb with rfl | hb
    · exact absurd rfl hbq
    · exact h.new b hb
  · intro M hp hM hN hs
    refine ⟨l, M, rfl, h.nd, by simpa using hl, ?_, ?_, hN, hs⟩
    · rw [hM q (List.mem_cons_self ..), h.root]; simp
    · exact Seg.congr (fun i hi => hM i (List.mem_cons_of_mem _ hi)) h.seg
theorem CallL.openQ {f : Nat} {vs : List AV} {Q : AV → Lg → Prop} (e : L q = some (.abs (QueueP q ws)))
    (h : ∀ l L1, l.map (·.2) = ws → l.length ≤ 1000000 → QOpen L q l L1 → (∀ b, b ∉ q :: idsOf l → L1 b = L b) → CallL F f vs L1 Q) : CallL F f vs L Q := by
  apply CallL.opens e
  rintro hm ⟨l, M, h1, h2, h3, h4, h5, h6, hs⟩
  refine ⟨M, hs, by rw [h4]; simp, fun hf => ?_⟩
  have hover : ∀ b c, M b = some c → (M.over L) b = some c := fun b c hb => by simp [Lg.over, hb]
  have hseg : ∀ {l : List (Nat × Wt)} {p n : Option Nat}, Seg M p l n → Seg (M.over L) p l n := by
    intro l
    induction l with
    | nil => intros; trivial
    | cons x r ih => intro p n hs; exact ⟨hover _ _ hs.1, ih hs.2⟩
  have hin : ∀ {l : List (Nat × Wt)} {p n : Option Nat}, Seg M p l n → ∀ i, i ∈ idsOf l → ∃ c, M i = some c := by
    intro l
    induction l with
    | nil => intro p n hs i hi; simp [idsOf] at hi
    | cons x r ih =>
      intro p n hs i hi
      simp only [idsOf, List.map_cons, List.mem_cons] at hi
      rcases hi with rfl | hi
      · exact ⟨_, hs.1⟩
      · exact ih hs.2 i hi
  have hlen : l.length = ws.length := by rw [← h1]; simp
  refine h l (M.over L) h1 (by omega) ⟨h2, ?_, hseg h5, ?_, ?_⟩ ?_
  · rw [hlen]; exact hover q _ h4
  · intro b c hb hL; simp [Lg.over, h6 b hb, hL]
  · intro b hb
    obtain ⟨c, hc⟩ := hin h5 b hb
    refine hf b c hc ?_
    rintro rfl
    exact (List.nodup_cons.1 h2).1 hb
  · intro b hb; simp [Lg.over, h6 b hb]

theorem queueNew_spec (h : H_wait_New N F) : CallL F (N k_wait_New) [] L fun v L' => ∃ q, L q = none ∧ v = .p (some (q, 0)) ∧ L' = L.put q (.abs (QueueP q [])) := by
  apply r_wait_New h.code
  simp [D_wait_New_1, fillP]
  intro b hb
  refine ⟨L.put b (.abs (QueueP b [])), ?_, b, hb, rfl, rfl⟩
  have : QOpen L b [] (L.put b (.raw (.cells [.p none, .p none, .i .i64 0]))) :=
    ⟨by simp [idsOf], by simp [hd, lst], trivial, fun c d h1 h2 => by simp [idsOf] at h1; rw [Lg.put_ne _ _ _ h1]; exact h2, fun c hc => by simp [idsOf] at hc⟩
  exact this.shut (by simp)
theorem queueLen_spec (h : H_wait_Queue_Len N F) (e : L q = some (.abs (QueueP q ws))) : CallL F (N k_wait_Queue_Len) [.p (some (q, 0))] L fun v L' => v = .i .i64 ws.length ∧ L' = L := by
  apply CallL.openQ e
  intro l L1 h1 h2 hq hn
  apply r_wait_Queue_Len h.code
  have hlen : l.length = ws.length := by rw [← h1]; simp
  simp [D_wait_Queue_Len_1, rdL, AB.read, look, hq.root, hlen]
  have := hq.shut h2
  rwa [h1, Lg.put_self L q _ e] at this
theorem queuePush_spec (h : H_wait_Queue_Push N F) (e : L q = some (.abs (QueueP q ws))) (w : Wt) (hws : ws.length < 1000000) : CallL F (N k_wait_Queue_Push) [.p (some (q, 0)), w.av] L fun v L' => v = .i .i64 (ws.length + 1) ∧ L' = L.put q (.abs (QueueP q (ws ++ [w]))) := by
  apply CallL.openQ e
  intro l L1 h1 h2 hq hn
  apply r_wait_Queue_Push h.code
  have hlen : l.length = ws.length := by rw [← h1]; simp
  have e1 : wr .i64 ((ws.length : Int) + 1) = (ws.length : Int) + 1 := wr_id (by omega) (by omega)
  have hroot := hq.root
  unfold D_wait_Queue_Push_1 D_wait_Queue_Push_2 D_wait_Queue_Push_3 D_wait_Queue_Push_4 D_wait_Queue_Push_5 Wt.av Wt.cells
  simp
  intro x hx
  have hxq : x ≠ q := by rintro rfl; rw [hroot] at hx; cases hx
  simp [rdL, AB.read, look, Lg.put_apply, hxq, Ne.symm hxq, hroot, cut, ble_nat, beq_nat, fillP, splice, cellsOf_agg']
  rw [newL_box_agg _ _ _ (by simp)]
  intro y hy1
  have hy : y ≠ x := by rintro rfl; simp at hy1
  rw [Lg.put_ne _ _ _ hy] at hy1
  have hyq : y ≠ q := by rintro rfl; rw [hroot] at hy1; cases hy1
  have hyL : L y = none := by
    cases h3 : L y with
    | none => rfl
    | some c =>
      by_cases h4 : y ∈ q :: idsOf l
      · rcases List.mem_cons.1 h4 with h4 | h4
        · exact absurd h4 hyq
        · rw [hq.new y h4] at h3; cases h3
      · rw [hq.old y c h4 h3] at hy1; cases hy1
  have hyl : y ∉ idsOf l := by
    intro h4
    exact Seg.some hq.seg y h4 hy1
  rcases List.eq_nil_or_concat l with rfl | ⟨A, ⟨j, u⟩, rfl⟩
  · simp at hlen
    simp [hd, lst, rdL, AB.read, look, Lg.put_apply, hyq, Ne.symm hyq, hxq, Ne.symm hxq, hroot, stL, wrL, splice_one, hy]
    have hws0 : ws = [] := List.length_eq_zero_iff.1 hlen.symm
    subst hws0
    refine ⟨?_, by rw [wr_id (by omega) (by omega)]; simp⟩
    have hf : ∀ Lf : Lg, Lf q = some (.raw (.cells [.p (some (y, 0)), .p (some (y, 0)), .i .i64 1])) → Lf y = some (wnode w none none) → (∀ b, b ≠ q → b ≠ y → b ≠ x → Lf b = L1 b) → QOpen L q [(y, w)] Lf := by
      intro Lf f1 f2 f3
      refine ⟨by simp [idsOf, Ne.symm hyq], by simpa [hd, lst] using f1, ⟨f2, trivial⟩, ?_, by simpa [idsOf] using hyL⟩
      intro b c hb hc
      simp [idsOf] at hb
      have hbx : b ≠ x := by
        rintro rfl
        rw [hq.old b c (by simp [idsOf, hb.1]) hc] at hx; cases hx
      rw [f3 b hb.1 hb.2 hbx]
      exact hq.old b c (by simp [idsOf, hb.1]) hc
    refine (hf _ ?_ ?_ ?_).shut (by simp)
    · simp [wr_id]
    · simp [Lg.put_apply, hyq, wnode]
    · intro b b1 b2 b3; simp [Lg.put_apply, b1, b2, b3]
  · simp only [List.concat_eq_append] at hq hroot hyl h1 hlen hn h2
    have hseg := (Seg.append L1 A [(j, u)] none none).1 hq.seg
    have hj : L1 j = some (wnode u (lst none A) none) := hseg.2.1
    have hnd := hq.nd
    simp only [idsOf, List.map_append, List.map_cons, List.map_nil] at hnd hyl
    have hjq : j ≠ q := by
      rintro rfl
      exact (List.nodup_cons.1 hnd).1 (by simp)
    have hjA : j ∉ idsOf A := by
      have := (List.nodup_append.1 (List.nodup_cons.1 hnd).2).2.2
      intro hjA
      exact this j hjA j (by simp) rfl
    have hyj : y ≠ j := by rintro rfl; exact hyl (by simp)
    have hxj : x ≠ j := by rintro rfl; rw [hj] at hx; cases hx
    have hl1 : lst none (A ++ [(j, u)]) = some j := by simp [lst_append, lst]
    have hlen' : (A.length : Int) + 1 = ws.length := by simp at hlen; omega
    simp [hl1] at hroot
    simp [hl1, rdL, AB.read, look, Lg.put_apply, hyq, Ne.symm hyq, hxq, Ne.symm hxq, hyj, Ne.symm hyj, hjq, Ne.symm hjq, hxj, Ne.symm hxj, hroot, stL, wrL, splice_one, hy, hj, wnode, hlen', e1]
    have hf : ∀ Lf : Lg, Lf q = some (.raw (.cells [ptr (hd none (A ++ [(j, u)])), .p (some (y, 0)), .i .i64 (ws.length + 1)])) → Lf y = some (wnode w (some j) none) → Lf j = some (wnode u (lst none A) (some y)) →
        (∀ b, b ≠ q → b ≠ y → b ≠ j → b ≠ x → Lf b = L1 b) → QOpen L q (A ++ [(j, u), (y, w)]) Lf := by
      intro Lf f1 f2 f3 f4
      have hqA : q ∉ idsOf A := fun h5 => (List.nodup_cons.1 hnd).1 (by simp [idsOf] at h5 ⊢; exact .inl h5)
      have hyA : y ∉ idsOf A := fun h5 => hyl (by simp [idsOf] at h5 ⊢; exact .inl h5)
      refine ⟨?_, ?_, ?_, ?_, ?_⟩
      · have e3 : q :: idsOf (A ++ [(j, u), (y, w)]) = (q :: (List.map (fun x => x.fst) A ++ [j])) ++ [y] := by simp [idsOf]
        rw [e3, List.nodup_append]
        refine ⟨hnd, by simp, ?_⟩
        intro a ha b hb hab
        simp at hb
        subst hb
        subst hab
        rcases List.mem_cons.1 ha with ha | ha
        · exact hyq ha
        · exact hyl ha
      · rw [f1]
        have : hd none (A ++ [(j, u), (y, w)]) = hd none (A ++ [(j, u)]) := by rw [hd_append, hd_append]; rfl
        rw [this]
        simp [lst_append, lst]
        omega
      · rw [Seg.append]
        refine ⟨Seg.congr ?_ hseg.1, f3, f2, trivial⟩
        intro i hi
        have : i ≠ x := by
          rintro rfl
          have := hq.new i (by simp [idsOf] at hi ⊢; exact .inl hi)
          exact Seg.some hseg.1 i hi hx
        exact f4 i (fun h5 => hqA (h5 ▸ hi)) (fun h5 => hyA (h5 ▸ hi)) (fun h5 => hjA (h5 ▸ hi)) this
      · intro b c hb hc
        simp [idsOf] at hb
        have hb' : b ∉ q :: idsOf (A ++ [(j, u)]) := by
          simp [idsOf]
          exact ⟨hb.1, fun x => hb.2.1 x, hb.2.2.1⟩
        have h6 := hq.old b c hb' hc
        have hbx : b ≠ x := by rintro rfl; rw [h6] at hx; cases hx
        rw [f4 b hb.1 hb.2.2.2 hb.2.2.1 hbx]
        exact h6
      · intro b hb
        by_cases h7 : b = y
        · subst h7; exact hyL
        · exact hq.new b (by simp [idsOf] at hb ⊢; rcases hb with hb | hb | hb; exact .inl hb; exact .inr hb; exact absurd hb h7)
    have h8 : ws ++ [w] = (A ++ [(j, u), (y, w)]).map (·.2) := by rw [← h1]; simp
    rw [h8]
    refine (hf _ ?_ ?_ ?_ ?_).shut ?_
    · simp
    · simp [Lg.put_apply, hyq, hyj, wnode]
    · simp [Lg.put_apply, hjq, wnode]
    · intro b b1 b2 b3 b4; simp [Lg.put_apply, b1, b2, b3, b4]
    · simp; omega

theorem idsOf_append (A B : List (Nat × Wt)) : idsOf (A ++ B) = idsOf A ++ idsOf B := by simp [idsOf]
theorem idsOf_cons (x : Nat × Wt) (B : List (Nat × Wt)) : idsOf (x :: B) = x.1 :: idsOf B := rfl
@[simp] theorem idsOf_nil : idsOf [] = [] := rfl
theorem QOpen.dropped {A B : List (Nat × Wt)} {i : Nat} {w : Wt} {L1 : Lg} (hq : QOpen L q (A ++ (i, w) :: B) L1) {Lf : Lg}
    (f1 : Lf q = some (.raw (.cells [ptr (hd none (A ++ B)), ptr (lst none (A ++ B)), .i .i64 (A ++ B).length])))
    (f2 : ∀ A' j u, A = A' ++ [(j, u)] → Lf j = some (wnode u (lst none A') (hd none B)))
    (f3 : ∀ k z B', B = (k, z) :: B' → Lf k = some (wnode z (lst none A) (hd none B')))
    (f4 : ∀ b, b ≠ q → (∀ A' j u, A = A' ++ [(j, u)] → b ≠ j) → (∀ k z B', B = (k, z) :: B' → b ≠ k) → Lf b = L1 b) : QOpen L q (A ++ B) Lf := by
  have hseg := (Seg.append L1 A ((i, w) :: B) none none).1 hq.seg
  have hnd := hq.nd
  rw [idsOf_append, idsOf_cons] at hnd
  have h1 := (List.nodup_cons.1 hnd).1
  have h2 := List.nodup_append.1 (List.nodup_cons.1 hnd).2
  have h3 := List.nodup_cons.1 h2.2.1
  refine ⟨?_, f1, ?_, ?_, ?_⟩
  · rw [idsOf_append, List.nodup_cons, List.nodup_append]
    refine ⟨fun h => h1 ?_, h2.1, h3.2, fun a ha b hb => h2.2.2 a ha b (List.mem_cons_of_mem _ hb)⟩
    rw [List.mem_append] at h ⊢
    exact h.imp id (List.mem_cons_of_mem _)
  · rw [Seg.append]
    refine ⟨?_, ?_⟩
    · rcases List.eq_nil_or_concat A with rfl | ⟨A', ⟨j, u⟩, rfl⟩
      · trivial
      · simp only [List.concat_eq_append] at *
        have hs := (Seg.append L1 A' [(j, u)] none (some i)).1 hseg.1
        rw [Seg.append]
        refine ⟨Seg.congr ?_ hs.1, f2 A' j u rfl, trivial⟩
        intro b hb
        have hnA := h2.1
        rw [idsOf_append, List.nodup_append] at hnA
        refine f4 b ?_ ?_ ?_
        · rintro rfl; exact h1 (by rw [idsOf_append]; simp [hb])
        · intro A'' j' u' e hbj
          have := (List.append_inj' e rfl).2
          simp at this
          subst hbj
          exact hnA.2.2 b hb j (by simp [idsOf]) this.1.symm
        · intro k z B' e hbk
          subst hbk
          refine h2.2.2 b (by rw [idsOf_append]; simp [hb]) b ?_ rfl
          rw [e, idsOf_cons]; simp
    · cases B with
      | nil => trivial
      | cons x B' =>
        obtain ⟨k, z⟩ := x
        refine ⟨f3 k z B' rfl, Seg.congr ?_ hseg.2.2.2⟩
        intro b hb
        rw [idsOf_cons] at h3
        have h4 := List.nodup_cons.1 h3.2
        refine f4 b ?_ ?_ ?_
        · rintro rfl; exact h1 (by rw [idsOf_cons]; simp [hb])
        · intro A' j u e hbj
          subst hbj
          refine h2.2.2 b (by rw [e, idsOf_append]; simp [idsOf]) b (by rw [idsOf_cons]; simp [hb]) rfl
        · intro k' z' B'' e hbk
          simp at e
          subst hbk
          rw [← e.1.1] at hb
          exact h4.1 hb
  · intro b c hb hc
    rw [idsOf_append] at hb
    by_cases hbi : b = i
    · subst hbi
      have := hq.new b (by rw [idsOf_append, idsOf_cons]; simp)
      rw [this] at hc; cases hc
    · have hb' : b ∉ q :: idsOf (A ++ (i, w) :: B) := by
        rw [idsOf_append, idsOf_cons]
        simp at hb ⊢
        exact ⟨hb.1, hb.2.1, hbi, hb.2.2⟩
      simp at hb
      rw [f4 b hb.1 ?_ ?_]
      · exact hq.old b c hb' hc
      · rintro A' j u rfl rfl; exact hb.2.1 (by simp [idsOf])
      · rintro k z B' rfl rfl; exact hb.2.2 (by simp [idsOf])
  · intro b hb
    refine hq.new b ?_
    rw [idsOf_append, idsOf_cons]
    rw [idsOf_append] at hb
    rw [List.mem_append] at hb ⊢
    exact hb.imp id (List.mem_cons_of_mem _)
theorem queueDrop_open (h : H_wait_Queue_drop N F) {A B : List (Nat × Wt)} {i : Nat} {w : Wt} {L1 : Lg} (hq : QOpen L q (A ++ (i, w) :: B) L1) (hl : (A ++ (i, w) :: B).length ≤ 1000000) :
    CallL F (N k_wait_Queue_drop) [.p (some (q, 0)), .p (some (i, 0))] L1 fun v L' => v = .tup [] ∧ QOpen L q (A ++ B) L' ∧ L' i = some (wnode w (lst none A) (hd none B)) ∧ ∀ b, b ∉ q :: idsOf (A ++ B) → L' b = L1 b := by
  apply r_wait_Queue_drop h.code
  have hseg := (Seg.append L1 A ((i, w) :: B) none none).1 hq.seg
  have hnd := hq.nd
  rw [idsOf_append, idsOf_cons] at hnd
  have h1 := (List.nodup_cons.1 hnd).1
  have h2 := List.nodup_append.1 (List.nodup_cons.1 hnd).2
  have h3 := List.nodup_cons.1 h2.2.1
  have hiq : i ≠ q := by rintro rfl; exact h1 (by simp)
  have hi : L1 i = some (wnode w (lst none A) (hd none B)) := hseg.2.1
  have hroot := hq.root
  unfold D_wait_Queue_drop_1 D_wait_Queue_drop_2
  have e1 : wr .i64 ((((A ++ (i, w) :: B).length : Nat) : Int) - 1) = ((A ++ B).length : Nat) := by rw [wr_id (by simp at hl ⊢; omega) (by omega)]; simp; omega
  have hr1 : hd none (A ++ (i, w) :: B) = hd (some i) A := by rw [hd_append]; rfl
  have hr2 : lst none (A ++ (i, w) :: B) = lst (some i) B := by rw [lst_append]; rfl
  rw [hr1, hr2] at hroot
  obtain ⟨n, hn⟩ : ∃ n, n = (A ++ (i, w) :: B).length := ⟨_, rfl⟩
  obtain ⟨m, hm⟩ : ∃ m, m = (A ++ B).length := ⟨_, rfl⟩
  rw [← hn] at e1 hroot
  rw [← hm] at e1
  rcases List.eq_nil_or_concat A with rfl | ⟨A', ⟨j, u⟩, rfl⟩
  · cases B with
    | nil =>
      simp [rdL, AB.read, look, hi, wnode, hroot, stL, wrL, splice_one, Lg.put_apply, hiq, Ne.symm hiq, e1]
      refine ⟨_, Sees.refl _, hq.dropped ?_ ?_ ?_ ?_, ?_, ?_⟩
      · simp [hm]
      · intro A' j u e; simp at e
      · intro k z B' e; simp at e
      · intro b b1 b2 b3; simp [Lg.put_apply, b1]
      · simp [Lg.put_apply, hiq, hi, wnode]
      · intro b b1; simp [Lg.put_apply, b1]
    | cons x B' =>
      obtain ⟨k, z⟩ := x
      have hk : L1 k = some (wnode z (some i) (hd none B')) := hseg.2.2.1
      have hkq : k ≠ q := by rintro rfl; exact h1 (by simp [idsOf])
      have hki : k ≠ i := by rintro rfl; exact h3.1 (by simp [idsOf])
      simp [rdL, AB.read, look, hi, hk, wnode, hroot, stL, wrL, splice_one, Lg.put_apply, hiq, Ne.symm hiq, hkq, Ne.symm hkq, hki, Ne.symm hki, e1]
      refine ⟨_, Sees.refl _, hq.dropped ?_ ?_ ?_ ?_, ?_, ?_⟩
      · simp [hm]
      · intro A' j u e; simp at e
      · intro k' z' B'' e
        simp at e
        obtain ⟨⟨rfl, rfl⟩, rfl⟩ := e
        simp [Lg.put_apply, hkq, wnode]
      · intro b b1 b2 b3
        have : b ≠ k := b3 k z B' rfl
        simp [Lg.put_apply, b1, this]
      · simp [Lg.put_apply, hiq, Ne.symm hki, hi, wnode]
      · intro b b1 b2
        have b3 : b ≠ k := by rintro rfl; exact b2 (by simp [idsOf])
        simp [Lg.put_apply, b1, b3]
  · simp only [List.concat_eq_append] at *
    have hsA := (Seg.append L1 A' [(j, u)] none _).1 hseg.1
    have hj : L1 j = some (wnode u (lst none A') (some i)) := hsA.2.1
    have hjq : j ≠ q := by rintro rfl; exact h1 (by simp [idsOf])
    have hji : j ≠ i := fun e => h2.2.2 j (by simp [idsOf]) i (by simp) e
    have hl1 : lst none (A' ++ [(j, u)]) = some j := by simp [lst_append]
    have hh1 : hd (some i) (A' ++ [(j, u)]) = hd (some j) A' := by simp [hd_append]
    rw [hl1] at hi
    rw [hh1] at hroot
    cases B with
    | nil =>
      simp [rdL, AB.read, look, hi, hj, wnode, hroot, stL, wrL, splice_one, Lg.put_apply, hiq, Ne.symm hiq, hjq, Ne.symm hjq, hji, Ne.symm hji, e1]
      refine ⟨_, Sees.refl _, ?_, ?_, ?_⟩
      rw [← List.append_nil (A' ++ [(j, u)])]
      refine hq.dropped ?_ ?_ ?_ ?_
      · have : hd none (A' ++ [(j, u)]) = hd (some j) A' := by simp [hd_append]
        rw [hm]; simp [this, hl1]
      · intro A'' j' u' e
        obtain ⟨rfl, e2⟩ := List.append_inj' e rfl
        simp at e2
        obtain ⟨rfl, rfl⟩ := e2
        simp [Lg.put_apply, hjq, wnode]
      · intro k z B' e; simp at e
      · intro b b1 b2 b3
        have : b ≠ j := b2 A' j u rfl
        simp [Lg.put_apply, b1, this]
      · simp [Lg.put_apply, hiq, Ne.symm hji, hi, wnode, hl1]
      · intro b b1 b2
        have b3 : b ≠ j := by rintro rfl; exact b2 (by simp [idsOf])
        simp [Lg.put_apply, b1, b3]
    | cons x B' =>
      obtain ⟨k, z⟩ := x
      have hk : L1 k = some (wnode z (some i) (hd none B')) := hseg.2.2.1
      have hkq : k ≠ q := by rintro rfl; exact h1 (by simp [idsOf])
      have hki : k ≠ i := by rintro rfl; exact h3.1 (by simp [idsOf])
      have hkj : k ≠ j := fun e => h2.2.2 j (by simp [idsOf]) k (by simp [idsOf]) e.symm
      simp [rdL, AB.read, look, hi, hj, hk, wnode, hroot, stL, wrL, splice_one, Lg.put_apply, hiq, Ne.symm hiq, hjq, Ne.symm hjq, hji, Ne.symm hji, hkq, Ne.symm hkq, hki, Ne.symm hki, hkj, Ne.symm hkj, e1]
      refine ⟨_, Sees.refl _, ?_, ?_, ?_⟩
      rw [show A' ++ (j, u) :: (k, z) :: B' = A' ++ [(j, u)] ++ (k, z) :: B' by simp]
      refine hq.dropped ?_ ?_ ?_ ?_
      · have : hd none (A' ++ [(j, u)] ++ (k, z) :: B') = hd (some j) A' := by rw [hd_append, hd_append]; simp
        have h9 : lst none (A' ++ [(j, u)] ++ (k, z) :: B') = lst (some k) B' := by rw [lst_append]; simp
        rw [this, h9, ← hm]
        simp [Lg.put_apply]
      · intro A'' j' u' e
        obtain ⟨rfl, e2⟩ := List.append_inj' e rfl
        simp at e2
        obtain ⟨rfl, rfl⟩ := e2
        simp [Lg.put_apply, hjq, Ne.symm hkj, wnode]
      · intro k' z' B'' e
        simp at e
        obtain ⟨⟨rfl, rfl⟩, rfl⟩ := e
        simp [Lg.put_apply, hkq, hkj, wnode, hl1]
      · intro b b1 b2 b3
        have c1 : b ≠ k := b3 k z B' rfl
        have c2 : b ≠ j := b2 A' j u rfl
        simp [Lg.put_apply, b1, c1, c2]
      · simp [Lg.put_apply, hiq, Ne.symm hji, Ne.symm hki, hi, wnode, hl1]
      · intro b b1 b2
        have b3 : b ≠ j := by rintro rfl; exact b2 (by simp [idsOf])
        have b4 : b ≠ k := by rintro rfl; exact b2 (by simp [idsOf])
        simp [Lg.put_apply, b1, b3, b4]

theorem QOpen.other {l : List (Nat × Wt)} {L1 : Lg} (h : QOpen L q l L1) {L2 : Lg} (h2 : ∀ b c, L1 b = some c → L2 b = some c) : QOpen L q l L2 := by
  refine ⟨h.nd, h2 _ _ h.root, ?_, fun b c hb hc => h2 _ _ (h.old b c hb hc), h.new⟩
  have : ∀ {l : List (Nat × Wt)} {p n : Option Nat}, Seg L1 p l n → Seg L2 p l n := by
    intro l
    induction l with
    | nil => intros; trivial
    | cons x r ih => intro p n hs; exact ⟨h2 _ _ hs.1, ih hs.2⟩
  exact this h.seg
theorem QOpen.put {l : List (Nat × Wt)} {L1 : Lg} (h : QOpen L q l L1) {rc : Nat} {c : LC} (h1 : rc ∉ q :: idsOf l) (h2 : L rc = none) : QOpen L q l (L1.put rc c) := by
  have h3 : ∀ b, b ∈ q :: idsOf l → (L1.put rc c) b = L1 b := fun b hb => Lg.put_ne _ _ _ (fun e => h1 (e ▸ hb))
  refine ⟨h.nd, ?_, Seg.congr (fun i hi => h3 i (List.mem_cons_of_mem _ hi)) h.seg, ?_, h.new⟩
  · rw [h3 q (List.mem_cons_self ..)]; exact h.root
  · intro b d hb hd
    have : b ≠ rc := by rintro rfl; rw [h2] at hd; cases hd
    rw [Lg.put_ne _ _ _ this]
    exact h.old b d hb hd
theorem QOpen.keeps {l : List (Nat × Wt)} {L1 : Lg} (h : QOpen L q l L1) {b : Nat} {c : LC} (hb : b ≠ q) (hc : L b = some c) : L1 b = some c := by
  by_cases hi : b ∈ idsOf l
  · rw [h.new b hi] at hc; cases hc
  · exact h.old b c (by simp [hb, hi]) hc
/-- the first of them that is so, and the others -/
def takeW (p : Wt → Bool) : List Wt → Option (Wt × List Wt)
  | [] => none
  | w :: r => if p w = true then some (w, r) else (takeW p r).map fun x => (x.1, w :: x.2)
theorem takeW_skip (p : Wt → Bool) (w : Wt) (B : List Wt) : ∀ (A : List Wt), (∀ x, x ∈ A → p x = false) → p w = true → takeW p (A ++ w :: B) = some (w, A ++ B)
  | [], _, hw => by simp [takeW, hw]
  | a :: A, hA, hw => by simp [takeW, hA a (by simp), takeW_skip p w B A (fun x hx => hA x (by simp [hx])) hw]
theorem takeW_none (p : Wt → Bool) : ∀ (A : List Wt), (∀ x, x ∈ A → p x = false) → takeW p A = none
  | [], _ => rfl
  | a :: A, hA => by simp [takeW, hA a (by simp), takeW_none p A (fun x hx => hA x (by simp [hx]))]
theorem queueTake_spec (h : H_wait_Queue_take N F) (e : L q = some (.abs (QueueP q ws))) {f : Nat} {fst cap : List AV} {p : Wt → Bool}
    (hso : ∀ (w : Wt) L', (∀ b c, b ≠ q → L b = some c → L' b = some c) → CallL F f (fst ++ w.av :: cap) L' fun v L'' => v = .b (p w) ∧ L'' = L') :
    CallL F (N k_wait_Queue_take) [.p (some (q, 0)), .fn f fst cap] L fun v L' => match (generalizing := false) takeW p ws with
      | none => v = .tup [Wt.zero.av, .b false] ∧ L' = L
      | some (w, r) => v = .tup [w.av, .b true] ∧ L' = L.put q (.abs (QueueP q r)) := by
  apply CallL.openQ e
  intro l L1 h1 h2 hq hn
  apply r_wait_Queue_take h.code
  unfold D_wait_Queue_take_1 D_wait_Queue_take_2 D_wait_Queue_take_5
  generalize hQ : (fun (v : AV) (L' : Lg) => match takeW p ws with
      | none => v = AV.tup [Wt.zero.av, .b false] ∧ L' = L
      | some (w, r) => v = AV.tup [w.av, .b true] ∧ L' = L.put q (.abs (QueueP q r))) = Q
  simp [initE]
  intro rc hrc
  have hrq : rc ≠ q := by rintro rfl; rw [hq.root] at hrc; cases hrc
  simp [Env.put_apply, rdL, AB.read, look, Lg.put_apply, Ne.symm hrq, hq.root, D_wait_Queue_take_7]
  have hq2 : QOpen L q l (L1.put rc (.raw (.cells [.i .i64 0, .i .i64 0, .i .i64 0]))) := hq.other (fun b c hb => by
    have : b ≠ rc := by rintro rfl; rw [hrc] at hb; cases hb
    rw [Lg.put_ne _ _ _ this]; exact hb)
  refine loopW_intro (fun n l' L' => ∃ A B, l = A ++ B ∧ (∀ x, x ∈ A → p x.2 = false) ∧ n = B.length ∧ L' = L1.put rc (.raw (.cells [.i .i64 0, .i .i64 0, .i .i64 0])) ∧ l' 0 = .p (some (q, 0)) ∧ l' 1 = .fn f fst cap ∧ l' 4 = .p (some (rc, 0)) ∧ l' 6 = ptr (hd none B))
    l.length ⟨[], l, rfl, by simp, rfl, rfl, by simp [Env.put_apply], by simp [Env.put_apply], by simp [Env.put_apply], by simp [Env.put_apply]⟩ ?_
  rintro n l' t L' ⟨A, B, rfl, hA, hnB, rfl, l0, l1, l4, l6⟩
  unfold D_wait_Queue_take_8
  rw [l0, l1, l4, l6]
  have h0 : ∀ b c, b ≠ q → L b = some c → (L1.put rc (.raw (.cells [.i .i64 0, .i .i64 0, .i .i64 0]))) b = some c := fun b c hb hc => hq2.keeps hb hc
  cases B with
  | nil =>
    simp [D_wait_Queue_take_4, fillP, stL_cells (Lg.put_same _ _ _), splice, res_cell_tmp _ _ (Lg.put_same _ _ _)]
    refine ⟨L, ?_, ?_⟩
    · have := hq2.shut h2
      rwa [h1, Lg.put_self L q _ e] at this
    · subst hQ
      have : takeW p ws = none := takeW_none p ws (by rw [← h1]; intro x hx; simp at hx; obtain ⟨a, hx⟩ := hx; exact hA _ hx)
      simp only [this]
      exact ⟨rfl, trivial⟩
  | cons x B =>
    obtain ⟨i, w⟩ := x
    have hseg := (Seg.append _ A ((i, w) :: B) none none).1 hq2.seg
    have hi := hseg.2.1
    simp [rdL, AB.read, look, hi, wnode, cut, ble_nat]
    refine (hso w _ h0).mono ?_
    rintro _ _ ⟨rfl, rfl⟩
    rw [condW_bool]
    refine ⟨fun hw => ?_, fun hw => ?_⟩
    · refine (queueDrop_open h.wait_Queue_drop hq2 h2).mono ?_
      rintro _ L3 ⟨rfl, hq3, h3i, h3o⟩
      have hrc3 : L3 rc = some (.raw (.cells [.i .i64 0, .i .i64 0, .i .i64 0])) := by
        rw [h3o rc, Lg.put_same]
        intro hm
        rw [idsOf_append] at hm
        have : rc ∈ idsOf (A ++ (i, w) :: B) := by
          rw [idsOf_append, idsOf_cons]
          simp at hm ⊢
          rcases hm with hm | hm | hm
          · exact absurd hm hrq
          · exact .inl hm
          · exact .inr (.inr hm)
        exact Seg.some hq.seg rc this hrc
      simp [rdL, AB.read, look, h3i, wnode, cut, ble_nat, stL_cells hrc3, splice, res_cell_tmp _ _ (Lg.put_same _ _ _)]
      have hrcL : L rc = none := by
        cases hL : L rc with
        | none => rfl
        | some c => rw [hq.keeps hrq hL] at hrc; cases hrc
      have hrc4 : rc ∉ q :: idsOf (A ++ B) := by
        intro hm
        rcases List.mem_cons.1 hm with hm | hm
        · exact hrq hm
        · have h7 := Seg.some hq3.seg rc hm
          have : rc ∈ idsOf (A ++ (i, w) :: B) := by
            rw [idsOf_append] at hm
            rw [idsOf_append, idsOf_cons]
            simp at hm ⊢
            rcases hm with hm | hm
            · exact .inl hm
            · exact .inr (.inr hm)
          exact Seg.some hq.seg rc this hrc
      refine ⟨_, (hq3.put hrc4 hrcL).shut ?_, ?_⟩
      · simp at h2 ⊢; omega
      · subst hQ
        have : takeW p ws = some (w, (A ++ B).map (·.2)) := by
          rw [← h1]; simpa using takeW_skip p w (B.map (·.2)) (A.map (·.2)) (by intro x hx; simp at hx; obtain ⟨a, hx⟩ := hx; exact hA _ hx) hw
        simp only [this]
        exact ⟨rfl, trivial⟩
    · simp [rdL, AB.read, look, hi, wnode]
      refine ⟨B.length, by simp at hnB; omega, A ++ [(i, w)], B, by simp, ?_, rfl, l0, l1, l4, rfl⟩
      intro a b hx
      rcases List.mem_append.1 hx with hx | hx
      · exact hA _ hx
      · simp at hx; obtain ⟨_, rfl⟩ := hx; exact hw
theorem queuePop_spec (h : H_wait_Queue_Pop N F) (e : L q = some (.abs (QueueP q ws))) :
    CallL F (N k_wait_Queue_Pop) [.p (some (q, 0))] L fun v L' => match (generalizing := false) ws with
      | [] => v = .tup [Wt.zero.av, .b false] ∧ L' = L
      | w :: r => v = .tup [w.av, .b true] ∧ L' = L.put q (.abs (QueueP q r)) := by
  apply r_wait_Queue_Pop h.code
  unfold D_wait_Queue_Pop_1
  simp
  intro rc hrc
  have hrq : rc ≠ q := by rintro rfl; rw [e] at hrc; cases hrc
  have e2 : (L.put rc (.raw (.cells [.i .i64 0, .i .i64 0, .i .i64 0]))) q = some (.abs (QueueP q ws)) := by rw [Lg.put_ne _ _ _ (Ne.symm hrq)]; exact e
  refine (queueTake_spec h.wait_Queue_take e2 (f := N k_wait_Queue_Pop_1) (fst := []) (cap := []) (p := fun _ => true) ?_).mono ?_
  · intro w L' hL'
    apply r_wait_Queue_Pop_1 h.wait_Queue_Pop_1.code
    simp [D_wait_Queue_Pop_1_1, Wt.av]
    rw [newL_box_agg _ _ _ (by simp [Wt.cells])]
    intro b hb
    exact Sees.drop fun c d hc => by
      have : c ≠ b := by rintro rfl; rw [hb] at hc; cases hc
      rw [Lg.put_ne _ _ _ this]; exact hc
  · intro v L' hv
    have hs1 : Sees (L.put rc (.raw (.cells [.i .i64 0, .i .i64 0, .i .i64 0]))) L := Sees.drop fun c d hc => by
      have : c ≠ rc := by rintro rfl; rw [hrc] at hc; cases hc
      rw [Lg.put_ne _ _ _ this]; exact hc
    cases ws with
    | nil =>
      simp only [takeW] at hv
      obtain ⟨rfl, rfl⟩ := hv
      simp [Wt.av, Wt.cells, Wt.zero, stL_cells (Lg.put_same _ _ _), splice, res_cell_tmp _ _ (Lg.put_same _ _ _)]
      simpa using hs1
    | cons w r =>
      simp only [takeW, if_true] at hv
      obtain ⟨rfl, rfl⟩ := hv
      have e3 : ((L.put rc (.raw (.cells [.i .i64 0, .i .i64 0, .i .i64 0]))).put q (.abs (QueueP q r))) rc = some (.raw (.cells [.i .i64 0, .i .i64 0, .i .i64 0])) := by
        rw [Lg.put_ne _ _ _ hrq, Lg.put_same]
      simp [Wt.av, Wt.cells, stL_cells e3, splice, res_cell_tmp _ _ (Lg.put_same _ _ _)]
      apply Sees.drop
      intro c d hc
      have : c ≠ rc := by
        rintro rfl
        rw [Lg.put_ne _ _ _ hrq, hrc] at hc; cases hc
      rw [Lg.put_ne _ _ _ this, Lg.put_apply]
      rw [Lg.put_apply] at hc
      split
      · rename_i h9; rw [if_pos h9] at hc; exact hc
      · rename_i h9; rw [if_neg h9] at hc; rw [Lg.put_ne _ _ _ this]; exact hc
/-- the cells of those who wait -/
def wcells : List Wt → List AV
  | [] => []
  | w :: r => w.cells ++ wcells r
theorem wcells_append : ∀ (A B : List Wt), wcells (A ++ B) = wcells A ++ wcells B
  | [], _ => rfl
  | w :: A, B => by simp [wcells, wcells_append A B]
theorem wcells_length : ∀ (A : List Wt), (wcells A).length = A.length * 3
  | [] => rfl
  | w :: A => by simp [wcells, wcells_length A, Wt.cells]; omega
theorem QOpen.onto {l : List (Nat × Wt)} {L1 : Lg} (h : QOpen L q l L1) {b : Nat} {c : LC} {L2 : Lg} (hb : L1 b = none) (h2 : Ext2 L1 L2) (h3 : L2 b = some c) : QOpen (L.put b c) q l L2 := by
  have hx := h.other h2
  refine ⟨hx.nd, hx.root, hx.seg, ?_, ?_⟩
  · intro d e hd he
    rw [Lg.put_apply] at he
    split at he
    · rename_i h4; subst h4; cases he; exact h3
    · exact hx.old d e hd he
  · intro d hd
    have : d ≠ b := by rintro rfl; exact Seg.some h.seg d hd hb
    rw [Lg.put_ne _ _ _ this]
    exact h.new d hd
theorem queueAll_spec (h : H_wait_Queue_All N F) (e : L q = some (.abs (QueueP q ws))) :
    CallL F (N k_wait_Queue_All) [.p (some (q, 0))] L fun v L' => FreshSl L v (wcells ws) ws.length 3 L' := by
  apply CallL.openQ e
  intro l L1 h1 h2 hq hn
  apply r_wait_Queue_All h.code
  unfold D_wait_Queue_All_1 D_wait_Queue_All_2 D_wait_Queue_All_5
  generalize hQ : (fun (v : AV) (L' : Lg) => FreshSl L v (wcells ws) ws.length 3 L') = Q
  have hlen : l.length = ws.length := by rw [← h1]; simp
  simp [rdL, AB.read, look, hq.root, D_wait_Queue_All_7]
  refine loopW_intro (fun n l' L' => ∃ A B v, l = A ++ B ∧ n = B.length ∧ Ext2 L1 L' ∧ l' 2 = v ∧ OwnSl L' v (wcells (A.map (·.2))) A.length 3 ∧ (∀ b, slB v = some b → L1 b = none) ∧ l' 3 = ptr (hd none B))
    l.length ⟨[], l, _, rfl, rfl, Ext2.refl _, rfl, .inl ⟨rfl, rfl, by simp⟩, by simp [slB], by simp⟩ ?_
  rintro n l' t L' ⟨A, B, v, rfl, hnB, hext, l2, hown, hfr, l3⟩
  unfold D_wait_Queue_All_8
  rw [l3, l2]
  cases B with
  | nil =>
    simp [D_wait_Queue_All_4]
    subst hQ
    simp only [List.append_nil] at h1 hlen hq
    rw [h1, hlen] at hown
    rcases hown with ⟨h3, h4, rfl⟩ | ⟨b, h0, rfl, hL, hl⟩
    · refine ⟨L, ?_, .inl ⟨h3, h4, rfl, rfl⟩⟩
      have := (hq.other hext).shut (by simp at h2 ⊢; omega)
      rwa [h1, Lg.put_self L q _ e] at this
    · have hb1 := hfr b rfl
      have hqb : q ≠ b := by rintro rfl; rw [hq.root] at hb1; cases hb1
      have hLb : L b = none := by
        cases hL2 : L b with
        | none => rfl
        | some c => rw [hq.keeps (Ne.symm hqb) hL2] at hb1; cases hb1
      refine ⟨L.put b (.raw (.cells (wcells ws))), ?_, .inr ⟨b, 3, hLb, by omega, rfl, hl, rfl⟩⟩
      have := (hq.onto hb1 hext hL).shut (by simp at h2 ⊢; omega)
      rwa [h1, Lg.put_self _ q] at this
      rw [Lg.put_ne _ _ _ hqb]; exact e
  | cons x B =>
    obtain ⟨i, w⟩ := x
    have hseg := (Seg.append _ A ((i, w) :: B) none none).1 (hq.other hext).seg
    have hi := hseg.2.1
    simp [rdL, AB.read, look, hi, wnode, cut, ble_nat]
    rw [newL_bslice (c := w.cells) _ _ (by simp [reps, fillP, cellsOf_agg', splice, Wt.cells, ble_nat, beq_nat]) (by simp [Wt.cells])]
    intro b1 hb1
    have hv1 : OwnSl (L'.put b1 (.raw (.cells w.cells))) v (wcells (A.map (·.2))) A.length 3 := by
      rcases hown with h5 | ⟨b, h0, rfl, hL, hl⟩
      · exact .inl h5
      · refine .inr ⟨b, h0, rfl, ?_, hl⟩
        have : b ≠ b1 := by rintro rfl; rw [hL] at hb1; cases hb1
        rw [Lg.put_ne _ _ _ this]; exact hL
    simp
    refine OwnSl.app hv1 (by omega) rfl (m := 1) (new := w.cells) (by omega) (by simp [rdCellsL, AB.read, cut, Wt.cells, ble_nat]) rfl (by simp [Wt.cells]) (by simp at h2; omega) ?_
    intro b2 hb2
    have hb2' : b2 ≠ b1 := by rintro rfl; simp at hb2
    rw [Lg.put_ne _ _ _ hb2'] at hb2
    have hext2 : Ext2 L1 (((L'.put b1 (.raw (.cells w.cells))).delO (slB v)).put b2 (.raw (.cells (wcells (A.map (·.2)) ++ w.cells)))) :=
      ((hext.put (hext.none hb1) _).delO hfr).put (hext.none hb2) _
    have hi2 := ((Seg.append _ A ((i, w) :: B) none none).1 (hq.other hext2).seg).2.1
    simp [rdL, AB.read, look, hi2, wnode]
    refine ⟨B.length, by simp at hnB; omega, A ++ [(i, w)], B, by simp, rfl, hext2, ?_, ?_, rfl⟩
    · have := OwnSl.of_app (b := b2) hv1 (new := w.cells) (m := 1) (by omega) rfl
      simpa [wcells_append, wcells] using this
    · intro b hb; simp [slB] at hb; subst hb; exact hext.none hb2
end
end Go.AM
