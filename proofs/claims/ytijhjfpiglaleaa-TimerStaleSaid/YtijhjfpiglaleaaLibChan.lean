/- chanq: what its functions do. -/
import Derived.Test.YtijhjfpiglaleaaLibWait
import Derived.Test.YtijhjfpiglaleaaGenB
set_option linter.unusedVariables false
set_option linter.unusedSimpArgs false
namespace Go.AM
variable {N : Nat → Nat} {F : Nat → Option AFn}

/-- a channel -/
structure Ch where
  vals : List Int
  cap : Nat
  recvs : List Wt
  sends : List Wt
  timed : Bool
  signal : Bool
  closed : Bool
/-- one who waits no more -/
structure Wk where
  t : Int
  c : Int
  v : Int
  ok : Bool
  panic : Bool
  deriving DecidableEq
def Wk.cells (w : Wk) : List AV := [.i .i64 w.t, .i .i64 w.c, .i .i64 w.v, .b w.ok, .b w.panic]
def wkcells : List Wk → List AV
  | [] => []
  | w :: r => w.cells ++ wkcells r
def croot (rg q1 q2 : Nat) (x : Ch) : LC := .raw (.cells [.p (some (rg, 0)), .p (some (q1, 0)), .p (some (q2, 0)), .b x.timed, .b x.signal, .b x.closed])
/-- a channel, opened -/
structure COpen (L : Lg) (c : Nat) (x : Ch) (rg q1 q2 : Nat) (L1 : Lg) : Prop where
  n1 : rg ≠ c
  n2 : q1 ≠ c
  n3 : q2 ≠ c
  n4 : rg ≠ q1
  n5 : rg ≠ q2
  n6 : q1 ≠ q2
  root : L1 c = some (croot rg q1 q2 x)
  ring : L1 rg = some (.abs (RingP rg x.vals x.cap))
  rcv : L1 q1 = some (.abs (QueueP q1 x.recvs))
  snd : L1 q2 = some (.abs (QueueP q2 x.sends))
  old : ∀ b d, b ≠ c → b ≠ rg → b ≠ q1 → b ≠ q2 → L b = some d → L1 b = some d
  f1 : L rg = none
  f2 : L q1 = none
  f3 : L q2 = none
def ChanP (c : Nat) (x : Ch) (h : Hp) : Prop := ∃ (rg q1 q2 : Nat) (M : Lg), rg ≠ c ∧ q1 ≠ c ∧ q2 ≠ c ∧ rg ≠ q1 ∧ rg ≠ q2 ∧ q1 ≠ q2 ∧ M c = some (croot rg q1 q2 x) ∧ M rg = some (.abs (RingP rg x.vals x.cap)) ∧
  M q1 = some (.abs (QueueP q1 x.recvs)) ∧ M q2 = some (.abs (QueueP q2 x.sends)) ∧ (∀ b, b ≠ c → b ≠ rg → b ≠ q1 → b ≠ q2 → M b = none) ∧ Sat M h

section
variable {L L1 : Lg} {c rg q1 q2 : Nat} {x : Ch}
theorem COpen.shut (h : COpen L c x rg q1 q2 L1) : Sees L1 (L.put c (.abs (ChanP c x))) := by
  refine Sees.shutAt (fun b => b = c ∨ b = rg ∨ b = q1 ∨ b = q2) (.inl rfl) ?_ ?_ (.inl ⟨_, h.root⟩) ?_
  · intro b d hb hd
    simp only [not_or] at hb
    exact h.old b d hb.1 hb.2.1 hb.2.2.1 hb.2.2.2 hd
  · rintro b (rfl | rfl | rfl | rfl) hb
    · exact absurd rfl hb
    · exact h.f1
    · exact h.f2
    · exact h.f3
  · intro M hp hM hN hs
    refine ⟨rg, q1, q2, M, h.n1, h.n2, h.n3, h.n4, h.n5, h.n6, ?_, ?_, ?_, ?_, ?_, hs⟩
    · rw [hM c (.inl rfl)]; exact h.root
    · rw [hM rg (.inr (.inl rfl))]; exact h.ring
    · rw [hM q1 (.inr (.inr (.inl rfl)))]; exact h.rcv
    · rw [hM q2 (.inr (.inr (.inr rfl)))]; exact h.snd
    · intro b b1 b2 b3 b4; exact hN b (by simp [b1, b2, b3, b4])
theorem CallL.openC {f : Nat} {vs : List AV} {Q : AV → Lg → Prop} (e : L c = some (.abs (ChanP c x)))
    (h : ∀ rg q1 q2 L1, COpen L c x rg q1 q2 L1 → CallL F f vs L1 Q) : CallL F f vs L Q := by
  apply CallL.opens e
  rintro hm ⟨rg, q1, q2, M, n1, n2, n3, n4, n5, n6, m1, m2, m3, m4, m5, hs⟩
  refine ⟨M, hs, by rw [m1]; simp, fun hf => ?_⟩
  have hover : ∀ b d, M b = some d → (M.over L) b = some d := fun b d hb => by simp [Lg.over, hb]
  exact h rg q1 q2 (M.over L) ⟨n1, n2, n3, n4, n5, n6, hover _ _ m1, hover _ _ m2, hover _ _ m3, hover _ _ m4,
    fun b d b1 b2 b3 b4 hd => by simp [Lg.over, m5 b b1 b2 b3 b4, hd], hf _ _ m2 n1, hf _ _ m3 n2, hf _ _ m4 n3⟩
theorem COpen.ext (h : COpen L c x rg q1 q2 L1) {L2 : Lg} (h2 : Ext2 L1 L2) : COpen L c x rg q1 q2 L2 :=
  ⟨h.n1, h.n2, h.n3, h.n4, h.n5, h.n6, h2 _ _ h.root, h2 _ _ h.ring, h2 _ _ h.rcv, h2 _ _ h.snd, fun b d b1 b2 b3 b4 hd => h2 _ _ (h.old b d b1 b2 b3 b4 hd), h.f1, h.f2, h.f3⟩
theorem COpen.setRing (h : COpen L c x rg q1 q2 L1) (ys : List Int) : COpen L c { x with vals := ys } rg q1 q2 (L1.put rg (.abs (RingP rg ys x.cap))) :=
  ⟨h.n1, h.n2, h.n3, h.n4, h.n5, h.n6, by rw [Lg.put_ne _ _ _ (Ne.symm h.n1)]; exact h.root, Lg.put_same _ _ _, by rw [Lg.put_ne _ _ _ (Ne.symm h.n4)]; exact h.rcv, by rw [Lg.put_ne _ _ _ (Ne.symm h.n5)]; exact h.snd,
    fun b d b1 b2 b3 b4 hd => by rw [Lg.put_ne _ _ _ b2]; exact h.old b d b1 b2 b3 b4 hd, h.f1, h.f2, h.f3⟩
theorem COpen.setRcv (h : COpen L c x rg q1 q2 L1) (ws : List Wt) : COpen L c { x with recvs := ws } rg q1 q2 (L1.put q1 (.abs (QueueP q1 ws))) :=
  ⟨h.n1, h.n2, h.n3, h.n4, h.n5, h.n6, by rw [Lg.put_ne _ _ _ (Ne.symm h.n2)]; exact h.root, by rw [Lg.put_ne _ _ _ h.n4]; exact h.ring, Lg.put_same _ _ _, by rw [Lg.put_ne _ _ _ (Ne.symm h.n6)]; exact h.snd,
    fun b d b1 b2 b3 b4 hd => by rw [Lg.put_ne _ _ _ b3]; exact h.old b d b1 b2 b3 b4 hd, h.f1, h.f2, h.f3⟩
theorem COpen.setSnd (h : COpen L c x rg q1 q2 L1) (ws : List Wt) : COpen L c { x with sends := ws } rg q1 q2 (L1.put q2 (.abs (QueueP q2 ws))) :=
  ⟨h.n1, h.n2, h.n3, h.n4, h.n5, h.n6, by rw [Lg.put_ne _ _ _ (Ne.symm h.n3)]; exact h.root, by rw [Lg.put_ne _ _ _ h.n5]; exact h.ring, by rw [Lg.put_ne _ _ _ h.n6]; exact h.rcv, Lg.put_same _ _ _,
    fun b d b1 b2 b3 b4 hd => by rw [Lg.put_ne _ _ _ b4]; exact h.old b d b1 b2 b3 b4 hd, h.f1, h.f2, h.f3⟩
theorem COpen.setRoot (h : COpen L c x rg q1 q2 L1) (a b d : Bool) : COpen L c { x with timed := a, signal := b, closed := d } rg q1 q2 (L1.put c (croot rg q1 q2 { x with timed := a, signal := b, closed := d })) :=
  ⟨h.n1, h.n2, h.n3, h.n4, h.n5, h.n6, Lg.put_same _ _ _, by rw [Lg.put_ne _ _ _ h.n1]; exact h.ring, by rw [Lg.put_ne _ _ _ h.n2]; exact h.rcv, by rw [Lg.put_ne _ _ _ h.n3]; exact h.snd,
    fun b d b1 b2 b3 b4 hd => by rw [Lg.put_ne _ _ _ b1]; exact h.old b d b1 b2 b3 b4 hd, h.f1, h.f2, h.f3⟩
theorem COpen.back (h : COpen L c x rg q1 q2 L1) (e : L c = some (.abs (ChanP c x))) : Sees L1 L := by
  have := h.shut
  rwa [Lg.put_self L c _ e] at this
/-- a channel, and a block that has come beside it -/
theorem COpen.onto (h : COpen L c x rg q1 q2 L1) {b : Nat} {d : LC} (hb : L1 b = none) : COpen (L.put b d) c x rg q1 q2 (L1.put b d) := by
  have e := h.ext ((Ext2.refl L1).put hb d)
  have nb : ∀ {r : Nat} {k : LC}, L1 r = some k → r ≠ b := fun hr hrb => by rw [hrb, hb] at hr; cases hr
  refine ⟨h.n1, h.n2, h.n3, h.n4, h.n5, h.n6, e.root, e.ring, e.rcv, e.snd, ?_, ?_, ?_, ?_⟩
  · intro r k b1 b2 b3 b4 hk
    rw [Lg.put_apply] at hk ⊢
    split
    · rename_i h9; rw [if_pos h9] at hk; exact hk
    · rename_i h9; rw [if_neg h9] at hk; exact h.old r k b1 b2 b3 b4 hk
  · rw [Lg.put_ne _ _ _ (nb h.ring)]; exact h.f1
  · rw [Lg.put_ne _ _ _ (nb h.rcv)]; exact h.f2
  · rw [Lg.put_ne _ _ _ (nb h.snd)]; exact h.f3
theorem COpen.none (h : COpen L c x rg q1 q2 L1) {b : Nat} (hb : L1 b = none) : b ≠ c ∧ L b = none := by
  have nb : ∀ {r : Nat} {k : LC}, L1 r = some k → b ≠ r := fun hr hrb => by rw [← hrb, hb] at hr; cases hr
  refine ⟨nb h.root, ?_⟩
  cases e : L b with
  | none => rfl
  | some d => rw [h.old b d (nb h.root) (nb h.ring) (nb h.rcv) (nb h.snd) e] at hb; cases hb

theorem mute_open (hf : H_chanq_Chan_Mute N F) (h : COpen L c x rg q1 q2 L1) : CallL F (N k_chanq_Chan_Mute) [.p (some (c, 0))] L1 fun v L' => v = .b (x.timed || x.signal) ∧ L' = L1 := by
  apply r_chanq_Chan_Mute hf.code
  cases h1 : x.timed <;> simp [D_chanq_Chan_Mute_1, rdL, AB.read, look, h.root, croot, h1]
theorem free_open (hf : H_chanq_Chan_free N F) (h : COpen L c x rg q1 q2 L1) (send : Bool) : CallL F (N k_chanq_Chan_free) [.p (some (c, 0)), .b send] L1 fun v L' => v = .b (if send = true then decide (x.vals.length < x.cap) else decide (0 < x.vals.length)) ∧ L' = L1 := by
  apply r_chanq_Chan_free hf.code
  cases send
  · simp [D_chanq_Chan_free_1, rdL, AB.read, look, h.root, croot]
    refine (ringLen_spec hf.ring_Ring_Len h.ring).mono ?_
    rintro _ _ ⟨rfl, rfl⟩
    simp
  · simp [D_chanq_Chan_free_1, rdL, AB.read, look, h.root, croot]
    refine (ringLen_spec hf.ring_Ring_Len h.ring).mono ?_
    rintro _ _ ⟨rfl, rfl⟩
    simp [rdL, AB.read, look, h.root, croot]
    refine (ringSize_spec hf.ring_Ring_Size h.ring).mono ?_
    rintro _ _ ⟨rfl, rfl⟩
    simp [againV, semRL, rLdL, rdL, AB.read, look, h.root, croot, sameV, same1]
theorem queue_open (hf : H_chanq_Chan_queue N F) (h : COpen L c x rg q1 q2 L1) (send : Bool) : CallL F (N k_chanq_Chan_queue) [.p (some (c, 0)), .b send] L1 fun v L' => v = .p (some (if send = true then q2 else q1, 0)) ∧ L' = L1 := by
  apply r_chanq_Chan_queue hf.code
  cases send <;> simp [D_chanq_Chan_queue_1, rdL, AB.read, look, h.root, croot]
def Ch.wait (x : Ch) (send : Bool) : List Wt := if send = true then x.sends else x.recvs
def Ch.mute (x : Ch) : Bool := x.timed || x.signal
def Ch.free (x : Ch) (send : Bool) : Bool := if send = true then decide (x.vals.length < x.cap) else decide (0 < x.vals.length)
def Ch.can (x : Ch) (send : Bool) : Bool := !(x.mute && send) && (x.closed || x.free send || decide (0 < (x.wait (!send)).length))
theorem waiting_open (hf : H_chanq_Chan_Waiting N F) (h : COpen L c x rg q1 q2 L1) (send : Bool) : CallL F (N k_chanq_Chan_Waiting) [.p (some (c, 0)), .b send] L1 fun v L' => FreshSl L1 v (wcells (x.wait send)) (x.wait send).length 3 L' := by
  apply r_chanq_Chan_Waiting hf.code
  unfold D_chanq_Chan_Waiting_1
  refine (queue_open hf.chanq_Chan_queue h send).mono ?_
  rintro _ L1 ⟨rfl, rfl⟩
  have e : L1 (if send = true then q2 else q1) = some (.abs (QueueP (if send = true then q2 else q1) (x.wait send))) := by
    cases send
    · exact h.rcv
    · exact h.snd
  refine (queueAll_spec hf.wait_Queue_All e).mono ?_
  intro v L' hv
  simp
  exact ⟨L', Sees.refl _, hv⟩
theorem can_spec (hf : H_chanq_Chan_Can N F) (e : L c = some (.abs (ChanP c x))) (send : Bool) : CallL F (N k_chanq_Chan_Can) [.p (some (c, 0)), .b send] L fun v L' => v = .b (x.can send) ∧ L' = L := by
  apply CallL.openC e
  intro rg q1 q2 L1 h
  apply r_chanq_Chan_Can hf.code
  unfold D_chanq_Chan_Can_1 D_chanq_Chan_Can_2
  simp
  refine (mute_open hf.chanq_Chan_Mute h).mono ?_
  rintro _ L1 ⟨rfl, rfl⟩
  have hb := h.back e
  have key : D_chanq_Chan_Can_3 F N (fun v L' => v = .b (x.closed || x.free send || decide (0 < (x.wait (!send)).length)) ∧ L' = L) (.p (some (c, 0))) (.b send) L1 := by
    unfold D_chanq_Chan_Can_3
    simp [rdL, AB.read, look, h.root, croot]
    cases hc : x.closed
    · simp
      refine (free_open hf.chanq_Chan_free h send).mono ?_
      rintro _ L1 ⟨rfl, rfl⟩
      have hfr : (if send = true then decide (x.vals.length < x.cap) else decide (0 < x.vals.length)) = x.free send := rfl
      rw [hfr]
      cases hfree : x.free send
      · cases send
        · simp
          refine (queue_open hf.chanq_Chan_queue h true).mono ?_
          rintro _ L1 ⟨rfl, rfl⟩
          simp
          refine (queueLen_spec hf.wait_Queue_Len h.snd).mono ?_
          rintro _ L1 ⟨rfl, rfl⟩
          simpa [Ch.wait] using hb
        · simp
          refine (queue_open hf.chanq_Chan_queue h false).mono ?_
          rintro _ L1 ⟨rfl, rfl⟩
          simp
          refine (queueLen_spec hf.wait_Queue_Len h.rcv).mono ?_
          rintro _ L1 ⟨rfl, rfl⟩
          simpa [Ch.wait] using hb
      · simpa using hb
    · simpa using hb
  have key2 : (x.timed || x.signal) = x.mute := rfl
  rw [key2]
  cases hm : x.mute
  · simp
    simpa [Ch.can, hm] using key
  · cases send
    · simp
      simpa [Ch.can, hm] using key
    · simp [Ch.can, hm]
      simpa using hb
theorem chanLen_spec (hf : H_chanq_Chan_Len N F) (e : L c = some (.abs (ChanP c x))) : CallL F (N k_chanq_Chan_Len) [.p (some (c, 0))] L fun v L' => v = .i .i64 (if x.timed = true then 0 else x.vals.length) ∧ L' = L := by
  apply CallL.openC e
  intro rg q1 q2 L1 h
  apply r_chanq_Chan_Len hf.code
  have hb := h.back e
  unfold D_chanq_Chan_Len_1
  cases ht : x.timed
  · simp [rdL, AB.read, look, h.root, croot, ht]
    refine (ringLen_spec hf.ring_Ring_Len h.ring).mono ?_
    rintro _ L1 ⟨rfl, rfl⟩
    simpa using hb
  · simpa [rdL, AB.read, look, h.root, croot, ht] using hb
theorem chanCap_spec (hf : H_chanq_Chan_Cap N F) (e : L c = some (.abs (ChanP c x))) : CallL F (N k_chanq_Chan_Cap) [.p (some (c, 0))] L fun v L' => v = .i .i64 (if x.timed = true then 0 else x.cap) ∧ L' = L := by
  apply CallL.openC e
  intro rg q1 q2 L1 h
  apply r_chanq_Chan_Cap hf.code
  have hb := h.back e
  unfold D_chanq_Chan_Cap_1
  cases ht : x.timed
  · simp [rdL, AB.read, look, h.root, croot, ht]
    refine (ringSize_spec hf.ring_Ring_Size h.ring).mono ?_
    rintro _ L1 ⟨rfl, rfl⟩
    simpa using hb
  · simpa [rdL, AB.read, look, h.root, croot, ht] using hb
theorem waiting_spec (hf : H_chanq_Chan_Waiting N F) (e : L c = some (.abs (ChanP c x))) (send : Bool) : CallL F (N k_chanq_Chan_Waiting) [.p (some (c, 0)), .b send] L fun v L' => FreshSl L v (wcells (x.wait send)) (x.wait send).length 3 L' := by
  apply CallL.openC e
  intro rg q1 q2 L1 h
  refine (waiting_open hf h send).sees ?_
  rintro v L' (⟨h1, h2, h3, rfl⟩ | ⟨b, ex, hb, h0, h1, h2, rfl⟩)
  · exact ⟨L, h.back e, .inl ⟨h1, h2, h3, rfl⟩⟩
  · have hn := h.none hb
    refine ⟨_, (h.onto hb).back ?_, .inr ⟨b, ex, hn.2, h0, h1, h2, rfl⟩⟩
    rw [Lg.put_ne _ _ _ (Ne.symm hn.1)]; exact e
theorem drop_spec (hf : H_chanq_Chan_Drop N F) (e : L c = some (.abs (ChanP c x))) : CallL F (N k_chanq_Chan_Drop) [.p (some (c, 0))] L fun v L' =>
    if x.timed = true then v = .b (decide (0 < x.vals.length)) ∧ L' = L.put c (.abs (ChanP c { x with vals := [] })) else v = .b false ∧ L' = L := by
  apply CallL.openC e
  intro rg q1 q2 L1 h
  apply r_chanq_Chan_Drop hf.code
  unfold D_chanq_Chan_Drop_1
  cases ht : x.timed
  · simpa [rdL, AB.read, look, h.root, croot, ht] using h.back e
  · simp [rdL, AB.read, look, h.root, croot, ht]
    refine (ringClear_spec hf.ring_Ring_Clear h.ring).mono ?_
    rintro _ L2 ⟨rfl, rfl⟩
    simpa [ht] using (h.setRing []).shut
theorem dropNil_spec (hf : H_chanq_Chan_Drop N F) : CallL F (N k_chanq_Chan_Drop) [.p none] L fun v L' => v = .b false ∧ L' = L := by
  apply r_chanq_Chan_Drop hf.code
  simp [D_chanq_Chan_Drop_1]
theorem putNil_spec (hf : H_chanq_Chan_Put N F) (v : Int) : CallL F (N k_chanq_Chan_Put) [.p none, .i .i64 v] L fun v L' => v = .tup [.sl none 0 0 0, .b false] ∧ L' = L := by
  apply r_chanq_Chan_Put hf.code
  simp [D_chanq_Chan_Put_1]
/-- a value is handed to the first who waits for one -/
theorem deliver_open (hf : H_chanq_Chan_deliver N F) (h : COpen L c x rg q1 q2 L1) (v : Int) : CallL F (N k_chanq_Chan_deliver) [.p (some (c, 0)), .i .i64 v] L1 fun r L' => match (generalizing := false) x.recvs with
    | [] => r = .sl none 0 0 0 ∧ L' = L1
    | w :: ws => FreshSl (L1.put q1 (.abs (QueueP q1 ws))) r (wkcells [⟨w.t, w.c, v, true, false⟩]) 1 5 L' := by
  apply r_chanq_Chan_deliver hf.code
  unfold D_chanq_Chan_deliver_1
  simp [rdL, AB.read, look, h.root, croot]
  refine (queuePop_spec hf.wait_Queue_Pop h.rcv).mono ?_
  intro r L' hr
  cases hx : x.recvs with
  | nil =>
    simp only [hx] at hr
    obtain ⟨rfl, rfl⟩ := hr
    simp [Wt.av]
    intro b hb
    rw [stL_cells (Lg.put_same _ _ _) (by simp [Wt.cells]) (by simp [Wt.cells]) (by simp)]
    simp
    exact ((Ext2.refl L').put hb _).sees
  | cons w ws =>
    simp only [hx] at hr
    obtain ⟨rfl, rfl⟩ := hr
    simp [Wt.av]
    intro b hb
    rw [stL_cells (Lg.put_same _ _ _) (by simp [Wt.cells]) (by simp [Wt.cells]) (by simp), Lg.put_put]
    simp [Wt.cells, splice, rdL, AB.read, look, fillP, beq_nat, ble_nat]
    rw [newL_bslice (c := [.i .i64 w.t, .i .i64 w.c, .i .i64 v, .b true, .b false]) _ _ (by simp [reps, fillP, cellsOf_agg', splice, ble_nat, beq_nat]) (by simp)]
    intro d hd
    have hdb : d ≠ b := by rintro rfl; simp at hd
    rw [Lg.put_ne _ _ _ hdb] at hd
    refine ⟨(L1.put q1 (.abs (QueueP q1 ws))).put d (.raw (.cells [.i .i64 w.t, .i .i64 w.c, .i .i64 v, .b true, .b false])), ?_, .inr ⟨d, 0, hd, by omega, rfl, rfl, by simp [wkcells, Wk.cells]⟩⟩
    rw [Lg.put_comm _ (Ne.symm hdb)]
    apply Ext2.sees
    refine (Ext2.refl _).put ?_ _
    rw [Lg.put_ne _ _ _ (Ne.symm hdb)]; exact hb
/-- what a value that is put makes of a channel: who is woken; whether it was kept -/
def Ch.put (x : Ch) (v : Int) : Ch × List Wk × Bool :=
  if x.timed = true then match x.recvs with
    | w :: ws => ({ x with recvs := ws }, [⟨w.t, w.c, v, true, false⟩], true)
    | [] => if x.vals.length = x.cap then (x, [], false) else ({ x with vals := x.vals ++ [v] }, [], true)
  else (x, [], false)
theorem put_spec (hf : H_chanq_Chan_Put N F) (e : L c = some (.abs (ChanP c x))) (v : Int) : CallL F (N k_chanq_Chan_Put) [.p (some (c, 0)), .i .i64 v] L fun r L' => ∃ s, r = .tup [s, .b (x.put v).2.2] ∧
    FreshSl (L.put c (.abs (ChanP c (x.put v).1))) s (wkcells (x.put v).2.1) (x.put v).2.1.length 5 L' := by
  apply CallL.openC e
  intro rg q1 q2 L1 h
  apply r_chanq_Chan_Put hf.code
  unfold D_chanq_Chan_Put_1
  cases ht : x.timed
  · simp [rdL, AB.read, look, h.root, croot, ht, Ch.put]
    exact ⟨L, h.back e, .inl ⟨rfl, rfl, rfl, by simp [e]⟩⟩
  · simp [rdL, AB.read, look, h.root, croot, ht]
    refine (deliver_open hf.chanq_Chan_deliver h v).mono ?_
    intro r L' hr
    cases hx : x.recvs with
    | nil =>
      simp only [hx] at hr
      obtain ⟨rfl, rfl⟩ := hr
      simp [rdL, AB.read, look, h.root, croot]
      refine (ringPush_spec hf.ring_Ring_Push h.ring v).mono ?_
      intro r L2 hr
      by_cases hc : x.vals.length = x.cap
      · simp only [hc, if_true] at hr
        obtain ⟨rfl, rfl⟩ := hr
        simp [Ch.put, ht, hx, hc]
        exact ⟨L, h.back e, .inl ⟨rfl, rfl, rfl, by simp [e]⟩⟩
      · simp only [hc, if_false] at hr
        obtain ⟨rfl, rfl⟩ := hr
        simp [Ch.put, ht, hx, hc]
        exact ⟨_, (h.setRing (x.vals ++ [v])).shut, .inl ⟨rfl, rfl, rfl, by simp [ht, hx]⟩⟩
    | cons w ws =>
      simp only [hx] at hr
      rcases hr with ⟨h1, _⟩ | ⟨b, ex, hb, h0, rfl, h2, rfl⟩
      · cases h1
      · simp [Ch.put, ht, hx]
        have h3 := h.setRcv ws
        have hn := h3.none hb
        refine ⟨_, (h3.onto hb).shut, .inr ⟨b, ex, ?_, by omega, rfl, rfl, ?_⟩⟩
        · rw [Lg.put_ne _ _ _ hn.1]; exact hn.2
        · rw [Lg.put_comm _ hn.1]; simp [ht]
theorem splice_w (a b c : AV) (w : Wt) : splice [a, b, c] 0 w.cells = w.cells := by simp [splice, Wt.cells]
/-- what a receive makes of a channel: the value, whether there was one, whether it is done, who is woken -/
def Ch.recv (x : Ch) : Ch × Int × Bool × Bool × List Wk :=
  match x.vals, x.sends with
  | a :: vs, w :: ws => ({ x with vals := if vs.length = x.cap then vs else vs ++ [w.v], sends := ws }, a, true, true, [⟨w.t, w.c, 0, true, false⟩])
  | a :: vs, [] => ({ x with vals := vs }, a, true, true, [])
  | [], w :: ws => ({ x with sends := ws }, w.v, true, true, [⟨w.t, w.c, 0, true, false⟩])
  | [], [] => (x, 0, false, x.closed, [])
theorem recv_spec (hf : H_chanq_Chan_Recv N F) (e : L c = some (.abs (ChanP c x))) : CallL F (N k_chanq_Chan_Recv) [.p (some (c, 0))] L fun r L' => ∃ s, r = .tup [.i .i64 x.recv.2.1, .b x.recv.2.2.1, .b x.recv.2.2.2.1, s] ∧
    FreshSl (L.put c (.abs (ChanP c x.recv.1))) s (wkcells x.recv.2.2.2.2) x.recv.2.2.2.2.length 5 L' := by
  apply CallL.openC e
  intro rg q1 q2 L1 h
  apply r_chanq_Chan_Recv hf.code
  unfold D_chanq_Chan_Recv_1 D_chanq_Chan_Recv_2 D_chanq_Chan_Recv_3
  generalize hQ : (fun (r : AV) (L' : Lg) => ∃ s, r = .tup [.i .i64 x.recv.2.1, .b x.recv.2.2.1, .b x.recv.2.2.2.1, s] ∧
    FreshSl (L.put c (.abs (ChanP c x.recv.1))) s (wkcells x.recv.2.2.2.2) x.recv.2.2.2.2.length 5 L') = Q
  simp [rdL, AB.read, look, h.root, croot]
  refine (ringPop_spec hf.ring_Ring_Pop h.ring).mono ?_
  intro r L2 hr
  cases hv : x.vals with
  | nil =>
    simp only [hv] at hr
    obtain ⟨rfl, rfl⟩ := hr
    simp [D_chanq_Chan_Recv_4, rdL, AB.read, look, h.root, croot]
    refine (queuePop_spec hf.wait_Queue_Pop h.snd).mono ?_
    intro r L3 hr
    cases hw : x.sends with
    | nil =>
      simp only [hw] at hr
      obtain ⟨rfl, rfl⟩ := hr
      simp [Wt.av]
      intro b hb
      have h2 := h.ext ((Ext2.refl L3).put hb (.raw (.cells (splice [.i .i64 0, .i .i64 0, .i .i64 0] 0 Wt.zero.cells))))
      rw [stL_cells (Lg.put_same _ _ _) (by simp [Wt.cells]) (by simp [Wt.cells]) (by simp), Lg.put_put]
      simp [D_chanq_Chan_Recv_5, D_chanq_Chan_Recv_6, rdL, AB.read, look, h2.root, croot]
      refine ⟨L, h2.back e, ?_⟩
      subst hQ
      have hx : x.recv = (x, 0, false, x.closed, []) := by simp [Ch.recv, hv, hw]
      simp only [hx]
      exact ⟨_, rfl, .inl ⟨rfl, rfl, rfl, by simp [e]⟩⟩
    | cons w ws =>
      simp only [hw] at hr
      obtain ⟨rfl, rfl⟩ := hr
      have h1 := h.setSnd ws
      simp [Wt.av]
      intro b hb
      rw [stL_cells (Lg.put_same _ _ _) (by simp [Wt.cells]) (by simp [Wt.cells]) (by simp), Lg.put_put]
      simp [Wt.cells, splice, D_chanq_Chan_Recv_5, rdL, AB.read, look, fillP, beq_nat, ble_nat]
      rw [newL_bslice (c := [.i .i64 w.t, .i .i64 w.c, .i .i64 0, .b true, .b false]) _ _ (by simp [reps, fillP, cellsOf_agg', splice, ble_nat, beq_nat]) (by simp)]
      intro d hd
      have hdb : d ≠ b := by rintro rfl; simp at hd
      rw [Lg.put_ne _ _ _ hdb] at hd
      simp [D_chanq_Chan_Recv_6, D_chanq_Chan_Recv_7, rdL, AB.read, look, Lg.put_apply, Ne.symm hdb]
      have hn := h1.none hd
      refine ⟨_, Sees.trans ?_ (h1.onto (d := .raw (.cells [.i .i64 w.t, .i .i64 w.c, .i .i64 0, .b true, .b false])) hd).shut, ?_⟩
      · rw [Lg.put_comm _ (Ne.symm hdb)]
        apply Ext2.sees
        refine (Ext2.refl _).put ?_ _
        rw [Lg.put_ne _ _ _ (Ne.symm hdb)]; exact hb
      · subst hQ
        have hx : x.recv = ({ x with sends := ws }, w.v, true, true, [⟨w.t, w.c, 0, true, false⟩]) := by simp [Ch.recv, hv, hw]
        simp only [hx]
        refine ⟨_, rfl, .inr ⟨d, 0, ?_, by simp, rfl, rfl, ?_⟩⟩
        · rw [Lg.put_ne _ _ _ hn.1]; exact hn.2
        · rw [Lg.put_comm _ hn.1]; rfl
  | cons a vs =>
    simp only [hv] at hr
    obtain ⟨rfl, rfl⟩ := hr
    have h1 := h.setRing vs
    simp [D_chanq_Chan_Recv_4, rdL, AB.read, look, h1.root, croot]
    refine (queuePop_spec hf.wait_Queue_Pop h1.snd).mono ?_
    intro r L3 hr
    cases hw : x.sends with
    | nil =>
      simp only [hw] at hr
      obtain ⟨rfl, rfl⟩ := hr
      simp [Wt.av]
      intro b hb
      have h2 := h1.ext ((Ext2.refl _).put hb (.raw (.cells (splice [.i .i64 0, .i .i64 0, .i .i64 0] 0 Wt.zero.cells))))
      rw [stL_cells (Lg.put_same _ _ _) (by simp [Wt.cells]) (by simp [Wt.cells]) (by simp), Lg.put_put]
      simp [D_chanq_Chan_Recv_5, D_chanq_Chan_Recv_6, D_chanq_Chan_Recv_7]
      refine ⟨_, h2.shut, ?_⟩
      subst hQ
      have hx : x.recv = ({ x with vals := vs }, a, true, true, []) := by simp [Ch.recv, hv, hw]
      simp only [hx]
      exact ⟨_, rfl, .inl ⟨rfl, rfl, rfl, rfl⟩⟩
    | cons w ws =>
      simp only [hw] at hr
      obtain ⟨rfl, rfl⟩ := hr
      have h2 := h1.setSnd ws
      simp [Wt.av]
      intro b hb
      rw [stL_cells (Lg.put_same _ _ _) (by simp [Wt.cells]) (by simp [Wt.cells]) (by simp), Lg.put_put, splice_w]
      simp [Wt.cells, splice, D_chanq_Chan_Recv_5, rdL, AB.read, look, fillP, beq_nat, ble_nat]
      rw [newL_bslice (c := [.i .i64 w.t, .i .i64 w.c, .i .i64 0, .b true, .b false]) _ _ (by simp [reps, fillP, cellsOf_agg', splice, ble_nat, beq_nat]) (by simp)]
      intro d hd
      have hdb : d ≠ b := by rintro rfl; simp at hd
      rw [Lg.put_ne _ _ _ hdb] at hd
      rw [Lg.put_comm _ (Ne.symm hdb)]
      have hcb : c ≠ b := by rintro rfl; rw [h2.root] at hb; cases hb
      have hn := h2.none hd
      have h3 := h2.onto (d := .raw (.cells [.i .i64 w.t, .i .i64 w.c, .i .i64 0, .b true, .b false])) hd
      have h4 := h3.ext ((Ext2.refl _).put (b := b) (by rw [Lg.put_ne _ _ _ (Ne.symm hdb)]; exact hb) (.raw (.cells w.cells)))
      simp [D_chanq_Chan_Recv_6, D_chanq_Chan_Recv_7, rdL, AB.read, look, h4.root, croot]
      simp [Wt.cells]
      refine (ringPush_spec hf.ring_Ring_Push h4.ring w.v).mono ?_
      intro r L4 hr
      by_cases hc : vs.length = x.cap
      · simp only [hc, if_true] at hr
        obtain ⟨rfl, rfl⟩ := hr
        refine ⟨_, h4.shut, ?_⟩
        subst hQ
        have hx : x.recv = ({ x with vals := vs, sends := ws }, a, true, true, [⟨w.t, w.c, 0, true, false⟩]) := by simp [Ch.recv, hv, hw, hc]
        simp only [hx]
        refine ⟨_, rfl, .inr ⟨d, 0, ?_, by simp, rfl, rfl, ?_⟩⟩
        · rw [Lg.put_ne _ _ _ hn.1]; exact hn.2
        · rw [Lg.put_comm _ hn.1]; rfl
      · simp only [hc, if_false] at hr
        obtain ⟨rfl, rfl⟩ := hr
        refine ⟨_, (h4.setRing (vs ++ [w.v])).shut, ?_⟩
        subst hQ
        have hx : x.recv = ({ x with vals := vs ++ [w.v], sends := ws }, a, true, true, [⟨w.t, w.c, 0, true, false⟩]) := by simp [Ch.recv, hv, hw, hc]
        simp only [hx]
        refine ⟨_, rfl, .inr ⟨d, 0, ?_, by simp, rfl, rfl, ?_⟩⟩
        · rw [Lg.put_ne _ _ _ hn.1]; exact hn.2
        · rw [Lg.put_comm _ hn.1]; rfl
theorem recvNil_spec (hf : H_chanq_Chan_Recv N F) : CallL F (N k_chanq_Chan_Recv) [.p none] L fun r L' => r = .tup [.i .i64 0, .b false, .b false, .sl none 0 0 0] ∧ L' = L := by
  apply r_chanq_Chan_Recv hf.code
  simp [D_chanq_Chan_Recv_1, D_chanq_Chan_Recv_2]
/-- a channel that has come -/
theorem chanNew_open (hf : H_chanq_New N F) (n : Nat) (hn : n ≤ 64) : CallL F (N k_chanq_New) [.i .i64 n] L fun r L' => ∃ c rg q1 q2, L c = none ∧ r = .tup [.p (some (c, 0)), .i .i64 0] ∧ COpen L c ⟨[], n, [], [], false, false, false⟩ rg q1 q2 L' := by
  apply r_chanq_New hf.code
  unfold D_chanq_New_1
  refine (ringNew_spec hf.ring_New n hn).mono ?_
  rintro _ _ ⟨rg, hrg, rfl, rfl⟩
  simp
  refine (queueNew_spec hf.wait_New).mono ?_
  rintro _ _ ⟨q1, h1, rfl, rfl⟩
  refine (queueNew_spec hf.wait_New).mono ?_
  rintro _ _ ⟨q2, h2, rfl, rfl⟩
  have n1 : q1 ≠ rg := by rintro rfl; simp at h1
  have n2 : q2 ≠ q1 := by rintro rfl; simp at h2
  have n3 : q2 ≠ rg := by rintro rfl; rw [Lg.put_ne _ _ _ n2, Lg.put_same] at h2; cases h2
  rw [Lg.put_ne _ _ _ n1] at h1
  rw [Lg.put_ne _ _ _ n2, Lg.put_ne _ _ _ n3] at h2
  simp [fillP, splice, ble_nat, beq_nat]
  rw [newL_box_agg _ _ _ (by simp)]
  intro c hc
  have n4 : c ≠ q2 := by rintro rfl; simp at hc
  have n5 : c ≠ q1 := by rintro rfl; simp [Lg.put_apply, Ne.symm n2] at hc
  have n6 : c ≠ rg := by rintro rfl; simp [Lg.put_apply, Ne.symm n1, Ne.symm n3] at hc
  rw [Lg.put_ne _ _ _ n4, Lg.put_ne _ _ _ n5, Lg.put_ne _ _ _ n6] at hc
  refine ⟨_, Sees.refl _, c, rg, q1, q2, hc, rfl, Ne.symm n6, Ne.symm n5, Ne.symm n4, Ne.symm n1, Ne.symm n3, Ne.symm n2, Lg.put_same _ _ _, ?_, ?_, ?_, ?_, hrg, h1, h2⟩
  · simp [Lg.put_apply, Ne.symm n6, Ne.symm n1, Ne.symm n3]
  · simp [Lg.put_apply, Ne.symm n5, Ne.symm n2]
  · simp [Lg.put_apply, Ne.symm n4]
  · intro b d b1 b2 b3 b4 hd; simp [Lg.put_apply, b1, b2, b3, b4, hd]
theorem timed_spec (hf : H_chanq_Timed N F) : CallL F (N k_chanq_Timed) [] L fun r L' => ∃ c, L c = none ∧ r = .p (some (c, 0)) ∧ L' = L.put c (.abs (ChanP c ⟨[], 1, [], [], true, false, false⟩)) := by
  apply r_chanq_Timed hf.code
  unfold D_chanq_Timed_1
  refine (chanNew_open hf.chanq_New 1 (by omega)).mono ?_
  rintro _ L1 ⟨c, rg, q1, q2, hc, rfl, h⟩
  have h2 := h.setRoot true false false
  simp [stL_cell h.root]
  exact ⟨_, h2.shut, c, hc, rfl, rfl⟩
/-- where the first of them is that is so -/
theorem wcells_at : ∀ (ws : List Wt) (i : Nat) (w : Wt), ws[i]? = some w → ((wcells ws).drop (i * 3)).take 3 = w.cells ∧ i * 3 + 3 ≤ (wcells ws).length
  | [], i, w, h => by simp at h
  | a :: r, 0, w, h => by simp at h; subst h; simp [wcells, Wt.cells]
  | a :: r, i + 1, w, h => by
    have := wcells_at r i w (by simpa using h)
    have e : (i + 1) * 3 = i * 3 + 1 + 1 + 1 := by omega
    rw [e]
    simp only [wcells, Wt.cells, List.cons_append, List.nil_append, List.drop_succ_cons, List.length_cons]
    exact ⟨this.1, by omega⟩
/-- a slice of those who wait, as it may be read -/
def SlW (L : Lg) (s : AV) (ws : List Wt) : Prop := (ws = [] ∧ s = .sl none 0 0 0) ∨ ∃ b ex, s = .sl (some (b, 0)) ws.length ws.length ex ∧ L b = some (.raw (.cells (wcells ws)))
theorem containsW_spec (hf : H_slices_ContainsFunc_WaitWait N F) {s : AV} {ws : List Wt} (hs : SlW L s ws) (hl : ws.length ≤ 1000000) {f : Nat} {fst cap : List AV} {p : Wt → Bool}
    (hso : ∀ w : Wt, CallL F f (fst ++ w.av :: cap) L fun v L' => v = .b (p w) ∧ L' = L) : CallL F (N k_slices_ContainsFunc_WaitWait) [s, .fn f fst cap] L fun v L' => v = .b (ws.any p) ∧ L' = L := by
  apply r_slices_ContainsFunc_WaitWait hf.code
  unfold D_slices_ContainsFunc_WaitWait_1
  have key : CallL F (N k_slices_IndexFunc_WaitWait) [s, .fn f fst cap] L fun v L' => (∃ i : Int, v = .i .i64 i ∧ (decide (0 ≤ i) = ws.any p)) ∧ L' = L := by
    apply r_slices_IndexFunc_WaitWait hf.slices_IndexFunc_WaitWait.code
    unfold D_slices_IndexFunc_WaitWait_1 D_slices_IndexFunc_WaitWait_4
    obtain ⟨a, cp, ex, hsl⟩ : ∃ a cp ex, s = .sl a ws.length cp ex := by
      rcases hs with ⟨rfl, rfl⟩ | ⟨b, ex, rfl, _⟩
      · exact ⟨none, 0, 0, rfl⟩
      · exact ⟨_, _, _, rfl⟩
    simp [hsl, D_slices_IndexFunc_WaitWait_6]
    refine loopW_intro (fun n l' L' => ∃ i : Nat, i ≤ ws.length ∧ n = ws.length - i ∧ (∀ x, x ∈ ws.take i → p x = false) ∧ L' = L ∧ l' 0 = s ∧ l' 1 = .fn f fst cap ∧ l' 7 = .i .i64 ws.length ∧ l' 8 = .i .i64 i)
      ws.length ⟨0, by omega, by omega, by simp, rfl, by simp [hsl], by simp, by simp, by simp⟩ ?_
    rintro n l' t L' ⟨i, hi, hn, hA, rfl, l0, l1, l7, l8⟩
    unfold D_slices_IndexFunc_WaitWait_7
    rw [l0, l1, l7, l8]
    by_cases hlt : i < ws.length
    · have hne : ws ≠ [] := by rintro rfl; simp at hlt
      rcases hs with ⟨h1, _⟩ | ⟨b, ex, rfl, hL⟩
      · exact absurd h1 hne
      have hw : ws[i]? = some ws[i] := List.getElem?_eq_getElem hlt
      have hat := wcells_at ws i _ hw
      have e1 : ((i : Int) < (ws.length : Int)) := by omega
      simp [hlt, wp_iad _ _ _ 3 b 0 ws.length ws.length ex .i64 (i : Int) (Int.natCast_nonneg _) e1, rdL, AB.read, look, hL, cut, ble_nat, hat.2, hat.1]
      refine (hso ws[i]).mono ?_
      rintro _ L2 ⟨rfl, rfl⟩
      rw [condW_bool]
      refine ⟨fun hp => ?_, fun hp => ?_⟩
      · simp
        have : ws.any p = true := List.any_eq_true.2 ⟨ws[i], List.getElem_mem _, hp⟩
        simpa using this
      · have e2 : wr .i64 ((i : Int) + 1) = ((i + 1 : Nat) : Int) := by rw [wr_id (by omega) (by omega)]; omega
        simp
        refine ⟨ws.length - (i + 1), by omega, i + 1, by omega, rfl, ?_, l0, l1, l7, e2⟩
        intro x hx
        rw [List.take_add_one, hw] at hx
        rcases List.mem_append.1 hx with hx | hx
        · exact hA x hx
        · simp at hx; rw [hx]; exact hp
    · have e1 : ¬ ((i : Int) < (ws.length : Int)) := by omega
      have e2 : i = ws.length := by omega
      simp [hlt, D_slices_IndexFunc_WaitWait_3]
      rw [e2, List.take_length] at hA
      simpa using hA
  refine key.mono ?_
  rintro _ _ ⟨⟨i, rfl, hi⟩, rfl⟩
  simp [← hi]
theorem FreshSl.slW {v : AV} {ws : List Wt} {L' : Lg} (h : FreshSl L v (wcells ws) ws.length 3 L') : SlW L' v ws := by
  rcases h with ⟨h1, h2, rfl, rfl⟩ | ⟨b, ex, h1, h2, rfl, h3, rfl⟩
  · exact .inl ⟨List.length_eq_zero_iff.1 h1, rfl⟩
  · exact .inr ⟨b, ex, rfl, Lg.put_same _ _ _⟩
theorem FreshSl.ext {v : AV} {cs : List AV} {n size : Nat} {L' : Lg} (h : FreshSl L v cs n size L') : Ext2 L L' := by
  rcases h with ⟨h1, h2, rfl, rfl⟩ | ⟨b, ex, h1, h2, rfl, h3, rfl⟩
  · exact Ext2.refl _
  · exact (Ext2.refl _).put h1 _
def Ch.waits (x : Ch) (w : Wt) (send : Bool) : Ch × Int :=
  if (x.mute && send) = true then (x, 7) else if x.closed = true then (x, 5)
  else if (x.free send || (x.wait (!send)).any fun y => !decide (y.t = w.t)) = true then (x, 1)
  else (if send = true then { x with sends := x.sends ++ [w] } else { x with recvs := x.recvs ++ [w] }, 0)
theorem wait_rest (hf : H_chanq_Chan_Wait N F) {K : Lg} (h1 : COpen L c x rg q1 q2 K) (w : Wt) (send : Bool) (hl1 : (x.wait send).length < 1000000) (hl2 : (x.wait (!send)).length ≤ 1000000) {b0 : Nat} (hb0 : K b0 = some (.raw (.cells w.cells)))
    (hb1 : b0 ≠ c ∧ b0 ≠ rg ∧ b0 ≠ q1 ∧ b0 ≠ q2) (hm : (x.mute && send) = false) {Q : AV → Lg → Prop}
    (fin : ∀ (y : Ch) (k : Int) {K : Lg}, x.waits w send = (y, k) → Sees K (L.put c (.abs (ChanP c y))) → fin1 (some (.i .i64 k)) Q K) (e : L c = some (.abs (ChanP c x))) :
 wpOp F .nilchk [.p (some (c, 0))] K fun v6 L6 =>
 wpOp F (.fad 5) [v6] L6 fun v7 L7 =>
 wpOp F (.ld none) [v7] L7 fun v8 L8 =>
 condW v8
 (fin1 (some (.i .i64 5)) Q L8)
 (wpOp F (.mkfn (N k_chanq_Chan_Wait_1) 0) [.p (some (b0, 0))] L8 fun v9 L9 =>
 CallL F (N k_chanq_Chan_free) [.p (some (c, 0)), .b send] L9 fun v10 L10 =>
 gdOp F v10 false .mv [.p (some (c, 0))] L10 fun v11 L11 =>
 gdOp F v10 false .mv [.b send] L11 fun v12 L12 =>
 gdOp F v10 false (.un .not) [v12] L12 fun v13 L13 =>
 gdOp F v10 false (.call (N k_chanq_Chan_Waiting)) [v11, v13] L13 fun v14 L14 =>
 gdOp F v10 false .mv [v9] L14 fun v15 L15 =>
 gdOp F v10 false (.call (N k_slices_ContainsFunc_WaitWait)) [v14, v15] L15 fun v16 L16 =>
 wpOp F .pick [v10, (.b true), v16] L16 fun v17 L17 =>
 condW v17
 (fin1 (some (.i .i64 1)) Q L17)
 (CallL F (N k_chanq_Chan_queue) [.p (some (c, 0)), .b send] L17 fun v18 L18 =>
 wpOp F (.ld (some 3)) [.p (some (b0, 0))] L18 fun v19 L19 =>
 CallL F (N k_wait_Queue_Push) [v18, v19] L19 fun v20 L20 =>
 (againV (.ld (some 3)) [.p (some (b0, 0))] L18 L17 ∧ True) ∧ (fin1 (some (.i .i64 0)) Q L20))) := by
  have same : ∀ {K : Lg} (h1 : COpen L c x rg q1 q2 K) (k : Int), x.waits w send = (x, k) → fin1 (some (.i .i64 k)) Q K := by
    intro K h1 k hk
    refine fin x k hk ?_
    rw [Lg.put_self L c _ e]
    exact h1.back e
  simp [rdL, AB.read, look, h1.root, croot]
  cases hc : x.closed
  · simp
    refine (free_open hf.chanq_Chan_free h1 send).mono ?_
    rintro _ K ⟨rfl, rfl⟩
    have hfr : (if send = true then decide (x.vals.length < x.cap) else decide (0 < x.vals.length)) = x.free send := rfl
    rw [hfr]
    have push : ∀ {K : Lg} (h1 : COpen L c x rg q1 q2 K), K b0 = some (.raw (.cells w.cells)) → (x.free send || (x.wait (!send)).any fun y => !decide (y.t = w.t)) = false →
        CallL F (N k_chanq_Chan_queue) [.p (some (c, 0)), .b send] K fun v18 L18 => wpOp F (.ld (some 3)) [.p (some (b0, 0))] L18 fun v19 L19 => CallL F (N k_wait_Queue_Push) [v18, v19] L19 fun v20 L20 =>
          (againV (.ld (some 3)) [.p (some (b0, 0))] L18 K ∧ True) ∧ (fin1 (some (.i .i64 0)) Q L20) := by
      intro K h1 hb0 hn
      refine (queue_open hf.chanq_Chan_queue h1 send).mono ?_
      rintro _ K ⟨rfl, rfl⟩
      have e4 : K (if send = true then q2 else q1) = some (.abs (QueueP (if send = true then q2 else q1) (x.wait send))) := by
        cases send
        · exact h1.rcv
        · exact h1.snd
      simp [rdL_cells hb0 (show 0 + 3 ≤ w.cells.length by simp [Wt.cells])]
      refine (queuePush_spec hf.wait_Queue_Push e4 w hl1).mono ?_
      rintro _ K2 ⟨rfl, rfl⟩
      refine ⟨⟨?_, trivial⟩, ?_⟩
      · simp [againV, semRL, rLdL, rdL_cells hb0 (show 0 + 3 ≤ w.cells.length by simp [Wt.cells]), sameV, sameL, same1, Wt.cells, iEq_eq, kEq]
      · cases send
        · exact fin { x with recvs := x.recvs ++ [w] } 0 (by simp only [Ch.waits, hm, hc, hn]; simp) (h1.setRcv (x.recvs ++ [w])).shut
        · exact fin { x with sends := x.sends ++ [w] } 0 (by simp only [Ch.waits, hm, hc, hn]; simp) (h1.setSnd (x.sends ++ [w])).shut
    cases hfree : x.free send
    · simp
      refine (waiting_open hf.chanq_Chan_Waiting h1 (!send)).mono ?_
      intro v14 L14 hv
      have h2 := h1.ext hv.ext
      have hb2 := hv.ext b0 _ hb0
      simp
      refine (containsW_spec hf.slices_ContainsFunc_WaitWait hv.slW hl2 (f := N k_chanq_Chan_Wait_1) (fst := []) (cap := [.p (some (b0, 0))]) (p := fun y => !decide (y.t = w.t)) ?_).mono ?_
      · intro y
        apply r_chanq_Chan_Wait_1 hf.chanq_Chan_Wait_1.code
        unfold D_chanq_Chan_Wait_1_1 Wt.av
        simp
        rw [newL_box_agg _ _ _ (by simp [Wt.cells])]
        intro b hb
        have hbb : b0 ≠ b := by rintro rfl; rw [hb] at hb2; cases hb2
        simp [rdL, AB.read, look, Lg.put_apply, hbb, hb2, Wt.cells]
        exact ((Ext2.refl _).put hb _).sees
      · rintro _ K2 ⟨rfl, rfl⟩
        simp
        rw [condW_bool]
        refine ⟨fun ha => ?_, fun ha => ?_⟩
        · exact same h2 1 (by simp only [Ch.waits, hm, hc, hfree, ha, Bool.false_or, if_true, Bool.false_eq_true, if_false])
        · exact push h2 hb2 (by rw [hfree, ha]; rfl)
    · simp
      exact same h1 1 (by simp only [Ch.waits, hm, hc, hfree]; simp)
  · simp
    exact same h1 5 (by simp only [Ch.waits, hm, hc]; simp)
theorem wait_spec (hf : H_chanq_Chan_Wait N F) (e : L c = some (.abs (ChanP c x))) (w : Wt) (send : Bool) (hl1 : (x.wait send).length < 1000000) (hl2 : (x.wait (!send)).length ≤ 1000000) :
    CallL F (N k_chanq_Chan_Wait) [.p (some (c, 0)), w.av, .b send] L fun v L' => v = .i .i64 (x.waits w send).2 ∧ L' = L.put c (.abs (ChanP c (x.waits w send).1)) := by
  apply CallL.openC e
  intro rg q1 q2 L1 h
  apply r_chanq_Chan_Wait hf.code
  unfold D_chanq_Chan_Wait_1 Wt.av
  generalize hQ : (fun (v : AV) (L' : Lg) => v = .i .i64 (x.waits w send).2 ∧ L' = L.put c (.abs (ChanP c (x.waits w send).1))) = Q
  simp
  rw [newL_box_agg _ _ _ (by simp [Wt.cells])]
  intro b0 hb0
  have h1 := h.ext ((Ext2.refl _).put hb0 (.raw (.cells w.cells)))
  simp
  refine (mute_open hf.chanq_Chan_Mute h1).mono ?_
  rintro _ K ⟨rfl, rfl⟩
  have key2 : (x.timed || x.signal) = x.mute := rfl
  rw [key2]
  have hback := h1.back e
  have fin : ∀ (y : Ch) (k : Int) {K : Lg}, x.waits w send = (y, k) → Sees K (L.put c (.abs (ChanP c y))) → fin1 (some (.i .i64 k)) Q K := by
    intro y k K hy hs
    subst hQ
    refine ⟨_, hs, ?_⟩
    simp only [hy]
    exact ⟨trivial, trivial⟩
  have same : ∀ (k : Int), x.waits w send = (x, k) → fin1 (some (.i .i64 k)) Q (L1.put b0 (.raw (.cells w.cells))) := by
    intro k hk
    refine fin x k hk ?_
    rw [Lg.put_self L c _ e]
    exact hback
  have hb2 : b0 ≠ c ∧ b0 ≠ rg ∧ b0 ≠ q1 ∧ b0 ≠ q2 := by
    refine ⟨?_, ?_, ?_, ?_⟩ <;> rintro rfl
    · rw [h.root] at hb0; cases hb0
    · rw [h.ring] at hb0; cases hb0
    · rw [h.rcv] at hb0; cases hb0
    · rw [h.snd] at hb0; cases hb0
  cases hmm : x.mute
  · simp
    exact wait_rest hf h1 w send hl1 hl2 (Lg.put_same _ _ _) hb2 (by rw [hmm]; rfl) fin e
  · cases send
    · simp
      exact wait_rest hf h1 w false hl1 hl2 (Lg.put_same _ _ _) hb2 (by rw [hmm]; rfl) fin e
    · simp
      exact same 7 (by simp [Ch.waits, hmm])
end
end Go.AM
