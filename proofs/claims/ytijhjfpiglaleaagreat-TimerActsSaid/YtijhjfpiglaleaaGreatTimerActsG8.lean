/- The texts LawTimerActsB, LawTimerActsC, LawTimerActsD, LawTimerActsE, LawTimerActsF, LawTimerQ, LawTimerSP, LawTimerStale, LawTimerActsG of a proof of TimerActs, merged. -/
import Derived.Test.YtijhjfpiglaleaaGreatTimerActsG7
set_option linter.unusedVariables false
set_option linter.unusedSimpArgs false
namespace Go.AM
def due (now : Int) (l : List It) : Nat := (l.filter fun y => decide (y.w ≤ now)).length
theorem due_ins (now : Int) (z : It) (l : List It) (hz : now < z.w) : due now (ins z l) = due now l := by
  unfold due
  rw [((ins_perm z l).filter _).length_eq,List.filter_cons_of_neg (by simp; omega)]
theorem due_rm (now : Int) {y : It} {l : List It} (hy : y ∈ l) (hw : y.w ≤ now) : due now (rmId y.id l) < due now l := by
  unfold due rmId
  rw [List.filter_filter]
  have e : (l.filter fun a => decide (a.w ≤ now) && !decide (a.id = y.id)) = (l.filter fun a => decide (a.w ≤ now)).filter fun a => !decide (a.id = y.id) := by
    rw [List.filter_filter]; congr 1; funext a; exact Bool.and_comm _ _
  rw [e]
  refine List.length_filter_lt_length_iff_exists.2 ⟨y,?_,by simp⟩
  simp [hy,hw]
theorem due_le (now : Int) (l : List It) : due now l ≤ l.length := List.length_filter_le _ _
theorem clockNext_range {w p now : Int} (hw : 0 ≤ w ∧ w ≤ 4611686018427387904) : (clockNext w p now).2 = 0 → now < (clockNext w p now).1 → 0 ≤ (clockNext w p now).1 ∧ (clockNext w p now).1 ≤ 4611686018427387904 := by
  unfold clockNext
  split
  · intro h; simp at h
  · rename_i h1
    split
    · intro _ _; exact hw
    · intro _ h2
      simp only at h2 ⊢
      have : clockAdd now (p - (now - w).tmod p) ≤ 4611686018427387904 := by unfold clockAdd held; omega
      omega
theorem XG.takeAny {x : Xs} {K : Int} (h : XG x K) (now : Int) :
    (x.take now = (x,(0,0,0),false)) ∨
    ∃ (x' : Xs) (y : It),y ∈ x.l ∧ y.w ≤ now ∧ x.take now = (x',(y.id,y.w,now),true) ∧ XG x' (K + 1) ∧ due now x'.l < due now x.l ∧ (∀ z ∈ x'.l,z ∈ x.l ∨ z.id = y.id) := by
  cases hl : x.l with
  | nil => left; simp [Xs.take,hl]
  | cons y r =>
    have hy : y ∈ x.l := by rw [hl]; simp
    have t0 := h.time y hy
    by_cases hc : now < 0 ∨ now < y.w
    · left; simp [Xs.take,hl,hc]
    · right
      obtain ⟨p,hp1,hp2,hp3⟩ := h.per y hy
      have hst := h.stop y.id
      have hdue := due_rm now hy (by omega)
      rw [hl] at hdue
      by_cases hn : (clockNext y.w p now).2 = 0 ∧ now < (clockNext y.w p now).1
      · have hr := clockNext_range t0 hn.1 hn.2
        obtain ⟨a1,a2,a3,a4,a5⟩ := hst.arm y.id (clockNext y.w p now).1 p hr.1 hp2 hr.2 hp3
        refine ⟨((x.stop y.id).arm y.id (clockNext y.w p now).1 p).1,y,by simp,by omega,by simp [Xs.take,hl,hc,hp1,hn],a1,?_,?_⟩
        · have hb := badT_ok hr.1 hp2 hr.2 hp3
          have e : ((x.stop y.id).arm y.id (clockNext y.w p now).1 p).1.l = ins ⟨y.id,(clockNext y.w p now).1,(x.stop y.id).seq + 1⟩ (rmId y.id (x.stop y.id).l) := by simp [Xs.arm,hb,Xs.armed]
          rw [e,due_ins _ _ _ hn.2]
          have e2 : rmId y.id (x.stop y.id).l = rmId y.id x.l := by simp [Xs.stop,rmId]
          rw [e2,hl]; exact hdue
        · intro z hz
          rcases (a2 z).1 hz with rfl | ⟨h1,h2⟩
          · exact .inr rfl
          · exact .inl (by rw [← hl]; exact (stop_mem.1 h1).1)
      · refine ⟨x.stop y.id,y,by simp,by omega,by simp [Xs.take,hl,hc,hp1,hn],hst.mono (by omega),?_,?_⟩
        · simp only [Xs.stop]; rw [hl]; exact hdue
        · intro z hz; exact .inl (by rw [← hl]; exact (stop_mem.1 hz).1)
theorem few_ids : ∀ (n : Nat) (l : List Int),l.Nodup → (∀ x ∈ l,0 ≤ x ∧ x < (n : Int)) → l.length ≤ n
  | 0,l,_,h => by
    cases l with
    | nil => simp
    | cons a r => have := h a (by simp); omega
  | n + 1,l,nd,h => by
    have h1 := few_ids n (l.filter fun x => !decide (x = (n : Int))) (nd.filter _) (fun x hx => by
      have := List.mem_filter.1 hx
      have h2 := h x this.1
      have h3 : ¬ x = (n : Int) := by simpa using this.2
      omega)
    have h2 : l.count (n : Int) ≤ 1 := List.nodup_iff_count.1 nd _
    have h3 : l.length = l.countP (fun x => decide (x = (n : Int))) + l.countP (fun x => !decide (x = (n : Int))) := by
      have := List.length_eq_countP_add_countP (fun x : Int => decide (x = (n : Int))) (l := l)
      simpa using this
    have h4 : l.countP (fun x => decide (x = (n : Int))) = l.count (n : Int) := by
      rw [List.count_eq_countP]; congr 1
    rw [← List.countP_eq_length_filter] at h1
    omega
structure GoodC (y : Ch) (k : Nat) : Prop where
  t : y.timed = true
  cap : y.cap = 1
  sends : y.sends = []
  sig : y.signal = false
  closed : y.closed = false
  vals : y.vals.length ≤ 1
  recvs : y.recvs.length ≤ k
theorem GoodC.mono {y : Ch} {k k' : Nat} (h : GoodC y k) (hk : k ≤ k') : GoodC y k' := ⟨h.t,h.cap,h.sends,h.sig,h.closed,h.vals,Nat.le_trans h.recvs hk⟩
theorem GoodC.tm (k : Nat) : GoodC Ch.tm k := ⟨rfl,rfl,rfl,rfl,rfl,by simp [Ch.tm],by simp [Ch.tm]⟩
theorem GoodC.dropped {y : Ch} {k : Nat} (h : GoodC y k) : GoodC y.dropped k := ⟨h.t,h.cap,h.sends,h.sig,h.closed,by simp [Ch.dropped],h.recvs⟩
theorem GoodC.put {y : Ch} {k : Nat} (h : GoodC y k) (v : Int) : GoodC (y.put v).1 k := by
  unfold Ch.put
  rw [if_pos h.t]
  split
  · rename_i w ws hw
    have := h.recvs; rw [hw] at this; simp at this
    exact ⟨h.t,h.cap,h.sends,h.sig,h.closed,h.vals,by simp; omega⟩
  · split
    · exact h
    · rename_i h9
      have h1 := h.vals; have h2 := h.cap
      rw [h2] at h9
      exact ⟨h.t,h.cap,h.sends,h.sig,h.closed,by simp only [List.length_append,List.length_cons,List.length_nil]; omega,h.recvs⟩
theorem GoodC.recv {y : Ch} {k : Nat} (h : GoodC y k) : GoodC y.recv.1 k := by
  unfold Ch.recv
  rw [h.sends]
  split
  · rename_i h9; cases h9
  · rename_i a vs hv _
    have := h.vals; rw [hv] at this; simp only [List.length_cons] at this
    exact ⟨h.t,h.cap,rfl,h.sig,h.closed,by show vs.length ≤ 1; omega,h.recvs⟩
  · rename_i h9; cases h9
  · exact h
theorem GoodC.waits {y : Ch} {k : Nat} (h : GoodC y k) (w : Wt) : GoodC (y.waits w false).1 (k + 1) := by
  have h' := h.mono (Nat.le_succ k)
  unfold Ch.waits
  split
  · exact h'
  · split
    · exact h'
    · split
      · exact h'
      · exact ⟨h.t,h.cap,h.sends,h.sig,h.closed,h.vals,by have := h.recvs; simp; omega⟩
structure TG (σ : Tms) (χ : Nat → Ch) (k : Nat) : Prop where
  g : XG σ.x k
  n : 0 ≤ σ.named ∧ σ.named ≤ 64
  o : σ.ones.length ≤ k
  ids : ∀ y ∈ σ.x.l,∃ i : Nat,y.id = (i : Int) ∧ i < σ.ones.length
  gen : ∀ (i : Nat) (w : On),σ.ones[i]? = some w → 0 ≤ w.gen ∧ w.gen ≤ k
  ch : ∀ i,GoodC (χ i) k
section
variable {σ : Tms} {χ : Nat → Ch} {k : Nat}
theorem TG.mono {k' : Nat} (h : TG σ χ k) (hk : k ≤ k') : TG σ χ k' := ⟨h.g.mono (by omega),h.n,Nat.le_trans h.o hk,h.ids,fun i w hw => ⟨(h.gen i w hw).1,by have := (h.gen i w hw).2; omega⟩,fun i => (h.ch i).mono hk⟩
theorem TG.fine (h : TG σ χ k) (hk : k ≤ 900000) : σ.fine 1000000 4611686018427387904 := by
  have h1 := h.g.len; have h2 := h.g.seq; have h3 := h.g.pos; have h4 := h.n; have h5 := h.o
  constructor <;> omega
theorem TG.tf (h : TG σ χ k) (hk : k ≤ 900000) : TFine σ k := ⟨h.g,by omega,by have := h.o; omega,h.n.1⟩
theorem TG.few (h : TG σ χ k) : σ.x.l.length ≤ σ.ones.length := by
  have := few_ids σ.ones.length (σ.x.l.map It.id) h.g.nd (fun x hx => by
    obtain ⟨y,hy,rfl⟩ := List.mem_map.1 hx
    obtain ⟨i,h1,h2⟩ := h.ids y hy
    omega)
  simpa using this
theorem TG.chan (h : TG σ χ k) {i : Nat} {y : Ch} (hy : GoodC y k) : TG σ (updN χ i y) k := ⟨h.g,h.n,h.o,h.ids,h.gen,fun j => by unfold updN; split; exact hy; exact h.ch j⟩
theorem TG.stop (h : TG σ χ k) (id : Int) : TG { σ with x := σ.x.stop id } χ k := ⟨h.g.stop id,h.n,h.o,fun y hy => h.ids y (stop_mem.1 hy).1,h.gen,h.ch⟩
theorem arm_ok {w : On} {now d : Int} (hn : badN now = false) (hk : w.kind = 2 → 1 ≤ d) : 0 ≤ clockAdd now (max d 0) ∧ 0 ≤ (if w.kind = 2 then min d 4611686018427387904 else 0) ∧ clockAdd now (max d 0) ≤ 4611686018427387904 ∧ (if w.kind = 2 then min d 4611686018427387904 else 0) ≤ 4611686018427387904 := by
  simp [badN] at hn
  refine ⟨by unfold clockAdd held; omega,?_,by unfold clockAdd held; omega,?_⟩
  · split
    · rename_i h; have := hk h; omega
    · omega
  · split <;> omega
theorem TG.armed (h : TG σ χ k) {i : Nat} (hi : i < σ.ones.length) {w : On} (hg : 0 ≤ w.gen ∧ w.gen ≤ k) {now d : Int} (hn : badN now = false) (hk : w.kind = 2 → 1 ≤ d) : TG (σ.armed i w now d) χ (k + 1) := by
  obtain ⟨p1,p2,p3,p4⟩ := arm_ok hn hk
  obtain ⟨a1,a2,a3,a4,a5⟩ := h.g.arm i (clockAdd now (max d 0)) (if w.kind = 2 then min d 4611686018427387904 else 0) p1 p2 p3 p4
  refine ⟨by have := a1.mono (K' := ((k + 1 : Nat) : Int)) (by omega); exact this,h.n,by have := h.o; simp [Tms.armed]; omega,fun y hy => ?_,fun j v hv => ?_,fun j => (h.ch j).mono (by omega)⟩
  · rcases (a2 y).1 hy with rfl | ⟨h1,h2⟩
    · exact ⟨i,rfl,by simp [Tms.armed]; exact hi⟩
    · obtain ⟨j,h3,h4⟩ := h.ids y h1
      exact ⟨j,h3,by simp [Tms.armed]; exact h4⟩
  · simp only [Tms.armed] at hv
    by_cases hj : i = j
    · subst hj
      rw [List.getElem?_set_self hi] at hv; cases hv
      exact ⟨by simp; omega,by simp; omega⟩
    · rw [List.getElem?_set_ne hj] at hv
      have := h.gen j v hv; omega
theorem TG.make (h : TG σ χ k) {w : On} (hw : w.gen = 0) (now d : Int) : TG (σ.make w now d).1 (updN χ σ.ones.length .tm) (k + 2) := by
  have h' : TG σ (updN χ σ.ones.length .tm) (k + 2) := (h.chan (GoodC.tm k)).mono (by omega)
  simp only [Tms.make]
  split
  · exact h'
  · rename_i c1
    simp only [not_or] at c1
    split
    · exact h'
    · rename_i c2
      have hb : badN now = false := by simpa using c1.1
      have h2 : TG { σ with named := if w.kind = 4 then σ.named else σ.named + 1,ones := σ.ones ++ [w] } (updN χ σ.ones.length .tm) (k + 1) := by
        refine ⟨h.g.mono (by omega),?_,by have := h.o; simp; omega,fun y hy => ?_,fun j v hv => ?_,fun j => ((h.chan (i := σ.ones.length) (GoodC.tm k)).ch j).mono (by omega)⟩
        · have := h.n
          simp only
          split
          · exact this
          · rename_i h4
            have : ¬ 64 ≤ σ.named := fun h9 => c2 ⟨h4,h9⟩
            omega
        · obtain ⟨i,h3,h4⟩ := h.ids y hy
          exact ⟨i,h3,by simp; omega⟩
        · rcases push_get hv with ⟨_,rfl⟩ | ⟨_,hv'⟩
          · omega
          · have := h.gen j v hv'; omega
      exact h2.armed (i := σ.ones.length) (by simp) (w := w) (by omega) hb (fun h9 => Int.not_lt.1 (fun h8 => c1.2.2 ⟨h9,h8⟩))
theorem TG.reset (h : TG σ χ k) {i : Nat} (hi : i < σ.ones.length) {w : On} (hw : σ.ones[i]? = some w) {now d : Int} (hb : ¬ (badN now = true ∨ (w.kind = 2 ∧ d < 1))) : TG (σ.reset i w now d) χ (k + 1) := by
  simp only [not_or] at hb
  have := (h.stop (i : Int)).armed (i := i) hi (w := w) (h.gen i w hw) (now := now) (d := d) (by simpa using hb.1) (fun h9 => Int.not_lt.1 (fun h8 => hb.2 ⟨h9,h8⟩))
  simpa [Tms.reset] using this
theorem TG.take (h : TG σ χ k) {now : Int} {x' : Xs} {y : It} (hy : y ∈ σ.x.l) (hx : XG x' (k + 1)) (hz : ∀ z ∈ x'.l,z ∈ σ.x.l ∨ z.id = y.id) : TG { σ with x := x' } χ (k + 1) := by
  refine ⟨by have := hx.mono (K' := ((k + 1 : Nat) : Int)) (by omega); exact this,h.n,by have := h.o; simp; omega,fun z hz' => ?_,fun i w hw => ?_,fun j => (h.ch j).mono (by omega)⟩
  · rcases hz z hz' with h1 | h1
    · exact h.ids z h1
    · rw [h1]; exact h.ids y hy
  · have := h.gen i w hw; omega
end
end Go.AM


set_option linter.unusedVariables false
set_option linter.unusedSimpArgs false
namespace Go.AM
variable {N : Nat → Nat} {F : Nat → Option AFn}
def TO (L0 : Lg) (b s u : Nat) (now : Int) (σ ρ : Tms) (χ ψ : Nat → Ch) (K : Lg) : Prop := ∃ Lb per sv pv ov,ROpen Lb u ρ per sv pv ov K ∧ PerOk per ρ.x ∧ TA L0 Lb b s u now σ ρ χ ψ
section
variable {L0 K : Lg} {b s u k : Nat} {now : Int} {σ ρ : Tms} {χ ψ : Nat → Ch}
theorem TO.kept (h : TO L0 b s u now σ ρ χ ψ K) {q : Nat} {x : AB} (h1 : q ≠ u) (h2 : q ≠ b) (h3 : L0 q = some (.raw x)) : K q = some (.raw x) := by
  obtain ⟨Lb,per,sv,pv,ov,o,pk,t⟩ := h
  exact o.old q _ h1 (t.keep q x h1 h2 h3)
theorem TO.bed (h : TO L0 b s u now σ ρ χ ψ K) : K b = some (.raw (.cells [.p (some (s,0)),.p (some (u,0)),.i .i64 now])) := by
  obtain ⟨Lb,per,sv,pv,ov,o,pk,t⟩ := h
  exact o.old b _ t.bu t.bed
theorem TO.b0 (h : TO L0 b s u now σ ρ χ ψ K) : rdL K (b,0) none = some (.p (some (s,0))) := by rw [rdL_cell h.bed]; rfl
theorem TO.b1 (h : TO L0 b s u now σ ρ χ ψ K) : rdL K (b,1) none = some (.p (some (u,0))) := by rw [rdL_cell h.bed]; rfl
theorem TO.b2 (h : TO L0 b s u now σ ρ χ ψ K) : rdL K (b,2) none = some (.i .i64 now) := by rw [rdL_cell h.bed]; rfl
theorem TO.set (h : TO L0 b s u now σ ρ χ ψ K) : K s = some (.abs (SetP s σ)) := by
  obtain ⟨Lb,per,sv,pv,ov,o,pk,t⟩ := h
  exact o.old s _ t.su t.set
theorem TO.chan (h : TO L0 b s u now σ ρ χ ψ K) {i : Nat} {w : On} (hw : σ.ones[i]? = some w) : K.hasC s w.c (χ i) := by
  obtain ⟨Lb,per,sv,pv,ov,o,pk,t⟩ := h
  intro a ha
  obtain ⟨h1,h2,h3⟩ := t.ch i w a hw ha
  exact ⟨h2,o.old a _ h1 h3⟩
theorem TO.junk (h : TO L0 b s u now σ ρ χ ψ K) {x : Nat} (hx : K x = none) (d : AB) : TO (L0.put x (.raw d)) b s u now σ ρ χ ψ (K.put x (.raw d)) ∧ x ≠ u ∧ x ≠ b ∧ (∀ (q : Nat) (y : AB),q ≠ u → q ≠ b → L0 q = some (.raw y) → q ≠ x) := by
  obtain ⟨Lb,per,sv,pv,ov,o,pk,t⟩ := h
  have n := o.ne hx
  have hxb : x ≠ b := by rintro rfl; have := t.bed; rw [n.2.1] at this; cases this
  have hq : ∀ (q : Nat) (y : AB),q ≠ u → q ≠ b → L0 q = some (.raw y) → q ≠ x := fun q y h1 h2 h3 => by
    rintro rfl; have := t.keep q y h1 h2 h3; rw [n.2.1] at this; cases this
  refine ⟨⟨_,per,sv,pv,ov,o.onto hx _,pk,(t.junk (.inr n.2.1) _).mono fun q y h1 h2 h3 => ?_⟩,n.1,hxb,hq⟩
  rw [Lg.put_apply] at h3 ⊢
  split
  · rename_i h9; rw [if_pos h9] at h3; exact h3
  · rename_i h9; rw [if_neg h9] at h3; exact t.keep q y h1 h2 h3
theorem TO.mono (h : TO L0 b s u now σ ρ χ ψ K) {L1 : Lg} (hl : ∀ (q : Nat) (x : AB),q ≠ u → q ≠ b → L1 q = some (.raw x) → L0 q = some (.raw x)) : TO L1 b s u now σ ρ χ ψ K := by
  obtain ⟨Lb,per,sv,pv,ov,o,pk,t⟩ := h
  exact ⟨Lb,per,sv,pv,ov,o,pk,t.mono fun q x h1 h2 h3 => t.keep q x h1 h2 (hl q x h1 h2 h3)⟩
theorem TO.putNow (h : TO L0 b s u now σ ρ χ ψ K) (now' : Int) : TO L0 b s u now' σ ρ χ ψ (K.put b (.raw (.cells [.p (some (s,0)),.p (some (u,0)),.i .i64 now']))) := by
  obtain ⟨Lb,per,sv,pv,ov,o,pk,t⟩ := h
  exact ⟨_,per,sv,pv,ov,o.putOld t.bu t.bed _,pk,t.putNow now'⟩
theorem TO.putS (h : TO L0 b s u now σ ρ χ ψ K) (σ' : Tms) (hc : ∀ (i : Nat) (w' : On) (a : Nat),σ'.ones[i]? = some w' → w'.c = some a → ∃ w,σ.ones[i]? = some w ∧ w.c = some a) : TO L0 b s u now σ' ρ χ ψ (K.put s (.abs (SetP s σ'))) := by
  obtain ⟨Lb,per,sv,pv,ov,o,pk,t⟩ := h
  exact ⟨_,per,sv,pv,ov,o.putOld t.su t.set _,pk,t.putS σ' hc⟩
theorem TO.putC (h : TO L0 b s u now σ ρ χ ψ K) {i : Nat} {w : On} (hw : σ.ones[i]? = some w) (y : Ch) : TO L0 b s u now σ ρ (updN χ i y) ψ (K.putC w.c y) := by
  obtain ⟨Lb,per,sv,pv,ov,o,pk,t⟩ := h
  have t2 := t.putC hw y
  refine ⟨Lb.putC w.c y,per,sv,pv,ov,?_,pk,t2⟩
  cases hc : w.c with
  | none => exact o
  | some a =>
    obtain ⟨h1,h2,h3⟩ := t.ch i w a hw hc
    exact o.putOld h1 h3 _
theorem same_ones {σ σ' : Tms} (h : σ'.ones = σ.ones) : ∀ (i : Nat) (w' : On) (a : Nat),σ'.ones[i]? = some w' → w'.c = some a → ∃ w,σ.ones[i]? = some w ∧ w.c = some a := fun i w' a h1 h2 => ⟨w',by rw [← h]; exact h1,h2⟩
theorem armed_ones {σ : Tms} {i : Nat} {w : On} (hw : σ.ones[i]? = some w) {now d : Int} : ∀ (j : Nat) (w' : On) (a : Nat),(σ.armed i w now d).ones[j]? = some w' → w'.c = some a → ∃ w,σ.ones[j]? = some w ∧ w.c = some a := by
  intro j w' a h1 h2
  simp only [Tms.armed] at h1
  by_cases hj : i = j
  · subst hj
    rw [List.getElem?_set_self (List.getElem?_eq_some_iff.1 hw).1] at h1
    cases h1
    exact ⟨w,hw,h2⟩
  · rw [List.getElem?_set_ne hj] at h1; exact ⟨w',h1,h2⟩
theorem TO.viaR {f : Nat} {vs : List AV} {Q' : AV → Lg → Prop} (h : TO L0 b s u now σ ρ χ ψ K)
    (hc : ∀ Lb : Lg,TA L0 Lb b s u now σ ρ χ ψ → Lb u = some (.abs (TmRP u ρ)) → CallL F f vs Lb fun v L' => ∃ ρ' ψ',L' u = some (.abs (TmRP u ρ')) ∧ TA L0 L' b s u now σ ρ' χ ψ' ∧ ∀ K',TO L0 b s u now σ ρ' χ ψ' K' → (∀ r d,r ≠ u → L' r = some d → K' r = some d) → Q' v K') : CallL F f vs K Q' := by
  obtain ⟨Lb,per,sv,pv,ov,o,pk,t⟩ := h
  refine CallL.viaR o pk (hc _ (t.junk (.inl rfl) _) (Lg.put_same _ _ _)) ?_
  rintro v L' ⟨ρ',ψ',h1,h2,h3⟩
  exact ⟨ρ',h1,fun per' sv' pv' ov' K' o' pk' => h3 K' ⟨L',per',sv',pv',ov',o',pk',h2⟩ o'.old⟩
theorem TO.pWith {f : Nat} {vs : List AV} {kind n d : Int} (h : TO L0 b s u now σ ρ χ ψ K)
    (hc : CallL F f vs K fun v L' => ∃ c,K c = none ∧ c ≠ s ∧
      ((σ.make ⟨kind,0,some c,0⟩ n d).2.2 = 0 ∧ v = .tup [.i .i64 (σ.make ⟨kind,0,some c,0⟩ n d).2.1,.p (some (c,0)),.i .i64 0] ∧ L' = (K.put s (.abs (SetP s (σ.make ⟨kind,0,some c,0⟩ n d).1))).put c (.abs (ChanP c .tm)) ∨
       (σ.make ⟨kind,0,some c,0⟩ n d).2.2 ≠ 0 ∧ v = .tup [.i .i64 0,.p none,.i .i64 (σ.make ⟨kind,0,some c,0⟩ n d).2.2] ∧ L' = K)) :
    CallL F f vs K fun v K' => ∃ c,v = .tup [.i .i64 (σ.make ⟨kind,0,none,0⟩ n d).2.1,ptr c,.i .i64 (σ.make ⟨kind,0,none,0⟩ n d).2.2] ∧ (c.isSome = decide ((σ.make ⟨kind,0,none,0⟩ n d).2.2 = 0)) ∧
      TO L0 b s u now (σ.make ⟨kind,0,c,0⟩ n d).1 ρ (updN χ σ.ones.length .tm) ψ K' := by
  refine hc.mono ?_
  rintro v K' ⟨c,h1,h2,⟨h3,rfl,rfl⟩ | ⟨h3,rfl,rfl⟩⟩
  · obtain ⟨m1,m2⟩ := make_c (σ := σ) (w := ⟨kind,0,none,0⟩) (now := n) (d := d) (some c)
    simp only at m1 m2
    obtain ⟨m3,m4⟩ := make_ok h3
    refine ⟨some c,by rw [← m1,← m2,h3]; rfl,by rw [← m1,h3]; simp,?_⟩
    obtain ⟨Lb,per,sv,pv,ov,o,pk,t⟩ := h
    have n1 := o.ne h1
    have o2 := (o.putOld t.su t.set (.abs (SetP s (σ.make ⟨kind,0,some c,0⟩ n d).1))).onto (b := c) (by rw [Lg.put_ne _ _ _ h2]; exact h1) (.abs (ChanP c .tm))
    exact ⟨_,per,sv,pv,ov,o2,pk,t.newC m4 rfl n1.2.1 n1.1 .tm⟩
  · obtain ⟨m1,m2⟩ := make_c (σ := σ) (w := ⟨kind,0,none,0⟩) (now := n) (d := d) (some c)
    simp only at m1 m2
    rw [m1] at h3
    obtain ⟨m3,m4⟩ := make_err h3
    refine ⟨none,by rw [m1,m4]; rfl,by simp [h3],?_⟩
    rw [m3]
    obtain ⟨Lb,per,sv,pv,ov,o,pk,t⟩ := h
    refine ⟨Lb,per,sv,pv,ov,o,pk,t.bed,t.bu,t.set,t.su,fun i w a g1 g2 => ?_,t.ch',t.d1,t.d2,t.d3,t.keep⟩
    have hi := (List.getElem?_eq_some_iff.1 g1).1
    have : ¬ i = σ.ones.length := by omega
    simp only [updN,this,if_false]
    exact t.ch i w a g1 g2
theorem TO.rWith {f : Nat} {vs : List AV} {kind n d : Int} (h : TO L0 b s u now σ ρ χ ψ K) (hc : ∀ Lb : Lg,Lb u = some (.abs (TmRP u ρ)) → CallL F f vs Lb (WithR Lb u ρ kind n d)) :
    CallL F f vs K fun v K' => ∃ c,v = .tup [.i .i64 (ρ.make ⟨kind,0,none,0⟩ n d).2.1,ptr c,.i .i64 (ρ.make ⟨kind,0,none,0⟩ n d).2.2] ∧ (c.isSome = decide ((ρ.make ⟨kind,0,none,0⟩ n d).2.2 = 0)) ∧
      TO L0 b s u now σ (ρ.make ⟨kind,0,c,0⟩ n d).1 χ (updN ψ ρ.ones.length .tm) K' := by
  refine h.viaR (Q' := fun v K' => ∃ c,v = .tup [.i .i64 (ρ.make ⟨kind,0,none,0⟩ n d).2.1,ptr c,.i .i64 (ρ.make ⟨kind,0,none,0⟩ n d).2.2] ∧ (c.isSome = decide ((ρ.make ⟨kind,0,none,0⟩ n d).2.2 = 0)) ∧ TO L0 b s u now σ (ρ.make ⟨kind,0,c,0⟩ n d).1 χ (updN ψ ρ.ones.length .tm) K') ?_
  intro Lb t e
  refine (hc Lb e).mono ?_
  rintro v L' (⟨h1,rfl,rfl⟩ | ⟨c,h1,h2,h3,rfl,rfl⟩)
  · obtain ⟨m3,m4⟩ := make_err h1
    refine ⟨ρ,updN ψ ρ.ones.length .tm,e,⟨t.bed,t.bu,t.set,t.su,t.ch,fun i w a g1 g2 => ?_,t.d1,t.d2,t.d3,t.keep⟩,fun K' hK' _ => ⟨none,by rw [m4]; rfl,by simp [h1],by rw [m3]; exact hK'⟩⟩
    have hi := (List.getElem?_eq_some_iff.1 g1).1
    have : ¬ i = ρ.ones.length := by omega
    simp only [updN,this,if_false]
    exact t.ch' i w a g1 g2
  · obtain ⟨m1,m2⟩ := make_c (σ := ρ) (w := ⟨kind,0,none,0⟩) (now := n) (d := d) (some c)
    simp only at m1 m2
    obtain ⟨m3,m4⟩ := make_ok h3
    refine ⟨(ρ.make ⟨kind,0,some c,0⟩ n d).1,updN ψ ρ.ones.length .tm,by rw [Lg.put_ne _ _ _ (Ne.symm h2),Lg.put_same],?_,fun K' hK' _ => ⟨some c,by rw [← m1,← m2,h3,m3]; rfl,by rw [← m1,h3]; simp,hK'⟩⟩
    exact (t.junk (.inl rfl) _).newR m4 rfl (by rw [Lg.put_ne _ _ _ h2]; exact h1) h2 .tm
theorem make_ones {σ : Tms} {w : On} (hc : w.c = none) {n d : Int} : ∀ (j : Nat) (w' : On) (a : Nat),(σ.make w n d).1.ones[j]? = some w' → w'.c = some a → ∃ w,σ.ones[j]? = some w ∧ w.c = some a := by
  intro j w' a h1 h2
  by_cases h0 : (σ.make w n d).2.2 = 0
  · rw [(make_ok h0).2] at h1
    rcases push_get h1 with ⟨_,rfl⟩ | ⟨_,h1'⟩
    · simp [hc] at h2
    · exact ⟨w',h1',h2⟩
  · rw [(make_err h0).1] at h1; exact ⟨w',h1,h2⟩
theorem TO.rMake {f : Nat} {vs : List AV} {w : On} (hw : w.c = none) {n d : Int} (h : TO L0 b s u now σ ρ χ ψ K)
    (hc : ∀ Lb : Lg,Lb u = some (.abs (TmRP u ρ)) → CallL F f vs Lb fun v L' => v = .tup [.i .i64 (ρ.make w n d).2.1,.i .i64 (ρ.make w n d).2.2] ∧ L' = Lb.put u (.abs (TmRP u (ρ.make w n d).1))) :
    CallL F f vs K fun v K' => v = .tup [.i .i64 (ρ.make w n d).2.1,.i .i64 (ρ.make w n d).2.2] ∧ TO L0 b s u now σ (ρ.make w n d).1 χ ψ K' := by
  refine h.viaR (Q' := fun v K' => v = .tup [.i .i64 (ρ.make w n d).2.1,.i .i64 (ρ.make w n d).2.2] ∧ TO L0 b s u now σ (ρ.make w n d).1 χ ψ K') ?_
  intro Lb t e
  refine (hc Lb e).mono ?_
  rintro v L' ⟨rfl,rfl⟩
  exact ⟨_,ψ,Lg.put_same _ _ _,(t.junk (.inl rfl) _).setR _ (make_ones hw),fun K' hK' _ => ⟨rfl,hK'⟩⟩
theorem TO.rStop (hf : H_f80 N F) (h : TO L0 b s u now σ ρ χ ψ K) {B : Int} (fi : TFine ρ B) (id : Int) {i : Nat} {w : On} (hid : id = (i : Int)) (hw : ρ.ones[i]? = some w) (ho : ρ.one id = some w) (hx : (ψ i).timed = true) :
    CallL F (N k_f80) [.p (some (u,0)),.i .i64 id] K fun v K' => v = .tup [.b (dropsC w.c (ψ i) || (findId id ρ.x.l).isSome),.i .i64 0] ∧ TO L0 b s u now σ { ρ with x := ρ.x.stop id } χ (updN ψ i (ψ i).dropped) K' := by
  refine h.viaR (Q' := fun v K' => v = .tup [.b (dropsC w.c (ψ i) || (findId id ρ.x.l).isSome),.i .i64 0] ∧ TO L0 b s u now σ { ρ with x := ρ.x.stop id } χ (updN ψ i (ψ i).dropped) K') ?_
  intro Lb t e
  have hc : Lb.hasR u w.c (ψ i) := fun a ha => ⟨(t.ch' i w a hw ha).1,(t.ch' i w a hw ha).2.2⟩
  refine (stopR_spec hf e fi id ho hx hc).mono ?_
  rintro v L' ⟨rfl,rfl⟩
  refine ⟨_,updN ψ i (ψ i).dropped,?_,?_,fun K' hK' _ => ⟨rfl,hK'⟩⟩
  · rw [← putR_comm (fun a ha => (hc a ha).1),Lg.put_same]
  · exact (((t.junk (.inl rfl) (.abs (TmRP u { ρ with x := ρ.x.stop id }))).putR hw (ψ i).dropped).setR _ (same_ones rfl))
theorem TO.rNone {f : Nat} {vs : List AV} {r : AV} (h : TO L0 b s u now σ ρ χ ψ K) (hc : ∀ Lb : Lg,Lb u = some (.abs (TmRP u ρ)) → CallL F f vs Lb fun v L' => v = r ∧ L' = Lb) : CallL F f vs K fun v K' => v = r ∧ TO L0 b s u now σ ρ χ ψ K' ∧ True := by
  refine h.viaR (Q' := fun v K' => v = r ∧ TO L0 b s u now σ ρ χ ψ K' ∧ True) ?_
  intro Lb t e
  refine (hc Lb e).mono ?_
  rintro v L' ⟨rfl,rfl⟩
  exact ⟨ρ,ψ,e,t,fun K' hK' _ => ⟨rfl,hK',trivial⟩⟩
theorem TO.rReset (hf : H_f81 N F) (h : TO L0 b s u now σ ρ χ ψ K) {B : Int} (fi : TFine ρ B) (id n d : Int) {i : Nat} {w : On} (hid : id = (i : Int)) (hw : ρ.ones[i]? = some w) (ho : ρ.one id = some w) (hg : 0 ≤ w.gen ∧ w.gen < 4611686018427387904) (hx : (ψ i).timed = true) :
    CallL F (N k_f81) [.p (some (u,0)),.i .i64 id,.i .i64 n,.i .i64 d] K fun v K' =>
      if badN n = true ∨ (w.kind = 2 ∧ d < 1) then v = .tup [.b false,.i .i64 1] ∧ TO L0 b s u now σ ρ χ ψ K'
      else if w.kind = 4 then v = .tup [.b false,.i .i64 7] ∧ TO L0 b s u now σ ρ χ ψ K'
      else v = .tup [.b (dropsC w.c (ψ i) || (findId id ρ.x.l).isSome),.i .i64 0] ∧ TO L0 b s u now σ (ρ.reset id w n d) χ (updN ψ i (ψ i).dropped) K' := by
  refine h.viaR (Q' := fun v K' => if badN n = true ∨ (w.kind = 2 ∧ d < 1) then v = .tup [.b false,.i .i64 1] ∧ TO L0 b s u now σ ρ χ ψ K'
      else if w.kind = 4 then v = .tup [.b false,.i .i64 7] ∧ TO L0 b s u now σ ρ χ ψ K'
      else v = .tup [.b (dropsC w.c (ψ i) || (findId id ρ.x.l).isSome),.i .i64 0] ∧ TO L0 b s u now σ (ρ.reset id w n d) χ (updN ψ i (ψ i).dropped) K') ?_
  intro Lb t e
  have hc : Lb.hasR u w.c (ψ i) := fun a ha => ⟨(t.ch' i w a hw ha).1,(t.ch' i w a hw ha).2.2⟩
  refine (resetR_spec hf e fi id n d ho hg hx hc).mono ?_
  intro v L' hv
  split at hv
  · rename_i c1
    obtain ⟨rfl,rfl⟩ := hv
    exact ⟨ρ,ψ,e,t,fun K' hK' _ => by rw [if_pos c1]; exact ⟨rfl,hK'⟩⟩
  · rename_i c1
    split at hv
    · rename_i c2
      obtain ⟨rfl,rfl⟩ := hv
      exact ⟨ρ,ψ,e,t,fun K' hK' _ => by rw [if_neg c1,if_pos c2]; exact ⟨rfl,hK'⟩⟩
    · rename_i c2
      obtain ⟨rfl,rfl⟩ := hv
      refine ⟨_,updN ψ i (ψ i).dropped,?_,?_,fun K' hK' _ => by rw [if_neg c1,if_neg c2]; exact ⟨rfl,hK'⟩⟩
      · rw [← putR_comm (fun a ha => (hc a ha).1),Lg.put_same]
      · refine ((t.junk (.inl rfl) (.abs (TmRP u (ρ.reset id w n d)))).putR hw (ψ i).dropped).setR _ ?_
        rw [hid]
        simp only [Tms.reset,Int.toNat_natCast]
        exact armed_ones (σ := { ρ with x := ρ.x.stop (i : Int) }) hw
theorem TO.fresh {v : AV} {l : List Wk} {K' : Lg} (h : TO L0 b s u now σ ρ χ ψ K) (hf : FreshSl K v (wkcells l) l.length 5 K') : ∃ L1,TO L1 b s u now σ ρ χ ψ K' ∧ SlV Wk.cells 5 K' v l ∧ (∀ (q : Nat) (x : AB),q ≠ u → q ≠ b → L0 q = some (.raw x) → L1 q = some (.raw x)) ∧ ((l = [] ∧ v = .sl none 0 0 0) ∨ ∃ q ex,v = .sl (some (q,0)) l.length l.length ex ∧ q ≠ u ∧ q ≠ b ∧ L1 q = some (.raw (.cells (wkcells l)))) := by
  have hs := hf.slV
  rcases hf with ⟨h1,h2,rfl,rfl⟩ | ⟨q,ex,h1,h2,rfl,h3,rfl⟩
  · exact ⟨L0,h,hs,fun _ _ _ _ h => h,.inl ⟨List.length_eq_zero_iff.1 h1,rfl⟩⟩
  · obtain ⟨h4,h5,h6,h7⟩ := h.junk h1 (.cells (wkcells l))
    exact ⟨_,h4,hs,fun r x r1 r2 r3 => by rw [Lg.put_ne _ _ _ (h7 r x r1 r2 r3)]; exact r3,.inr ⟨q,ex,rfl,h5,h6,Lg.put_same _ _ _⟩⟩
theorem slV_of {l : List Wk} {v : AV} {X : Lg} (h : (l = [] ∧ v = .sl none 0 0 0) ∨ ∃ q ex,v = .sl (some (q,0)) l.length l.length ex ∧ X q = some (.raw (.cells (wkcells l)))) : SlV Wk.cells 5 X v l := by
  rcases h with ⟨rfl,rfl⟩ | ⟨q,ex,rfl,h⟩
  · exact ⟨none,0,0,rfl,.inl rfl⟩
  · rw [wkcells_flat] at h
    refine ⟨some (q,0),l.length,ex,rfl,.inr ⟨q,0,flatc Wk.cells l,rfl,.inl h,by rw [flatc_length Wk.len5]; omega,fun i x hi => ?_⟩⟩
    have := flatc_at (f := Wk.cells) (k := 5) (fun _ => rfl) l i x hi
    simpa using this.1
theorem TO.rFire (hf : H_f87 N F) (h : TO L0 b s u now σ ρ χ ψ K) {B : Int} (fi : TFine ρ B) (n : Int) {x' : Xs} {id when : Int} (tk : ρ.x.take n = (x',(id,when,n),true)) {i : Nat} {w : On} (hid : id = (i : Int)) (hw : ρ.ones[i]? = some w) (ho : ρ.one id = some w)
    (hx : (ψ i).timed = true) (hl : (ψ i).vals.length ≤ (ψ i).cap) (hcp : (ψ i).cap < 1000000) :
    CallL F (N k_f87) [.p (some (u,0)),.i .i64 n] K fun v K' => ∃ sl,v = .tup [firedAV id w.kind when n w.data sl (putsC w.c (ψ i) n).2.2,.b true] ∧ TO L0 b s u now σ { ρ with x := x' } χ (updN ψ i (putsC w.c (ψ i) n).1) K' ∧
      (((putsC w.c (ψ i) n).2.1 = [] ∧ sl = .sl none 0 0 0) ∨ ∃ q ex,sl = .sl (some (q,0)) (putsC w.c (ψ i) n).2.1.length (putsC w.c (ψ i) n).2.1.length ex ∧ K' q = some (.raw (.cells (wkcells (putsC w.c (ψ i) n).2.1)))) := by
  refine h.viaR (Q' := fun v K' => ∃ sl,v = .tup [firedAV id w.kind when n w.data sl (putsC w.c (ψ i) n).2.2,.b true] ∧ TO L0 b s u now σ { ρ with x := x' } χ (updN ψ i (putsC w.c (ψ i) n).1) K' ∧
      (((putsC w.c (ψ i) n).2.1 = [] ∧ sl = .sl none 0 0 0) ∨ ∃ q ex,sl = .sl (some (q,0)) (putsC w.c (ψ i) n).2.1.length (putsC w.c (ψ i) n).2.1.length ex ∧ K' q = some (.raw (.cells (wkcells (putsC w.c (ψ i) n).2.1))))) ?_
  intro Lb t e
  have hc : Lb.hasR u w.c (ψ i) := fun a ha => ⟨(t.ch' i w a hw ha).1,(t.ch' i w a hw ha).2.2⟩
  refine (fireR_spec hf e fi n tk ho hx hl hcp hc).mono ?_
  rintro v L' ⟨sl,rfl,hfs⟩
  have t2 := (((t.junk (.inl rfl) (.abs (TmRP u { ρ with x := x' }))).putR hw (putsC w.c (ψ i) n).1).setR { ρ with x := x' } (same_ones rfl))
  have hu : ((Lb.put u (.abs (TmRP u { ρ with x := x' }))).putR w.c (putsC w.c (ψ i) n).1) u = some (.abs (TmRP u { ρ with x := x' })) := by
    rw [← putR_comm (fun a ha => (hc a ha).1),Lg.put_same]
  rcases hfs with ⟨f1,f2,f3,f4⟩ | ⟨q,ex,f1,f2,f3,f4,f5⟩
  · subst f4
    exact ⟨_,updN ψ i (putsC w.c (ψ i) n).1,hu,t2,fun K' hK' _ => ⟨sl,rfl,hK',.inl ⟨List.length_eq_zero_iff.1 f1,f3⟩⟩⟩
  · subst f5
    have hqu : q ≠ u := by rintro rfl; rw [hu] at f1; cases f1
    refine ⟨_,updN ψ i (putsC w.c (ψ i) n).1,by rw [Lg.put_ne _ _ _ (Ne.symm hqu)]; exact hu,t2.junk (.inr f1) _,fun K' hK' hold => ⟨sl,rfl,hK',.inr ⟨q,ex,f3,hold q _ hqu (Lg.put_same _ _ _)⟩⟩⟩
theorem TO.rChan (hf : H_f92 N F) (h : TO L0 b s u now σ ρ χ ψ K) (id : Int) : CallL F (N k_f92) [.p (some (u,0)),.i .i64 id] K fun v K' => v = (match ρ.one id with | some o => ptr o.c | none => .p none) ∧ TO L0 b s u now σ ρ χ ψ K' ∧ True :=
  h.rNone fun Lb e => chanR_spec hf e id
theorem TO.rRecv (hf : H_f93 N F) (h : TO L0 b s u now σ ρ χ ψ K) {i : Nat} {w : On} (hw : ρ.ones[i]? = some w) {a : Nat} (ha : w.c = some a) (hs : (ψ i).sends = []) :
    CallL F (N k_f93) [.p (some (a,0))] K fun r K' => r = .tup [.i .i64 (ψ i).recv.2.1,.b (ψ i).recv.2.2.1,.b (ψ i).recv.2.2.2.1,.sl none 0 0 0] ∧ (ψ i).recv.2.2.2.2 = [] ∧ TO L0 b s u now σ ρ χ (updN ψ i (ψ i).recv.1) K' := by
  refine h.viaR (Q' := fun r K' => r = .tup [.i .i64 (ψ i).recv.2.1,.b (ψ i).recv.2.2.1,.b (ψ i).recv.2.2.2.1,.sl none 0 0 0] ∧ (ψ i).recv.2.2.2.2 = [] ∧ TO L0 b s u now σ ρ χ (updN ψ i (ψ i).recv.1) K') ?_
  intro Lb t e
  obtain ⟨g1,g2,g3⟩ := t.ch' i w a hw ha
  refine (recvR_spec hf g3 hs).mono ?_
  rintro r L' ⟨rfl,rfl,hr⟩
  refine ⟨ρ,updN ψ i (ψ i).recv.1,by rw [Lg.put_ne _ _ _ (Ne.symm g1)]; exact e,?_,fun K' hK' _ => ⟨rfl,hr,hK'⟩⟩
  have := t.putR hw (ψ i).recv.1
  rw [ha] at this; exact this
theorem TO.rWait (hf : H_f100 N F) (h : TO L0 b s u now σ ρ χ ψ K) {i : Nat} {w : On} (hw : ρ.ones[i]? = some w) {a : Nat} (ha : w.c = some a) (hs : (ψ i).sends = []) (hl : (ψ i).recvs.length < 1000000) (q : Wt) :
    CallL F (N k_f100) [.p (some (a,0)),q.av,.b false] K fun r K' => r = .i .i64 ((ψ i).waits q false).2 ∧ TO L0 b s u now σ ρ χ (updN ψ i ((ψ i).waits q false).1) K' := by
  refine h.viaR (Q' := fun r K' => r = .i .i64 ((ψ i).waits q false).2 ∧ TO L0 b s u now σ ρ χ (updN ψ i ((ψ i).waits q false).1) K') ?_
  intro Lb t e
  obtain ⟨g1,g2,g3⟩ := t.ch' i w a hw ha
  refine (waitR_spec hf g3 hs hl q).mono ?_
  rintro r L' ⟨rfl,rfl⟩
  refine ⟨ρ,updN ψ i ((ψ i).waits q false).1,by rw [Lg.put_ne _ _ _ (Ne.symm g1)]; exact e,?_,fun K' hK' _ => ⟨rfl,hK'⟩⟩
  have := t.putR hw ((ψ i).waits q false).1
  rw [ha] at this; exact this
end
theorem fired_spec (hf : H_f89 N F) {K : Lg} {id kind when at_ data : Int} {kept : Bool} {s1 s2 : AV} {l : List Wk} (h1 : SlV Wk.cells 5 K s1 l) (h2 : SlV Wk.cells 5 K s2 l) (hl : l.length ≤ 1000000) :
    CallL F (N k_f89) [firedAV id kind when at_ data s1 kept,firedAV id kind when at_ data s2 kept] K fun v K' => v = .b true ∧ K' = K := by
  refine CallL.opq ?_
  intro Q hQ
  apply r_f89 hf.code
  have o1 : s1.one = true := by obtain ⟨a,c,e,rfl,_⟩ := h1; rfl
  have o2 : s2.one = true := by obtain ⟨a,c,e,rfl,_⟩ := h2; rfl
  unfold D_f89_1 firedAV
  simp only [mark_eq,wp_box]
  rw [newL_box_agg _ _ _ (by simp [o1])]
  intro b1 hb1
  simp only [mark_eq,wp_box]
  rw [newL_box_agg _ _ _ (by simp [o2])]
  intro b2 hb2
  have n12 : b1 ≠ b2 := by rintro rfl; rw [Lg.put_same] at hb2; cases hb2
  have hK2 : K b2 = none := by rw [Lg.put_ne _ _ _ (Ne.symm n12)] at hb2; exact hb2
  have k2 : ((K.put b1 (.raw (.cells [.i .i64 id,.i .i64 kind,.i .i64 when,.i .i64 at_,.i .i64 data,s1,.b kept]))).put b2 (.raw (.cells [.i .i64 id,.i .i64 kind,.i .i64 when,.i .i64 at_,.i .i64 data,s2,.b kept]))) b2 = some (.raw (.cells [.i .i64 id,.i .i64 kind,.i .i64 when,.i .i64 at_,.i .i64 data,s2,.b kept])) := Lg.put_same _ _ _
  have k1 : ((K.put b1 (.raw (.cells [.i .i64 id,.i .i64 kind,.i .i64 when,.i .i64 at_,.i .i64 data,s1,.b kept]))).put b2 (.raw (.cells [.i .i64 id,.i .i64 kind,.i .i64 when,.i .i64 at_,.i .i64 data,s2,.b kept]))) b1 = some (.raw (.cells [.i .i64 id,.i .i64 kind,.i .i64 when,.i .i64 at_,.i .i64 data,s1,.b kept])) := by rw [Lg.put_ne _ _ _ n12]; exact Lg.put_same _ _ _
  have sub : SubL K ((K.put b1 (.raw (.cells [.i .i64 id,.i .i64 kind,.i .i64 when,.i .i64 at_,.i .i64 data,s1,.b kept]))).put b2 (.raw (.cells [.i .i64 id,.i .i64 kind,.i .i64 when,.i .i64 at_,.i .i64 data,s2,.b kept]))) := ((SubL.refl K).put hb1 _).put hb2 _
  generalize ((K.put b1 (.raw (.cells [.i .i64 id,.i .i64 kind,.i .i64 when,.i .i64 at_,.i .i64 data,s1,.b kept]))).put b2 (.raw (.cells [.i .i64 id,.i .i64 kind,.i .i64 when,.i .i64 at_,.i .i64 data,s2,.b kept]))) = K2 at k1 k2 sub
  have rA : ∀ i,rdL K2 (b1,i) none = [AV.i .i64 id,.i .i64 kind,.i .i64 when,.i .i64 at_,.i .i64 data,s1,.b kept][i]? := fun i => rdL_cell k1
  have rB : ∀ i,rdL K2 (b2,i) none = [AV.i .i64 id,.i .i64 kind,.i .i64 when,.i .i64 at_,.i .i64 data,s2,.b kept][i]? := fun i => rdL_cell k2
  have hkk : ((kept == kept) != false) = true := by simp
  unfold D_f89_2 D_f89_3
  simp only [mark_eq,wp_fad,Nat.zero_add,Nat.add_zero,wp_ld,rA,rB,List.getElem?_cons_zero,List.getElem?_cons_succ,retL_some,wp_eql,decide_true,gdOp_same,wp_pick_t,wp_mv,wp_eqb,hkk,wp_call]
  refine (wakesR_spec hf.f88 (h1.mono sub) (h2.mono sub) hl).mono ?_
  rintro _ K3 ⟨rfl,hK3⟩
  rw [hK3]
  simp only [mark_eq,decide_true,wp_pick_t]
  exact ⟨K,sub.sees,hQ _ _ ⟨rfl,rfl⟩⟩
end Go.AM


set_option linter.unusedVariables false
set_option linter.unusedSimpArgs false
namespace Go.AM
variable {N : Nat → Nat} {F : Nat → Option AFn}
def BedOk (L0 : Lg) (b s u k m : Nat) (K : Lg) : Prop := ∃ now σ ρ χ,TO L0 b s u now σ ρ χ χ K ∧ TR σ ρ ∧ TG σ χ k ∧ σ.ones.length ≤ m
theorem make_len {σ : Tms} {w : On} {n d : Int} {m : Nat} (h : σ.ones.length ≤ m) : (σ.make w n d).1.ones.length ≤ m + 1 := by
  by_cases h0 : (σ.make w n d).2.2 = 0
  · rw [(make_ok h0).2]; simp; exact h
  · rw [(make_err h0).1]; omega
theorem TG.re {σ : Tms} {χ χ' : Nat → Ch} {k : Nat} (h : TG σ χ' k) (hc : ∀ i,GoodC (χ i) k) : TG σ χ k := ⟨h.g,h.n,h.o,h.ids,h.gen,hc⟩
theorem TR.tf {σ ρ : Tms} {B : Int} (h : TR σ ρ) (f : TFine σ B) : TFine ρ B := ⟨by rw [h.x]; exact f.g,f.b,by rw [h.len]; exact f.o,by rw [h.n]; exact f.n⟩
theorem On.like_refl (w : On) : w.like w := ⟨rfl,rfl,rfl,rfl⟩
theorem eqp_ptr {c c' : Option Nat} (h : c'.isSome = c.isSome) (X Y : Lg) (k : AV → Lg → Prop) : ∃ t : Bool,(∀ (X : Lg) (k : AV → Lg → Prop),wpOp F (.eq false .ptr) [ptr c,.p none] X k = k (.b t) X) ∧ (∀ (X : Lg) (k : AV → Lg → Prop),wpOp F (.eq false .ptr) [ptr c',.p none] X k = k (.b t) X) := by
  cases c <;> cases c'
  · exact ⟨true,fun X k => by simp [ptr],fun X k => by simp [ptr]⟩
  · cases h
  · cases h
  · exact ⟨false,fun X k => by simp [ptr],fun X k => by simp [ptr]⟩
theorem sameb (t : Bool) : ((t == t) != false) = true := by simp
section
variable {L0 K : Lg} {b s u k m x3 : Nat} {now : Int} {σ ρ : Tms} {χ : Nat → Ch} {Q : AV → Lg → Prop} {kd n d : Int}
theorem does_with1 (h1 : H_f40 N F) (h2 : H_f74 N F) (to : TO L0 b s u now σ ρ χ χ K) (tr : TR σ ρ) (tg : TG σ χ k) (hm : σ.ones.length ≤ m) (hk : k ≤ 800000) (x3u : x3 ≠ u) (x3b : x3 ≠ b) (h3 : L0 x3 = some (.raw (.cells [.i .i64 kd,.i .i64 n,.i .i64 d])))
    (fin : ∀ K',BedOk L0 b s u (k + 200) (m + 1) K' → fin1 (some (.b true)) Q K') : D_f101_8 F N Q (.p (some (b,0))) (.p (some (x3,0))) K := by
  unfold D_f101_8
  have c2 : rdL K (x3,2) none = some (.i .i64 d) := by rw [rdL_cell (to.kept x3u x3b h3)]; rfl
  simp only [mark_eq,wp_nilchk_p,wp_fad,Nat.zero_add,Nat.add_zero,wp_ld,to.b0,to.b2,c2,retL_some]
  refine (to.pWith (ttimer_spec h1 to.set (tg.fine (by omega)) now d)).mono ?_
  rintro _ K1 ⟨c,rfl,hcs,to1⟩
  have c2' : rdL K1 (x3,2) none = some (.i .i64 d) := by rw [rdL_cell (to1.kept x3u x3b h3)]; rfl
  unfold D_f101_9
  simp only [mark_eq,wp_ext,List.getElem?_cons_zero,List.getElem?_cons_succ,retL_some,wp_nilchk_p,wp_fad,Nat.zero_add,Nat.add_zero,wp_ld,to1.b1,to1.b2,c2']
  refine (to1.rWith (fun Lb e => timerR_spec h2 e (tr.tf (tg.tf (by omega))) now d)).mono ?_
  rintro _ K2 ⟨c',rfl,hcs',to2⟩
  obtain ⟨m1,m2,m3⟩ := tr.make (On.like_refl ⟨1,0,none,0⟩) now d
  rw [m3] at hcs'
  have hcc : c'.isSome = c.isSome := by rw [hcs,hcs']
  obtain ⟨t,t1,t2⟩ := eqp_ptr (F := F) hcc K K (fun _ _ => True)
  rw [m2,m3]
  simp only [mark_eq,wp_ext,List.getElem?_cons_zero,List.getElem?_cons_succ,retL_some,wp_eql,decide_true,gdOp_same,wp_mv,t1,t2,wp_eqb,sameb,wp_pick_t]
  refine fin _ ⟨now,_,_,_,?_,(tr.make (w := ⟨1,0,c,0⟩) (w' := ⟨1,0,c',0⟩) ⟨rfl,rfl,rfl,hcc⟩ now d).1,(tg.make (w := ⟨1,0,c,0⟩) rfl now d).mono (by omega),make_len hm⟩
  rw [tr.len] at to2; exact to2
theorem does_with2 (h1 : H_f52 N F) (h2 : H_f75 N F) (to : TO L0 b s u now σ ρ χ χ K) (tr : TR σ ρ) (tg : TG σ χ k) (hm : σ.ones.length ≤ m) (hk : k ≤ 800000) (x3u : x3 ≠ u) (x3b : x3 ≠ b) (h3 : L0 x3 = some (.raw (.cells [.i .i64 kd,.i .i64 n,.i .i64 d])))
    (fin : ∀ K',BedOk L0 b s u (k + 200) (m + 1) K' → fin1 (some (.b true)) Q K') : D_f101_12 F N Q (.p (some (b,0))) (.p (some (x3,0))) K := by
  unfold D_f101_12
  have c2 : rdL K (x3,2) none = some (.i .i64 d) := by rw [rdL_cell (to.kept x3u x3b h3)]; rfl
  simp only [mark_eq,wp_nilchk_p,wp_fad,Nat.zero_add,Nat.add_zero,wp_ld,to.b0,to.b2,c2,retL_some]
  refine (to.pWith (tticker_spec h1 to.set (tg.fine (by omega)) now d)).mono ?_
  rintro _ K1 ⟨c,rfl,hcs,to1⟩
  have c2' : rdL K1 (x3,2) none = some (.i .i64 d) := by rw [rdL_cell (to1.kept x3u x3b h3)]; rfl
  unfold D_f101_13
  simp only [mark_eq,wp_ext,List.getElem?_cons_zero,List.getElem?_cons_succ,retL_some,wp_nilchk_p,wp_fad,Nat.zero_add,Nat.add_zero,wp_ld,to1.b1,to1.b2,c2']
  refine (to1.rWith (fun Lb e => tickerR_spec h2 e (tr.tf (tg.tf (by omega))) now d)).mono ?_
  rintro _ K2 ⟨c',rfl,hcs',to2⟩
  obtain ⟨m1,m2,m3⟩ := tr.make (On.like_refl ⟨2,0,none,0⟩) now d
  rw [m3] at hcs'
  have hcc : c'.isSome = c.isSome := by rw [hcs,hcs']
  obtain ⟨t,t1,t2⟩ := eqp_ptr (F := F) hcc K K (fun _ _ => True)
  rw [m2,m3]
  simp only [mark_eq,wp_ext,List.getElem?_cons_zero,List.getElem?_cons_succ,retL_some,wp_eql,decide_true,gdOp_same,wp_mv,t1,t2,wp_eqb,sameb,wp_pick_t]
  refine fin _ ⟨now,_,_,_,?_,(tr.make (w := ⟨2,0,c,0⟩) (w' := ⟨2,0,c',0⟩) ⟨rfl,rfl,rfl,hcc⟩ now d).1,(tg.make (w := ⟨2,0,c,0⟩) rfl now d).mono (by omega),make_len hm⟩
  rw [tr.len] at to2; exact to2
theorem does_func (h1 : H_f53 N F) (h2 : H_f76 N F) (to : TO L0 b s u now σ ρ χ χ K) (tr : TR σ ρ) (tg : TG σ χ k) (hm : σ.ones.length ≤ m) (hk : k ≤ 800000) (x3u : x3 ≠ u) (x3b : x3 ≠ b) (h3 : L0 x3 = some (.raw (.cells [.i .i64 kd,.i .i64 n,.i .i64 d])))
    (fin : ∀ K',BedOk L0 b s u (k + 200) (m + 1) K' → fin1 (some (.b true)) Q K') : D_f101_16 F N Q (.p (some (b,0))) (.p (some (x3,0))) K := by
  unfold D_f101_16
  have c1 : rdL K (x3,1) none = some (.i .i64 n) := by rw [rdL_cell (to.kept x3u x3b h3)]; rfl
  have c2 : rdL K (x3,2) none = some (.i .i64 d) := by rw [rdL_cell (to.kept x3u x3b h3)]; rfl
  simp only [mark_eq,wp_nilchk_p,wp_fad,Nat.zero_add,Nat.add_zero,wp_ld,to.b0,to.b2,c1,c2,retL_some]
  refine (tfunc_spec h1 to.set (tg.fine (by omega)) now d n).mono ?_
  rintro _ K1 ⟨rfl,hK1⟩
  have to1 := to.putS (σ.make ⟨3,n,none,0⟩ now d).1 (make_ones rfl)
  rw [← hK1] at to1
  have c1' : rdL K1 (x3,1) none = some (.i .i64 n) := by rw [rdL_cell (to1.kept x3u x3b h3)]; rfl
  have c2' : rdL K1 (x3,2) none = some (.i .i64 d) := by rw [rdL_cell (to1.kept x3u x3b h3)]; rfl
  unfold D_f101_17
  simp only [mark_eq,wp_ext,List.getElem?_cons_zero,List.getElem?_cons_succ,retL_some,wp_nilchk_p,wp_fad,Nat.zero_add,Nat.add_zero,wp_ld,to1.b1,to1.b2,c1',c2']
  refine (to1.rMake rfl (fun Lb e => funcR_spec h2 e (tr.tf (tg.tf (by omega))) now d n)).mono ?_
  rintro _ K2 ⟨rfl,to2⟩
  obtain ⟨m1,m2,m3⟩ := tr.make (On.like_refl ⟨3,n,none,0⟩) now d
  rw [m2,m3]
  simp only [mark_eq,wp_ext,List.getElem?_cons_zero,List.getElem?_cons_succ,retL_some,wp_eql,decide_true,gdOp_same,wp_mv,wp_pick_t]
  exact fin _ ⟨now,_,_,_,to2,m1,((tg.make (w := ⟨3,n,none,0⟩) rfl now d).mono (by omega)).re fun i => (tg.ch i).mono (by omega),make_len hm⟩
theorem does_lapse (h1 : H_f55 N F) (h2 : H_f77 N F) (to : TO L0 b s u now σ ρ χ χ K) (tr : TR σ ρ) (tg : TG σ χ k) (hm : σ.ones.length ≤ m) (hk : k ≤ 800000) (x3u : x3 ≠ u) (x3b : x3 ≠ b) (h3 : L0 x3 = some (.raw (.cells [.i .i64 kd,.i .i64 n,.i .i64 d])))
    (fin : ∀ K',BedOk L0 b s u (k + 200) (m + 1) K' → fin1 (some (.b true)) Q K') : D_f101_20 F N Q (.p (some (b,0))) (.p (some (x3,0))) K := by
  unfold D_f101_20
  have c1 : rdL K (x3,1) none = some (.i .i64 n) := by rw [rdL_cell (to.kept x3u x3b h3)]; rfl
  have c2 : rdL K (x3,2) none = some (.i .i64 d) := by rw [rdL_cell (to.kept x3u x3b h3)]; rfl
  simp only [mark_eq,wp_nilchk_p,wp_fad,Nat.zero_add,Nat.add_zero,wp_ld,to.b0,to.b2,c1,c2,retL_some]
  refine (tlapse_spec h1 to.set (tg.fine (by omega)) d n).mono ?_
  rintro _ K1 ⟨rfl,hK1⟩
  have to1 := to.putS (σ.make ⟨4,n,none,0⟩ 0 d).1 (make_ones rfl)
  rw [← hK1] at to1
  have c1' : rdL K1 (x3,1) none = some (.i .i64 n) := by rw [rdL_cell (to1.kept x3u x3b h3)]; rfl
  have c2' : rdL K1 (x3,2) none = some (.i .i64 d) := by rw [rdL_cell (to1.kept x3u x3b h3)]; rfl
  simp only [mark_eq,wp_ext,List.getElem?_cons_zero,List.getElem?_cons_succ,retL_some,wp_nilchk_p,wp_fad,Nat.zero_add,Nat.add_zero,wp_ld,to1.b1,to1.b2,c1',c2']
  refine (to1.rMake rfl (fun Lb e => lapseR_spec h2 e (tr.tf (tg.tf (by omega))) d n)).mono ?_
  rintro _ K2 ⟨rfl,to2⟩
  obtain ⟨m1,m2,m3⟩ := tr.make (On.like_refl ⟨4,n,none,0⟩) 0 d
  rw [m2,m3]
  simp only [mark_eq,wp_ext,List.getElem?_cons_zero,List.getElem?_cons_succ,retL_some,wp_eql,decide_true,gdOp_same,wp_mv,wp_pick_t]
  exact fin _ ⟨now,_,_,_,to2,m1,((tg.make (w := ⟨4,n,none,0⟩) rfl 0 d).mono (by omega)).re fun i => (tg.ch i).mono (by omega),make_len hm⟩
theorem drops_like {w w' : On} (h : w.like w') (y : Ch) : dropsC w'.c y = dropsC w.c y := by simp only [dropsC,h.c]
theorem does_stop (h1 : H_f51 N F) (h2 : H_f80 N F) (to : TO L0 b s u now σ ρ χ χ K) (tr : TR σ ρ) (tg : TG σ χ k) (hm : σ.ones.length ≤ m) (hk : k ≤ 800000) (x3u : x3 ≠ u) (x3b : x3 ≠ b) (h3 : L0 x3 = some (.raw (.cells [.i .i64 kd,.i .i64 n,.i .i64 d])))
    (fin : ∀ K',BedOk L0 b s u (k + 200) (m + 1) K' → fin1 (some (.b true)) Q K') : D_f101_23 F N Q (.p (some (b,0))) (.p (some (x3,0))) K := by
  unfold D_f101_23
  have c1 : rdL K (x3,1) none = some (.i .i64 n) := by rw [rdL_cell (to.kept x3u x3b h3)]; rfl
  simp only [mark_eq,wp_nilchk_p,wp_fad,Nat.zero_add,Nat.add_zero,wp_ld,to.b0,c1,retL_some]
  rcases tr.one n with ⟨o1,o2⟩ | ⟨i,w,w',rfl,hi,hw,hw',o1,o2,lk⟩
  · refine (stop_none h1 to.set n o1).mono ?_
    rintro _ K1 ⟨rfl,hK1⟩
    rw [hK1]
    simp only [mark_eq,wp_ext,List.getElem?_cons_zero,List.getElem?_cons_succ,retL_some,wp_nilchk_p,wp_fad,Nat.zero_add,Nat.add_zero,wp_ld,to.b1,c1]
    refine (to.rNone fun Lb e => stopR_none h2 e n o2).mono ?_
    rintro _ K2 ⟨rfl,to2,_⟩
    simp only [mark_eq,wp_ext,List.getElem?_cons_zero,List.getElem?_cons_succ,retL_some,wp_eql,decide_true,gdOp_same,wp_mv,wp_eqb,sameb,wp_pick_t]
    exact fin _ ⟨now,_,_,_,to2,tr,tg.mono (by omega),by omega⟩
  · have tf := tg.tf (by omega)
    refine (stop_spec h1 to.set (by have := tf.ll; omega) _ o1 (tg.ch i).t (to.chan hw)).mono ?_
    rintro _ K1 ⟨rfl,hK1⟩
    have to1 := (to.putS { σ with x := σ.x.stop i } (same_ones rfl)).putC (i := i) (w := w) hw (χ i).dropped
    rw [← hK1] at to1
    have c1' : rdL K1 (x3,1) none = some (.i .i64 i) := by rw [rdL_cell (to1.kept x3u x3b h3)]; rfl
    simp only [mark_eq,wp_ext,List.getElem?_cons_zero,List.getElem?_cons_succ,retL_some,wp_nilchk_p,wp_fad,Nat.zero_add,Nat.add_zero,wp_ld,to1.b1,c1']
    refine (to1.rStop h2 (tr.tf tf) _ rfl hw' o2 (tg.ch i).t).mono ?_
    rintro _ K2 ⟨rfl,to2⟩
    rw [drops_like lk,tr.x]
    simp only [mark_eq,wp_ext,List.getElem?_cons_zero,List.getElem?_cons_succ,retL_some,wp_eql,decide_true,gdOp_same,wp_mv,wp_eqb,sameb,wp_pick_t]
    rw [tr.x] at to2
    exact fin _ ⟨now,_,_,_,to2,tr.setX _,((tg.stop i).chan (tg.ch i).dropped).mono (by omega),Nat.le_succ_of_le hm⟩
theorem does_reset (h1 : H_f54 N F) (h2 : H_f81 N F) (to : TO L0 b s u now σ ρ χ χ K) (tr : TR σ ρ) (tg : TG σ χ k) (hm : σ.ones.length ≤ m) (hk : k ≤ 800000) (x3u : x3 ≠ u) (x3b : x3 ≠ b) (h3 : L0 x3 = some (.raw (.cells [.i .i64 kd,.i .i64 n,.i .i64 d])))
    (fin : ∀ K',BedOk L0 b s u (k + 200) (m + 1) K' → fin1 (some (.b true)) Q K') : D_f101_26 F N Q (.p (some (b,0))) (.p (some (x3,0))) K := by
  unfold D_f101_26
  have c1 : rdL K (x3,1) none = some (.i .i64 n) := by rw [rdL_cell (to.kept x3u x3b h3)]; rfl
  have c2 : rdL K (x3,2) none = some (.i .i64 d) := by rw [rdL_cell (to.kept x3u x3b h3)]; rfl
  simp only [mark_eq,wp_nilchk_p,wp_fad,Nat.zero_add,Nat.add_zero,wp_ld,to.b0,to.b2,c1,c2,retL_some]
  rcases tr.one n with ⟨o1,o2⟩ | ⟨i,w,w',rfl,hi,hw,hw',o1,o2,lk⟩
  · refine (reset_none h1 to.set n now d o1).mono ?_
    rintro _ K1 ⟨rfl,hK1⟩
    rw [hK1]
    unfold D_f101_27
    simp only [mark_eq,wp_ext,List.getElem?_cons_zero,List.getElem?_cons_succ,retL_some,wp_nilchk_p,wp_fad,Nat.zero_add,Nat.add_zero,wp_ld,to.b1,to.b2,c1,c2]
    refine (to.rNone fun Lb e => resetR_none h2 e n now d o2).mono ?_
    rintro _ K2 ⟨rfl,to2,_⟩
    simp only [mark_eq,wp_ext,List.getElem?_cons_zero,List.getElem?_cons_succ,retL_some,wp_eql,decide_true,gdOp_same,wp_mv,wp_eqb,sameb,wp_pick_t]
    exact fin _ ⟨now,_,_,_,to2,tr,tg.mono (by omega),by omega⟩
  · have tf := tg.tf (by omega)
    have hg := tg.gen i w hw
    refine (reset_spec h1 to.set (by have := tf.ll; omega) ⟨tg.g.pos,by have := tg.g.seq; omega⟩ _ now d o1 ⟨hg.1,by omega⟩ (tg.ch i).t (to.chan hw)).mono ?_
    intro v K1 hv
    unfold D_f101_27
    -- the other half
    have half : ∀ (t : Bool) (e : Int) (σ1 : Tms) (χ1 : Nat → Ch),TO L0 b s u now σ1 ρ χ1 χ K1 → v = .tup [.b t,.i .i64 e] →
      (∀ (v' : AV) (K'' : Lg),(if badN now = true ∨ (w'.kind = 2 ∧ d < 1) then v' = .tup [.b false,.i .i64 1] ∧ TO L0 b s u now σ1 ρ χ1 χ K''
      else if w'.kind = 4 then v' = .tup [.b false,.i .i64 7] ∧ TO L0 b s u now σ1 ρ χ1 χ K''
      else v' = .tup [.b (dropsC w'.c (χ i) || (findId i ρ.x.l).isSome),.i .i64 0] ∧ TO L0 b s u now σ1 (ρ.reset i w' now d) χ1 (updN χ i (χ i).dropped) K'') → v' = .tup [.b t,.i .i64 e] ∧ BedOk L0 b s u (k + 200) (m + 1) K'') →
      (wpOp F (.ext 0) [v] K1 fun v12 L12 => wpOp F (.ext 1) [v] L12 fun v13 L13 => D_f101_27 F N Q (.p (some (b,0))) (.p (some (x3,0))) v12 v13 L13) := by
      intro t e σ1 χ1 to1 hve hfin
      subst hve
      have c1' : rdL K1 (x3,1) none = some (.i .i64 i) := by rw [rdL_cell (to1.kept x3u x3b h3)]; rfl
      have c2' : rdL K1 (x3,2) none = some (.i .i64 d) := by rw [rdL_cell (to1.kept x3u x3b h3)]; rfl
      unfold D_f101_27
      simp only [mark_eq,wp_ext,List.getElem?_cons_zero,List.getElem?_cons_succ,retL_some,wp_nilchk_p,wp_fad,Nat.zero_add,Nat.add_zero,wp_ld,to1.b1,to1.b2,c1',c2']
      refine (to1.rReset h2 (tr.tf tf) _ now d rfl hw' o2 (by rw [lk.gen]; exact ⟨hg.1,by omega⟩) (tg.ch i).t).mono ?_
      intro v' K2 hv'
      obtain ⟨rfl,hb⟩ := hfin v' K2 hv'
      simp only [mark_eq,wp_ext,List.getElem?_cons_zero,List.getElem?_cons_succ,retL_some,wp_eql,decide_true,gdOp_same,wp_mv,wp_eqb,sameb,wp_pick_t]
      exact fin _ hb
    rw [lk.kind,drops_like lk,tr.x] at half
    unfold D_f101_27 at half
    split at hv
    · rename_i q1
      obtain ⟨rfl,rfl⟩ := hv
      refine half false 1 σ χ to rfl ?_
      intro v' K'' hv'
      rw [if_pos q1] at hv'
      exact ⟨hv'.1,now,_,_,_,hv'.2,tr,tg.mono (by omega),by omega⟩
    · rename_i q1
      split at hv
      · rename_i q2
        obtain ⟨rfl,rfl⟩ := hv
        refine half false 7 σ χ to rfl ?_
        intro v' K'' hv'
        rw [if_neg q1,if_pos q2] at hv'
        exact ⟨hv'.1,now,_,_,_,hv'.2,tr,tg.mono (by omega),by omega⟩
      · rename_i q2
        obtain ⟨rfl,hK1⟩ := hv
        have to1 := (to.putS (σ.reset i w now d) (by simp only [Tms.reset,Int.toNat_natCast]; exact armed_ones (σ := { σ with x := σ.x.stop i }) hw))
        obtain ⟨w1,hw1,hwc⟩ : ∃ w1,(σ.reset i w now d).ones[i]? = some w1 ∧ w1.c = w.c := ⟨{ w with gen := w.gen + 1 },by simp only [Tms.reset,Tms.armed,Int.toNat_natCast]; rw [List.getElem?_set_self hi],rfl⟩
        have to2 := to1.putC hw1 (χ i).dropped
        rw [hwc,← hK1] at to2
        refine half _ 0 _ _ to2 rfl ?_
        intro v' K'' hv'
        rw [if_neg q1,if_neg q2] at hv'
        refine ⟨hv'.1,now,_,_,_,hv'.2,tr.reset lk i now d,?_,by simp [Tms.reset,Tms.armed]; omega⟩
        exact ((tg.reset hi hw q1).chan ((tg.ch i).dropped.mono (by omega))).mono (by omega)
end
end Go.AM


set_option linter.unusedVariables false
set_option linter.unusedSimpArgs false
namespace Go.AM
variable {N : Nat → Nat} {F : Nat → Option AFn}
theorem slV_nil (K : Lg) : SlV Wk.cells 5 K (.sl none 0 0 0) [] := ⟨none,0,0,rfl,.inl rfl⟩
theorem waitPNil_spec (hf : H_f98 N F) (L : Lg) (w : Wt) (send : Bool) : CallL F (N k_f98) [.p none,w.av,.b send] L fun v L' => v = .i .i64 6 ∧ L' = L := by
  refine CallL.opq ?_
  intro Q hQ
  apply r_f98 hf.code
  unfold D_f94 Wt.av
  simp only [mark_eq,wp_box]
  rw [newL_box_agg _ _ _ (Wt.one3 w)]
  intro b0 hb0
  simp only [mark_eq,wp_eqp_nn,Bool.not_false,condW_t]
  exact ⟨L,((SubL.refl L).put hb0 _).sees,hQ _ _ ⟨rfl,rfl⟩⟩
theorem chanNil_spec (h1 : H_f59 N F) (h2 : H_f108 N F) (h3 : H_f109 N F) (L : Lg) : CallL F (N k_f59) [.p none,.b false] L (fun v L' => v = .b false ∧ L' = L) ∧ CallL F (N k_f108) [.p none] L (fun v L' => v = .i .i64 0 ∧ L' = L) ∧ CallL F (N k_f109) [.p none] L (fun v L' => v = .i .i64 0 ∧ L' = L) := by
  refine ⟨CallL.opq fun Q hQ => ?_,CallL.opq fun Q hQ => ?_,CallL.opq fun Q hQ => ?_⟩
  · apply r_f59 h1.code
    unfold D_f59_1 D_f59_2
    simp only [mark_eq,wp_eqp_nn,Bool.not_false,condW_t]
    exact ⟨L,Sees.refl _,hQ _ _ ⟨rfl,rfl⟩⟩
  · apply r_f108 h2.code
    unfold D_f108_1
    simp only [mark_eq,wp_eqp_nn,Bool.not_false,gdOp_tf,gdOp_tup,wp_pick_t,condW_t]
    exact ⟨L,Sees.refl _,hQ _ _ ⟨rfl,rfl⟩⟩
  · apply r_f109 h3.code
    unfold D_f109_1
    simp only [mark_eq,wp_eqp_nn,Bool.not_false,gdOp_tf,gdOp_tup,wp_pick_t,condW_t]
    exact ⟨L,Sees.refl _,hQ _ _ ⟨rfl,rfl⟩⟩
section
variable {L0 K : Lg} {b s u k m x3 : Nat} {now : Int} {σ ρ : Tms} {χ : Nat → Ch} {Q : AV → Lg → Prop} {kd n d : Int}
theorem does_recv (h1 : H_f90 N F) (h2 : H_f91 N F) (h3' : H_f92 N F) (h4 : H_f93 N F) (h5 : H_f88 N F) (to : TO L0 b s u now σ ρ χ χ K) (tr : TR σ ρ) (tg : TG σ χ k) (hm : σ.ones.length ≤ m) (hk : k ≤ 800000) (x3u : x3 ≠ u) (x3b : x3 ≠ b) (h3 : L0 x3 = some (.raw (.cells [.i .i64 kd,.i .i64 n,.i .i64 d])))
    (fin : ∀ K',BedOk L0 b s u (k + 200) (m + 1) K' → fin1 (some (.b true)) Q K') : D_f101_43 F N Q (.p (some (b,0))) (.p (some (x3,0))) K := by
  unfold D_f101_43
  have c1 : rdL K (x3,1) none = some (.i .i64 n) := by rw [rdL_cell (to.kept x3u x3b h3)]; rfl
  simp only [mark_eq,wp_nilchk_p,wp_fad,Nat.zero_add,Nat.add_zero,wp_ld,to.b0,c1,retL_some]
  refine (tchan_spec h1 to.set n).mono ?_
  rintro _ K1 ⟨rfl,hK1⟩
  rw [hK1]
  -- nobody is there
  have none_ : (∀ k : AV → Lg → Prop,CallL F (N k_f91) [.p none] K k → CallL F (N k_f91) [match σ.one n with | some o => ptr o.c | none => .p none] K k) → (∀ (X : Lg) (k : AV → Lg → Prop),CallL F (N k_f93) [.p none] X k → CallL F (N k_f93) [match ρ.one n with | some o => ptr o.c | none => .p none] X k) →
      CallL F (N k_f91) [match σ.one n with | some o => ptr o.c | none => .p none] K fun v7 L7 => wpOp F (.ext 0) [v7] L7 fun v8 L8 => wpOp F (.ext 1) [v7] L8 fun v9 L9 => wpOp F (.ext 2) [v7] L9 fun v10 L10 => wpOp F (.ext 3) [v7] L10 fun v11 L11 => D_f101_44 F N Q (.p (some (b,0))) (.p (some (x3,0))) v8 v9 v10 v11 L11 := by
    intro e1 e2
    refine e1 _ ((recvNil_spec h2).mono ?_)
    rintro _ K2 ⟨rfl,hK2⟩
    rw [hK2]
    unfold D_f101_44
    simp only [mark_eq,wp_ext,List.getElem?_cons_zero,List.getElem?_cons_succ,retL_some,wp_nilchk_p,wp_fad,Nat.zero_add,Nat.add_zero,wp_ld,to.b1,c1]
    refine (to.rChan h3' n).mono ?_
    rintro _ K3 ⟨rfl,to3,_⟩
    refine e2 _ _ ((recvRNil_spec h4 K3).mono ?_)
    rintro _ K4 ⟨rfl,hK4⟩
    rw [hK4]
    simp only [mark_eq,wp_ext,List.getElem?_cons_zero,List.getElem?_cons_succ,retL_some,wp_eql,decide_true,gdOp_same,wp_mv,wp_eqb,sameb,wp_pick_t,wp_call]
    refine (wakesR_spec h5 (slV_nil _) (slV_nil _) (by simp)).mono ?_
    rintro _ K5 ⟨rfl,hK5⟩
    rw [hK5]
    simp only [mark_eq,decide_true,wp_pick_t]
    exact fin _ ⟨now,_,_,_,to3,tr,tg.mono (by omega),by omega⟩
  rcases tr.one n with ⟨o1,o2⟩ | ⟨i,w,w',rfl,hi,hw,hw',o1,o2,lk⟩
  · refine none_ ?_ ?_
    · intro k h; rw [o1]; exact h
    · intro X k h; rw [o2]; exact h
  · cases hc : w.c with
    | none =>
      have hc' : w'.c = none := by have := lk.c; rw [hc] at this; cases h : w'.c with | none => rfl | some a => rw [h] at this; cases this
      refine none_ ?_ ?_
      · intro k h; rw [o1]; simp only [hc]; exact h
      · intro X k h; rw [o2]; simp only [hc']; exact h
    | some a =>
      obtain ⟨a',hc'⟩ : ∃ a',w'.c = some a' := by have := lk.c; rw [hc] at this; cases h : w'.c with | none => rw [h] at this; cases this | some a => exact ⟨a,rfl⟩
      have hch := to.chan hw a hc
      have hs := (tg.ch i).sends
      rw [o1]
      simp only [hc,ptr,Option.map_some]
      refine (recv_spec h2 hch.2).mono ?_
      rintro _ K2 ⟨sl,rfl,hfs⟩
      have hr : (χ i).recv.2.2.2.2 = [] := by unfold Ch.recv; rw [hs]; split <;> first | rfl | (rename_i h9; cases h9)
      rw [hr] at hfs
      obtain ⟨rfl,hK2⟩ : sl = .sl none 0 0 0 ∧ K2 = K.put a (.abs (ChanP a (χ i).recv.1)) := by
        rcases hfs with ⟨_,_,h8,h9⟩ | ⟨q,ex,_,h8,_⟩
        · exact ⟨h8,h9⟩
        · simp at h8
      have to2 := to.putC hw (χ i).recv.1
      rw [hc] at to2
      simp only [Lg.putC] at to2
      rw [← hK2] at to2
      have c1' : rdL K2 (x3,1) none = some (.i .i64 i) := by rw [rdL_cell (to2.kept x3u x3b h3)]; rfl
      unfold D_f101_44
      simp only [mark_eq,wp_ext,List.getElem?_cons_zero,List.getElem?_cons_succ,retL_some,wp_nilchk_p,wp_fad,Nat.zero_add,Nat.add_zero,wp_ld,to2.b1,c1']
      refine (to2.rChan h3' _).mono ?_
      rintro _ K3 ⟨rfl,to3,_⟩
      rw [o2]
      simp only [hc',ptr,Option.map_some]
      refine (to3.rRecv h4 hw' hc' hs).mono ?_
      rintro _ K4 ⟨rfl,_,to4⟩
      simp only [mark_eq,wp_ext,List.getElem?_cons_zero,List.getElem?_cons_succ,retL_some,wp_eql,decide_true,gdOp_same,wp_mv,wp_eqb,sameb,wp_pick_t,wp_call]
      refine (wakesR_spec h5 (slV_nil _) (slV_nil _) (by simp)).mono ?_
      rintro _ K5 ⟨rfl,hK5⟩
      rw [hK5]
      simp only [mark_eq,decide_true,wp_pick_t]
      exact fin _ ⟨now,_,_,_,to4,tr,(tg.chan (tg.ch i).recv).mono (by omega),by omega⟩
theorem does_time (h1 : H_f65 N F) (to : TO L0 b s u now σ ρ χ χ K) (tr : TR σ ρ) (tg : TG σ χ k) (hm : σ.ones.length ≤ m) (x3u : x3 ≠ u) (x3b : x3 ≠ b) (h3 : L0 x3 = some (.raw (.cells [.i .i64 kd,.i .i64 n,.i .i64 d])))
    (fin : ∀ K',BedOk L0 b s u (k + 200) (m + 1) K' → fin1 (some (.b true)) Q K') : D_f101_47 F N Q (.p (some (b,0))) (.p (some (x3,0))) K := by
  unfold D_f101_47
  have c2 : rdL K (x3,2) none = some (.i .i64 d) := by rw [rdL_cell (to.kept x3u x3b h3)]; rfl
  have hmax : ∀ (X : Lg) (k : AV → Lg → Prop),wpOp F .max [.i .i64 d,.i .i64 0] X k = k (.i .i64 (max d 0)) X := fun X k => by simp
  simp only [mark_eq,wp_nilchk_p,wp_fad,Nat.zero_add,Nat.add_zero,wp_ld,to.b2,c2,retL_some,hmax]
  refine (addR_spec h1 now (max d 0) K).mono ?_
  rintro _ K1 ⟨rfl,hK1⟩
  rw [hK1]
  simp only [mark_eq,wp_nilchk_p,wp_fad,Nat.zero_add,wp_st]
  rw [stL_cell to.bed (by simp) rfl]
  unfold D_f101_3
  exact fin _ ⟨_,_,_,_,to.putNow _,tr,tg.mono (by omega),by omega⟩
theorem does_wait (h1 : H_f90 N F) (h2 : H_f98 N F) (h3' : H_f92 N F) (h4 : H_f100 N F) (to : TO L0 b s u now σ ρ χ χ K) (tr : TR σ ρ) (tg : TG σ χ k) (hm : σ.ones.length ≤ m) (hk : k ≤ 800000) (x3u : x3 ≠ u) (x3b : x3 ≠ b) (h3 : L0 x3 = some (.raw (.cells [.i .i64 kd,.i .i64 n,.i .i64 d])))
    (fin : ∀ K',BedOk L0 b s u (k + 200) (m + 1) K' → fin1 (some (.b true)) Q K') : D_f101_50 F N Q (.p (some (b,0))) (.p (some (x3,0))) K := by
  unfold D_f101_50
  have c2 : rdL K (x3,2) none = some (.i .i64 d) := by rw [rdL_cell (to.kept x3u x3b h3)]; rfl
  have hb : ∀ k : AV → Lg → Prop,wpOp F (.build [.i .i64 0,.i .i64 0,.i .i64 0] [(0,1)]) [.i .i64 d] K k = k (.agg (Wt.cells ⟨d,0,0⟩)) K := by
    intro k; simp [fillP,splice,ble_nat,beq_nat,Wt.cells]
  simp only [mark_eq,wp_fad,Nat.zero_add,wp_ld,c2,retL_some,hb,wp_alloc]
  intro x4 hx4
  rw [wp_st,stL_cells (Lg.put_same _ _ _) (Wt.one3 _) (Wt.len3 _) (by simp),Lg.put_put,splice_w]
  obtain ⟨to0,x4u,x4b,hold⟩ := to.junk hx4 (.cells (Wt.cells ⟨d,0,0⟩))
  have h34 : x3 ≠ x4 := hold x3 _ x3u x3b h3
  have g3 : (L0.put x4 (.raw (.cells (Wt.cells ⟨d,0,0⟩)))) x3 = some (.raw (.cells [.i .i64 kd,.i .i64 n,.i .i64 d])) := by rw [Lg.put_ne _ _ _ h34]; exact h3
  have g4 : (L0.put x4 (.raw (.cells (Wt.cells ⟨d,0,0⟩)))) x4 = some (.raw (.cells (Wt.cells ⟨d,0,0⟩))) := Lg.put_same _ _ _
  have low : ∀ (q : Nat) (x : AB),q ≠ u → q ≠ b → L0 q = some (.raw x) → (L0.put x4 (.raw (.cells (Wt.cells ⟨d,0,0⟩)))) q = some (.raw x) := fun q x h1 h2 h3 => by rw [Lg.put_ne _ _ _ (hold q x h1 h2 h3)]; exact h3
  generalize K.put x4 (.raw (.cells (Wt.cells ⟨d,0,0⟩))) = K0 at to0
  generalize L0.put x4 (.raw (.cells (Wt.cells ⟨d,0,0⟩))) = L1 at to0 g3 g4 low
  have e1 : ∀ {χ' ψ' : Nat → Ch} {X : Lg},TO L1 b s u now σ ρ χ' ψ' X → rdL X (x3,1) none = some (.i .i64 n) := fun h => by rw [rdL_cell (h.kept x3u x3b g3)]; rfl
  have e4 : ∀ {χ' ψ' : Nat → Ch} {X : Lg},TO L1 b s u now σ ρ χ' ψ' X → rdL X (x4,0) (some 3) = some (Wt.av ⟨d,0,0⟩) := fun h => by rw [rdL_cells (h.kept x4u x4b g4) (by simp [Wt.cells])]; rfl
  simp only [mark_eq,wp_nilchk_p,wp_fad,Nat.zero_add,Nat.add_zero,wp_ld,to0.b0,e1 to0,retL_some]
  refine (tchan_spec h1 to0.set n).mono ?_
  rintro _ K1 ⟨rfl,hK1⟩
  rw [hK1]
  simp only [mark_eq,wp_ld,e4 to0,retL_some]
  have sw : sameV (Wt.av ⟨d,0,0⟩) (Wt.av ⟨d,0,0⟩) = true := by simp [Wt.av,Wt.cells,sameV,sameL,same1,iEq_eq]
  -- behind both
  have tail : ∀ {χ' ψ' : Nat → Ch} {K2 K3 K4 : Lg} {r : Int},TO L1 b s u now σ ρ χ' χ K2 → TO L1 b s u now σ ρ χ' χ K3 → TO L1 b s u now σ ρ χ' ψ' K4 → χ' = ψ' → (∀ i,GoodC (χ' i) (k + 1)) →
      ((againV (.ld (some 3)) [.p (some (x4,0))] K0 K0 ∧ againV (.ld none) [.p (some (b,1))] K2 K0 ∧ againV (.ld none) [.p (some (b,1))] K2 K0 ∧ againV (.ld none) [.p (some (x3,1))] K2 K0 ∧ againV (.ld none) [.p (some (x3,1))] K2 K0 ∧ againV (.ld (some 3)) [.p (some (x4,0))] K3 K0 ∧ againV (.ld (some 3)) [.p (some (x4,0))] K3 K0 ∧ againV (.ld (some 3)) [.p (some (x4,0))] K3 K2 ∧ True) ∧ (fin1 (some (.b true)) Q K4)) := by
    intro χ' ψ' K2 K3 K4 r t2 t3 t4 he hg
    refine ⟨⟨?_,?_,?_,?_,?_,?_,?_,?_,trivial⟩,?_⟩
    · simp [againV,semRL,rLdL,e4 to0,sw]
    · simp [againV,semRL,rLdL,t2.b1,to0.b1]
    · simp [againV,semRL,rLdL,t2.b1,to0.b1]
    · simp [againV,semRL,rLdL,e1 t2,e1 to0]
    · simp [againV,semRL,rLdL,e1 t2,e1 to0]
    · simp [againV,semRL,rLdL,e4 t3,e4 to0,sw]
    · simp [againV,semRL,rLdL,e4 t3,e4 to0,sw]
    · simp [againV,semRL,rLdL,e4 t3,e4 t2,sw]
    · subst he
      exact fin _ ⟨now,_,_,_,t4.mono low,tr,(tg.mono (k' := k + 200) (by omega)).re fun i => (hg i).mono (by omega),by omega⟩
  have goodk : ∀ i,GoodC (χ i) (k + 1) := fun i => (tg.ch i).mono (by omega)
  have none_ : (∀ k : AV → Lg → Prop,CallL F (N k_f98) [.p none,Wt.av ⟨d,0,0⟩,.b false] K0 k → CallL F (N k_f98) [match σ.one n with | some o => ptr o.c | none => .p none,Wt.av ⟨d,0,0⟩,.b false] K0 k) →
      (∀ (X : Lg) (k : AV → Lg → Prop),CallL F (N k_f100) [.p none,Wt.av ⟨d,0,0⟩,.b false] X k → CallL F (N k_f100) [match ρ.one n with | some o => ptr o.c | none => .p none,Wt.av ⟨d,0,0⟩,.b false] X k) →
      CallL F (N k_f98) [match σ.one n with | some o => ptr o.c | none => .p none,Wt.av ⟨d,0,0⟩,.b false] K0 fun v13 L13 => wpOp F .nilchk [.p (some (b,0))] L13 fun v14 L14 => wpOp F (.fad 1) [v14] L14 fun v15 L15 => wpOp F (.ld none) [v15] L15 fun v16 L16 => wpOp F (.fad 1) [.p (some (x3,0))] L16 fun v17 L17 => wpOp F (.ld none) [v17] L17 fun v18 L18 =>
        CallL F (N k_f92) [v16,v18] L18 fun v19 L19 => wpOp F (.ld (some 3)) [.p (some (x4,0))] L19 fun v20 L20 => CallL F (N k_f100) [v19,v20,(.b false)] L20 fun v21 L21 => wpOp F (.bin .eql) [v13,v21] L21 fun v22 L22 =>
        (againV (.ld (some 3)) [.p (some (x4,0))] K0 K0 ∧ againV (.ld none) [v15] L15 K0 ∧ againV (.ld none) [v15] L15 K0 ∧ againV (.ld none) [v17] L17 K0 ∧ againV (.ld none) [v17] L17 K0 ∧ againV (.ld (some 3)) [.p (some (x4,0))] L19 K0 ∧ againV (.ld (some 3)) [.p (some (x4,0))] L19 K0 ∧ againV (.ld (some 3)) [.p (some (x4,0))] L19 L13 ∧ True) ∧ (fin1 (some v22) Q L22) := by
    intro f1 f2
    refine f1 _ ((waitPNil_spec h2 K0 _ _).mono ?_)
    rintro _ K2 ⟨rfl,hK2⟩
    rw [hK2]
    simp only [mark_eq,wp_nilchk_p,wp_fad,Nat.zero_add,Nat.add_zero,wp_ld,to0.b1,e1 to0,retL_some]
    refine (to0.rChan h3' n).mono ?_
    rintro _ K3 ⟨rfl,to3,_⟩
    simp only [mark_eq,wp_ld,e4 to3,retL_some]
    refine f2 _ _ ((waitRNil_spec h4 K3 _ _).mono ?_)
    rintro _ K4 ⟨rfl,hK4⟩
    rw [hK4]
    simp only [mark_eq,wp_eql,decide_true]
    exact tail (r := 6) to0 to3 to3 rfl goodk
  rcases tr.one n with ⟨o1,o2⟩ | ⟨i,w,w',rfl,hi,hw,hw',o1,o2,lk⟩
  · refine none_ ?_ ?_
    · intro k h; rw [o1]; exact h
    · intro X k h; rw [o2]; exact h
  · cases hc : w.c with
    | none =>
      have hc' : w'.c = none := by have := lk.c; rw [hc] at this; cases h : w'.c with | none => rfl | some a => rw [h] at this; cases this
      refine none_ ?_ ?_
      · intro k h; rw [o1]; simp only [hc]; exact h
      · intro X k h; rw [o2]; simp only [hc']; exact h
    | some a =>
      obtain ⟨a',hc'⟩ : ∃ a',w'.c = some a' := by have := lk.c; rw [hc] at this; cases h : w'.c with | none => rw [h] at this; cases this | some a => exact ⟨a,rfl⟩
      have hch := to0.chan hw a hc
      have hs := (tg.ch i).sends
      have hrl := (tg.ch i).recvs
      rw [o1]
      simp only [hc,ptr,Option.map_some]
      refine (wait_spec h2 hch.2 ⟨d,0,0⟩ false (by simp [Ch.wait]; omega) (by simp [Ch.wait,hs])).mono ?_
      rintro _ K2 ⟨rfl,hK2⟩
      have to2 := to0.putC hw ((χ i).waits ⟨d,0,0⟩ false).1
      rw [hc] at to2
      simp only [Lg.putC] at to2
      rw [← hK2] at to2
      simp only [mark_eq,wp_nilchk_p,wp_fad,Nat.zero_add,Nat.add_zero,wp_ld,to2.b1,e1 to2,retL_some]
      refine (to2.rChan h3' _).mono ?_
      rintro _ K3 ⟨rfl,to3,_⟩
      simp only [mark_eq,wp_ld,e4 to3,retL_some]
      rw [o2]
      simp only [hc',ptr,Option.map_some]
      refine (to3.rWait h4 hw' hc' hs (by omega) ⟨d,0,0⟩).mono ?_
      rintro _ K4 ⟨rfl,to4⟩
      simp only [mark_eq,wp_eql,decide_true]
      refine tail (r := 0) to2 to3 to4 rfl fun j => ?_
      unfold updN
      split
      · exact (tg.ch i).waits _
      · exact goodk j
end
end Go.AM


set_option linter.unusedVariables false
set_option linter.unusedSimpArgs false
namespace Go.AM
variable {N : Nat → Nat} {F : Nat → Option AFn}
def fc (id kind when now data : Int) (sl : AV) (kept : Bool) : List AV := [.i .i64 id,.i .i64 kind,.i .i64 when,.i .i64 now,.i .i64 data,sl,.b kept]
theorem firedAV_fc (id kind when now data : Int) (sl : AV) (kept : Bool) : firedAV id kind when now data sl kept = .agg (fc id kind when now data sl kept) := rfl
theorem puts_like {w w' : On} (h : w.like w') (y : Ch) (n : Int) : putsC w'.c y n = putsC w.c y n := by
  have := h.c
  cases h1 : w.c <;> cases h2 : w'.c <;> simp [h1,h2] at this <;> rfl
theorem puts_len {c : Option Nat} {y : Ch} {n : Int} : (putsC c y n).2.1.length ≤ 1 := by
  cases c with
  | none => simp [putsC]
  | some a =>
    simp only [putsC,Ch.put]
    split
    · split
      · simp
      · split <;> simp
    · simp
theorem puts_good {c : Option Nat} {y : Ch} {n : Int} {k : Nat} (h : GoodC y k) : GoodC (putsC c y n).1 k := by
  cases c with
  | none => exact h
  | some a => exact h.put n
section
variable {L0 K : Lg} {b s u k m x3 : Nat} {now : Int} {σ ρ : Tms} {χ ψ : Nat → Ch} {Q : AV → Lg → Prop} {kd n d : Int}
structure FirePair (L0 : Lg) (b s u : Nat) (now : Int) (σ ρ : Tms) (χ : Nat → Ch) (k : Nat) (n : Int) (F : Nat → Option AFn) (N : Nat → Nat) : Prop where
  p : ∀ K,TO L0 b s u now σ ρ χ χ K → ∀ k1 : AV → Lg → Prop,
    (∀ (ok : Bool) (fa : List AV) (sl : AV) (l : List Wk) (L1 K1 : Lg) (σ1 : Tms) (χ1 : Nat → Ch),fa.all AV.one = true → fa.length = 7 → (∀ (q : Nat) (x : AB),q ≠ u → q ≠ b → L0 q = some (.raw x) → L1 q = some (.raw x)) → TO L1 b s u now σ1 ρ χ1 χ K1 →
      (∀ L2 K2 : Lg,(∀ (q : Nat) (x : AB),q ≠ u → q ≠ b → L1 q = some (.raw x) → L2 q = some (.raw x)) → TO L2 b s u now σ1 ρ χ1 χ K2 → ∀ k2 : AV → Lg → Prop,
        (∀ (fb : List AV) (K3 : Lg) (ρ1 : Tms) (χ2 : Nat → Ch),fb.all AV.one = true → fb.length = 7 → TO L2 b s u now σ1 ρ1 χ1 χ2 K3 → χ1 = χ2 → TR σ1 ρ1 → TG σ1 χ1 (k + 1) → σ1.ones.length = σ.ones.length → (ok = true → due n σ1.x.l < due n σ.x.l) → (∀ X,SubL K3 X → CallL F (N k_f89) [.agg fa,.agg fb] X fun v X' => v = .b true ∧ X' = X) → k2 (.tup [.agg fb,.b ok]) K3) →
        CallL F (N k_f87) [.p (some (u,0)),.i .i64 n] K2 k2) →
      k1 (.tup [.agg fa,.b ok]) K1) →
    CallL F (N k_f48) [.p (some (s,0)),.i .i64 n] K k1
theorem fire_pair (h1 : H_f48 N F) (h2 : H_f87 N F) (h5 : H_f89 N F) (tr : TR σ ρ) (tg : TG σ χ k) (hk : k ≤ 890000) (n : Int) : FirePair L0 b s u now σ ρ χ k n F N := by
  refine ⟨fun K to k1 hk1 => ?_⟩
  have tf := tg.tf (by omega)
  have hq : 0 ≤ σ.x.seq ∧ σ.x.seq < 4611686018427387904 := ⟨tg.g.pos,by have := tg.g.seq; omega⟩
  rcases tg.g.takeAny n with tk | ⟨x',y,hy,hyw,tk,hx',hdue,hz⟩
  · refine (fire_none h1 to.set tg.g.sorted tf.ll hq n (by rw [tk])).mono ?_
    rintro _ K1 ⟨rfl,hK1⟩
    rw [hK1,firedAV_fc]
    refine hk1 false _ (.sl none 0 0 0) [] L0 K σ χ rfl rfl (fun _ _ _ _ h => h) to ?_
    intro L2 K2 low2 to2 k2 hk2
    refine (to2.rNone fun Lb e => fireR_none h2 e (tr.tf tf) n (by rw [tr.x,tk])).mono ?_
    rintro _ K3 ⟨rfl,to3,_⟩
    refine hk2 _ K3 ρ χ rfl rfl to3 rfl tr (tg.mono (by omega)) rfl (fun h => by cases h) ?_
    intro X hX
    exact fired_spec h5 (slV_nil _) (slV_nil _) (by simp)
  · obtain ⟨i,hid,hi⟩ := tg.ids y hy
    have hw : σ.ones[i]? = some (σ.ones[i]) := List.getElem?_eq_getElem hi
    obtain ⟨w,hwe⟩ : ∃ w,w = σ.ones[i] := ⟨_,rfl⟩
    rw [← hwe] at hw
    obtain ⟨w',hw',lk⟩ := tr.other hw
    have o1 : σ.one y.id = some w := by
      unfold Tms.one Tms.has
      rw [hid]
      have : (decide ((0 : Int) ≤ (i : Int)) && decide ((i : Int) < (σ.ones.length : Int))) = true := by simp; exact hi
      rw [if_pos this]; simpa using hw
    have o2 : ρ.one y.id = some w' := by
      unfold Tms.one Tms.has
      rw [hid]
      have : (decide ((0 : Int) ≤ (i : Int)) && decide ((i : Int) < (ρ.ones.length : Int))) = true := by simp; rw [tr.len]; exact hi
      rw [if_pos this]; simpa using hw'
    refine (fire_spec h1 to.set tg.g.sorted tf.ll hq n tk o1 (to.chan hw)).mono ?_
    rintro _ K1 ⟨sl,rfl,hfs⟩
    have to1 := (to.putS { σ with x := x' } (same_ones rfl)).putC (i := i) (w := w) hw (putsC w.c (χ i) n).1
    obtain ⟨L1,toL,hsl,hlow,hblk⟩ := to1.fresh hfs
    have hone : sl.one = true := by rcases hblk with ⟨_,rfl⟩ | ⟨q,ex,rfl,_⟩ <;> rfl
    rw [firedAV_fc]
    refine hk1 true _ sl (putsC w.c (χ i) n).2.1 L1 K1 _ _ (by simp [fc,hone]) rfl hlow toL ?_
    intro L2 K2 low2 to2 k2 hk2
    have tfr := tr.tf tf
    have gc := tg.ch i
    refine (to2.rFire h2 tfr n (by rw [tr.x]; exact tk) hid hw' o2 gc.t (by rw [gc.cap]; exact gc.vals) (by rw [gc.cap]; omega)).mono ?_
    rintro _ K3 ⟨sl2,rfl,to3,hs2⟩
    rw [puts_like lk] at hs2 to3 ⊢
    rw [lk.kind,lk.data]
    have hone2 : sl2.one = true := by rcases hs2 with ⟨_,rfl⟩ | ⟨q,ex,rfl,_⟩ <;> rfl
    rw [firedAV_fc]
    refine hk2 _ K3 _ _ (by simp [fc,hone2]) rfl to3 rfl (tr.setX x') ?_ rfl (fun _ => hdue) ?_
    · exact (tg.take (now := n) hy hx' hz).chan (puts_good (gc.mono (by omega)))
    · intro X hX
      rw [← firedAV_fc,← firedAV_fc]
      refine fired_spec h5 (l := (putsC w.c (χ i) n).2.1) ?_ ?_ (by have := puts_len (c := w.c) (y := χ i) (n := n); omega)
      · refine slV_of ?_
        rcases hblk with ⟨e1,e2⟩ | ⟨q,ex,e1,e2,e3,e4⟩
        · exact .inl ⟨e1,e2⟩
        · exact .inr ⟨q,ex,e1,hX _ _ (to3.kept e2 e3 (low2 _ _ e2 e3 e4))⟩
      · refine slV_of ?_
        rcases hs2 with ⟨e1,e2⟩ | ⟨q,ex,e1,e2⟩
        · exact .inl ⟨e1,e2⟩
        · exact .inr ⟨q,ex,e1,hX _ _ e2⟩
theorem splice_fz {l : List AV} (h : l.length = 7) : splice [AV.i .i64 0,.i .i64 0,.i .i64 0,.i .i64 0,.i .i64 0,.sl none 0 0 0,.b false] 0 l = l := by simp [splice,h]
theorem does_fire (h1 : H_f48 N F) (h2 : H_f87 N F) (h5 : H_f89 N F) (to : TO L0 b s u now σ ρ χ χ K) (tr : TR σ ρ) (tg : TG σ χ k) (hm : σ.ones.length ≤ m) (hk : k ≤ 800000) (x3u : x3 ≠ u) (x3b : x3 ≠ b) (h3 : L0 x3 = some (.raw (.cells [.i .i64 kd,.i .i64 n,.i .i64 d])))
    (fin : ∀ K',BedOk L0 b s u (k + 200) (m + 1) K' → fin1 (some (.b true)) Q K') (op : Int) : D_f101_51 F N Q (.p (some (b,0))) (.p (some (x3,0))) (.i .i64 op) K := by
  unfold D_f101_51 D_f101_3
  have c2 : rdL K (x3,2) none = some (.i .i64 d) := by rw [rdL_cell (to.kept x3u x3b h3)]; rfl
  simp only [mark_eq,wp_eql,condW_d]
  refine ⟨fun _ => ?_,fun _ => fin _ ⟨now,_,_,_,to,tr,tg.mono (by omega),by omega⟩⟩
  simp only [mark_eq,wp_nilchk_p,wp_fad,Nat.zero_add,Nat.add_zero,wp_ld,to.b0,c2,retL_some]
  refine (fire_pair (L0 := L0) (b := b) (s := s) (u := u) (now := now) h1 h2 h5 tr tg (by omega) d).p K to _ ?_
  intro ok fa sl l L1 K1 σ1 χ1 fa1 fa7 low to1 rest
  simp only [mark_eq,wp_ext,List.getElem?_cons_zero,List.getElem?_cons_succ,retL_some,wp_alloc]
  intro x10 hx10
  rw [wp_st,stL_cells (Lg.put_same _ _ _) fa1 fa7 (by simp),Lg.put_put,splice_fz fa7]
  obtain ⟨to2,x10u,x10b,hold⟩ := to1.junk hx10 (.cells fa)
  have g10 : (L1.put x10 (.raw (.cells fa))) x10 = some (.raw (.cells fa)) := Lg.put_same _ _ _
  have low2 : ∀ (q : Nat) (x : AB),q ≠ u → q ≠ b → L1 q = some (.raw x) → (L1.put x10 (.raw (.cells fa))) q = some (.raw x) := fun q x r1 r2 r3 => by rw [Lg.put_ne _ _ _ (hold q x r1 r2 r3)]; exact r3
  generalize K1.put x10 (.raw (.cells fa)) = K2 at to2
  generalize L1.put x10 (.raw (.cells fa)) = L2 at to2 g10 low2
  have c2' : rdL K2 (x3,2) none = some (.i .i64 d) := by rw [rdL_cell (to2.kept x3u x3b (low2 _ _ x3u x3b (low _ _ x3u x3b h3)))]; rfl
  simp only [mark_eq,wp_nilchk_p,wp_fad,Nat.zero_add,Nat.add_zero,wp_ld,to2.b1,c2',retL_some]
  refine rest L2 K2 low2 to2 _ ?_
  intro fb K3 ρ1 χ2 fb1 fb7 to3 hχ tr3 tg3 hlen hdue hfd
  simp only [mark_eq,wp_ext,List.getElem?_cons_zero,List.getElem?_cons_succ,retL_some,wp_alloc]
  intro x20 hx20
  rw [wp_st,stL_cells (Lg.put_same _ _ _) fb1 fb7 (by simp),Lg.put_put,splice_fz fb7]
  have s4 : SubL K3 (K3.put x20 (.raw (.cells fb))) := (SubL.refl K3).put hx20 _
  obtain ⟨to4,_,_,hold4⟩ := to3.junk hx20 (.cells fb)
  have k20 : (K3.put x20 (.raw (.cells fb))) x20 = some (.raw (.cells fb)) := Lg.put_same _ _ _
  have k10 := s4 _ _ (to3.kept x10u x10b g10)
  have low4 : ∀ (q : Nat) (x : AB),q ≠ u → q ≠ b → L2 q = some (.raw x) → (L2.put x20 (.raw (.cells fb))) q = some (.raw x) := fun q x r1 r2 r3 => by rw [Lg.put_ne _ _ _ (hold4 q x r1 r2 r3)]; exact r3
  generalize K3.put x20 (.raw (.cells fb)) = K4 at to4 s4 k20 k10
  have ra : rdL K4 (x10,0) (some 7) = some (.agg fa) := by rw [rdL_cells k10 (by omega),List.drop_zero,← fa7,List.take_length]
  have rb : rdL K4 (x20,0) (some 7) = some (.agg fb) := by rw [rdL_cells k20 (by omega),List.drop_zero,← fb7,List.take_length]
  simp only [mark_eq,wp_eqb,sameb,gdOp_same,wp_ld,ra,rb,retL_some,wp_call]
  refine (hfd K4 s4).mono ?_
  rintro _ K5 ⟨rfl,hK5⟩
  rw [hK5]
  simp only [mark_eq,sameb,wp_pick_t]
  subst hχ
  exact fin _ ⟨now,_,_,_,to4.mono fun q x r1 r2 r3 => low4 q x r1 r2 (low2 q x r1 r2 (low q x r1 r2 r3)),tr3,tg3.mono (by omega),by omega⟩
theorem does_fires (h1 : H_f48 N F) (h2 : H_f87 N F) (h5 : H_f89 N F) (to : TO L0 b s u now σ ρ χ χ K) (tr : TR σ ρ) (tg : TG σ χ k) (hm : σ.ones.length ≤ m) (hk : k ≤ 800000) (ho : σ.ones.length ≤ 190)
    (fin : ∀ K',BedOk L0 b s u (k + 200) (m + 1) K' → fin1 (some (.b true)) Q K') (E : Env) (e0 : E 0 = .p (some (b,0))) : D_f101_32 F N Q E K := by
  unfold D_f101_32 D_f101_34
  obtain ⟨I,hI⟩ : ∃ I : Nat → Env → Lg → Prop,I = fun m E K' => ∃ (j : Nat) (σ' ρ' : Tms) (χ' : Nat → Ch),m = due now σ'.x.l ∧ TO L0 b s u now σ' ρ' χ' χ' K' ∧ TR σ' ρ' ∧ TG σ' χ' (k + j) ∧ j + due now σ'.x.l ≤ σ.ones.length ∧ σ'.ones.length = σ.ones.length ∧ E 0 = .p (some (b,0)) ∧ E 33 = .i .i64 j := ⟨_,rfl⟩
  refine loopW_intro I (due now σ.x.l) ?_ ?_
  · rw [hI]
    exact ⟨0,σ,ρ,χ,rfl,to,tr,tg,by have := tg.few; have := due_le now σ.x.l; omega,rfl,by simp [e0],by simp⟩
  intro m E t K' hi
  rw [hI] at hi
  obtain ⟨j,σ,ρ,χ,rfl,to,tr,tg,hj,hlen,e0,e33⟩ := hi
  unfold D_f101_35
  have rl : ∃ ov,rdL K' (u,3) none = some ov ∧ ∀ (X : Lg) (k : AV → Lg → Prop),wpOp F .lenSl [ov] X k = k (.i .i64 ρ.ones.length) X := by
    obtain ⟨Lb,per,sv,pv,ov,o,pk,t⟩ := to
    exact ⟨ov,o.r3,fun X k => o.slO.len X k⟩
  obtain ⟨ov,r3,hl3⟩ := rl
  rw [e0,e33]
  have hle : (j : Int) ≤ (ρ.ones.length : Int) := by rw [tr.len]; omega
  simp only [mark_eq,wp_nilchk_p,wp_fad,Nat.zero_add,Nat.add_zero,wp_ld,to.b1,r3,retL_some,hl3,wp_leq,hle,decide_true,condW_t]
  unfold D_f101_39
  rw [e0]
  simp only [mark_eq,wp_nilchk_p,wp_fad,Nat.zero_add,Nat.add_zero,wp_ld,to.b0,to.b2,retL_some]
  refine (fire_pair (L0 := L0) (b := b) (s := s) (u := u) (now := now) h1 h2 h5 tr tg (by omega) now).p K' to _ ?_
  intro ok fa sl l L1 K1 σ1 χ1 fa1 fa7 low to1 rest
  simp only [mark_eq,wp_ext,List.getElem?_cons_zero,List.getElem?_cons_succ,retL_some,wp_alloc]
  intro x10 hx10
  rw [wp_st,stL_cells (Lg.put_same _ _ _) fa1 fa7 (by simp),Lg.put_put,splice_fz fa7]
  obtain ⟨to2,x10u,x10b,hold⟩ := to1.junk hx10 (.cells fa)
  have g10 : (L1.put x10 (.raw (.cells fa))) x10 = some (.raw (.cells fa)) := Lg.put_same _ _ _
  have low2 : ∀ (q : Nat) (x : AB),q ≠ u → q ≠ b → L1 q = some (.raw x) → (L1.put x10 (.raw (.cells fa))) q = some (.raw x) := fun q x r1 r2 r3 => by rw [Lg.put_ne _ _ _ (hold q x r1 r2 r3)]; exact r3
  generalize K1.put x10 (.raw (.cells fa)) = K2 at to2
  generalize L1.put x10 (.raw (.cells fa)) = L2 at to2 g10 low2
  unfold D_f101_40
  have f0 : (Env.put (Env.put E 34 (.p (some (x10,0)))) 35 (.b ok)) 0 = .p (some (b,0)) := by simp [e0]
  have f33 : (Env.put (Env.put E 34 (.p (some (x10,0)))) 35 (.b ok)) 33 = .i .i64 j := by simp [e33]
  have f34 : (Env.put (Env.put E 34 (.p (some (x10,0)))) 35 (.b ok)) 34 = .p (some (x10,0)) := by simp
  have f35 : (Env.put (Env.put E 34 (.p (some (x10,0)))) 35 (.b ok)) 35 = .b ok := by simp
  generalize (Env.put (Env.put E 34 (.p (some (x10,0)))) 35 (.b ok)) = E2 at f0 f33 f34 f35
  rw [f0,f34,f35]
  simp only [mark_eq,wp_nilchk_p,wp_fad,Nat.zero_add,Nat.add_zero,wp_ld,to2.b1,to2.b2,retL_some]
  refine rest L2 K2 low2 to2 _ ?_
  intro fb K3 ρ1 χ2 fb1 fb7 to3 hχ tr3 tg3 hlen3 hdue hfd
  simp only [mark_eq,wp_ext,List.getElem?_cons_zero,List.getElem?_cons_succ,retL_some,wp_alloc]
  intro x20 hx20
  rw [wp_st,stL_cells (Lg.put_same _ _ _) fb1 fb7 (by simp),Lg.put_put,splice_fz fb7]
  have s4 : SubL K3 (K3.put x20 (.raw (.cells fb))) := (SubL.refl K3).put hx20 _
  obtain ⟨to4,_,_,hold4⟩ := to3.junk hx20 (.cells fb)
  have k20 : (K3.put x20 (.raw (.cells fb))) x20 = some (.raw (.cells fb)) := Lg.put_same _ _ _
  have k10 := s4 _ _ (to3.kept x10u x10b g10)
  have low4 : ∀ (q : Nat) (x : AB),q ≠ u → q ≠ b → L2 q = some (.raw x) → (L2.put x20 (.raw (.cells fb))) q = some (.raw x) := fun q x r1 r2 r3 => by rw [Lg.put_ne _ _ _ (hold4 q x r1 r2 r3)]; exact r3
  generalize K3.put x20 (.raw (.cells fb)) = K4 at to4 s4 k20 k10
  have ra : rdL K4 (x10,0) (some 7) = some (.agg fa) := by rw [rdL_cells k10 (by omega),List.drop_zero,← fa7,List.take_length]
  have rb : rdL K4 (x20,0) (some 7) = some (.agg fb) := by rw [rdL_cells k20 (by omega),List.drop_zero,← fb7,List.take_length]
  have hneq : ((ok == ok) != true) = false := by cases ok <;> rfl
  simp only [mark_eq,wp_eqb,hneq,gdOp_same,wp_ld,ra,rb,retL_some,wp_call]
  refine (hfd K4 s4).mono ?_
  rintro _ K5 ⟨rfl,hK5⟩
  rw [hK5]
  have to5 := to4.mono fun q x r1 r2 r3 => low4 q x r1 r2 (low2 q x r1 r2 (low q x r1 r2 r3))
  subst hχ
  simp only [mark_eq,hneq,gdOp_same,wp_not,Bool.not_true,wp_pick_f,condW_f]
  cases ok with
  | false =>
    simp only [mark_eq,Bool.not_false,condW_t]
    exact fin _ ⟨now,_,_,_,to5,tr3,tg3.mono (by omega),by omega⟩
  | true =>
    simp only [mark_eq,Bool.not_true,condW_f]
    unfold D_f101_37
    have w1 : wr .i64 ((j : Int) + 1) = ((j + 1 : Nat) : Int) := by rw [wr_id (by omega) (by omega)]; omega
    have g33 : (Env.put (Env.put E2 36 (.p (some (x20,0)))) 37 (.b true)) 33 = .i .i64 j := by simp [f33]
    have g0 : (Env.put (Env.put E2 36 (.p (some (x20,0)))) 37 (.b true)) 0 = .p (some (b,0)) := by simp [f0]
    generalize (Env.put (Env.put E2 36 (.p (some (x20,0)))) 37 (.b true)) = E3 at g33 g0
    rw [g33]
    simp only [mark_eq,wp_add,w1]
    have hd := hdue rfl
    rw [hI]
    exact ⟨due now σ1.x.l,hd,j + 1,σ1,ρ1,χ1,rfl,to5,tr3,by rw [show k + (j + 1) = k + j + 1 by omega]; exact tg3,by omega,by rw [hlen3,hlen],by simp [g0],by simp⟩
end
end Go.AM


set_option linter.unusedVariables false
set_option linter.unusedSimpArgs false
namespace Go.AM
variable {N : Nat → Nat} {F : Nat → Option AFn}
theorem known_spec {f : Nat} (h : F f = some kTrue) (L : Lg) : CallL F f [] L fun v L' => v = .b true ∧ L' = L := by
  apply CallL.of_wp h
  show fin _ _ _ _ _
  exact ⟨L,Sees.refl _,rfl,rfl⟩
section
variable {L : Lg} {s c : Nat} {σ : Tms} {k dat g due q p : Int} {vs : List Int}
end
end Go.AM


set_option linter.unusedVariables false
set_option linter.unusedSimpArgs false
namespace Go.AM
section
variable {id c c0 : Nat} {kid K : Int} {σ : Tms}
end
end Go.AM


set_option linter.unusedVariables false
set_option linter.unusedSimpArgs false
namespace Go.AM
variable {N : Nat → Nat} {F : Nat → Option AFn}
section
variable {L0 L : Lg} {cs : List AV} {s id c c0 : Nat} {σ : Tms} {vs : List Int} {kid K : Int}
end
theorem tcl_get : ∀ (l : List (Int × Int × Int)) (i k : Nat) (x : Int × Int × Int),l[i]? = some x → k < 3 → (tcl l)[i * 3 + k]? = (t3 x)[k]?
  | [],i,k,x,h,_ => by simp at h
  | y :: r,0,k,x,h,hk => by
    simp at h; subst h
    simp only [tcl,List.flatMap_cons,Nat.zero_mul,Nat.zero_add]
    rw [List.getElem?_append_left (by simp [t3]; omega)]
  | y :: r,i + 1,k,x,h,hk => by
    have := tcl_get r i k x (by simpa using h) hk
    have e : (i + 1) * 3 + k = (t3 y).length + (i * 3 + k) := by simp [t3]; omega
    rw [e]
    simp only [tcl,List.flatMap_cons]
    rw [List.getElem?_append_right (by omega),Nat.add_sub_cancel_left]
    exact this
section
variable {Q : AV → Lg → Prop}
variable (hr : H_f10 N F) (h4 : H_f48 N F) (h5 : H_f91 N F) (h6 : H_f51 N F) (h7 : H_f59 N F) (h8 : H_f54 N F) (h9 : H_f108 N F) (h10 : H_f109 N F) (aw : F (N k_f61) = some kTrue)
include hr h4 h5 h6 h7 h8 h9 h10 aw
end
end Go.AM


set_option linter.unusedVariables false
set_option linter.unusedSimpArgs false
namespace Go.AM
variable {N : Nat → Nat} {F : Nat → Option AFn}
section
variable {Lb L0 K : Lg} {b s u k x3 : Nat} {now : Int} {σ ρ : Tms} {χ ψ : Nat → Ch} {Q : AV → Lg → Prop} {per : List (Int × Int)} {sv pv ov : AV}
def oneC (σ : Tms) (id : Int) : Option Nat := match σ.one id with
  | some o => o.c
  | none => none
theorem tchanC_spec (hf : H_f90 N F) (e : K s = some (.abs (SetP s σ))) (id : Int) : CallL F (N k_f90) [.p (some (s,0)),.i .i64 id] K fun v L' => v = ptr (oneC σ id) ∧ L' = K := by
  refine (tchan_spec hf e id).mono ?_
  rintro v L' ⟨rfl,rfl⟩
  refine ⟨?_,rfl⟩
  unfold oneC
  cases σ.one id <;> rfl
def oneK (σ : Tms) (id : Int) : Int := match σ.one id with
  | some o => o.kind
  | none => 0
def oneG (σ : Tms) (id : Int) : Int := match σ.one id with
  | some o => o.gen
  | none => 0
theorem tkindC_spec (hf : H_f104 N F) (e : K s = some (.abs (SetP s σ))) (id : Int) : CallL F (N k_f104) [.p (some (s,0)),.i .i64 id] K fun v L' => v = .i .i64 (oneK σ id) ∧ L' = K := by
  refine (tkind_spec hf e id).mono ?_
  rintro v L' ⟨rfl,rfl⟩
  refine ⟨?_,rfl⟩
  unfold oneK
  cases σ.one id <;> rfl
theorem tgenC_spec (hf : H_f60 N F) (e : K s = some (.abs (SetP s σ))) (id : Int) : CallL F (N k_f60) [.p (some (s,0)),.i .i64 id] K fun v L' => v = .i .i64 (oneG σ id) ∧ L' = K := by
  refine (tgen_spec hf e id).mono ?_
  rintro v L' ⟨rfl,rfl⟩
  refine ⟨?_,rfl⟩
  unfold oneG
  cases σ.one id <;> rfl
theorem kindR_open (hf : H_f105 N F) (o : ROpen Lb u ρ per sv pv ov K) (id : Int) : CallL F (N k_f105) [.p (some (u,0)),.i .i64 id] K fun v K' => v = .i .i64 (oneK ρ id) ∧ K' = K := by
  refine CallL.opq ?_
  intro Q hQ
  apply r_f105 hf.code
  unfold D_f105_1
  refine (inR_spec hf.f78 o _).mono ?_
  rintro _ K1 ⟨rfl,hK1⟩
  rw [hK1]
  cases ho : ρ.one id with
  | none =>
    rw [one_none ho]
    simp only [mark_eq,wp_not,Bool.not_false,condW_t]
    exact ⟨K,Sees.refl _,hQ _ _ ⟨by unfold oneK; rw [ho],rfl⟩⟩
  | some w =>
    obtain ⟨i,rfl,hi,hw,hh⟩ := on_get ho
    obtain ⟨b,q,q1,q2,_⟩ := o.slO.get (F := F) hw
    have r0 : rdL K (b,q) none = some (.i .i64 w.kind) := (q2 K (SubL.refl _)).1 0 (by omega)
    rw [hh]
    simp only [mark_eq,wp_not,Bool.not_true,condW_f,wp_nilchk_p,wp_fad,Nat.zero_add,Nat.add_zero,wp_ld,o.r3,retL_some,q1,r0]
    exact ⟨K,Sees.refl _,hQ _ _ ⟨by unfold oneK; rw [ho],rfl⟩⟩
theorem genR_open (hf : H_f106 N F) (o : ROpen Lb u ρ per sv pv ov K) (id : Int) : CallL F (N k_f106) [.p (some (u,0)),.i .i64 id] K fun v K' => v = .i .i64 (oneG ρ id) ∧ K' = K := by
  refine CallL.opq ?_
  intro Q hQ
  apply r_f106 hf.code
  unfold D_f106_1
  refine (inR_spec hf.f78 o _).mono ?_
  rintro _ K1 ⟨rfl,hK1⟩
  rw [hK1]
  cases ho : ρ.one id with
  | none =>
    rw [one_none ho]
    simp only [mark_eq,wp_not,Bool.not_false,condW_t]
    exact ⟨K,Sees.refl _,hQ _ _ ⟨by unfold oneG; rw [ho],rfl⟩⟩
  | some w =>
    obtain ⟨i,rfl,hi,hw,hh⟩ := on_get ho
    obtain ⟨b,q,q1,q2,_⟩ := o.slO.get (F := F) hw
    have r0 : rdL K (b,q + 3) none = some (.i .i64 w.gen) := (q2 K (SubL.refl _)).1 3 (by omega)
    rw [hh]
    simp only [mark_eq,wp_not,Bool.not_true,condW_f,wp_nilchk_p,wp_fad,Nat.zero_add,Nat.add_zero,wp_ld,o.r3,retL_some,q1,r0]
    exact ⟨K,Sees.refl _,hQ _ _ ⟨by unfold oneG; rw [ho],rfl⟩⟩
theorem chanR_open (hf : H_f92 N F) (o : ROpen Lb u ρ per sv pv ov K) (id : Int) : CallL F (N k_f92) [.p (some (u,0)),.i .i64 id] K fun v K' => v = ptr (oneC ρ id) ∧ K' = K := by
  refine CallL.opq ?_
  intro Q hQ
  apply r_f92 hf.code
  unfold D_f92_1
  refine (inR_spec hf.f78 o _).mono ?_
  rintro _ K1 ⟨rfl,hK1⟩
  rw [hK1]
  cases ho : ρ.one id with
  | none =>
    rw [one_none ho]
    simp only [mark_eq,wp_not,Bool.not_false,condW_t]
    exact ⟨K,Sees.refl _,hQ _ _ ⟨by unfold oneC; rw [ho]; rfl,rfl⟩⟩
  | some w =>
    obtain ⟨i,rfl,hi,hw,hh⟩ := on_get ho
    obtain ⟨b,q,q1,q2,_⟩ := o.slO.get (F := F) hw
    have r0 : rdL K (b,q + 2) none = some (ptr w.c) := (q2 K (SubL.refl _)).1 2 (by omega)
    rw [hh]
    simp only [mark_eq,wp_not,Bool.not_true,condW_f,wp_nilchk_p,wp_fad,Nat.zero_add,Nat.add_zero,wp_ld,o.r3,retL_some,q1,r0]
    exact ⟨K,Sees.refl _,hQ _ _ ⟨by unfold oneC; rw [ho],rfl⟩⟩
theorem canC_spec (hf : H_f59 N F) (h2 : H_f108 N F) (h3 : H_f109 N F) {c : Option Nat} {x : Ch} (hx : x.timed = true) (h : K.hasC s c x) : CallL F (N k_f59) [ptr c,.b false] K (fun v L' => v = .b (c.isSome && x.can false) ∧ L' = K) ∧ CallL F (N k_f108) [ptr c] K (fun v L' => v = .i .i64 0 ∧ L' = K) ∧ CallL F (N k_f109) [ptr c] K (fun v L' => v = .i .i64 0 ∧ L' = K) := by
  cases c with
  | none => exact chanNil_spec hf h2 h3 K
  | some a =>
    have e := (h a rfl).2
    refine ⟨?_,?_,?_⟩
    · simpa [ptr] using can_spec hf e false
    · have := chanLen_spec h2 e; rw [if_pos hx] at this; exact this
    · have := chanCap_spec h3 e; rw [if_pos hx] at this; exact this
theorem shows_spec (hf : H_f110 N F) (to : TO L0 b s u now σ ρ χ χ K) (tr : TR σ ρ) (tg : TG σ χ k) (hk : k ≤ 800000) (ix : Int) : CallL F (N k_f110) [.p (some (b,0)),.i .i64 ix] K fun v K' => v = .b true ∧ K' = K := by
  refine CallL.opq ?_
  intro Q hQ
  have to' := to
  obtain ⟨Lb,per,sv,pv,ov,o,pk,t⟩ := to'
  apply r_f110 hf.code
  unfold D_f110_1 D_f110_2
  simp only [mark_eq,wp_nilchk_p,wp_fad,Nat.zero_add,Nat.add_zero,wp_ld,to.b0,retL_some]
  refine (tnext_spec hf.f102 to.set tg.g.sorted).mono ?_
  rintro _ K1 ⟨rfl,hK1⟩
  rw [hK1]
  unfold D_f110_3
  simp only [mark_eq,wp_ext,List.getElem?_cons_zero,List.getElem?_cons_succ,retL_some,wp_nilchk_p,wp_fad,Nat.zero_add,Nat.add_zero,wp_ld,to.b1,o.r0]
  unfold D_f110_4
  simp only [mark_eq,wp_nilchk_p,wp_fad,Nat.zero_add,Nat.add_zero,wp_ld,to.b0,retL_some]
  refine (tchanC_spec hf.f90 to.set ix).mono ?_
  rintro _ K2 ⟨rfl,hK2⟩
  rw [hK2]
  simp only [mark_eq,wp_nilchk_p,wp_fad,Nat.zero_add,Nat.add_zero,wp_ld,to.b1,retL_some]
  refine (chanR_open hf.f92 o ix).mono ?_
  rintro _ K3 ⟨rfl,hK3⟩
  rw [hK3]
  have ag : againV (.ld none) [.p (some (b,1))] K K := by simp [againV,semRL,rLdL,to.b1]
  have ag3 : againV (.ld none) [.p (some (u,3))] K K := by
    have : sameV ov ov = true := (OSe.same (.inl o.os))
    simp [againV,semRL,rLdL,o.r3,this]
  refine ⟨⟨ag,trivial⟩,?_⟩
  -- what is at the channel of this id
  obtain ⟨x,hx,hc,hc',hcc⟩ : ∃ x : Ch,x.timed = true ∧ K.hasC s (oneC σ ix) x ∧ K.hasR u (oneC ρ ix) x ∧ (oneC ρ ix).isSome = (oneC σ ix).isSome := by
    rcases tr.one ix with ⟨o1,o2⟩ | ⟨i,w,w',rfl,hi,hw,hw',o1,o2,lk⟩
    · refine ⟨.tm,rfl,?_,?_,?_⟩
      · intro a ha; unfold oneC at ha; rw [o1] at ha; cases ha
      · intro a ha; unfold oneC at ha; rw [o2] at ha; cases ha
      · unfold oneC; rw [o1,o2]
    · refine ⟨χ i,(tg.ch i).t,?_,?_,?_⟩
      · intro a ha; unfold oneC at ha; rw [o1] at ha; exact to.chan hw a ha
      · intro a ha; unfold oneC at ha; rw [o2] at ha
        obtain ⟨g1,g2,g3⟩ := t.ch' i w' a hw' ha
        exact ⟨g1,o.old a _ g1 g3⟩
      · unfold oneC; rw [o1,o2]; exact lk.c
  have hkind : oneK ρ ix = oneK σ ix := by
    unfold oneK
    rcases tr.one ix with ⟨o1,o2⟩ | ⟨i,w,w',rfl,hi,hw,hw',o1,o2,lk⟩
    · rw [o1,o2]
    · rw [o1,o2]; exact lk.kind
  have hgen : oneG ρ ix = oneG σ ix := by
    unfold oneG
    rcases tr.one ix with ⟨o1,o2⟩ | ⟨i,w,w',rfl,hi,hw,hw',o1,o2,lk⟩
    · rw [o1,o2]
    · rw [o1,o2]; exact lk.gen
  obtain ⟨t0,t1,t2⟩ := eqp_ptr (F := F) hcc K K (fun _ _ => True)
  obtain ⟨k1,k2,k3⟩ := canC_spec hf.f59 hf.f108 hf.f109 hx hc
  have kr := canR_spec hf.f107 hc'
  rw [hcc] at kr
  have hl3 : ∀ (X : Lg) (k : AV → Lg → Prop),wpOp F .lenSl [ov] X k = k (.i .i64 ρ.ones.length) X := fun X k => o.slO.len X k
  have hlS : ∀ (X : Lg) (k : AV → Lg → Prop),wpOp F .lenSl [sv] X k = k (.i .i64 σ.x.l.length) X := fun X k => by have := o.slG.len (F := F) X k; rw [tr.x] at this; exact this
  unfold D_f110_5
  simp only [mark_eq,wp_nilchk_p,wp_fad,Nat.zero_add,Nat.add_zero,wp_ld,to.b0,retL_some]
  refine (tlen_spec hf.f103 to.set).mono ?_
  rintro _ K4 ⟨rfl,hK4⟩
  rw [hK4]
  simp only [mark_eq,wp_nilchk_p,wp_fad,Nat.zero_add,Nat.add_zero,wp_ld,to.b1,o.r3,retL_some,hl3,tr.len,wp_eql,decide_true,gdOp_same,wp_mv,to.b0,wp_call]
  refine (tkindC_spec hf.f104 to.set ix).mono ?_
  rintro _ K5 ⟨rfl,hK5⟩
  rw [hK5]
  simp only [mark_eq,decide_true,gdOp_same,wp_mv,wp_nilchk_p,wp_fad,Nat.zero_add,Nat.add_zero,wp_ld,to.b1,retL_some,wp_call]
  refine (kindR_open hf.f105 o ix).mono ?_
  rintro _ K6 ⟨rfl,hK6⟩
  rw [hK6,hkind]
  simp only [mark_eq,decide_true,gdOp_same,wp_mv,wp_eql,wp_pick_t,wp_nilchk_p,wp_fad,Nat.zero_add,Nat.add_zero,wp_ld,to.b0,retL_some,wp_call]
  refine (tgenC_spec hf.f60 to.set ix).mono ?_
  rintro _ K7 ⟨rfl,hK7⟩
  rw [hK7]
  simp only [mark_eq,decide_true,gdOp_same,wp_mv,wp_eql,wp_pick_t,wp_nilchk_p,wp_fad,Nat.zero_add,Nat.add_zero,wp_ld,to.b1,retL_some,wp_call]
  refine (genR_open hf.f106 o ix).mono ?_
  rintro _ K8 ⟨rfl,hK8⟩
  rw [hK8,hgen]
  -- behind the row of what is due
  have tail : (gdOp F (.b true) true .mv [ptr (oneC σ ix)] K fun v58 L58 => gdOp F (.b true) true (.eq false .ptr) [v58,(.p none)] L58 fun v59 L59 => gdOp F (.b true) true .mv [ptr (oneC ρ ix)] L59 fun v60 L60 => gdOp F (.b true) true (.eq false .ptr) [v60,(.p none)] L60 fun v61 L61 =>
      gdOp F (.b true) true (.eq false .bool) [v59,v61] L61 fun v62 L62 => wpOp F .pick [.b true,v62,(.b false)] L62 fun v63 L63 => gdOp F v63 true .mv [ptr (oneC σ ix)] L63 fun v64 L64 => gdOp F v63 true (.call (N k_f59)) [v64,(.b false)] L64 fun v65 L65 =>
      gdOp F v63 true .mv [ptr (oneC ρ ix)] L65 fun v66 L66 => gdOp F v63 true (.call (N k_f107)) [v66,(.b false)] L66 fun v67 L67 => gdOp F v63 true (.eq false .bool) [v65,v67] L67 fun v68 L68 => wpOp F .pick [v63,v68,(.b false)] L68 fun v69 L69 =>
      gdOp F v69 true .mv [ptr (oneC σ ix)] L69 fun v70 L70 => gdOp F v69 true (.call (N k_f108)) [v70] L70 fun v71 L71 => gdOp F v69 true (.bin .eql) [v71,(.i .i64 0)] L71 fun v72 L72 => wpOp F .pick [v69,v72,(.b false)] L72 fun v73 L73 =>
      gdOp F v73 true .mv [ptr (oneC σ ix)] L73 fun v74 L74 => gdOp F v73 true (.call (N k_f109)) [v74] L74 fun v75 L75 => gdOp F v73 true (.bin .eql) [v75,(.i .i64 0)] L75 fun v76 L76 => wpOp F .pick [v73,v76,(.b false)] L76 fun v77 L77 =>
      (againV (.ld none) [.p (some (b,0 + 1))] K K ∧ againV (.ld none) [.p (some (u,0 + 3))] K K ∧ againG (.b (decide ((σ.ones.length : Int) = (σ.ones.length : Int)))) true (againV (.ld none) [.p (some (b,0 + 1))] K K) ∧ againG (.b true) true (againV (.ld none) [.p (some (b,0 + 1))] K K) ∧ True) ∧ (D_f110_6 F N Q v77 L77)) := by
    simp only [mark_eq,gdOp_same,wp_mv,t1,t2,wp_eqb,sameb,wp_pick_t,wp_call]
    refine k1.mono ?_
    rintro _ X1 ⟨rfl,hX1⟩
    rw [hX1]
    simp only [mark_eq,gdOp_same,wp_mv,wp_call]
    refine kr.mono ?_
    rintro _ X2 ⟨rfl,hX2⟩
    rw [hX2]
    simp only [mark_eq,gdOp_same,wp_mv,wp_eqb,sameb,wp_pick_t,wp_call]
    refine k2.mono ?_
    rintro _ X3 ⟨rfl,hX3⟩
    rw [hX3]
    simp only [mark_eq,gdOp_same,wp_mv,wp_eql,decide_true,wp_pick_t,wp_call]
    refine k3.mono ?_
    rintro _ X4 ⟨rfl,hX4⟩
    rw [hX4]
    simp only [mark_eq,gdOp_same,wp_mv,wp_eql,decide_true,wp_pick_t]
    unfold D_f110_6
    have ag0 : againV (.ld none) [.p (some (b,0 + 1))] K K := ag
    have ag30 : againV (.ld none) [.p (some (u,0 + 3))] K K := ag3
    exact ⟨⟨ag0,ag30,fun _ => ag0,fun _ => ag0,trivial⟩,K,Sees.refl _,hQ _ _ ⟨rfl,rfl⟩⟩
  cases hl : σ.x.l with
  | nil =>
    have hnx : σ.x.next = (0,false) := by simp [Xs.next,hl]
    have hlen0 : ¬ (0 : Int) < ((σ.x.l.length : Nat) : Int) := by rw [hl]; simp
    rw [hnx]
    have hbb : ((false == false) != false) = true := rfl
    simp only [mark_eq,decide_true,gdOp_same,wp_mv,wp_eql,wp_pick_t,hlS,wp_gtr,hlen0,decide_false,wp_eqb,hbb,wp_not,Bool.not_false,gdOp_tf,gdOp_tup]
    simp only [mark_eq,gdOp_same,wp_mv] at tail
    exact tail
  | cons y r =>
    have hnx : σ.x.next = (y.w,true) := by simp [Xs.next,hl]
    have hlen0 : (0 : Int) < ((σ.x.l.length : Nat) : Int) := by rw [hl]; simp
    rw [hnx]
    have hy : ρ.x.l[0]? = some y := by rw [tr.x,hl]; rfl
    obtain ⟨bq,q,q1,q2,_⟩ := o.slG.get (F := F) hy
    have q1' : ∀ (X : Lg) (k : AV → Lg → Prop),wpOp F (.iad 3) [sv,.i .i64 0] X k = k (.p (some (bq,q))) X := q1
    have rw_ : rdL K (bq,q + 1) none = some (.i .i64 y.w) := (q2 K (SubL.refl _)).1 1 (by omega)
    have hbb : ((true == true) != false) = true := rfl
    simp only [mark_eq,decide_true,gdOp_same,wp_mv,wp_eql,wp_pick_t,hlS,wp_gtr,hlen0,wp_eqb,hbb,wp_not,Bool.not_true,q1',wp_fad,wp_ld,rw_,retL_some,wp_pick_f]
    simp only [mark_eq,gdOp_same,wp_mv] at tail
    exact tail
end
section
variable {L0 K : Lg} {b s u k m : Nat}
theorem does_spec (hf : H_f101 N F) (h0 : BedOk L0 b s u k m K) (hk : k ≤ 800000) (hm : m ≤ 190) (kd n d : Int) : CallL F (N k_f101) [.p (some (b,0)),.agg [.i .i64 kd,.i .i64 n,.i .i64 d]] K fun v K' => v = .b true ∧ BedOk L0 b s u (k + 200) (m + 1) K' := by
  refine CallL.opq ?_
  intro Q hQ
  obtain ⟨now,σ,ρ,χ,to,tr,tg,hlen⟩ := h0
  apply r_f101 hf.code
  generalize hE : initE [AV.p (some (b,0)),.agg [.i .i64 kd,.i .i64 n,.i .i64 d]] 0 = E
  have e0 : E 0 = .p (some (b,0)) := by rw [← hE]; simp [initE]
  have e1 : E 1 = .agg [.i .i64 kd,.i .i64 n,.i .i64 d] := by rw [← hE]; simp [initE]
  clear hE
  unfold D_f101_1
  rw [e1]
  simp only [mark_eq,wp_box]
  rw [newL_box_agg _ _ _ (by simp)]
  intro x3 hx3
  obtain ⟨to1,x3u,x3b,hold⟩ := to.junk hx3 (.cells [.i .i64 kd,.i .i64 n,.i .i64 d])
  have h3 : (L0.put x3 (.raw (.cells [.i .i64 kd,.i .i64 n,.i .i64 d]))) x3 = some (.raw (.cells [.i .i64 kd,.i .i64 n,.i .i64 d])) := Lg.put_same _ _ _
  have low : ∀ (q : Nat) (x : AB),q ≠ u → q ≠ b → L0 q = some (.raw x) → (L0.put x3 (.raw (.cells [.i .i64 kd,.i .i64 n,.i .i64 d]))) q = some (.raw x) := fun q x r1 r2 r3 => by rw [Lg.put_ne _ _ _ (hold q x r1 r2 r3)]; exact r3
  generalize K.put x3 (.raw (.cells [.i .i64 kd,.i .i64 n,.i .i64 d])) = K1 at to1
  generalize L0.put x3 (.raw (.cells [.i .i64 kd,.i .i64 n,.i .i64 d])) = L1 at to1 h3 low
  have fin : ∀ K',BedOk L1 b s u (k + 200) (m + 1) K' → fin1 (some (.b true)) Q K' := by
    rintro K' ⟨now',σ',ρ',χ',t1,t2,t3,t4⟩
    exact ⟨K',Sees.refl _,hQ _ _ ⟨rfl,now',σ',ρ',χ',t1.mono low,t2,t3,t4⟩⟩
  have c0 : rdL K1 (x3,0) none = some (.i .i64 kd) := by rw [rdL_cell (to1.kept x3u x3b h3)]; rfl
  have f0 : (Env.put (Env.put E 3 (.p (some (x3,0)))) 4 (.b false)) 0 = .p (some (b,0)) := by simp [e0]
  have f3 : (Env.put (Env.put E 3 (.p (some (x3,0)))) 4 (.b false)) 3 = .p (some (x3,0)) := by simp
  generalize (Env.put (Env.put E 3 (.p (some (x3,0)))) 4 (.b false)) = E1 at f0 f3
  unfold D_f101_4
  rw [f3]
  simp only [mark_eq,wp_fad,Nat.zero_add,Nat.add_zero,wp_ld,c0,retL_some]
  have g0 : (Env.put E1 52 (.i .i64 kd)) 0 = .p (some (b,0)) := by simp [f0]
  have g3 : (Env.put E1 52 (.i .i64 kd)) 3 = .p (some (x3,0)) := by simp [f3]
  have g52 : (Env.put E1 52 (.i .i64 kd)) 52 = .i .i64 kd := by simp
  generalize (Env.put E1 52 (.i .i64 kd)) = E2 at g0 g3 g52
  unfold D_f101_6 D_f101_7
  rw [g52]
  simp only [mark_eq,wp_eql,condW_d,g0,g3]
  refine ⟨fun _ => does_with1 hf.f40 hf.f74 to1 tr tg hlen hk x3u x3b h3 fin,fun _ => ?_⟩
  unfold D_f101_10 D_f101_11
  rw [g52]
  simp only [mark_eq,wp_eql,condW_d,g0,g3]
  refine ⟨fun _ => does_with2 hf.f52 hf.f75 to1 tr tg hlen hk x3u x3b h3 fin,fun _ => ?_⟩
  unfold D_f101_14 D_f101_15
  rw [g52]
  simp only [mark_eq,wp_eql,condW_d,g0,g3]
  refine ⟨fun _ => does_func hf.f53 hf.f76 to1 tr tg hlen hk x3u x3b h3 fin,fun _ => ?_⟩
  unfold D_f101_18 D_f101_19
  rw [g52]
  simp only [mark_eq,wp_eql,condW_d,g0,g3]
  refine ⟨fun _ => does_lapse hf.f55 hf.f77 to1 tr tg hlen hk x3u x3b h3 fin,fun _ => ?_⟩
  unfold D_f101_21 D_f101_22
  rw [g52]
  simp only [mark_eq,wp_eql,condW_d,g0,g3]
  refine ⟨fun _ => does_stop hf.f51 hf.f80 to1 tr tg hlen hk x3u x3b h3 fin,fun _ => ?_⟩
  unfold D_f101_24 D_f101_25
  rw [g52]
  simp only [mark_eq,wp_eql,condW_d,g0,g3]
  refine ⟨fun _ => does_reset hf.f54 hf.f81 to1 tr tg hlen hk x3u x3b h3 fin,fun _ => ?_⟩
  unfold D_f101_28 D_f101_29
  rw [g52]
  simp only [mark_eq,wp_eql,condW_d,g0,g3]
  refine ⟨fun _ => does_fires hf.f48 hf.f87 hf.f89 to1 tr tg hlen hk (by omega) fin E2 g0,fun _ => ?_⟩
  unfold D_f101_41 D_f101_42
  simp only [mark_eq,wp_eql,condW_d]
  refine ⟨fun _ => does_recv hf.f90 hf.f91 hf.f92 hf.f93 hf.f88 to1 tr tg hlen hk x3u x3b h3 fin,fun _ => ?_⟩
  unfold D_f101_45 D_f101_46
  simp only [mark_eq,wp_eql,condW_d]
  refine ⟨fun _ => does_time hf.f65 to1 tr tg hlen x3u x3b h3 fin,fun _ => ?_⟩
  unfold D_f101_48 D_f101_49
  simp only [mark_eq,wp_eql,condW_d]
  refine ⟨fun _ => does_wait hf.f90 hf.f98 hf.f92 hf.f100 to1 tr tg hlen hk x3u x3b h3 fin,fun _ => ?_⟩
  exact does_fire hf.f48 hf.f87 hf.f89 to1 tr tg hlen hk x3u x3b h3 fin kd
end
theorem timerActs_law (code : F (N k_f111) = some (c_f111 N)) (aw : F (N k_f61) = some kTrue) (h1 : H_f21 N F) (h2 : H_f101 N F) (h3 : H_f110 N F)
    {L0 : Lg} (l : List (Int × Int × Int)) (a : AV) (ha : ArgSl L0 a (tcl l) l.length 3) : CallL F (N k_f111) [a] L0 fun v _ => v = .b true := by
  refine CallL.opq ?_
  intro Q hQ
  have fin : ∀ L,fin1 (some (.b true)) Q L := fun L => ⟨L,Sees.refl _,hQ _ _ rfl⟩
  have awk : ∀ L,CallL F (N k_f61) [] L fun v17 L17 => fin1 (some v17) Q L17 := by
    intro L
    refine (known_spec aw _).mono ?_
    rintro _ _ ⟨rfl,rfl⟩
    exact fin _
  apply r_f111 code
  generalize hE : initE [a] 0 = E
  have e0 : E 0 = a := by rw [← hE]; simp [initE]
  clear hE
  unfold D_f111_1 D_f111_2
  have f0 : (Env.put E 2 (.b false)) 0 = a := by simp [e0]
  generalize Env.put E 2 (.b false) = E1 at f0
  rw [f0]
  simp only [mark_eq,ha.len,wp_gtr,condW_d]
  refine ⟨fun _ => awk _,fun hlen => ?_⟩
  unfold D_f111_3
  refine (tnew_spec h1).mono ?_
  rintro _ _ ⟨s,hs,rfl,rfl⟩
  have hb : ∀ (X : Lg) (k : AV → Lg → Prop),wpOp F (.build [.sl none 0 0 0,.i .i64 0,.sl none 0 0 0,.sl none 0 0 0,.i .i64 0] []) [] X k = k (.agg [.sl none 0 0 0,.i .i64 0,.sl none 0 0 0,.sl none 0 0 0,.i .i64 0]) X := fun X k => by simp [fillP]
  have hb2 : ∀ (x y : AV) (X : Lg) (k : AV → Lg → Prop),x.one = true → y.one = true → x.cellsOf = some [x] → y.cellsOf = some [y] → wpOp F (.build [.p none,.p none,.i .i64 0] [(0,1),(1,1)]) [x,y] X k = k (.agg [x,y,.i .i64 0]) X := fun x y X k h1 h2 h3 h4 => by simp [fillP,splice,ble_nat,beq_nat,h3,h4]
  simp only [mark_eq,hb,wp_box]
  rw [newL_box_agg _ _ _ (by simp)]
  intro u hu
  have hus : u ≠ s := by rintro rfl; rw [Lg.put_same] at hu; cases hu
  have hu0 : L0 u = none := by rw [Lg.put_ne _ _ _ hus] at hu; exact hu
  simp only [mark_eq]
  rw [hb2 _ _ _ _ rfl rfl rfl rfl]
  simp only [mark_eq,wp_box]
  rw [newL_box_agg _ _ _ (by simp)]
  intro b hbn
  have hbu : b ≠ u := by rintro rfl; rw [Lg.put_same] at hbn; cases hbn
  have hbs : b ≠ s := by rintro rfl; rw [Lg.put_ne _ _ _ hbu,Lg.put_same] at hbn; cases hbn
  have hb0 : L0 b = none := by rw [Lg.put_ne _ _ _ hbu,Lg.put_ne _ _ _ hbs] at hbn; exact hbn
  obtain ⟨Lb,hLb⟩ : ∃ Lb,Lb = (L0.put s (.abs (SetP s ⟨[],⟨[],0,fun _ => none⟩,0⟩))).put b (.raw (.cells [.p (some (s,0)),.p (some (u,0)),.i .i64 0])) := ⟨_,rfl⟩
  obtain ⟨K0,hK0⟩ : ∃ K0,K0 = ((L0.put s (.abs (SetP s ⟨[],⟨[],0,fun _ => none⟩,0⟩))).put u (.raw (.cells [.sl none 0 0 0,.i .i64 0,.sl none 0 0 0,.sl none 0 0 0,.i .i64 0]))).put b (.raw (.cells [.p (some (s,0)),.p (some (u,0)),.i .i64 0])) := ⟨_,rfl⟩
  rw [← hK0]
  have hKb : K0 = Lb.put u (.raw (.cells [.sl none 0 0 0,.i .i64 0,.sl none 0 0 0,.sl none 0 0 0,.i .i64 0])) := by rw [hK0,hLb,Lg.put_comm _ hbu]
  have ro : ROpen Lb u ⟨[],⟨[],0,fun _ => none⟩,0⟩ [] (.sl none 0 0 0) (.sl none 0 0 0) (.sl none 0 0 0) K0 :=
    ⟨by rw [hKb,Lg.put_same],.inl (OSl.nil _ _),.inl (OSl.nil _ _),OSl.nil _ _,(fun b h => by cases h),(fun b h => by cases h),(fun b h => by cases h),fun r d hr hd => by rw [hKb,Lg.put_ne _ _ _ hr]; exact hd⟩
  have pk : PerOk [] (⟨[],0,fun _ => none⟩ : Xs) := ⟨List.Perm.refl _,fun j => rfl⟩
  have ta : TA L0 Lb b s u 0 ⟨[],⟨[],0,fun _ => none⟩,0⟩ ⟨[],⟨[],0,fun _ => none⟩,0⟩ (fun _ => .tm) (fun _ => .tm) := by
    refine ⟨by rw [hLb,Lg.put_same],hbu,by rw [hLb,Lg.put_ne _ _ _ (Ne.symm hbs),Lg.put_same],Ne.symm hus,fun i w a h => by simp at h,fun i w a h => by simp at h,fun i j w w' a h => by simp at h,fun i j w w' a h => by simp at h,fun i j w w' a h => by simp at h,fun q x h1 h2 h3 => ?_⟩
    rw [hLb,Lg.put_ne _ _ _ h2,Lg.put_ne _ _ _ (by rintro rfl; rw [hs] at h3; cases h3)]
    exact h3
  have bed0 : BedOk L0 b s u 0 0 K0 := by
    refine ⟨0,_,_,_,⟨Lb,_,_,_,_,ro,pk,ta⟩,⟨rfl,rfl,rfl,fun i w w' h => by simp at h⟩,?_,by simp⟩
    refine ⟨⟨by simp,by simp,fun y h => by simp at h,by simp,by simp,by simp,fun y h => by simp at h,fun y h => by simp at h⟩,by simp,by simp,fun y h => by simp at h,fun i w h => by simp at h,fun i => GoodC.tm 0⟩
  unfold D_f111_4
  have g0 : (Env.put E1 3 (.p (some (b,0)))) 0 = a := by simp [f0]
  have g3 : (Env.put E1 3 (.p (some (b,0)))) 3 = .p (some (b,0)) := by simp
  generalize (Env.put E1 3 (.p (some (b,0)))) = E2 at g0 g3
  have rb0 : rdL K0 (b,0) none = some (.p (some (s,0))) := by rw [rdL_cell (by rw [hK0,Lg.put_same])]; rfl
  rw [g3]
  simp only [mark_eq,wp_nilchk_p,wp_fad,Nat.zero_add,Nat.add_zero,wp_ld,rb0,retL_some,wp_eqp_sn,condW_f]
  unfold D_f111_7 D_f111_9
  have keepA : ∀ {K : Lg} {k m : Nat},BedOk L0 b s u k m K → ∀ q cs,L0 q = some (.raw (.ro cs)) → K q = some (.raw (.ro cs)) := by
    rintro K k m ⟨now,σ,ρ,χ,to,_⟩ q cs hq
    exact to.kept (by rintro rfl; rw [hu0] at hq; cases hq) (by rintro rfl; rw [hb0] at hq; cases hq) hq
  clear hbn hu hK0 hKb hLb ro pk ta rb0
  obtain ⟨I,hI⟩ : ∃ I : Nat → Env → Lg → Prop,I = fun m E K => ∃ i : Nat,m + i = l.length ∧ BedOk L0 b s u (200 * i) i K ∧ E 0 = a ∧ E 3 = .p (some (b,0)) ∧ E 4 = .i .i64 i := ⟨_,rfl⟩
  refine loopW_intro I l.length ?_ ?_
  · rw [hI]; exact ⟨0,by omega,by simpa using bed0,by simp [g0],by simp [g3],by simp⟩
  intro m E t K hi
  rw [hI] at hi
  obtain ⟨i,hm,hbed,e0,e3,e4⟩ := hi
  unfold D_f111_10
  rw [e0,e3,e4]
  simp only [mark_eq,ha.len,wp_lss,condW_d]
  refine ⟨fun hil => ?_,fun hil => ?_⟩
  rotate_left
  · unfold D_f111_6
    exact awk _
  have hil' : i < l.length := by omega
  have hl120 : l.length ≤ 120 := by omega
  obtain ⟨bq,cap,rfl,hbq⟩ := ha.get hil'
  have hx : l[i]? = some l[i] := List.getElem?_eq_getElem hil'
  obtain ⟨⟨kd,n,d⟩,hxe⟩ : ∃ x,x = l[i] := ⟨_,rfl⟩
  rw [← hxe] at hx
  have hia : ∀ (X : Lg) (k : AV → Lg → Prop),wpOp F (.iad 3) [.sl (some (bq,0)) l.length cap 0,.i .i64 i] X k = k (.p (some (bq,i * 3))) X := fun X k => by
    rw [wp_iad F X k 3 bq 0 l.length cap 0 .i64 i (by omega) (by omega)]; simp
  have hcs := ha.1
  have cells : ∀ j,j < 3 → (tcl l)[i * 3 + j]? = (t3 (kd,n,d))[j]? := fun j hj => tcl_get l i j _ hx hj
  have r3 : rdL K (bq,i * 3) (some 3) = some (.agg [.i .i64 kd,.i .i64 n,.i .i64 d]) := by
    rw [rdL_ros (keepA hbed _ _ hbq) (by omega)]
    have h0 := cells 0 (by omega); have h1 := cells 1 (by omega); have h2 := cells 2 (by omega)
    simp only [t3] at h0 h1 h2
    congr 2
    apply List.ext_getElem?
    intro j
    by_cases hj : j < 3
    · rw [List.getElem?_take_of_lt hj,List.getElem?_drop]
      have : j = 0 ∨ j = 1 ∨ j = 2 := by omega
      rcases this with rfl | rfl | rfl
      · exact h0
      · exact h1
      · exact h2
    · rw [List.getElem?_eq_none (by simp; omega),List.getElem?_eq_none (by simp; omega)]
  simp only [mark_eq,hia,wp_ld,r3,retL_some]
  refine (does_spec h2 hbed (by omega) (by omega) kd n d).mono ?_
  rintro _ K1 ⟨rfl,hbed1⟩
  have r1 : rdL K1 (bq,i * 3 + 1) none = some (.i .i64 n) := by
    rw [rdL_ro (keepA hbed1 _ _ hbq)]
    have h1 := cells 1 (by omega)
    simp only [t3] at h1
    exact h1
  simp only [mark_eq,wp_not,Bool.not_true,gdOp_same,wp_mv,hia,wp_fad,wp_ld,r1,retL_some,wp_call]
  have hbed1' := hbed1
  obtain ⟨now,σ,ρ,χ,to,tr,tg,hl⟩ := hbed1'
  refine (shows_spec h3 to tr tg (by omega) n).mono ?_
  rintro _ K2 ⟨rfl,hK2⟩
  rw [hK2]
  have w1 : wr .i64 ((i : Int) + 1) = ((i + 1 : Nat) : Int) := by rw [wr_id (by omega) (by omega)]; omega
  simp only [mark_eq,wp_not,Bool.not_true,gdOp_same,wp_pick_f,condW_f,wp_add,w1]
  rw [hI]
  exact ⟨m - 1,by omega,i + 1,by omega,by rw [show 200 * (i + 1) = 200 * i + 200 by omega]; exact hbed1,by simp [e0],by simp [e3],by simp⟩
end Go.AM


