/- The open machine is right: at whatever numbers, one of its ways is what the abstract machine does. First: each operation goes on as before when numbers are put in. -/
import Derived.Test.YtjmnmaaipcbmnaaGreatAmU
set_option linter.unusedVariables false
set_option linter.unusedSimpArgs false
namespace Go.AM

mutual
def AV.sub (ρ : Nat → Int) : AV → AV
  | .b q => .b q
  | .i k n => .i k n
  | .x k e => .i k (e.ev ρ)
  | .s q => .s q
  | .p q => .p q
  | .sl q l c e => .sl q l c e
  | .m q => .m q
  | .fn f q r => .fn f (AV.subs ρ q) (AV.subs ρ r)
  | .nilf => .nilf
  | .ifc t v => .ifc t (AV.sub ρ v)
  | .nili => .nili
  | .agg l => .agg (AV.subs ρ l)
  | .tup l => .tup (AV.subs ρ l)
  | .bad => .bad
def AV.subs (ρ : Nat → Int) : List AV → List AV
  | [] => []
  | v :: l => AV.sub ρ v :: AV.subs ρ l
end
mutual
/-- no number that is not known is in it -/
def AV.clean : AV → Bool
  | .x _ _ => false
  | .fn _ q r => AV.cleans q && AV.cleans r
  | .ifc _ v => AV.clean v
  | .agg l => AV.cleans l
  | .tup l => AV.cleans l
  | _ => true
def AV.cleans : List AV → Bool
  | [] => true
  | v :: l => AV.clean v && AV.cleans l
end
section
variable (ρ : Nat → Int)
theorem subs_map : ∀ l : List AV, AV.subs ρ l = l.map (AV.sub ρ)
  | [] => rfl
  | v :: l => by simp only [AV.subs, List.map_cons, subs_map l]
mutual
theorem AV.sub_clean : ∀ {v : AV}, v.clean = true → v.sub ρ = v
  | .b _, _ => rfl
  | .i _ _, _ => rfl
  | .x _ _, h => by simp [AV.clean] at h
  | .s _, _ => rfl
  | .p _, _ => rfl
  | .sl _ _ _ _, _ => rfl
  | .m _, _ => rfl
  | .fn f q r, h => by
    rw [AV.clean, Bool.and_eq_true] at h
    rw [AV.sub, AV.subs_clean h.1, AV.subs_clean h.2]
  | .nilf, _ => rfl
  | .ifc t v, h => by rw [AV.clean] at h; rw [AV.sub, AV.sub_clean h]
  | .nili, _ => rfl
  | .agg l, h => by rw [AV.clean] at h; rw [AV.sub, AV.subs_clean h]
  | .tup l, h => by rw [AV.clean] at h; rw [AV.sub, AV.subs_clean h]
  | .bad, _ => rfl
theorem AV.subs_clean : ∀ {l : List AV}, AV.cleans l = true → AV.subs ρ l = l
  | [], _ => rfl
  | v :: l, h => by
    rw [AV.cleans, Bool.and_eq_true] at h
    rw [AV.subs, AV.sub_clean h.1, AV.subs_clean h.2]
end
theorem map_clean {l : List AV} (h : AV.cleans l = true) : l.map (AV.sub ρ) = l := by rw [← subs_map, AV.subs_clean ρ h]

theorem sub_one (v : AV) : (v.sub ρ).one = v.one := by cases v <;> rfl
theorem all_one (l : List AV) : (l.map (AV.sub ρ)).all AV.one = l.all AV.one := by
  induction l with
  | nil => rfl
  | cons v l ih => simp only [List.map_cons, List.all_cons, sub_one, ih]
theorem cellsOf_sub {v : AV} {l : List AV} (h : v.cellsOf = some l) : (v.sub ρ).cellsOf = some (l.map (AV.sub ρ)) := by
  cases v <;> simp only [AV.cellsOf] at h <;> try (first | (cases h; done) | (cases h; rfl))
  rename_i c
  rw [cond_eq_ite] at h
  split at h
  · rename_i h1
    cases h
    simp only [AV.sub, AV.cellsOf, subs_map, all_one, h1, cond_true]
  · cases h
theorem splice_sub (f : AV → AV) (c : List AV) (off : Nat) (vs : List AV) : (splice c off vs).map f = splice (c.map f) off (vs.map f) := by
  simp only [splice, List.map_append, List.map_take, List.map_drop, List.length_map]
theorem fillP_sub : ∀ {c : List AV} {ps : List (Nat × Nat)} {vs r : List AV}, fillP c ps vs = some r → fillP (c.map (AV.sub ρ)) ps (vs.map (AV.sub ρ)) = some (r.map (AV.sub ρ))
  | c, [], [], r, h => by cases h; rfl
  | c, [], _ :: _, r, h => by cases h
  | c, _ :: _, [], r, h => by cases h
  | c, (off, sz) :: ps, v :: vs, r, h => by
    simp only [fillP] at h
    split at h
    · rename_i l hl
      rw [cond_eq_ite] at h
      split at h
      · rename_i hb
        have h1 := fillP_sub h
        simp only [List.map_cons, fillP, cellsOf_sub ρ hl, List.length_map, hb, cond_true]
        rw [← splice_sub]
        exact h1
      · cases h
    · cases h
theorem cut_sub {c : List AV} {off sz : Nat} {r : List AV} (h : cut c off sz = some r) : cut (c.map (AV.sub ρ)) off sz = some (r.map (AV.sub ρ)) := by
  unfold cut at h ⊢
  rw [List.length_map]
  rw [cond_eq_ite] at h ⊢
  split at h
  · rename_i hb
    cases h
    rw [if_pos hb, List.map_take, List.map_drop]
  · cases h
theorem reps_sub (z : List AV) : ∀ n, (reps z n).map (AV.sub ρ) = reps (z.map (AV.sub ρ)) n
  | 0 => rfl
  | n + 1 => by simp only [reps, List.map_append, reps_sub z n]
theorem look_sub {c : List AV} {off : Nat} {sz : Option Nat} {v : AV} (h : look c off sz = some v) : look (c.map (AV.sub ρ)) off sz = some (v.sub ρ) := by
  cases sz with
  | none => simp only [look] at h ⊢; rw [List.getElem?_map, h]; rfl
  | some n =>
    simp only [look, Option.map_eq_some_iff] at h ⊢
    obtain ⟨r, hr, rfl⟩ := h
    exact ⟨_, cut_sub ρ hr, by rw [AV.sub, subs_map]⟩

/-! ### memory -/
def AB.sub : AB → AB
  | .cells c => .cells (c.map (AV.sub ρ))
  | .ro c => .ro (c.map (AV.sub ρ))
  | .map es => .map (es.map fun e => (e.1.sub ρ, e.2.sub ρ))
end
def PM.map {α β : Type} (f : α → β) : PM α → PM β
  | .nil => .nil
  | .node v l r => .node (v.map f) (l.map f) (r.map f)
theorem PM.map_get {α β : Type} (f : α → β) : ∀ (t : PM α) (n : Nat), (t.map f).get n = (t.get n).map f
  | .nil, n => rfl
  | .node v l r, n => by
    show (bif Nat.beq n 0 then v.map f else bif Nat.beq (Nat.mod n 2) 1 then (l.map f).get (Nat.div n 2) else (r.map f).get (Nat.sub (Nat.div n 2) 1)) = (bif Nat.beq n 0 then v else bif Nat.beq (Nat.mod n 2) 1 then l.get (Nat.div n 2) else r.get (Nat.sub (Nat.div n 2) 1)).map f
    rw [PM.map_get f l, PM.map_get f r]
    cases Nat.beq n 0 <;> cases Nat.beq (Nat.mod n 2) 1 <;> rfl
theorem PM.map_mkL {α β : Type} (f : α → β) (u : Option α) (l r : PM α) : (PM.mkL u l r).map f = PM.mkL (u.map f) (l.map f) (r.map f) := by cases l <;> rfl
theorem PM.map_mkR {α β : Type} (f : α → β) (u : Option α) (l r : PM α) : (PM.mkR u l r).map f = PM.mkR (u.map f) (l.map f) (r.map f) := by cases r <;> rfl
theorem PM.put_nil {α : Type} (v : Option α) (d n : Nat) : PM.put v (d + 1) .nil n = bif Nat.beq n 0 then .node v .nil .nil
        else bif Nat.beq (Nat.mod n 2) 1 then PM.mkL none (PM.put v d .nil (Nat.div n 2)) .nil else PM.mkR none .nil (PM.put v d .nil (Nat.sub (Nat.div n 2) 1)) := rfl
theorem PM.put_node {α : Type} (v : Option α) (d : Nat) (u : Option α) (l r : PM α) (n : Nat) : PM.put v (d + 1) (.node u l r) n = bif Nat.beq n 0 then .node v l r
        else bif Nat.beq (Nat.mod n 2) 1 then PM.mkL u (PM.put v d l (Nat.div n 2)) r else PM.mkR u l (PM.put v d r (Nat.sub (Nat.div n 2) 1)) := rfl
theorem PM.map_put {α β : Type} (f : α → β) (v : Option α) : ∀ (d : Nat) (t : PM α) (n : Nat), (PM.put v d t n).map f = PM.put (v.map f) d (t.map f) n
  | 0, t, n => rfl
  | d + 1, .nil, n => by
    simp only [PM.put_nil, PM.map]
    cases Nat.beq n 0 <;> cases Nat.beq (Nat.mod n 2) 1 <;> simp only [cond_true, cond_false, PM.map, PM.map_mkL, PM.map_mkR, PM.map_put f v d, Option.map_none]
  | d + 1, .node u l r, n => by
    simp only [PM.put_node, PM.map]
    cases Nat.beq n 0 <;> cases Nat.beq (Nat.mod n 2) 1 <;> simp only [cond_true, cond_false, PM.map, PM.map_mkL, PM.map_mkR, PM.map_put f v d]
theorem PM.map_set {α β : Type} (f : α → β) (t : PM α) (n : Nat) (v : Option α) : (t.set n v).map f = (t.map f).set n (v.map f) := PM.map_put f v _ t n

def subH (ρ : Nat → Int) (h : PM AB) : PM AB := h.map (AB.sub ρ)
def St.sub (ρ : Nat → Int) (S : St) : St := { h := subH ρ S.h, nx := S.nx }
section
variable (ρ : Nat → Int)
theorem subH_get (h : PM AB) (n : Nat) : (subH ρ h).get n = (h.get n).map (AB.sub ρ) := PM.map_get _ _ _
theorem subH_set (h : PM AB) (n : Nat) (v : Option AB) : subH ρ (h.set n v) = (subH ρ h).set n (v.map (AB.sub ρ)) := PM.map_set _ _ _ _
theorem rdAt_sub {h : PM AB} {a : Nat × Nat} {sz : Option Nat} {v : AV} (hs : rdAt h a sz = some v) : rdAt (subH ρ h) a sz = some (v.sub ρ) := by
  unfold rdAt at hs ⊢
  split at hs
  · rename_i blk hb
    rw [subH_get, hb]
    cases blk <;> simp only [AB.read] at hs <;> try (cases hs; done)
    · exact look_sub ρ hs
    · exact look_sub ρ hs
  · cases hs
theorem u8s_sub : ∀ {l : List AV} {bs : List UInt8}, u8s l = some bs → u8s (l.map (AV.sub ρ)) = some bs
  | [], _, h => h
  | v :: r, bs, h => by
    unfold u8s at h
    split at h
    · rename_i e; cases e
    · rename_i n r' e
      cases e
      split at h
      · rename_i bs' hb
        cases h
        simp only [List.map_cons, AV.sub, u8s, u8s_sub hb]
      · cases h
    · cases h
theorem rdCells_sub {h : PM AB} {a : Option (Nat × Nat)} {n : Nat} {l : List AV} (hs : rdCells h a n = some l) : rdCells (subH ρ h) a n = some (l.map (AV.sub ρ)) := by
  unfold rdCells at hs ⊢
  split at hs
  · rw [cond_eq_ite] at hs
    split at hs
    · rename_i hb; cases hs; rw [hb]; rfl
    · cases hs
  · rename_i r o
    split at hs
    · rename_i blk hb
      simp only [subH_get, hb]
      cases blk <;> simp only [AB.read] at hs <;> try (cases hs; done)
      · exact cut_sub ρ hs
      · exact cut_sub ρ hs
    · cases hs
theorem live_sub (h : PM AB) (r : Nat) : live (subH ρ h) r = live h r := by
  unfold live
  rw [subH_get]
  cases h.get r with
  | none => rfl
  | some b => cases b <;> rfl
theorem wrCells_sub {h h' : PM AB} {a : Nat × Nat} {vs : List AV} (hs : wrCells h a vs = some h') : wrCells (subH ρ h) a (vs.map (AV.sub ρ)) = some (subH ρ h') := by
  unfold wrCells at hs ⊢
  split at hs
  · rename_i c hc
    rw [subH_get, hc]
    rw [cond_eq_ite] at hs
    split at hs
    · rename_i hb
      cases hs
      simp only [Option.map_some, AB.sub, List.length_map, all_one, hb, cond_true, subH_set, splice_sub]
    · cases hs
  · cases hs
theorem mfind_sub (k : IntKind) (n : Int) : ∀ {es : List (AV × AV)} {r : Option AV}, mfind k n es = some r → mfind k n (es.map fun e => (e.1.sub ρ, e.2.sub ρ)) = some (r.map (AV.sub ρ))
  | [], r, h => by cases h; rfl
  | (x, v) :: es, r, h => by
    cases x <;> simp only [mfind] at h <;> try (cases h; done)
    simp only [List.map_cons, AV.sub, mfind]
    rw [cond_eq_ite] at h ⊢
    split at h
    · rename_i h1
      rw [if_pos h1]
      rw [cond_eq_ite] at h ⊢
      split at h
      · rename_i h2; cases h; rw [if_pos h2]; rfl
      · rename_i h2; rw [if_neg h2]; exact mfind_sub k n h
    · cases h
theorem msetL_sub (k : IntKind) (n : Int) (v : AV) : ∀ {es r : List (AV × AV)}, msetL k n v es = some r → msetL k n (v.sub ρ) (es.map fun e => (e.1.sub ρ, e.2.sub ρ)) = some (r.map fun e => (e.1.sub ρ, e.2.sub ρ))
  | [], r, h => by cases h; rfl
  | (x, u) :: es, r, h => by
    cases x <;> simp only [msetL] at h <;> try (cases h; done)
    simp only [List.map_cons, AV.sub, msetL]
    rw [cond_eq_ite] at h ⊢
    split at h
    · rename_i h1
      rw [if_pos h1]
      rw [cond_eq_ite] at h ⊢
      split at h
      · rename_i h2; cases h; rw [if_pos h2]; rfl
      · rename_i h2
        rw [if_neg h2]
        rw [Option.map_eq_some_iff] at h ⊢
        obtain ⟨r', hr, rfl⟩ := h
        exact ⟨_, msetL_sub k n v hr, rfl⟩
    · cases h
theorem mdelL_sub (k : IntKind) (n : Int) : ∀ {es r : List (AV × AV)}, mdelL k n es = some r → mdelL k n (es.map fun e => (e.1.sub ρ, e.2.sub ρ)) = some (r.map fun e => (e.1.sub ρ, e.2.sub ρ))
  | [], r, h => by cases h; rfl
  | (x, u) :: es, r, h => by
    cases x <;> simp only [mdelL] at h <;> try (cases h; done)
    simp only [List.map_cons, AV.sub, mdelL]
    rw [cond_eq_ite] at h ⊢
    split at h
    · rename_i h1
      rw [if_pos h1]
      rw [cond_eq_ite] at h ⊢
      split at h
      · rename_i h2; cases h; rw [if_pos h2]
      · rename_i h2
        rw [if_neg h2]
        rw [Option.map_eq_some_iff] at h ⊢
        obtain ⟨r', hr, rfl⟩ := h
        exact ⟨_, mdelL_sub k n hr, rfl⟩
    · cases h

/-! ### equality, least, places -/
theorem eqOne_sub {g : Nat} {x y : AV} {r : Bool} (h : eqOne g x y = some r) : eqOne g (x.sub ρ) (y.sub ρ) = some r := by
  unfold eqOne at h
  split at h <;> first | (cases h; done) | exact h
theorem eqAt_sub {xs ys : List AV} : ∀ {fs : List (Nat × Nat)} {r : Bool}, eqAt xs ys fs = some r → eqAt (xs.map (AV.sub ρ)) (ys.map (AV.sub ρ)) fs = some r
  | [], r, h => h
  | (f, g) :: fs, r, h => by
    simp only [eqAt] at h ⊢
    rw [List.getElem?_map, List.getElem?_map]
    split at h
    · rename_i x y hx hy
      rw [hx, hy]
      simp only [Option.map_some]
      split at h
      · rename_i e; rw [eqOne_sub ρ e]; exact eqAt_sub h
      · rename_i e; rw [eqOne_sub ρ e]; exact h
      · cases h
    · cases h
theorem eqP_sub (h : PM AB) (x y : Option (Nat × Nat)) : eqP (subH ρ h) x y = eqP h x y := by
  cases x with
  | none => cases y <;> rfl
  | some x => cases y with
    | none => rfl
    | some y =>
      obtain ⟨a, i⟩ := x
      obtain ⟨b, j⟩ := y
      simp only [eqP, live_sub]
theorem eqV_sub {h : PM AB} {k : EqK} {x y : AV} {r : Bool} (hs : eqV h k x y = some r) : eqV (subH ρ h) k (x.sub ρ) (y.sub ρ) = some r := by
  unfold eqV at hs
  split at hs <;> first | (cases hs; done) | exact hs | (simp only [AV.sub, eqV, eqP_sub]; exact hs) | skip
  simp only [AV.sub, eqV, subs_map]
  exact eqAt_sub ρ hs
theorem minL_sub (lt : Int → Int → Bool) : ∀ {vs : List AV} {x : Int} {k : IntKind} {v : AV}, minL lt x vs k = some v → minL lt x (vs.map (AV.sub ρ)) k = some (v.sub ρ)
  | [], x, k, v, h => by cases h; rfl
  | y :: vs, x, k, v, h => by
    cases y <;> simp only [minL] at h <;> try (cases h; done)
    simp only [List.map_cons, AV.sub, minL]
    rw [cond_eq_ite] at h ⊢
    split at h
    · rename_i h1; rw [if_pos h1]; exact minL_sub lt h
    · cases h
theorem idx_sub {v : AV} {n : Nat} (h : idx v = some n) : idx (v.sub ρ) = some n := by
  unfold idx at h
  split at h
  · exact h
  · cases h
theorem optIdx_sub {b : Bool} {r r' : List AV} {d n : Nat} (h : optIdx b r d = some (n, r')) : optIdx b (r.map (AV.sub ρ)) d = some (n, r'.map (AV.sub ρ)) := by
  cases b with
  | false => cases h; rfl
  | true => cases r with
    | nil => cases h
    | cons v r =>
      simp only [optIdx, Option.map_eq_some_iff, Prod.mk.injEq] at h
      obtain ⟨m, h1, rfl, rfl⟩ := h
      simp only [List.map_cons, optIdx, idx_sub ρ h1, Option.map_some]
theorem slcV_sub {size : Nat} {lo hi mx : Bool} {vs : List AV} {v : AV} (h : slcV size lo hi mx vs = some v) : slcV size lo hi mx (vs.map (AV.sub ρ)) = some (v.sub ρ) := by
  unfold slcV at h
  split at h
  · rename_i a len cap ex r
    simp only [List.map_cons, AV.sub, slcV]
    split at h
    · cases h
    · rename_i l r1 h1
      rw [optIdx_sub ρ h1]
      split at h
      · cases h
      · rename_i hh r2 h2
        simp only [optIdx_sub ρ h2]
        split at h
        · rename_i m h3
          simp only [optIdx_sub ρ h3, List.map_nil]
          rw [cond_eq_ite] at h ⊢
          split at h
          · rename_i hb; rw [if_pos hb]; cases h; rfl
          · cases h
        · cases h
  · cases h
theorem slcSV_sub {lo hi : Bool} {vs : List AV} {v : AV} (h : slcSV lo hi vs = some v) : slcSV lo hi (vs.map (AV.sub ρ)) = some (v.sub ρ) := by
  unfold slcSV at h
  split at h
  · rename_i x r
    simp only [List.map_cons, AV.sub, slcSV]
    split at h
    · cases h
    · rename_i l r1 h1
      rw [optIdx_sub ρ h1]
      split at h
      · rename_i hh h2
        simp only [optIdx_sub ρ h2, List.map_nil]
        rw [cond_eq_ite] at h ⊢
        split at h
        · rename_i hb; rw [if_pos hb]; cases h; rfl
        · cases h
      · cases h
  · cases h

/-! ### operations -/
def AOp.clean : AOp → Bool
  | .build z _ => AV.cleans z
  | .lkup z _ => AV.clean z
  | .alloc z => AV.cleans z
  | .bslice z _ _ _ => AV.cleans z
  | .mksl z _ => AV.cleans z
  | .clr z => AV.cleans z
  | _ => true

theorem semR_sub {o : AOp} (hc : o.clean = true) {h : PM AB} {vs : List AV} {v : AV} (hs : semR o h vs = some v) : semR o (subH ρ h) (vs.map (AV.sub ρ)) = some (v.sub ρ) := by
  cases o <;> simp only [semR] at hs ⊢ <;> try (cases hs; done)
  case mv => unfold rMv at hs; split at hs <;> cases hs; rfl
  case pick =>
    unfold rPick at hs
    split at hs
    · rename_i c x y
      cases hs
      cases c <;> rfl
    · cases hs
  case build z ps =>
    unfold rBuild at hs ⊢
    rw [Option.map_eq_some_iff] at hs ⊢
    obtain ⟨r, hr, rfl⟩ := hs
    have := fillP_sub ρ hr
    rw [map_clean ρ hc] at this
    exact ⟨_, this, by rw [AV.sub, subs_map]⟩
  case nilchk => unfold rNil at hs; split at hs <;> cases hs <;> rfl
  case bin op =>
    unfold rBin at hs
    split at hs
    · rename_i k a j b
      have hv : v.sub ρ = v := by
        rw [cond_eq_ite] at hs
        split at hs
        · unfold shI at hs
          rw [cond_eq_ite] at hs
          split at hs
          · cases hs
          · split at hs <;> cases hs <;> rfl
        · rw [cond_eq_ite] at hs
          split at hs
          · unfold binI at hs
            split at hs <;> first | (cases hs; done) | (cases hs; rfl) | (rw [cond_eq_ite] at hs; split at hs <;> cases hs; rfl)
          · cases hs
      rw [hv]
      exact hs
    · cases hs
  case sbin op =>
    unfold rSbin at hs
    split at hs
    · rename_i x y
      have hv : v.sub ρ = v := by
        unfold binS at hs
        split at hs <;> first | (cases hs; done) | (cases hs; rfl) | (rw [cond_eq_ite] at hs; split at hs <;> cases hs; rfl)
      rw [hv]
      exact hs
    · cases hs
  case eq ng k =>
    unfold rEq at hs
    split at hs
    · rename_i x y
      rw [Option.map_eq_some_iff] at hs
      obtain ⟨r, hr, rfl⟩ := hs
      simp only [List.map_cons, List.map_nil, rEq, eqV_sub ρ hr, Option.map_some, AV.sub]
    · cases hs
  case un op =>
    unfold rUn at hs
    split at hs
    · split at hs <;> cases hs; rfl
    · split at hs <;> cases hs; rfl
    · cases hs
  case cvtI k => unfold rCvtI at hs; split at hs <;> cases hs; rfl
  case cvtS => unfold rCvtS at hs; split at hs <;> cases hs; rfl
  case mkif t => unfold rMkif at hs; split at hs <;> cases hs; rfl
  case mkfn f n => cases hs; simp only [rMkfn, AV.sub, subs_map, List.map_take, List.map_drop]
  case slc => exact slcV_sub ρ hs
  case slcS => exact slcSV_sub ρ hs
  case fad off => unfold rFad at hs; split at hs <;> cases hs; rfl
  case fld off sz =>
    unfold rFld at hs
    split at hs
    · simp only [List.map_cons, List.map_nil, AV.sub, rFld, subs_map]; exact look_sub ρ hs
    · cases hs
  case iad size =>
    unfold rIad at hs
    split at hs
    · rw [cond_eq_ite] at hs
      split at hs
      · rename_i hb; cases hs; simp only [List.map_cons, List.map_nil, AV.sub, rIad, hb, cond_true]
      · cases hs
    · cases hs
  case iadA len size =>
    unfold rIadA at hs
    split at hs
    · rw [cond_eq_ite] at hs
      split at hs
      · rename_i hb; cases hs; simp only [List.map_cons, List.map_nil, AV.sub, rIadA, hb, cond_true]
      · cases hs
    · cases hs
  case ixA len size ag =>
    unfold rIxA at hs
    split at hs
    · rw [cond_eq_ite] at hs
      split at hs
      · rename_i hb
        simp only [List.map_cons, List.map_nil, AV.sub, rIxA, hb, cond_true, subs_map]
        exact look_sub ρ hs
      · cases hs
    · cases hs
  case ixS =>
    unfold rIxS at hs
    split at hs
    · rw [Option.map_eq_some_iff] at hs
      obtain ⟨c, hc', rfl⟩ := hs
      simp only [List.map_cons, List.map_nil, AV.sub, rIxS, hc', Option.map_some]
    · cases hs
  case ext k =>
    unfold rExt at hs
    split at hs
    · simp only [List.map_cons, List.map_nil, AV.sub, rExt, subs_map, List.getElem?_map, hs, Option.map_some]
    · cases hs
  case lenSl => unfold rLenSl at hs; split at hs <;> cases hs; rfl
  case lenS => unfold rLenS at hs; split at hs <;> cases hs; rfl
  case lenC n => unfold rLenC at hs; split at hs <;> cases hs; rfl
  case capSl => unfold rCapSl at hs; split at hs <;> cases hs; rfl
  case min =>
    unfold rMin at hs
    split at hs
    · exact minL_sub ρ _ hs
    · cases hs
  case max =>
    unfold rMax at hs
    split at hs
    · exact minL_sub ρ _ hs
    · cases hs
  case cvtB =>
    unfold rCvtB at hs
    split at hs
    · rename_i a n c e
      cases h0 : Nat.beq n 0 <;> rw [h0] at hs
      · simp only [cond_false] at hs
        split at hs
        · rename_i l hl
          split at hs
          · rename_i s hb
            cases hs
            simp only [List.map_cons, List.map_nil, AV.sub, rCvtB, h0, cond_false, rdCells_sub ρ hl, u8s_sub ρ hb]
          · cases hs
        · cases hs
      · simp only [cond_true] at hs
        cases hs
        simp only [List.map_cons, List.map_nil, AV.sub, rCvtB, h0, cond_true]
    · cases hs
  case ld sz =>
    unfold rLd at hs
    split at hs
    · exact rdAt_sub ρ hs
    · cases hs
  case lkup z ok =>
    have hz : z.sub ρ = z := AV.sub_clean ρ hc
    unfold rLkup at hs
    split at hs
    · cases hs
      cases ok <;> simp [rLkup, AV.sub, AV.subs, hz]
    · split at hs
      · rename_i es he
        simp only [List.map_cons, List.map_nil, AV.sub, rLkup, subH_get, he, Option.map_some, AB.sub]
        split at hs
        · rename_i u hu
          rw [mfind_sub ρ _ _ hu]
          cases hs
          cases ok <;> simp [AV.sub, AV.subs]
        · rename_i hu
          rw [mfind_sub ρ _ _ hu]
          cases hs
          cases ok <;> simp [AV.sub, AV.subs, hz]
        · cases hs
      · cases hs
    · cases hs
  case mlen =>
    unfold rMlen at hs
    split at hs
    · cases hs; rfl
    · split at hs
      · rename_i es he
        cases hs
        simp only [List.map_cons, List.map_nil, AV.sub, rMlen, subH_get, he, Option.map_some, AB.sub, List.length_map]
      · cases hs
    · cases hs

theorem semA_sub {o : AOp} (hc : o.clean = true) {nx : Nat} {vs : List AV} {blk : AB} {v : AV} (hs : semA o nx vs = some (blk, v)) : semA o nx (vs.map (AV.sub ρ)) = some (blk.sub ρ, v.sub ρ) := by
  cases o <;> simp only [semA] at hs ⊢ <;> try (cases hs; done)
  case alloc z =>
    unfold aAlloc at hs
    split at hs <;> cases hs
    simp only [List.map_nil, aAlloc, AB.sub, AV.sub, map_clean ρ hc]
  case box =>
    unfold aBox at hs
    split at hs
    · split at hs
      · rename_i l hl
        cases hs
        simp only [List.map_cons, List.map_nil, aBox, cellsOf_sub ρ hl, AB.sub, AV.sub]
      · cases hs
    · cases hs
  case bslice z len size ps =>
    unfold aBslice at hs
    split at hs
    · rename_i c hf
      have h1 := fillP_sub ρ hf
      rw [reps_sub, map_clean ρ hc] at h1
      rw [cond_eq_ite] at hs
      split at hs
      · rename_i hb
        cases hs
        simp only [aBslice, h1, all_one, hb, cond_true, AB.sub, AV.sub]
      · cases hs
    · cases hs
  case mksl z n =>
    unfold aMksl at hs
    split at hs
    · rw [cond_eq_ite] at hs
      split at hs
      · rename_i hb
        cases hs
        simp only [List.map_cons, List.map_nil, AV.sub, aMksl, hb, cond_true, AB.sub, reps_sub, map_clean ρ hc]
      · cases hs
    · cases hs
  case mkmap => cases hs; rfl

theorem gone_sub {h h' : PM AB} {a : Option (Nat × Nat)} {ex size : Nat} (hs : gone h a ex size = some h') : gone (subH ρ h) a ex size = some (subH ρ h') := by
  unfold gone at hs ⊢
  rw [cond_eq_ite] at hs ⊢
  split at hs
  · rename_i hb; cases hs; rw [if_pos hb]
  · rename_i hb
    rw [if_neg hb]
    rw [cond_eq_ite] at hs ⊢
    split at hs
    · rename_i hb2
      rw [if_pos hb2]
      split at hs
      · simp only [live_sub]
        rw [cond_eq_ite] at hs ⊢
        split at hs
        · rename_i hb3; cases hs; rw [if_pos hb3, subH_set]; rfl
        · cases hs
      · cases hs
    · cases hs
theorem appV_sub {size bytes : Nat} {S S' : St} {a : Option (Nat × Nat)} {len cap ex n : Nat} {new : List AV} {v : AV} (hs : appV size bytes S a len cap ex n new = some (v, S')) :
    appV size bytes (S.sub ρ) a len cap ex n (new.map (AV.sub ρ)) = some (v.sub ρ, S'.sub ρ) := by
  unfold appV at hs ⊢
  rw [cond_eq_ite] at hs ⊢
  split at hs
  · rename_i hb
    rw [if_pos hb]
    split at hs
    · cases hs; rfl
    · rename_i r o
      rw [cond_eq_ite] at hs ⊢
      split at hs
      · rename_i hb2; rw [if_pos hb2]; cases hs; rfl
      · rename_i hb2
        rw [if_neg hb2]
        split at hs
        · rename_i h' hw
          cases hs
          simp only [St.sub, wrCells_sub ρ hw, AV.sub]
        · cases hs
  · rename_i hb
    rw [if_neg hb]
    rw [cond_eq_ite] at hs ⊢
    split at hs
    · rename_i hb2
      rw [if_pos hb2]
      split at hs
      · rename_i old h1 ho hg
        cases hs
        simp only [St.sub, rdCells_sub ρ ho, gone_sub ρ hg, AV.sub, subH_set, Option.map_some, AB.sub, List.map_append]
      · cases hs
    · cases hs
theorem semE_put {o : AOp} (hc : o.clean = true) (hn : o.isCall = false) {S S' : St} {vs : List AV} {v : AV} (hs : semE o noCall S vs = some (v, S')) (call : Cll) : semE o call (S.sub ρ) (vs.map (AV.sub ρ)) = some (v.sub ρ, S'.sub ρ) := by
  cases o <;> simp only [semE] at hs ⊢ <;> try (cases hs; done)
  case st sz =>
    unfold eSt at hs
    split at hs
    · split at hs
      · rename_i l hl
        rw [cond_eq_ite] at hs
        split at hs
        · rename_i hb
          split at hs
          · rename_i h' hw
            cases hs
            simp only [List.map_cons, List.map_nil, AV.sub, eSt, cellsOf_sub ρ hl, List.length_map, hb, cond_true, St.sub, wrCells_sub ρ hw]
          · cases hs
        · cases hs
      · cases hs
    · cases hs
  case mset =>
    unfold eMset at hs
    split at hs
    · split at hs
      · rename_i es he
        split at hs
        · rename_i es' hm
          cases hs
          simp only [List.map_cons, List.map_nil, AV.sub, eMset, St.sub, subH_get, he, Option.map_some, AB.sub, msetL_sub ρ _ _ _ hm, subH_set]
        · cases hs
      · cases hs
    · cases hs
  case mdel =>
    unfold eMdel at hs
    split at hs
    · cases hs; rfl
    · split at hs
      · rename_i es he
        split at hs
        · rename_i es' hm
          cases hs
          simp only [List.map_cons, List.map_nil, AV.sub, eMdel, St.sub, subH_get, he, Option.map_some, AB.sub, mdelL_sub ρ _ _ hm, subH_set]
        · cases hs
      · cases hs
    · cases hs
  case app size bytes =>
    unfold eApp at hs
    split at hs
    · split at hs
      · rename_i new hr
        rw [cond_eq_ite] at hs
        split at hs
        · rename_i hb
          have h1 := appV_sub ρ hs
          simp only [List.map_cons, List.map_nil, AV.sub, eApp]
          rw [show (S.sub ρ).h = subH ρ S.h from rfl, rdCells_sub ρ hr]
          simp only [all_one, hb, cond_true]
          exact h1
        · cases hs
      · cases hs
    · cases hs
  case clr z =>
    unfold eClr at hs
    split at hs
    · rename_i a n c e
      simp only [List.map_cons, List.map_nil, AV.sub, eClr]
      rw [cond_eq_ite] at hs ⊢
      split at hs
      · rename_i hb; rw [if_pos hb]; cases hs; rfl
      · rename_i hb
        rw [if_neg hb]
        split at hs
        · split at hs
          · rename_i h' hw
            cases hs
            have h1 := wrCells_sub ρ hw
            rw [reps_sub, map_clean ρ hc] at h1
            simp only [St.sub, h1, AV.sub]
          · cases hs
        · cases hs
    · cases hs
  case cpy size =>
    unfold eCpy at hs
    split at hs
    · rename_i a dl dc de b sl sc se
      simp only [List.map_cons, List.map_nil, AV.sub, eCpy]
      split at hs
      · rename_i us hr
        rw [show (S.sub ρ).h = subH ρ S.h from rfl, rdCells_sub ρ hr]
        simp only
        rw [cond_eq_ite] at hs ⊢
        split at hs
        · rename_i hb; rw [if_pos hb]; cases hs; rfl
        · rename_i hb
          rw [if_neg hb]
          split at hs
          · split at hs
            · rename_i h' hw
              cases hs
              simp only [St.sub, wrCells_sub ρ hw, AV.sub]
            · cases hs
          · cases hs
      · cases hs
    · cases hs
  case callv => cases hn
end
end Go.AM
