/- The open machine is right: numbers; then code and calls. -/
import Derived.Test.YtjmnmaaipcbmnaaGreatAmV
set_option linter.unusedVariables false
set_option linter.unusedSimpArgs false
namespace Go.AM

/-! ### numbers -/
theorem wr_mod (k : IntKind) (n : Int) : klo k ≤ wr k n ∧ wr k n ≤ khi k := by
  rw [wr_eq]
  cases k <;> simp only [IntKind.wrap, IntKind.signed, IntKind.bits, klo, khi] <;> (try simp) <;> omega
theorem wr_fit {k : IntKind} {n : Int} (h1 : klo k ≤ n) (h2 : n ≤ khi k) : wr k n = n := by
  rw [wr_eq]
  cases k <;> simp only [IntKind.wrap, IntKind.signed, IntKind.bits, klo, khi] at * <;> (try simp) <;> omega
section
variable {ρ : Nat → Int}
theorem toLn_sub {v : AV} {k : IntKind} {e : Ln} (h : toLn v = some (k, e)) : v.sub ρ = .i k (e.ev ρ) := by
  unfold toLn at h
  split at h <;> cases h <;> simp only [AV.sub, Ln.ev]
theorem mkI_sub (k : IntKind) (e : Ln) : (mkI k e).sub ρ = .i k (e.ev ρ) := by
  cases e <;> simp only [mkI, AV.sub, Ln.ev]
theorem fitK_sound {k : IntKind} {L : Log} {e : Ln} (hL : Holds ρ L) (h : fitK k L e = true) : klo k ≤ e.ev ρ ∧ e.ev ρ ≤ khi k := by
  unfold fitK at h
  rw [Bool.and_eq_true] at h
  have h1 := sure_sound hL h.1
  have h2 := sure_sound hL h.2
  rw [Ln.ev_addc] at h1 h2
  rw [Ln.ev_neg] at h2
  omega
theorem wrX_sound (k : IntKind) (e : Ln) {L : Log} (hL : Holds ρ L) : Holds ρ (wrX k e L).2 ∧ (wrX k e L).1.sub ρ = .i k (wr k (e.ev ρ)) := by
  unfold wrX
  split
  · exact ⟨hL, by simp only [AV.sub, Ln.ev]⟩
  · cases hf : fitK k L e
    · simp only [cond_false]
      have := wr_mod k (e.ev ρ)
      refine ⟨Holds.cons ?_ (Holds.cons ?_ hL), ?_⟩
      · simp only [Ln.ev, At.ev]; omega
      · simp only [Ln.ev, At.ev]; omega
      · simp only [AV.sub, Ln.ev, At.ev, Int.one_mul, Int.add_zero]
    · simp only [cond_true]
      have := fitK_sound hL hf
      exact ⟨hL, by rw [mkI_sub, wr_fit this.1 this.2]⟩
theorem opX_sub (o : BinOp) (k : IntKind) (a b : Ln) : (opX o k a b).sub ρ = .i k (opI o k (a.ev ρ) (b.ev ρ)) := by
  simp only [opX, AV.sub, Ln.ev, At.ev, Int.one_mul, Int.add_zero]
theorem bs_mem {l : List (Bool × Log)} {b : Bool} {L : Log} (ng : Bool) (h : (b, L) ∈ l) : (AV.b (b != ng), L) ∈ bs l ng := List.mem_map.2 ⟨(b, L), h, rfl⟩
/-- one of the ways is what the closed one says -/
def OneOf (ρ : Nat → Int) (rs : List (AV × Log)) (v : Option AV) : Prop := ∃ u L', (u, L') ∈ rs ∧ Holds ρ L' ∧ v = some (u.sub ρ)
theorem OneOf.one {u : AV} {L : Log} {v : Option AV} (hL : Holds ρ L) (h : v = some (u.sub ρ)) : OneOf ρ [(u, L)] v := ⟨u, L, List.mem_singleton.2 rfl, hL, h⟩
theorem OneOf.wr {k : IntKind} {e : Ln} {L : Log} {v : Option AV} (hL : Holds ρ L) (h : v = some (.i k (wr k (e.ev ρ)))) : OneOf ρ [wrX k e L] v := by
  refine ⟨(wrX k e L).1, (wrX k e L).2, List.mem_singleton.2 rfl, (wrX_sound k e hL).1, ?_⟩
  rw [(wrX_sound k e hL).2]
  exact h

theorem opI_bin {o : BinOp} {k : IntKind} {x y : Int} (hs : isSh o = false) {n : Int} (h : binI o k x y = some (.i k n)) : opI o k x y = n := by
  simp only [opI, hs, cond_false, h]
theorem xBin_sound {o : BinOp} {k : IntKind} {a b : Ln} {L : Log} {rs : List (AV × Log)} (hL : Holds ρ L) (h : xBin o k a b L = some rs) : OneOf ρ rs (binI o k (a.ev ρ) (b.ev ρ)) := by
  unfold xBin at h
  split at h
  · cases h; exact OneOf.wr hL (by rw [Ln.ev_add]; rfl)
  · cases h; exact OneOf.wr hL (by rw [Ln.ev_sub]; rfl)
  · split at h
    · cases h; exact OneOf.wr hL (by rw [Ln.ev_scale]; simp only [Ln.ev]; rfl)
    · cases h; exact OneOf.wr hL (by rw [Ln.ev_scale]; simp only [Ln.ev]; rw [Int.mul_comm]; rfl)
    · cases h; exact OneOf.one hL (by rw [opX_sub]; rfl)
  · -- quo
    split at h
    · rename_i n
      have hne : iEq (.ofNat (.succ n)) 0 = false := rfl
      have hb : binI .quo k (a.ev ρ) (Ln.ev ρ (.c (.ofNat (.succ n)))) = some (.i k (wr k ((a.ev ρ).tdiv (.ofNat (.succ n))))) := by
        simp only [binI, Ln.ev]
        rw [hne, cond_false]
      have hop := opI_bin (o := .quo) rfl hb
      cases hc : (sure L a && sure L (a.neg.addc (khi k)))
      · rw [hc] at h
        cases h
        refine OneOf.one hL ?_
        rw [hb, opX_sub, hop]
      · rw [hc] at h
        cases h
        rw [Bool.and_eq_true] at hc
        have h1 := sure_sound hL hc.1
        have h2 := sure_sound hL hc.2
        rw [Ln.ev_addc, Ln.ev_neg] at h2
        have hpos : (0 : Int) < .ofNat (.succ n) := Int.ofNat_lt.2 (Nat.succ_pos n)
        have hq0 : 0 ≤ (a.ev ρ).tdiv (.ofNat (.succ n)) := Int.tdiv_nonneg h1 (Int.le_of_lt hpos)
        have hqle : (a.ev ρ).tdiv (.ofNat (.succ n)) ≤ a.ev ρ := Int.tdiv_le_self _ h1
        have hwr : wr k ((a.ev ρ).tdiv (.ofNat (.succ n))) = (a.ev ρ).tdiv (.ofNat (.succ n)) := wr_fit (by have : klo k ≤ 0 := (by cases k <;> decide); omega) (by omega)
        have hdm := Int.mul_tdiv_add_tmod (a.ev ρ) (.ofNat (.succ n))
        have hm0 := Int.tmod_nonneg (.ofNat (.succ n)) h1
        have hm1 := Int.tmod_lt_of_pos (a.ev ρ) hpos
        have hev : At.ev ρ (.op .quo k a (.c (.ofNat (.succ n)))) = (a.ev ρ).tdiv (.ofNat (.succ n)) := by rw [At.ev, hop, hwr]
        have hs : (Int.ofNat (.succ n)) = (Int.ofNat n) + 1 := rfl
        generalize (a.ev ρ).tdiv (.ofNat (.succ n)) = Q at *
        generalize hM : (Int.ofNat (.succ n)) * Q = M at *
        refine ⟨_, _, List.mem_singleton.2 rfl, Holds.cons ?_ (Holds.cons ?_ (Holds.cons ?_ hL)), ?_⟩
        · simp only [Ln.ev]; rw [hev]; omega
        · rw [Ln.ev_ins, hev, Int.neg_mul, hM]; omega
        · rw [Ln.ev_ins, hev, hM, Ln.ev_addc, Ln.ev_neg]; omega
        · rw [hb, opX_sub, hop]
    · cases h
  · -- rem
    split at h
    · rename_i n
      have hne : iEq (.ofNat (.succ n)) 0 = false := rfl
      have hb : binI .rem k (a.ev ρ) (Ln.ev ρ (.c (.ofNat (.succ n)))) = some (.i k ((a.ev ρ).tmod (.ofNat (.succ n)))) := by
        simp only [binI, Ln.ev]
        rw [hne, cond_false]
      have hop := opI_bin (o := .rem) rfl hb
      have hpos : (0 : Int) < .ofNat (.succ n) := Int.ofNat_lt.2 (Nat.succ_pos n)
      have hev : At.ev ρ (.op .rem k a (.c (.ofNat (.succ n)))) = (a.ev ρ).tmod (.ofNat (.succ n)) := by rw [At.ev, hop]
      have hs : (Int.ofNat (.succ n)) = (Int.ofNat n) + 1 := rfl
      have hm1 := Int.tmod_lt_of_pos (a.ev ρ) hpos
      have hm2 := Int.tmod_lt_of_pos (-a.ev ρ) hpos
      rw [Int.neg_tmod] at hm2
      cases hc : sure L a
      · rw [hc] at h
        cases h
        refine ⟨_, _, List.mem_singleton.2 rfl, Holds.cons ?_ (Holds.cons ?_ hL), ?_⟩
        · simp only [Ln.ev]; rw [hev]; omega
        · simp only [Ln.ev]; rw [hev]; omega
        · rw [hb, opX_sub, hop]
      · rw [hc] at h
        cases h
        have hm0 := Int.tmod_nonneg (.ofNat (.succ n)) (sure_sound hL hc)
        refine ⟨_, _, List.mem_singleton.2 rfl, Holds.cons ?_ (Holds.cons ?_ hL), ?_⟩
        · simp only [Ln.ev]; rw [hev]; omega
        · simp only [Ln.ev]; rw [hev]; omega
        · rw [hb, opX_sub, hop]
    · cases h
  · cases h; exact OneOf.one hL (by rw [opX_sub]; rfl)
  · cases h; exact OneOf.one hL (by rw [opX_sub]; rfl)
  · cases h; exact OneOf.one hL (by rw [opX_sub]; rfl)
  · cases h; exact OneOf.one hL (by rw [opX_sub]; rfl)
  · cases h
    obtain ⟨L', h1, h2⟩ := dEq_sound (a := a) (b := b) hL
    exact ⟨_, L', bs_mem false h1, h2, by simp only [binI, iEq_eq, AV.sub, Bool.bne_false]⟩
  · cases h
    obtain ⟨L', h1, h2⟩ := dEq_sound (a := a) (b := b) hL
    exact ⟨_, L', bs_mem true h1, h2, by simp only [binI, iEq_eq, AV.sub, Bool.bne_true]⟩
  · cases h
    obtain ⟨L', h1, h2⟩ := dLt_sound (a := a) (b := b) hL
    exact ⟨_, L', bs_mem false h1, h2, by simp only [binI, iLt_eq, AV.sub, Bool.bne_false]⟩
  · cases h
    obtain ⟨L', h1, h2⟩ := dLt_sound (a := b) (b := a) hL
    exact ⟨_, L', bs_mem true h1, h2, by simp only [binI, iLt_eq, AV.sub, Bool.bne_true]⟩
  · cases h
    obtain ⟨L', h1, h2⟩ := dLt_sound (a := b) (b := a) hL
    exact ⟨_, L', bs_mem false h1, h2, by simp only [binI, iLt_eq, AV.sub, Bool.bne_false]⟩
  · cases h
    obtain ⟨L', h1, h2⟩ := dLt_sound (a := a) (b := b) hL
    exact ⟨_, L', bs_mem true h1, h2, by simp only [binI, iLt_eq, AV.sub, Bool.bne_true]⟩
  · cases h
  · cases h
theorem xShift_sound {o : BinOp} (ho : isSh o = true) {k : IntKind} {a b : Ln} {L : Log} {rs : List (AV × Log)} (hL : Holds ρ L) (h : xShift o k a b L = some rs) : OneOf ρ rs (shI o k (a.ev ρ) (b.ev ρ)) := by
  unfold xShift at h
  split at h
  · rename_i n
    have hn : iLt (Ln.ev ρ (.c (.ofNat n))) 0 = false := by
      simp only [Ln.ev]; rfl
    split at h
    · cases h
      refine OneOf.one hL ?_
      rw [opX_sub]
      simp only [opI, isSh, cond_true, shI, hn, cond_false]
    · cases h
      refine OneOf.one hL ?_
      rw [opX_sub]
      simp only [opI, isSh, cond_true, shI, hn, cond_false]
    · cases h
  · cases h

theorem catO_mem {α β : Type} {f : α → Option (List β)} : ∀ {l : List α} {r : List β}, catO f l = some r → ∀ a ∈ l, ∃ x, f a = some x ∧ ∀ b ∈ x, b ∈ r
  | [], r, h, a, ha => by cases ha
  | c :: l, r, h, a, ha => by
    simp only [catO] at h
    split at h
    · rename_i x hx
      split at h
      · rename_i y hy
        cases h
        rcases List.mem_cons.1 ha with rfl | ha
        · exact ⟨x, hx, fun b hb => List.mem_append_left _ hb⟩
        · obtain ⟨z, hz, hzr⟩ := catO_mem hy a ha
          exact ⟨z, hz, fun b hb => List.mem_append_right _ (hzr b hb)⟩
      · cases h
    · cases h

theorem xMin_sound (mn : Bool) (k : IntKind) : ∀ {vs : List AV} {x : Ln} {L : Log} {rs : List (AV × Log)}, Holds ρ L → xMin mn k vs x L = some rs →
    OneOf ρ rs (minL (bif mn then fun y x => iLt y x else fun y x => iLt x y) (x.ev ρ) (vs.map (AV.sub ρ)) k)
  | [], x, L, rs, hL, h => by cases h; exact OneOf.one hL (by rw [mkI_sub]; rfl)
  | y :: vs, x, L, rs, hL, h => by
    simp only [xMin] at h
    split at h
    · rename_i j y' hy
      rw [cond_eq_ite] at h
      split at h
      · rename_i hj
        have hstep : ∃ b L', (b, L') ∈ (bif mn then dLt y' x L else dLt x y' L) ∧ Holds ρ L' ∧ b = (bif mn then iLt (y'.ev ρ) (x.ev ρ) else iLt (x.ev ρ) (y'.ev ρ)) := by
          cases mn
          · obtain ⟨L', h1, h2⟩ := dLt_sound (a := x) (b := y') hL
            exact ⟨_, L', h1, h2, by rw [cond_false, iLt_eq]⟩
          · obtain ⟨L', h1, h2⟩ := dLt_sound (a := y') (b := x) hL
            exact ⟨_, L', h1, h2, by rw [cond_true, iLt_eq]⟩
        obtain ⟨b, L', h1, h2, h3⟩ := hstep
        obtain ⟨z, hz, hzr⟩ := catO_mem h _ h1
        obtain ⟨u, L2, h4, h5, h6⟩ := xMin_sound mn k h2 hz
        refine ⟨u, L2, hzr _ h4, h5, ?_⟩
        simp only [List.map_cons, toLn_sub hy, minL, hj, cond_true]
        rw [← h6]
        congr 1
        rw [h3]
        cases mn
        · simp only [cond_false]; cases iLt (x.ev ρ) (y'.ev ρ) <;> rfl
        · simp only [cond_true]; cases iLt (y'.ev ρ) (x.ev ρ) <;> rfl
      · cases h
    · cases h

theorem xEqAt_sound {xs ys : List AV} : ∀ {fs : List (Nat × Nat)} {L : Log} {rs : List (Bool × Log)}, Holds ρ L → xEqAt xs ys fs L = some rs →
    ∃ b L', (b, L') ∈ rs ∧ Holds ρ L' ∧ eqAt (xs.map (AV.sub ρ)) (ys.map (AV.sub ρ)) fs = some b
  | [], L, rs, hL, h => by cases h; exact ⟨true, L, List.mem_singleton.2 rfl, hL, rfl⟩
  | (f, g) :: fs, L, rs, hL, h => by
    simp only [xEqAt] at h
    simp only [eqAt, List.getElem?_map]
    split at h
    · rename_i x y hx hy
      rw [hx, hy]
      simp only [Option.map_some]
      split at h
      · rename_i e; rw [eqOne_sub ρ e]; exact xEqAt_sound hL h
      · rename_i e; rw [eqOne_sub ρ e]; cases h; exact ⟨false, L, List.mem_singleton.2 rfl, hL, rfl⟩
      · rw [cond_eq_ite] at h
        split at h
        · rename_i hg
          rw [beq_nat, decide_eq_true_eq] at hg
          subst hg
          split at h
          · rename_i j a k b ha hb
            rw [cond_eq_ite] at h
            split at h
            · rename_i hj
              obtain ⟨L', h1, h2⟩ := dEq_sound (a := a) (b := b) hL
              obtain ⟨z, hz, hzr⟩ := catO_mem h _ h1
              have he : eqOne 1 (x.sub ρ) (y.sub ρ) = some (a.ev ρ == b.ev ρ) := by
                rw [toLn_sub ha, toLn_sub hb]
                simp only [eqOne, hj, cond_true, iEq_eq]
              rw [he]
              cases hab : (a.ev ρ == b.ev ρ)
              · simp only [hab, cond_false] at hz
                cases hz
                exact ⟨false, L', hzr _ (List.mem_singleton.2 rfl), h2, rfl⟩
              · simp only [hab, cond_true] at hz
                obtain ⟨u, L2, h4, h5, h6⟩ := xEqAt_sound h2 hz
                exact ⟨u, L2, hzr _ h4, h5, h6⟩
            · cases h
          · cases h
        · cases h
    · cases h

theorem xR_sound {o : AOp} (hc : o.clean = true) {h : PM AB} {vs : List AV} {L : Log} {rs : List (AV × Log)} (hL : Holds ρ L) (hx : xR o h vs L = some rs) : OneOf ρ rs (semR o (subH ρ h) (vs.map (AV.sub ρ))) := by
  unfold xR at hx
  split at hx
  · rename_i v hv
    cases hx
    exact OneOf.one hL (semR_sub ρ hc hv)
  · split at hx
    · rename_i op _
      split at hx
      · rename_i p q
        split at hx
        · rename_i k a j b hp hq
          simp only [List.map_cons, List.map_nil, semR, toLn_sub hp, toLn_sub hq, rBin]
          cases hs : isSh op
          · rw [hs] at hx
            simp only [cond_false] at hx ⊢
            rw [cond_eq_ite] at hx ⊢
            split at hx
            · rename_i hk
              rw [if_pos hk]
              exact xBin_sound hL hx
            · cases hx
          · rw [hs] at hx
            exact xShift_sound hs hL hx
        · cases hx
      · cases hx
    · split at hx
      · rename_i k e
        cases hx
        refine OneOf.wr hL ?_
        rw [Ln.ev_sub]
        simp only [List.map_cons, List.map_nil, semR, AV.sub, rUn, Ln.ev]
      · cases hx
    · split at hx
      · cases hx
        refine OneOf.wr hL ?_
        simp only [List.map_cons, List.map_nil, semR, AV.sub, rCvtI]
      · cases hx
    · split at hx
      · split at hx
        · rename_i hp
          have := xMin_sound true _ hL hx
          simp only [List.map_cons, semR, rMin, toLn_sub hp]
          exact this
        · cases hx
      · cases hx
    · split at hx
      · split at hx
        · rename_i hp
          have := xMin_sound false _ hL hx
          simp only [List.map_cons, semR, rMax, toLn_sub hp]
          exact this
        · cases hx
      · cases hx
    · rename_i ng fs _
      split at hx
      · rename_i xs ys
        rw [Option.map_eq_some_iff] at hx
        obtain ⟨l, hl, rfl⟩ := hx
        obtain ⟨b, L', h1, h2, h3⟩ := xEqAt_sound hL hl
        refine ⟨_, L', bs_mem ng h1, h2, ?_⟩
        simp only [List.map_cons, List.map_nil, semR, AV.sub, rEq, eqV, subs_map, h3, Option.map_some]
      · cases hx
    · cases hx
end

/-! ### steps, regions -/
def Tm.sub (ρ : Nat → Int) (T : Tm) : Tm := { l := T.l.map fun p => (p.1, p.2.sub ρ), r := T.r.map fun p => (p.1, p.2.sub ρ) }
def Opd.clean : Opd → Bool
  | .c v => v.clean
  | _ => true
def Op1.clean (o : Op1) : Bool := o.op.clean && o.args.all Opd.clean && (match o.gd with | some g => g.1.clean | none => true)
def ACode.clean : ACode → Bool
  | .reg l => l.all Op1.clean
  | .regD l _ => l.all Op1.clean
  | .seq a b => a.clean && b.clean
  | .cond c a b => c.clean && a.clean && b.clean
  | .block _ c => c.clean
  | .loop c => c.clean
  | _ => true
def ResV.clean : ResV → Bool
  | .tmp t => t.clean
  | .cell t _ => t.clean
def AFn.clean (f : AFn) : Bool := f.body.clean && f.res.all ResV.clean
section
variable (ρ : Nat → Int)
theorem aget_sub (n : Nat) : ∀ l : List (Nat × AV), aget (l.map fun p => (p.1, p.2.sub ρ)) n = (aget l n).sub ρ
  | [] => rfl
  | (k, v) :: l => by
    simp only [List.map_cons, aget_cons]
    cases Nat.beq k n
    · simp only [cond_false]; exact aget_sub n l
    · rfl
theorem aput_sub (n : Nat) (v : AV) : ∀ l : List (Nat × AV), (aput n v l).map (fun p => (p.1, p.2.sub ρ)) = aput n (v.sub ρ) (l.map fun p => (p.1, p.2.sub ρ))
  | [] => rfl
  | (k, u) :: l => by
    simp only [List.map_cons, aput_cons]
    cases Nat.beq k n
    · simp only [cond_false, List.map_cons, aput_sub n v l]
    · rfl
theorem ev_sub {T : Tm} {x : Opd} (hc : x.clean = true) : x.ev (T.sub ρ) = (x.ev T).sub ρ := by
  cases x with
  | l n => exact aget_sub ρ n T.l
  | t n => exact aget_sub ρ n T.r
  | c v => exact (AV.sub_clean ρ hc).symm
theorem evs_sub {T : Tm} : ∀ {l : List Opd}, l.all Opd.clean = true → evs (T.sub ρ) l = (evs T l).map (AV.sub ρ)
  | [], _ => rfl
  | x :: l, h => by
    simp only [List.all_cons, Bool.and_eq_true] at h
    simp only [evs_cons, List.map_cons, ev_sub ρ h.1, evs_sub h.2]
theorem put_sub (T : Tm) (v : AV) (d : Dst) : (T.put v d).sub ρ = (T.sub ρ).put (v.sub ρ) d := by
  cases d with
  | no => rfl
  | l n => simp only [Tm.put, Tm.sub, aput_sub]
  | t n => rfl
theorem wants_sub {T : Tm} {g : Option (Opd × Bool)} (hc : (match g with | some g => g.1.clean | none => true) = true) {r : Bool} (h : wants T g = some r) : wants (T.sub ρ) g = some r := by
  cases g with
  | none => exact h
  | some g =>
    obtain ⟨t, w⟩ := g
    simp only [wants] at h ⊢
    rw [ev_sub ρ hc]
    generalize t.ev T = x at h
    cases x <;> first | (cases h; done) | exact h
theorem same1_sub {x y : AV} (h : same1 x y = true) : same1 (x.sub ρ) (y.sub ρ) = true := by
  unfold same1 at h
  split at h <;> first | (cases h; done) | exact h | skip
  rw [Bool.and_eq_true] at h
  simp only [AV.sub, same1]
  rw [h.1, Ln.beq_eq h.2, iEq_eq]
  simp
theorem sameL_sub : ∀ {x y : List AV}, sameL x y = true → sameL (x.map (AV.sub ρ)) (y.map (AV.sub ρ)) = true
  | [], [], _ => rfl
  | a :: r, b :: q, h => by
    simp only [sameL, Bool.and_eq_true] at h
    simp only [List.map_cons, sameL, same1_sub ρ h.1, sameL_sub h.2, Bool.and_self]
  | [], _ :: _, h => by cases h
  | _ :: _, [], h => by cases h
theorem sameV_sub {x y : AV} (h : sameV x y = true) : sameV (x.sub ρ) (y.sub ρ) = true := by
  unfold sameV at h
  split at h
  · simp only [AV.sub, sameV, subs_map]
    exact sameL_sub ρ h
  · have h1 := same1_sub ρ h
    cases x <;> cases y <;> first | exact h1 | (cases h; done) | (simp only [AV.sub, sameV] at h1 ⊢; exact h1)
theorem again_sub {ops : List Op1} (hc : ops.all Op1.clean = true) {tr : List (Tm × St)} {c : Nat × Nat} (h : again ops tr c = true) : again ops (tr.map fun p => (p.1.sub ρ, p.2.sub ρ)) c = true := by
  unfold again at h ⊢
  rw [List.getElem?_map, List.getElem?_map]
  split at h
  · rename_i o T S T' S' ho h1 h2
    rw [ho, h1, h2]
    simp only [Option.map_some]
    have hoc : o.clean = true := List.all_eq_true.1 hc o (List.mem_of_getElem? ho)
    unfold Op1.clean at hoc
    simp only [Bool.and_eq_true] at hoc
    split at h
    · rename_i hw
      rw [wants_sub ρ hoc.2 hw]
      simp only
      split at h
      · rename_i v v' e1 e2
        have g1 := semR_sub ρ hoc.1.1 e1
        have g2 := semR_sub ρ hoc.1.1 e2
        rw [evs_sub ρ hoc.1.2]
        rw [show (S.sub ρ).h = subH ρ S.h from rfl, show (S'.sub ρ).h = subH ρ S'.h from rfl, g1, g2]
        simp only
        exact sameV_sub ρ h
      · cases h
    · rename_i hw
      rw [wants_sub ρ hoc.2 hw]
    · cases h
  · cases h

/-- calls -/
def SimC (call : Cll) (xc : XCll) : Prop := ∀ f vs S L rs, xc f vs S L = some rs → Holds ρ L → ∃ v S' L', (v, S', L') ∈ rs ∧ Holds ρ L' ∧ call f (vs.map (AV.sub ρ)) (S.sub ρ) = some (v.sub ρ, S'.sub ρ)
def SimE (E : Ec) (xe : XEc) : Prop := ∀ c T S L rs, c.clean = true → xe c T S L = some rs → Holds ρ L → ∃ x T' S' L', (x, T', S', L') ∈ rs ∧ Holds ρ L' ∧ E c (T.sub ρ) (S.sub ρ) = some (x, T'.sub ρ, S'.sub ρ)

variable {ρ}
theorem xOp0_sound {call : Cll} {xc : XCll} (hc : SimC ρ call xc) {o : AOp} (hcl : o.clean = true) {S : St} {vs : List AV} {L : Log} {rs : List (AV × St × Log)} (h : xOp0 xc o S vs L = some rs) (hL : Holds ρ L) :
    ∃ v S' L', (v, S', L') ∈ rs ∧ Holds ρ L' ∧ semOp o call (S.sub ρ) (vs.map (AV.sub ρ)) = some (v.sub ρ, S'.sub ρ) := by
  unfold xOp0 at h
  cases hk : o.cl <;> simp only [hk] at h
  · rw [Option.map_eq_some_iff] at h
    obtain ⟨l, hl, rfl⟩ := h
    obtain ⟨u, L', h1, h2, h3⟩ := xR_sound hcl hL hl
    refine ⟨u, S, L', List.mem_map.2 ⟨(u, L'), h1, rfl⟩, h2, ?_⟩
    simp only [semOp, hk, opR]
    rw [show (S.sub ρ).h = subH ρ S.h from rfl, h3]
  · rw [Option.map_eq_some_iff] at h
    obtain ⟨⟨blk, u⟩, hl, rfl⟩ := h
    refine ⟨u, _, L, List.mem_singleton.2 rfl, hL, ?_⟩
    simp only [semOp, hk, opA]
    rw [show (S.sub ρ).nx = S.nx from rfl, semA_sub ρ hcl hl]
    simp only [St.sub, subH_set, Option.map_some]
  · simp only [semOp, hk]
    split at h
    · exact hc _ _ _ _ _ h hL
    · split at h
      · rename_i f fst cap us
        obtain ⟨v, S', L', h1, h2, h3⟩ := hc _ _ _ _ _ h hL
        refine ⟨v, S', L', h1, h2, ?_⟩
        simp only [List.map_cons, semE, AV.sub, eCallv, subs_map]
        simpa using h3
      · cases h
    · rename_i h1 h2
      rw [Option.map_eq_some_iff] at h
      obtain ⟨⟨u, S'⟩, hl, rfl⟩ := h
      have hn : o.isCall = false := by
        cases o <;> first | rfl | (exact absurd rfl (h1 _)) | exact absurd rfl h2
      exact ⟨u, S', L, List.mem_singleton.2 rfl, hL, semE_put ρ hcl hn hl call⟩
theorem spread_sound {k : IntKind} {e : Ln} {L : Log} (hL : Holds ρ L) : ∀ (n : Nat), 0 ≤ e.ev ρ → e.ev ρ < n → ∃ v L', (v, L') ∈ spread k e L n ∧ Holds ρ L' ∧ v.sub ρ = .i k (e.ev ρ)
  | 0, h1, h2 => by omega
  | n + 1, h1, h2 => by
    simp only [spread]
    by_cases hn : e.ev ρ < n
    · obtain ⟨v, L', h3, h4, h5⟩ := spread_sound hL n h1 hn
      exact ⟨v, L', List.mem_append_left _ h3, h4, h5⟩
    · have he : e.ev ρ = Int.ofNat n := by
        show e.ev ρ = (n : Int)
        omega
      have g1 : 0 ≤ (e.addc (- .ofNat n)).ev ρ := by rw [Ln.ev_addc, he]; omega
      have g2 : 0 ≤ (e.neg.addc (.ofNat n)).ev ρ := by rw [Ln.ev_addc, Ln.ev_neg, he]; omega
      have hab : absurdL L [e.addc (- .ofNat n), e.neg.addc (.ofNat n)] = false := by
        cases hb : absurdL L [e.addc (- .ofNat n), e.neg.addc (.ofNat n)]
        · rfl
        · refine absurd (fun l hl => ?_) (absurdL_sound hL hb)
          rcases List.mem_cons.1 hl with rfl | hl
          · exact g1
          · rw [List.mem_singleton] at hl; subst hl; exact g2
      rw [hab]
      exact ⟨_, _, List.mem_append_right _ (List.mem_singleton.2 rfl), Holds.cons g1 (Holds.cons g2 hL), by rw [he]; rfl⟩
theorem conc_sound : ∀ {vs : List AV} {L : Log} {l : List (List AV × Log)}, conc vs L = some l → Holds ρ L → ∃ us L', (us, L') ∈ l ∧ Holds ρ L' ∧ us.map (AV.sub ρ) = vs.map (AV.sub ρ)
  | [], L, l, h, hL => by cases h
  | v :: r, L, l, h, hL => by
    have gen : (conc r L).map (fun l => l.map fun p => (v :: p.1, p.2)) = some l → ∃ us L', (us, L') ∈ l ∧ Holds ρ L' ∧ us.map (AV.sub ρ) = (v :: r).map (AV.sub ρ) := by
      intro h
      rw [Option.map_eq_some_iff] at h
      obtain ⟨m, hm, rfl⟩ := h
      obtain ⟨us, L', h1, h2, h3⟩ := conc_sound hm hL
      exact ⟨v :: us, L', List.mem_map.2 ⟨(us, L'), h1, rfl⟩, h2, by simp only [List.map_cons, h3]⟩
    cases v with
    | x k e =>
      simp only [conc] at h
      rw [cond_eq_ite] at h
      split at h
      · rename_i hb
        rw [Bool.and_eq_true] at hb
        have h1 := sure_sound hL hb.1
        have h2 := sure_sound hL hb.2
        rw [Ln.ev_addc, Ln.ev_neg] at h2
        obtain ⟨u, L', h3, h4, h5⟩ := spread_sound (k := k) hL 48 h1 (by omega)
        generalize spread k e L 48 = sp at h h3
        cases h
        exact ⟨u :: r, L', List.mem_map.2 ⟨(u, L'), h3, rfl⟩, h4, by simp only [List.map_cons, h5, AV.sub]⟩
      · cases h
    | _ => exact gen h
theorem xOpN_sound {call : Cll} {xc : XCll} (hc : SimC ρ call xc) {o : AOp} (hcl : o.clean = true) {S : St} : ∀ {n : Nat} {vs : List AV} {L : Log} {rs : List (AV × St × Log)}, xOpN xc o S n vs L = some rs → Holds ρ L →
    ∃ v S' L', (v, S', L') ∈ rs ∧ Holds ρ L' ∧ semOp o call (S.sub ρ) (vs.map (AV.sub ρ)) = some (v.sub ρ, S'.sub ρ)
  | 0, vs, L, rs, h, hL => xOp0_sound hc hcl h hL
  | n + 1, vs, L, rs, h, hL => by
    simp only [xOpN] at h
    split at h
    · rename_i r hr
      cases h
      exact xOp0_sound hc hcl hr hL
    · split at h
      · rename_i l hl
        obtain ⟨us, L', h1, h2, h3⟩ := conc_sound hl hL
        obtain ⟨z, hz, hzr⟩ := catO_mem h _ h1
        obtain ⟨v, S', L2, h4, h5, h6⟩ := xOpN_sound hc hcl hz h2
        exact ⟨v, S', L2, hzr _ h4, h5, by rw [← h3]; exact h6⟩
      · cases h
theorem xOp_sound {call : Cll} {xc : XCll} (hc : SimC ρ call xc) {o : AOp} (hcl : o.clean = true) {S : St} {vs : List AV} {L : Log} {rs : List (AV × St × Log)} (h : xOp xc o S vs L = some rs) (hL : Holds ρ L) :
    ∃ v S' L', (v, S', L') ∈ rs ∧ Holds ρ L' ∧ semOp o call (S.sub ρ) (vs.map (AV.sub ρ)) = some (v.sub ρ, S'.sub ρ) := xOpN_sound hc hcl h hL
theorem xStep_sound {call : Cll} {xc : XCll} (hc : SimC ρ call xc) {o : Op1} (hcl : o.clean = true) {T : Tm} {S : St} {L : Log} {rs : List (Tm × St × Log)} (h : xStep xc o T S L = some rs) (hL : Holds ρ L) :
    ∃ T' S' L', (T', S', L') ∈ rs ∧ Holds ρ L' ∧ step1 call o (T.sub ρ) (S.sub ρ) = some (T'.sub ρ, S'.sub ρ) := by
  unfold Op1.clean at hcl
  simp only [Bool.and_eq_true] at hcl
  unfold xStep at h
  split at h
  · rename_i hw
    rw [Option.map_eq_some_iff] at h
    obtain ⟨l, hl, rfl⟩ := h
    obtain ⟨v, S', L', h1, h2, h3⟩ := xOp_sound hc hcl.1.1 hl hL
    refine ⟨_, S', L', List.mem_map.2 ⟨(v, S', L'), h1, rfl⟩, h2, ?_⟩
    simp only [step1, wants_sub ρ hcl.2 hw, evs_sub ρ hcl.1.2, h3, put_sub]
  · rename_i hw
    cases h
    refine ⟨_, S, L, List.mem_singleton.2 rfl, hL, ?_⟩
    simp only [step1, wants_sub ρ hcl.2 hw, put_sub, AV.sub, AV.subs]
  · cases h
theorem xRun_sound {call : Cll} {xc : XCll} (hc : SimC ρ call xc) : ∀ {ops : List Op1}, ops.all Op1.clean = true → ∀ {T : Tm} {S : St} {L : Log} {rs : List (Tm × St × Log)}, xRun xc ops T S L = some rs → Holds ρ L →
    ∃ T' S' L', (T', S', L') ∈ rs ∧ Holds ρ L' ∧ runOps call ops (T.sub ρ) (S.sub ρ) = some (T'.sub ρ, S'.sub ρ)
  | [], _, T, S, L, rs, h, hL => by cases h; exact ⟨T, S, L, List.mem_singleton.2 rfl, hL, rfl⟩
  | o :: r, hcl, T, S, L, rs, h, hL => by
    simp only [List.all_cons, Bool.and_eq_true] at hcl
    rw [xRun_cons] at h
    split at h
    · rename_i l hl
      obtain ⟨T1, S1, L1, h1, h2, h3⟩ := xStep_sound hc hcl.1 hl hL
      obtain ⟨z, hz, hzr⟩ := catO_mem h _ h1
      obtain ⟨T2, S2, L2, h4, h5, h6⟩ := xRun_sound hc hcl.2 hz h2
      exact ⟨T2, S2, L2, hzr _ h4, h5, by simp only [runOps_cons, h3, h6]⟩
    · cases h
theorem xTrace_sound {call : Cll} {xc : XCll} (hc : SimC ρ call xc) : ∀ {ops : List Op1}, ops.all Op1.clean = true → ∀ {T : Tm} {S : St} {L : Log} {rs : List (List (Tm × St) × Log)}, xTrace xc ops T S L = some rs → Holds ρ L →
    ∃ tr L', (tr, L') ∈ rs ∧ Holds ρ L' ∧ trace call ops (T.sub ρ) (S.sub ρ) = some (tr.map fun p => (p.1.sub ρ, p.2.sub ρ))
  | [], _, T, S, L, rs, h, hL => by cases h; exact ⟨_, L, List.mem_singleton.2 rfl, hL, rfl⟩
  | o :: r, hcl, T, S, L, rs, h, hL => by
    simp only [List.all_cons, Bool.and_eq_true] at hcl
    simp only [xTrace] at h
    split at h
    · rename_i l hl
      obtain ⟨T1, S1, L1, h1, h2, h3⟩ := xStep_sound hc hcl.1 hl hL
      obtain ⟨z, hz, hzr⟩ := catO_mem h _ h1
      rw [Option.map_eq_some_iff] at hz
      obtain ⟨q, hq, rfl⟩ := hz
      obtain ⟨tr, L2, h4, h5, h6⟩ := xTrace_sound hc hcl.2 hq h2
      exact ⟨(T, S) :: tr, L2, hzr _ (List.mem_map.2 ⟨(tr, L2), h4, rfl⟩), h5, by simp only [trace, h3, h6, Option.map_some, List.map_cons]⟩
    · cases h
theorem lastOf_sub : ∀ {tr : List (Tm × St)} {p : Tm × St}, lastOf tr = some p → lastOf (tr.map fun p => (p.1.sub ρ, p.2.sub ρ)) = some (p.1.sub ρ, p.2.sub ρ)
  | [], p, h => by cases h
  | [x], p, h => by cases h; rfl
  | x :: y :: r, p, h => by
    simp only [List.map_cons]
    rw [lastOf_cons] at h ⊢
    exact lastOf_sub (tr := y :: r) h

theorem resOne_sub {T : Tm} {h : PM AB} {r : ResV} (hc : r.clean = true) {v : AV} (hv : resOne T h r = some v) : resOne (T.sub ρ) (subH ρ h) r = some (v.sub ρ) := by
  cases r with
  | tmp t => cases hv; simp only [resOne, ev_sub ρ hc]
  | cell t sz =>
    simp only [resOne] at hv ⊢
    rw [ev_sub ρ hc]
    split at hv
    · rename_i a ha
      rw [ha]
      exact rdAt_sub ρ hv
    · cases hv
theorem resL_sub {T : Tm} {h : PM AB} : ∀ {rs : List ResV}, rs.all ResV.clean = true → ∀ {vs : List AV}, resL T h rs = some vs → resL (T.sub ρ) (subH ρ h) rs = some (vs.map (AV.sub ρ))
  | [], _, vs, hv => by cases hv; rfl
  | r :: rs, hc, vs, hv => by
    simp only [List.all_cons, Bool.and_eq_true] at hc
    simp only [resL] at hv ⊢
    split at hv
    · rename_i v h1
      rw [Option.map_eq_some_iff] at hv
      obtain ⟨us, hu, rfl⟩ := hv
      rw [resOne_sub hc.1 h1]
      simp only [resL_sub hc.2 hu, Option.map_some, List.map_cons]
    · cases hv
theorem resV_sub {T : Tm} {h : PM AB} {rs : List ResV} (hc : rs.all ResV.clean = true) {v : AV} (hv : resV T h rs = some v) : resV (T.sub ρ) (subH ρ h) rs = some (v.sub ρ) := by
  unfold resV at hv ⊢
  split at hv
  · rename_i u hu
    cases hv
    rw [resL_sub hc hu]; rfl
  · rename_i us hne hu
    cases hv
    rw [resL_sub hc hu]
    match us, hne with
    | [], _ => rfl
    | [x], hne => exact absurd rfl (hne x)
    | x :: y :: r, _ => simp only [List.map_cons, AV.sub, AV.subs, subs_map]
  · cases hv
theorem initL_sub : ∀ (vs : List AV) (n : Nat), (initL vs n).map (fun p => (p.1, p.2.sub ρ)) = initL (vs.map (AV.sub ρ)) n
  | [], n => rfl
  | v :: vs, n => by simp only [initL, List.map_cons, initL_sub vs]
theorem initT_sub (vs : List AV) : (initT vs).sub ρ = initT (vs.map (AV.sub ρ)) := by simp only [initT, Tm.sub, initL_sub, List.map_nil]

theorem xCall_sound {F : Nat → Option AFn} (hF : ∀ f fn, F f = some fn → fn.clean = true) {E : Ec} {xe : XEc} (hE : SimE ρ E xe) : SimC ρ (callOf F E) (xCallOf F xe) := by
  intro f vs S L rs h hL
  unfold xCallOf at h
  split at h
  · cases h
  · rename_i fn hf
    have hcl := hF f fn hf
    unfold AFn.clean at hcl
    rw [Bool.and_eq_true] at hcl
    split at h
    · rename_i l hl
      obtain ⟨x, T', S', L', h1, h2, h3⟩ := hE _ _ _ _ _ hcl.1 hl hL
      obtain ⟨z, hz, hzr⟩ := catO_mem h _ h1
      rw [initT_sub] at h3
      cases x <;> simp only [xFin] at hz <;> try (cases hz; done)
      all_goals
        rw [Option.map_eq_some_iff] at hz
        obtain ⟨v, hv, rfl⟩ := hz
        refine ⟨v, S', L', hzr _ (List.mem_singleton.2 rfl), h2, ?_⟩
        rw [callOf_fn hf, h3]
        simp only [finish]
        rw [show (S'.sub ρ).h = subH ρ S'.h from rfl, resV_sub hcl.2 hv]
        rfl
    · cases h
theorem xexec1_sound {F : Nat → Option AFn} (hF : ∀ f fn, F f = some fn → fn.clean = true) {E : Ec} {xe : XEc} (hE : SimE ρ E xe) : SimE ρ (exec1 F E) (xexec1 F xe) := by
  have hC := xCall_sound hF hE
  intro c T S L rs hcl h hL
  cases c with
  | skip => cases h; exact ⟨_, T, S, L, List.mem_singleton.2 rfl, hL, rfl⟩
  | reg ops =>
    simp only [xexec1, xxReg, Option.map_eq_some_iff] at h
    obtain ⟨l, hl, rfl⟩ := h
    obtain ⟨T', S', L', h1, h2, h3⟩ := xRun_sound hC hcl hl hL
    exact ⟨_, T', S', L', List.mem_map.2 ⟨_, h1, rfl⟩, h2, by simp only [exec1, xReg]; rw [show ({ T.sub ρ with r := [] } : Tm) = Tm.sub ρ { T with r := [] } from rfl, h3]⟩
  | regD ops chk =>
    simp only [xexec1, xxRegD] at h
    split at h
    · rename_i l hl
      obtain ⟨tr, L', h1, h2, h3⟩ := xTrace_sound hC hcl hl hL
      obtain ⟨z, hz, hzr⟩ := catO_mem h _ h1
      simp only at hz
      rw [cond_eq_ite] at hz
      split at hz
      · rename_i hall
        rw [Option.map_eq_some_iff] at hz
        obtain ⟨p, hp, rfl⟩ := hz
        refine ⟨_, p.1, p.2, L', hzr _ (List.mem_singleton.2 rfl), h2, ?_⟩
        simp only [exec1, xRegD]
        rw [show ({ T.sub ρ with r := [] } : Tm) = Tm.sub ρ { T with r := [] } from rfl, h3]
        have : chk.all (again ops (tr.map fun p => (p.1.sub ρ, p.2.sub ρ))) = true := List.all_eq_true.2 fun c hc => again_sub ρ hcl (List.all_eq_true.1 hall c hc)
        simp only [this, cond_true, lastOf_sub hp, Option.map_some]
      · cases hz
    · cases h
  | seq a b =>
    simp only [ACode.clean, Bool.and_eq_true] at hcl
    simp only [xexec1, xxSeq] at h
    split at h
    · rename_i l hl
      obtain ⟨x, T', S', L', h1, h2, h3⟩ := hE _ _ _ _ _ hcl.1 hl hL
      obtain ⟨z, hz, hzr⟩ := catO_mem h _ h1
      cases x with
      | norm =>
        obtain ⟨y, T2, S2, L2, h4, h5, h6⟩ := hE _ _ _ _ _ hcl.2 hz h2
        exact ⟨y, T2, S2, L2, hzr _ h4, h5, by simp only [exec1, xSeq, h3, h6]⟩
      | ex j => cases hz; exact ⟨_, T', S', L', hzr _ (List.mem_singleton.2 rfl), h2, by simp only [exec1, xSeq, h3]⟩
      | ret => cases hz; exact ⟨_, T', S', L', hzr _ (List.mem_singleton.2 rfl), h2, by simp only [exec1, xSeq, h3]⟩
    · cases h
  | cond c y z =>
    simp only [ACode.clean, Bool.and_eq_true] at hcl
    simp only [xexec1, xxCond] at h
    simp only [exec1, xCond]
    rw [ev_sub ρ hcl.1.1]
    split at h
    · rename_i he
      rw [he]
      exact hE _ _ _ _ _ hcl.1.2 h hL
    · rename_i he
      rw [he]
      exact hE _ _ _ _ _ hcl.2 h hL
    · cases h
  | block id c =>
    simp only [xexec1, xxBlock, Option.map_eq_some_iff] at h
    obtain ⟨l, hl, rfl⟩ := h
    have hcl' : c.clean = true := hcl
    obtain ⟨x, T', S', L', h1, h2, h3⟩ := hE _ _ _ _ _ hcl' hl hL
    have hm := List.mem_map_of_mem (f := inBlk id) h1
    cases x with
    | norm => exact ⟨_, T', S', L', hm, h2, by simp only [exec1, xBlock, h3]⟩
    | ret => exact ⟨_, T', S', L', hm, h2, by simp only [exec1, xBlock, h3]⟩
    | ex j =>
      simp only [inBlk] at hm
      cases hj : Nat.beq j id
      · rw [hj] at hm
        exact ⟨_, T', S', L', hm, h2, by simp only [exec1, xBlock, h3, hj, cond_false]⟩
      · rw [hj] at hm
        exact ⟨_, T', S', L', hm, h2, by simp only [exec1, xBlock, h3, hj, cond_true]⟩
  | loop c =>
    simp only [xexec1, xxLoop] at h
    split at h
    · rename_i l hl
      obtain ⟨x, T', S', L', h1, h2, h3⟩ := hE c _ _ _ _ hcl hl hL
      obtain ⟨z, hz, hzr⟩ := catO_mem h _ h1
      cases x with
      | norm =>
        obtain ⟨y, T2, S2, L2, h4, h5, h6⟩ := hE (.loop c) _ _ _ _ hcl hz h2
        exact ⟨y, T2, S2, L2, hzr _ h4, h5, by simp only [exec1, xLoop, h3, h6]⟩
      | ex j => cases hz; exact ⟨_, T', S', L', hzr _ (List.mem_singleton.2 rfl), h2, by simp only [exec1, xLoop, h3]⟩
      | ret => cases hz; exact ⟨_, T', S', L', hzr _ (List.mem_singleton.2 rfl), h2, by simp only [exec1, xLoop, h3]⟩
    · cases h
  | exit id => cases h; exact ⟨_, T, S, L, List.mem_singleton.2 rfl, hL, rfl⟩
  | ret => cases h; exact ⟨_, T, S, L, List.mem_singleton.2 rfl, hL, rfl⟩
theorem xexec_sound {F : Nat → Option AFn} (hF : ∀ f fn, F f = some fn → fn.clean = true) : ∀ n, SimE ρ (exec F n) (xexec F n)
  | 0 => by intro c T S L rs hcl h; cases h
  | n + 1 => xexec1_sound hF (xexec_sound hF n)
/-- a number that is not known, of the language's int -/
def pv (n : Nat) : AV := .x .i64 (.t 1 (.v n) (.c 0))
theorem pv_sub (n : Nat) : (pv n).sub ρ = .i .i64 (ρ n) := by
  simp only [pv, AV.sub, Ln.ev, At.ev, Int.one_mul, Int.add_zero]
/-- The sum: if all ways of the open machine end true, so does the abstract machine, at whatever numbers that what is known lets in. -/
theorem xcall_true {F : Nat → Option AFn} (hF : ∀ f fn, F f = some fn → fn.clean = true) {n f : Nat} {vs : List AV} {S : St} {L : Log} (h : allT (xcall F n f vs S L) = true) (hL : Holds ρ L) :
    ∃ S', acall F n f (vs.map (AV.sub ρ)) (S.sub ρ) = some (.b true, S') := by
  unfold allT at h
  split at h
  · rename_i l hl
    obtain ⟨v, S', L', h1, h2, h3⟩ := xCall_sound hF (xexec_sound hF n) f vs S L l hl hL
    have := List.all_eq_true.1 h _ h1
    simp only at this
    refine ⟨S'.sub ρ, ?_⟩
    rw [acall_def, h3]
    cases v with
    | b c => cases c with
      | true => rfl
      | false => cases this
    | _ => cases this
  · cases h
/-- nothing in memory, nothing known -/
theorem xcall_true0 {F : Nat → Option AFn} (hF : ∀ f fn, F f = some fn → fn.clean = true) {n f : Nat} {vs us : List AV} (h : allT (xcall F n f vs ⟨.nil, 0⟩ []) = true) (hu : vs.map (AV.sub ρ) = us) :
    ∃ m S', acall F m f us ⟨.nil, 0⟩ = some (.b true, S') := by
  obtain ⟨S', h'⟩ := xcall_true hF h (fun l hl => by cases hl)
  rw [hu] at h'
  exact ⟨n, S', h'⟩
/-- nothing in memory, something known -/
theorem xcall_trueL {F : Nat → Option AFn} (hF : ∀ f fn, F f = some fn → fn.clean = true) {n f : Nat} {vs us : List AV} {L : Log} (h : allT (xcall F n f vs ⟨.nil, 0⟩ L) = true) (hL : Holds ρ L) (hu : vs.map (AV.sub ρ) = us) :
    ∃ m S', acall F m f us ⟨.nil, 0⟩ = some (.b true, S') := by
  obtain ⟨S', h'⟩ := xcall_true hF h hL
  rw [hu] at h'
  exact ⟨n, S', h'⟩
end
end Go.AM
