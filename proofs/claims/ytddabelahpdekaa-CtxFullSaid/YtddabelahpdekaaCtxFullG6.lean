/- The texts LibCtxI, LibCtxJ, LibCtxK, LibCtxL, LibCtxM, LibCtxN, LibCtxO, LibCtxP, LibLaw, LawCtxFull of a proof of CtxFull, merged. -/
import Derived.Test.YtddabelahpdekaaCtxFullG5
/- ctx: Deadline, what is asked, New; all, closed. -/
set_option linter.unusedVariables false
set_option linter.unusedSimpArgs false
namespace Go.AM
variable {N : Nat → Nat} {F : Nat → Option AFn}
def Tms.fineB (σ : Tms) : Bool := decide (σ.x.l.length < 1000000) && decide (0 ≤ σ.x.seq) && decide (σ.x.seq < 4611686018427387904) && decide (0 ≤ σ.named) && decide (σ.named ≤ 64) && decide (σ.ones.length < 1000000)
theorem Tms.fineB_fine {σ : Tms} (h : σ.fineB = true) : σ.fine 1000000 4611686018427387904 := by
  simp [Tms.fineB] at h
  obtain ⟨⟨⟨⟨⟨h1, h2⟩, h3⟩, h4⟩, h5⟩, h6⟩ := h
  exact ⟨h1, h2, h3, ⟨h4, h5⟩, h6⟩
theorem lapse_nil (hf : H_timer_Set_Lapse N F) (when : Int) (i : Nat) (L : Lg) : CallL F (N k_timer_Set_Lapse) [.p none, .i .i64 when, .i .i64 i] L fun v L' => v = .tup [.i .i64 0, .i .i64 3] ∧ L' = L := by
  refine CallL.opq ?_
  intro Q hQ
  apply r_timer_Set_Lapse hf.code
  unfold D_timer_Set_Lapse_1
  simp [fillP, splice, ble_nat, beq_nat, AV.cellsOf]
  have : CallL F (N k_timer_Set_make) [.p none, .agg [.i .i64 4, .i .i64 i, .p none, .i .i64 0], .i .i64 0, .i .i64 when] L fun v L' => v = .tup [.i .i64 0, .i .i64 3] ∧ L' = L := by
    refine CallL.opq ?_
    intro Q hQ
    apply r_timer_Set_make hf.timer_Set_make.code
    unfold D_timer_Set_make_1
    simp
    rw [newL_box_agg _ _ _ (by simp)]
    intro b hb
    unfold D_timer_Set_make_2
    refine (bad_spec hf.timer_Set_make.timer_bad 0).mono ?_
    rintro _ K ⟨rfl, rfl⟩
    have r0 : rdL (L.put b (.raw (.cells [.i .i64 4, .i .i64 i, .p none, .i .i64 0]))) (b, 0) none = some (.i .i64 4) := by rw [rdL_cell (Lg.put_same _ _ _)]; rfl
    have r1 : rdL (L.put b (.raw (.cells [.i .i64 4, .i .i64 i, .p none, .i .i64 0]))) (b, 1) none = some (.i .i64 i) := by rw [rdL_cell (Lg.put_same _ _ _)]; rfl
    have hn : ¬ ((i : Int) < 0) := by omega
    simp [r0, r1, hn]
    exact ⟨_, ((Ext2.refl L).put hb _).sees, hQ _ _ ⟨rfl, rfl⟩⟩
  refine this.mono ?_
  rintro _ K ⟨rfl, rfl⟩
  simp
  exact ⟨_, Sees.refl _, hQ _ _ ⟨rfl, rfl⟩⟩
section
variable {M L L0 : Lg} {c t mb : Nat} {osl asl : AV} {S S' : CX} {Q : AV → Lg → Prop}
/-- the timer of a context's deadline is set -/
def CX.armP (S : CX) (id : Nat) (when : Int) : Option CX := match S.σ.t with
  | none => some S
  | some _ => if S.τ.fineB = true then
      if (S.τ.make ⟨4, id, none, 0⟩ 0 when).2.2 = 0 then match S.σ.ones[id]? with
        | none => none
        | some o => some { ({ S with τ := (S.τ.make ⟨4, id, none, 0⟩ 0 when).1 } : CX).setOne id { o with timer := (S.τ.make ⟨4, id, none, 0⟩ 0 when).2.1 } with τ := (S.τ.make ⟨4, id, none, 0⟩ 0 when).1 }
      else some { S with τ := (S.τ.make ⟨4, id, none, 0⟩ 0 when).1 }
    else none
def CX.deadlineP (S : CX) (parent when now : Int) (a : Nat) : Option CRet :=
  if S.σ.room parent ≠ 0 then some (S, 0, [], S.σ.room parent)
  else match S.σ.ones[parent.toNat]? with
    | none => none
    | some up => if up.has = true ∧ up.when ≤ max (clockAdd when 0) 0 then S.cancelsP parent a
      else if S.okAdd = true then match (S.addS { One.zero with when := max (clockAdd when 0) 0, has := true, own := true } up.node a).beginP S.σ.ones.length parent with
        | none => none
        | some r => if 0 < r.2.length then some (r.1, S.σ.ones.length, r.2, 0)
          else if max (clockAdd when 0) 0 ≤ now then match r.1.cancelP 200 S.σ.ones.length 2 2 with
            | none => none
            | some r2 => some (r2.1, S.σ.ones.length, r2.2.1, 0)
          else match r.1.armP S.σ.ones.length (max (clockAdd when 0) 0) with
            | none => none
            | some S2 => some (S2, S.σ.ones.length, [], 0)
      else none
theorem ResW.len1 {v1 v2 : AV} {laps : List Lap} {sts : List (Int × Int)} {K : Lg} (h : ResW L K v1 v2 laps sts) (X : Lg) (k : AV → Lg → Prop) : wpOp F .lenSl [v1] X k = k (.i .i64 laps.length) X := by
  obtain ⟨ps, h1, h2⟩ := h
  rw [h2.o1.len, ← h1]; simp
theorem arm_ctx (hl : H_timer_Set_Lapse N F) {i : Nat} {when : Int} (hp : S.armP i when = some S') (hd : CtxD c S.σ t mb osl asl M) (ha : Apart M L c) (ho : OutC c S L) (hi : i < S.σ.ones.length)
    (hQ : ∀ M' L', CO c t mb S S' L osl asl M' L' → fin1 (some (.tup [.i .i64 i, .sl none 0 0 0, .i .i64 0])) Q (M'.over L')) : D_ctx_Set_Deadline_8 F N Q (.p (some (c, 0))) (.i .i64 when) (.i .i64 i) (M.over L) := by
  unfold D_ctx_Set_Deadline_8
  unfold CX.armP at hp
  split at hp
  case h_1 =>
    rename_i hs
    cases hp
    simp [hd.f0, hs, ptr]
    refine (lapse_nil hl when i _).mono ?_
    rintro _ K' ⟨rfl, rfl⟩
    simp
    exact hQ _ _ (CO.refl hd ha ho)
  rename_i s hs
  split at hp
  case isFalse => cases hp
  rename_i hfi
  have hts := ho.tms s hs
  have hMs := ha.low hts.1 hts.2
  simp [hd.f0, hs, ptr]
  refine (tlapse_spec hl (ha.get hts.1 hts.2) (Tms.fineB_fine hfi) when i).mono ?_
  rintro _ K' ⟨rfl, hK'⟩
  rw [hK', over_putL hMs]
  clear hK' K'
  generalize hmk : S.τ.make ⟨4, i, none, 0⟩ 0 when = mk at hp
  have ap1 := ha.putL hMs (.abs (SetP s mk.1))
  have ho1 : ∀ (S2 : CX), SameC S.σ S2.σ → S2.τ = mk.1 → S2.χ = S.χ → OutC c S2 (L.put s (.abs (SetP s mk.1))) := by
    intro S2 h1 h2 h3
    refine ⟨fun s' hs' => ?_, fun o1 h4 a h5 => ?_⟩
    · have e : s' = s := by rw [h1.t, hs] at hs'; cases hs'; rfl
      subst e
      exact ⟨hts.1, by rw [Lg.put_same, h2]⟩
    · obtain ⟨o', h6, h7⟩ := h1.cs ⟨o1, h4, h5⟩
      have := ho.chs o' h6 a h7
      refine ⟨this.1, by rw [h1.t]; exact this.2.1, ?_⟩
      rw [Lg.put_ne _ _ _ (by rintro rfl; exact this.2.1 hs), h3]; exact this.2.2
  have fr1 : FrC S.σ L (L.put s (.abs (SetP s mk.1))) := fun r hr h1 h2 => Lg.put_ne _ _ _ (by rintro rfl; exact h1 hs)
  have hh1 : ∀ r, (L.put s (.abs (SetP s mk.1))) r = none → L r = none := fun r hr => by
    by_cases e : r = s
    · subst e; rw [Lg.put_same] at hr; cases hr
    · rwa [Lg.put_ne _ _ _ e] at hr
  simp
  split at hp
  · rename_i hz
    split at hp
    case h_1 => cases hp
    rename_i o hoi
    cases hp
    refine ⟨fun _ => ?_, fun h9 => absurd hz h9⟩
    obtain ⟨b, a1, a2, a3, a4, a5⟩ := hd.fo (F := F) hoi
    have hlt : i * 9 + 9 ≤ (flatc One.cells S.σ.ones).length := (flatc_at One.len S.σ.ones i o hoi).2
    simp [hd.f2, a3]
    rw [stL_cell (over_some a2) (by omega) rfl, over_put]
    have d1 := hd.setOne (o' := { o with timer := mk.2.1 }) hoi a1 (j := 8) (v := .i .i64 mk.2.1) (by omega) rfl
    have ap2 := ap1.own (b := b) (by rw [a2]; simp) (.raw (.cells ((flatc One.cells S.σ.ones).set (i * 9 + 8) (.i .i64 mk.2.1))))
    have hsm : SameC S.σ (S.setOne i { o with timer := mk.2.1 }).σ := setOne_same hoi rfl rfl
    exact hQ _ _ ⟨d1, ap2, ho1 _ hsm rfl rfl, hsm.sub, fr1, hh1⟩
  · rename_i hz
    cases hp
    refine ⟨fun h9 => absurd h9 hz, fun _ => ?_⟩
    exact hQ _ _ ⟨hd, ap1, ho1 _ (SameC.refl _) rfl rfl, (SameC.refl _).sub, fr1, hh1⟩
theorem deadline_open (hf : H_ctx_Set_Deadline N F) {parent when now : Int} (hp : ∀ a, L a = none → ∃ r, S.deadlineP parent when now a = some r) (hd : CtxD c S.σ t mb osl asl M) (ha : Apart M L c) (ho : OutC c S L) (hc : L c ≠ none) :
    CallL F (N k_ctx_Set_Deadline) [.p (some (c, 0)), .i .i64 parent, .i .i64 when, .i .i64 now] (M.over L) fun v K' => ∃ (a : Nat) (r : CRet) (M' L' : Lg) (osl' v1 v2 : AV) (sts : List (Int × Int)), (S.σ.room parent = 0 → L a = none) ∧ S.deadlineP parent when now a = some r ∧ v = .tup [.i .i64 r.2.1, v1, .i .i64 r.2.2.2] ∧ K' = M'.over L' ∧ CO c t mb S r.1 L osl' asl M' L' ∧ ResW L L' v1 v2 r.2.2.1 sts := by
  refine CallL.opq ?_
  intro Q hQ
  apply r_ctx_Set_Deadline hf.code
  unfold D_ctx_Set_Deadline_1 D_ctx_Set_Deadline_2
  refine (ctxRoom_open hf.ctx_Set_room hd L parent).mono ?_
  rintro _ K' ⟨rfl, hK'⟩
  rw [hK']
  clear hK' K'
  by_cases hr0 : S.σ.room parent = 0
  case neg =>
    simp [hr0]
    exact ⟨_, Sees.refl _, hQ _ _ ⟨0, _, M, L, osl, .sl none 0 0 0, .sl none 0 0 0, [], fun h => absurd h hr0, by simp only [CX.deadlineP, ne_eq, hr0, not_false_eq_true, if_true]; rfl, rfl, rfl, ⟨hd, ha, ho, (SameC.refl _).sub, FrC.refl _ _, fun _ h => h⟩, [], rfl, ResP.nil _ _⟩⟩
  obtain ⟨i, rfl, hi⟩ := room_zero hr0
  have hup : S.σ.ones[i]? = some S.σ.ones[i] := List.getElem?_eq_getElem hi
  generalize S.σ.ones[i] = up at hup
  simp [hr0]
  unfold D_ctx_Set_Deadline_3
  refine (clockAdd_spec hf.clock_Add when 0 _).mono ?_
  rintro _ K' ⟨rfl, hK'⟩
  rw [hK']
  clear hK' K'
  simp
  have hPd : ∀ a, S.deadlineP i when now a = if up.has = true ∧ up.when ≤ max (clockAdd when 0) 0 then S.cancelsP i a
      else if S.okAdd = true then match (S.addS { One.zero with when := max (clockAdd when 0) 0, has := true, own := true } up.node a).beginP S.σ.ones.length i with
        | none => none
        | some r => if 0 < r.2.length then some (r.1, (S.σ.ones.length : Int), r.2, 0)
          else if max (clockAdd when 0) 0 ≤ now then match r.1.cancelP 200 S.σ.ones.length 2 2 with
            | none => none
            | some r2 => some (r2.1, (S.σ.ones.length : Int), r2.2.1, 0)
          else match r.1.armP S.σ.ones.length (max (clockAdd when 0) 0) with
            | none => none
            | some S2 => some (S2, (S.σ.ones.length : Int), [], 0)
      else none := by
    intro a
    unfold CX.deadlineP
    rw [if_neg (by simp [hr0])]
    simp only [Int.toNat_natCast, hup]
  generalize hwh : max (clockAdd when 0) 0 = wh at hPd
  unfold D_ctx_Set_Deadline_4
  obtain ⟨b, a1, a2, a3, a4, a5⟩ := hd.fo (F := F) hup
  simp [hd.f2, a3, a5]
  intro b8 hb8
  have hb := over_none.1 hb8
  rw [stL_cells (n := 9) (Lg.put_same _ _ _) (One.one up) (One.len up) (by simp), Lg.put_put]
  have hsp : splice [AV.i .i64 0, .b false, .p none, .i .i64 0, .i .i64 0, .i .i64 0, .b false, .b false, .i .i64 0] 0 up.cells = up.cells := rfl
  rw [hsp, over_putL hb.1]
  have ap1 := ha.putL hb.1 (.raw (.cells up.cells))
  have g : ((L.put b8 (.raw (.cells up.cells)))) b8 = some (.raw (.cells up.cells)) := Lg.put_same _ _ _
  have ho1 := ho.put hb.2 (.raw (.cells up.cells))
  have hh1 : ∀ r, (L.put b8 (.raw (.cells up.cells))) r = none → L r = none := fun r hr => by
    by_cases e : r = b8
    · subst e; exact hb.2
    · rwa [Lg.put_ne _ _ _ e] at hr
  have fr1 : FrC S.σ L (L.put b8 (.raw (.cells up.cells))) := (FrC.refl _ _).put hb.2 _
  generalize hL1 : L.put b8 (.raw (.cells up.cells)) = L1 at ap1 g ho1 hh1 fr1
  have hcL1 : L1 c ≠ none := fun h9 => hc (hh1 c h9)
  have hb8M : ∀ X : Lg, rdL (M.over X) (b8, 0) none = rdL X (b8, 0) none ∧ rdL (M.over X) (b8, 5) none = rdL X (b8, 5) none ∧ rdL (M.over X) (b8, 6) none = rdL X (b8, 6) none := fun X => by simp [rdL, over_skip hb.1]
  have rd : ∀ X : Lg, X b8 = some (.raw (.cells up.cells)) → rdL X (b8, 0) none = some (.i .i64 up.node) ∧ rdL X (b8, 5) none = some (.i .i64 up.when) ∧ rdL X (b8, 6) none = some (.b up.has) := fun X h => ⟨by rw [rdL_cell h]; rfl, by rw [rdL_cell h]; rfl, by rw [rdL_cell h]; rfl⟩
  have q1 := hb8M L1
  rw [(rd _ g).1, (rd _ g).2.1, (rd _ g).2.2] at q1
  unfold D_ctx_Set_Deadline_5
  have hcan : up.has = true ∧ up.when ≤ wh → CallL F (N k_ctx_Set_Cancels) [.p (some (c, 0)), .i .i64 i] (M.over L1) fun v8 L8 => wpOp F (.ext 0) [v8] L8 fun v9 L9 => wpOp F (.ext 1) [v8] L9 fun v10 L10 => wpOp F (.ext 2) [v8] L10 fun v11 L11 => fin1 (some (.tup [v9, v10, v11])) Q L11 := by
    intro hcond
    refine (cancels_open hf.ctx_Set_Cancels (parent := i) ?_ hd ap1 ho1 hcL1).mono ?_
    · intro a h
      obtain ⟨r, hr⟩ := hp a (hh1 a h)
      rw [hPd, if_pos hcond] at hr
      exact ⟨r, hr⟩
    · rintro _ K' ⟨a, r, M', L', osl', v1, v2, sts, haL, hr, rfl, rfl, co, ps, hps, hres⟩
      simp
      exact ⟨_, Sees.refl _, hQ _ _ ⟨a, r, M', L', osl', v1, v2, sts, fun h => hh1 a (haL h), by rw [hPd, if_pos hcond]; exact hr, rfl, rfl, ⟨co.d, co.ap, co.out, co.sub, fr1.trans (SameC.refl _) co.fr, fun q hq => hh1 q (co.has q hq)⟩, ps, hps, hres.low fun q hq _ => hh1 q hq⟩⟩
  have hown : ¬ (up.has = true ∧ up.when ≤ wh) → D_ctx_Set_Deadline_6 F N Q (.p (some (c, 0))) (.i .i64 i) (.i .i64 wh) (.i .i64 now) (.p (some (b8, 0))) (M.over L1) := by
    intro hcond
    unfold D_ctx_Set_Deadline_6
    refine (signal_spec hf.chanq_Signal).mono ?_
    rintro _ K' ⟨a, haK, rfl, hK'⟩
    have haK' := over_none.1 haK
    have haL : L a = none := hh1 a haK'.2
    have hac : a ≠ c := by rintro rfl; exact hc haL
    rw [hK', over_putL haK'.1]
    clear hK' K'
    obtain ⟨r, hr⟩ := hp a haL
    have hr' := hr
    rw [hPd, if_neg hcond] at hr
    split at hr
    case isFalse => cases hr
    rename_i hok
    simp only [CX.okAdd, Bool.and_eq_true, decide_eq_true_eq] at hok
    split at hr
    case h_1 => cases hr
    rename_i r1 hr1
    have ap2 := ap1.putL haK'.1 (.abs (ChanP a .sg))
    have hn8 : b8 ≠ a := by rintro rfl; rw [g] at haK'; cases haK'.2
    have g2 : (L1.put a (.abs (ChanP a .sg))) b8 = some (.raw (.cells up.cells)) := by rw [Lg.put_ne _ _ _ hn8]; exact g
    have q2 := hb8M (L1.put a (.abs (ChanP a .sg)))
    rw [(rd _ g2).1, (rd _ g2).2.1, (rd _ g2).2.2] at q2
    simp [q2, fillP, splice, ble_nat, beq_nat, AV.cellsOf]
    have hoS : OutC c (S.addS { One.zero with when := wh, has := true, own := true } up.node a) (L1.put a (.abs (ChanP a .sg))) := ho1.addS haK'.2 hac _
    have hcell : AV.agg [.i .i64 0, .b false, .p (some (a, 0)), .i .i64 0, .i .i64 0, .i .i64 wh, .b true, .b true, .i .i64 0] = AV.agg ({ ({ One.zero with when := wh, has := true, own := true } : One) with c := some a } : One).cells := rfl
    rw [hcell]
    refine (ctxAdd_open hf.ctx_Set_add hd ap2 ({ ({ One.zero with when := wh, has := true, own := true } : One) with c := some a } : One) up.node hok.1 hok.2).mono ?_
    rintro _ K' ⟨rfl, M3, osl3, rfl, hd3, ap3⟩
    have hcL2 : (L1.put a (.abs (ChanP a .sg))) c ≠ none := by rw [Lg.put_ne _ _ _ (Ne.symm hac)]; exact hcL1
    have hh2 : ∀ q, (L1.put a (.abs (ChanP a .sg))) q = none → L q = none := fun q hq => by
      by_cases e : q = a
      · subst e; exact haL
      · rw [Lg.put_ne _ _ _ e] at hq; exact hh1 q hq
    have hd3' : CtxD c (S.addS { One.zero with when := wh, has := true, own := true } up.node a).σ t mb osl3 asl M3 := hd3
    refine ⟨by simp [againV, semRL, rLdL, q1, q2], ?_⟩
    unfold D_ctx_Set_Deadline_7
    refine (begin_open hf.ctx_Set_begin hr1 hd3' ap3 hoS hcL2).mono ?_
    rintro v K' ⟨M4, L4, v2, sts, rfl, co, hsmB, hres⟩
    have hsub : SubC S.σ (S.addS { One.zero with when := wh, has := true, own := true } up.node a).σ := addS_sub _ _ _
    have frN : ∀ {S2 : CX} {L5 : Lg}, FrC (S.addS { One.zero with when := wh, has := true, own := true } up.node a).σ (L1.put a (.abs (ChanP a .sg))) L5 → FrC S.σ L L5 := by
      intro S2 L5 hfr q hq h1 h2
      have e1 : (L1.put a (.abs (ChanP a .sg))) q = L q := by rw [Lg.put_ne _ _ _ (by rintro rfl; exact hq haL)]; exact fr1 q hq h1 h2
      rw [← e1]
      refine hfr q (by rw [e1]; exact hq) h1 ?_
      intro o1 ho1 h9
      have h1' : o1 ∈ S.σ.ones ++ [{ ({ ({ One.zero with when := wh, has := true, own := true } : One) with c := some a } : One) with node := (treeAdd S.σ.tree up.node (!One.zero.free)).2.1, timer := -1 }] := ho1
      rcases List.mem_append.1 h1' with h1' | h1'
      · exact h2 o1 h1' h9
      · simp at h1'; subst h1'; simp at h9; subst h9; exact hq haL
    have hcL4 : L4 c ≠ none := fun h9 => hc (hh2 c (co.has c h9))
    simp [hres.len1]
    split at hr
    · rename_i hpos
      cases hr
      refine ⟨fun _ => ?_, fun h9 => absurd h9 (by first | omega | (intro h8; rw [h8] at hpos; simp at hpos))⟩
      exact ⟨_, Sees.refl _, hQ _ _ ⟨a, _, M4, L4, osl3, v, v2, sts, fun _ => haL, hr', rfl, rfl, ⟨co.d, co.ap, co.out, hsub.trans co.sub, frN (S2 := S) co.fr, fun q hq => hh2 q (co.has q hq)⟩, by obtain ⟨ps, h1, h2⟩ := hres; exact ⟨ps, h1, h2.low fun q hq _ => hh2 q hq⟩⟩⟩
    · rename_i hpos
      have hz : r1.2.length = 0 := by omega
      have hz' : r1.2 = [] := List.length_eq_zero_iff.1 hz
      refine ⟨fun h9 => absurd h9 (by omega), fun _ => ?_⟩
      split at hr
      · rename_i hnow
        split at hr
        case h_1 => cases hr
        rename_i r2 hr2
        cases hr
        refine ⟨fun _ => ?_, fun h9 => absurd hnow (by omega)⟩
        refine (cancel_co hf.ctx_Set_cancel hr2 co.d co.ap co.out hcL4).mono ?_
        rintro _ K' ⟨M5, L5, w1, w2, rfl, rfl, co5, _, hres5⟩
        simp
        refine ⟨_, Sees.refl _, hQ _ _ ⟨a, _, M5, L5, osl3, w1, w2, r2.2.2, fun _ => haL, hr', rfl, rfl, ⟨co5.d, co5.ap, co5.out, (hsub.trans co.sub).trans co5.sub, frN (S2 := S) (FrC.trans hsmB co.fr co5.fr), fun q hq => hh2 q (co.has q (co5.has q hq))⟩, by obtain ⟨ps, h1, h2⟩ := hres5; exact ⟨ps, h1, h2.low fun q hq _ => hh2 q (co.has q hq)⟩⟩⟩
      · rename_i hnow
        split at hr
        case h_1 => cases hr
        rename_i S2 hS2
        cases hr
        refine ⟨fun h9 => absurd h9 (by omega), fun _ => ?_⟩
        have hlen : S.σ.ones.length < r1.1.σ.ones.length := by
          have := congrArg List.length hsmB.names
          simp [Cs.names, CX.addS, Cs.add] at this
          omega
        refine arm_ctx hf.timer_Set_Lapse hS2 co.d co.ap co.out hlen ?_
        intro M5 L5 co5
        refine ⟨_, Sees.refl _, hQ _ _ ⟨a, _, M5, L5, osl3, .sl none 0 0 0, .sl none 0 0 0, [], fun _ => haL, hr', rfl, rfl, ⟨co5.d, co5.ap, co5.out, (hsub.trans co.sub).trans co5.sub, frN (S2 := S) (FrC.trans hsmB co.fr co5.fr), fun q hq => hh2 q (co.has q (co5.has q hq))⟩, [], rfl, ResP.nil _ _⟩⟩
  cases hhas : up.has
  · have := hown (by simp [hhas])
    simpa [q1, hhas] using this
  · simp [q1, hhas]
    refine ⟨fun h9 => hcan ⟨hhas, h9⟩, fun h9 => hown (by rintro ⟨_, h8⟩; omega)⟩
end
end Go.AM


/- ctx: what is asked, New; all, closed. -/
set_option linter.unusedVariables false
set_option linter.unusedSimpArgs false
namespace Go.AM
variable {N : Nat → Nat} {F : Nat → Option AFn}
section
variable {M L L0 : Lg} {c t mb : Nat} {osl asl : AV} {S S' : CX} {σ : Cs} {Q : AV → Lg → Prop}
/-- a context by its number -/
def Cs.one (σ : Cs) (id : Int) : Option One := if σ.has id = true then σ.ones[id.toNat]? else none
theorem ctxLen_spec (hf : H_ctx_Set_Len N F) (e : L c = some (.abs (CtxP c σ))) : CallL F (N k_ctx_Set_Len) [.p (some (c, 0))] L fun v L' => v = .i .i64 σ.ones.length ∧ L' = L := by
  refine CallL.opq ?_
  intro Q hQ
  refine CallL.openCtx e fun M t mb osl asl hd ha => ?_
  apply r_ctx_Set_Len hf.code
  unfold D_ctx_Set_Len_1
  simp [hd.f2, hd.ones.len]
  exact ⟨_, hd.back ha e, hQ _ _ ⟨rfl, rfl⟩⟩
/-- the background alone -/
def Cs.new (t : Option Nat) : Cs := (⟨t, [], [], [], fun _ => none⟩ : Cs).add { One.zero with free := true } (-1)
theorem ctxNew_spec (hf : H_ctx_New N F) (L : Lg) (t : Option Nat) : CallL F (N k_ctx_New) [ptr t] L fun v L' => ∃ c, L c = none ∧ v = .p (some (c, 0)) ∧ L' = L.put c (.abs (CtxP c (.new t))) := by
  refine CallL.opq ?_
  intro Q hQ
  apply r_ctx_New hf.code
  unfold D_ctx_New_1
  refine (treeNew_spec hf.tree_New).mono ?_
  rintro _ L1 ⟨tr, htr, rfl, rfl⟩
  simp
  intro mb hmb
  have hfl : fillP [.p none, .p none, .sl none 0 0 0, .sl none 0 0 0, .m none] [(0, 1), (1, 1), (4, 1)] [ptr t, .p (some (tr, 0)), .m (some mb)] = some [ptr t, .p (some (tr, 0)), .sl none 0 0 0, .sl none 0 0 0, .m (some mb)] := rfl
  rw [hfl]
  simp only [Option.map_some, retL_some, wp_box]
  rw [newL_box_agg _ _ _ (by simp [ptr])]
  intro c hc
  simp [fillP, splice, ble_nat, beq_nat, AV.cellsOf]
  have n1 : mb ≠ tr := by rintro rfl; rw [Lg.put_same] at hmb; cases hmb
  have n2 : c ≠ mb := by rintro rfl; rw [Lg.put_same] at hc; cases hc
  have hc1 := hc
  rw [Lg.put_ne _ _ _ n2] at hc1
  have n3 : c ≠ tr := by rintro rfl; rw [Lg.put_same] at hc1; cases hc1
  rw [Lg.put_ne _ _ _ n3] at hc1
  rw [Lg.put_ne _ _ _ n1] at hmb
  let M : Lg := ((Lg.nil.put tr (.abs (TreeP tr []))).put mb (.raw (.map []))).put c (.raw (.cells [ptr t, .p (some (tr, 0)), .sl none 0 0 0, .sl none 0 0 0, .m (some mb)]))
  have hK : ((L.put tr (.abs (TreeP tr []))).put mb (.raw (.map []))).put c (.raw (.cells [ptr t, .p (some (tr, 0)), .sl none 0 0 0, .sl none 0 0 0, .m (some mb)])) = M.over L := by
    show _ = Lg.over (Lg.put _ _ _) L
    rw [← over_put, ← over_put, ← over_put]; rfl
  have hd : CtxD c ⟨t, [], [], [], fun _ => none⟩ tr mb (.sl none 0 0 0) (.sl none 0 0 0) M := by
    refine ⟨Lg.put_same _ _ _, ?_, ⟨[], ?_, mapI_nil⟩, .inl ⟨rfl, rfl, rfl⟩, .inl ⟨rfl, rfl, rfl⟩, n3, n2, Ne.symm n1, fun b h => (by cases h), fun b h => (by cases h), ?_⟩
    · show (Lg.put _ _ _) tr = _
      rw [Lg.put_ne _ _ _ (Ne.symm n3), Lg.put_ne _ _ _ (Ne.symm n1), Lg.put_same]
    · show (Lg.put _ _ _) mb = _
      rw [Lg.put_ne _ _ _ (Ne.symm n2), Lg.put_same]
    · intro b hb
      by_cases e1 : b = c
      · exact .inl e1
      by_cases e2 : b = mb
      · exact .inr (.inr (.inl e2))
      by_cases e3 : b = tr
      · exact .inr (.inl e3)
      exfalso; apply hb
      show (Lg.put _ _ _) b = _
      rw [Lg.put_ne _ _ _ e1, Lg.put_ne _ _ _ e2, Lg.put_ne _ _ _ e3]; rfl
  have ap : Apart M L c := by
    intro b hb hM
    rcases hd.dom b hM with h | h | h | h | h
    · exact absurd h hb
    · rw [h]; exact htr
    · rw [h]; exact hmb
    · cases h
    · cases h
  rw [hK]
  have hcell : AV.agg [.i .i64 0, .b true, .p none, .i .i64 0, .i .i64 0, .i .i64 0, .b false, .b false, .i .i64 0] = AV.agg ({ One.zero with free := true } : One).cells := rfl
  rw [hcell]
  refine (ctxAdd_open hf.ctx_Set_add hd ap { One.zero with free := true } (-1) rfl (by simp)).mono ?_
  rintro _ K' ⟨rfl, M3, osl3, rfl, hd3, ap3⟩
  simp
  exact ⟨_, hd3.shut ap3, hQ _ _ ⟨c, hc1, rfl, rfl⟩⟩
/-! ### closed -/
theorem OutC.ne (ho : OutC c S L) : True := trivial
theorem cancels_spec (hf : H_ctx_Set_Cancels N F) {parent : Int} (hp : ∀ a, L a = none → ∃ r, S.cancelsP parent a = some r) (e : L c = some (.abs (CtxP c S.σ))) (ho : OutC c S L) :
    CallL F (N k_ctx_Set_Cancels) [.p (some (c, 0)), .i .i64 parent] L fun v L2 => ∃ (a : Nat) (r : CRet) (v1 v2 : AV) (sts : List (Int × Int)), (S.σ.room parent = 0 → L a = none) ∧ S.cancelsP parent a = some r ∧ v = .tup [.i .i64 r.2.1, v1, .i .i64 r.2.2.2] ∧ CDone c S r.1 L L2 ∧ ResW L L2 v1 v2 r.2.2.1 sts := by
  have hc : L c ≠ none := by rw [e]; simp
  refine CallL.openCtx e fun M t mb osl asl hd ha => ?_
  refine (cancels_open hf hp hd ha ho hc).sees ?_
  rintro _ K' ⟨a, r, M', L', osl', v1, v2, sts, h1, h2, rfl, rfl, co, hres⟩
  have := co.shut hc
  exact ⟨_, this.1, a, r, v1, v2, sts, h1, h2, rfl, this.2, hres.shut hc _⟩
theorem deadline_spec (hf : H_ctx_Set_Deadline N F) {parent when now : Int} (hp : ∀ a, L a = none → ∃ r, S.deadlineP parent when now a = some r) (e : L c = some (.abs (CtxP c S.σ))) (ho : OutC c S L) :
    CallL F (N k_ctx_Set_Deadline) [.p (some (c, 0)), .i .i64 parent, .i .i64 when, .i .i64 now] L fun v L2 => ∃ (a : Nat) (r : CRet) (v1 v2 : AV) (sts : List (Int × Int)), (S.σ.room parent = 0 → L a = none) ∧ S.deadlineP parent when now a = some r ∧ v = .tup [.i .i64 r.2.1, v1, .i .i64 r.2.2.2] ∧ CDone c S r.1 L L2 ∧ ResW L L2 v1 v2 r.2.2.1 sts := by
  have hc : L c ≠ none := by rw [e]; simp
  refine CallL.openCtx e fun M t mb osl asl hd ha => ?_
  refine (deadline_open hf hp hd ha ho hc).sees ?_
  rintro _ K' ⟨a, r, M', L', osl', v1, v2, sts, h1, h2, rfl, rfl, co, hres⟩
  have := co.shut hc
  exact ⟨_, this.1, a, r, v1, v2, sts, h1, h2, rfl, this.2, hres.shut hc _⟩
theorem without_spec (hf : H_ctx_Set_Without N F) {parent : Int} {r : CX × Int × Int} (hp : S.withoutP parent = some r) (e : L c = some (.abs (CtxP c S.σ))) (ho : OutC c S L) :
    CallL F (N k_ctx_Set_Without) [.p (some (c, 0)), .i .i64 parent] L fun v L2 => v = .tup [.i .i64 r.2.1, .i .i64 r.2.2] ∧ CDone c S r.1 L L2 := by
  have hc : L c ≠ none := by rw [e]; simp
  refine CallL.openCtx e fun M t mb osl asl hd ha => ?_
  refine (without_open hf hp hd ha ho hc).sees ?_
  rintro _ K' ⟨M', L', osl', rfl, rfl, co⟩
  have := co.shut hc
  exact ⟨_, this.1, rfl, this.2⟩
theorem afterX_spec (hf : H_ctx_Set_After N F) {id prog : Int} {r : CX × Int × List (Int × Int) × Int} (hp : S.afterX id prog = some r) (e : L c = some (.abs (CtxP c S.σ))) (ho : OutC c S L) :
    CallL F (N k_ctx_Set_After) [.p (some (c, 0)), .i .i64 id, .i .i64 prog] L fun v L2 => ∃ v2, v = .tup [.i .i64 r.2.1, v2, .i .i64 r.2.2.2] ∧ CDone c S r.1 L L2 ∧ OSl L2 v2 (flatc stc r.2.2.1) r.2.2.1.length 2 ∧ ∀ b, slB v2 = some b → L b = none := by
  have hc : L c ≠ none := by rw [e]; simp
  refine CallL.openCtx e fun M t mb osl asl hd ha => ?_
  refine (afterX_open hf hp hd ha ho hc).sees ?_
  rintro _ K' ⟨M', L', asl', v2, rfl, rfl, co, hs, hfr⟩
  have := co.shut hc
  exact ⟨_, this.1, v2, rfl, this.2, hs.mono fun b hb => Lg.put_ne _ _ _ (by rintro rfl; exact hc (hfr _ hb)), hfr⟩
end
end Go.AM


/- trees, in plain Lean: kids, what is taken out, walks. -/
set_option linter.unusedVariables false
set_option linter.unusedSimpArgs false
namespace Go.AM
/-- who hangs on one -/
def hangs (ns : List Nd) (k : Int) (i : Nat) : Bool := match ns[i]? with | some n => n.linked && decide (n.parent = k) | none => false
def kidsOf (ns : List Nd) (k : Int) : List Nat := (List.range ns.length).filter (hangs ns k)
structure TreeOk (ns : List Nd) : Prop where
  len : ns.length ≤ 1000
  kids : ∀ (k : Nat) (n : Nd), ns[k]? = some n → n.kids = (kidsOf ns (k : Int)).map fun (i : Nat) => (i : Int)
  par : ∀ (k : Nat) (n : Nd), ns[k]? = some n → n.linked = true → 0 ≤ n.parent ∧ n.parent < k
theorem kidsOf_mem {ns : List Nd} {k : Int} {i : Nat} : i ∈ kidsOf ns k ↔ ∃ n, ns[i]? = some n ∧ n.linked = true ∧ n.parent = k := by
  simp only [kidsOf, List.mem_filter, List.mem_range, hangs]
  constructor
  · rintro ⟨h1, h2⟩
    rw [List.getElem?_eq_getElem h1] at h2 ⊢
    simp at h2
    exact ⟨_, rfl, h2.1, h2.2⟩
  · rintro ⟨n, h1, h2, h3⟩
    exact ⟨(List.getElem?_eq_some_iff.1 h1).1, by simp [h1, h2, h3]⟩
theorem kidsOf_nodup (ns : List Nd) (k : Int) : (kidsOf ns k).Nodup := List.nodup_range.sublist List.filter_sublist
theorem kidsOf_lt {ns : List Nd} (h : TreeOk ns) {k i : Nat} (hi : i ∈ kidsOf ns (k : Int)) : k < i ∧ i < ns.length := by
  obtain ⟨n, h1, h2, h3⟩ := kidsOf_mem.1 hi
  have := h.par i n h1 h2
  exact ⟨by omega, (List.getElem?_eq_some_iff.1 h1).1⟩
theorem kidsOf_length (ns : List Nd) (k : Int) : (kidsOf ns k).length ≤ ns.length := by
  have := (List.filter_sublist (p := hangs ns k) (l := List.range ns.length)).length_le
  simpa [kidsOf] using this
theorem TreeOk.kok {ns : List Nd} (h : TreeOk ns) : kok ns = true := by
  refine List.all_eq_true.2 fun n hn => ?_
  obtain ⟨k, hk⟩ := List.mem_iff_getElem?.1 hn
  rw [h.kids k n hk]
  have := kidsOf_length ns k
  have := h.len
  simp; omega
theorem TreeOk.kidsT {ns : List Nd} (h : TreeOk ns) {k : Nat} (hk : k < ns.length) : kidsT ns k = (kidsOf ns (k : Int)).map fun (i : Nat) => (i : Int) := by
  have : hasT ns k = true := by simp [hasT]; omega
  simp only [Go.AM.kidsT, this, if_true, Int.toNat_natCast, List.getD_eq_getElem?_getD]
  rw [List.getElem?_eq_getElem hk]
  exact h.kids k _ (List.getElem?_eq_getElem hk)
/-! ### added -/
theorem addKid_length (ns : List Nd) (i : Nat) (x : Int) : (addKid ns i x).length = ns.length := by
  unfold addKid; split <;> simp
theorem addKid_get (ns : List Nd) (i : Nat) (x : Int) (j : Nat) : (addKid ns i x)[j]? = (ns[j]?).map fun n => if j = i then { n with kids := n.kids ++ [x] } else n := by
  unfold addKid
  split
  · rename_i n hn
    by_cases e : i = j
    · subst e
      have hi : i < ns.length := (List.getElem?_eq_some_iff.1 hn).1
      rw [List.getElem?_set_self hi, hn]; simp
    · rw [List.getElem?_set_ne e]
      cases ns[j]? with
      | none => rfl
      | some m => simp [Ne.symm e]
  · rename_i hn
    cases e : ns[j]? with
    | none => rfl
    | some m =>
      have : j ≠ i := by rintro rfl; rw [hn] at e; cases e
      simp [this]
/-- one more, as it should be -/
structure Added (ns : List Nd) (parent : Int) (lk : Bool) (ms : List Nd) : Prop where
  len : ms.length = ns.length + 1
  old : ∀ (j : Nat) (n : Nd), ns[j]? = some n → ∃ m : Nd, ms[j]? = some m ∧ m.parent = n.parent ∧ m.linked = n.linked
  new : ∃ m : Nd, ms[ns.length]? = some m ∧ m.parent = parent ∧ m.linked = lk
  ok : TreeOk ms
theorem treeAdd_ok {ns : List Nd} (h : TreeOk ns) (hl : ns.length < 1000) {parent : Int} {linked : Bool} (hp : parent = -1 ∨ hasT ns parent = true) :
    ∃ ms, treeAdd ns parent linked = (ms, (ns.length : Int), 0) ∧ Added ns parent (linked && decide (parent ≠ -1)) ms := by
  unfold treeAdd
  have c1 : ¬ (parent ≠ -1 ∧ hasT ns parent = false) := by
    rintro ⟨h1, h2⟩
    rcases hp with h3 | h3
    · exact h1 h3
    · rw [h2] at h3; cases h3
  rw [if_neg c1, if_neg (by omega)]
  refine ⟨_, rfl, ?_⟩
  generalize hlk : (linked && decide (parent ≠ -1)) = lk
  have hpar : lk = true → ∃ p : Nat, parent = (p : Int) ∧ p < ns.length := by
    intro h1
    rw [← hlk] at h1
    simp at h1
    rcases hp with h3 | h3
    · exact absurd h3 h1.2
    · exact hasT_nat h3
  generalize hbase : (if lk = true then addKid ns parent.toNat ns.length else ns) = base
  have hblen : base.length = ns.length := by rw [← hbase]; split <;> simp [addKid_length]
  have hbget : ∀ (j : Nat) (n : Nd), ns[j]? = some n → ∃ m : Nd, base[j]? = some m ∧ m.parent = n.parent ∧ m.linked = n.linked ∧ m.kids = n.kids ++ (if lk = true ∧ parent = (j : Int) then [(ns.length : Int)] else []) := by
    intro j n hn
    rw [← hbase]
    by_cases h1 : lk = true
    · obtain ⟨p, hp1, hp2⟩ := hpar h1
      rw [if_pos h1, addKid_get, hn, hp1]
      by_cases e : j = p
      · subst e; simp [h1]
      · have : ¬ ((p : Int) = (j : Int)) := by omega
        simp [e, this]
    · rw [if_neg h1]
      exact ⟨n, hn, rfl, rfl, by simp [h1]⟩
  have hget : ∀ j, j < ns.length → (base ++ [(⟨parent, lk, []⟩ : Nd)])[j]? = base[j]? := fun j hj => List.getElem?_append_left (by omega)
  have hgetn : (base ++ [(⟨parent, lk, []⟩ : Nd)])[ns.length]? = some ⟨parent, lk, []⟩ := by
    rw [List.getElem?_append_right (by omega), hblen]; simp
  have hhang : ∀ (k : Int) (i : Nat), hangs (base ++ [(⟨parent, lk, []⟩ : Nd)]) k i = if i = ns.length then (lk && decide (parent = k)) else hangs ns k i := by
    intro k i
    unfold hangs
    by_cases e : i = ns.length
    · subst e; rw [hgetn]; simp
    · rw [if_neg e]
      by_cases hi : i < ns.length
      · rw [hget i hi]
        obtain ⟨m, h1, h2, h3, _⟩ := hbget i _ (List.getElem?_eq_getElem hi)
        rw [h1, List.getElem?_eq_getElem hi]; simp [h2, h3]
      · rw [List.getElem?_eq_none (by simp; omega), List.getElem?_eq_none (by omega)]
  have hkids : ∀ k : Int, kidsOf (base ++ [(⟨parent, lk, []⟩ : Nd)]) k = kidsOf ns k ++ (if lk = true ∧ parent = k then [ns.length] else []) := by
    intro k
    unfold kidsOf
    rw [List.length_append, hblen, List.length_singleton, List.range_succ, List.filter_append]
    congr 1
    · apply List.filter_congr
      intro i hi
      have : i ≠ ns.length := by have := List.mem_range.1 hi; omega
      rw [hhang, if_neg this]
    · simp only [List.filter_cons, List.filter_nil, hhang, if_true]
      by_cases h1 : lk = true <;> by_cases h2 : parent = k <;> simp [h1, h2]
  refine ⟨by simp [hblen], ?_, ⟨_, hgetn, rfl, rfl⟩, ⟨by simp [hblen]; omega, ?_, ?_⟩⟩
  · intro j n hn
    have hj : j < ns.length := (List.getElem?_eq_some_iff.1 hn).1
    obtain ⟨m, h1, h2, h3, _⟩ := hbget j n hn
    exact ⟨m, by rw [hget j hj]; exact h1, h2, h3⟩
  · intro k n hn
    rw [hkids]
    by_cases hk : k < ns.length
    · rw [hget k hk] at hn
      obtain ⟨m, h1, h2, h3, h4⟩ := hbget k _ (List.getElem?_eq_getElem hk)
      rw [hn] at h1; cases h1
      rw [h4, h.kids k _ (List.getElem?_eq_getElem hk), List.map_append]
      congr 1
      split <;> simp
    · have hk2 : k = ns.length := by
        have := (List.getElem?_eq_some_iff.1 hn).1
        simp [hblen] at this; omega
      subst hk2
      rw [hgetn] at hn; cases hn
      have e1 : kidsOf ns (ns.length : Int) = [] := by
        rw [List.eq_nil_iff_forall_not_mem]
        intro i hi
        have := kidsOf_lt h hi
        omega
      have e2 : ¬ (lk = true ∧ parent = (ns.length : Int)) := by
        rintro ⟨h1, h2⟩
        obtain ⟨p, h3, h4⟩ := hpar h1
        omega
      simp [e1, e2]
  · intro k n hn hl2
    by_cases hk : k < ns.length
    · rw [hget k hk] at hn
      obtain ⟨m, h1, h2, h3, h4⟩ := hbget k _ (List.getElem?_eq_getElem hk)
      rw [hn] at h1; cases h1
      rw [h2]
      exact h.par k _ (List.getElem?_eq_getElem hk) (by rw [← h3]; exact hl2)
    · have hk2 : k = ns.length := by
        have := (List.getElem?_eq_some_iff.1 hn).1
        simp [hblen] at this; omega
      subst hk2
      rw [hgetn] at hn; cases hn
      obtain ⟨p, h3, h4⟩ := hpar hl2
      simp only
      omega
/-! ### taken out -/
def killT (ns : List Nd) (A : Nat → Bool) : List Nd := (List.range ns.length).map fun k => match ns[k]? with
  | some n => { n with linked := n.linked && !A k, kids := n.kids.filter fun x => !A x.toNat }
  | none => ⟨0, false, []⟩
theorem killT_length (ns : List Nd) (A : Nat → Bool) : (killT ns A).length = ns.length := by simp [killT]
theorem killT_get (ns : List Nd) (A : Nat → Bool) (k : Nat) : (killT ns A)[k]? = (ns[k]?).map fun n => { n with linked := n.linked && !A k, kids := n.kids.filter fun x => !A x.toNat } := by
  unfold killT
  rw [List.getElem?_map]
  cases e : ns[k]? with
  | some n =>
    have hk : k < ns.length := (List.getElem?_eq_some_iff.1 e).1
    rw [List.getElem?_range hk]
    simp [e]
  | none =>
    have hk : ¬ k < ns.length := fun h9 => by rw [List.getElem?_eq_getElem h9] at e; cases e
    rw [List.getElem?_eq_none (by simpa using hk)]; rfl
theorem nd_eq (m : Nd) {b : Bool} {l : List Int} (h1 : b = m.linked) (h2 : l = m.kids) : ({ m with linked := b, kids := l } : Nd) = m := by
  subst h1; subst h2; rfl
theorem killT_killT (ns : List Nd) (A B : Nat → Bool) : killT (killT ns A) B = killT ns fun k => A k || B k := by
  apply List.ext_getElem?
  intro k
  rw [killT_get, killT_get, killT_get]
  cases ns[k]? with
  | none => rfl
  | some n => simp [List.filter_filter, Bool.and_assoc, Bool.and_comm]
theorem killT_none (ns : List Nd) {A : Nat → Bool} (h : ∀ k, A k = false) : killT ns A = ns := by
  apply List.ext_getElem?
  intro k
  rw [killT_get]
  cases ns[k]? with
  | none => rfl
  | some n => simp only [Option.map_some]; rw [nd_eq n (by simp [h]) (List.filter_eq_self.2 (by simp [h]))]
theorem hangs_kill (ns : List Nd) (A : Nat → Bool) (k : Int) (i : Nat) : hangs (killT ns A) k i = (hangs ns k i && !A i) := by
  unfold hangs
  rw [killT_get]
  cases ns[i]? with
  | none => rfl
  | some n => simp; cases n.linked <;> cases A i <;> simp
theorem kidsOf_kill (ns : List Nd) (A : Nat → Bool) (k : Int) : kidsOf (killT ns A) k = (kidsOf ns k).filter fun i => !A i := by
  unfold kidsOf
  rw [killT_length, List.filter_filter]
  apply List.filter_congr
  intro i _
  rw [hangs_kill, Bool.and_comm]
theorem TreeOk.kill {ns : List Nd} (h : TreeOk ns) (A : Nat → Bool) : TreeOk (killT ns A) := by
  refine ⟨by rw [killT_length]; exact h.len, ?_, ?_⟩
  · intro k n hn
    rw [killT_get] at hn
    cases e : ns[k]? with
    | none => rw [e] at hn; cases hn
    | some m =>
      rw [e] at hn; simp at hn; subst hn
      simp only
      rw [kidsOf_kill, h.kids k m e, List.filter_map]
      rfl
  · intro k n hn hl
    rw [killT_get] at hn
    cases e : ns[k]? with
    | none => rw [e] at hn; cases hn
    | some m =>
      rw [e] at hn; simp at hn; subst hn
      simp at hl
      exact h.par k m e hl.1
theorem idxI_filter (x : Int) : ∀ (l : List Int) (k : Nat), l.Nodup → x ∈ l → ∃ j : Nat, idxI l x k = (j : Int) ∧ k ≤ j ∧ l.eraseIdx (j - k) = l.filter fun y => decide (y ≠ x)
  | [], k, _, h => by simp at h
  | y :: r, k, hn, h => by
    unfold idxI
    by_cases e : x = y
    · subst e
      rw [if_pos rfl]
      refine ⟨k, rfl, Nat.le_refl _, ?_⟩
      have hx : x ∉ r := (List.nodup_cons.1 hn).1
      simp only [Nat.sub_self, List.eraseIdx_cons_zero]
      rw [List.filter_cons]
      simp
      exact (List.filter_eq_self.2 fun a ha => by simp; rintro rfl; exact hx ha).symm
    · rw [if_neg e]
      have hxr : x ∈ r := by simpa [e] using h
      obtain ⟨j, h1, h2, h3⟩ := idxI_filter x r (k + 1) (List.nodup_cons.1 hn).2 hxr
      refine ⟨j, h1, by omega, ?_⟩
      have : j - k = (j - (k + 1)) + 1 := by omega
      rw [this, List.eraseIdx_cons_succ, h3]
      rw [List.filter_cons]
      simp [Ne.symm e]
/-- one is taken out, as it should be -/
theorem detP_ok {ns : List Nd} (h : TreeOk ns) {i : Nat} (hi : i < ns.length) : detP ns i = some (killT ns fun k => decide (k = i)) := by
  have hn : ns[i]? = some ns[i] := List.getElem?_eq_getElem hi
  unfold detP
  simp only [Int.toNat_natCast]
  cases hl : ns[i].linked
  · have h1 : okd ns i = true := by simp [okd, hn, hl]
    rw [if_pos ⟨by omega, h1, h.kok⟩]
    simp only [treeDet, hn, hl]
    congr 1
    apply List.ext_getElem?
    intro k
    rw [killT_get]
    cases e : ns[k]? with
    | none => simp [e]
    | some m =>
      have hk2 : m.kids.filter (fun x => !decide (x.toNat = i)) = m.kids := by
        apply List.filter_eq_self.2
        intro a ha
        rw [h.kids k m e] at ha
        obtain ⟨j, hj, rfl⟩ := List.mem_map.1 ha
        simp
        rintro rfl
        obtain ⟨n, h2, h3, _⟩ := kidsOf_mem.1 hj
        rw [hn] at h2; cases h2
        rw [hl] at h3; cases h3
      simp only [Option.map_some]
      rw [nd_eq m ?_ hk2]
      · exact e
      · by_cases hki : k = i
        · subst hki; rw [hn] at e; cases e; simp [hl]
        · simp [hki]
  · have hp := h.par i _ hn hl
    obtain ⟨p, hp1⟩ := Int.eq_ofNat_of_zero_le hp.1
    rw [hp1] at hp
    have hpi : p < i := by omega
    have hpl : p < ns.length := by omega
    have hpm : ns[p]? = some ns[p] := List.getElem?_eq_getElem hpl
    have hki : (i : Int) ∈ ns[p].kids := by
      rw [h.kids p _ hpm]
      exact List.mem_map.2 ⟨i, kidsOf_mem.2 ⟨_, hn, hl, hp1⟩, rfl⟩
    have hnd : ns[p].kids.Nodup := by
      rw [h.kids p _ hpm]
      exact List.Pairwise.map _ (fun a b (hab : a ≠ b) => by show (a : Int) ≠ (b : Int); omega) (kidsOf_nodup ns p)
    obtain ⟨j, h1, _, h3⟩ := idxI_filter (i : Int) _ 0 hnd hki
    simp at h3
    have hok : okd ns i = true := by
      have h4 : ¬ p = i := by omega
      simp [okd, hn, hl, hp1, h4, hpm, h1]
    rw [if_pos ⟨by omega, hok, h.kok⟩]
    simp only [treeDet, hn, hl, if_true, hp1, Int.toNat_natCast]
    congr 1
    have hun : unlink ns i = ns.set i { ns[i] with linked := false } := by simp [unlink, hn]
    rw [hun]
    have hpm2 : (ns.set i { ns[i] with linked := false })[p]? = some ns[p] := by rw [List.getElem?_set_ne (by omega)]; exact hpm
    unfold delKid
    rw [hpm2]
    simp only [h1, Int.toNat_natCast]
    apply List.ext_getElem?
    intro k
    rw [killT_get]
    have hkf : ∀ m, ns[k]? = some m → k ≠ p → m.kids.filter (fun x => !decide (x.toNat = i)) = m.kids := by
      intro m hm hkp
      apply List.filter_eq_self.2
      intro a ha
      rw [h.kids k m hm] at ha
      obtain ⟨q, hq, rfl⟩ := List.mem_map.1 ha
      simp
      rintro rfl
      obtain ⟨n, h5, h6, h7⟩ := kidsOf_mem.1 hq
      rw [hn] at h5; cases h5
      rw [hp1] at h7; omega
    by_cases hkp : k = p
    · subst hkp
      rw [List.getElem?_set_self (by simpa using hpl), hpm]
      have hki2 : ¬ k = i := by omega
      simp only [Option.map_some, hki2, decide_false, Bool.not_false, Bool.and_true]
      congr 1
      congr 1
      rw [h3]
      apply List.filter_congr
      intro x hx
      rw [h.kids k _ hpm] at hx
      obtain ⟨q, hq, rfl⟩ := List.mem_map.1 hx
      simp
      by_cases hqi : q = i <;> simp [hqi] <;> omega
    · rw [List.getElem?_set_ne (Ne.symm hkp)]
      by_cases hki2 : k = i
      · subst hki2
        rw [List.getElem?_set_self hi, hn]
        simp only [Option.map_some, decide_true, Bool.not_true, Bool.and_false]
        rw [hkf _ hn hkp]
      · rw [List.getElem?_set_ne (Ne.symm hki2)]
        cases e : ns[k]? with
        | none => rfl
        | some m =>
          simp only [Option.map_some]
          rw [nd_eq m (by simp [hki2]) (hkf _ e hkp)]
/-! ### walks -/
def pre (ns : List Nd) : Nat → Nat → List Nat
  | 0, _ => []
  | f + 1, k => k :: (kidsOf ns (k : Int)).flatMap (pre ns f)
theorem pre_ge {ns : List Nd} (h : TreeOk ns) : ∀ (f k i : Nat), i ∈ pre ns f k → k ≤ i ∧ (k < ns.length → i < ns.length)
  | 0, k, i, hi => by simp [pre] at hi
  | f + 1, k, i, hi => by
    simp only [pre, List.mem_cons, List.mem_flatMap] at hi
    rcases hi with rfl | ⟨j, hj, hi⟩
    · exact ⟨Nat.le_refl _, id⟩
    · have h1 := kidsOf_lt h hj
      have h2 := pre_ge h f j i hi
      exact ⟨by omega, fun _ => h2.2 h1.2⟩
end Go.AM


/- ctx: what cancel does, as a walk down the tree; in plain Lean. -/
set_option linter.unusedVariables false
set_option linter.unusedSimpArgs false
namespace Go.AM
theorem pre_up {ns : List Nd} : ∀ (f k i : Nat), i ∈ pre ns f k → i ≠ k → ∃ n, ns[i]? = some n ∧ n.linked = true ∧ n.parent.toNat ∈ pre ns f k ∧ 0 ≤ n.parent ∨ False
  | 0, k, i, h, _ => by simp [pre] at h
  | f + 1, k, i, h, hik => by
    have h' := h
    simp only [pre, List.mem_cons, List.mem_flatMap] at h
    rcases h with h | ⟨j, hj, hi⟩
    · exact absurd h hik
    · by_cases e : i = j
      · subst e
        obtain ⟨n, h1, h2, h3⟩ := kidsOf_mem.1 hj
        exact ⟨n, .inl ⟨h1, h2, by rw [h3]; simp [pre], by omega⟩⟩
      · obtain ⟨n, h1⟩ := pre_up f j i hi e
        rcases h1 with ⟨h1, h2, h3, h4⟩ | h1
        · refine ⟨n, .inl ⟨h1, h2, ?_, h4⟩⟩
          simp only [pre, List.mem_cons, List.mem_flatMap]
          exact .inr ⟨j, hj, h3⟩
        · exact h1.elim
theorem pre_apart {ns : List Nd} (ht : TreeOk ns) {k j1 j2 : Nat} (h1 : j1 ∈ kidsOf ns (k : Int)) (h2 : j2 ∈ kidsOf ns (k : Int)) (hlt : j1 < j2) (f g : Nat) : ∀ i, i ∈ pre ns f j1 → i ∈ pre ns g j2 → False := by
  intro i
  induction i using Nat.strongRecOn with
  | ind i ih =>
    intro hi1 hi2
    have hg := (pre_ge ht _ _ _ hi2).1
    obtain ⟨n, hn⟩ := pre_up f j1 i hi1 (by omega)
    rcases hn with ⟨n1, n2, n3, n4⟩ | hn
    case inr => exact hn
    by_cases e : i = j2
    · subst e
      obtain ⟨m, m1, m2, m3⟩ := kidsOf_mem.1 h2
      rw [n1] at m1; cases m1
      rw [m3] at n3
      have := (pre_ge ht _ _ _ n3).1
      have := kidsOf_lt ht h1
      simp at *
      omega
    · obtain ⟨m, hm⟩ := pre_up g j2 i hi2 e
      rcases hm with ⟨m1, m2, m3, m4⟩ | hm
      case inr => exact hm
      rw [n1] at m1; cases m1
      have := ht.par i n n1 n2
      exact ih n.parent.toNat (by omega) n3 m3
theorem pre_nodup {ns : List Nd} (ht : TreeOk ns) : ∀ (f k : Nat), (pre ns f k).Nodup
  | 0, _ => by simp [pre]
  | f + 1, k => by
    simp only [pre, List.nodup_cons]
    refine ⟨?_, ?_⟩
    · intro h
      obtain ⟨j, hj, hk⟩ := List.mem_flatMap.1 h
      have h1 := kidsOf_lt ht hj
      have h2 := (pre_ge ht _ _ _ hk).1
      omega
    · unfold List.Nodup
      rw [List.pairwise_flatMap]
      refine ⟨fun j hj => pre_nodup ht f j, ?_⟩
      have hs : (kidsOf ns (k : Int)).Pairwise (fun a b => a < b) := List.Pairwise.sublist List.filter_sublist List.pairwise_lt_range
      refine hs.imp_of_mem ?_
      intro a b ha hb hab x hx y hy e
      subst e
      exact pre_apart ht ha hb hab _ _ x hx hy
theorem nodup_len : ∀ (n : Nat) (l : List Nat), l.Nodup → (∀ x ∈ l, x < n) → l.length ≤ n
  | 0, l, _, h => by
    cases l with
    | nil => simp
    | cons a r => have := h a (by simp); omega
  | n + 1, l, hn, h => by
    have h1 : (l.filter fun x => decide (x ≠ n)).length ≤ n := by
      refine nodup_len n _ (hn.sublist List.filter_sublist) ?_
      intro x hx
      simp at hx
      have := h x hx.1
      omega
    have h2 : l.length ≤ (l.filter fun x => decide (x ≠ n)).length + 1 := by
      by_cases hm : n ∈ l
      · have := List.nodup_iff_count.1 hn n
        have h3 : (l.filter fun x => decide (x ≠ n)).length + l.count n = l.length := by
          rw [← List.countP_eq_length_filter, List.count_eq_countP]
          have := List.length_eq_countP_add_countP (fun x => decide (x ≠ n)) (l := l)
          rw [this]
          congr 1
          apply List.countP_congr
          intro x _
          simp
        omega
      · have : (l.filter fun x => decide (x ≠ n)) = l := List.filter_eq_self.2 fun x hx => by simp; rintro rfl; exact hm hx
        rw [this]; omega
    omega
theorem pre_len {ns : List Nd} (ht : TreeOk ns) (f : Nat) {k : Nat} (hk : k < ns.length) : (pre ns f k).length ≤ ns.length :=
  nodup_len _ _ (pre_nodup ht f k) fun x hx => (pre_ge ht _ _ _ hx).2 hk
/-! ### one is hit -/
def CX.endT (S : CX) : Option Nat → CX × List Wk
  | none => (S, [])
  | some a => ({ S with χ := updC S.χ a (S.χ a).endS.1 }, (S.χ a).endS.2)
def CX.stopT (S : CX) (id : Int) : CX := match S.σ.t with
  | none => S
  | some _ => match S.τ.one id with
    | none => S
    | some _ => { S with τ := { S.τ with x := S.τ.x.stop id } }
def hitL (err cause : Int) (acc : CRes) (node : Nat) : CRes :=
  let w := (acc.1.σ.who node).getD 0
  if w < 0 then match acc.1.σ.afts[(-w - 1).toNat]? with
    | some x => ({ acc.1 with σ := { acc.1.σ with afts := acc.1.σ.afts.set (-w - 1).toNat { x with over := true } } }, acc.2.1, acc.2.2 ++ [(-w - 1, x.prog)])
    | none => acc
  else match acc.1.σ.ones[w.toNat]? with
    | some x =>
      let r := (acc.1.setOne w.toNat { x with err := err, cause := cause }).endT x.c
      (r.1.stopT x.timer, acc.2.1 ++ [⟨w, err, cause, r.2⟩], acc.2.2)
    | none => acc
theorem endT_tree (S : CX) (a : Option Nat) (ns : List Nd) : (S.setTree ns).endT a = ((S.endT a).1.setTree ns, (S.endT a).2) := by cases a <;> rfl
theorem stopT_tree (S : CX) (id : Int) (ns : List Nd) : (S.setTree ns).stopT id = (S.stopT id).setTree ns := by
  have e1 : (S.setTree ns).σ.t = S.σ.t := rfl
  have e2 : (S.setTree ns).τ = S.τ := rfl
  unfold CX.stopT
  rw [e1, e2]
  cases S.σ.t with
  | none => rfl
  | some s => simp only []; cases S.τ.one id <;> rfl
theorem hitL_tree (err cause : Int) (S : CX) (out : List Lap) (sts : List (Int × Int)) (node : Nat) (ns : List Nd) :
    hitL err cause (S.setTree ns, out, sts) node = ((hitL err cause (S, out, sts) node).1.setTree ns, (hitL err cause (S, out, sts) node).2) := by
  have e1 : (S.setTree ns).σ.who = S.σ.who := rfl
  have e2 : (S.setTree ns).σ.afts = S.σ.afts := rfl
  have e3 : (S.setTree ns).σ.ones = S.σ.ones := rfl
  unfold hitL
  simp only [e1, e2, e3]
  split
  · split <;> rfl
  · split
    · rename_i x hx
      have e4 : ∀ i o, (S.setTree ns).setOne i o = (S.setOne i o).setTree ns := fun _ _ => rfl
      rw [e4, endT_tree]
      simp only [stopT_tree]
    · rfl
theorem hits_tree (err cause : Int) (ns : List Nd) : ∀ (l : List Nat) (S : CX) (out : List Lap) (sts : List (Int × Int)), l.foldl (hitL err cause) (S.setTree ns, out, sts) = ((l.foldl (hitL err cause) (S, out, sts)).1.setTree ns, (l.foldl (hitL err cause) (S, out, sts)).2)
  | [], _, _, _ => rfl
  | a :: r, S, out, sts => by
    simp only [List.foldl_cons]
    rw [hitL_tree]
    generalize hitL err cause (S, out, sts) a = x
    obtain ⟨x1, x2, x3⟩ := x
    exact hits_tree err cause ns r x1 x2 x3
theorem hitL_out (err cause : Int) (S : CX) (out : List Lap) (sts : List (Int × Int)) (node : Nat) :
    hitL err cause (S, out, sts) node = ((hitL err cause (S, [], []) node).1, out ++ (hitL err cause (S, [], []) node).2.1, sts ++ (hitL err cause (S, [], []) node).2.2) := by
  unfold hitL
  simp only
  split
  · split <;> simp
  · split <;> simp
theorem hits_out (err cause : Int) : ∀ (l : List Nat) (S : CX) (out : List Lap) (sts : List (Int × Int)), l.foldl (hitL err cause) (S, out, sts) = ((l.foldl (hitL err cause) (S, [], [])).1, out ++ (l.foldl (hitL err cause) (S, [], [])).2.1, sts ++ (l.foldl (hitL err cause) (S, [], [])).2.2)
  | [], _, _, _ => by simp
  | a :: r, S, out, sts => by
    simp only [List.foldl_cons]
    rw [hitL_out]
    generalize hitL err cause (S, [], []) a = x
    obtain ⟨x1, x2, x3⟩ := x
    simp only
    rw [hits_out err cause r x1 (out ++ x2), hits_out err cause r x1 x2]
    simp
/-- one that may be hit -/
def LiveAt (T : List Nd) (S : CX) (i : Nat) : Prop :=
  (∃ (w : Nat) (x : One), S.σ.who i = some (w : Int) ∧ S.σ.ones[w]? = some x ∧ x.node = i ∧ x.free = false ∧ x.err = 0 ∧ (∀ a, x.c = some a → (S.χ a).recvs.length + (S.χ a).sends.length ≤ 1000000) ∧ (∀ s o, S.σ.t = some s → S.τ.one x.timer = some o → o.c = none)) ∨
  (∃ (k : Nat) (x : Aft), S.σ.who i = some (-(k : Int) - 1) ∧ k ≤ 1000 ∧ S.σ.afts[k]? = some x ∧ x.node = i ∧ kidsOf T (i : Int) = [])
theorem rmId_len (id : Int) (l : List It) : (rmId id l).length ≤ l.length := List.length_filter_le _ _
theorem stopT_len (S : CX) (id : Int) : (S.stopT id).τ.x.l.length ≤ S.τ.x.l.length := by
  unfold CX.stopT
  cases S.σ.t with
  | none => exact Nat.le_refl _
  | some s =>
    simp only []
    cases S.τ.one id with
    | none => exact Nat.le_refl _
    | some o => exact rmId_len _ _
theorem stopT_facts (S : CX) (id : Int) : (S.stopT id).σ = S.σ ∧ (S.stopT id).χ = S.χ ∧ (S.stopT id).τ.ones = S.τ.ones := by
  unfold CX.stopT
  cases S.σ.t with
  | none => exact ⟨rfl, rfl, rfl⟩
  | some s =>
    simp only []
    cases S.τ.one id <;> exact ⟨rfl, rfl, rfl⟩
theorem endT_facts (S : CX) (a : Option Nat) : (S.endT a).1.σ = S.σ ∧ (S.endT a).1.τ = S.τ ∧ ∀ b n, (S.χ b).recvs.length + (S.χ b).sends.length ≤ n → ((S.endT a).1.χ b).recvs.length + ((S.endT a).1.χ b).sends.length ≤ n := by
  cases a with
  | none => exact ⟨rfl, rfl, fun _ _ h => h⟩
  | some a =>
    refine ⟨rfl, rfl, fun b n h => ?_⟩
    simp only [CX.endT, updC]
    split
    · rename_i e; subst e
      unfold Ch.endS
      split
      · simp [Ch.ended]
      · exact h
    · exact h
/-- what a hit keeps -/
theorem hitL_keeps (err cause : Int) (acc : CRes) (i : Nat) : (hitL err cause acc i).1.σ.who = acc.1.σ.who ∧ (hitL err cause acc i).1.σ.tree = acc.1.σ.tree ∧ (hitL err cause acc i).1.σ.t = acc.1.σ.t ∧ (hitL err cause acc i).1.τ.ones = acc.1.τ.ones ∧ (hitL err cause acc i).1.τ.x.l.length ≤ acc.1.τ.x.l.length ∧
    (∀ b n, (acc.1.χ b).recvs.length + (acc.1.χ b).sends.length ≤ n → ((hitL err cause acc i).1.χ b).recvs.length + ((hitL err cause acc i).1.χ b).sends.length ≤ n) ∧ (hitL err cause acc i).2.1.length ≤ acc.2.1.length + 1 ∧ (hitL err cause acc i).2.2.length ≤ acc.2.2.length + 1 := by
  unfold hitL
  simp only
  split
  · split <;> simp
  · split
    · rename_i x hx
      have h1 := stopT_facts ((acc.1.setOne ((acc.1.σ.who i).getD 0).toNat { x with err := err, cause := cause }).endT x.c).1 x.timer
      have h2 := endT_facts (acc.1.setOne ((acc.1.σ.who i).getD 0).toNat { x with err := err, cause := cause }) x.c
      have h3 := stopT_len ((acc.1.setOne ((acc.1.σ.who i).getD 0).toNat { x with err := err, cause := cause }).endT x.c).1 x.timer
      simp only
      rw [h1.1, h1.2.1, h1.2.2, h2.1]
      rw [h2.2.1] at h3
      refine ⟨rfl, rfl, rfl, by rw [h2.2.1]; rfl, h3, ?_, by simp, by simp⟩
      intro b n hb
      exact h2.2.2 b n hb
    · simp
theorem one_eq {τ τ' : Tms} (h : τ'.ones = τ.ones) (id : Int) : τ'.one id = τ.one id := by
  unfold Tms.one Tms.has; rw [h]
theorem LiveAt.hit {T : List Nd} {acc : CRes} {i j : Nat} (err cause : Int) (h : LiveAt T acc.1 i) (hj : LiveAt T acc.1 j) (hij : i ≠ j) : LiveAt T (hitL err cause acc j).1 i := by
  have hk := hitL_keeps err cause acc j
  have hones : ∀ (w : Nat) (x : One), acc.1.σ.ones[w]? = some x → x.node = i → (hitL err cause acc j).1.σ.ones[w]? = some x := by
    intro w x hx hn
    unfold hitL
    simp only
    split
    · split <;> exact hx
    · rename_i hneg
      split
      · rename_i y hy
        simp only
        rw [(stopT_facts _ _).1, (endT_facts _ _).1]
        show (acc.1.σ.ones.set _ _)[w]? = _
        rw [List.getElem?_set_ne]
        · exact hx
        · intro e
          rcases hj with ⟨w2, y2, q1, q2, q3, _⟩ | ⟨k2, y2, q1, _⟩
          · rw [q1] at e hy
            simp at e hy
            rw [q2] at hy; cases hy
            subst e
            rw [q2] at hx; cases hx
            omega
          · rw [q1] at hneg; simp at hneg; omega
      · exact hx
  have hafts : ∀ (k : Nat) (x : Aft), acc.1.σ.afts[k]? = some x → x.node = i → (hitL err cause acc j).1.σ.afts[k]? = some x := by
    intro w x hx hn
    unfold hitL
    simp only
    split
    · rename_i hneg
      split
      · rename_i y hy
        show (acc.1.σ.afts.set _ _)[w]? = _
        rw [List.getElem?_set_ne]
        · exact hx
        · intro e
          rcases hj with ⟨w2, y2, q1, _⟩ | ⟨k2, y2, q1, q5, q2, q3, _⟩
          · rw [q1] at hneg; simp at hneg; omega
          · rw [q1] at e hy
            have e2 : (-(-(k2 : Int) - 1) - 1).toNat = k2 := by omega
            simp only [Option.getD_some, e2] at e hy
            rw [q2] at hy; cases hy
            subst e
            rw [q2] at hx; cases hx
            omega
      · exact hx
    · split
      · simp only
        rw [(stopT_facts _ _).1, (endT_facts _ _).1]
        exact hx
      · exact hx
  rcases h with ⟨w, x, h1, h2, h3, h4, h5, h6, h7⟩ | ⟨k, x, h1, h2, h3, h4, h5⟩
  · exact .inl ⟨w, x, by rw [hk.1]; exact h1, hones w x h2 h3, h3, h4, h5, fun a ha => hk.2.2.2.2.2.1 a _ (h6 a ha), fun s o hs ho => h7 s o (by rw [← hk.2.2.1]; exact hs) (by rw [← one_eq hk.2.2.2.1]; exact ho)⟩
  · exact .inr ⟨k, x, by rw [hk.1]; exact h1, h2, hafts k x h3 h4, h4, h5⟩
theorem LiveAt.tree {T : List Nd} {S : CX} {i : Nat} (h : LiveAt T S i) (ns : List Nd) : LiveAt T (S.setTree ns) i := h
/-- what hits keep -/
theorem hits_keep {T : List Nd} (err cause : Int) : ∀ (l : List Nat) (acc : CRes), (∀ i ∈ l, LiveAt T acc.1 i) → l.Nodup → let r := l.foldl (hitL err cause) acc
    r.1.σ.who = acc.1.σ.who ∧ r.1.σ.tree = acc.1.σ.tree ∧ r.1.τ.x.l.length ≤ acc.1.τ.x.l.length ∧ r.2.1.length ≤ acc.2.1.length + l.length ∧ r.2.2.length ≤ acc.2.2.length + l.length ∧ ∀ i, LiveAt T acc.1 i → i ∉ l → LiveAt T r.1 i
  | [], acc, _, _ => by simp
  | a :: r, acc, h, hn => by
    have hk := hitL_keeps err cause acc a
    have ha := h a (by simp)
    have hn' := List.nodup_cons.1 hn
    obtain ⟨i1, i2, i3, i4, i5, i6⟩ := hits_keep err cause r (hitL err cause acc a) (fun i hi => (h i (by simp [hi])).hit err cause ha (by rintro rfl; exact hn'.1 hi)) hn'.2
    simp only [List.foldl_cons, List.length_cons]
    refine ⟨i1.trans hk.1, i2.trans hk.2.1, Nat.le_trans i3 hk.2.2.2.2.1, by have := hk.2.2.2.2.2.2.1; omega, by have := hk.2.2.2.2.2.2.2; omega, ?_⟩
    intro i hi hil
    simp at hil
    exact i6 i (hi.hit err cause ha hil.1) hil.2
end Go.AM


/- ctx: cancel is a walk. -/
set_option linter.unusedVariables false
set_option linter.unusedSimpArgs false
namespace Go.AM
/-- what a walk that hits all makes, and what is taken out -/
def walked (T : List Nd) (err cause : Int) (A : Nat → Bool) (l : List Nat) (acc : CRes) : CRes :=
  ((l.foldl (hitL err cause) acc).1.setTree (killT T fun i => A i || decide (i ∈ l)), (l.foldl (hitL err cause) acc).2)
def CancelWalk (T : List Nd) (n : Nat) : Prop := ∀ (k : Nat) (A : Nat → Bool) (S : CX) (id : Nat) (err cause : Int), T.length < k + n → k < T.length → S.σ.tree = killT T A → (∀ i ∈ pre T n k, A i = false) → (∀ i ∈ pre T n k, LiveAt T S i) → S.σ.who k = some (id : Int) → S.τ.x.l.length ≤ 1000000 →
  S.cancelP n id err cause = some (walked T err cause A (pre T n k) (S, [], []))
theorem startP_walk {T : List Nd} (ht : TreeOk T) {S : CX} {A : Nat → Bool} {j k : Nat} {x : Aft} (hS : S.σ.tree = killT T A) (hj : j < T.length) (h1 : S.σ.who j = some (-(k : Int) - 1)) (h3 : S.σ.afts[k]? = some x) (h4 : x.node = j) (err cause : Int) (out : List Lap) (sts : List (Int × Int)) :
    ∃ σ', S.σ.startP k = some (σ', ((k : Int), x.prog)) ∧ ({ S with σ := σ' } : CX) = (hitL err cause (S, out, sts) j).1.setTree (killT T fun i => A i || decide (i = j)) ∧ (hitL err cause (S, out, sts) j).2 = (out, sts ++ [((k : Int), x.prog)]) := by
  have hdet := detP_ok (ht.kill A) (i := j) (by rw [killT_length]; exact hj)
  rw [killT_killT] at hdet
  have hneg : (-(k : Int) - 1) < 0 := by omega
  have hk : (-(-(k : Int) - 1) - 1) = (k : Int) := by omega
  refine ⟨{ S.σ with afts := S.σ.afts.set k { x with over := true }, tree := killT T fun i => A i || decide (i = j) }, ?_, ?_, ?_⟩
  · unfold Cs.startP
    rw [if_pos (by omega)]
    simp only [Int.toNat_natCast, h3, h4, hS, hdet]
  · unfold hitL
    simp only [h1, Option.getD_some, hneg, if_true, hk, Int.toNat_natCast, h3]
    rfl
  · unfold hitL
    simp only [h1, Option.getD_some, hneg, if_true, hk, Int.toNat_natCast, h3]
theorem kids_walk {T : List Nd} (ht : TreeOk T) {n : Nat} (ih : CancelWalk T n) (err cause : Int) (k : Nat) : ∀ (js : List Nat) (S : CX) (A : Nat → Bool) (out : List Lap) (sts : List (Int × Int)), js.Pairwise (fun a b => a < b) → (∀ j ∈ js, j ∈ kidsOf T (k : Int)) → T.length < k + n + 1 → S.σ.tree = killT T A → (∀ j ∈ js, ∀ i ∈ pre T n j, A i = false) → (∀ j ∈ js, ∀ i ∈ pre T n j, LiveAt T S i) → S.τ.x.l.length ≤ 1000000 →
    out.length + js.length * T.length ≤ 1000000 → sts.length + js.length * T.length ≤ 1000000 →
    (js.map fun (i : Nat) => (i : Int)).foldlM (stepP (CX.cancelP n) err cause) (S, out, sts) = some (walked T err cause A (js.flatMap (pre T n)) (S, out, sts))
  | [], S, A, out, sts, _, _, _, hS, _, _, _, _, _ => by
    simp only [List.map_nil, List.foldlM_nil, List.flatMap_nil, walked, List.foldl_nil]
    have : (killT T fun i => A i || decide (i ∈ ([] : List Nat))) = S.σ.tree := by rw [hS]; congr 1; funext i; simp
    rw [this]; rfl
  | j :: r, S, A, out, sts, hp, hk, hn, hS, hA, hL, hτ, ho, hs => by
    have hjk := kidsOf_lt ht (hk j (by simp))
    have hpw := List.pairwise_cons.1 hp
    have hlenj : (pre T n j).length ≤ T.length := pre_len ht n hjk.2
    have hn0 : n ≠ 0 := by rintro rfl; omega
    have hLj := hL j (by simp)
    have hAj := hA j (by simp)
    have hself : j ∈ pre T n j := by cases n with | zero => exact absurd rfl hn0 | succ m => simp [pre]
    simp only [List.length_cons, Nat.add_mul, Nat.one_mul] at ho hs
    simp only [List.map_cons, List.foldlM_cons]
    -- one step is the walk below j
    have key : stepP (CX.cancelP n) err cause (S, out, sts) j = some (walked T err cause A (pre T n j) (S, out, sts)) := by
      rcases hLj j hself with ⟨w, x, h1, h2, h3, h4, h5, h6, h7⟩ | ⟨q, x, h1, h2, h3, h4, h5⟩
      · have hc := ih j A S w err cause (by omega) hjk.2 hS hAj hLj h1 hτ
        have hnn : ¬ ((w : Int) < 0) := by omega
        unfold stepP
        simp only [h1, Option.getD_some, hnn, if_false, hc, walked]
        have hkeep := hits_keep err cause (pre T n j) (S, [], []) hLj (pre_nodup ht n j)
        simp only [List.length_nil, Nat.zero_add] at hkeep
        obtain ⟨_, _, _, b4, b5, _⟩ := hkeep
        rw [if_pos ⟨Nat.le_trans (Nat.add_le_add_left b4 _) (by omega), Nat.le_trans (Nat.add_le_add_left b5 _) (by omega)⟩]
        rw [hits_out err cause (pre T n j) S out sts]
      · obtain ⟨σ', e1, e2, e3⟩ := startP_walk ht (S := S) (A := A) hS hjk.2 h1 h3 h4 err cause out sts
        have hneg : (-(q : Int) - 1) < 0 := by omega
        have hkk : (-(-(q : Int) - 1) - 1) = (q : Int) := by omega
        have hpj : pre T n j = [j] := by
          cases n with
          | zero => exact absurd rfl hn0
          | succ m => simp [pre, h5]
        unfold stepP
        simp only [h1, Option.getD_some, hneg, if_true, hkk, e1]
        rw [if_pos ⟨by omega, by omega⟩]
        simp only [walked, hpj, List.foldl_cons, List.foldl_nil, List.mem_singleton]
        rw [e2, e3]
    rw [key]
    show List.foldlM _ _ _ = _
    have hkeep := hits_keep err cause (pre T n j) (S, out, sts) hLj (pre_nodup ht n j)
    simp only at hkeep
    obtain ⟨k1, k2, k3, k4, k5, k6⟩ := hkeep
    have hap : ∀ j' ∈ r, ∀ i ∈ pre T n j', i ∉ pre T n j := fun j' hj' i hi h9 => pre_apart ht (hk j (by simp)) (hk j' (by simp [hj'])) (hpw.1 j' hj') n n i h9 hi
    generalize hX : (pre T n j).foldl (hitL err cause) (S, out, sts) = X at k1 k2 k3 k4 k5 k6
    have hw : walked T err cause A (pre T n j) (S, out, sts) = (X.1.setTree (killT T fun i => A i || decide (i ∈ pre T n j)), X.2.1, X.2.2) := by simp only [walked, hX]
    rw [hw]
    rw [kids_walk ht ih err cause k r (X.1.setTree (killT T fun i => A i || decide (i ∈ pre T n j))) (fun i => A i || decide (i ∈ pre T n j)) X.2.1 X.2.2 hpw.2 (fun j' hj' => hk j' (by simp [hj'])) hn rfl ?_ ?_ ?_ ?_ ?_]
    · simp only [walked, List.flatMap_cons, List.foldl_append, hX]
      rw [hits_tree]
      obtain ⟨X1, X2, X3⟩ := X
      simp only
      have hA3 : (fun i => A i || decide (i ∈ pre T n j) || decide (i ∈ r.flatMap (pre T n))) = fun i => A i || decide (i ∈ pre T n j ++ r.flatMap (pre T n)) := by
        funext i; simp [Bool.or_assoc]
      rw [hA3]
      rfl
    · intro j' hj' i hi
      have h1 := hA j' (by simp [hj']) i hi
      have h2 := hap j' hj' i hi
      simp [h1, h2]
    · intro j' hj' i hi
      exact (k6 i (hL j' (by simp [hj']) i hi) (hap j' hj' i hi)).tree _
    · exact Nat.le_trans k3 hτ
    · omega
    · omega
theorem cancel_walk {T : List Nd} (ht : TreeOk T) : ∀ n, CancelWalk T n
  | 0 => by intro k A S id err cause h1 h2; omega
  | n + 1 => by
    intro k A S id err cause h1 h2 hS hA hL hw hτ
    have ih := cancel_walk ht n
    have hself : k ∈ pre T (n + 1) k := by simp [pre]
    have hkid : ∀ j ∈ kidsOf T (k : Int), ∀ i ∈ pre T n j, i ∈ pre T (n + 1) k ∧ i ≠ k := fun j hj i hi => by
      have h3 := kidsOf_lt ht hj
      have h4 := (pre_ge ht _ _ _ hi).1
      refine ⟨?_, by omega⟩
      simp only [pre, List.mem_cons, List.mem_flatMap]
      exact .inr ⟨j, hj, hi⟩
    rcases hL k hself with ⟨w, x, q1, q2, q3, q4, q5, q6, q7⟩ | ⟨q, x, q1, _⟩
    case inr => rw [hw] at q1; simp at q1; omega
    rw [hw] at q1
    have hwi : w = id := by simp at q1; omega
    subst hwi
    unfold CX.cancelP
    rw [if_pos (by omega)]
    simp only [Int.toNat_natCast, q2]
    rw [if_neg (by simp [q4, q5])]
    have hend : (S.setOne w { x with err := err, cause := cause }).endP x.c = some ((S.setOne w { x with err := err, cause := cause }).endT x.c) := by
      unfold CX.endP CX.endT
      cases hc : x.c with
      | none => rfl
      | some a => exact if_pos (q6 a hc)
    rw [hend]
    generalize hS1 : (S.setOne w { x with err := err, cause := cause }).endT x.c = S1
    have hf1 := endT_facts (S.setOne w { x with err := err, cause := cause }) x.c
    rw [hS1] at hf1
    obtain ⟨S1, ws⟩ := S1
    simp only at hf1 ⊢
    have hstop : S1.stopP x.timer = some (S1.stopT x.timer) := by
      have e1 : S1.σ.t = S.σ.t := by rw [hf1.1]; rfl
      have e2 : S1.τ = S.τ := by rw [hf1.2.1]; rfl
      unfold CX.stopP CX.stopT
      rw [e1, e2]
      cases hs : S.σ.t with
      | none => rfl
      | some s =>
        simp only []
        cases ho : S.τ.one x.timer with
        | none => rfl
        | some o => exact if_pos ⟨q7 s o hs ho, hτ⟩
    rw [hstop]
    have hhit : hitL err cause (S, [], []) k = (S1.stopT x.timer, [⟨w, err, cause, ws⟩], []) := by
      have hnn : ¬ ((w : Int) < 0) := by omega
      unfold hitL
      simp only [hw, Option.getD_some, hnn, if_false, Int.toNat_natCast, q2, hS1, List.nil_append]
    generalize hS2 : S1.stopT x.timer = S2 at hhit
    have htree2 : S2.σ.tree = killT T A := by
      have := hitL_keeps err cause (S, [], []) k
      rw [hhit] at this
      exact this.2.1.trans hS
    have hτ2 : S2.τ.x.l.length ≤ 1000000 := by
      have := hitL_keeps err cause (S, [], []) k
      rw [hhit] at this
      exact Nat.le_trans this.2.2.2.2.1 hτ
    have hkf : (kidsOf T (k : Int)).filter (fun i => !A i) = kidsOf T (k : Int) := by
      apply List.filter_eq_self.2
      intro j hj
      have hn0 : n ≠ 0 := by rintro rfl; have := kidsOf_lt ht hj; omega
      have := hA j ((hkid j hj j (by cases n with | zero => exact absurd rfl hn0 | succ m => simp [pre])).1)
      simp [this]
    have hkids : kidsT S2.σ.tree x.node = (kidsOf T (k : Int)).map fun (i : Nat) => (i : Int) := by
      rw [htree2, q3, (ht.kill A).kidsT (by rw [killT_length]; exact h2), kidsOf_kill, hkf]
    have hlenk : (kidsOf T (k : Int)).length ≤ 1000 := Nat.le_trans (kidsOf_length _ _) ht.len
    have hTl := ht.len
    simp only
    rw [hkids, if_pos ⟨by rw [htree2]; exact (ht.kill A).kok, by simp; omega⟩]
    have hpw : (kidsOf T (k : Int)).Pairwise (fun a b => a < b) := List.Pairwise.sublist List.filter_sublist List.pairwise_lt_range
    have hmul : (kidsOf T (k : Int)).length * T.length ≤ 999000 := by
      rcases Nat.eq_zero_or_pos (kidsOf T (k : Int)).length with h | h
      · rw [h]; omega
      · have a1 : (kidsOf T (k : Int)).length ≤ 999 := by
          have h5 : ∀ i ∈ kidsOf T (k : Int), i ≠ k ∧ i < T.length := fun i hi => by have := kidsOf_lt ht hi; omega
          have h6 : (k :: kidsOf T (k : Int)).length ≤ T.length := nodup_len _ _ (List.nodup_cons.2 ⟨fun h => (h5 k h).1 rfl, kidsOf_nodup _ _⟩) (fun i hi => by
            rcases List.mem_cons.1 hi with rfl | hi
            · exact h2
            · exact (h5 i hi).2)
          simp at h6; omega
        exact Nat.le_trans (Nat.mul_le_mul a1 hTl) (by omega)
    rw [kids_walk ht ih err cause k _ S2 A _ _ hpw (fun j hj => hj) (by omega) htree2 (fun j hj i hi => hA i (hkid j hj i hi).1) ?_ hτ2 (by simp; omega) (by simp; omega)]
    · simp only [walked]
      have hX2 : ∀ Z : CX, detP (Z.setTree (killT T fun i => A i || decide (i ∈ (kidsOf T (k : Int)).flatMap (pre T n)))).σ.tree x.node = some (killT T fun i => A i || decide (i ∈ pre T (n + 1) k)) := by
        intro Z
        show detP (killT T _) x.node = _
        rw [q3, detP_ok (ht.kill _) (by rw [killT_length]; exact h2), killT_killT]
        congr 2
        funext i
        simp only [pre, List.mem_cons, List.mem_flatMap]
        by_cases hik : i = k <;> simp [hik]
      rw [hX2]
      simp only [pre, List.foldl_cons, hhit]
      rfl
    · intro j hj i hi
      have h3 := hkid j hj i hi
      have := (hL i h3.1).hit err cause (hL k hself) h3.2 (acc := (S, [], []))
      rw [hhit] at this
      exact this
end Go.AM


/- ctx: what is so of contexts; what is made, and who is cancelled; in plain Lean. -/
set_option linter.unusedVariables false
set_option linter.unusedSimpArgs false
namespace Go.AM
structure WF (S : CX) : Prop where
  tr : TreeOk S.σ.tree
  sz : S.σ.ones.length ≤ 64 ∧ S.σ.afts.length ≤ 64
  len : S.σ.tree.length = S.σ.ones.length + S.σ.afts.length
  who1 : ∀ (i : Nat) (x : One), S.σ.ones[i]? = some x → ∃ k : Nat, x.node = (k : Int) ∧ k < S.σ.tree.length ∧ S.σ.who k = some (i : Int)
  who2 : ∀ (j : Nat) (x : Aft), S.σ.afts[j]? = some x → ∃ k : Nat, x.node = (k : Int) ∧ k < S.σ.tree.length ∧ S.σ.who k = some (-(j : Int) - 1) ∧ kidsOf S.σ.tree (k : Int) = []
  cover : ∀ k : Nat, k < S.σ.tree.length → (∃ (i : Nat) (x : One), S.σ.who k = some (i : Int) ∧ S.σ.ones[i]? = some x ∧ x.node = (k : Int)) ∨ (∃ (j : Nat) (x : Aft), S.σ.who k = some (-(j : Int) - 1) ∧ S.σ.afts[j]? = some x ∧ x.node = (k : Int))
  live : ∀ (i k : Nat) (x : One) (n : Nd), S.σ.ones[i]? = some x → x.node = (k : Int) → S.σ.tree[k]? = some n → (n.linked = true ↔ x.free = false ∧ x.err = 0)
  chs : ∀ x ∈ S.σ.ones, ∀ a, x.c = some a → (S.χ a).recvs.length + (S.χ a).sends.length ≤ 1000000
  tms : ∀ x ∈ S.σ.ones, ∀ s o, S.σ.t = some s → S.τ.one x.timer = some o → o.c = none
  tlen : S.τ.x.l.length ≤ 1000000
/-- a context that is not over -/
theorem WF.liveAt {S : CX} (h : WF S) {i k : Nat} {x : One} (hx : S.σ.ones[i]? = some x) (hk : x.node = (k : Int)) (hf : x.free = false) (he : x.err = 0) (n : Nat) : ∀ j ∈ pre S.σ.tree n k, LiveAt S.σ.tree S j := by
  intro j hj
  have hk2 := h.who1 i x hx
  obtain ⟨k', e1, e2, e3⟩ := hk2
  have : k' = k := by omega
  subst this
  have hjl := (pre_ge h.tr _ _ _ hj).2 e2
  have hlk : j = k' ∨ ∃ m, S.σ.tree[j]? = some m ∧ m.linked = true := by
    by_cases e : j = k'
    · exact .inl e
    · obtain ⟨m, hm⟩ := pre_up n k' j hj e
      rcases hm with ⟨h1, h2, _⟩ | hm
      · exact .inr ⟨m, h1, h2⟩
      · exact hm.elim
  rcases h.cover j hjl with ⟨i2, x2, c1, c2, c3⟩ | ⟨j2, x2, c1, c2, c3⟩
  · have hfe : x2.free = false ∧ x2.err = 0 := by
      rcases hlk with rfl | ⟨m, m1, m2⟩
      · rw [e3] at c1
        have : i = i2 := by simp at c1; omega
        subst this
        rw [hx] at c2; cases c2
        exact ⟨hf, he⟩
      · exact (h.live i2 j x2 m c2 c3 m1).1 m2
    have hmem := List.mem_of_getElem? c2
    exact .inl ⟨i2, x2, c1, c2, c3, hfe.1, hfe.2, h.chs x2 hmem, h.tms x2 hmem⟩
  · have hj2 : j2 < S.σ.afts.length := (List.getElem?_eq_some_iff.1 c2).1
    obtain ⟨k3, d1, d2, d3, d4⟩ := h.who2 j2 x2 c2
    have : k3 = j := by omega
    subst this
    exact .inr ⟨j2, x2, c1, by have := h.sz.2; omega, c2, c3, d4⟩
theorem WF.cancelP {S : CX} (h : WF S) {i k : Nat} {x : One} (hx : S.σ.ones[i]? = some x) (hk : x.node = (k : Int)) (hf : x.free = false) (he : x.err = 0) (err cause : Int) :
    S.cancelP 200 i err cause = some (walked S.σ.tree err cause (fun _ => false) (pre S.σ.tree 200 k) (S, [], [])) := by
  obtain ⟨k', e1, e2, e3⟩ := h.who1 i x hx
  have : k' = k := by omega
  subst this
  have := h.len
  have := h.sz
  exact cancel_walk h.tr 200 k' _ S i err cause (by omega) e2 (killT_none _ (fun _ => rfl)).symm (fun _ _ => rfl) (h.liveAt hx hk hf he 200) e3 h.tlen
/-! ### what hits make of each -/
structure Whos (S : CX) : Prop where
  w1 : ∀ (i : Nat) (x : One), S.σ.ones[i]? = some x → ∃ k : Nat, x.node = (k : Int) ∧ S.σ.who k = some (i : Int)
  w2 : ∀ (j : Nat) (x : Aft), S.σ.afts[j]? = some x → ∃ k : Nat, x.node = (k : Int) ∧ S.σ.who k = some (-(j : Int) - 1)
theorem hitL_ones (err cause : Int) {acc : CRes} {j : Nat} {T : List Nd} (hw : Whos acc.1) (hj : LiveAt T acc.1 j) :
    (∀ w : Nat, (hitL err cause acc j).1.σ.ones[w]? = (acc.1.σ.ones[w]?).map fun (x : One) => if x.node = (j : Int) then { x with err := err, cause := cause } else x) ∧
    (∀ w : Nat, (hitL err cause acc j).1.σ.afts[w]? = (acc.1.σ.afts[w]?).map fun (x : Aft) => if x.node = (j : Int) then { x with over := true } else x) := by
  rcases hj with ⟨w0, x0, q1, q2, q3, _⟩ | ⟨k0, x0, q1, q5, q2, q3, _⟩
  · have hnn : ¬ ((w0 : Int) < 0) := by omega
    have e : hitL err cause acc j = ((((acc.1.setOne w0 { x0 with err := err, cause := cause }).endT x0.c).1.stopT x0.timer), acc.2.1 ++ [⟨w0, err, cause, ((acc.1.setOne w0 { x0 with err := err, cause := cause }).endT x0.c).2⟩], acc.2.2) := by
      unfold hitL
      simp only [q1, Option.getD_some, hnn, if_false, Int.toNat_natCast, q2]
    rw [e]
    simp only
    rw [(stopT_facts _ _).1, (endT_facts _ _).1]
    refine ⟨fun w => ?_, fun w => ?_⟩
    · show (acc.1.σ.ones.set w0 _)[w]? = _
      by_cases hww : w0 = w
      · subst hww
        have hl : w0 < acc.1.σ.ones.length := (List.getElem?_eq_some_iff.1 q2).1
        rw [List.getElem?_set_self hl, q2]; simp [q3]
      · rw [List.getElem?_set_ne hww]
        cases hx : acc.1.σ.ones[w]? with
        | none => rfl
        | some y =>
          have : y.node ≠ (j : Int) := by
            intro h9
            obtain ⟨k, h1, h2⟩ := hw.w1 w y hx
            have : k = j := by omega
            subst this
            rw [q1] at h2; simp at h2; omega
          simp [this]
    · show acc.1.σ.afts[w]? = _
      cases hx : acc.1.σ.afts[w]? with
      | none => rfl
      | some y =>
        have : y.node ≠ (j : Int) := by
          intro h9
          obtain ⟨k, h1, h2⟩ := hw.w2 w y hx
          have : k = j := by omega
          subst this
          rw [q1] at h2; simp at h2; omega
        simp [this]
  · have hneg : (-(k0 : Int) - 1) < 0 := by omega
    have hk : (-(-(k0 : Int) - 1) - 1) = (k0 : Int) := by omega
    have e : hitL err cause acc j = ({ acc.1 with σ := { acc.1.σ with afts := acc.1.σ.afts.set k0 { x0 with over := true } } }, acc.2.1, acc.2.2 ++ [((k0 : Int), x0.prog)]) := by
      unfold hitL
      simp only [q1, Option.getD_some, hneg, if_true, hk, Int.toNat_natCast, q2]
    rw [e]
    refine ⟨fun w => ?_, fun w => ?_⟩
    · show acc.1.σ.ones[w]? = _
      cases hx : acc.1.σ.ones[w]? with
      | none => rfl
      | some y =>
        have : y.node ≠ (j : Int) := by
          intro h9
          obtain ⟨k, h1, h2⟩ := hw.w1 w y hx
          have : k = j := by omega
          subst this
          rw [q1] at h2; simp at h2; omega
        simp [this]
    · show (acc.1.σ.afts.set k0 _)[w]? = _
      by_cases hww : k0 = w
      · subst hww
        have hl : k0 < acc.1.σ.afts.length := (List.getElem?_eq_some_iff.1 q2).1
        rw [List.getElem?_set_self hl, q2]; simp [q3]
      · rw [List.getElem?_set_ne hww]
        cases hx : acc.1.σ.afts[w]? with
        | none => rfl
        | some y =>
          have : y.node ≠ (j : Int) := by
            intro h9
            obtain ⟨k, h1, h2⟩ := hw.w2 w y hx
            have : k = j := by omega
            subst this
            rw [q1] at h2; simp at h2; omega
          simp [this]
theorem Whos.hit {T : List Nd} (err cause : Int) {acc : CRes} {j : Nat} (hw : Whos acc.1) (hj : LiveAt T acc.1 j) : Whos (hitL err cause acc j).1 := by
  have hk := hitL_keeps err cause acc j
  obtain ⟨h1, h2⟩ := hitL_ones err cause hw hj
  refine ⟨fun i x hx => ?_, fun i x hx => ?_⟩
  · rw [h1] at hx
    cases e : acc.1.σ.ones[i]? with
    | none => rw [e] at hx; cases hx
    | some y =>
      rw [e] at hx
      obtain ⟨k, k1, k2⟩ := hw.w1 i y e
      simp at hx; subst hx
      exact ⟨k, by split <;> exact k1, by rw [hk.1]; exact k2⟩
  · rw [h2] at hx
    cases e : acc.1.σ.afts[i]? with
    | none => rw [e] at hx; cases hx
    | some y =>
      rw [e] at hx
      obtain ⟨k, k1, k2⟩ := hw.w2 i y e
      simp at hx; subst hx
      exact ⟨k, by split <;> exact k1, by rw [hk.1]; exact k2⟩
end Go.AM


/- ctx: what is made is as it should be; in plain Lean. -/
set_option linter.unusedVariables false
set_option linter.unusedSimpArgs false
namespace Go.AM
theorem Added.back {ns ms : List Nd} {parent : Int} {lk : Bool} (h : Added ns parent lk ms) {j : Nat} {m : Nd} (hm : ms[j]? = some m) : (j < ns.length ∧ ∃ n, ns[j]? = some n ∧ m.parent = n.parent ∧ m.linked = n.linked) ∨ (j = ns.length ∧ m.parent = parent ∧ m.linked = lk) := by
  have hj : j < ms.length := (List.getElem?_eq_some_iff.1 hm).1
  rw [h.len] at hj
  by_cases e : j < ns.length
  · obtain ⟨m', h1, h2, h3⟩ := h.old j _ (List.getElem?_eq_getElem e)
    rw [hm] at h1; cases h1
    exact .inl ⟨e, _, List.getElem?_eq_getElem e, h2, h3⟩
  · have : j = ns.length := by omega
    subst this
    obtain ⟨m', h1, h2, h3⟩ := h.new
    rw [hm] at h1; cases h1
    exact .inr ⟨rfl, h2, h3⟩
theorem Added.kids {ns ms : List Nd} {parent : Int} {lk : Bool} (h : Added ns parent lk ms) {k : Int} (hk : kidsOf ns k = []) (hp : parent ≠ k ∨ lk = false) : kidsOf ms k = [] := by
  rw [List.eq_nil_iff_forall_not_mem]
  intro i hi
  obtain ⟨m, h1, h2, h3⟩ := kidsOf_mem.1 hi
  rcases h.back h1 with ⟨_, n, e1, e2, e3⟩ | ⟨_, e2, e3⟩
  · have : i ∈ kidsOf ns k := kidsOf_mem.2 ⟨n, e1, by rw [← e3]; exact h2, by rw [← e2]; exact h3⟩
    rw [hk] at this; cases this
  · rcases hp with hp | hp
    · exact hp (by rw [← e2]; exact h3)
    · rw [h2] at e3; rw [hp] at e3; cases e3
theorem WF.node {S : CX} (h : WF S) {p : Nat} {up : One} (hup : S.σ.ones[p]? = some up) : hasT S.σ.tree up.node = true ∧ up.node ≠ -1 := by
  obtain ⟨k, h1, h2, _⟩ := h.who1 p up hup
  refine ⟨?_, by omega⟩
  simp [hasT, h1]; omega
theorem WF.not_aft {S : CX} (h : WF S) {p j : Nat} {up : One} {x : Aft} (hup : S.σ.ones[p]? = some up) (hx : S.σ.afts[j]? = some x) : up.node ≠ x.node := by
  intro e
  obtain ⟨k, h1, h2, h3⟩ := h.who1 p up hup
  obtain ⟨k', g1, g2, g3, _⟩ := h.who2 j x hx
  have : k = k' := by omega
  subst this
  rw [h3] at g3; simp at g3; omega
/-- a context more -/
theorem WF.add {S : CX} (h : WF S) {p : Nat} {up o : One} {χ' : Nat → Ch} (hup : S.σ.ones[p]? = some up) (hlen : S.σ.ones.length < 64) (ho : o.err = 0)
    (hχ : ∀ a n, (S.χ a).recvs.length + (S.χ a).sends.length ≤ n → (χ' a).recvs.length + (χ' a).sends.length ≤ n) (hc : ∀ a, o.c = some a → (χ' a).recvs.length + (χ' a).sends.length ≤ 1000000) :
    WF ({ S with σ := S.σ.add o up.node, χ := χ' } : CX) ∧ (S.σ.add o up.node).ones = S.σ.ones ++ [{ o with node := S.σ.tree.length, timer := -1 }] ∧ Added S.σ.tree up.node (!o.free) (S.σ.add o up.node).tree ∧ (S.σ.add o up.node).who = updI S.σ.who S.σ.tree.length (some (S.σ.ones.length : Int)) := by
  have hn := h.node hup
  have hlt : S.σ.tree.length < 1000 := by have := h.len; have := h.sz; omega
  obtain ⟨ms, e, had⟩ := treeAdd_ok (linked := !o.free) h.tr hlt (.inr hn.1)
  have hlk : ((!o.free) && decide (up.node ≠ -1)) = !o.free := by simp [hn.2]
  rw [hlk] at had
  have eo : (S.σ.add o up.node).ones = S.σ.ones ++ [{ o with node := S.σ.tree.length, timer := -1 }] := by simp [Cs.add, e]
  have et : (S.σ.add o up.node).tree = ms := by simp [Cs.add, e]
  have ew : (S.σ.add o up.node).who = updI S.σ.who S.σ.tree.length (some (S.σ.ones.length : Int)) := by simp [Cs.add, e]
  have ea : (S.σ.add o up.node).afts = S.σ.afts := rfl
  have oback : ∀ (w : Nat) (x : One), (S.σ.add o up.node).ones[w]? = some x → (w < S.σ.ones.length ∧ S.σ.ones[w]? = some x) ∨ (w = S.σ.ones.length ∧ x = { o with node := S.σ.tree.length, timer := -1 }) := by
    intro w x hx
    rw [eo] at hx
    by_cases hw : w < S.σ.ones.length
    · rw [List.getElem?_append_left hw] at hx; exact .inl ⟨hw, hx⟩
    · rw [List.getElem?_append_right (by omega)] at hx
      have hz : w - S.σ.ones.length = 0 := by
        rcases Nat.eq_zero_or_pos (w - S.σ.ones.length) with h9 | h9
        · exact h9
        · rw [List.getElem?_eq_none (by simp; omega)] at hx; cases hx
      rw [hz] at hx; simp at hx
      exact .inr ⟨by omega, hx.symm⟩
  have ofwd : ∀ (w : Nat) (x : One), S.σ.ones[w]? = some x → (S.σ.add o up.node).ones[w]? = some x := by
    intro w x hx
    have hw : w < S.σ.ones.length := (List.getElem?_eq_some_iff.1 hx).1
    rw [eo, List.getElem?_append_left hw]; exact hx
  have who_old : ∀ k : Nat, k < S.σ.tree.length → (S.σ.add o up.node).who k = S.σ.who k := by
    intro k hk
    rw [ew]; unfold updI
    rw [if_neg (by omega)]
  refine ⟨⟨by rw [et]; exact had.ok, ⟨by rw [eo]; simp; omega, h.sz.2⟩, ?_, ?_, ?_, ?_, ?_, ?_, ?_, h.tlen⟩, eo, by rw [et]; exact had, ew⟩
  · show (S.σ.add o up.node).tree.length = (S.σ.add o up.node).ones.length + S.σ.afts.length
    rw [et, had.len, eo, h.len]; simp; omega
  · intro w x hx
    show ∃ k, _ ∧ k < (S.σ.add o up.node).tree.length ∧ (S.σ.add o up.node).who k = _
    rw [et, had.len]
    rcases oback w x hx with ⟨_, h1⟩ | ⟨rfl, rfl⟩
    · obtain ⟨k, k1, k2, k3⟩ := h.who1 w x h1
      exact ⟨k, k1, by omega, by rw [who_old k k2]; exact k3⟩
    · exact ⟨S.σ.tree.length, rfl, by omega, by rw [ew]; simp [updI]⟩
  · intro w x hx
    show ∃ k, _ ∧ k < (S.σ.add o up.node).tree.length ∧ (S.σ.add o up.node).who k = _ ∧ kidsOf (S.σ.add o up.node).tree k = []
    rw [et, had.len]
    obtain ⟨k, k1, k2, k3, k4⟩ := h.who2 w x hx
    refine ⟨k, k1, by omega, by rw [who_old k k2]; exact k3, had.kids k4 (.inl ?_)⟩
    have := h.not_aft hup hx
    omega
  · intro k hk
    have hk' : k < (S.σ.add o up.node).tree.length := hk
    rw [et, had.len] at hk'
    by_cases e1 : k < S.σ.tree.length
    · rcases h.cover k e1 with ⟨w, x, c1, c2, c3⟩ | ⟨w, x, c1, c2, c3⟩
      · exact .inl ⟨w, x, by show (S.σ.add o up.node).who k = _; rw [who_old k e1]; exact c1, ofwd w x c2, c3⟩
      · exact .inr ⟨w, x, by show (S.σ.add o up.node).who k = _; rw [who_old k e1]; exact c1, c2, c3⟩
    · have : k = S.σ.tree.length := by omega
      subst this
      refine .inl ⟨S.σ.ones.length, { o with node := S.σ.tree.length, timer := -1 }, ?_, ?_, rfl⟩
      · show (S.σ.add o up.node).who _ = _
        rw [ew]; simp [updI]
      · show (S.σ.add o up.node).ones[_]? = _
        rw [eo]; simp
  · intro w k x n hx hk hn2
    have hn2' : ms[k]? = some n := by rw [← et]; exact hn2
    rcases had.back hn2' with ⟨b1, m, b2, b3, b4⟩ | ⟨b1, b3, b4⟩
    · rcases oback w x hx with ⟨_, h1⟩ | ⟨rfl, rfl⟩
      · rw [b4]; exact h.live w k x m h1 hk b2
      · simp at hk; omega
    · rcases oback w x hx with ⟨_, h1⟩ | ⟨rfl, rfl⟩
      · obtain ⟨k2, k3, k4, _⟩ := h.who1 w x h1
        omega
      · rw [b4]; simp [ho]
  · intro x hx a ha
    obtain ⟨w, hw⟩ := List.mem_iff_getElem?.1 hx
    rcases oback w x hw with ⟨_, h1⟩ | ⟨rfl, rfl⟩
    · exact hχ a _ (h.chs x (List.mem_of_getElem? h1) a ha)
    · exact hc a ha
  · intro x hx s o2 hs ho2
    obtain ⟨w, hw⟩ := List.mem_iff_getElem?.1 hx
    rcases oback w x hw with ⟨_, h1⟩ | ⟨rfl, rfl⟩
    · exact h.tms x (List.mem_of_getElem? h1) s o2 hs ho2
    · simp [Tms.one, Tms.has] at ho2
theorem updC_sizes (χ : Nat → Ch) (a b n : Nat) (h : (χ b).recvs.length + (χ b).sends.length ≤ n) : (updC χ a .sg b).recvs.length + (updC χ a .sg b).sends.length ≤ n := by
  unfold updC
  split
  · simp [Ch.sg]
  · exact h
theorem WF.room {S : CX} (h : WF S) {p : Nat} {up : One} (hup : S.σ.ones[p]? = some up) (hlen : S.σ.ones.length < 64) : S.σ.room p = 0 := by
  have hp : p < S.σ.ones.length := (List.getElem?_eq_some_iff.1 hup).1
  have : S.σ.has p = true := by simp [Cs.has]; omega
  simp [Cs.room, this]; omega
theorem WF.okAdd {S : CX} (h : WF S) : S.okAdd = true := by
  have := h.sz
  simp [CX.okAdd, h.tr.kok]; omega
/-- a context of one that is not done -/
theorem WF.cancelsP {S : CX} (h : WF S) {p : Nat} {up : One} (hup : S.σ.ones[p]? = some up) (hlen : S.σ.ones.length < 64) (he : up.err = 0) (a : Nat) :
    S.cancelsP p a = some (S.addS { One.zero with when := up.when, has := up.has } up.node a, (S.σ.ones.length : Int), [], 0) ∧ WF (S.addS { One.zero with when := up.when, has := up.has } up.node a) := by
  have hw := h.add (o := { ({ One.zero with when := up.when, has := up.has } : One) with c := some a }) (χ' := updC S.χ a .sg) hup hlen rfl (fun b n hb => updC_sizes _ _ _ _ hb) (fun b hb => by simp at hb; subst hb; simp [updC, Ch.sg])
  refine ⟨?_, hw.1⟩
  unfold CX.cancelsP
  rw [if_neg (by simp [h.room hup hlen]), if_pos h.okAdd]
  simp only [Int.toNat_natCast, hup]
  have hp : p < S.σ.ones.length := (List.getElem?_eq_some_iff.1 hup).1
  have hb : (S.addS { One.zero with when := up.when, has := up.has } up.node a).beginP S.σ.ones.length p = some (S.addS { One.zero with when := up.when, has := up.has } up.node a, []) := by
    unfold CX.beginP
    rw [if_pos (by omega)]
    have : (S.addS { One.zero with when := up.when, has := up.has } up.node a).σ.ones[((p : Int)).toNat]? = some up := by
      show (S.σ.add _ _).ones[_]? = _
      rw [hw.2.1, Int.toNat_natCast, List.getElem?_append_left hp]; exact hup
    rw [this]
    simp only
    rw [if_pos he]
  rw [hb]
theorem WF.withoutP {S : CX} (h : WF S) {p : Nat} {up : One} (hup : S.σ.ones[p]? = some up) (hlen : S.σ.ones.length < 64) :
    S.withoutP p = some (S.addP { One.zero with free := true } up.node, (S.σ.ones.length : Int), 0) ∧ WF (S.addP { One.zero with free := true } up.node) := by
  have hw := h.add (o := { One.zero with free := true }) (χ' := S.χ) hup hlen rfl (fun b n hb => hb) (fun b hb => by simp [One.zero] at hb)
  refine ⟨?_, hw.1⟩
  unfold CX.withoutP
  rw [if_neg (by simp [h.room hup hlen]), if_pos h.okAdd]
  simp only [Int.toNat_natCast, hup]
theorem wf_new (t : Option Nat) (τ : Tms) (χ : Nat → Ch) (hτ : τ.x.l.length ≤ 1000000) : WF ⟨Cs.new t, τ, χ⟩ := by
  have e : treeAdd [] (-1) false = ([⟨-1, false, []⟩], 0, 0) := by simp [treeAdd]
  have ew : (Cs.new t).who = updI (fun _ => none) 0 (some 0) := by simp [Cs.new, Cs.add, One.zero, e]
  have eo : (Cs.new t).ones = [{ One.zero with free := true, timer := -1 }] := by simp [Cs.new, Cs.add, One.zero, e]
  have et : (Cs.new t).tree = [⟨-1, false, []⟩] := by simp [Cs.new, Cs.add, One.zero, e]
  have ea : (Cs.new t).afts = [] := rfl
  refine ⟨⟨by rw [et]; simp, ?_, ?_⟩, by simp [eo, ea], by simp [et, eo, ea], ?_, ?_, ?_, ?_, ?_, ?_, hτ⟩
  · intro k n hn
    simp only [et] at hn ⊢
    cases k with
    | zero => simp at hn; subst hn; rfl
    | succ k => simp at hn
  · intro k n hn hl
    simp only [et] at hn
    cases k with
    | zero => simp at hn; subst hn; cases hl
    | succ k => simp at hn
  · intro i x hx
    simp only [eo] at hx
    cases i with
    | zero => simp at hx; subst hx; exact ⟨0, rfl, by simp [et], by simp [ew, updI]⟩
    | succ k => simp at hx
  · intro i x hx; simp only [ea] at hx; simp at hx
  · intro k hk
    simp only [et] at hk
    simp at hk; subst hk
    exact .inl ⟨0, { One.zero with free := true, timer := -1 }, by simp [ew, updI], by simp [eo], rfl⟩
  · intro i k x n hx hk hn
    simp only [eo] at hx
    simp only [et] at hn
    cases i with
    | zero =>
      simp at hx; subst hx
      cases k with
      | zero => simp at hn; subst hn; simp
      | succ k => simp at hn
    | succ k => simp at hx
  · intro x hx a ha
    simp only [eo] at hx
    simp at hx; subst hx; simp [One.zero] at ha
  · intro x hx s o hs ho
    simp only [eo] at hx
    simp at hx; subst hx
    simp [Tms.one, Tms.has] at ho
/-- an after more -/
theorem WF.aft {S : CX} (h : WF S) {p : Nat} {up : One} (hup : S.σ.ones[p]? = some up) (hlen : S.σ.afts.length < 64) (prog : Int) :
    WF ({ S with σ := S.σ.aft up prog } : CX) ∧ (S.σ.aft up prog).afts = S.σ.afts ++ [⟨S.σ.tree.length, prog, false⟩] ∧ Added S.σ.tree up.node true (S.σ.aft up prog).tree ∧ (S.σ.aft up prog).who = updI S.σ.who S.σ.tree.length (some (-(S.σ.afts.length : Int) - 1)) := by
  have hn := h.node hup
  have hlt : S.σ.tree.length < 1000 := by have := h.len; have := h.sz; omega
  obtain ⟨ms, e, had⟩ := treeAdd_ok (linked := true) h.tr hlt (.inr hn.1)
  have hlk : (true && decide (up.node ≠ -1)) = true := by simp [hn.2]
  rw [hlk] at had
  have eo : (S.σ.aft up prog).afts = S.σ.afts ++ [⟨S.σ.tree.length, prog, false⟩] := by simp [Cs.aft, e]
  have et : (S.σ.aft up prog).tree = ms := by simp [Cs.aft, e]
  have ew : (S.σ.aft up prog).who = updI S.σ.who S.σ.tree.length (some (-(S.σ.afts.length : Int) - 1)) := by simp [Cs.aft, e]
  have ea : (S.σ.aft up prog).ones = S.σ.ones := rfl
  have oback : ∀ (w : Nat) (x : Aft), (S.σ.aft up prog).afts[w]? = some x → (w < S.σ.afts.length ∧ S.σ.afts[w]? = some x) ∨ (w = S.σ.afts.length ∧ x = ⟨S.σ.tree.length, prog, false⟩) := by
    intro w x hx
    rw [eo] at hx
    by_cases hw : w < S.σ.afts.length
    · rw [List.getElem?_append_left hw] at hx; exact .inl ⟨hw, hx⟩
    · rw [List.getElem?_append_right (by omega)] at hx
      have hz : w - S.σ.afts.length = 0 := by
        rcases Nat.eq_zero_or_pos (w - S.σ.afts.length) with h9 | h9
        · exact h9
        · rw [List.getElem?_eq_none (by simp; omega)] at hx; cases hx
      rw [hz] at hx; simp at hx
      exact .inr ⟨by omega, hx.symm⟩
  have ofwd : ∀ (w : Nat) (x : Aft), S.σ.afts[w]? = some x → (S.σ.aft up prog).afts[w]? = some x := by
    intro w x hx
    have hw : w < S.σ.afts.length := (List.getElem?_eq_some_iff.1 hx).1
    rw [eo, List.getElem?_append_left hw]; exact hx
  have who_old : ∀ k : Nat, k < S.σ.tree.length → (S.σ.aft up prog).who k = S.σ.who k := by
    intro k hk
    rw [ew]; unfold updI
    rw [if_neg (by omega)]
  have kn : kidsOf S.σ.tree (S.σ.tree.length : Int) = [] := by
    rw [List.eq_nil_iff_forall_not_mem]
    intro i hi
    have := kidsOf_lt h.tr hi
    omega
  obtain ⟨kp, hkp1, hkp2, _⟩ := h.who1 p up hup
  refine ⟨⟨by rw [et]; exact had.ok, ⟨h.sz.1, by rw [eo]; simp; omega⟩, ?_, ?_, ?_, ?_, ?_, h.chs, h.tms, h.tlen⟩, eo, by rw [et]; exact had, ew⟩
  · show (S.σ.aft up prog).tree.length = S.σ.ones.length + (S.σ.aft up prog).afts.length
    rw [et, had.len, eo, h.len]; simp; omega
  · intro w x hx
    show ∃ k, _ ∧ k < (S.σ.aft up prog).tree.length ∧ (S.σ.aft up prog).who k = _
    rw [et, had.len]
    obtain ⟨k, k1, k2, k3⟩ := h.who1 w x hx
    exact ⟨k, k1, by omega, by rw [who_old k k2]; exact k3⟩
  · intro w x hx
    show ∃ k, _ ∧ k < (S.σ.aft up prog).tree.length ∧ (S.σ.aft up prog).who k = _ ∧ kidsOf (S.σ.aft up prog).tree k = []
    rw [et, had.len]
    rcases oback w x hx with ⟨_, h1⟩ | ⟨rfl, rfl⟩
    · obtain ⟨k, k1, k2, k3, k4⟩ := h.who2 w x h1
      refine ⟨k, k1, by omega, by rw [who_old k k2]; exact k3, had.kids k4 (.inl ?_)⟩
      have := h.not_aft hup h1
      omega
    · exact ⟨S.σ.tree.length, rfl, by omega, by rw [ew]; simp [updI], had.kids kn (.inl (by omega))⟩
  · intro k hk
    have hk' : k < (S.σ.aft up prog).tree.length := hk
    rw [et, had.len] at hk'
    by_cases e1 : k < S.σ.tree.length
    · rcases h.cover k e1 with ⟨w, x, c1, c2, c3⟩ | ⟨w, x, c1, c2, c3⟩
      · exact .inl ⟨w, x, by show (S.σ.aft up prog).who k = _; rw [who_old k e1]; exact c1, c2, c3⟩
      · exact .inr ⟨w, x, by show (S.σ.aft up prog).who k = _; rw [who_old k e1]; exact c1, ofwd w x c2, c3⟩
    · have : k = S.σ.tree.length := by omega
      subst this
      refine .inr ⟨S.σ.afts.length, ⟨S.σ.tree.length, prog, false⟩, ?_, ?_, rfl⟩
      · show (S.σ.aft up prog).who _ = _
        rw [ew]; simp [updI]
      · show (S.σ.aft up prog).afts[_]? = _
        rw [eo]; simp
  · intro w k x n hx hk hn2
    have hn2' : ms[k]? = some n := by rw [← et]; exact hn2
    rcases had.back hn2' with ⟨b1, m, b2, b3, b4⟩ | ⟨b1, b3, b4⟩
    · rw [b4]; exact h.live w k x m hx hk b2
    · obtain ⟨k2, k3, k4, _⟩ := h.who1 w x hx
      omega
/-- an after of one that is not done -/
theorem WF.afterX {S : CX} (h : WF S) {p : Nat} {up : One} (hup : S.σ.ones[p]? = some up) (hlen : S.σ.afts.length < 64) (he : up.err = 0) {prog : Int} (hp : 0 ≤ prog) :
    S.afterX p prog = some ({ S with σ := S.σ.aft up prog }, (S.σ.afts.length : Int), [], 0) := by
  have hpl : p < S.σ.ones.length := (List.getElem?_eq_some_iff.1 hup).1
  have hh : S.σ.has p = true := by unfold Cs.has; simp; omega
  unfold CX.afterX
  rw [if_neg (by simp [hh]), if_neg (by omega), if_neg (by omega), if_pos h.tr.kok]
  simp only [Int.toNat_natCast, hup]
  rw [if_neg (by simp [he])]
/-- a context with a deadline of its own, of one that is not done -/
theorem WF.deadlineN {S : CX} (h : WF S) (ht : S.σ.t = none) {p : Nat} {up : One} (hup : S.σ.ones[p]? = some up) (hlen : S.σ.ones.length < 64) (he : up.err = 0) (hh : up.has = false) {when now : Int} (h1 : now < max (clockAdd when 0) 0) (a : Nat) :
    S.deadlineP p when now a = some (S.addS { One.zero with when := max (clockAdd when 0) 0, has := true, own := true } up.node a, (S.σ.ones.length : Int), [], 0) ∧ WF (S.addS { One.zero with when := max (clockAdd when 0) 0, has := true, own := true } up.node a) := by
  have hw := h.add (o := { ({ One.zero with when := max (clockAdd when 0) 0, has := true, own := true } : One) with c := some a }) (χ' := updC S.χ a .sg) hup hlen rfl (fun b n hb => updC_sizes _ _ _ _ hb) (fun b hb => by simp at hb; subst hb; simp [updC, Ch.sg])
  refine ⟨?_, hw.1⟩
  unfold CX.deadlineP
  rw [if_neg (by simp [h.room hup hlen])]
  simp only [Int.toNat_natCast, hup]
  rw [if_neg (by simp [hh]), if_pos h.okAdd]
  have hp : p < S.σ.ones.length := (List.getElem?_eq_some_iff.1 hup).1
  have hb : (S.addS { One.zero with when := max (clockAdd when 0) 0, has := true, own := true } up.node a).beginP S.σ.ones.length p = some (S.addS { One.zero with when := max (clockAdd when 0) 0, has := true, own := true } up.node a, []) := by
    unfold CX.beginP
    rw [if_pos (by omega)]
    have : (S.addS { One.zero with when := max (clockAdd when 0) 0, has := true, own := true } up.node a).σ.ones[((p : Int)).toNat]? = some up := by
      show (S.σ.add _ _).ones[_]? = _
      rw [hw.2.1, Int.toNat_natCast, List.getElem?_append_left hp]; exact hup
    rw [this]
    simp only
    rw [if_pos he]
  rw [hb]
  simp only [List.length_nil, Nat.lt_irrefl, if_false]
  rw [if_neg (by omega)]
  have : (S.addS { One.zero with when := max (clockAdd when 0) 0, has := true, own := true } up.node a).σ.t = none := ht
  unfold CX.armP
  rw [this]
end Go.AM


/- ctx: what a walk tells; what laws keep of memory. -/
set_option linter.unusedVariables false
set_option linter.unusedSimpArgs false
namespace Go.AM
/-! ### what laws keep of memory -/
section
variable {c : Nat} {S S' : CX} {L L2 : Lg}
theorem CDone.raw (h : CDone c S S' L L2) (e : L c = some (.abs (CtxP c S.σ))) (ho : OutC c S L) {r : Nat} {x : AB} (hr : L r = some (.raw x)) : L2 r = some (.raw x) := by
  rw [h.fr r (by rw [hr]; simp) (by rintro rfl; rw [hr] at e; cases e) (fun h9 => by have := (ho.tms r h9).2; rw [hr] at this; cases this) (fun o h8 h9 => by have := (ho.chs o h8 r h9).2.2; rw [hr] at this; cases this)]
  exact hr
/-- all raw blocks are kept -/
def RawK (L L2 : Lg) : Prop := ∀ r x, L r = some (.raw x) → L2 r = some (.raw x)
theorem CDone.rawK (h : CDone c S S' L L2) (e : L c = some (.abs (CtxP c S.σ))) (ho : OutC c S L) : RawK L L2 := fun r x hr => h.raw e ho hr
theorem RawK.refl (L : Lg) : RawK L L := fun _ _ h => h
theorem RawK.trans {L3 : Lg} (h : RawK L L2) (k : RawK L2 L3) : RawK L L3 := fun r x hr => k r x (h r x hr)
theorem RawK.osl (h : RawK L L2) {v : AV} {cs : List AV} {n size : Nat} (o : OSl L v cs n size) : OSl L2 v cs n size := o.mono fun b hb => by rw [o.block hb]; exact h _ _ (o.block hb)
theorem RawK.slK (h : RawK L L2) {v : AV} {ws : List Wk} (o : SlK L v ws) : SlK L2 v ws := o.mono fun b hb => by
  rcases o with ⟨_, rfl⟩ | ⟨b', ex, rfl, h2⟩
  · cases hb
  · simp [slB] at hb; subst hb; rw [h2]; exact h _ _ h2
theorem RawK.put (L : Lg) {b : Nat} (hb : L b = none) (d : LC) : RawK L (L.put b d) := fun r x hr => by
  rw [Lg.put_ne _ _ _ (by rintro rfl; rw [hb] at hr; cases hr)]; exact hr
end
/-- what is known to answer true -/
theorem known2_spec {F : Nat → Option AFn} {f : Nat} (h : F f = some kTrue) (L : Lg) : CallL F f [] L fun v L' => v = .b true ∧ L' = L := by
  apply CallL.of_wp h
  show fin _ _ _ _ _
  exact ⟨L, Sees.refl _, rfl, rfl⟩
/-- a row of slices, read -/
theorem ResP.get {L0 K : Lg} {v1 v2 : AV} {ps : List (Lap × AV)} {sts : List (Int × Int)} {F : Nat → Option AFn} (h : ResP L0 K v1 v2 ps sts) {i : Nat} {p : Lap × AV} (hi : ps[i]? = some p) : ∃ b, K b = some (.raw (.cells (flatc lapc ps))) ∧
    (∀ (X : Lg) (k : AV → Lg → Prop), wpOp F (.iad 4) [v1, .i .i64 i] X k = k (.p (some (b, i * 4))) X) ∧ (∀ X : Lg, X b = K b → ∀ j, j < 4 → rdL X (b, i * 4 + j) none = (lapc p)[j]?) := by
  have hl : i < ps.length := (List.getElem?_eq_some_iff.1 hi).1
  obtain ⟨b, h1, h2, h3, h4⟩ := h.o1.iad (F := F) (x := (i : Int)) (by omega) (by omega)
  refine ⟨b, h2, fun X k => by simpa using h4 X k .i64, fun X hX j hj => ?_⟩
  rw [rdL_cell (by rw [hX]; exact h2), flatc_get (k := 4) (fun _ => rfl) ps i j p hi hj]
end Go.AM


/- what laws do with slices of their own. -/
set_option linter.unusedVariables false
set_option linter.unusedSimpArgs false
namespace Go.AM
variable {N : Nat → Nat} {F : Nat → Option AFn}
/-- all that was is there, but one block -/
def KeepE (o : Option Nat) (K K1 : Lg) : Prop := ∀ r d, K r = some d → o ≠ some r → K1 r = some d
theorem KeepE.osl {o : Option Nat} {K K1 : Lg} (h : KeepE o K K1) {v : AV} {cs : List AV} {n size : Nat} (s : OSl K v cs n size) (hn : ∀ b, slB v = some b → o ≠ some b) : OSl K1 v cs n size := s.mono fun b hb => by rw [s.block hb]; exact h b _ (s.block hb) (hn b hb)
theorem KeepE.argSl {o : Option Nat} {K K1 : Lg} (h : KeepE o K K1) {v : AV} {cs : List AV} {n size : Nat} (s : ArgSl K v cs n size) (hn : ∀ b, o = some b → ∃ cs, K b = some (.raw (.cells cs))) : ArgSl K1 v cs n size := by
  obtain ⟨h1, h2 | ⟨b, cap, h2, h3⟩⟩ := s
  · exact ⟨h1, .inl h2⟩
  · refine ⟨h1, .inr ⟨b, cap, h2, h b _ h3 ?_⟩⟩
    intro h9
    obtain ⟨cs, h4⟩ := hn b h9
    rw [h3] at h4; cases h4
theorem RawK.argSl {K K1 : Lg} (h : RawK K K1) {v : AV} {cs : List AV} {n size : Nat} (s : ArgSl K v cs n size) : ArgSl K1 v cs n size := by
  obtain ⟨h1, h2 | ⟨b, cap, h2, h3⟩⟩ := s
  · exact ⟨h1, .inl h2⟩
  · exact ⟨h1, .inr ⟨b, cap, h2, h b _ h3⟩⟩
/-- one of a slice of one's own -/
theorem OSl.at1 {K : Lg} {v : AV} {cs : List AV} {n : Nat} (h : OSl K v cs n 1) {i : Nat} (hi : i < n) : ∃ b, (∀ (X : Lg) (k : AV → Lg → Prop), wpOp F (.iad 1) [v, .i .i64 i] X k = k (.p (some (b, i))) X) ∧ rdL K (b, i) none = cs[i]? := by
  obtain ⟨b, h1, h2, h3, h4⟩ := h.iad (F := F) (x := (i : Int)) (by omega) (by omega)
  exact ⟨b, fun X k => by simpa using h4 X k .i64, by rw [rdL_cell h2]⟩
theorem ArgSl.at1 {K : Lg} {v : AV} {cs : List AV} {n : Nat} (h : ArgSl K v cs n 1) {i : Nat} (hi : i < n) : ∃ b, (∀ (X : Lg) (k : AV → Lg → Prop), wpOp F (.iad 1) [v, .i .i64 i] X k = k (.p (some (b, i))) X) ∧ rdL K (b, i) none = cs[i]? := by
  obtain ⟨b, cap, rfl, h2⟩ := h.get hi
  refine ⟨b, fun X k => ?_, by rw [rdL_ro h2]⟩
  rw [wp_iad F X k 1 b 0 n cap 0 .i64 i (by omega) (by omega)]
  simp
end Go.AM


/- CtxFull. -/
set_option linter.unusedVariables false
set_option linter.unusedSimpArgs false
namespace Go.AM
variable {N : Nat → Nat} {F : Nat → Option AFn}
structure FuI (c : Nat) (S : CX) (K : Lg) : Prop where
  wf : WF S
  t : S.σ.t = none
  own : K c = some (.abs (CtxP c S.σ))
  out : OutC c S K
  bg : ∃ x, S.σ.ones[0]? = some x ∧ x.err = 0 ∧ x.has = false
theorem bg_add {S : CX} {o : One} {p : Int} {χ' : Nat → Ch} (h : ∃ x, S.σ.ones[0]? = some x ∧ x.err = 0 ∧ x.has = false) (he : (S.σ.add o p).ones = S.σ.ones ++ [{ o with node := S.σ.tree.length, timer := -1 }]) : ∃ x, ({ S with σ := S.σ.add o p, χ := χ' } : CX).σ.ones[0]? = some x ∧ x.err = 0 ∧ x.has = false := by
  obtain ⟨x, h1, h2⟩ := h
  have hl : 0 < S.σ.ones.length := (List.getElem?_eq_some_iff.1 h1).1
  refine ⟨x, ?_, h2⟩
  show (S.σ.add o p).ones[0]? = _
  rw [he, List.getElem?_append_left hl]; exact h1
theorem room_full {σ : Cs} (h0 : 0 < σ.ones.length) (h : 64 ≤ σ.ones.length) : σ.room 0 = 3 := by
  have hh : σ.has 0 = true := by unfold Cs.has; simp; omega
  simp [Cs.room, hh, h]
theorem ctxFull_law {L0 : Lg} (code : F (N k_tarpaulinlaw15_CtxFull) = some (c_tarpaulinlaw15_CtxFull N)) (aw : F (N k_tarpaulinlaw15_awake) = some kTrue) (h1 : H_ctx_New N F) (h2 : H_tarpaulinalike_Round N F) (h3 : H_ctx_Set_Cancels N F) (h4 : H_ctx_Set_Deadline N F) (h5 : H_ctx_Set_Without N F) (h6 : H_ctx_Set_After N F) (h7 : H_ctx_Set_Len N F)
    (ls : List Int) (x0 : AV) (s0 : ArgSl L0 x0 (icl ls) ls.length 1) (more : Int) : CallL F (N k_tarpaulinlaw15_CtxFull) [x0, .i .i64 more] L0 fun v _ => v = .b true := by
  refine CallL.opq ?_
  intro Q hQ
  have fin : ∀ L, fin1 (some (.b true)) Q L := fun L => ⟨L, Sees.refl _, hQ _ _ rfl⟩
  have awk : ∀ L, CallL F (N k_tarpaulinlaw15_awake) [] L fun v17 L17 => fin1 (some v17) Q L17 := by
    intro L
    refine (known2_spec aw _).mono ?_
    rintro _ _ ⟨rfl, rfl⟩
    exact fin _
  apply r_tarpaulinlaw15_CtxFull code
  unfold D_tarpaulinlaw15_CtxFull_1 D_tarpaulinlaw15_CtxFull_2
  by_cases g1 : 20 < ls.length
  · have : (20 : Int) < (ls.length : Int) := by omega
    simpa [initE, s0.len, this] using awk _
  have g1' : ¬ (20 : Int) < (ls.length : Int) := by omega
  by_cases g2 : more < 0
  · simpa [initE, s0.len, g1', g2] using awk _
  by_cases g3 : 5 < more
  · simpa [initE, s0.len, g1', g2, g3] using awk _
  obtain ⟨mo, rfl⟩ := Int.eq_ofNat_of_zero_le (by omega : 0 ≤ more)
  simp [initE, s0.len, g1', g2, g3]
  first | refine ⟨fun h9 => absurd h9 (by omega), fun _ => ?_⟩ | skip
  unfold D_tarpaulinlaw15_CtxFull_3
  refine (ctxNew_spec h1 _ none).mono ?_
  rintro _ _ ⟨c, hc, rfl, rfl⟩
  have a0 := (RawK.put L0 hc (.abs (CtxP c (Cs.new none)))).argSl s0
  have hown : (L0.put c (.abs (CtxP c (Cs.new none)))) c = some (.abs (CtxP c (Cs.new none))) := Lg.put_same _ _ _
  generalize L0.put c (.abs (CtxP c (Cs.new none))) = L1 at a0 hown
  unfold D_tarpaulinlaw15_CtxFull_4
  simp
  unfold D_tarpaulinlaw15_CtxFull_14 D_tarpaulinlaw15_CtxFull_16
  have w64 : wr .i64 (64 + (mo : Int)) = 64 + (mo : Int) := wr_id (by omega) (by omega)
  obtain ⟨I, hI⟩ : ∃ I : Nat → Env → Lg → Prop, I = fun m E K => ∃ (i : Nat) (S : CX), 1 ≤ i ∧ m + i = 64 + mo ∧ S.σ.ones.length = min i 64 ∧ S.σ.afts = [] ∧ FuI c S K ∧ ArgSl K x0 (icl ls) ls.length 1 ∧ E 0 = x0 ∧ E 1 = .i .i64 mo ∧ E 5 = .p (some (c, 0)) ∧ E 6 = .i .i64 i := ⟨_, rfl⟩
  refine loopW_intro I (63 + mo) ?_ ?_
  · rw [hI]
    refine ⟨1, ⟨Cs.new none, ⟨[], ⟨[], 0, fun _ => none⟩, 0⟩, fun _ => Ch.sg⟩, Nat.le_refl _, by omega, rfl, rfl, ⟨wf_new _ _ _ (by simp), rfl, hown, ⟨fun s hs => (by cases hs), ?_⟩, ⟨{ One.zero with free := true, timer := -1 }, rfl, rfl, rfl⟩⟩, a0, by simp, by simp, by simp, by simp⟩
    intro o ho a ha
    have : o ∈ ([{ One.zero with free := true, timer := -1 }] : List One) := ho
    simp at this; subst this; cases ha
  intro m E t K hi
  rw [hI] at hi
  obtain ⟨i, S, hi1, hm, hSl, hSa, w, b0, e0, e1, e5, e6⟩ := hi
  unfold D_tarpaulinlaw15_CtxFull_17
  rw [e1, e6]
  simp only [mark_eq, wp_add, w64, wp_lss, condW_d]
  have w6 : wr .i64 ((i : Int) + 1) = ((i + 1 : Nat) : Int) := by rw [wr_id (by omega) (by omega)]; omega
  refine ⟨fun hlt => ?_, fun hnl => ?_⟩
  · have hilt : i < 64 + mo := by omega
    -- what is common: a context was made, or there is no room
    have okk : ∀ (S2 : CX) (L2 : Lg) (E2 : Env), i < 64 → CDone c S S2 K L2 → WF S2 → S2.σ.ones.length = i + 1 → S2.σ.afts = [] → (∃ x, S2.σ.ones[0]? = some x ∧ x.err = 0 ∧ x.has = false) → E2 0 = x0 → E2 1 = .i .i64 mo → E2 5 = .p (some (c, 0)) → E2 6 = .i .i64 i → E2 8 = .i .i64 i → E2 9 = .i .i64 0 → D_tarpaulinlaw15_CtxFull_25 F N Q (fun l L => ∃ m_1, m_1 < m ∧ I m_1 l L) E2 L2 := by
      intro S2 L2 E2 h64 hd hw2 hl2 ha2 hb2 k0 k1 k5 k6 k8 k9
      have hraw := hd.rawK w.own w.out
      unfold D_tarpaulinlaw15_CtxFull_25
      rw [k6, k8, k9]
      have h64' : (i : Int) < 64 := by omega
      simp [h64']
      unfold D_tarpaulinlaw15_CtxFull_19
      rw [k6]
      simp only [mark_eq, wp_add, w6]
      rw [hI]
      refine ⟨m - 1, by omega, i + 1, S2, by omega, by omega, by omega, ha2, ⟨hw2, by rw [hd.sub.t]; exact w.t, hd.own, hd.out, hb2⟩, hraw.argSl b0, by simp [k0], by simp [k1], by simp [k5], by simp⟩
    have noo : ∀ (L2 : Lg) (E2 : Env), 64 ≤ i → CDone c S S K L2 → E2 0 = x0 → E2 1 = .i .i64 mo → E2 5 = .p (some (c, 0)) → E2 6 = .i .i64 i → E2 8 = .i .i64 0 → E2 9 = .i .i64 3 → D_tarpaulinlaw15_CtxFull_25 F N Q (fun l L => ∃ m_1, m_1 < m ∧ I m_1 l L) E2 L2 := by
      intro L2 E2 h64 hd k0 k1 k5 k6 k8 k9
      have hraw := hd.rawK w.own w.out
      unfold D_tarpaulinlaw15_CtxFull_25
      rw [k6, k8, k9]
      have h64' : ¬ (i : Int) < 64 := by omega
      simp [h64']
      unfold D_tarpaulinlaw15_CtxFull_19
      rw [k6]
      simp only [mark_eq, wp_add, w6]
      rw [hI]
      refine ⟨m - 1, by omega, i + 1, S, by omega, by omega, by omega, hSa, ⟨w.wf, w.t, hd.own, hd.out, w.bg⟩, hraw.argSl b0, by simp [k0], by simp [k1], by simp [k5], by simp⟩
    obtain ⟨bg, hbg, hbe, hbh⟩ := w.bg
    have h0l : 0 < S.σ.ones.length := by omega
    have make : ∀ (kk : Int) (E2 : Env), E2 0 = x0 → E2 1 = .i .i64 mo → E2 5 = .p (some (c, 0)) → E2 6 = .i .i64 i → E2 7 = .i .i64 kk → D_tarpaulinlaw15_CtxFull_23 F N Q (fun l L => ∃ m_1, m_1 < m ∧ I m_1 l L) E2 K := by
      intro kk E2 k0 k1 k5 k6 k7
      unfold D_tarpaulinlaw15_CtxFull_23 D_tarpaulinlaw15_CtxFull_24
      simp only [Env.put_apply]
      simp only [k7, k5, if_false, reduceIte, Nat.reduceEqDiff, mark_eq, wp_eql, condW_d]
      by_cases h64 : i < 64
      · have hlen64 : S.σ.ones.length < 64 := by omega
        have hSi : S.σ.ones.length = i := by omega
        refine ⟨fun _ => ?_, fun _ => ⟨fun _ => ?_, fun _ => ?_⟩⟩
        · have hcp := fun a => w.wf.cancelsP hbg hlen64 hbe a
          refine (cancels_spec h3 (S := S) (parent := 0) (fun a _ => ⟨_, (hcp a).1⟩) w.own w.out).mono ?_
          rintro _ L2 ⟨a, r, v1, v2, sts, haK, hr, rfl, hd, hres⟩
          have hr2 := (hcp a).1
          simp only [Int.natCast_zero] at hr2
          rw [hr2] at hr
          cases hr
          have hadd := w.wf.add (o := { ({ One.zero with when := bg.when, has := bg.has } : One) with c := some a }) (χ' := updC S.χ a .sg) hbg hlen64 rfl (fun b n hb => updC_sizes _ _ _ _ hb) (fun b hb => by simp at hb; subst hb; simp [updC, Ch.sg])
          simp only [mark_eq, wp_ext, List.getElem?_cons_zero, List.getElem?_cons_succ, retL_some]
          refine okk _ L2 _ h64 hd hadd.1 ?_ hSa (bg_add w.bg hadd.2.1) (by simp [k0]) (by simp [k1]) (by simp [k5]) (by simp [k6]) (by simp [hSi]) (by simp)
          show (S.σ.add _ _).ones.length = _
          rw [hadd.2.1]; simp [hSi]
        · have hcl : max (clockAdd 50 0) 0 = 50 := by decide
          have hcp := fun a => w.wf.deadlineN w.t hbg hlen64 hbe hbh (when := 50) (now := 1) (by rw [hcl]; omega) a
          refine (deadline_spec h4 (S := S) (parent := 0) (when := 50) (now := 1) (fun a _ => ⟨_, (hcp a).1⟩) w.own w.out).mono ?_
          rintro _ L2 ⟨a, r, v1, v2, sts, haK, hr, rfl, hd, hres⟩
          have hr2 := (hcp a).1
          simp only [Int.natCast_zero] at hr2
          rw [hr2] at hr
          cases hr
          have hadd := w.wf.add (o := { ({ One.zero with when := max (clockAdd 50 0) 0, has := true, own := true } : One) with c := some a }) (χ' := updC S.χ a .sg) hbg hlen64 rfl (fun b n hb => updC_sizes _ _ _ _ hb) (fun b hb => by simp at hb; subst hb; simp [updC, Ch.sg])
          simp only [mark_eq, wp_ext, List.getElem?_cons_zero, List.getElem?_cons_succ, retL_some]
          refine okk _ L2 _ h64 hd hadd.1 ?_ hSa (bg_add w.bg hadd.2.1) (by simp [k0]) (by simp [k1]) (by simp [k5]) (by simp [k6]) (by simp [hSi]) (by simp)
          show (S.σ.add _ _).ones.length = _
          rw [hadd.2.1]; simp [hSi]
        · have hwo := w.wf.withoutP hbg hlen64
          have hwo1 := hwo.1
          simp only [Int.natCast_zero] at hwo1
          refine (without_spec h5 (S := S) (parent := 0) hwo1 w.own w.out).mono ?_
          rintro _ L2 ⟨rfl, hd⟩
          have hadd := w.wf.add (o := { One.zero with free := true }) (χ' := S.χ) hbg hlen64 rfl (fun b n hb => hb) (fun b hb => by simp [One.zero] at hb)
          simp only [mark_eq, wp_ext, List.getElem?_cons_zero, List.getElem?_cons_succ, retL_some]
          refine okk _ L2 _ h64 hd hadd.1 ?_ hSa (bg_add w.bg hadd.2.1) (by simp [k0]) (by simp [k1]) (by simp [k5]) (by simp [k6]) (by simp [hSi]) (by simp)
          show (S.σ.add _ _).ones.length = _
          rw [hadd.2.1]; simp [hSi]
      · have hroom : S.σ.room 0 = 3 := room_full h0l (by omega)
        have hne : S.σ.room 0 ≠ 0 := by rw [hroom]; omega
        refine ⟨fun _ => ?_, fun _ => ⟨fun _ => ?_, fun _ => ?_⟩⟩
        · have hcp : ∀ a, S.cancelsP 0 a = some (S, 0, [], 3) := fun a => by unfold CX.cancelsP; rw [if_pos hne, hroom]
          refine (cancels_spec h3 (S := S) (parent := 0) (fun a _ => ⟨_, hcp a⟩) w.own w.out).mono ?_
          rintro _ L2 ⟨a, r, v1, v2, sts, haK, hr, rfl, hd, hres⟩
          rw [hcp] at hr
          cases hr
          simp only [mark_eq, wp_ext, List.getElem?_cons_zero, List.getElem?_cons_succ, retL_some]
          exact noo L2 _ (by omega) hd (by simp [k0]) (by simp [k1]) (by simp [k5]) (by simp [k6]) (by simp) (by simp)
        · have hcp : ∀ a, S.deadlineP 0 50 1 a = some (S, 0, [], 3) := fun a => by unfold CX.deadlineP; rw [if_pos hne, hroom]
          refine (deadline_spec h4 (S := S) (parent := 0) (when := 50) (now := 1) (fun a _ => ⟨_, hcp a⟩) w.own w.out).mono ?_
          rintro _ L2 ⟨a, r, v1, v2, sts, haK, hr, rfl, hd, hres⟩
          rw [hcp] at hr
          cases hr
          simp only [mark_eq, wp_ext, List.getElem?_cons_zero, List.getElem?_cons_succ, retL_some]
          exact noo L2 _ (by omega) hd (by simp [k0]) (by simp [k1]) (by simp [k5]) (by simp [k6]) (by simp) (by simp)
        · have hcp : S.withoutP 0 = some (S, 0, 3) := by unfold CX.withoutP; rw [if_pos hne, hroom]
          refine (without_spec h5 (S := S) (parent := 0) hcp w.own w.out).mono ?_
          rintro _ L2 ⟨rfl, hd⟩
          simp only [mark_eq, wp_ext, List.getElem?_cons_zero, List.getElem?_cons_succ, retL_some]
          exact noo L2 _ (by omega) hd (by simp [k0]) (by simp [k1]) (by simp [k5]) (by simp [k6]) (by simp) (by simp)
    unfold D_tarpaulinlaw15_CtxFull_21 D_tarpaulinlaw15_CtxFull_22
    simp only [Env.put_apply]
    simp only [e0, e6, if_false, reduceIte, Nat.reduceEqDiff, mark_eq, b0.len, wp_gtr, condW_d]
    refine ⟨fun hpos => ?_, fun _ => make 0 _ (by simp [e0]) (by simp [e1]) (by simp [e5]) (by simp [e6]) (by simp)⟩
    have hrem : ((i : Int)).tmod (ls.length : Int) = ((i % ls.length : Nat) : Int) := by
      rw [Int.tmod_eq_emod_of_nonneg (by omega)]; omega
    rw [wp_rem F K _ (i : Int) (ls.length : Int) .i64 (by omega), hrem]
    have hjl : i % ls.length < ls.length := Nat.mod_lt _ (by omega)
    obtain ⟨q0, f0, f1⟩ := b0.at1 (F := F) hjl
    have hg : (icl ls)[i % ls.length]? = some (.i .i64 (ls[i % ls.length])) := by simp [icl, hjl]
    rw [hg] at f1
    simp only [e0, if_false, reduceIte, Nat.reduceEqDiff, mark_eq, f0, wp_ld, f1, retL_some]
    refine (round_spec h2 _ 3 (by omega) (by omega) _).mono ?_
    rintro _ K' ⟨rfl, rfl⟩
    exact make (ls[i % ls.length] % 3) _ (by simp [e0]) (by simp [e1]) (by simp [e5]) (by simp [e6]) (by simp)
  · have him : i = 64 + mo := by omega
    have hS64 : S.σ.ones.length = 64 := by omega
    clear hI hnl hm I hSl
    unfold D_tarpaulinlaw15_CtxFull_8 D_tarpaulinlaw15_CtxFull_10
    generalize hE0 : Env.put E 10 (.i .i64 0) = E0
    have d1 : E0 1 = .i .i64 mo := by rw [← hE0]; simpa using e1
    have d5 : E0 5 = .p (some (c, 0)) := by rw [← hE0]; simpa using e5
    have d10 : E0 10 = .i .i64 (0 : Nat) := by rw [← hE0]; simp
    clear hE0 e0 e1 e5 e6
    obtain ⟨I, hI⟩ : ∃ I : Nat → Env → Lg → Prop, I = fun m E K => ∃ (j : Nat) (S : CX), m + j = 64 + mo ∧ S.σ.afts.length = min j 64 ∧ S.σ.ones.length = 64 ∧ FuI c S K ∧ E 1 = .i .i64 mo ∧ E 5 = .p (some (c, 0)) ∧ E 10 = .i .i64 j := ⟨_, rfl⟩
    refine loopW_intro I (64 + mo) ?_ ?_
    · rw [hI]; exact ⟨0, S, by omega, by rw [hSa]; rfl, hS64, w, d1, d5, d10⟩
    clear d1 d5 d10 E0 hSa hS64 w b0
    clear S
    intro m E t K hi
    rw [hI] at hi
    obtain ⟨j, S, hm, hSa, hS64, w, e1, e5, e10⟩ := hi
    unfold D_tarpaulinlaw15_CtxFull_11
    rw [e1, e10]
    simp only [mark_eq, wp_add, w64, wp_lss, condW_d]
    have w10 : wr .i64 ((j : Int) + 1) = ((j + 1 : Nat) : Int) := by rw [wr_id (by omega) (by omega)]; omega
    refine ⟨fun hlt => ?_, fun hnl => ?_⟩
    · unfold D_tarpaulinlaw15_CtxFull_12
      rw [e5, e10]
      obtain ⟨bg, hbg, hbe, hbh⟩ := w.bg
      by_cases h64 : j < 64
      · have hal : S.σ.afts.length < 64 := by omega
        have hSj : S.σ.afts.length = j := by omega
        have hax := w.wf.afterX hbg hal hbe (prog := (j : Int)) (by omega)
        simp only [Int.natCast_zero] at hax
        have hwf := w.wf.aft hbg hal (j : Int)
        refine (afterX_spec h6 (S := S) (id := 0) hax w.own w.out).mono ?_
        rintro _ L2 ⟨v2, rfl, hd, hos, _⟩
        simp only at hos
        have h64' : (j : Int) < 64 := by omega
        simp [h64', hos.len, hSj]
        unfold D_tarpaulinlaw15_CtxFull_13
        simp only [Env.put_apply]
        simp [e10, w10]
        rw [hI]
        refine ⟨m - 1, by omega, j + 1, { S with σ := S.σ.aft bg (j : Int) }, by omega, ?_, hS64, ⟨hwf.1, w.t, hd.own, hd.out, ⟨bg, hbg, hbe, hbh⟩⟩, by simp [e1], by simp [e5], by simp⟩
        show (S.σ.aft bg (j : Int)).afts.length = _
        rw [hwf.2.1]; simp [hSj]; omega
      · have h0l : 0 < S.σ.ones.length := by omega
        have hh : S.σ.has 0 = true := by unfold Cs.has; simp; omega
        have hax : S.afterX 0 (j : Int) = some (S, 0, [], 3) := by
          unfold CX.afterX
          rw [if_neg (by simp [hh]), if_neg (by omega), if_pos (by omega)]
        refine (afterX_spec h6 (S := S) (id := 0) hax w.own w.out).mono ?_
        rintro _ L2 ⟨v2, rfl, hd, hos, _⟩
        simp only at hos
        have h64' : ¬ (j : Int) < 64 := by omega
        simp [h64', hos.len]
        unfold D_tarpaulinlaw15_CtxFull_13
        simp only [Env.put_apply]
        simp [e10, w10]
        rw [hI]
        exact ⟨m - 1, by omega, j + 1, S, by omega, by omega, hS64, ⟨w.wf, w.t, hd.own, hd.out, ⟨bg, hbg, hbe, hbh⟩⟩, by simp [e1], by simp [e5], by simp⟩
    · unfold D_tarpaulinlaw15_CtxFull_7
      rw [e5]
      refine (ctxLen_spec h7 w.own).mono ?_
      rintro _ K' ⟨rfl, rfl⟩
      simp [hS64]
      refine (known2_spec aw _).mono ?_
      rintro _ _ ⟨rfl, rfl⟩
      simpa using fin _
end Go.AM

