/- The texts LibProg, LibProgB, LibRefA, LibTimerD, LawTimerP, LawTimerX, LibRefB, LibRefC, LibRefD, LibRefE, LibRefG, LibRefH, LibRefI, LibRefJ, LibCtxQ, LibCtxR, GenG, LibRefK, LibGO, LibRefL, LibRefM, LawProgLimits of a proof of ProgLimits, merged. -/
import Derived.Test.YtkfcecaoaplfkaaDoorLimG2
import Derived.KernelRfl
/- prog: which programs may be. -/
set_option linter.unusedVariables false
set_option linter.unusedSimpArgs false
namespace Go.AM
variable {N : Nat → Nat} {F : Nat → Option AFn}
def regP (n : Int) : Bool := decide (0 ≤ n) && decide (n < 8)
theorem register_spec (hf : H_prog_register N F) (n : Int) (L : Lg) : CallL F (N k_prog_register) [.i .i64 n] L fun v L' => v = .b (regP n) ∧ L' = L := by
  refine CallL.opq ?_
  intro Q hQ
  apply r_prog_register hf.code
  unfold D_prog_register_1
  by_cases c1 : 0 ≤ n
  · simp [c1]
    exact ⟨_, Sees.refl _, hQ _ _ ⟨by simp [regP, c1], rfl⟩⟩
  · simp [c1]
    exact ⟨_, Sees.refl _, hQ _ _ ⟨by simp [regP, c1], rfl⟩⟩
def mayP (k n pl : Int) : Bool := if k = 114 then regP n else if k = 112 then decide (0 ≤ n) && decide (n ≤ pl) else if k = 103 then decide (0 ≤ n) && decide (n < 16) else if k = 45 then decide (n = 0) else true
theorem may_spec (hf : H_prog_may N F) (k n pl : Int) (L : Lg) : CallL F (N k_prog_may) [.i .u8 k, .i .i64 n, .i .i64 pl] L fun v L' => v = .b (mayP k n pl) ∧ L' = L := by
  refine CallL.opq ?_
  intro Q hQ
  apply r_prog_may hf.code
  unfold D_prog_may_1
  by_cases c1 : k = 114
  · simp [c1]
    refine (register_spec hf.prog_register n L).mono ?_
    rintro _ K' ⟨rfl, rfl⟩
    simp
    exact ⟨_, Sees.refl _, hQ _ _ ⟨by simp [mayP, c1], rfl⟩⟩
  by_cases c2 : k = 112
  · by_cases d1 : 0 ≤ n
    · simp [c1, c2, d1]
      exact ⟨_, Sees.refl _, hQ _ _ ⟨by simp [mayP, c1, c2, d1], rfl⟩⟩
    · simp [c1, c2, d1]
      exact ⟨_, Sees.refl _, hQ _ _ ⟨by simp [mayP, c1, c2, d1], rfl⟩⟩
  by_cases c3 : k = 103
  · by_cases d1 : 0 ≤ n
    · simp [c1, c2, c3, d1]
      exact ⟨_, Sees.refl _, hQ _ _ ⟨by simp [mayP, c1, c2, c3, d1], rfl⟩⟩
    · simp [c1, c2, c3, d1]
      exact ⟨_, Sees.refl _, hQ _ _ ⟨by simp [mayP, c1, c2, c3, d1], rfl⟩⟩
  by_cases c4 : k = 45
  · simp [c1, c2, c3, c4]
    exact ⟨_, Sees.refl _, hQ _ _ ⟨by simp [mayP, c1, c2, c3, c4], rfl⟩⟩
  · simp [c1, c2, c3, c4]
    exact ⟨_, Sees.refl _, hQ _ _ ⟨by simp [mayP, c1, c2, c3, c4], rfl⟩⟩
structure Cs3 where
  send : Bool
  chan : Int
  val : Int
  deriving DecidableEq
def Cs3.cells (c : Cs3) : List AV := [.b c.send, .i .i64 c.chan, .i .i64 c.val]
theorem Cs3.len (c : Cs3) : c.cells.length = 3 := rfl
def badC (c : Cs3) : Bool := !regP c.chan || !regP c.val || (!c.send && decide (c.val ≠ 0))
theorem good1_spec (hf : H_prog_good_1 N F) (c : Cs3) (L : Lg) : CallL F (N k_prog_good_1) [.agg c.cells] L fun v L' => v = .b (badC c) ∧ L' = L := by
  refine CallL.opq ?_
  intro Q hQ
  apply r_prog_good_1 hf.code
  unfold D_prog_good_1_1
  simp
  rw [newL_box_agg _ _ _ (by rfl)]
  intro b hb
  have h0 : (L.put b (.raw (.cells c.cells))) b = some (.raw (.cells c.cells)) := Lg.put_same _ _ _
  have f0 : rdL (L.put b (.raw (.cells c.cells))) (b, 0) none = some (.b c.send) := by rw [rdL_cell h0]; rfl
  have f1 : rdL (L.put b (.raw (.cells c.cells))) (b, 1) none = some (.i .i64 c.chan) := by rw [rdL_cell h0]; rfl
  have f2 : rdL (L.put b (.raw (.cells c.cells))) (b, 2) none = some (.i .i64 c.val) := by rw [rdL_cell h0]; rfl
  have se : Sees (L.put b (.raw (.cells c.cells))) L := ((Ext2.refl L).put hb _).sees
  simp [f1]
  refine (register_spec hf.prog_register c.chan _).mono ?_
  rintro _ K' ⟨rfl, hK⟩
  subst hK
  cases e1 : regP c.chan with
  | false =>
    simp
    exact ⟨_, se, hQ _ _ ⟨by simp [badC, e1], rfl⟩⟩
  | true =>
    simp [f2]
    refine (register_spec hf.prog_register c.val _).mono ?_
    rintro _ K' ⟨rfl, hK⟩
    subst hK
    cases e2 : regP c.val with
    | false =>
      simp
      exact ⟨_, se, hQ _ _ ⟨by simp [badC, e1, e2], rfl⟩⟩
    | true =>
      cases e3 : c.send with
      | true =>
        simp [f0, e3]
        exact ⟨_, se, hQ _ _ ⟨by simp [badC, e1, e2, e3], rfl⟩⟩
      | false =>
        simp [f0, f2, e3]
        exact ⟨_, se, hQ _ _ ⟨by simp [badC, e1, e2, e3], rfl⟩⟩
theorem containsC_spec (hf : H_slices_ContainsFunc_CaseCase N F) {L : Lg} {α : Type} {g : α → List AV} {s : AV} {ws : List α} (hs : SlG g 3 L s ws) (hl : ws.length ≤ 1000000) {f : Nat} {fst cap : List AV} {p : α → Bool}
    (hso : ∀ w, w ∈ ws → CallL F f (fst ++ (.agg (g w)) :: cap) L fun v L' => v = .b (p w) ∧ L' = L) : CallL F (N k_slices_ContainsFunc_CaseCase) [s, .fn f fst cap] L fun v L' => v = .b (ws.any p) ∧ L' = L := by
  apply r_slices_ContainsFunc_CaseCase hf.code
  unfold D_slices_ContainsFunc_CaseCase_1
  have key : CallL F (N k_slices_IndexFunc_CaseCase) [s, .fn f fst cap] L fun v L' => (∃ i : Int, v = .i .i64 i ∧ (decide (0 ≤ i) = ws.any p)) ∧ L' = L := by
    apply r_slices_IndexFunc_CaseCase hf.slices_IndexFunc_CaseCase.code
    unfold D_slices_IndexFunc_CaseCase_1 D_slices_IndexFunc_CaseCase_4
    have hlen := fun X k => hs.len (F := F) X k
    simp [D_slices_IndexFunc_CaseCase_6, hlen]
    refine loopW_intro (fun n l' L' => ∃ i : Nat, i ≤ ws.length ∧ n = ws.length - i ∧ (∀ x, x ∈ ws.take i → p x = false) ∧ L' = L ∧ l' 0 = s ∧ l' 1 = .fn f fst cap ∧ l' 7 = .i .i64 ws.length ∧ l' 8 = .i .i64 i)
      ws.length ⟨0, by omega, by omega, by simp, rfl, by simp, by simp, by simp, by simp⟩ ?_
    rintro n l' t L' ⟨i, hi, hn, hA, rfl, l0, l1, l7, l8⟩
    unfold D_slices_IndexFunc_CaseCase_7
    rw [l0, l1, l7, l8]
    by_cases hlt : i < ws.length
    · have hw : ws[i]? = some ws[i] := List.getElem?_eq_getElem hlt
      obtain ⟨b, o, h1, h2, h3⟩ := hs.get (F := F) hw
      have h4 := (h2 L' (fun _ _ h => h)).2
      have e1 : ((i : Int) < (ws.length : Int)) := by omega
      simp [hlt, h1, h4]
      refine (hso ws[i] (List.getElem_mem _)).mono ?_
      rintro _ L2 ⟨rfl, rfl⟩
      rw [condW_bool]
      refine ⟨fun hp => ?_, fun hp => ?_⟩
      · simp
        have : ws.any p = true := List.any_eq_true.2 ⟨ws[i], List.getElem_mem _, hp⟩
        simpa using this
      · have e2 : wr .i64 ((i : Int) + 1) = ((i + 1 : Nat) : Int) := by rw [wr_id (by omega) (by omega)]; omega
        simp
        refine ⟨ws.length - (i + 1), by omega, i + 1, by omega, rfl, ?_, l0, l1, l7, e2⟩
        intro x hx
        rw [List.take_add_one, hw] at hx
        rcases List.mem_append.1 hx with hx | hx
        · exact hA x hx
        · simp at hx; rw [hx]; exact hp
    · have e1 : ¬ ((i : Int) < (ws.length : Int)) := by omega
      have e2 : i = ws.length := by omega
      simp [hlt, D_slices_IndexFunc_CaseCase_3]
      rw [e2, List.take_length] at hA
      simpa using hA
  refine key.mono ?_
  rintro _ _ ⟨⟨i, rfl, hi⟩, rfl⟩
  simp [← hi]
theorem containsI_spec (hf : H_slices_ContainsFunc_InstrInstr N F) {L : Lg} {α : Type} {g : α → List AV} {s : AV} {ws : List α} (hs : SlG g 6 L s ws) (hl : ws.length ≤ 1000000) {f : Nat} {fst cap : List AV} {p : α → Bool}
    (hso : ∀ w, w ∈ ws → CallL F f (fst ++ (.agg (g w)) :: cap) L fun v L' => v = .b (p w) ∧ L' = L) : CallL F (N k_slices_ContainsFunc_InstrInstr) [s, .fn f fst cap] L fun v L' => v = .b (ws.any p) ∧ L' = L := by
  apply r_slices_ContainsFunc_InstrInstr hf.code
  unfold D_slices_ContainsFunc_InstrInstr_1
  have key : CallL F (N k_slices_IndexFunc_InstrInstr) [s, .fn f fst cap] L fun v L' => (∃ i : Int, v = .i .i64 i ∧ (decide (0 ≤ i) = ws.any p)) ∧ L' = L := by
    apply r_slices_IndexFunc_InstrInstr hf.slices_IndexFunc_InstrInstr.code
    unfold D_slices_IndexFunc_InstrInstr_1 D_slices_IndexFunc_InstrInstr_4
    have hlen := fun X k => hs.len (F := F) X k
    simp [D_slices_IndexFunc_InstrInstr_6, hlen]
    refine loopW_intro (fun n l' L' => ∃ i : Nat, i ≤ ws.length ∧ n = ws.length - i ∧ (∀ x, x ∈ ws.take i → p x = false) ∧ L' = L ∧ l' 0 = s ∧ l' 1 = .fn f fst cap ∧ l' 7 = .i .i64 ws.length ∧ l' 8 = .i .i64 i)
      ws.length ⟨0, by omega, by omega, by simp, rfl, by simp, by simp, by simp, by simp⟩ ?_
    rintro n l' t L' ⟨i, hi, hn, hA, rfl, l0, l1, l7, l8⟩
    unfold D_slices_IndexFunc_InstrInstr_7
    rw [l0, l1, l7, l8]
    by_cases hlt : i < ws.length
    · have hw : ws[i]? = some ws[i] := List.getElem?_eq_getElem hlt
      obtain ⟨b, o, h1, h2, h3⟩ := hs.get (F := F) hw
      have h4 := (h2 L' (fun _ _ h => h)).2
      have e1 : ((i : Int) < (ws.length : Int)) := by omega
      simp [hlt, h1, h4]
      refine (hso ws[i] (List.getElem_mem _)).mono ?_
      rintro _ L2 ⟨rfl, rfl⟩
      rw [condW_bool]
      refine ⟨fun hp => ?_, fun hp => ?_⟩
      · simp
        have : ws.any p = true := List.any_eq_true.2 ⟨ws[i], List.getElem_mem _, hp⟩
        simpa using this
      · have e2 : wr .i64 ((i : Int) + 1) = ((i + 1 : Nat) : Int) := by rw [wr_id (by omega) (by omega)]; omega
        simp
        refine ⟨ws.length - (i + 1), by omega, i + 1, by omega, rfl, ?_, l0, l1, l7, e2⟩
        intro x hx
        rw [List.take_add_one, hw] at hx
        rcases List.mem_append.1 hx with hx | hx
        · exact hA x hx
        · simp at hx; rw [hx]; exact hp
    · have e1 : ¬ ((i : Int) < (ws.length : Int)) := by omega
      have e2 : i = ws.length := by omega
      simp [hlt, D_slices_IndexFunc_InstrInstr_3]
      rw [e2, List.take_length] at hA
      simpa using hA
  refine key.mono ?_
  rintro _ _ ⟨⟨i, rfl, hi⟩, rfl⟩
  simp [← hi]
/-! ### an instruction -/
def fieldsL : List UInt8 := [114, 110, 45, 114, 114, 45, 114, 110, 45, 112, 45, 45, 114, 112, 45, 114, 45, 45, 45, 45, 45, 114, 103, 45, 114, 110, 45, 114, 114, 45, 114, 114, 114, 114, 45, 45, 114, 114, 45, 114, 114, 45, 114, 114, 114, 114, 45, 45, 114, 114, 114, 114, 114, 114, 114, 114, 103, 114, 114, 45, 114, 114, 114, 114, 114, 45, 114, 114, 114, 114, 114, 114, 114, 114, 45, 114, 114, 45, 114, 114, 45, 114, 114, 45, 114, 114, 45, 114, 114, 114, 114, 114, 103, 114, 114, 45]
structure Ins where
  op : Int
  a : Int
  b : Int
  c : Int
  cs : List Cs3
  df : Bool
  deriving DecidableEq
def Ins.cells (i : Ins) (cv : AV) : List AV := [.i .i64 i.op, .i .i64 i.a, .i .i64 i.b, .i .i64 i.c, cv, .b i.df]
def Ins.abc (i : Ins) : List Int := [i.a, i.b, i.c]
def fldB (op : Int) (k : Nat) : Int := ((fieldsL.getD (3 * (op - 1) + k).toNat 0).toNat : Int)
def fldOk (i : Ins) (pl : Int) (k : Nat) : Bool := mayP (fldB i.op k) (i.abc.getD k 0) pl
def goodP (i : Ins) (pl : Int) : Bool := decide (1 ≤ i.op) && decide (i.op ≤ 32) && (decide (i.op = 15) || (i.cs.isEmpty && !i.df)) && decide (i.cs.length ≤ 16) && (fldOk i pl 0 && fldOk i pl 1 && fldOk i pl 2) && !(i.cs.any badC)
theorem good5_spec (hf : H_prog_good N F) {L : Lg} {i : Ins} {cv : AV} (hc : SlG Cs3.cells 3 L cv i.cs) (hn : i.cs.length ≤ 16) (h1 : 1 ≤ i.op) (h2 : i.op ≤ 32) {pl : Int} {b1 : Nat} {K : Lg} (hb : K b1 = some (.raw (.cells (i.cells cv)))) (hs : SubL L K)
    {l : Env} (l1 : l 1 = .i .i64 pl) (l2 : l 2 = .p (some (b1, 0))) {Q : AV → Lg → Prop} (hQ : ∀ K', SubL L K' → ∃ L', Sees K' L' ∧ Q (.b (fldOk i pl 0 && fldOk i pl 1 && fldOk i pl 2 && !(i.cs.any badC))) L') : D_prog_good_5 F N Q l K := by
  have f0 : ∀ K', SubL K K' → rdL K' (b1, 0) none = some (.i .i64 i.op) := fun K' h => by rw [rdL_cell (h _ _ hb)]; rfl
  have f1 : rdL K (b1, 1) none = some (.i .i64 i.a) := by rw [rdL_cell hb]; rfl
  have f2 : rdL K (b1, 2) none = some (.i .i64 i.b) := by rw [rdL_cell hb]; rfl
  have f3 : rdL K (b1, 3) none = some (.i .i64 i.c) := by rw [rdL_cell hb]; rfl
  have f4 : ∀ K', SubL K K' → rdL K' (b1, 4) none = some cv := fun K' h => by rw [rdL_cell (h _ _ hb)]; rfl
  unfold D_prog_good_5
  simp [l2, f1, f2, f3]
  rw [newL_bslice (c := [.i .i64 i.a, .i .i64 i.b, .i .i64 i.c]) _ _ (by simp [reps, fillP, splice, ble_nat, beq_nat, AV.cellsOf]) (by simp)]
  intro b2 hb2
  have s2 : SubL K (K.put b2 (.raw (.cells [.i .i64 i.a, .i .i64 i.b, .i .i64 i.c]))) := fun r d hd => by rw [Lg.put_ne _ _ _ (by rintro rfl; rw [hb2] at hd; cases hd)]; exact hd
  have hb2' : (K.put b2 (.raw (.cells [.i .i64 i.a, .i .i64 i.b, .i .i64 i.c]))) b2 = some (.raw (.cells [.i .i64 i.a, .i .i64 i.b, .i .i64 i.c])) := Lg.put_same _ _ _
  generalize hK2 : K.put b2 (.raw (.cells [.i .i64 i.a, .i .i64 i.b, .i .i64 i.c])) = K2 at s2 hb2'
  simp
  unfold D_prog_good_7
  obtain ⟨I, hI⟩ : ∃ I : Nat → Env → Lg → Prop, I = fun m E K' => ∃ k : Nat, m + k = 3 ∧ K' = K2 ∧ E 1 = .i .i64 pl ∧ E 2 = .p (some (b1, 0)) ∧ E 42 = .sl (some (b2, 0)) 3 3 0 ∧ E 43 = .i .i64 3 ∧ E 44 = .i .i64 k ∧ (∀ j, j < k → fldOk i pl j = true) := ⟨_, rfl⟩
  refine loopW_intro I 3 ?_ ?_
  · rw [hI]
    exact ⟨0, by omega, rfl, by simp [l1], by simp [l2], by simp, by simp, by simp, by omega⟩
  intro m E t K' hi
  rw [hI] at hi
  obtain ⟨k, hm, rfl, e1, e2, e42, e43, e44, hall⟩ := hi
  unfold D_prog_good_8
  rw [e1, e2, e42, e43, e44]
  by_cases hk : k < 3
  · have e3 : (k : Int) < 3 := by omega
    have hg : rdL K' (b2, k) none = some (.i .i64 (i.abc.getD k 0)) := by
      rw [rdL_cell hb2']
      have : k = 0 ∨ k = 1 ∨ k = 2 := by omega
      rcases this with rfl | rfl | rfl <;> rfl
    have w1 : wr .i64 (i.op - 1) = i.op - 1 := wr_id (by omega) (by omega)
    have w2 : wr .i64 (3 * (i.op - 1)) = 3 * (i.op - 1) := wr_id (by omega) (by omega)
    have w3 : wr .i64 (3 * (i.op - 1) + k) = 3 * (i.op - 1) + k := wr_id (by omega) (by omega)
    simp [e3, wp_iad _ _ _ 1 b2 0 3 3 0 .i64 (k : Int) (Int.natCast_nonneg _) e3, hg, f0 K' s2, w1, w2, w3]
    have hx0 : 0 ≤ 3 * (i.op - 1) + k := by omega
    have hx1 : 3 * (i.op - 1) + k < ((fieldsL.length : Nat) : Int) := by have : fieldsL.length = 96 := rfl; omega
    have hby : ((fieldsL[(3 * (i.op - 1) + k).toNat]'(by omega)).toNat : Int) = fldB i.op k := by
      unfold fldB
      rw [List.getD, List.getElem?_eq_getElem (by omega)]; rfl
    have ei := fun (k' : AV → Lg → Prop) => wp_ixS (F := F) (L := K') (k := k') fieldsL .i64 _ hx0 hx1
    refine Eq.mpr (ei _) ?_
    rw [hby]
    refine (may_spec hf.prog_may (fldB i.op k) (i.abc[k]?.getD 0) pl K').mono ?_
    rintro _ K3 ⟨rfl, hK3⟩
    subst hK3
    have hok : mayP (fldB i.op k) (i.abc[k]?.getD 0) pl = fldOk i pl k := rfl
    rw [hok]
    cases hv : fldOk i pl k with
    | false =>
      simp
      have hfin : (fldOk i pl 0 && fldOk i pl 1 && fldOk i pl 2 && !(i.cs.any badC)) = false := by
        have : k = 0 ∨ k = 1 ∨ k = 2 := by omega
        rcases this with rfl | rfl | rfl <;> simp [hv]
      show ∃ L', Sees _ L' ∧ Q (.b false) L'
      rw [← hfin]
      exact hQ _ fun r d hd => s2 r d (hs r d hd)
    | true =>
      have w4 : wr .i64 ((k : Int) + 1) = ((k + 1 : Nat) : Int) := by rw [wr_id (by omega) (by omega)]; omega
      simp [w4]
      rw [hI]
      refine ⟨m - 1, by omega, k + 1, by omega, rfl, by simp [e1], by simp [e2], by simp [e42], by simp [e43], by simp, ?_⟩
      intro j hj
      by_cases hjk : j = k
      · rw [hjk]; exact hv
      · exact hall j (by omega)
  · have e3 : ¬ (k : Int) < 3 := by omega
    simp [e3]
    unfold D_prog_good_4
    simp [f4 K' s2]
    refine (containsC_spec hf.slices_ContainsFunc_CaseCase (hc.mono fun r d hd => s2 r d (hs r d hd)) (by omega) (p := badC) fun w _ => ?_).mono ?_
    · exact good1_spec hf.prog_good_1 w K'
    rintro _ K3 ⟨rfl, hK3⟩
    subst hK3
    have hfin : (fldOk i pl 0 && fldOk i pl 1 && fldOk i pl 2 && !(i.cs.any badC)) = !(i.cs.any badC) := by
      rw [hall 0 (by omega), hall 1 (by omega), hall 2 (by omega)]; simp
    have := hQ K3 fun r d hd => s2 r d (hs r d hd)
    rw [hfin] at this
    simp
    obtain ⟨L', g1, g2⟩ := this
    exact ⟨L', g1, by simpa using g2⟩
theorem good_spec (hf : H_prog_good N F) {L : Lg} {i : Ins} {cv : AV} (hc : SlG Cs3.cells 3 L cv i.cs) (pl : Int) : CallL F (N k_prog_good) [.agg (i.cells cv), .i .i64 pl] L fun v L' => v = .b (goodP i pl) ∧ L' = L := by
  refine CallL.opq ?_
  intro Q hQ
  apply r_prog_good hf.code
  unfold D_prog_good_1
  have hcv : cv.one = true := by obtain ⟨a, cap, ex, rfl, _⟩ := hc; rfl
  have hone : (i.cells cv).all AV.one = true := by simp [Ins.cells, hcv]
  simp
  rw [newL_box_agg _ _ _ hone]
  intro b1 hb1
  have hb : (L.put b1 (.raw (.cells (i.cells cv)))) b1 = some (.raw (.cells (i.cells cv))) := Lg.put_same _ _ _
  have hs : SubL L (L.put b1 (.raw (.cells (i.cells cv)))) := fun r d hd => by rw [Lg.put_ne _ _ _ (by rintro rfl; rw [hb1] at hd; cases hd)]; exact hd
  generalize hK : L.put b1 (.raw (.cells (i.cells cv))) = K at hb hs
  have f0 : rdL K (b1, 0) none = some (.i .i64 i.op) := by rw [rdL_cell hb]; rfl
  have f4 : rdL K (b1, 4) none = some cv := by rw [rdL_cell hb]; rfl
  have f5 : rdL K (b1, 5) none = some (.b i.df) := by rw [rdL_cell hb]; rfl
  have hlen := fun X k => hc.len (F := F) X k
  have no : goodP i pl = false → Q (.b false) L := fun h => by have := hQ (.b (goodP i pl)) L ⟨rfl, rfl⟩; rwa [h] at this
  have se : Sees K L := Ext2.sees hs
  have D5 : 1 ≤ i.op → i.op ≤ 32 → i.cs.length ≤ 16 → (i.op = 15 ∨ (i.cs = [] ∧ i.df = false)) → ∀ {l : Env}, l 1 = .i .i64 pl → l 2 = .p (some (b1, 0)) → D_prog_good_5 F N Q l K := by
    intro c1 c2 c3 c4 l l1 l2
    refine good5_spec hf hc c3 c1 c2 hb hs l1 l2 fun K' hK' => ⟨L, Ext2.sees hK', ?_⟩
    have : goodP i pl = (fldOk i pl 0 && fldOk i pl 1 && fldOk i pl 2 && !(i.cs.any badC)) := by
      rcases c4 with c4 | ⟨c4, c5⟩ <;> simp [goodP, c1, c2, c3, c4, *]
    rw [← this]
    exact hQ _ _ ⟨rfl, rfl⟩
  unfold D_prog_good_2
  by_cases c1 : i.op < 1
  · simp [f0, c1]
    exact ⟨_, se, no (by have : ¬ 1 ≤ i.op := by omega
                         simp [goodP, this])⟩
  by_cases c2 : 32 < i.op
  · simp [f0, c1, c2]
    exact ⟨_, se, no (by have : ¬ i.op ≤ 32 := by omega
                         simp [goodP, this])⟩
  have d1 : 1 ≤ i.op := by omega
  have d2 : i.op ≤ 32 := by omega
  by_cases c3 : i.op = 15
  · by_cases c6 : 16 < i.cs.length
    · have e6 : (16 : Int) < (i.cs.length : Int) := by omega
      simp [f0, f4, c1, c2, c3, hlen, e6]
      exact ⟨_, se, no (by have : ¬ i.cs.length ≤ 16 := by omega
                           simp [goodP, this])⟩
    · have e6 : ¬ (16 : Int) < (i.cs.length : Int) := by omega
      simp [f0, f4, c1, c2, c3, hlen, e6]
      exact D5 d1 d2 (by omega) (.inl c3) (by simp) (by simp)
  · by_cases c4 : i.cs = []
    · have e4 : i.cs.length = 0 := by rw [c4]; rfl
      cases c5 : i.df with
      | true =>
        simp [f0, f4, f5, c1, c2, c3, hlen, e4, c5]
        exact ⟨_, se, no (by simp [goodP, c3, c5])⟩
      | false =>
        simp [f0, f4, f5, c1, c2, c3, hlen, e4, c5]
        exact D5 d1 d2 (by omega) (.inr ⟨c4, c5⟩) (by simp) (by simp)
    · have e4 : 0 < i.cs.length := List.length_pos_iff.2 c4
      simp [f0, f4, f5, c1, c2, c3, hlen, e4, c4]
      exact ⟨_, se, no (by simp [goodP, c3, c4])⟩
/-- a program, as it is read: each instruction, and its cases' slice -/
def PrL (L : Lg) (v : AV) (p : List (Ins × AV)) : Prop := SlG (fun x : Ins × AV => x.1.cells x.2) 6 L v p ∧ ∀ x, x ∈ p → SlG Cs3.cells 3 L x.2 x.1.cs
def checkP (p : List Ins) : Bool := decide (p.length ≤ 100) && p.all fun i => goodP i p.length
theorem check1_spec (hf : H_prog_Check_1 N F) {L : Lg} {v : AV} {p : List (Ins × AV)} (hp : PrL L v p) {b : Nat} (hb : L b = some (.raw (.cells [v]))) {x : Ins × AV} (hx : x ∈ p) :
    CallL F (N k_prog_Check_1) ([] ++ (.agg (x.1.cells x.2)) :: [.p (some (b, 0))]) L fun y L' => y = .b (!goodP x.1 p.length) ∧ L' = L := by
  refine CallL.opq ?_
  intro Q hQ
  apply r_prog_Check_1 hf.code
  unfold D_prog_Check_1_1
  have hc := hp.2 x hx
  have hcv : x.2.one = true := by obtain ⟨a, cap, ex, e, _⟩ := hc; rw [e]; rfl
  have hone : (x.1.cells x.2).all AV.one = true := by simp [Ins.cells, hcv]
  simp
  rw [newL_box_agg _ _ _ hone]
  intro b1 hb1
  have h1 : (L.put b1 (.raw (.cells (x.1.cells x.2)))) b1 = some (.raw (.cells (x.1.cells x.2))) := Lg.put_same _ _ _
  have hs : SubL L (L.put b1 (.raw (.cells (x.1.cells x.2)))) := fun r d hd => by rw [Lg.put_ne _ _ _ (by rintro rfl; rw [hb1] at hd; cases hd)]; exact hd
  have g6 : rdL (L.put b1 (.raw (.cells (x.1.cells x.2)))) (b1, 0) (some 6) = some (.agg (x.1.cells x.2)) := by rw [rdL_cells h1 (by simp [Ins.cells])]; rfl
  have g0 : rdL (L.put b1 (.raw (.cells (x.1.cells x.2)))) (b, 0) none = some v := by rw [rdL_cell (hs _ _ hb)]; rfl
  simp [g6, g0, hp.1.len]
  refine (good_spec hf.prog_good (hc.mono hs) p.length).mono ?_
  rintro _ K3 ⟨rfl, hK3⟩
  rw [hK3]
  simp
  exact ⟨_, Ext2.sees hs, hQ _ _ ⟨by simp, rfl⟩⟩
theorem check_spec (hf : H_prog_Check N F) {L : Lg} {v : AV} {p : List (Ins × AV)} (hp : PrL L v p) (hl : p.length ≤ 1000000) :
    CallL F (N k_prog_Check) [v] L fun y L' => y = .i .i64 (if checkP (p.map (·.1)) = true then 0 else 1) ∧ L' = L := by
  refine CallL.opq ?_
  intro Q hQ
  apply r_prog_Check hf.code
  unfold D_prog_Check_1
  have hv : v.cellsOf = some [v] := by obtain ⟨a, cap, ex, e, _⟩ := hp.1; rw [e]; rfl
  have hlen := fun X k => hp.1.len (F := F) X k
  simp
  rw [newL_box v L _ hv]
  intro b hb
  have h1 : (L.put b (.raw (.cells [v]))) b = some (.raw (.cells [v])) := Lg.put_same _ _ _
  have hs : SubL L (L.put b (.raw (.cells [v]))) := fun r d hd => by rw [Lg.put_ne _ _ _ (by rintro rfl; rw [hb] at hd; cases hd)]; exact hd
  have g0 : rdL (L.put b (.raw (.cells [v]))) (b, 0) none = some v := by rw [rdL_cell h1]; rfl
  by_cases c1 : 100 < p.length
  · have e1 : (100 : Int) < (p.length : Int) := by omega
    have e3 : ¬ (p.length : Int) ≤ 100 := by omega
    simp [g0, hlen, e1, e3]
    exact ⟨_, Ext2.sees hs, hQ _ _ ⟨by have : ¬ p.length ≤ 100 := by omega
                                       simp [checkP, this], rfl⟩⟩
  · have e1 : ¬ (100 : Int) < (p.length : Int) := by omega
    simp [g0, hlen, e1]
    refine (containsI_spec hf.slices_ContainsFunc_InstrInstr (hp.1.mono hs) hl (p := fun x => !goodP x.1 p.length) fun x hx => check1_spec hf.prog_Check_1 ⟨hp.1.mono hs, fun x hx => (hp.2 x hx).mono hs⟩ h1 hx).mono ?_
    rintro _ K3 ⟨rfl, hK3⟩
    rw [hK3]
    have e2 : checkP (p.map (·.1)) = !(p.any fun x => !goodP x.1 p.length) := by
      have : p.length ≤ 100 := by omega
      simp [checkP, this, List.all_map, List.all_eq_not_any_not]
      rfl
    cases hh : p.any fun x => !goodP x.1 p.length with
    | true =>
      rw [hh] at e2
      have e4 : (p.length : Int) ≤ 100 := by omega
      simp [e4, e1]
      exact ⟨_, Ext2.sees hs, hQ _ _ ⟨by rw [e2]; rfl, rfl⟩⟩
    | false =>
      rw [hh] at e2
      have e4 : (p.length : Int) ≤ 100 := by omega
      simp [e4, e1]
      exact ⟨_, Ext2.sees hs, hQ _ _ ⟨by rw [e2]; rfl, rfl⟩⟩
end Go.AM


/- prog: All. -/
set_option linter.unusedVariables false
set_option linter.unusedSimpArgs false
namespace Go.AM
variable {N : Nat → Nat} {F : Nat → Option AFn}
def startsP (i : Ins) : Int := if i.op = 8 then i.b else if i.op = 19 then i.c else if i.op = 31 then i.c else -1
theorem starts_spec (hf : H_prog_starts N F) (i : Ins) {cv : AV} (hcv : cv.one = true) (L : Lg) : CallL F (N k_prog_starts) [.agg (i.cells cv)] L fun v L' => v = .i .i64 (startsP i) ∧ L' = L := by
  refine CallL.opq ?_
  intro Q hQ
  apply r_prog_starts hf.code
  unfold D_prog_starts_1
  have hone : (i.cells cv).all AV.one = true := by simp [Ins.cells, hcv]
  simp
  rw [newL_box_agg _ _ _ hone]
  intro b1 hb1
  have hb : (L.put b1 (.raw (.cells (i.cells cv)))) b1 = some (.raw (.cells (i.cells cv))) := Lg.put_same _ _ _
  have se : Sees (L.put b1 (.raw (.cells (i.cells cv)))) L := ((Ext2.refl L).put hb1 _).sees
  generalize hK : L.put b1 (.raw (.cells (i.cells cv))) = K at hb se
  have f0 : rdL K (b1, 0) none = some (.i .i64 i.op) := by rw [rdL_cell hb]; rfl
  have f2 : rdL K (b1, 2) none = some (.i .i64 i.b) := by rw [rdL_cell hb]; rfl
  have f3 : rdL K (b1, 3) none = some (.i .i64 i.c) := by rw [rdL_cell hb]; rfl
  by_cases c1 : i.op = 8
  · simp [f0, f2, c1]
    exact ⟨_, se, hQ _ _ ⟨by simp [startsP, c1], rfl⟩⟩
  by_cases c2 : i.op = 19
  · simp [f0, f3, c1, c2]
    exact ⟨_, se, hQ _ _ ⟨by simp [startsP, c1, c2], rfl⟩⟩
  by_cases c3 : i.op = 31
  · simp [f0, f3, c1, c2, c3]
    exact ⟨_, se, hQ _ _ ⟨by simp [startsP, c1, c2, c3], rfl⟩⟩
  · simp [f0, f3, c1, c2, c3]
    exact ⟨_, se, hQ _ _ ⟨by simp [startsP, c1, c2, c3], rfl⟩⟩
/-- programs, as they are read -/
def PsL (L : Lg) (v : AV) (ps : List (AV × List (Ins × AV))) : Prop := SlG (fun x : AV × List (Ins × AV) => [x.1]) 1 L v ps ∧ ∀ x, x ∈ ps → PrL L x.1 x.2 ∧ x.2.length ≤ 1000000
def insOf (p : List (Ins × AV)) : List Ins := p.map (·.1)
def allP (ps : List (List Ins)) : Bool := decide (1 ≤ ps.length) && decide (ps.length ≤ 16) && ps.all fun p => checkP p && !(p.any fun i => decide ((ps.length : Int) ≤ startsP i))
theorem all1_spec (hf : H_prog_All_1 N F) {L : Lg} {v : AV} {n : Nat} (hv : ∀ (X : Lg) (k : AV → Lg → Prop), wpOp F .lenSl [v] X k = k (.i .i64 n) X) {b : Nat} (hb : L b = some (.raw (.cells [v]))) {x : Ins × AV} (hx : x.2.one = true) (hsl : ∃ a m c e, v = .sl a m c e) :
    CallL F (N k_prog_All_1) ([] ++ (.agg (x.1.cells x.2)) :: [.p (some (b, 0))]) L fun y L' => y = .b (decide ((n : Int) ≤ startsP x.1)) ∧ L' = L := by
  refine CallL.opq ?_
  intro Q hQ
  apply r_prog_All_1 hf.code
  unfold D_prog_All_1_1
  have hone : (x.1.cells x.2).all AV.one = true := by simp [Ins.cells, hx]
  simp
  rw [newL_box_agg _ _ _ hone]
  intro b1 hb1
  have h1 : (L.put b1 (.raw (.cells (x.1.cells x.2)))) b1 = some (.raw (.cells (x.1.cells x.2))) := Lg.put_same _ _ _
  have hs : SubL L (L.put b1 (.raw (.cells (x.1.cells x.2)))) := fun r d hd => by rw [Lg.put_ne _ _ _ (by rintro rfl; rw [hb1] at hd; cases hd)]; exact hd
  have g6 : rdL (L.put b1 (.raw (.cells (x.1.cells x.2)))) (b1, 0) (some 6) = some (.agg (x.1.cells x.2)) := by rw [rdL_cells h1 (by simp [Ins.cells])]; rfl
  have g0 : rdL (L.put b1 (.raw (.cells (x.1.cells x.2)))) (b, 0) none = some v := by rw [rdL_cell (hs _ _ hb)]; rfl
  simp [g6]
  refine (starts_spec hf.prog_starts x.1 hx _).mono ?_
  rintro _ K3 ⟨rfl, hK3⟩
  rw [hK3]
  simp [g0, hv]
  refine ⟨?_, ⟨_, Ext2.sees hs, hQ _ _ ⟨by simp, rfl⟩⟩⟩
  obtain ⟨a, m, c, e, rfl⟩ := hsl
  rcases a with _ | ⟨x1, x2⟩ <;> simp [againV, semRL, rLdL, g0, sameV, same1]
theorem all_spec (hf : H_prog_All N F) {L : Lg} {v : AV} {ps : List (AV × List (Ins × AV))} (hp : PsL L v ps) (hl : ps.length ≤ 1000000) :
    CallL F (N k_prog_All) [v] L fun y L' => y = .i .i64 (if allP (ps.map fun x => insOf x.2) = true then 0 else 1) ∧ L' = L := by
  refine CallL.opq ?_
  intro Q hQ
  apply r_prog_All hf.code
  unfold D_prog_All_1
  have hv : v.cellsOf = some [v] := by obtain ⟨a, cap, ex, e, _⟩ := hp.1; rw [e]; rfl
  have hlen := fun X k => hp.1.len (F := F) X k
  simp
  rw [newL_box v L _ hv]
  intro b hb
  have h1 : (L.put b (.raw (.cells [v]))) b = some (.raw (.cells [v])) := Lg.put_same _ _ _
  have hs : SubL L (L.put b (.raw (.cells [v]))) := fun r d hd => by rw [Lg.put_ne _ _ _ (by rintro rfl; rw [hb] at hd; cases hd)]; exact hd
  generalize hK : L.put b (.raw (.cells [v])) = K at h1 hs
  have se : Sees K L := Ext2.sees hs
  have g0 : rdL K (b, 0) none = some v := by rw [rdL_cell h1]; rfl
  have no : allP (ps.map fun x => insOf x.2) = false → Q (.i .i64 1) L := fun h => by have := hQ (.i .i64 (if allP (ps.map fun x => insOf x.2) = true then 0 else 1)) L ⟨rfl, rfl⟩; rw [h] at this; exact this
  unfold D_prog_All_2
  by_cases c1 : ps.length < 1
  · have e1 : (ps.length : Int) < 1 := by omega
    simp [g0, hlen, e1]
    exact ⟨_, se, no (by have : ¬ 1 ≤ ps.length := by omega
                         simp [allP, this])⟩
  by_cases c2 : 16 < ps.length
  · have e1 : ¬ (ps.length : Int) < 1 := by omega
    have e2 : (16 : Int) < (ps.length : Int) := by omega
    simp [g0, hlen, e1, e2]
    exact ⟨_, se, no (by have : ¬ ps.length ≤ 16 := by omega
                         simp [allP, this])⟩
  have e1 : ¬ (ps.length : Int) < 1 := by omega
  have e2 : ¬ (16 : Int) < (ps.length : Int) := by omega
  simp [g0, hlen, e1, e2]
  unfold D_prog_All_5
  simp [g0, hlen]
  unfold D_prog_All_7
  have bad : ∀ x, x ∈ ps → (checkP (insOf x.2) && !((insOf x.2).any fun i => decide ((ps.length : Int) ≤ startsP i))) = false → Q (.i .i64 1) L := fun x hx h => no (by
    have : (ps.map fun x => insOf x.2).all (fun p => checkP p && !(p.any fun i => decide (((ps.map fun x => insOf x.2).length : Int) ≤ startsP i))) = false := by
      rw [List.all_eq_false]
      refine ⟨insOf x.2, List.mem_map.2 ⟨x, hx, rfl⟩, ?_⟩
      rw [List.length_map, h]; simp
    unfold allP
    rw [this]; simp)
  obtain ⟨I, hI⟩ : ∃ I : Nat → Env → Lg → Prop, I = fun m E K' => ∃ k : Nat, m + k = ps.length ∧ K' = K ∧ E 1 = .p (some (b, 0)) ∧ E 13 = v ∧ E 14 = .i .i64 ps.length ∧ E 15 = .i .i64 k ∧
      (∀ x, x ∈ ps.take k → (checkP (insOf x.2) && !((insOf x.2).any fun i => decide ((ps.length : Int) ≤ startsP i))) = true) := ⟨_, rfl⟩
  refine loopW_intro I ps.length ?_ ?_
  · rw [hI]
    exact ⟨0, by omega, rfl, by simp, by simp, by simp, by simp, by simp⟩
  intro m E t K' hi
  rw [hI] at hi
  obtain ⟨k, hm, rfl, e1', e13, e14, e15, hall⟩ := hi
  unfold D_prog_All_8
  rw [e1', e13, e14, e15]
  by_cases hk : k < ps.length
  · have hw : ps[k]? = some ps[k] := List.getElem?_eq_getElem hk
    obtain ⟨bb, o, q1, q2, q3⟩ := hp.1.get (F := F) hw
    have q4 := (q2 K' hs).1 0 (by omega)
    have q5 : rdL K' (bb, o) none = some ps[k].1 := by simpa using q4
    have e3 : (k : Int) < (ps.length : Int) := by omega
    obtain ⟨hpr, hpl⟩ := hp.2 ps[k] (List.getElem_mem _)
    have hpr' : PrL K' ps[k].1 ps[k].2 := ⟨hpr.1.mono hs, fun x hx => (hpr.2 x hx).mono hs⟩
    simp [hk, q1, q5]
    refine (check_spec hf.prog_Check hpr' hpl).mono ?_
    rintro _ K3 ⟨rfl, hK3⟩
    rw [hK3]
    cases hc : checkP (insOf ps[k].2) with
    | false =>
      have hc' : checkP (ps[k].2.map (·.1)) = false := hc
      simp [hc']
      exact ⟨_, se, bad ps[k] (List.getElem_mem _) (by rw [hc]; rfl)⟩
    | true =>
      have hc' : checkP (ps[k].2.map (·.1)) = true := hc
      simp [hc']
      have hsl : ∃ a m c e, v = .sl a m c e := by obtain ⟨a, cap, ex, e, _⟩ := hp.1; exact ⟨a, _, cap, ex, e⟩
      refine (containsI_spec hf.slices_ContainsFunc_InstrInstr hpr'.1 hpl (p := fun x => decide ((ps.length : Int) ≤ startsP x.1)) fun x hx => ?_).mono ?_
      · exact all1_spec hf.prog_All_1 hlen h1 (by obtain ⟨a, cap, ex, e, _⟩ := hpr'.2 x hx; rw [e]; rfl) hsl
      rintro _ K4 ⟨rfl, hK4⟩
      rw [hK4]
      have ha : (ps[k].2.any fun x => decide ((ps.length : Int) ≤ startsP x.1)) = (insOf ps[k].2).any fun i => decide ((ps.length : Int) ≤ startsP i) := by
        unfold insOf; rw [List.any_map]; rfl
      rw [ha]
      cases hy : (insOf ps[k].2).any fun i => decide ((ps.length : Int) ≤ startsP i) with
      | true =>
        simp
        exact ⟨_, se, bad ps[k] (List.getElem_mem _) (by rw [hy]; simp)⟩
      | false =>
        have w4 : wr .i64 ((k : Int) + 1) = ((k + 1 : Nat) : Int) := by rw [wr_id (by omega) (by omega)]; omega
        simp [w4]
        rw [hI]
        refine ⟨m - 1, by omega, k + 1, by omega, rfl, by simp [e1'], by simp [e13], by simp [e14], by simp, ?_⟩
        intro x hx
        rw [List.take_add_one, hw] at hx
        rcases List.mem_append.1 hx with hx | hx
        · exact hall x hx
        · simp at hx; rw [hx, hc, hy]; rfl
  · have e3 : ¬ (k : Int) < (ps.length : Int) := by omega
    have e4 : k = ps.length := by omega
    simp [hk, D_prog_All_4]
    rw [e4, List.take_length] at hall
    have hy : allP (ps.map fun x => insOf x.2) = true := by
      unfold allP
      have a1 : 1 ≤ ps.length := by omega
      have a2 : ps.length ≤ 16 := by omega
      simp only [List.length_map, a1, a2, decide_true, Bool.true_and]
      rw [List.all_eq_true]
      intro p hp2
      obtain ⟨x, hx, rfl⟩ := List.mem_map.1 hp2
      exact hall x hx
    have := hQ (.i .i64 (if allP (ps.map fun x => insOf x.2) = true then 0 else 1)) L ⟨rfl, rfl⟩
    rw [hy] at this
    exact ⟨_, se, this⟩
end Go.AM


/- the document's clock: it does what the program's does. -/
set_option linter.unusedVariables false
set_option linter.unusedSimpArgs false
namespace Go.AM
variable {N : Nat → Nat} {F : Nat → Option AFn}
end Go.AM


/- timer: Reset, Fire. -/
set_option linter.unusedVariables false
set_option linter.unusedSimpArgs false
namespace Go.AM
variable {N : Nat → Nat} {F : Nat → Option AFn}
section
variable {L K : Lg} {s t : Nat} {σ : Tms}
end
end Go.AM


/- one timer: what its acts make of it; in plain Lean. -/
set_option linter.unusedVariables false
set_option linter.unusedSimpArgs false
namespace Go.AM

theorem held_id {t : Int} (h : -4611686018427387904 ≤ t) (k : t ≤ 4611686018427387904) : held t = t := by unfold held; omega
theorem clockAdd_id {t d : Int} (h : 0 ≤ t) (k : 0 ≤ d) (b : t + d ≤ 4611686018427387904) : clockAdd t d = t + d := by
  unfold clockAdd
  rw [held_id (t := t) (by omega) (by omega), held_id (t := d) (by omega) (by omega), held_id (by omega) (by omega)]
/-- one timer that is armed -/
structure Sg (σ : Tms) (k dat : Int) (c : Option Nat) (g due q p : Int) : Prop where
  ones : σ.ones = [⟨k, dat, c, g⟩]
  l : σ.x.l = [⟨0, due, q⟩]
  seq : σ.x.seq = q
  pf : σ.x.pf 0 = some p
/-- one timer that is not -/
structure Idl (σ : Tms) (k dat : Int) (c : Option Nat) (g q : Int) : Prop where
  ones : σ.ones = [⟨k, dat, c, g⟩]
  l : σ.x.l = []
  seq : σ.x.seq = q
def Tms.nil : Tms := ⟨[], ⟨[], 0, fun _ => none⟩, 0⟩
theorem badT_ok {a b : Int} (h1 : 0 ≤ a) (h2 : 0 ≤ b) (h3 : a ≤ 4611686018427387904) (h4 : b ≤ 4611686018427387904) : badT a b = false := by
  simp [badT]; omega
section
variable {σ : Tms} {k dat g due q p : Int} {c : Option Nat}
theorem Sg.sorted (h : Sg σ k dat c g due q p) : σ.x.l.Pairwise It.lt := by rw [h.l]; simp
theorem Idl.sorted (h : Idl σ k dat c g q) : σ.x.l.Pairwise It.lt := by rw [h.l]; simp
theorem Sg.one (h : Sg σ k dat c g due q p) : σ.one 0 = some ⟨k, dat, c, g⟩ := by simp [Tms.one, Tms.has, h.ones]
theorem Idl.one (h : Idl σ k dat c g q) : σ.one 0 = some ⟨k, dat, c, g⟩ := by simp [Tms.one, Tms.has, h.ones]
theorem Sg.len (h : Sg σ k dat c g due q p) : σ.x.l.length < 1000000 := by rw [h.l]; simp
theorem Idl.len (h : Idl σ k dat c g q) : σ.x.l.length < 1000000 := by rw [h.l]; simp
theorem Sg.stop (h : Sg σ k dat c g due q p) : Idl { σ with x := σ.x.stop 0 } k dat c g q := ⟨h.ones, by simp [Xs.stop, h.l, rmId], h.seq⟩
theorem Idl.stop (h : Idl σ k dat c g q) : Idl { σ with x := σ.x.stop 0 } k dat c g q := ⟨h.ones, by simp [Xs.stop, h.l, rmId], h.seq⟩
end
end Go.AM


/- sets of timers whatever: what is kept; in plain Lean. -/
set_option linter.unusedVariables false
set_option linter.unusedSimpArgs false
namespace Go.AM
/-- what is so of what will be due -/
structure XG (x : Xs) (K : Int) : Prop where
  sorted : x.l.Pairwise It.lt
  nd : (x.l.map It.id).Nodup
  below : ∀ y ∈ x.l, y.s ≤ x.seq
  pos : 0 ≤ x.seq
  seq : x.seq ≤ K
  len : (x.l.length : Int) ≤ K
  per : ∀ y ∈ x.l, ∃ p, x.pf y.id = some p ∧ 0 ≤ p ∧ p ≤ 4611686018427387904
  time : ∀ y ∈ x.l, 0 ≤ y.w ∧ y.w ≤ 4611686018427387904
theorem rmId_mem {id : Int} {l : List It} {y : It} : y ∈ rmId id l ↔ y ∈ l ∧ y.id ≠ id := by simp [rmId]
theorem XG.mono {x : Xs} {K K' : Int} (h : XG x K) (hk : K ≤ K') : XG x K' := ⟨h.sorted, h.nd, h.below, h.pos, Int.le_trans h.seq hk, Int.le_trans h.len hk, h.per, h.time⟩
theorem XG.stop {x : Xs} {K : Int} (h : XG x K) (id : Int) : XG (x.stop id) K := by
  have sub : (rmId id x.l).Sublist x.l := List.filter_sublist
  refine ⟨h.sorted.sublist sub, h.nd.sublist (sub.map _), ?_, h.pos, h.seq, ?_, ?_, ?_⟩
  · intro y hy; exact h.below y (rmId_mem.1 hy).1
  · have h1 := sub.length_le
    have h2 := h.len
    have h3 : ((rmId id x.l).length : Int) ≤ (x.l.length : Int) := by omega
    exact Int.le_trans h3 h2
  · intro y hy
    have hy' := rmId_mem.1 hy
    obtain ⟨p, h1, h2⟩ := h.per y hy'.1
    have hn : ¬ id = y.id := fun h9 => hy'.2 h9.symm
    exact ⟨p, by simp [Xs.stop, updI, hn, hy'.2, h1], h2⟩
  · intro y hy; exact h.time y (rmId_mem.1 hy).1
theorem stop_mem {x : Xs} {id : Int} {y : It} : y ∈ (x.stop id).l ↔ y ∈ x.l ∧ y.id ≠ id := rmId_mem
theorem ins_mem {x y : It} {l : List It} : y ∈ ins x l ↔ y = x ∨ y ∈ l := by rw [(ins_perm x l).mem_iff]; simp
theorem XG.arm {x : Xs} {K : Int} (h : XG x K) (id when p : Int) (h1 : 0 ≤ when) (h2 : 0 ≤ p) (h3 : when ≤ 4611686018427387904) (h4 : p ≤ 4611686018427387904) :
    XG (x.arm id when p).1 (K + 1) ∧ (∀ y, y ∈ (x.arm id when p).1.l ↔ y = ⟨id, when, x.seq + 1⟩ ∨ (y ∈ x.l ∧ y.id ≠ id)) ∧ (x.arm id when p).1.pf id = some p ∧ (∀ j, j ≠ id → (x.arm id when p).1.pf j = x.pf j) ∧ (x.arm id when p).1.seq = x.seq + 1 := by
  have hb := badT_ok h1 h2 h3 h4
  have e : (x.arm id when p).1 = x.armed id when p := by simp [Xs.arm, hb]
  rw [e]
  have mem : ∀ y, y ∈ (x.armed id when p).l ↔ y = ⟨id, when, x.seq + 1⟩ ∨ (y ∈ x.l ∧ y.id ≠ id) := by
    intro y
    simp only [Xs.armed]
    rw [ins_mem, rmId_mem]
  have hs := h.stop id
  refine ⟨⟨?_, ?_, ?_, ?_, ?_, ?_, ?_, ?_⟩, mem, by simp [Xs.armed, updI], ?_, rfl⟩
  · refine ins_sorted hs.sorted ?_
    intro y hy
    have := h.below y (rmId_mem.1 hy).1
    simp; omega
  · simp only [Xs.armed]
    rw [((ins_perm _ _).map It.id).nodup_iff]
    simp only [List.map_cons, List.nodup_cons]
    refine ⟨?_, hs.nd⟩
    intro h9
    obtain ⟨y, hy, hyi⟩ := List.mem_map.1 h9
    exact (rmId_mem.1 hy).2 hyi
  · intro y hy
    rcases (mem y).1 hy with rfl | ⟨h5, _⟩
    · simp [Xs.armed]
    · have := h.below y h5; simp [Xs.armed]; omega
  · have := h.pos; simp [Xs.armed]; omega
  · have := h.seq; simp [Xs.armed]; omega
  · have h5 := hs.len
    simp only [Xs.armed, (ins_perm _ _).length_eq, List.length_cons]
    simp only [Xs.stop] at h5
    omega
  · intro y hy
    rcases (mem y).1 hy with rfl | ⟨h5, h6⟩
    · exact ⟨p, by simp [Xs.armed, updI], h2, h4⟩
    · obtain ⟨q, h7, h8⟩ := h.per y h5
      have hn : ¬ id = y.id := fun h9 => h6 h9.symm
      exact ⟨q, by simp [Xs.armed, updI, hn, h6, h7], h8⟩
  · intro y hy
    rcases (mem y).1 hy with rfl | ⟨h5, h6⟩
    · exact ⟨h1, h3⟩
    · exact h.time y h5
  · intro j hj
    have hn : ¬ id = j := fun h9 => hj h9.symm
    simp [Xs.armed, updI, hn, hj]
/-- what is due is taken: or nothing is -/
theorem XG.take {x : Xs} {K : Int} (h : XG x K) {now : Int} (hn : 0 ≤ now) (hb : now ≤ 2305843009213693952) (hp : ∀ y ∈ x.l, ∀ p, x.pf y.id = some p → p ≤ 2305843009213693952) :
    ((∀ y ∈ x.l, now < y.w) ∧ x.take now = (x, (0, 0, 0), false)) ∨
    ∃ (x' : Xs) (y : It), y ∈ x.l ∧ y.w ≤ now ∧ (∀ z ∈ x.l, ¬ z.lt y) ∧ x.take now = (x', (y.id, y.w, now), true) ∧ XG x' (K + 1) ∧ (∀ j, j ≠ y.id → x'.pf j = x.pf j) ∧ 
      ((x.pf y.id = some 0 ∧ ∀ z, z ∈ x'.l ↔ z ∈ x.l ∧ z.id ≠ y.id) ∨
       ∃ p, 0 < p ∧ x.pf y.id = some p ∧ x'.pf y.id = some p ∧ ∀ z, z ∈ x'.l ↔ (z = ⟨y.id, now + (p - (now - y.w) % p), x.seq + 1⟩ ∨ (z ∈ x.l ∧ z.id ≠ y.id))) := by
  cases hl : x.l with
  | nil => left; simp [Xs.take, hl]
  | cons y r =>
    have hs := h.sorted
    rw [hl, List.pairwise_cons] at hs
    have hy : y ∈ x.l := by rw [hl]; simp
    obtain ⟨t0, t1⟩ := h.time y hy
    by_cases hw : now < y.w
    · left
      refine ⟨?_, by simp [Xs.take, hl, hw]⟩
      intro z hz
      rcases List.mem_cons.1 hz with rfl | hz
      · exact hw
      · have := hs.1 z hz
        unfold It.lt at this
        omega
    · right
      obtain ⟨p, hp1, hp2, hp3⟩ := h.per y hy
      have hp4 := hp y hy p hp1
      have c1 : ¬ (now < 0 ∨ now < y.w) := by omega
      have hmin : ∀ z ∈ y :: r, ¬ z.lt y := by
        intro z hz
        rcases List.mem_cons.1 hz with rfl | hz
        · exact It.lt_irrefl _
        · exact It.lt_asymm (hs.1 z hz)
      by_cases hp0 : p = 0
      · subst hp0
        refine ⟨x.stop y.id, y, by simp, by omega, hmin, by simp [Xs.take, hl, c1, hp1, clockNext], (h.stop y.id).mono (by omega), ?_, .inl ⟨hp1, fun z => ?_⟩⟩
        · intro j hj
          have hn : ¬ y.id = j := fun h9 => hj h9.symm
          simp [Xs.stop, updI, hn, hj]
        · rw [stop_mem, hl]
      · have hpp : 0 < p := by omega
        have m0 := Int.emod_nonneg (now - y.w) (show p ≠ 0 by omega)
        have m1 := Int.emod_lt_of_pos (now - y.w) hpp
        have c2 : ¬ (p < 1 ∨ min y.w now < 0 ∨ 4611686018427387904 < max y.w (max p now)) := by omega
        have c3 : ¬ now < y.w := by omega
        have e1 : (now - y.w).tmod p = (now - y.w) % p := Int.tmod_eq_emod_of_nonneg (by omega)
        have e2 : clockNext y.w p now = (now + (p - (now - y.w) % p), 0) := by
          simp only [clockNext, if_neg c2, if_neg c3, e1]
          rw [clockAdd_id (by omega) (by omega) (by omega)]
        have e3 : now < now + (p - (now - y.w) % p) := by omega
        obtain ⟨a1, a2, a3, a4, a5⟩ := (h.stop y.id).arm y.id (now + (p - (now - y.w) % p)) p (by omega) (by omega) (by omega) (by omega)
        refine ⟨((x.stop y.id).arm y.id (now + (p - (now - y.w) % p)) p).1, y, by simp, by omega, hmin, ?_, a1, ?_, .inr ⟨p, hpp, hp1, a3, fun z => ?_⟩⟩
        · simp [Xs.take, hl, c1, hp1, e2, e3]
        · intro j hj
          have hn : ¬ y.id = j := fun h9 => hj h9.symm
          rw [a4 j hj]
          simp [Xs.stop, updI, hn, hj]
        · rw [a2, stop_mem, hl]
          constructor
          · rintro (h1 | ⟨⟨h1, h2⟩, h3⟩)
            · exact .inl h1
            · exact .inr ⟨h1, h2⟩
          · rintro (h1 | ⟨h1, h2⟩)
            · exact .inl h1
            · exact .inr ⟨⟨h1, h2⟩, h2⟩
end Go.AM


/- the document's timers: find, in plain; what is opened. -/
set_option linter.unusedVariables false
set_option linter.unusedSimpArgs false
namespace Go.AM
variable {N : Nat → Nat} {F : Nat → Option AFn}
/-- the periods, as the document keeps them: in a row -/
def per3 (p : Int × Int) : List AV := [.i .i64 p.1, .i .i64 p.2, .i .i64 0]
def perOf (id : Int) : List (Int × Int) → Option Int
  | [] => none
  | p :: r => if p.1 = id then some p.2 else perOf id r
def rmP (id : Int) : List (Int × Int) → List (Int × Int)
  | [] => []
  | p :: r => if p.1 = id then r else p :: rmP id r
theorem perOf_no {id : Int} : ∀ {l : List (Int × Int)}, (∀ y ∈ l, y.1 ≠ id) → perOf id l = none
  | [], _ => rfl
  | a :: r, h => by simp [perOf, h a (by simp), perOf_no (l := r) (fun y hy => h y (by simp [hy]))]
theorem rmP_mem {id : Int} : ∀ {l : List (Int × Int)} {y : Int × Int}, y ∈ rmP id l → y ∈ l
  | [], y, h => by simp [rmP] at h
  | a :: r, y, h => by
    simp only [rmP] at h
    split at h
    · simp [h]
    · rcases List.mem_cons.1 h with h | h
      · simp [h]
      · simp [rmP_mem h]
theorem rmP_nd {id : Int} : ∀ {l : List (Int × Int)}, (l.map (·.1)).Nodup → ((rmP id l).map (·.1)).Nodup ∧ (∀ y ∈ rmP id l, y.1 ≠ id) ∧ ∀ j, perOf j (rmP id l) = updI (fun k => perOf k l) id none j
  | [], _ => ⟨by simp [rmP], by simp [rmP], fun j => by simp [rmP, perOf, updI]⟩
  | a :: r, nd => by
    simp only [List.map_cons, List.nodup_cons] at nd
    obtain ⟨h1, h2, h3⟩ := rmP_nd (id := id) nd.2
    by_cases h : a.1 = id
    · have hn : ∀ y ∈ r, y.1 ≠ id := fun y hy h9 => nd.1 (by rw [h, ← h9]; exact List.mem_map_of_mem hy)
      refine ⟨by simpa [rmP, h] using nd.2, by simpa [rmP, h] using hn, fun j => ?_⟩
      simp only [rmP, h, if_true, updI, perOf]
      by_cases hj : id = j
      · subst hj; simp [perOf_no hn]
      · simp [hj]
    · refine ⟨?_, ?_, fun j => ?_⟩
      · simp only [rmP, h, if_false, List.map_cons, List.nodup_cons]
        refine ⟨fun h9 => ?_, h1⟩
        obtain ⟨y, hy, he⟩ := List.mem_map.1 h9
        exact nd.1 (by rw [← he]; exact List.mem_map_of_mem (rmP_mem hy))
      · intro y hy
        simp only [rmP, h, if_false] at hy
        rcases List.mem_cons.1 hy with rfl | hy
        · exact h
        · exact h2 y hy
      · have := h3 j
        simp only [updI] at this
        simp only [rmP, h, if_false, updI, perOf, this]
        by_cases hj : id = j
        · subst hj; simp [h]
        · simp [hj]
theorem perOf_append {id p j : Int} : ∀ {l : List (Int × Int)}, (∀ y ∈ l, y.1 ≠ id) → perOf j (l ++ [(id, p)]) = updI (fun k => perOf k l) id (some p) j
  | [], _ => by simp [perOf, updI]
  | a :: r, h => by
    have := perOf_append (id := id) (p := p) (j := j) (l := r) (fun y hy => h y (by simp [hy]))
    have h0 := h a (by simp)
    simp only [updI] at this
    simp only [List.cons_append, perOf, this, updI]
    by_cases hj : id = j
    · subst hj; simp [h0]
    · simp [hj]
/-- how the document keeps a set of timers -/
structure ROpen (L : Lg) (u : Nat) (σ : Tms) (per : List (Int × Int)) (sv pv ov : AV) (K : Lg) : Prop where
  root : K u = some (.raw (.cells [sv, .i .i64 σ.x.seq, pv, ov, .i .i64 σ.named]))
  hs : OSe K sv (flatc It.cells σ.x.l) σ.x.l.length 3
  ps : OSe K pv (flatc per3 per) per.length 3
  os : OSl K ov (flatc On.cells σ.ones) σ.ones.length 4
  a1 : ∀ b, slB sv = some b → b ≠ u ∧ L b = none
  a2 : ∀ b, slB pv = some b → b ≠ u ∧ L b = none ∧ slB sv ≠ some b
  a3 : ∀ b, slB ov = some b → b ≠ u ∧ L b = none ∧ slB sv ≠ some b ∧ slB pv ≠ some b
  old : ∀ r d, r ≠ u → L r = some d → K r = some d
theorem OSe.one {K : Lg} {v : AV} {cs : List AV} {n size : Nat} (h : OSe K v cs n size) : v.one = true := by
  rcases h with h | ⟨_, _, b, rfl, _⟩
  · exact h.one
  · rfl
theorem OSe.cellsOf {K : Lg} {v : AV} {cs : List AV} {n size : Nat} (h : OSe K v cs n size) : v.cellsOf = some [v] := by
  rcases h with h | ⟨_, _, b, rfl, _⟩
  · exact h.cellsOf
  · rfl
theorem OSe.same {K : Lg} {v : AV} {cs : List AV} {n size : Nat} (h : OSe K v cs n size) : sameV v v = true := by
  rcases h with (⟨_, _, rfl⟩ | ⟨b, ex, _, rfl, _⟩) | ⟨_, _, b, rfl, _⟩ <;> simp
theorem OSe.mono {K K' : Lg} {v : AV} {cs : List AV} {n size : Nat} (h : OSe K v cs n size) (e : ∀ b, slB v = some b → K' b = K b) : OSe K' v cs n size := by
  rcases h with h | ⟨h1, h2, b, rfl, h3⟩
  · exact .inl (h.mono e)
  · exact .inr ⟨h1, h2, b, rfl, by rw [e b rfl]; exact h3⟩
theorem OSe.sub {K K' : Lg} {v : AV} {cs : List AV} {n size : Nat} (h : OSe K v cs n size) (e : ∀ b d, slB v = some b → K b = some d → K' b = some d) : OSe K' v cs n size :=
  h.mono fun b hb => by rw [h.block hb]; exact e b _ hb (h.block hb)
theorem OSl.sub {K K' : Lg} {v : AV} {cs : List AV} {n size : Nat} (h : OSl K v cs n size) (e : ∀ b d, slB v = some b → K b = some d → K' b = some d) : OSl K' v cs n size :=
  h.mono fun b hb => by rw [h.block hb]; exact e b _ hb (h.block hb)
/-- one struct, as a slice -/
theorem litOneN {z cs : List AV} {size : Nat} {K : Lg} {k : AV → Lg → Prop} (hz : z.length = size) (hc : cs.length = size) (h1 : cs.all AV.one = true) (hk : ∀ (v : AV) (K1 : Lg), OSl K1 v cs 1 size → SubL K K1 → (∀ b, slB v = some b → K b = none) → k v K1) :
    newL (aBslice z 1 size [0]) [.agg cs] K k := by
  rw [newL_bslice (c := cs) _ _ (by simp [reps, fillP, splice, ble_nat, beq_nat, hz, hc, cellsOf_agg cs h1]) h1]
  intro b1 hb1
  refine hk _ _ (.inr ⟨b1, 0, by omega, rfl, .inl rfl, Lg.put_same _ _ _, by simp [hc]⟩) ((SubL.refl K).put hb1 _) ?_
  intro b hb; simp [slB] at hb; subst hb; exact hb1
end Go.AM


/- the document's heap: Find, Remove, put. -/
set_option linter.unusedVariables false
set_option linter.unusedSimpArgs false
namespace Go.AM
variable {N : Nat → Nat} {F : Nat → Option AFn}
/-- a slice that began as an empty literal behind K0 -/
structure LitS (K0 : Lg) (v : AV) (cs : List AV) (n z : Nat) (K1 : Lg) : Prop where
  o : OSe K1 v cs n z
  s : SubL K0 K1
  f : ∀ b, slB v = some b → K0 b = none
theorem SubL.none {K0 K1 : Lg} (h : SubL K0 K1) {b : Nat} (hb : K1 b = Option.none) : K0 b = Option.none := by
  cases hk : K0 b with
  | none => rfl
  | some d => rw [h b d hk] at hb; cases hb
theorem LitS.app {α : Type} {f : α → List AV} {z bytes n : Nat} {K0 K : Lg} {v src : AV} {cs : List AV} {l : List α} (h : LitS K0 v cs n z K) (hf : ∀ x, (f x).length = z) (h1 : ∀ x, (f x).all AV.one = true) (hz : 0 < z) (hs : SlG f z K src l) (hb : (n + l.length) * bytes ≤ 70368744177664)
    {k : AV → Lg → Prop} (hk : ∀ (v' : AV) (K1 : Lg), LitS K0 v' (cs ++ flatc f l) (n + l.length) z K1 → k v' K1) : wpOp F (.app z bytes) [v, src] K k := by
  refine h.o.app hf h1 hz hs hb ?_
  intro v' K1 h2 h3 h4
  refine hk v' K1 ⟨h2, fun r d hr => h3 r d (h.s r d hr) (fun h9 => by have := h.f r h9; rw [hr] at this; cases this), fun b hb' => ?_⟩
  rcases h4 b hb' with h9 | h9
  · exact h.s.none h9
  · exact h.f b h9
theorem LitS.mono {z n : Nat} {K0 K K' : Lg} {v : AV} {cs : List AV} (h : LitS K0 v cs n z K) (hs : SubL K K') : LitS K0 v cs n z K' := ⟨h.o.sub fun b d _ hd => hs b d hd, h.s.trans hs, h.f⟩
section
variable {L K : Lg} {u : Nat} {σ : Tms} {per : List (Int × Int)} {sv pv ov : AV}
theorem ROpen.ne (o : ROpen L u σ per sv pv ov K) {b : Nat} (hb : K b = none) : b ≠ u ∧ L b = none ∧ slB sv ≠ some b ∧ slB pv ≠ some b ∧ slB ov ≠ some b := by
  have h1 : b ≠ u := by rintro rfl; have := o.root; rw [hb] at this; cases this
  refine ⟨h1, ?_, ?_, ?_, ?_⟩
  · cases h : L b with
    | none => rfl
    | some d => rw [o.old b d h1 h] at hb; cases hb
  · intro h; have := o.hs.block h; rw [hb] at this; cases this
  · intro h; have := o.ps.block h; rw [hb] at this; cases this
  · intro h; have := o.os.block h; rw [hb] at this; cases this
theorem ROpen.sub (o : ROpen L u σ per sv pv ov K) {K' : Lg} (h : SubL K K') : ROpen L u σ per sv pv ov K' :=
  ⟨h _ _ o.root, o.hs.sub fun b d _ hd => h b d hd, o.ps.sub fun b d _ hd => h b d hd, o.os.sub fun b d _ hd => h b d hd, o.a1, o.a2, o.a3, fun r d hr hd => h r d (o.old r d hr hd)⟩
theorem ROpen.below (o : ROpen L u σ per sv pv ov K) {L0 : Lg} (h : ∀ r d, r ≠ u → L0 r = some d → L r = some d) : ROpen L0 u σ per sv pv ov K := by
  have key : ∀ b, b ≠ u → L b = none → L0 b = none := fun b h1 h2 => by
    cases h3 : L0 b with
    | none => rfl
    | some d => rw [h b d h1 h3] at h2; cases h2
  exact ⟨o.root, o.hs, o.ps, o.os, fun b hb => ⟨(o.a1 b hb).1, key b (o.a1 b hb).1 (o.a1 b hb).2⟩, fun b hb => ⟨(o.a2 b hb).1, key b (o.a2 b hb).1 (o.a2 b hb).2.1, (o.a2 b hb).2.2⟩,
    fun b hb => ⟨(o.a3 b hb).1, key b (o.a3 b hb).1 (o.a3 b hb).2.1, (o.a3 b hb).2.2⟩, fun r d hr hd => o.old r d hr (h r d hr hd)⟩
theorem ROpen.seq (o : ROpen L u σ per sv pv ov K) (q : Int) : ROpen L u { σ with x := { σ.x with seq := q } } per sv pv ov (K.put u (.raw (.cells [sv, .i .i64 q, pv, ov, .i .i64 σ.named]))) :=
  ⟨Lg.put_same _ _ _, o.hs.mono fun b hb => Lg.put_ne _ _ _ (o.a1 b hb).1, o.ps.mono fun b hb => Lg.put_ne _ _ _ (o.a2 b hb).1, o.os.mono fun b hb => Lg.put_ne _ _ _ (o.a3 b hb).1, o.a1, o.a2, o.a3,
    fun r d hr hd => by rw [Lg.put_ne _ _ _ hr]; exact o.old r d hr hd⟩
theorem ROpen.pf (o : ROpen L u σ per sv pv ov K) (f : Int → Option Int) : ROpen L u { σ with x := { σ.x with pf := f } } per sv pv ov K := ⟨o.root, o.hs, o.ps, o.os, o.a1, o.a2, o.a3, o.old⟩
theorem ROpen.r2 (o : ROpen L u σ per sv pv ov K) : rdL K (u, 2) none = some pv := by rw [rdL_cell o.root]; rfl
end
end Go.AM


/- the document's heap: put; its timers: Stop, Arm, period, Take. -/
set_option linter.unusedVariables false
set_option linter.unusedSimpArgs false
namespace Go.AM
variable {N : Nat → Nat} {F : Nat → Option AFn}
/-- the periods' ids are those that are due -/
structure PerOk (per : List (Int × Int)) (x : Xs) : Prop where
  pm : (per.map (·.1)).Perm (x.l.map It.id)
  eq : ∀ j, x.pf j = perOf j per
theorem rmP_fst {id : Int} : ∀ {l : List (Int × Int)}, (l.map (·.1)).Nodup → (rmP id l).map (·.1) = (l.map (·.1)).filter fun j => !decide (j = id)
  | [], _ => rfl
  | a :: r, nd => by
    simp only [List.map_cons, List.nodup_cons] at nd
    by_cases h : a.1 = id
    · have : (r.map (·.1)).filter (fun j => !decide (j = id)) = r.map (·.1) := by
        rw [List.filter_eq_self]
        intro j hj
        have : ¬ j = id := fun h9 => nd.1 (by rw [h, ← h9]; exact hj)
        simp [this]
      simp only [rmP, h, if_true, List.map_cons]
      rw [List.filter_cons_of_neg (by simp), this]
    · have := rmP_fst (id := id) nd.2
      simp only [rmP, h, if_false, List.map_cons]
      rw [List.filter_cons_of_pos (by simp [h]), this]
theorem rmId_ids (id : Int) (l : List It) : (rmId id l).map It.id = (l.map It.id).filter fun j => !decide (j = id) := by
  unfold rmId
  rw [List.filter_map]; rfl
theorem PerOk.nd {per : List (Int × Int)} {x : Xs} (h : PerOk per x) (nd : (x.l.map It.id).Nodup) : (per.map (·.1)).Nodup := h.pm.nodup_iff.2 nd
theorem PerOk.len {per : List (Int × Int)} {x : Xs} (h : PerOk per x) : per.length = x.l.length := by simpa using h.pm.length_eq
theorem PerOk.stop {per : List (Int × Int)} {x : Xs} (h : PerOk per x) (nd : (x.l.map It.id).Nodup) (id : Int) : PerOk (rmP id per) (x.stop id) := by
  have n1 := h.nd nd
  refine ⟨?_, fun j => ?_⟩
  · simp only [Xs.stop]
    rw [rmP_fst n1, rmId_ids]; exact h.pm.filter _
  · rw [(rmP_nd (id := id) n1).2.2 j]
    simp only [Xs.stop, updI, h.eq]
theorem PerOk.armed {per : List (Int × Int)} {x : Xs} (h : PerOk per x) (nd : (x.l.map It.id).Nodup) (id w p : Int) : PerOk (rmP id per ++ [(id, p)]) (x.armed id w p) := by
  have n1 := h.nd nd
  have hs := h.stop nd id
  refine ⟨?_, fun j => ?_⟩
  · simp only [Xs.armed, List.map_append, List.map_cons, List.map_nil]
    refine List.Perm.trans ?_ ((ins_perm _ _).map It.id).symm
    simp only [List.map_cons]
    refine List.Perm.trans List.perm_append_comm ?_
    exact hs.pm.cons _
  · rw [perOf_append (rmP_nd n1).2.1]
    simp only [Xs.armed, updI]
    have := hs.eq j
    simp only [Xs.stop, updI] at this
    rw [this]
section
variable {L K : Lg} {u : Nat} {σ : Tms} {per : List (Int × Int)} {sv pv ov : AV}
end
end Go.AM


/- the document's timers: Arm, Take. -/
set_option linter.unusedVariables false
set_option linter.unusedSimpArgs false
namespace Go.AM
variable {N : Nat → Nat} {F : Nat → Option AFn}
section
variable {L K : Lg} {u : Nat} {σ : Tms} {per : List (Int × Int)} {sv pv ov : AV}
/-- what lets the document's timers go on -/
structure RFine (σ : Tms) (per : List (Int × Int)) (B : Int) : Prop where
  g : XG σ.x B
  b : B < 1000000
  p : PerOk per σ.x
theorem RFine.l {B : Int} (h : RFine σ per B) : σ.x.l.length < 1000000 := by have := h.g.len; have := h.b; omega
theorem RFine.pl {B : Int} (h : RFine σ per B) : per.length < 1000000 := by rw [h.p.len]; exact h.l
theorem RFine.q {B : Int} (h : RFine σ per B) : 0 ≤ σ.x.seq ∧ σ.x.seq < 4611686018427387904 := by have := h.g.pos; have := h.g.seq; have := h.b; omega
end
end Go.AM


/- the document's channels. -/
set_option linter.unusedVariables false
set_option linter.unusedSimpArgs false
namespace Go.AM
variable {N : Nat → Nat} {F : Nat → Option AFn}
def fI (n : Int) : List AV := [.i .i64 n]
/-- how the document keeps a channel -/
def crt (x : Ch) (bv sv rv : AV) : List AV := [.i .i64 x.cap, .b x.timed, .b x.signal, .b x.closed, bv, sv, rv]
structure CROpen (L : Lg) (c : Nat) (x : Ch) (bv sv rv : AV) (K : Lg) : Prop where
  root : K c = some (.raw (.cells (crt x bv sv rv)))
  bs : OSe K bv (flatc fI x.vals) x.vals.length 1
  ss : OSe K sv (flatc Wt.cells x.sends) x.sends.length 3
  rs : OSe K rv (flatc Wt.cells x.recvs) x.recvs.length 3
  a1 : ∀ b, slB bv = some b → b ≠ c ∧ L b = none
  a2 : ∀ b, slB sv = some b → b ≠ c ∧ L b = none ∧ slB bv ≠ some b
  a3 : ∀ b, slB rv = some b → b ≠ c ∧ L b = none ∧ slB bv ≠ some b ∧ slB sv ≠ some b
  old : ∀ r d, r ≠ c → L r = some d → K r = some d
  len : x.recvs.length ≤ 1000000 ∧ x.sends.length ≤ 1000000 ∧ x.vals.length ≤ 1000000
def ChRP (c : Nat) (x : Ch) (h : Hp) : Prop := ∃ bv sv rv M, CROpen Lg.nil c x bv sv rv M ∧ Sat M h
section
variable {L K : Lg} {c : Nat} {x : Ch} {bv sv rv : AV}
theorem CROpen.ne (o : CROpen L c x bv sv rv K) {b : Nat} (hb : K b = none) : b ≠ c ∧ L b = none ∧ slB bv ≠ some b ∧ slB sv ≠ some b ∧ slB rv ≠ some b := by
  have h1 : b ≠ c := by rintro rfl; have := o.root; rw [hb] at this; cases this
  refine ⟨h1, ?_, ?_, ?_, ?_⟩
  · cases h : L b with
    | none => rfl
    | some d => rw [o.old b d h1 h] at hb; cases hb
  · intro h; have := o.bs.block h; rw [hb] at this; cases this
  · intro h; have := o.ss.block h; rw [hb] at this; cases this
  · intro h; have := o.rs.block h; rw [hb] at this; cases this
theorem CROpen.shut (o : CROpen L c x bv sv rv K) : Sees K (L.put c (.abs (ChRP c x))) := by
  refine Sees.shutAt (fun b => b = c ∨ slB bv = some b ∨ slB sv = some b ∨ slB rv = some b) (.inl rfl) ?_ ?_ (.inl ⟨_, o.root⟩) ?_
  · intro b d hb hd
    simp only [not_or] at hb
    exact o.old b d hb.1 hd
  · rintro b (rfl | h | h | h) hb
    · exact absurd rfl hb
    · exact (o.a1 b h).2
    · exact (o.a2 b h).2.1
    · exact (o.a3 b h).2.1
  · intro M hp hM hN hs
    refine ⟨bv, sv, rv, M, ⟨?_, o.bs.mono fun b hb => hM b (.inr (.inl hb)), o.ss.mono fun b hb => hM b (.inr (.inr (.inl hb))), o.rs.mono fun b hb => hM b (.inr (.inr (.inr hb))), fun b hb => ⟨(o.a1 b hb).1, rfl⟩, fun b hb => ⟨(o.a2 b hb).1, rfl, (o.a2 b hb).2.2⟩, fun b hb => ⟨(o.a3 b hb).1, rfl, (o.a3 b hb).2.2⟩, fun r d _ hd => by simp [Lg.nil] at hd, o.len⟩, hs⟩
    rw [hM c (.inl rfl)]; exact o.root
theorem CROpen.back (o : CROpen L c x bv sv rv K) (e : L c = some (.abs (ChRP c x))) : Sees K L := by
  have := o.shut
  rwa [Lg.put_self L c _ e] at this
theorem CROpen.sub (o : CROpen L c x bv sv rv K) {K' : Lg} (h : SubL K K') : CROpen L c x bv sv rv K' :=
  ⟨h _ _ o.root, o.bs.sub fun b d _ hd => h b d hd, o.ss.sub fun b d _ hd => h b d hd, o.rs.sub fun b d _ hd => h b d hd, o.a1, o.a2, o.a3, fun r d hr hd => h r d (o.old r d hr hd), o.len⟩
theorem CROpen.below (o : CROpen L c x bv sv rv K) {L0 : Lg} (h : ∀ r d, r ≠ c → L0 r = some d → L r = some d) : CROpen L0 c x bv sv rv K := by
  have key : ∀ b, b ≠ c → L b = none → L0 b = none := fun b h1 h2 => by
    cases h3 : L0 b with
    | none => rfl
    | some d => rw [h b d h1 h3] at h2; cases h2
  exact ⟨o.root, o.bs, o.ss, o.rs, fun b hb => ⟨(o.a1 b hb).1, key b (o.a1 b hb).1 (o.a1 b hb).2⟩, fun b hb => ⟨(o.a2 b hb).1, key b (o.a2 b hb).1 (o.a2 b hb).2.1, (o.a2 b hb).2.2⟩,
    fun b hb => ⟨(o.a3 b hb).1, key b (o.a3 b hb).1 (o.a3 b hb).2.1, (o.a3 b hb).2.2⟩, fun r d hr hd => o.old r d hr (h r d hr hd), o.len⟩
theorem CROpen.closed (o : CROpen L c x bv sv rv K) : CROpen L c { x with closed := true } bv sv rv (K.put c (.raw (.cells (crt { x with closed := true } bv sv rv)))) :=
  ⟨Lg.put_same _ _ _, o.bs.mono fun b hb => Lg.put_ne _ _ _ (o.a1 b hb).1, o.ss.mono fun b hb => Lg.put_ne _ _ _ (o.a2 b hb).1, o.rs.mono fun b hb => Lg.put_ne _ _ _ (o.a3 b hb).1, o.a1, o.a2, o.a3,
    fun r d hr hd => by rw [Lg.put_ne _ _ _ hr]; exact o.old r d hr hd, o.len⟩
theorem LitS.nil (K : Lg) (z : Nat) : LitS K (.sl none 0 0 0) [] 0 z K := ⟨.inl (OSl.nil K z), SubL.refl K, fun b h => by cases h⟩
theorem CROpen.rd (o : CROpen L c x bv sv rv K) (i : Nat) : rdL K (c, i) none = (crt x bv sv rv)[i]? := rdL_cell o.root
theorem CROpen.r2 (o : CROpen L c x bv sv rv K) : rdL K (c, 2) none = some (.b x.signal) := o.rd 2
/-- what sending makes of a channel that may be sent on -/
def Ch.snd (x : Ch) (v : Int) : Ch × List Wk × Bool := match x.recvs with
  | w :: ws => ({ x with recvs := ws }, [⟨w.t, w.c, v, true, false⟩], true)
  | [] => if x.vals.length < x.cap then ({ x with vals := x.vals ++ [v] }, [], true) else (x, [], false)
/-- a slice that is looked at -/
def SlV {α : Type} (f : α → List AV) (z : Nat) (K : Lg) (v : AV) (l : List α) : Prop := ∃ a cap ex, v = .sl a l.length cap ex ∧ (l = [] ∨ ∃ b off cs, a = some (b, off) ∧ (K b = some (.raw (.cells cs)) ∨ K b = some (.raw (.ro cs))) ∧ off + l.length * z ≤ cs.length ∧ ∀ (i : Nat) (x : α), l[i]? = some x → (cs.drop (off + i * z)).take z = f x)
theorem SlV.len {α : Type} {f : α → List AV} {z : Nat} {v : AV} {l : List α} (h : SlV f z K v l) (X : Lg) (k : AV → Lg → Prop) : wpOp F .lenSl [v] X k = k (.i .i64 l.length) X := by
  obtain ⟨a, cap, ex, rfl, _⟩ := h
  simp
theorem SlV.mono {α : Type} {f : α → List AV} {z : Nat} {K' : Lg} {v : AV} {l : List α} (h : SlV f z K v l) (e : SubL K K') : SlV f z K' v l := by
  obtain ⟨a, cap, ex, rfl, h1 | ⟨b, off, cs, rfl, h2, h3⟩⟩ := h
  · exact ⟨_, _, _, rfl, .inl h1⟩
  · exact ⟨_, _, _, rfl, .inr ⟨b, off, cs, rfl, h2.imp (e _ _) (e _ _), h3⟩⟩
theorem SlV.get {α : Type} {f : α → List AV} {z : Nat} {v : AV} {l : List α} (h : SlV f z K v l) {i : Nat} {x : α} (hi : l[i]? = some x) : ∃ b o, (∀ (X : Lg) (k : AV → Lg → Prop), wpOp F (.iad z) [v, .i .i64 i] X k = k (.p (some (b, o))) X) ∧
    (∀ X : Lg, SubL K X → (∀ j, j < z → rdL X (b, o + j) none = (f x)[j]?) ∧ rdL X (b, o) (some z) = some (.agg (f x))) ∧ K b ≠ none := by
  obtain ⟨a, cap, ex, rfl, h1 | ⟨b, off, cs, rfl, h2, h6, h3⟩⟩ := h
  · subst h1; simp at hi
  · have hl := (List.getElem?_eq_some_iff.1 hi).1
    have h4 := row_le hl h6
    have h5 := h3 i x hi
    refine ⟨b, off + i * z, fun X k => ?_, fun X hX => ?_, ?_⟩
    · rw [wp_iad F X k z b off l.length cap ex .i64 i (by omega) (by omega)]
      simp
    · rcases h2 with h2 | h2
      · refine ⟨fun j hj => ?_, ?_⟩
        · rw [rdL_cell (hX _ _ h2), drop_get h5 hj]
        · rw [rdL_cells (hX _ _ h2) h4, h5]
      · refine ⟨fun j hj => ?_, ?_⟩
        · rw [rdL_ro (hX _ _ h2), drop_get h5 hj]
        · rw [rdL_ros (hX _ _ h2) h4, h5]
    · rcases h2 with h2 | h2 <;> rw [h2] <;> simp
end
end Go.AM


/- the document's timers, hidden: make, with, Func, Lapse, Stop, Reset, Fire, and what they show. -/
set_option linter.unusedVariables false
set_option linter.unusedSimpArgs false
namespace Go.AM
variable {N : Nat → Nat} {F : Nat → Option AFn}
def TmRP (u : Nat) (σ : Tms) (h : Hp) : Prop := ∃ per sv pv ov M, ROpen Lg.nil u σ per sv pv ov M ∧ PerOk per σ.x ∧ Sat M h
section
variable {L K : Lg} {u : Nat} {σ : Tms} {per : List (Int × Int)} {sv pv ov : AV}
theorem ROpen.shut (o : ROpen L u σ per sv pv ov K) (pk : PerOk per σ.x) : Sees K (L.put u (.abs (TmRP u σ))) := by
  refine Sees.shutAt (fun b => b = u ∨ slB sv = some b ∨ slB pv = some b ∨ slB ov = some b) (.inl rfl) ?_ ?_ (.inl ⟨_, o.root⟩) ?_
  · intro b d hb hd
    simp only [not_or] at hb
    exact o.old b d hb.1 hd
  · rintro b (rfl | h | h | h) hb
    · exact absurd rfl hb
    · exact (o.a1 b h).2
    · exact (o.a2 b h).2.1
    · exact (o.a3 b h).2.1
  · intro M hp hM hN hs
    refine ⟨per, sv, pv, ov, M, ⟨?_, o.hs.mono fun b hb => hM b (.inr (.inl hb)), o.ps.mono fun b hb => hM b (.inr (.inr (.inl hb))), o.os.mono fun b hb => hM b (.inr (.inr (.inr hb))), fun b hb => ⟨(o.a1 b hb).1, rfl⟩, fun b hb => ⟨(o.a2 b hb).1, rfl, (o.a2 b hb).2.2⟩, fun b hb => ⟨(o.a3 b hb).1, rfl, (o.a3 b hb).2.2⟩, fun r d _ hd => by simp [Lg.nil] at hd⟩, pk, hs⟩
    rw [hM u (.inl rfl)]; exact o.root
theorem ROpen.back (o : ROpen L u σ per sv pv ov K) (pk : PerOk per σ.x) (e : L u = some (.abs (TmRP u σ))) : Sees K L := by
  have := o.shut pk
  rwa [Lg.put_self L u _ e] at this
theorem ROpen.gen (o : ROpen L u σ per sv pv ov K) {i : Nat} {w : On} (hw : σ.ones[i]? = some w) (g : Int) {b : Nat} (hb : slB ov = some b) :
    ROpen L u { σ with ones := σ.ones.set i { w with gen := g } } per sv pv ov (K.put b (.raw (.cells ((flatc On.cells σ.ones).set (i * 4 + 3) (.i .i64 g))))) := by
  obtain ⟨n1, n2, n3, n4⟩ := o.a3 b hb
  have ne : ∀ {r : Nat} {v : AV}, slB v = some r → slB v ≠ some b → r ≠ b := fun {r} {v} g1 g2 => by rintro rfl; exact g2 g1
  refine ⟨by rw [Lg.put_ne _ _ _ (Ne.symm n1)]; exact o.root, o.hs.mono fun r hr => Lg.put_ne _ _ _ (ne hr n3), o.ps.mono fun r hr => Lg.put_ne _ _ _ (ne hr n4), ?_, o.a1, o.a2, o.a3,
    fun r e hr he => by rw [Lg.put_ne _ _ _ (by rintro rfl; rw [n2] at he; cases he)]; exact o.old r e hr he⟩
  rw [flatc_setc (f := On.cells) (k := 4) (fun _ => rfl) σ.ones i w { w with gen := g } 3 _ hw (by omega) (by simp [On.cells])]
  rcases o.os with ⟨h1, h2, h3⟩ | ⟨b', ex, h1, h2, h3, h4, h5⟩
  · rw [h3] at hb; cases hb
  · rw [h2] at hb; simp [slB] at hb; subst hb
    exact .inr ⟨b', ex, by simpa using h1, by simpa using h2, h3, Lg.put_same _ _ _, by simp [flatc_length (f := On.cells) (k := 4) (fun _ => rfl)]⟩
theorem OSe.osl {v : AV} {cs : List AV} {n size : Nat} (h : OSe K v cs n size) (hn : 0 < n) : OSl K v cs n size := by
  rcases h with h | ⟨h1, _⟩
  · exact h
  · omega
end
end Go.AM


/- the document's timers: Timer, Ticker, Func, Lapse, Stop, Reset, Fire. -/
set_option linter.unusedVariables false
set_option linter.unusedSimpArgs false
namespace Go.AM
variable {N : Nat → Nat} {F : Nat → Option AFn}
section
variable {L K : Lg} {u : Nat} {σ : Tms} {per : List (Int × Int)} {sv pv ov : AV}
/-- what lets the document's set go on -/
structure TFine (σ : Tms) (B : Int) : Prop where
  g : XG σ.x B
  b : B < 1000000
  o : σ.ones.length < 1000000
  n : 0 ≤ σ.named
theorem TFine.r {B : Int} (h : TFine σ B) (pk : PerOk per σ.x) : RFine σ per B := ⟨h.g, h.b, pk⟩
end
end Go.AM


/- the document's timers: Reset, Fire, what they show. -/
set_option linter.unusedVariables false
set_option linter.unusedSimpArgs false
namespace Go.AM
variable {N : Nat → Nat} {F : Nat → Option AFn}
section
variable {L K : Lg} {u : Nat} {σ : Tms} {per : List (Int × Int)} {sv pv ov : AV}
end
end Go.AM


/- ctx: the timers of contexts; in plain Lean. -/
set_option linter.unusedVariables false
set_option linter.unusedSimpArgs false
namespace Go.AM
/-- contexts' deadlines are timers, and there are no others; ex: whose timer may be gone -/
structure TW (S : CX) (s : Nat) (K : Int) (ex : Nat → Prop) : Prop where
  t : S.σ.t = some s
  xg : XG S.τ.x K
  named : 0 ≤ S.τ.named ∧ S.τ.named ≤ 64
  pf : ∀ y ∈ S.τ.x.l, S.τ.x.pf y.id = some 0
  ones : ∀ (k : Nat) (o : On), S.τ.ones[k]? = some o → o.kind = 4 ∧ o.c = none ∧ ∃ (j : Nat) (x : One), o.data = (j : Int) ∧ S.σ.ones[j]? = some x ∧ x.timer = (k : Int) ∧ x.own = true
  item : ∀ y ∈ S.τ.x.l, ∃ (k j : Nat) (x : One) (o : On), y.id = (k : Int) ∧ S.σ.ones[j]? = some x ∧ x.timer = (k : Int) ∧ x.own = true ∧ x.err = 0 ∧ x.when = y.w ∧ S.τ.ones[k]? = some o ∧ o.data = (j : Int)
  own : ∀ (j : Nat) (x : One), S.σ.ones[j]? = some x → x.own = true → x.err = 0 → ¬ ex j → ∃ y ∈ S.τ.x.l, y.id = x.timer ∧ y.w = x.when
  tim : ∀ (j : Nat) (x : One), S.σ.ones[j]? = some x → (x.own = false → x.timer = -1) ∧ (x.own = true → ∃ (k : Nat) (o : On), x.timer = (k : Int) ∧ S.τ.ones[k]? = some o ∧ o.data = (j : Int))
  cnt : S.τ.ones.length ≤ 64
/-- a context more without a timer -/
theorem TW.add {S : CX} {s : Nat} {K : Int} (h : TW S s K (fun _ => False)) {o : One} {p : Int} {χ' : Nat → Ch} (he : (S.σ.add o p).ones = S.σ.ones ++ [{ o with node := S.σ.tree.length, timer := -1 }]) (ho : o.own = false) : TW ({ S with σ := S.σ.add o p, χ := χ' } : CX) s K (fun _ => False) := by
  have fwd : ∀ (j : Nat) (x : One), S.σ.ones[j]? = some x → (S.σ.add o p).ones[j]? = some x := fun j x hx => by
    rw [he, List.getElem?_append_left (List.getElem?_eq_some_iff.1 hx).1]; exact hx
  have back : ∀ (j : Nat) (x : One), (S.σ.add o p).ones[j]? = some x → S.σ.ones[j]? = some x ∨ (x.own = false ∧ x.timer = -1) := by
    intro j x hx
    rw [he] at hx
    by_cases hj : j < S.σ.ones.length
    · rw [List.getElem?_append_left hj] at hx; exact .inl hx
    · rw [List.getElem?_append_right (by omega)] at hx
      have hz : j - S.σ.ones.length = 0 := by
        rcases Nat.eq_zero_or_pos (j - S.σ.ones.length) with h9 | h9
        · exact h9
        · rw [List.getElem?_eq_none (by simp; omega)] at hx; cases hx
      rw [hz] at hx; simp at hx; subst hx
      exact .inr ⟨ho, rfl⟩
  refine ⟨h.t, h.xg, h.named, h.pf, ?_, ?_, ?_, ?_, h.cnt⟩
  · intro k q hq
    obtain ⟨a1, a2, j, x, a3, a4, a5⟩ := h.ones k q hq
    exact ⟨a1, a2, j, x, a3, fwd j x a4, a5⟩
  · intro y hy
    obtain ⟨k, j, x, q, e1, e2, e3⟩ := h.item y hy
    exact ⟨k, j, x, q, e1, fwd j x e2, e3⟩
  · intro j x hx h1 h2 h3
    rcases back j x hx with h4 | ⟨h4, _⟩
    · exact h.own j x h4 h1 h2 h3
    · rw [h1] at h4; cases h4
  · intro j x hx
    rcases back j x hx with h4 | ⟨h4, h5⟩
    · exact h.tim j x h4
    · exact ⟨fun _ => h5, fun h6 => by rw [h4] at h6; cases h6⟩
end Go.AM


/- ctx: a deadline with a timer of its own; in plain Lean. -/
set_option linter.unusedVariables false
set_option linter.unusedSimpArgs false
namespace Go.AM
end Go.AM


/- The code of functions, with names for their numbers, and what is left of its weakest preconditions. PRINTED by our printgen.py. -/
set_option linter.unusedVariables false
set_option maxRecDepth 100000
namespace Go.AM
end Go.AM

/- the document's channels: end, End. -/
set_option linter.unusedVariables false
set_option linter.unusedSimpArgs false
namespace Go.AM
variable {N : Nat → Nat} {F : Nat → Option AFn}
section
variable {L K : Lg} {c : Nat} {x : Ch} {bv sv rv : AV}
end
end Go.AM


/- a root and slices of its own, opened. -/
set_option linter.unusedVariables false
set_option linter.unusedSimpArgs false
namespace Go.AM
variable {F : Nat → Option AFn}
structure SlD where
  v : AV
  cs : List AV
  n : Nat
  z : Nat
structure GO (L : Lg) (r : Nat) (cs : List AV) (sl : List SlD) (K : Lg) : Prop where
  root : K r = some (.raw (.cells cs))
  own : ∀ (i : Nat) (p : SlD), sl[i]? = some p → OSl K p.v p.cs p.n p.z
  ap : ∀ (i : Nat) (p : SlD), sl[i]? = some p → ∀ b, slB p.v = some b → b ≠ r ∧ L b = none
  nd : ∀ (i j : Nat) (p q : SlD), i ≠ j → sl[i]? = some p → sl[j]? = some q → ∀ b, slB p.v = some b → slB q.v ≠ some b
  old : ∀ q d, q ≠ r → L q = some d → K q = some d
section
variable {L K : Lg} {r : Nat} {cs : List AV} {sl : List SlD}
theorem GO.ne (o : GO L r cs sl K) {b : Nat} (hb : K b = none) : b ≠ r ∧ L b = none ∧ ∀ (i : Nat) (p : SlD), sl[i]? = some p → slB p.v ≠ some b := by
  have h1 : b ≠ r := by rintro rfl; have := o.root; rw [hb] at this; cases this
  refine ⟨h1, ?_, fun i p hp h => ?_⟩
  · cases h : L b with
    | none => rfl
    | some d => rw [o.old b d h1 h] at hb; cases hb
  · have := (o.own i p hp).block h; rw [hb] at this; cases this
theorem GO.sub (o : GO L r cs sl K) {K' : Lg} (h : SubL K K') : GO L r cs sl K' :=
  ⟨h _ _ o.root, fun i p hp => (o.own i p hp).sub fun b d _ hd => h b d hd, o.ap, o.nd, fun q d hq hd => h q d (o.old q d hq hd)⟩
/-- all it has is there still -/
theorem GO.keep (o : GO L r cs sl K) {K' : Lg} {e : Option Nat} (h : KeepE e K K') (h1 : e ≠ some r) (h2 : ∀ (i : Nat) (p : SlD), sl[i]? = some p → ∀ b, e = some b → slB p.v ≠ some b) (h3 : ∀ b, e = some b → L b = none) : GO L r cs sl K' :=
  ⟨h _ _ o.root h1, fun i p hp => (o.own i p hp).sub fun b d hb hd => h b d hd (fun h9 => h2 i p hp b h9 hb), o.ap, o.nd, fun q d hq hd => h q d (o.old q d hq hd) (fun h9 => by have := h3 q h9; rw [hd] at this; cases this)⟩
theorem GO.below (o : GO L r cs sl K) {L0 : Lg} (h : ∀ q d, q ≠ r → L0 q = some d → L q = some d) : GO L0 r cs sl K := by
  refine ⟨o.root, o.own, fun i p hp b hb => ⟨(o.ap i p hp b hb).1, ?_⟩, o.nd, fun q d hq hd => o.old q d hq (h q d hq hd)⟩
  obtain ⟨h1, h2⟩ := o.ap i p hp b hb
  cases h3 : L0 b with
  | none => rfl
  | some d => rw [h b d h1 h3] at h2; cases h2
theorem set_get {α : Type} {l : List α} {i j : Nat} {x y : α} (h : (l.set i x)[j]? = some y) : (i = j ∧ y = x ∧ i < l.length) ∨ (i ≠ j ∧ l[j]? = some y) := by
  by_cases hij : i = j
  · subst hij
    have hl := (List.getElem?_eq_some_iff.1 h).1
    simp at hl
    rw [List.getElem?_set_self hl] at h
    cases h
    exact .inl ⟨rfl, rfl, hl⟩
  · rw [List.getElem?_set_ne hij] at h; exact .inr ⟨hij, h⟩
/-- a slice of it has other cells -/
theorem GO.inplace (o : GO L r cs sl K) {i : Nat} {p : SlD} (hp : sl[i]? = some p) {b : Nat} (hb : slB p.v = some b) {cs' : List AV} (hl : cs'.length = p.cs.length) : GO L r cs (sl.set i { p with cs := cs' }) (K.put b (.raw (.cells cs'))) := by
  obtain ⟨n1, n2⟩ := o.ap i p hp b hb
  refine ⟨by rw [Lg.put_ne _ _ _ (Ne.symm n1)]; exact o.root, fun j q hq => ?_, fun j q hq => ?_, fun j k q w hjk hq hw => ?_, fun q e hq he => by rw [Lg.put_ne _ _ _ (by rintro rfl; rw [n2] at he; cases he)]; exact o.old q e hq he⟩
  · rcases set_get hq with ⟨rfl, rfl, _⟩ | ⟨hij, hq⟩
    · have := o.own i p hp
      rcases this with ⟨h1, h2, h3⟩ | ⟨b', ex, h1, h2, h3, h4, h5⟩
      · rw [h3] at hb; cases hb
      · rw [h2] at hb; simp [slB] at hb; subst hb
        exact .inr ⟨b', ex, h1, h2, h3, Lg.put_same _ _ _, by rw [hl]; exact h5⟩
    · exact (o.own j q hq).mono fun w hw => Lg.put_ne _ _ _ (by rintro rfl; exact o.nd i j p q hij hp hq w hb hw)
  · rcases set_get hq with ⟨rfl, rfl, _⟩ | ⟨hij, hq⟩
    · exact o.ap i p hp
    · exact o.ap j q hq
  · rcases set_get hq with ⟨rfl, rfl, _⟩ | ⟨hij, hq⟩ <;> rcases set_get hw with ⟨rfl, rfl, _⟩ | ⟨hik, hw⟩
    · exact absurd rfl hjk
    · exact o.nd i k p w hjk hp hw
    · exact o.nd j i q p hjk hq hp
    · exact o.nd j k q w hjk hq hw
theorem GO.rd (o : GO L r cs sl K) (i : Nat) : rdL K (r, i) none = cs[i]? := rdL_cell o.root
/-- hidden -/
def GP (r : Nat) (P : List AV → List SlD → Prop) (h : Hp) : Prop := ∃ cs sl M, P cs sl ∧ GO Lg.nil r cs sl M ∧ Sat M h
theorem GO.shut {P : List AV → List SlD → Prop} (o : GO L r cs sl K) (hP : P cs sl) : Sees K (L.put r (.abs (GP r P))) := by
  refine Sees.shutAt (fun b => b = r ∨ ∃ (i : Nat) (p : SlD), sl[i]? = some p ∧ slB p.v = some b) (.inl rfl) ?_ ?_ (.inl ⟨_, o.root⟩) ?_
  · intro b d hb hd
    exact o.old b d (fun h9 => hb (.inl h9)) hd
  · rintro b (rfl | ⟨i, p, hp, h⟩) hb
    · exact absurd rfl hb
    · exact (o.ap i p hp b h).2
  · intro M hp hM hN hs
    refine ⟨cs, sl, M, hP, ⟨?_, fun i p hp => (o.own i p hp).mono fun b hb => hM b (.inr ⟨i, p, hp, hb⟩), fun i p hp b hb => ⟨(o.ap i p hp b hb).1, rfl⟩, o.nd, fun q d _ hd => by simp [Lg.nil] at hd⟩, hs⟩
    rw [hM r (.inl rfl)]; exact o.root
theorem GO.over {M : Lg} (o : GO Lg.nil r cs sl M) (hf : ∀ b c, M b = some c → b ≠ r → L b = none) : GO L r cs sl (M.over L) := by
  have hi : ∀ b d, M b = some d → (M.over L) b = some d := fun b d h => by simp [Lg.over, h]
  refine ⟨hi _ _ o.root, fun i p hp => (o.own i p hp).sub fun b d _ hd => hi b d hd, fun i p hp b hb => ⟨(o.ap i p hp b hb).1, hf b _ ((o.own i p hp).block hb) (o.ap i p hp b hb).1⟩, o.nd, fun q d hq hd => ?_⟩
  have : M q = none := by
    cases h : M q with
    | none => rfl
    | some e => have := hf q e h hq; rw [hd] at this; cases this
  simp [Lg.over, this, hd]
theorem GO.back {P : List AV → List SlD → Prop} (o : GO L r cs sl K) (hP : P cs sl) (e : L r = some (.abs (GP r P))) : Sees K L := by
  have := o.shut hP
  rwa [Lg.put_self L r _ e] at this
end
end Go.AM


/- the document's contexts, opened; its tree. -/
set_option linter.unusedVariables false
set_option linter.unusedSimpArgs false
namespace Go.AM
variable {N : Nat → Nat} {F : Nat → Option AFn}
/-- what the document keeps for a context or an after -/
structure RNd where
  after : Bool
  no : Int
  prog : Int
  gone : Bool
  plain : Bool
  err : Int
  cause : Int
  when : Int
  has : Bool
  own : Bool
  timer : Int
  c : Option Nat
def RNd.cells (x : RNd) : List AV := [.b x.after, .i .i64 x.no, .i .i64 x.prog, .b x.gone, .b x.plain, .i .i64 x.err, .i .i64 x.cause, .i .i64 x.when, .b x.has, .b x.own, .i .i64 x.timer, ptr x.c]
theorem RNd.len (x : RNd) : x.cells.length = 12 := rfl
theorem RNd.one (x : RNd) : x.cells.all AV.one = true := rfl
def ofOne (i : Nat) (o : One) : RNd := ⟨false, i, 0, false, o.free, o.err, o.cause, o.when, o.has, o.own, o.timer, o.c⟩
def ofAft (j : Nat) (a : Aft) : RNd := ⟨true, j, a.prog, a.over, false, 0, 0, 0, false, false, -1, none⟩
def ndc (n : Nd) : List AV := [.i .i64 n.parent, .b n.linked]
structure NdsOk (σ : Cs) (nds : List RNd) : Prop where
  len : nds.length = σ.tree.length
  one : ∀ (i k : Nat) (o : One), σ.ones[i]? = some o → o.node = (k : Int) → nds[k]? = some (ofOne i o)
  aft : ∀ (j k : Nat) (a : Aft), σ.afts[j]? = some a → a.node = (k : Int) → nds[k]? = some (ofAft j a)
def xsl (σ : Cs) (nds : List RNd) (tv nv cv av : AV) : List SlD := [⟨tv, flatc ndc σ.tree, σ.tree.length, 2⟩, ⟨nv, flatc RNd.cells nds, nds.length, 12⟩, ⟨cv, flatc fI (σ.ones.map (·.node)), σ.ones.length, 1⟩, ⟨av, flatc fI (σ.afts.map (·.node)), σ.afts.length, 1⟩]
def xrt (σ : Cs) (tv nv cv av : AV) : List AV := [ptr σ.t, tv, nv, cv, av]
structure XR (L : Lg) (c : Nat) (σ : Cs) (nds : List RNd) (tv nv cv av : AV) (K : Lg) : Prop where
  g : GO L c (xrt σ tv nv cv av) (xsl σ nds tv nv cv av) K
  n : NdsOk σ nds
section
variable {L K : Lg} {c : Nat} {σ : Cs} {nds : List RNd} {tv nv cv av : AV}
theorem XR.f0 (o : XR L c σ nds tv nv cv av K) : rdL K (c, 0) none = some (ptr σ.t) := o.g.rd 0
theorem XR.f1 (o : XR L c σ nds tv nv cv av K) : rdL K (c, 1) none = some tv := o.g.rd 1
theorem XR.f2 (o : XR L c σ nds tv nv cv av K) : rdL K (c, 2) none = some nv := o.g.rd 2
theorem XR.f3 (o : XR L c σ nds tv nv cv av K) : rdL K (c, 3) none = some cv := o.g.rd 3
theorem XR.f4 (o : XR L c σ nds tv nv cv av K) : rdL K (c, 4) none = some av := o.g.rd 4
theorem XR.ns (o : XR L c σ nds tv nv cv av K) : OSl K nv (flatc RNd.cells nds) nds.length 12 := o.g.own 1 _ rfl
theorem XR.cs (o : XR L c σ nds tv nv cv av K) : OSl K cv (flatc fI (σ.ones.map (·.node))) σ.ones.length 1 := o.g.own 2 _ rfl
theorem XR.sub (o : XR L c σ nds tv nv cv av K) {K' : Lg} (h : SubL K K') : XR L c σ nds tv nv cv av K' := ⟨o.g.sub h, o.n⟩
theorem XR.below (o : XR L c σ nds tv nv cv av K) {L0 : Lg} (h : ∀ q d, q ≠ c → L0 q = some d → L q = some d) : XR L0 c σ nds tv nv cv av K := ⟨o.g.below h, o.n⟩
theorem XR.nb (o : XR L c σ nds tv nv cv av K) {k : Nat} (hk : k < nds.length) : ∃ b, slB nv = some b ∧ K b = some (.raw (.cells (flatc RNd.cells nds))) ∧ ∀ (X : Lg) (p : AV → Lg → Prop), wpOp F (.iad 12) [nv, .i .i64 k] X p = p (.p (some (b, k * 12))) X := by
  obtain ⟨b, h1, h2, h3, h4⟩ := o.ns.iad (F := F) (x := (k : Int)) (by omega) (by omega)
  exact ⟨b, h1, h2, fun X p => by simpa using h4 X p .i64⟩
/-- a node is set -/
theorem XR.node (o : XR L c σ nds tv nv cv av K) {b : Nat} (hb : slB nv = some b) {σ' : Cs} {nds' : List RNd} (hl : nds'.length = nds.length) (h1 : σ'.t = σ.t) (h2 : σ'.tree = σ.tree) (h3 : σ'.ones.map (·.node) = σ.ones.map (·.node)) (h4 : σ'.afts.map (·.node) = σ.afts.map (·.node)) (hn : NdsOk σ' nds') :
    XR L c σ' nds' tv nv cv av (K.put b (.raw (.cells (flatc RNd.cells nds')))) := by
  refine ⟨?_, hn⟩
  have := o.g.inplace (i := 1) (p := ⟨nv, flatc RNd.cells nds, nds.length, 12⟩) rfl hb (cs' := flatc RNd.cells nds') (by rw [flatc_length RNd.len, flatc_length RNd.len, hl])
  have e1 : σ'.ones.length = σ.ones.length := by simpa using congrArg List.length h3
  have e2 : σ'.afts.length = σ.afts.length := by simpa using congrArg List.length h4
  simp only [xrt, xsl, h1, h2, h3, h4, e1, e2, hl] at this ⊢
  exact this
end
end Go.AM


/- the document's contexts: what a fall needs and leaves. -/
set_option linter.unusedVariables false
set_option linter.unusedSimpArgs false
namespace Go.AM
variable {N : Nat → Nat} {F : Nat → Option AFn}
/-- who has gone as none of either -/
def FreeR (L : Lg) (c : Nat) (vs : List AV) (b : Nat) : Prop := L b = none ∧ b ≠ c ∧ ∀ v ∈ vs, slB v ≠ some b
/-- the rows that a fall fills -/
structure RRes (L : Lg) (c : Nat) (vs : List AV) (K : Lg) (v1 v2 : AV) (ps : List (Lap × AV)) (sts : List (Int × Int)) : Prop where
  o1 : OSl K v1 (flatc lapc ps) ps.length 4
  o2 : OSl K v2 (flatc stc sts) sts.length 2
  ins : ∀ p ∈ ps, OSe K p.2 (flatc Wk.cells p.1.wakes) p.1.wakes.length 5 ∧ ∀ b, slB p.2 = some b → FreeR L c vs b ∧ slB v1 ≠ some b ∧ slB v2 ≠ some b
  f1 : ∀ b, slB v1 = some b → FreeR L c vs b ∧ slB v2 ≠ some b
  f2 : ∀ b, slB v2 = some b → FreeR L c vs b
section
variable {L K : Lg} {c : Nat} {vs : List AV} {v1 v2 : AV} {ps : List (Lap × AV)} {sts : List (Int × Int)}
/-- its blocks are there still -/
theorem RRes.keep (h : RRes L c vs K v1 v2 ps sts) {K' L' : Lg} (hk : ∀ b x, FreeR L c vs b → K b = some (.raw x) → K' b = some (.raw x)) (hl : ∀ b, FreeR L c vs b → K b ≠ none → L' b = none) : RRes L' c vs K' v1 v2 ps sts := by
  have fr : ∀ b, FreeR L c vs b → K b ≠ none → FreeR L' c vs b := fun b hb hn => ⟨hl b hb hn, hb.2⟩
  have nn : ∀ {v : AV} {cs : List AV} {n z : Nat} {b : Nat}, OSl K v cs n z → slB v = some b → K b ≠ none := fun h1 h2 => by rw [h1.block h2]; simp
  refine ⟨h.o1.mono fun b hb => ?_, h.o2.mono fun b hb => ?_, fun p hp => ⟨(h.ins p hp).1.mono fun b hb => ?_, fun b hb => ⟨fr b ((h.ins p hp).2 b hb).1 (by rw [(h.ins p hp).1.block hb]; simp), ((h.ins p hp).2 b hb).2⟩⟩, fun b hb => ⟨fr b (h.f1 b hb).1 (nn h.o1 hb), (h.f1 b hb).2⟩, fun b hb => fr b (h.f2 b hb) (nn h.o2 hb)⟩
  · rw [h.o1.block hb]; exact hk b _ (h.f1 b hb).1 (h.o1.block hb)
  · rw [h.o2.block hb]; exact hk b _ (h.f2 b hb) (h.o2.block hb)
  · rw [(h.ins p hp).1.block hb]; exact hk b _ ((h.ins p hp).2 b hb).1 ((h.ins p hp).1.block hb)
theorem RRes.sub (h : RRes L c vs K v1 v2 ps sts) {K' : Lg} (hk : SubL K K') : RRes L c vs K' v1 v2 ps sts := h.keep (fun b x _ hx => hk b _ hx) (fun b hb _ => hb.1)
theorem RRes.nil (L : Lg) (c : Nat) (vs : List AV) (K : Lg) : RRes L c vs K (.sl none 0 0 0) (.sl none 0 0 0) [] [] := ⟨OSl.nil _ _, OSl.nil _ _, fun p hp => by simp at hp, (fun b hb => by cases hb), (fun b hb => by cases hb)⟩
end
section
variable {L K : Lg} {c : Nat} {σ : Cs} {nds : List RNd} {tv nv cv av : AV} {S : CX}
theorem xsl_free {b : Nat} (h : ∀ v ∈ [tv, nv, cv, av], slB v ≠ some b) : ∀ (i : Nat) (p : SlD), (xsl σ nds tv nv cv av)[i]? = some p → slB p.v ≠ some b := by
  intro i p hp
  have hi := (List.getElem?_eq_some_iff.1 hp).1
  simp [xsl] at hi
  have : i = 0 ∨ i = 1 ∨ i = 2 ∨ i = 3 := by omega
  rcases this with rfl | rfl | rfl | rfl <;> simp [xsl] at hp <;> subst hp <;> exact h _ (by simp)
theorem XR.free (o : XR L c σ nds tv nv cv av K) {b : Nat} (hb : K b = none) : FreeR L c [tv, nv, cv, av] b := by
  obtain ⟨h1, h2, h3⟩ := o.g.ne hb
  refine ⟨h2, h1, fun v hv => ?_⟩
  simp at hv
  rcases hv with rfl | rfl | rfl | rfl
  · exact h3 0 _ rfl
  · exact h3 1 _ rfl
  · exact h3 2 _ rfl
  · exact h3 3 _ rfl
theorem XR.keep (o : XR L c σ nds tv nv cv av K) {K' : Lg} {e : Option Nat} (h : KeepE e K K') (hf : ∀ b, e = some b → FreeR L c [tv, nv, cv, av] b) : XR L c σ nds tv nv cv av K' :=
  ⟨o.g.keep h (fun h9 => (hf c h9).2.1 rfl) (fun i p hp b hb => xsl_free (hf b hb).2.2 i p hp) (fun b hb => (hf b hb).1), o.n⟩
end
/-! ### in plain -/
end Go.AM


/- ProgLimits: so many instructions, programs, and cases may be, and not one more. -/
set_option linter.unusedVariables false
set_option linter.unusedSimpArgs false
namespace Go.AM
variable {N : Nat → Nat} {F : Nat → Option AFn}
theorem known_specP {f : Nat} (h : F f = some kTrue) (L : Lg) : CallL F f [] L fun v L' => v = .b true ∧ L' = L := by
  refine CallL.of_wp h ?_
  show fin [.tmp (.c (.b true))] _ _ _ _
  exact ⟨L, Sees.refl _, rfl, rfl⟩
def exitI : Ins := ⟨7, 0, 0, 0, [], false⟩
def zC : Cs3 := ⟨false, 0, 0⟩
def selI (k : Nat) : Ins := ⟨15, 0, 0, 0, List.replicate k zC, false⟩
theorem exit_good (pl : Int) : goodP exitI pl = true := by
  have h0 : fldOk exitI pl 0 = true := rfl
  have h1 : fldOk exitI pl 1 = true := rfl
  have h2 : fldOk exitI pl 2 = true := rfl
  simp [goodP, h0, h1, h2]
  simp [exitI]
theorem sel_good (k : Nat) (pl : Int) : goodP (selI k) pl = decide (k ≤ 16) := by
  have h0 : fldOk (selI k) pl 0 = true := rfl
  have h1 : fldOk (selI k) pl 1 = true := rfl
  have h2 : fldOk (selI k) pl 2 = true := rfl
  have h3 : (selI k).cs.any badC = false := by
    rw [List.any_eq_false]
    intro c hc
    rw [List.eq_of_mem_replicate hc]
    decide
  simp only [goodP, h0, h1, h2, h3]
  simp [selI]
theorem check_exits (n : Nat) : checkP (List.replicate n exitI) = decide (n ≤ 100) := by
  have : (List.replicate n exitI).all (fun i => goodP i (List.replicate n exitI).length) = true := by
    rw [List.all_eq_true]
    intro x hx
    rw [List.eq_of_mem_replicate hx]
    exact exit_good _
  unfold checkP
  rw [this, List.length_replicate, Bool.and_true]
theorem all_nils (k : Nat) : allP (List.replicate k []) = (decide (1 ≤ k) && decide (k ≤ 16)) := by
  have : (List.replicate k ([] : List Ins)).all (fun p => checkP p && !(p.any fun i => decide (((List.replicate k ([] : List Ins)).length : Int) ≤ startsP i))) = true := by
    rw [List.all_eq_true]
    intro x hx
    rw [List.eq_of_mem_replicate hx]
    rfl
  unfold allP
  rw [this, List.length_replicate, Bool.and_true]
theorem flatc_snoc {α : Type} (f : α → List AV) (n : Nat) (x : α) : flatc f (List.replicate n x) ++ f x = flatc f (List.replicate (n + 1) x) := by
  rw [List.replicate_succ', flatc_append]; simp [flatc]
theorem slg_nil {α : Type} (f : α → List AV) (z : Nat) (K : Lg) : SlG f z K (.sl none 0 0 0) [] := ⟨none, 0, 0, rfl, Nat.le_refl _, .inl rfl, .inl ⟨rfl, rfl⟩⟩
abbrev exP : Ins × AV := (exitI, .sl none 0 0 0)
abbrev niP : AV × List (Ins × AV) := (.sl none 0 0 0, [])
abbrev cellI : Ins × AV → List AV := fun x => x.1.cells x.2
abbrev cellP : AV × List (Ins × AV) → List AV := fun x => [x.1]
section
variable {K : Lg} {Q : AV → Lg → Prop}
/-- what is told at the end -/
theorem limits8 (hC : H_prog_Check N F) (hA : H_prog_All N F) (aw : F (N k_tarpaulinlaw4_awake) = some kTrue) (hQ : ∀ v L, v = .b true → Q v L) {n k b8 : Nat} {v5 v7 cv : AV} (o5 : OSl K v5 (flatc cellI (List.replicate n exP)) n 6)
    (o7 : OSl K v7 (flatc cellP (List.replicate k niP)) k 1) (oc : OSl K cv (flatc Cs3.cells (List.replicate k zC)) k 3) (h8 : K b8 = some (.raw (.cells ((selI k).cells cv)))) (hn : n ≤ 120) (hk : k ≤ 30) :
    D_tarpaulinlaw4_ProgLimits_8 F N Q (.i .i64 n) (.i .i64 k) v5 v7 (.p (some (b8, 0))) K := by
  have fin : ∀ L, fin1 (some (.b true)) Q L := fun L => ⟨L, Sees.refl _, hQ _ _ rfl⟩
  have p5 : PrL K v5 (List.replicate n exP) := by
    refine ⟨SlG.of_own (fun x => rfl) (by simpa using o5), fun x hx => ?_⟩
    rw [List.eq_of_mem_replicate hx]
    exact slg_nil _ _ _
  have p7 : PsL K v7 (List.replicate k niP) := by
    refine ⟨SlG.of_own (fun x => rfl) (by simpa using o7), fun x hx => ?_⟩
    rw [List.eq_of_mem_replicate hx]
    exact ⟨⟨slg_nil _ _ _, fun y hy => by cases hy⟩, by simp⟩
  have pc : SlG Cs3.cells 3 K cv (List.replicate k zC) := SlG.of_own Cs3.len (by simpa using oc)
  have hcv : cv.one = true := oc.one
  have r8 : rdL K (b8, 0) (some 6) = some (.agg ((selI k).cells cv)) := by rw [rdL_cells h8 (by simp [Ins.cells])]; rfl
  unfold D_tarpaulinlaw4_ProgLimits_8
  refine (check_spec hC p5 (by simp; omega)).mono ?_
  rintro _ K1 ⟨rfl, hK1⟩
  rw [hK1]
  have e1 : (List.replicate n exP).map (·.1) = List.replicate n exitI := by simp
  rw [e1, check_exits]
  have e2 : (List.replicate k niP).map (fun x => insOf x.2) = List.replicate k [] := by simp [insOf]
  have go : ∀ K', K' = K → CallL F (N k_prog_All) [v7] K' fun v6 L6 => v6 = .i .i64 (if (decide (1 ≤ k) && decide (k ≤ 16)) = true then 0 else 1) ∧ L6 = K := by
    rintro _ rfl
    have := all_spec hA p7 (by rw [List.length_replicate]; omega)
    rw [e2, all_nils] at this
    exact this
  have aw1 : ∀ L, CallL F (N k_tarpaulinlaw4_awake) [] L fun v L' => v = .b true ∧ L' = L := fun L => known_specP aw L
  have sel : ∀ w K', OSl K' w ((selI k).cells cv) 1 6 → SubL K K' → CallL F (N k_prog_Check) [w] K' fun v L' => v = .i .i64 (if decide (k ≤ 16) = true then 0 else 1) ∧ L' = K' := by
    intro w K' ow hs
    have ps : PrL K' w [(selI k, cv)] := by
      refine ⟨SlG.of_own (fun x => rfl) (by simpa [flatc] using ow), fun x hx => ?_⟩
      simp at hx
      subst hx
      exact pc.mono hs
    have := check_spec hC ps (by simp)
    have e3 : checkP ([(selI k, cv)].map (·.1)) = decide (k ≤ 16) := by simp [checkP, sel_good]
    rw [e3] at this
    exact this
  have hone : ((selI k).cells cv).all AV.one = true := by simp [Ins.cells, hcv]
  have hsl : ((selI k).cells cv).length = 6 := rfl
  by_cases n1 : n ≤ 100
  · have n2 : (n : Int) ≤ 100 := by omega
    by_cases k1 : 1 ≤ k
    · have k2 : (1 : Int) ≤ (k : Int) := by omega
      by_cases k3 : k ≤ 16
      · have k4 : (k : Int) ≤ 16 := by omega
        simp [n1, n2]
        refine (go _ rfl).mono ?_
        rintro _ K2 ⟨rfl, hK2⟩
        rw [hK2]
        simp [k1, k2, k3, k4, r8]
        refine litOneN (size := 6) rfl hsl hone ?_
        intro w K1 ow s1 f1
        simp
        refine (sel w _ ow s1).mono ?_
        rintro _ K3 ⟨rfl, hK3⟩
        simp [k1, k2, k3, k4]
        refine (aw1 _).mono ?_
        rintro _ K4 ⟨rfl, hK4⟩
        simp
        exact fin _
      · have k4 : ¬ (k : Int) ≤ 16 := by omega
        simp [n1, n2]
        refine (go _ rfl).mono ?_
        rintro _ K2 ⟨rfl, hK2⟩
        rw [hK2]
        simp [k1, k2, k3, k4, r8]
        refine litOneN (size := 6) rfl hsl hone ?_
        intro w K1 ow s1 f1
        simp
        refine (sel w _ ow s1).mono ?_
        rintro _ K3 ⟨rfl, hK3⟩
        simp [k1, k2, k3, k4]
        refine (aw1 _).mono ?_
        rintro _ K4 ⟨rfl, hK4⟩
        simp
        exact fin _
    · have k2 : ¬ (1 : Int) ≤ (k : Int) := by omega
      have k3 : k ≤ 16 := by omega
      have k4 : (k : Int) ≤ 16 := by omega
      simp [n1, n2]
      refine (go _ rfl).mono ?_
      rintro _ K2 ⟨rfl, hK2⟩
      rw [hK2]
      simp [k1, k2, k3, k4, r8]
      refine litOneN (size := 6) rfl hsl hone ?_
      intro w K1 ow s1 f1
      simp
      refine (sel w _ ow s1).mono ?_
      rintro _ K3 ⟨rfl, hK3⟩
      simp [k1, k2, k3, k4]
      refine (aw1 _).mono ?_
      rintro _ K4 ⟨rfl, hK4⟩
      simp
      exact fin _
  · have n2 : ¬ (n : Int) ≤ 100 := by omega
    by_cases k1 : 1 ≤ k
    · have k2 : (1 : Int) ≤ (k : Int) := by omega
      by_cases k3 : k ≤ 16
      · have k4 : (k : Int) ≤ 16 := by omega
        simp [n1, n2]
        refine (go _ rfl).mono ?_
        rintro _ K2 ⟨rfl, hK2⟩
        rw [hK2]
        simp [k1, k2, k3, k4, r8]
        refine litOneN (size := 6) rfl hsl hone ?_
        intro w K1 ow s1 f1
        simp
        refine (sel w _ ow s1).mono ?_
        rintro _ K3 ⟨rfl, hK3⟩
        simp [k1, k2, k3, k4]
        refine (aw1 _).mono ?_
        rintro _ K4 ⟨rfl, hK4⟩
        simp
        exact fin _
      · have k4 : ¬ (k : Int) ≤ 16 := by omega
        simp [n1, n2]
        refine (go _ rfl).mono ?_
        rintro _ K2 ⟨rfl, hK2⟩
        rw [hK2]
        simp [k1, k2, k3, k4, r8]
        refine litOneN (size := 6) rfl hsl hone ?_
        intro w K1 ow s1 f1
        simp
        refine (sel w _ ow s1).mono ?_
        rintro _ K3 ⟨rfl, hK3⟩
        simp [k1, k2, k3, k4]
        refine (aw1 _).mono ?_
        rintro _ K4 ⟨rfl, hK4⟩
        simp
        exact fin _
    · have k2 : ¬ (1 : Int) ≤ (k : Int) := by omega
      have k3 : k ≤ 16 := by omega
      have k4 : (k : Int) ≤ 16 := by omega
      simp [n1, n2]
      refine (go _ rfl).mono ?_
      rintro _ K2 ⟨rfl, hK2⟩
      rw [hK2]
      simp [k1, k2, k3, k4, r8]
      refine litOneN (size := 6) rfl hsl hone ?_
      intro w K1 ow s1 f1
      simp
      refine (sel w _ ow s1).mono ?_
      rintro _ K3 ⟨rfl, hK3⟩
      simp [k1, k2, k3, k4]
      refine (aw1 _).mono ?_
      rintro _ K4 ⟨rfl, hK4⟩
      simp
      exact fin _
theorem OSl.appW1 {v w : AV} {cs x : List AV} {n z bytes : Nat} (h : OSl K v cs n z) (ow : OSl K w x 1 z) (hx : x.length = z) (h1 : x.all AV.one = true) (h0 : 0 < z) (hb : (n + 1) * bytes ≤ 70368744177664) {k : AV → Lg → Prop}
    (hk : ∀ (v' : AV) (K2 : Lg), OSl K2 v' (cs ++ x) (n + 1) z → KeepE (slB v) K K2 → (∀ b, slB v' = some b → K b = none) → k v' K2) : appW z bytes K k [v, w] := by
  rcases ow with ⟨h2, _⟩ | ⟨b, ex, h2, rfl, _, h3, h4⟩
  · omega
  refine h.app h0 rfl (by omega) (new := x) ?_ (by omega) h1 hb ?_
  · simp only [rdCellsL, h3, AB.read, cut, ble_nat, Nat.zero_add, Nat.one_mul]
    rw [hx]; simp [← hx]
  intro b2 K2 g hO
  have f2 : K b2 = none := g.fresh
  refine hk _ _ hO ?_ ?_
  · intro r d hr hne
    have r2 : r ≠ b2 := by rintro rfl; rw [f2] at hr; cases hr
    rw [g.same r r2 hne]; exact hr
  · intro q hq; simp [slB] at hq; subst hq; exact f2
structure L2 (n k j b8 : Nat) (v5 v7 cv : AV) (K : Lg) : Prop where
  o5 : OSl K v5 (flatc cellI (List.replicate n exP)) n 6
  o7 : OSl K v7 (flatc cellP (List.replicate j niP)) j 1
  oc : OSl K cv (flatc Cs3.cells (List.replicate j zC)) j 3
  h8 : K b8 = some (.raw (.cells ((selI j).cells cv)))
  d5 : ∀ b, slB v5 = some b → b ≠ b8 ∧ slB v7 ≠ some b ∧ slB cv ≠ some b
  d7 : ∀ b, slB v7 = some b → b ≠ b8 ∧ slB cv ≠ some b
  dc : ∀ b, slB cv = some b → b ≠ b8
theorem limits12 (hC : H_prog_Check N F) (hA : H_prog_All N F) (aw : F (N k_tarpaulinlaw4_awake) = some kTrue) (hQ : ∀ v L, v = .b true → Q v L) {n k : Nat} (hn : n ≤ 120) (hk : k ≤ 30) {v5 v7 cv : AV} {b8 : Nat} (h : L2 n k 0 b8 v5 v7 cv K) {l : Env}
    (l0 : l 0 = .i .i64 n) (l1 : l 1 = .i .i64 k) (l5 : l 5 = v5) (l7 : l 7 = v7) (l8 : l 8 = .p (some (b8, 0))) (l9 : l 9 = .i .i64 0) : D_tarpaulinlaw4_ProgLimits_11 F N Q l K := by
  unfold D_tarpaulinlaw4_ProgLimits_11
  obtain ⟨I, hI⟩ : ∃ I : Nat → Env → Lg → Prop, I = fun m E K' => ∃ j v7 cv, m + j = k ∧ L2 n k j b8 v5 v7 cv K' ∧ E 0 = .i .i64 n ∧ E 1 = .i .i64 k ∧ E 5 = v5 ∧ E 7 = v7 ∧ E 8 = .p (some (b8, 0)) ∧ E 9 = .i .i64 (j : Nat) := ⟨_, rfl⟩
  refine loopW_intro I k ?_ ?_
  · rw [hI]; exact ⟨0, v7, cv, by omega, h, l0, l1, l5, l7, l8, by simpa using l9⟩
  clear h l0 l1 l5 l7 l8 l9
  intro m E t K' hi
  rw [hI] at hi
  obtain ⟨j, w7, wc, hm, h, e0, e1, e5, e7, e8, e9⟩ := hi
  unfold D_tarpaulinlaw4_ProgLimits_12
  rw [e0, e1, e5, e7, e8, e9]
  by_cases hj : j < k
  · simp [hj]
    rw [newL_bslice (c := [.sl none 0 0 0]) _ _ (by simp [reps, fillP, splice, ble_nat, beq_nat, AV.cellsOf]) (by simp)]
    intro b1 hb1
    have s1 : SubL K' (K'.put b1 (.raw (.cells [.sl none 0 0 0]))) := fun r d hd => by rw [Lg.put_ne _ _ _ (by rintro rfl; rw [hb1] at hd; cases hd)]; exact hd
    simp
    refine OSl.appW1 (h.o7.sub fun b d _ hd => s1 b d hd) (x := [.sl none 0 0 0]) (.inr ⟨b1, 0, by omega, rfl, .inl rfl, Lg.put_same _ _ _, rfl⟩) rfl rfl (by omega) (by omega) ?_
    intro v7' K2 o7' k7 f7
    have keep7 : ∀ b d, K' b = some d → slB w7 ≠ some b → K2 b = some d := fun b d hd hne => k7 b d (s1 b d hd) hne
    have q8 : K2 b8 = some (.raw (.cells ((selI j).cells wc))) := keep7 _ _ h.h8 fun h9 => (h.d7 b8 h9).1 rfl
    have r8 : rdL K2 (b8, 4) none = some wc := by rw [rdL_cell q8]; rfl
    have oc2 : OSl K2 wc (flatc Cs3.cells (List.replicate j zC)) j 3 := h.oc.sub fun b d hb hd => keep7 b d hd fun h9 => (h.d7 b h9).2 hb
    have o52 : OSl K2 v5 (flatc cellI (List.replicate n exP)) n 6 := h.o5.sub fun b d hb hd => keep7 b d hd fun h9 => (h.d5 b hb).2.1 h9
    have fr7 : ∀ b, slB v7' = some b → K' b = none := fun b hb => by
      have := f7 b hb
      rw [Lg.put_apply] at this
      split at this
      · cases this
      · exact this
    simp [r8, fillP, splice, ble_nat, beq_nat]
    refine litOneN (size := 3) rfl rfl (by simp) ?_
    intro w K3 ow s3 f3
    simp
    refine OSl.appW1 (oc2.sub fun b d _ hd => s3 b d hd) ow rfl rfl (by omega) (by omega) ?_
    intro cv' K4 oc4 k4 f4
    have keep4 : ∀ b d, K2 b = some d → slB wc ≠ some b → K4 b = some d := fun b d hd hne => k4 b d (s3 b d hd) hne
    have q4 : K4 b8 = some (.raw (.cells ((selI j).cells wc))) := keep4 _ _ q8 fun h9 => h.dc b8 h9 rfl
    have fr4 : ∀ b, slB cv' = some b → K2 b = none := fun b hb => by
      have := f4 b hb
      cases h9 : K2 b with
      | none => rfl
      | some d => rw [s3 b d h9] at this; cases this
    have w9 : wr .i64 ((j : Int) + 1) = ((j + 1 : Nat) : Int) := by rw [wr_id (by omega) (by omega)]; omega
    simp
    rw [stL_cell q4 (show 4 < ((selI j).cells wc).length by simp [Ins.cells]) oc4.cellsOf]
    simp [w9]
    rw [hI]
    refine ⟨m - 1, by omega, j + 1, v7', cv', by omega, ?_, by simp [e0], by simp [e1], by simp [e5], by simp, by simp [e8], by simp⟩
    have ne4 : ∀ b d, K4 b = some d → b ≠ b8 → (K4.put b8 (.raw (.cells (((selI j).cells wc).set 4 cv')))) b = some d := fun b d hd hne => by rw [Lg.put_ne _ _ _ hne]; exact hd
    have b8in : K' b8 ≠ none := by rw [h.h8]; simp
    have n7 : ∀ b, slB v7' = some b → b ≠ b8 := fun b hb h9 => b8in (by rw [← h9]; exact fr7 b hb)
    have n7c : ∀ b, slB v7' = some b → slB wc ≠ some b := fun b hb h9 => by have := h.oc.block h9; rw [fr7 b hb] at this; cases this
    have n4 : ∀ b, slB cv' = some b → b ≠ b8 := fun b hb h9 => by have := fr4 b hb; rw [h9, q8] at this; cases this
    refine ⟨?_, ?_, ?_, ?_, ?_, ?_, n4⟩
    · exact o52.sub fun b d hb hd => ne4 b d (keep4 b d hd fun h9 => (h.d5 b hb).2.2 h9) (h.d5 b hb).1
    · rw [← flatc_snoc]
      exact o7'.sub fun b d hb hd => ne4 b d (keep4 b d hd (n7c b hb)) (n7 b hb)
    · rw [← flatc_snoc]
      exact oc4.sub fun b d hb hd => ne4 b d hd (n4 b hb)
    · rw [Lg.put_same]; rfl
    · intro b hb
      have hin : K' b ≠ none := by rw [h.o5.block hb]; simp
      have hin2 : K2 b ≠ none := by rw [o52.block hb]; simp
      exact ⟨(h.d5 b hb).1, fun h9 => hin (fr7 b h9), fun h9 => hin2 (fr4 b h9)⟩
    · intro b hb
      exact ⟨n7 b hb, fun h9 => by have := fr4 b h9; rw [o7'.block hb] at this; cases this⟩
  · have hjk : j = k := by omega
    subst hjk
    simp
    exact limits8 hC hA aw hQ h.o5 h.o7 h.oc h.h8 hn hk
theorem progLimits_lawC {L0 : Lg} (code : F (N k_tarpaulinlaw4_ProgLimits) = some (c_tarpaulinlaw4_ProgLimits N)) (aw : F (N k_tarpaulinlaw4_awake) = some kTrue) (hC : H_prog_Check N F) (hA : H_prog_All N F) (n k : Int) : CallL F (N k_tarpaulinlaw4_ProgLimits) [.i .i64 n, .i .i64 k] L0 fun v _ => v = .b true := by
  refine CallL.opq ?_
  intro Q hQ0
  have hQ : ∀ v L, v = .b true → Q v L := fun v L h => hQ0 v L h
  have fin : ∀ L, fin1 (some (.b true)) Q L := fun L => ⟨L, Sees.refl _, hQ _ _ rfl⟩
  have awk : ∀ L, CallL F (N k_tarpaulinlaw4_awake) [] L fun v L' => fin1 (some v) Q L' := by
    intro L
    refine (known_specP aw _).mono ?_
    rintro _ _ ⟨rfl, rfl⟩
    exact fin _
  apply r_tarpaulinlaw4_ProgLimits code
  unfold D_tarpaulinlaw4_ProgLimits_1 D_tarpaulinlaw4_ProgLimits_2
  by_cases g1 : n < 0
  · simpa [g1] using awk _
  by_cases g2 : 120 < n
  · simpa [g1, g2] using awk _
  by_cases g3 : k < 0
  · simpa [g1, g2, g3] using awk _
  by_cases g4 : 30 < k
  · simpa [g1, g2, g3, g4] using awk _
  simp [g1, g2, g3, g4]
  obtain ⟨n, rfl⟩ := Int.eq_ofNat_of_zero_le (show 0 ≤ n by omega)
  obtain ⟨k, rfl⟩ := Int.eq_ofNat_of_zero_le (show 0 ≤ k by omega)
  have hn : n ≤ 120 := by omega
  have hk : k ≤ 30 := by omega
  unfold D_tarpaulinlaw4_ProgLimits_3 D_tarpaulinlaw4_ProgLimits_13 D_tarpaulinlaw4_ProgLimits_15
  obtain ⟨I, hI⟩ : ∃ I : Nat → Env → Lg → Prop, I = fun m E K' => ∃ j v, m + j = n ∧ OSl K' v (flatc cellI (List.replicate j exP)) j 6 ∧ E 0 = .i .i64 (n : Nat) ∧ E 1 = .i .i64 (k : Nat) ∧ E 5 = v ∧ E 6 = .i .i64 (j : Nat) := ⟨_, rfl⟩
  refine loopW_intro I n ?_ ?_
  · rw [hI]
    exact ⟨0, .sl none 0 0 0, by omega, OSl.nil _ _, by simp, by simp, by simp, by simp⟩
  intro m E t K' hi
  rw [hI] at hi
  obtain ⟨j, v, hm, ov, e0, e1, e5, e6⟩ := hi
  unfold D_tarpaulinlaw4_ProgLimits_16
  rw [e0, e5, e6]
  by_cases hj : j < n
  · simp [hj, fillP, splice, ble_nat, beq_nat, AV.cellsOf]
    refine litOneN (size := 6) rfl rfl (by simp) ?_
    intro w K1 ow s1 f1
    simp
    refine OSl.appW1 (ov.sub fun b d _ hd => s1 b d hd) ow rfl (by simp) (by omega) (by omega) ?_
    intro v' K2 ov' k2 f2
    have w9 : wr .i64 ((j : Int) + 1) = ((j + 1 : Nat) : Int) := by rw [wr_id (by omega) (by omega)]; omega
    simp [w9]
    rw [hI]
    refine ⟨m - 1, by omega, j + 1, v', by omega, ?_, by simp [e0], by simp [e1], by simp, by simp⟩
    rw [← flatc_snoc]
    exact ov'
  · have hjn : j = n := by omega
    subst hjn
    simp
    unfold D_tarpaulinlaw4_ProgLimits_5 D_tarpaulinlaw4_ProgLimits_6 D_tarpaulinlaw4_ProgLimits_9
    simp [fillP, splice, ble_nat, beq_nat, AV.cellsOf]
    intro b8 hb8
    have s8 : SubL K' (K'.put b8 (.raw (.cells [.i .i64 0, .i .i64 0, .i .i64 0, .i .i64 0, .sl none 0 0 0, .b false]))) := fun r d hd => by rw [Lg.put_ne _ _ _ (by rintro rfl; rw [hb8] at hd; cases hd)]; exact hd
    rw [stL_cells (n := 6) (l := [.i .i64 15, .i .i64 0, .i .i64 0, .i .i64 0, .sl none 0 0 0, .b false]) (c := [.i .i64 0, .i .i64 0, .i .i64 0, .i .i64 0, .sl none 0 0 0, .b false]) (Lg.put_same _ _ _) (by simp) rfl (by simp)]
    refine limits12 hC hA aw hQ hn hk (v5 := v) (v7 := .sl none 0 0 0) (cv := .sl none 0 0 0) (b8 := b8) ⟨?_, OSl.nil _ _, OSl.nil _ _, ?_, ?_, (fun b hb => by cases hb), (fun b hb => by cases hb)⟩ (by simp [e0]) (by simp [e1]) (by simp [e5]) (by simp) (by simp) (by simp)
    · refine ov.sub fun b d hb hd => ?_
      have : b ≠ b8 := by rintro rfl; rw [hb8] at hd; cases hd
      rw [Lg.put_ne _ _ _ this, Lg.put_ne _ _ _ this]; exact hd
    · rw [Lg.put_same]; rfl
    · intro b hb
      exact ⟨(by rintro rfl; have := ov.block hb; rw [hb8] at this; cases this), (by intro h9; cases h9), (by intro h9; cases h9)⟩
end
end Go.AM

