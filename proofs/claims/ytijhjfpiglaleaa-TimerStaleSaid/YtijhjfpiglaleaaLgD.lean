/- Logical memory: the rules as rewriting laws. -/
import Derived.Test.YtijhjfpiglaleaaLgC
set_option linter.unusedVariables false
set_option linter.unusedSimpArgs false
namespace Go.AM

theorem by_def {α : Type} {a b : α} (h : a = b) : a = b := h
/-! ### only what stands first is looked at -/
def mark {α : Type} (x : α) : α := if 0 = 0 then x else x
@[simp] theorem mark_eq {α : Type} (x : α) : mark x = x := by simp [mark]
@[congr] theorem wpOp_congr {F o vs vs' L k} (h : mark vs = vs') : wpOp F o vs L k = wpOp F o vs' L k := by rw [← h, mark_eq]
@[congr] theorem gdOp_congr {F v v' w o vs L k} (h : mark v = v') : gdOp F v w o vs L k = gdOp F v' w o vs L k := by rw [← h, mark_eq]
@[congr] theorem condW_congr {v v' X Y} (h : mark v = v') : condW v X Y = condW v' X Y := by rw [← h, mark_eq]
@[congr] theorem retL_congr {r r' L k} (h : mark r = r') : retL r L k = retL r' L k := by rw [← h, mark_eq]
@[congr] theorem newL_congr {f vs vs' L k} (h : mark vs = vs') : newL f vs L k = newL f vs' L k := by rw [← h, mark_eq]
@[congr] theorem CallL_congr {F f vs vs' L Q} (h : mark vs = vs') : CallL F f vs L Q = CallL F f vs' L Q := by rw [← h, mark_eq]
@[congr] theorem stL_congr {sz L k vs vs'} (h : mark vs = vs') : stL sz L k vs = stL sz L k vs' := by rw [← h, mark_eq]
@[congr] theorem msetW_congr {L k vs vs'} (h : mark vs = vs') : msetW L k vs = msetW L k vs' := by rw [← h, mark_eq]
@[congr] theorem mdelW_congr {L k vs vs'} (h : mark vs = vs') : mdelW L k vs = mdelW L k vs' := by rw [← h, mark_eq]
@[congr] theorem appW_congr {s b L k vs vs'} (h : mark vs = vs') : appW s b L k vs = appW s b L k vs' := by rw [← h, mark_eq]
@[congr] theorem clrW_congr {z L k vs vs'} (h : mark vs = vs') : clrW z L k vs = clrW z L k vs' := by rw [← h, mark_eq]
@[congr] theorem cpyW_congr {s L k vs vs'} (h : mark vs = vs') : cpyW s L k vs = cpyW s L k vs' := by rw [← h, mark_eq]

@[simp] theorem Env.put_apply (l : Env) (n : Nat) (v : AV) (m : Nat) : (l.put n v) m = if n = m then v else l m := by
  unfold Env.put; rw [beq_nat]; by_cases h : n = m <;> simp [h]

/-! ### code -/
section
variable (F : Nat → Option AFn)
theorem gdOp_bool (x w : Bool) (o vs L k) : gdOp F (.b x) w o vs L k = ((x = w → wpOp F o vs L k) ∧ (x = (!w) → k (.tup []) L)) := by_def rfl
@[simp] theorem gdOp_same (w : Bool) (o vs L k) : gdOp F (.b w) w o vs L k = wpOp F o vs L k := by simp [gdOp_bool]
@[simp] theorem gdOp_tf (o vs L k) : gdOp F (.b true) false o vs L k = k (.tup []) L := by simp [gdOp_bool]
@[simp] theorem gdOp_ft (o vs L k) : gdOp F (.b false) true o vs L k = k (.tup []) L := by simp [gdOp_bool]
@[simp] theorem gdOp_dt (p : Prop) [Decidable p] (o vs L k) : gdOp F (.b (decide p)) true o vs L k = ((p → wpOp F o vs L k) ∧ (¬p → k (.tup []) L)) := by simp [gdOp_bool]
@[simp] theorem gdOp_df (p : Prop) [Decidable p] (o vs L k) : gdOp F (.b (decide p)) false o vs L k = ((¬p → wpOp F o vs L k) ∧ (p → k (.tup []) L)) := by simp [gdOp_bool]
@[simp] theorem gdOp_tup (l w o vs L k) : gdOp F (.tup l) w o vs L k = k (.tup []) L := by_def rfl
theorem condW_bool (x : Bool) (X Y : Prop) : condW (.b x) X Y = ((x = true → X) ∧ (x = false → Y)) := by_def rfl
@[simp] theorem condW_t (X Y : Prop) : condW (.b true) X Y = X := by simp [condW_bool]
@[simp] theorem condW_f (X Y : Prop) : condW (.b false) X Y = Y := by simp [condW_bool]
@[simp] theorem condW_d (p : Prop) [Decidable p] (X Y : Prop) : condW (.b (decide p)) X Y = ((p → X) ∧ (¬p → Y)) := by simp [condW_bool]

@[simp] theorem condW_nd (p : Prop) [Decidable p] (X Y : Prop) : condW (.b (!decide p)) X Y = ((¬p → X) ∧ (p → Y)) := by simp [condW_bool]
@[simp] theorem gdOp_ndt (p : Prop) [Decidable p] (o vs L k) : gdOp F (.b (!decide p)) true o vs L k = ((¬p → wpOp F o vs L k) ∧ (p → k (.tup []) L)) := by simp [gdOp_bool]
@[simp] theorem gdOp_ndf (p : Prop) [Decidable p] (o vs L k) : gdOp F (.b (!decide p)) false o vs L k = ((p → wpOp F o vs L k) ∧ (¬p → k (.tup []) L)) := by simp [gdOp_bool]

/-! ### operations -/
variable (L : Lg) (k : AV → Lg → Prop)
@[simp] theorem wp_mv (x : AV) : wpOp F .mv [x] L k = k x L := by_def rfl
theorem wp_pick (c : Bool) (x y : AV) : wpOp F .pick [.b c, x, y] L k = k (bif c then x else y) L := by_def rfl
@[simp] theorem wp_pick_t (x y : AV) : wpOp F .pick [.b true, x, y] L k = k x L := by_def rfl
@[simp] theorem wp_pick_f (x y : AV) : wpOp F .pick [.b false, x, y] L k = k y L := by_def rfl
@[simp] theorem wp_pick_and (c d : Bool) : wpOp F .pick [.b c, .b d, .b false] L k = k (.b (c && d)) L := by rw [wp_pick]; cases c <;> rfl
@[simp] theorem wp_pick_or (c d : Bool) : wpOp F .pick [.b c, .b true, .b d] L k = k (.b (c || d)) L := by rw [wp_pick]; cases c <;> rfl
@[simp] theorem wp_build (z ps vs) : wpOp F (.build z ps) vs L k = retL ((fillP z ps vs).map .agg) L k := by_def rfl
@[simp] theorem retL_some (v) : retL (some v) L k = k v L := by_def rfl
@[simp] theorem wp_nilchk_p (a) : wpOp F .nilchk [.p (some a)] L k = k (.p (some a)) L := by_def rfl
@[simp] theorem wp_nilchk_f (f a b) : wpOp F .nilchk [.fn f a b] L k = k (.fn f a b) L := by_def rfl
@[simp] theorem wp_add (a b : Int) (j) : wpOp F (.bin .add) [.i j a, .i j b] L k = k (.i j (wr j (a + b))) L := by
  have : kEq j j = true := by cases j <;> rfl
  simp [wpOp, semRL, semR, rBin, isSh, this, binI]
@[simp] theorem wp_sub (a b : Int) (j) : wpOp F (.bin .sub) [.i j a, .i j b] L k = k (.i j (wr j (a - b))) L := by
  have : kEq j j = true := by cases j <;> rfl
  simp [wpOp, semRL, semR, rBin, isSh, this, binI]
@[simp] theorem wp_mul (a b : Int) (j) : wpOp F (.bin .mul) [.i j a, .i j b] L k = k (.i j (wr j (a * b))) L := by
  have : kEq j j = true := by cases j <;> rfl
  simp [wpOp, semRL, semR, rBin, isSh, this, binI]
theorem beq_dec (a b : Int) : (a == b) = decide (a = b) := by rw [Bool.eq_iff_iff]; simp
theorem wp_quo (a b : Int) (j) (h : b ≠ 0) : wpOp F (.bin .quo) [.i j a, .i j b] L k = k (.i j (wr j (a.tdiv b))) L := by
  have : kEq j j = true := by cases j <;> rfl
  simp [wpOp, semRL, semR, rBin, isSh, this, binI, iEq_eq, beq_dec, h]
theorem wp_rem (a b : Int) (j) (h : b ≠ 0) : wpOp F (.bin .rem) [.i j a, .i j b] L k = k (.i j (a.tmod b)) L := by
  have : kEq j j = true := by cases j <;> rfl
  simp [wpOp, semRL, semR, rBin, isSh, this, binI, iEq_eq, beq_dec, h]
@[simp] theorem wp_eql (a b : Int) (j) : wpOp F (.bin .eql) [.i j a, .i j b] L k = k (.b (decide (a = b))) L := by
  have : kEq j j = true := by cases j <;> rfl
  simp [wpOp, semRL, semR, rBin, isSh, this, binI, iEq_eq, beq_dec]
@[simp] theorem wp_neq (a b : Int) (j) : wpOp F (.bin .neq) [.i j a, .i j b] L k = k (.b (decide (a ≠ b))) L := by
  have : kEq j j = true := by cases j <;> rfl
  simp [wpOp, semRL, semR, rBin, isSh, this, binI, iEq_eq, beq_dec]
@[simp] theorem wp_lss (a b : Int) (j) : wpOp F (.bin .lss) [.i j a, .i j b] L k = k (.b (decide (a < b))) L := by
  have : kEq j j = true := by cases j <;> rfl
  simp [wpOp, semRL, semR, rBin, isSh, this, binI, iLt_eq]
@[simp] theorem wp_leq (a b : Int) (j) : wpOp F (.bin .leq) [.i j a, .i j b] L k = k (.b (decide (a ≤ b))) L := by
  have : kEq j j = true := by cases j <;> rfl
  simp [wpOp, semRL, semR, rBin, isSh, this, binI, iLt_eq, ← Int.not_lt]
@[simp] theorem wp_gtr (a b : Int) (j) : wpOp F (.bin .gtr) [.i j a, .i j b] L k = k (.b (decide (b < a))) L := by
  have : kEq j j = true := by cases j <;> rfl
  simp [wpOp, semRL, semR, rBin, isSh, this, binI, iLt_eq]
@[simp] theorem wp_geq (a b : Int) (j) : wpOp F (.bin .geq) [.i j a, .i j b] L k = k (.b (decide (b ≤ a))) L := by
  have : kEq j j = true := by cases j <;> rfl
  simp [wpOp, semRL, semR, rBin, isSh, this, binI, iLt_eq, ← Int.not_lt]
theorem wp_binO (o a b j) (ho : isSh o = false) : wpOp F (.bin o) [.i j a, .i j b] L k = retL (binI o j a b) L k := by
  have : kEq j j = true := by cases j <;> rfl
  simp [wpOp, semRL, semR, rBin, ho, this]
theorem wp_sh (o a b i j) (ho : isSh o = true) : wpOp F (.bin o) [.i i a, .i j b] L k = retL (shI o i a b) L k := by
  simp [wpOp, semRL, semR, rBin, ho]
@[simp] theorem wp_sbin (o x y) : wpOp F (.sbin o) [.s x, .s y] L k = retL (binS o x y) L k := by_def rfl
@[simp] theorem wp_eqb (ng : Bool) (x y : Bool) : wpOp F (.eq ng .bool) [.b x, .b y] L k = k (.b ((x == y) != ng)) L := by_def rfl
theorem wp_eqp (ng : Bool) (x y) : wpOp F (.eq ng .ptr) [.p x, .p y] L k = retL ((eqPL L x y).map fun r => .b (r != ng)) L k := by_def rfl
@[simp] theorem wp_eqp_nn (ng : Bool) : wpOp F (.eq ng .ptr) [.p none, .p none] L k = k (.b (!ng)) L := by cases ng <;> rfl
@[simp] theorem wp_eqp_sn (ng : Bool) (a) : wpOp F (.eq ng .ptr) [.p (some a), .p none] L k = k (.b ng) L := by cases ng <;> rfl
@[simp] theorem wp_eqp_ns (ng : Bool) (a) : wpOp F (.eq ng .ptr) [.p none, .p (some a)] L k = k (.b ng) L := by cases ng <;> rfl
@[simp] theorem wp_eqsl_n (ng : Bool) (a b c) : wpOp F (.eq ng .slnil) [.sl none a b c, .sl none 0 0 0] L k = k (.b (!ng)) L := by cases ng <;> rfl
@[simp] theorem wp_eqsl_s (ng : Bool) (r a b c) : wpOp F (.eq ng .slnil) [.sl (some r) a b c, .sl none 0 0 0] L k = k (.b ng) L := by cases ng <;> rfl
@[simp] theorem wp_eqm_n (ng : Bool) : wpOp F (.eq ng .mapnil) [.m none, .m none] L k = k (.b (!ng)) L := by cases ng <;> rfl
@[simp] theorem wp_eqm_s (ng : Bool) (r) : wpOp F (.eq ng .mapnil) [.m (some r), .m none] L k = k (.b ng) L := by cases ng <;> rfl
theorem wp_eqagg (ng : Bool) (fs x y) : wpOp F (.eq ng (.agg fs)) [.agg x, .agg y] L k = retL ((eqAt x y fs).map fun r => .b (r != ng)) L k := by_def rfl
@[simp] theorem wp_not (x : Bool) : wpOp F (.un .not) [.b x] L k = k (.b (!x)) L := by_def rfl
@[simp] theorem wp_neg (n : Int) (j) : wpOp F (.un .neg) [.i j n] L k = k (.i j (wr j (0 - n))) L := by_def rfl
@[simp] theorem wp_cvtI (n : Int) (i j) : wpOp F (.cvtI j) [.i i n] L k = k (.i j (wr j n)) L := by_def rfl
@[simp] theorem wp_cvtS (x) : wpOp F .cvtS [.s x] L k = k (.s x) L := by_def rfl
@[simp] theorem wp_mkif (t x) : wpOp F (.mkif t) [x] L k = k (.ifc t x) L := by_def rfl
@[simp] theorem wp_mkfn (f n vs) : wpOp F (.mkfn f n) vs L k = k (.fn f (vs.take n) (vs.drop n)) L := by_def rfl
@[simp] theorem wp_slc (s lo hi mx vs) : wpOp F (.slc s lo hi mx) vs L k = retL (slcV s lo hi mx vs) L k := by_def rfl
@[simp] theorem wp_slcS (lo hi vs) : wpOp F (.slcS lo hi) vs L k = retL (slcSV lo hi vs) L k := by_def rfl
@[simp] theorem wp_fad (off n o) : wpOp F (.fad off) [.p (some (n, o))] L k = k (.p (some (n, o + off))) L := by_def rfl
@[simp] theorem wp_fld (off sz l) : wpOp F (.fld off sz) [.agg l] L k = retL (look l off sz) L k := by_def rfl
theorem rIad_eq (s n o len c e : Nat) (i) (x : Int) (h0 : 0 ≤ x) (h1 : x < len) (h : PM AB) : rIad s h [.sl (some (n, o)) len c e, .i i x] = some (.p (some (n, o + x.toNat * s))) := by
  obtain ⟨m, rfl⟩ := Int.eq_ofNat_of_zero_le h0
  have : Nat.blt m len = true := by rw [blt_nat]; simp; omega
  show (bif Nat.blt m len then _ else _) = _
  rw [this]; rfl
theorem wp_iad (s n o len c e : Nat) (i) (x : Int) (h0 : 0 ≤ x) (h1 : x < len) : wpOp F (.iad s) [.sl (some (n, o)) len c e, .i i x] L k = k (.p (some (n, o + x.toNat * s))) L := by
  simp [wpOp, semRL, semR, rIad_eq s n o len c e i x h0 h1]
theorem wp_iadA (len s n o : Nat) (i) (x : Int) (h0 : 0 ≤ x) (h1 : x < len) : wpOp F (.iadA len s) [.p (some (n, o)), .i i x] L k = k (.p (some (n, o + x.toNat * s))) L := by
  obtain ⟨m, rfl⟩ := Int.eq_ofNat_of_zero_le h0
  have : Nat.blt m len = true := by rw [blt_nat]; simp; omega
  show retL (bif Nat.blt m len then _ else _) L k = _
  rw [this]; rfl
theorem wp_ixS (x : List UInt8) (i) (n : Int) (h0 : 0 ≤ n) (h1 : n < x.length) : wpOp F .ixS [.s x, .i i n] L k = k (.i .u8 (x[n.toNat]'(by omega)).toNat) L := by
  obtain ⟨m, rfl⟩ := Int.eq_ofNat_of_zero_le h0
  show retL ((x[m]?).map _) L k = _
  rw [List.getElem?_eq_getElem (by simpa using h1)]; rfl
@[simp] theorem wp_ext (n l) : wpOp F (.ext n) [.tup l] L k = retL l[n]? L k := by_def rfl
@[simp] theorem wp_lenSl (a n c e) : wpOp F .lenSl [.sl a n c e] L k = k (.i .i64 n) L := by_def rfl
@[simp] theorem wp_lenS (x) : wpOp F .lenS [.s x] L k = k (.i .i64 x.length) L := by_def rfl
@[simp] theorem wp_lenC (n x) : wpOp F (.lenC n) [x] L k = k (.i .i64 n) L := by_def rfl
@[simp] theorem wp_min2 (a b : Int) (j) : wpOp F .min [.i j a, .i j b] L k = k (.i j (min a b)) L := by
  have : kEq j j = true := by cases j <;> rfl
  simp only [wpOp, semRL, semR, rMin, minL, this, cond_true, retL, iLt_eq]
  congr 2
  by_cases h : b < a
  · simp [h]; omega
  · simp [h]; omega
@[simp] theorem wp_max2 (a b : Int) (j) : wpOp F .max [.i j a, .i j b] L k = k (.i j (max a b)) L := by
  have : kEq j j = true := by cases j <;> rfl
  simp only [wpOp, semRL, semR, rMax, minL, this, cond_true, retL, iLt_eq]
  congr 2
  by_cases h : a < b
  · simp [h]; omega
  · simp [h]; omega
@[simp] theorem wp_max3 (a b c : Int) (j) : wpOp F .max [.i j a, .i j b, .i j c] L k = k (.i j (max (max a b) c)) L := by
  have : kEq j j = true := by cases j <;> rfl
  simp only [wpOp, semRL, semR, rMax, minL, this, cond_true, retL, iLt_eq]
  congr 2
  by_cases h : a < b
  · simp only [h, decide_true, cond_true]
    by_cases h2 : b < c
    · simp [h2]; omega
    · simp [h2]; omega
  · simp only [h, decide_false, cond_false]
    by_cases h2 : a < c
    · simp [h2]; omega
    · simp [h2]; omega
@[simp] theorem wp_ld (sz a) : wpOp F (.ld sz) [.p (some a)] L k = retL (rdL L a sz) L k := by_def rfl
@[simp] theorem wp_lkup (z ok vs) : wpOp F (.lkup z ok) vs L k = retL (rLkupL z ok L vs) L k := by_def rfl
@[simp] theorem wp_mlen (vs) : wpOp F .mlen vs L k = retL (rMlenL L vs) L k := by_def rfl
@[simp] theorem wp_alloc (z) : wpOp F (.alloc z) [] L k = ∀ b, L b = none → k (.p (some (b, 0))) (L.put b (.raw (.cells z))) := by_def rfl
@[simp] theorem wp_bslice (z len size ps vs) : wpOp F (.bslice z len size ps) vs L k = newL (aBslice z len size ps) vs L k := by_def rfl
@[simp] theorem wp_box (v) : wpOp F .box [v] L k = newL aBox [v] L k := by_def rfl
@[simp] theorem wp_mkmap : wpOp F .mkmap [] L k = ∀ b, L b = none → k (.m (some b)) (L.put b (.raw (.map []))) := by_def rfl
theorem wp_mksl (z bytes i j) (l c : Nat) (h : l ≤ c) (h2 : c * bytes ≤ 70368744177664) : wpOp F (.mksl z bytes) [.i i l, .i j c] L k = ∀ b, L b = none → k (.sl (some (b, 0)) l c 0) (L.put b (.raw (.cells (reps z c)))) := by
  have e : ∀ b, aMksl z bytes b [.i i l, .i j c] = some (.cells (reps z c), .sl (some (b, 0)) l c 0) := by
    intro b
    show (bif Nat.ble l c && Nat.ble (c * bytes) 70368744177664 then _ else _) = _
    simp [ble_nat, h, h2]
  simp [wpOp, newL, e]
@[simp] theorem wp_st (sz a v) : wpOp F (.st sz) [.p (some a), v] L k = stL sz L k [.p (some a), v] := by_def rfl
@[simp] theorem wp_mset (vs) : wpOp F .mset vs L k = msetW L k vs := by_def rfl
@[simp] theorem wp_mdel (vs) : wpOp F .mdel vs L k = mdelW L k vs := by_def rfl
@[simp] theorem wp_app (s b vs) : wpOp F (.app s b) vs L k = appW s b L k vs := by_def rfl
@[simp] theorem wp_clr (z vs) : wpOp F (.clr z) vs L k = clrW z L k vs := by_def rfl
@[simp] theorem wp_cpy (s vs) : wpOp F (.cpy s) vs L k = cpyW s L k vs := by_def rfl
@[simp] theorem wp_call (f vs) : wpOp F (.call f) vs L k = CallL F f vs L k := by_def rfl
@[simp] theorem wp_callv (f fst cap vs) : wpOp F .callv (.fn f fst cap :: vs) L k = CallL F f (fst ++ vs ++ cap) L k := by_def rfl
end

@[simp] theorem fin1_some (v : AV) (Q : AV → Lg → Prop) (L : Lg) : fin1 (some v) Q L = ∃ L', Sees L L' ∧ Q v L' := by_def rfl

/-! ### cells -/
@[simp] theorem splice_nil (c : List AV) (n : Nat) : splice c n [] = c := by simp [splice]
@[simp] theorem cellsOf_b (x) : (AV.b x).cellsOf = some [.b x] := by_def rfl
@[simp] theorem cellsOf_i (j x) : (AV.i j x).cellsOf = some [.i j x] := by_def rfl
@[simp] theorem cellsOf_s (x) : (AV.s x).cellsOf = some [.s x] := by_def rfl
@[simp] theorem cellsOf_p (x) : (AV.p x).cellsOf = some [.p x] := by_def rfl
@[simp] theorem cellsOf_m (x) : (AV.m x).cellsOf = some [.m x] := by_def rfl
@[simp] theorem cellsOf_sl (a b c d) : (AV.sl a b c d).cellsOf = some [.sl a b c d] := by_def rfl
@[simp] theorem cellsOf_fn (a b c) : (AV.fn a b c).cellsOf = some [.fn a b c] := by_def rfl
@[simp] theorem cellsOf_ifc (a b) : (AV.ifc a b).cellsOf = some [.ifc a b] := by_def rfl
@[simp] theorem cellsOf_nili : (AV.nili).cellsOf = some [.nili] := by_def rfl
@[simp] theorem cellsOf_nilf : (AV.nilf).cellsOf = some [.nilf] := by_def rfl
theorem cellsOf_agg (l : List AV) (h : l.all AV.one = true) : (AV.agg l).cellsOf = some l := by simp [AV.cellsOf, h]
@[simp] theorem one_b (x) : (AV.b x).one = true := by_def rfl
@[simp] theorem one_i (j x) : (AV.i j x).one = true := by_def rfl
@[simp] theorem one_s (x) : (AV.s x).one = true := by_def rfl
@[simp] theorem one_p (x) : (AV.p x).one = true := by_def rfl
@[simp] theorem one_m (x) : (AV.m x).one = true := by_def rfl
@[simp] theorem one_sl (a b c d) : (AV.sl a b c d).one = true := by_def rfl
@[simp] theorem one_fn (a b c) : (AV.fn a b c).one = true := by_def rfl
end Go.AM
