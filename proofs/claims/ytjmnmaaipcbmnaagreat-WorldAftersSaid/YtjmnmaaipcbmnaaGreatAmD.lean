/- Each operation that leaves memory as it is: the model does what the abstract machine says. -/
import Derived.Test.YtjmnmaaipcbmnaaGreatAmC
import Derived.Test.YtjmnmaaipcbmnaaGreatAmF
import Derived.Laws.Entries
import Derived.Laws.StructEq
import Derived.Laws.Slices
import Derived.Laws.Small
import Derived.Laws.Strings
import Derived.Laws.Rows
import Derived.ChangeKeysEq
import Derived.MapKept
set_option linter.unusedVariables false
set_option linter.unusedSimpArgs false
namespace Go.AM

/-! ### numbers -/
theorem beq_nat (a b : Nat) : Nat.beq a b = decide (a = b) := by
  cases h : Nat.beq a b
  · symm; rw [decide_eq_false_iff_not]; intro e; subst e; simp at h
  · symm; rw [decide_eq_true_eq]; exact Nat.eq_of_beq_eq_true h
theorem ble_nat (a b : Nat) : Nat.ble a b = decide (a ≤ b) := by
  cases h : Nat.ble a b
  · symm; rw [decide_eq_false_iff_not]; intro e; have := Nat.ble_eq_true_of_le e; rw [h] at this; cases this
  · symm; rw [decide_eq_true_eq]; exact Nat.le_of_ble_eq_true h
theorem blt_nat (a b : Nat) : Nat.blt a b = decide (a < b) := by
  show Nat.ble (a + 1) b = _
  rw [ble_nat]; rfl
theorem iEq_eq (a b : Int) : iEq a b = (a == b) := by
  cases a <;> cases b <;> simp only [iEq, beq_nat]
  · rename_i x y
    rw [Bool.eq_iff_iff]; simp; omega
  · symm; rw [beq_eq_false_iff_ne]; nofun
  · symm; rw [beq_eq_false_iff_ne]; nofun
  · rename_i x y
    rw [Bool.eq_iff_iff]; simp; omega
theorem iLt_eq (a b : Int) : iLt a b = decide (a < b) := by
  cases a <;> cases b <;> simp only [iLt, blt_nat] <;> rw [Bool.eq_iff_iff] <;> simp <;> omega
theorem kEq_iff {a b : IntKind} : kEq a b = true ↔ a = b := by cases a <;> cases b <;> simp [kEq]
theorem wrap_fits {n : Int} (h : fits n = true) : IntKind.i64.wrap n = n := by
  have h' : -9223372036854775808 ≤ n ∧ n < 9223372036854775808 := by
    cases n with
    | ofNat m => simp only [fits, blt_nat, decide_eq_true_eq] at h; constructor <;> (simp only [Int.ofNat_eq_natCast]; omega)
    | negSucc m => simp only [fits, blt_nat, decide_eq_true_eq] at h; constructor <;> omega
  obtain ⟨h1, h2⟩ := h'
  have e1 : (2 : Int) ^ IntKind.i64.bits = 18446744073709551616 := by decide
  have e2 : (2 : Int) ^ (IntKind.i64.bits - 1) = 9223372036854775808 := by decide
  unfold IntKind.wrap
  simp only [e1, e2]
  by_cases hc : 0 ≤ n
  · rw [if_neg (by simp [IntKind.signed]; omega)]
    omega
  · rw [if_pos (by simp [IntKind.signed]; omega)]
    omega
theorem wr_eq (k : IntKind) (n : Int) : wr k n = k.wrap n := by
  cases k <;> simp only [wr]
  cases h : fits n
  · rfl
  · exact (wrap_fits h).symm

theorem binI_run {P : Program} {w : World} {op : BinOp} {k : IntKind} {a b : Int} {v : AV} (t : TypeId) (hs : isSh op = false) (h : binI op k a b = some v) :
    ∃ v', (binOp op t (.int k a) (.int k b)).run P w = .ok v' w ∧ ∀ β, VR β v v' := by
  cases op <;> simp only [isSh] at hs <;> simp only [binI, wr_eq, iEq_eq, iLt_eq, Option.some.injEq] at h
  case add => subst h; exact ⟨_, by simp [binOp, Op.intArith], fun _ => .i _ _⟩
  case sub => subst h; exact ⟨_, by simp [binOp, Op.intArith], fun _ => .i _ _⟩
  case mul => subst h; exact ⟨_, by simp [binOp, Op.intArith], fun _ => .i _ _⟩
  case quo =>
    cases hb : (b == 0)
    · rw [hb] at h; simp at h; subst h
      have hb0 : b ≠ 0 := by simpa using hb
      exact ⟨_, by simp [binOp, Op.intDiv, hb0], fun _ => .i _ _⟩
    · rw [hb] at h; cases h
  case rem =>
    cases hb : (b == 0)
    · rw [hb] at h; simp at h; subst h
      have hb0 : b ≠ 0 := by simpa using hb
      exact ⟨_, by simp [binOp, Op.intDiv, hb0], fun _ => .i _ _⟩
    · rw [hb] at h; cases h
  case and => subst h; exact ⟨_, by simp [binOp, Op.intBits], fun _ => .i _ _⟩
  case or => subst h; exact ⟨_, by simp [binOp, Op.intBits], fun _ => .i _ _⟩
  case xor => subst h; exact ⟨_, by simp [binOp, Op.intBits], fun _ => .i _ _⟩
  case andNot => subst h; exact ⟨_, by simp [binOp, Op.intBits], fun _ => .i _ _⟩
  case eql => subst h; exact ⟨_, by simp [binOp, Op.intCmp], fun _ => .b _⟩
  case neq => subst h; exact ⟨.bool (a != b), by simp [binOp, Op.intCmp], fun _ => .b _⟩
  case lss => subst h; exact ⟨_, by simp [binOp, Op.intCmp], fun _ => .b _⟩
  case leq => subst h; exact ⟨.bool (decide (a ≤ b)), by simp [binOp, Op.intCmp], fun _ => by
    have : (!decide (b < a)) = decide (a ≤ b) := by rw [Bool.eq_iff_iff]; simp
    rw [this]; exact .b _⟩
  case gtr => subst h; exact ⟨.bool (decide (a > b)), by simp [binOp, Op.intCmp], fun _ => .b _⟩
  case geq => subst h; exact ⟨.bool (decide (a ≥ b)), by simp [binOp, Op.intCmp], fun _ => by
    have : (!decide (a < b)) = decide (a ≥ b) := by rw [Bool.eq_iff_iff]; simp
    rw [this]; exact .b _⟩
  case shl => cases hs
  case shr => cases hs

theorem shI_run {P : Program} {w : World} {op : BinOp} {k j : IntKind} {a b : Int} {v : AV} (t : TypeId) (h : shI op k a b = some v) :
    ∃ v', (binOp op t (.int k a) (.int j b)).run P w = .ok v' w ∧ ∀ β, VR β v v' := by
  unfold shI at h
  rw [iLt_eq] at h
  cases hb : decide (b < 0) with
  | true => rw [hb] at h; cases h
  | false =>
    rw [hb] at h
    have hb' : ¬ b < 0 := by simpa using hb
    cases op <;> simp only [cond_false, Option.some.injEq, wr_eq] at h <;> first | cases h | skip
    · exact ⟨_, by simp only [binOp, Op.shift, if_neg hb']; rfl, fun _ => .i _ _⟩
    · exact ⟨_, by simp only [binOp, Op.shift, if_neg hb']; rfl, fun _ => .i _ _⟩

/-! ### strings -/
theorem bytesEq_eq : ∀ (x y : List UInt8), bytesEq x y = (x == y)
  | [], [] => rfl
  | [], _ :: _ => rfl
  | _ :: _, [] => rfl
  | a :: x, b :: y => by
    simp only [bytesEq, bytesEq_eq x y, beq_nat]
    rw [Bool.eq_iff_iff]
    simp [UInt8.toNat_inj]
theorem bytesLt_eq : ∀ (x y : List UInt8), bytesLt x y = Op.bytesLess x y
  | [], [] => rfl
  | _ :: _, [] => rfl
  | [], _ :: _ => rfl
  | a :: x, b :: y => by
    simp only [bytesLt, Op.bytesLess, bytesLt_eq x y, beq_nat, blt_nat]
    rw [Bool.eq_iff_iff]
    simp [UInt8.lt_iff_toNat_lt, UInt8.toNat_inj]
theorem toList_mk (l : List UInt8) : (ByteArray.mk l.toArray).toList = l := by
  rw [ByteArray.toList_eq]
theorem append_mk (x y : List UInt8) : ByteArray.mk x.toArray ++ ByteArray.mk y.toArray = ByteArray.mk (x ++ y).toArray := by
  apply ByteArray.ext
  simp [ByteArray.data_append]
theorem size_mk (l : List UInt8) : (ByteArray.mk l.toArray).size = l.length := by
  show (l.toArray).size = _
  simp
theorem binS_run {P : Program} {w : World} {op : BinOp} {x y : List UInt8} {v : AV} (t : TypeId) (h : binS op x y = some v) :
    ∃ v', (binOp op t (.string ⟨x.toArray⟩) (.string ⟨y.toArray⟩)).run P w = .ok v' w ∧ ∀ β, VR β v v' := by
  have hb : binOp op t (.string ⟨x.toArray⟩) (.string ⟨y.toArray⟩) = Op.stringOp op ⟨x.toArray⟩ ⟨y.toArray⟩ := by cases op <;> rfl
  rw [hb]
  cases op <;> simp only [binS, bytesEq_eq, bytesLt_eq, blt_nat, Option.some.injEq] at h <;> simp only [Op.stringOp, toList_mk, size_mk]
  case add =>
    cases hc : decide (x.length + y.length < 9223372036854775808) with
    | false => rw [hc] at h; cases h
    | true =>
      rw [hc] at h
      simp at h hc
      subst h
      refine ⟨.string ⟨(x ++ y).toArray⟩, ?_, fun _ => .s _⟩
      rw [if_neg (by simp; omega), append_mk]; rfl
  all_goals first
    | (subst h; exact ⟨_, rfl, fun _ => .b _⟩)
    | cases h

/-! ### equality -/
theorem eqGuardType_scal {P : Program} {t : TypeId} {g : Nat} (h : scalTag P t = some g) (d : Nat) : P.eqGuardType (d + 1) t = false := by
  unfold scalTag at h
  split at h <;> first | (cases h; done) | simp [Program.eqGuardType, *]
theorem scalFields_all {P : Program} : ∀ {fs : List Field} {l : List (Nat × Nat)}, scalFields P fs = some l → ∀ f ∈ fs, (∃ g, scalTag P f.type = some g) ∧ f.name ≠ "_"
  | [], _, _, f, hf => by cases hf
  | f :: fs, l, h, g, hg => by
    unfold scalFields at h
    split at h
    · rename_i tg htg
      cases hb : (f.name == "_") with
      | true => rw [hb] at h; cases h
      | false =>
        rw [hb] at h
        cases hr : scalFields P fs with
        | none => rw [hr] at h; cases h
        | some r =>
          rcases List.mem_cons.1 hg with rfl | hg
          · exact ⟨⟨tg, htg⟩, by simpa using hb⟩
          · exact scalFields_all hr g hg
    · cases h
theorem eqGuardType_struct {P : Program} {t : TypeId} {fs : Array Field} {l : List (Nat × Nat)} (hu : P.underlying t = some (.struct fs)) (h : scalFields P fs.toList = some l) : P.eqGuardType P.depth t = false := by
  obtain ⟨d, hd⟩ : ∃ d, P.depth = d + 2 := ⟨_, rfl⟩
  rw [hd, show d + 2 = (d + 1) + 1 from rfl, Program.eqGuardType]
  simp only [hu]
  rw [← Array.any_toList, List.any_eq_false]
  intro f hf
  obtain ⟨g, hg⟩ := (scalFields_all h f hf).1
  rw [eqGuardType_scal hg d]
  simp
theorem eqOne_run {P : Program} {w : World} {β : Bt} {a b : AV} {a' b' : Value} {t : TypeId} {g : Nat} (ha : VR β a a') (hb : VR β b b') (hs : scalTag P t = some g) {r : Bool} (h : eqOne g a b = some r) (d : Nat) :
    (Op.equalIn (d + 1) t a' b').run P w = .ok r w := by
  unfold scalTag at hs
  split at hs <;> first | (cases hs; done) | skip
  · rename_i hu
    cases hs
    cases a <;> cases b <;> simp only [eqOne] at h <;> first | (cases h; done) | skip
    cases ha; cases hb
    cases h
    exact run_equalIn_bool w d t _ _ hu
  · rename_i k' hu
    cases hs
    cases a <;> cases b <;> simp only [eqOne] at h <;> first | (cases h; done) | skip
    cases ha; cases hb
    rename_i j n k m
    cases hk : kEq j k with
    | false => rw [hk] at h; cases h
    | true =>
      rw [hk] at h
      have := kEq_iff.1 hk
      subst this
      simp at h
      subst h
      rw [iEq_eq]
      exact run_equalIn_int w d t _ _ _ _ hu
  · rename_i hu
    cases hs
    cases a <;> cases b <;> simp only [eqOne] at h <;> first | (cases h; done) | skip
    cases ha; cases hb
    simp at h
    subst h
    rw [bytesEq_eq, run_equalIn_string w d t _ _ hu, toList_mk, toList_mk]

theorem isAgg_run {P : Program} {w : World} {t : TypeId} {x : Bool} (h : tagg P t = some x) : (isAgg t).run P w = .ok x w := by
  unfold tagg at h
  split at h
  · rename_i fs hu; cases h; simp [isAgg, run_underlying hu]
  · rename_i n e hu; cases h; simp [isAgg, run_underlying hu]
  · rename_i d h1 h2 hu
    cases h
    simp only [isAgg, Sem.run_bind, run_underlying hu, Result.andThen_ok]
    cases d <;> first | rfl | (exact absurd rfl (h1 _ )) | (exact absurd rfl (h2 _ _))
  · cases h
theorem sizeOf_run {P : Program} {w : World} {t : TypeId} {n : Nat} (h : tsize P t = some n) : (sizeOf t).run P w = .ok n w := by
  unfold tsize at h
  cases hi : P.info? t with
  | none => rw [hi] at h; cases h
  | some i => rw [hi] at h; cases h; simp [sizeOf, run_typeInfo w hi]
theorem scal_agg {P : Program} {t : TypeId} {g : Nat} (h : scalTag P t = some g) : tagg P t = some false := by
  unfold scalTag at h
  split at h <;> first | (cases h; done) | simp [tagg, *]
theorem part_one {P : Program} {w : World} {t : TypeId} {cs : Array Value} {off : Nat} {v : Value} (h : tagg P t = some false) (hv : cs[off]? = some v) : (part t cs off).run P w = .ok v w := by
  simp [part, isAgg_run h, hv]

theorem eqAt_run {P : Program} {w : World} {β : Bt} {xs ys : List AV} {xs' ys' : Array Value} (hx : VRs β xs xs'.toList) (hy : VRs β ys ys'.toList) (d : Nat) :
    ∀ {fs : List Field} {l : List (Nat × Nat)} {r : Bool}, scalFields P fs = some l → eqAt xs ys l = some r → (Op.eqFields (d + 1) xs' ys' fs).run P w = .ok r w
  | [], l, r, h, he => by
    simp only [scalFields, Option.some.injEq] at h
    subst h
    simp only [eqAt, Option.some.injEq] at he
    subst he
    simp [Op.eqFields]
  | f :: fs, l, r, h, he => by
    have hall := scalFields_all h f (by simp)
    unfold scalFields at h
    split at h
    · rename_i tg htg
      cases hb : (f.name == "_") with
      | true => rw [hb] at h; cases h
      | false =>
        rw [hb] at h
        cases hr : scalFields P fs with
        | none => rw [hr] at h; cases h
        | some l' =>
          rw [hr] at h
          simp at h
          subst h
          simp only [eqAt] at he
          split at he
          · rename_i x y hxe hye
            obtain ⟨x', hx1, hx2⟩ := hx.get hxe
            obtain ⟨y', hy1, hy2⟩ := hy.get hye
            have hp1 := part_one (P := P) (w := w) (scal_agg htg) (by rw [← Array.getElem?_toList]; exact hx1)
            have hp2 := part_one (P := P) (w := w) (scal_agg htg) (by rw [← Array.getElem?_toList]; exact hy1)
            simp only [Op.eqFields, if_pos hall.2, Sem.run_bind, hp1, hp2, Result.andThen_ok]
            split at he
            · rename_i hq
              rw [eqOne_run hx2 hy2 htg hq d]
              simp only [Result.andThen_ok, Bool.not_true, Bool.false_eq_true, if_false]
              exact eqAt_run hx hy d hr he
            · rename_i hq
              rw [eqOne_run hx2 hy2 htg hq d]
              cases he
              simp
            · cases he
          · cases he
    · cases h

/-- blocks of the machine's own are told apart by their addresses -/
theorem sameAddr_own {P : Program} {β : Bt} {B0 : Nat} {h : PM AB} {w : World} (hR : Rel β B0 h w) {n m b c o o' z z' i j : Nat} (hn : β n = some (b, o, z)) (hm : β m = some (c, o', z')) {r : Bool}
    (he : eqP h (some (n, i)) (some (m, j)) = some r) : (sameAddr ⟨b, o + i, none⟩ ⟨c, o' + j, none⟩).run P w = .ok r w := by
  simp only [eqP, beq_nat] at he
  by_cases hnm : n = m
  · subst hnm
    rw [hn] at hm
    cases hm
    simp at he
    subst he
    have hq : ((⟨b, o + i, none⟩ : Addr) == ⟨b, o + j, none⟩) = decide (i = j) := by
      rw [Bool.eq_iff_iff]
      simp
    simp only [sameAddr, beq_self_eq_true, if_true, hq]
    rfl
  · simp only [hnm, decide_false, cond_false] at he
    cases hl : (live h n && live h m) with
    | false => rw [hl] at he; cases he
    | true =>
      rw [hl] at he
      simp at he
      subst he
      simp only [Bool.and_eq_true, live] at hl
      obtain ⟨h1, h2⟩ := hl
      split at h1
      · rename_i c1 hg1
        split at h2
        · rename_i c2 hg2
          have hbc : b ≠ c := fun e => by
            subst e
            exact hnm (hR.inj n m _ _ b _ _ hg1 hg2 rfl hn hm)
          obtain ⟨_, cur1, t1, hh1, _, _⟩ := hR.blk n _ b o z hg1 hn
          obtain ⟨_, cur2, t2, hh2, _, _⟩ := hR.blk m _ c o' z' hg2 hm
          have f1 : ∀ k, w.frozen? ⟨b, k, none⟩ = false := fun k => by simp [World.frozen?, hh1]
          have f2 : ∀ k, w.frozen? ⟨c, k, none⟩ = false := fun k => by simp [World.frozen?, hh2]
          have s1 : w.shape? b = some (t1, cur1.size) := by simp [World.shape?, hh1]
          have s2 : w.shape? c = some (t2, cur2.size) := by simp [World.shape?, hh2]
          have hbe : (b == c) = false := by simpa using hbc
          simp [sameAddr, hbe, f1, f2, noView, viewAt, s1, s2, mayBeOne, stringish]
        · cases h2
      · cases h1

theorem isEq_cases {op : BinOp} (h : isEq op = true) : (op = .eql ∧ isNeq op = false) ∨ (op = .neq ∧ isNeq op = true) := by
  cases op <;> simp [isEq] at h <;> simp [isNeq]
/-- '==' and '!=' of values that are no numbers and no strings -/
def plainEq : Value → Value → Bool
  | .int _ _, _ | _, .int _ _ | .float _ _, _ | .complex _ _ _, _ | .string _, _ => false
  | _, _ => true
theorem binOp_eqlike {t : TypeId} {a b : Value} (h : plainEq a b = true) :
    binOp .eql t a b = (do pure (.bool (← Op.equal t a b))) ∧ binOp .neq t a b = (do pure (.bool (!(← Op.equal t a b)))) := by
  cases a <;> cases b <;> first | (simp [plainEq] at h; done) | exact ⟨rfl, rfl⟩
theorem eq_of_equal {P : Program} {w : World} {op : BinOp} {t : TypeId} {x y : Operand} {a b : Value} {r : Bool} (hop : isEq op = true) (hp : plainEq a b = true) (hg : (eqGuard op t x y a b).run P w = .ok () w)
    (he : ∀ d, (Op.equalIn (d + 2) t a b).run P w = .ok r w) : ((do eqGuard op t x y a b; binOp op t a b) : Sem Value).run P w = .ok (.bool (r != isNeq op)) w := by
  have h1 := binOp_eqlike (t := t) hp
  have he : (Op.equalIn Op.maxDepth t a b).run P w = .ok r w := he 9998
  rcases isEq_cases hop with ⟨rfl, hn⟩ | ⟨rfl, hn⟩
  · rw [h1.1, hn]
    simp [hg, Op.equal, he]
  · rw [h1.2, hn]
    simp [hg, Op.equal, he]

section
variable {P : Program} {w : World} {t : TypeId} (d : Nat)
theorem equalIn_ptr_nil {e : TypeId} (hu : P.underlying t = some (.pointer e)) (b : Option Addr) : (Op.equalIn (d + 1) t (.pointer none) (.pointer b)).run P w = .ok b.isNone w := by
  simp only [Op.equalIn, Sem.run_bind, run_underlying hu, Result.andThen_ok]; rfl
theorem equalIn_ptr_nil' {e : TypeId} (hu : P.underlying t = some (.pointer e)) (a : Addr) : (Op.equalIn (d + 1) t (.pointer (some a)) (.pointer none)).run P w = .ok false w := by
  simp only [Op.equalIn, Sem.run_bind, run_underlying hu, Result.andThen_ok]; rfl
theorem equalIn_ptr {e : TypeId} {s : Nat} (hu : P.underlying t = some (.pointer e)) (hs : tsize P e = some s) (h0 : s ≠ 0) {a b : Addr} {r : Bool} (h : (sameAddr a b).run P w = .ok r w) :
    (Op.equalIn (d + 1) t (.pointer (some a)) (.pointer (some b))).run P w = .ok r w := by
  simp only [Op.equalIn, Sem.run_bind, run_underlying hu, Result.andThen_ok, sizeOf_run hs, if_pos h0, Sem.run_ite, ne_eq, h0, not_false_eq_true, if_true, h]
theorem equalIn_sl_nil {e : TypeId} (hu : P.underlying t = some (.slice e)) (n m k l : Nat) (b : Option Addr) : (Op.equalIn (d + 1) t (.slice none n m) (.slice b k l)).run P w = .ok b.isNone w := by
  simp only [Op.equalIn, Sem.run_bind, run_underlying hu, Result.andThen_ok]; rfl
theorem equalIn_sl_nil' {e : TypeId} (hu : P.underlying t = some (.slice e)) (n m k l : Nat) (b : Addr) : (Op.equalIn (d + 1) t (.slice (some b) n m) (.slice none k l)).run P w = .ok false w := by
  simp only [Op.equalIn, Sem.run_bind, run_underlying hu, Result.andThen_ok]; rfl
theorem equalIn_map_nil {e f : TypeId} (hu : P.underlying t = some (.map e f)) (b : Option Nat) : (Op.equalIn (d + 1) t (.map none) (.map b)).run P w = .ok b.isNone w := by
  simp only [Op.equalIn, Sem.run_bind, run_underlying hu, Result.andThen_ok]; rfl
theorem equalIn_map_nil' {e f : TypeId} (hu : P.underlying t = some (.map e f)) (b : Nat) : (Op.equalIn (d + 1) t (.map (some b)) (.map none)).run P w = .ok false w := by
  simp only [Op.equalIn, Sem.run_bind, run_underlying hu, Result.andThen_ok]; rfl
theorem equalIn_fn_nil {ps rs : Array TypeId} {v : Bool} (hu : P.underlying t = some (.func ps rs v)) : (Op.equalIn (d + 1) t .nilFunc .nilFunc).run P w = .ok true w := by
  simp only [Op.equalIn, Sem.run_bind, run_underlying hu, Result.andThen_ok]; rfl
theorem equalIn_fn_nil1 {ps rs : Array TypeId} {v : Bool} (hu : P.underlying t = some (.func ps rs v)) (f : Fn) (a b : Array Value) : (Op.equalIn (d + 1) t .nilFunc (.func f a b)).run P w = .ok false w := by
  simp only [Op.equalIn, Sem.run_bind, run_underlying hu, Result.andThen_ok]; rfl
theorem equalIn_fn_nil2 {ps rs : Array TypeId} {v : Bool} (hu : P.underlying t = some (.func ps rs v)) (f : Fn) (a b : Array Value) : (Op.equalIn (d + 1) t (.func f a b) .nilFunc).run P w = .ok false w := by
  simp only [Op.equalIn, Sem.run_bind, run_underlying hu, Result.andThen_ok]; rfl
theorem equalIn_if_nil1 {ms : Array (String × TypeId)} (hu : P.underlying t = some (.interface ms)) (x : TypeId) (v : Value) : (Op.equalIn (d + 1) t .nilIface (.iface x v)).run P w = .ok false w := by
  simp only [Op.equalIn, Sem.run_bind, run_underlying hu, Result.andThen_ok]; rfl
theorem equalIn_if_nil2 {ms : Array (String × TypeId)} (hu : P.underlying t = some (.interface ms)) (x : TypeId) (v : Value) : (Op.equalIn (d + 1) t (.iface x v) .nilIface).run P w = .ok false w := by
  simp only [Op.equalIn, Sem.run_bind, run_underlying hu, Result.andThen_ok]; rfl
end

theorem eq_run {P : Program} {β : Bt} {B0 : Nat} {h : PM AB} {w : World} (hR : Rel β B0 h w) {op : BinOp} (hop : isEq op = true) {t : TypeId} (x y : Operand) {ng : Bool} {k : EqK} {a b : AV} {a' b' : Value} {r : Bool}
    (hc : compEq P (isNeq op) t = some (.eq ng k)) (ha : VR β a a') (hb : VR β b b') (hs : eqV h k a b = some r) :
    ng = isNeq op ∧ ((do eqGuard op t x y a' b'; binOp op t a' b') : Sem Value).run P w = .ok (.bool (r != isNeq op)) w := by
  have g0 : ∀ {u v : Value}, (∃ z, u = .bool z) ∨ (∃ z, u = .pointer z) ∨ (∃ z n m, u = .slice z n m) ∨ (∃ z, u = .map z) ∨ (∃ f c d, u = .func f c d) ∨ u = .nilFunc → (eqGuard op t x y u v).run P w = .ok () w := by
    rintro u v (⟨z, rfl⟩ | ⟨z, rfl⟩ | ⟨z, n, m, rfl⟩ | ⟨z, rfl⟩ | ⟨f, c, d, rfl⟩ | rfl) <;> simp [eqGuard_at_bool, eqGuard_at_pointer, eqGuard_at_slice, eqGuard_at_map, eqGuard_at_func, eqGuard_at_nilFunc]
  unfold compEq at hc
  split at hc
  · rename_i hu
    cases hc
    refine ⟨rfl, ?_⟩
    cases a <;> cases b <;> simp only [eqV] at hs <;> first | (cases hs; done) | skip
    cases ha; cases hb; cases hs
    exact eq_of_equal hop rfl (g0 (.inl ⟨_, rfl⟩)) (fun d => run_equalIn_bool w _ t _ _ hu)
  · rename_i e hu
    split at hc
    · rename_i s hsz
      rw [beq_nat] at hc
      by_cases hs0 : s = 0
      · simp [hs0] at hc
      · simp only [hs0, decide_false, cond_false, Option.some.injEq, AOp.eq.injEq] at hc
        obtain ⟨rfl, rfl⟩ := hc
        refine ⟨rfl, ?_⟩
        cases a <;> cases b <;> simp only [eqV] at hs <;> first | (cases hs; done) | skip
        cases ha with
        | pn =>
          cases hb with
          | pn => cases hs; exact eq_of_equal hop rfl (g0 (.inr (.inl ⟨_, rfl⟩))) (fun d => equalIn_ptr_nil _ hu _)
          | p hb => cases hs; exact eq_of_equal hop rfl (g0 (.inr (.inl ⟨_, rfl⟩))) (fun d => equalIn_ptr_nil _ hu _)
        | p ha =>
          cases hb with
          | pn => cases hs; exact eq_of_equal hop rfl (g0 (.inr (.inl ⟨_, rfl⟩))) (fun d => equalIn_ptr_nil' _ hu _)
          | p hb =>
            have := sameAddr_own (P := P) hR ha hb hs
            exact eq_of_equal hop rfl (g0 (.inr (.inl ⟨_, rfl⟩))) (fun d => equalIn_ptr _ hu hsz hs0 this)
    · cases hc
  · rename_i e hu
    cases hc
    refine ⟨rfl, ?_⟩
    cases a <;> cases b <;> simp only [eqV] at hs <;> first | (cases hs; done) | skip
    cases ha with
    | sln =>
      cases hb with
      | sln => cases hs; exact eq_of_equal hop rfl (g0 (.inr (.inr (.inl ⟨_, _, _, rfl⟩)))) (fun d => equalIn_sl_nil _ hu _ _ _ _ _)
      | sl => cases hs; exact eq_of_equal hop rfl (g0 (.inr (.inr (.inl ⟨_, _, _, rfl⟩)))) (fun d => equalIn_sl_nil _ hu _ _ _ _ _)
    | sl =>
      cases hb with
      | sln => cases hs; exact eq_of_equal hop rfl (g0 (.inr (.inr (.inl ⟨_, _, _, rfl⟩)))) (fun d => equalIn_sl_nil' _ hu _ _ _ _ _)
      | sl => cases hs
  · rename_i e1 e2 hu
    cases hc
    refine ⟨rfl, ?_⟩
    cases a <;> cases b <;> simp only [eqV] at hs <;> first | (cases hs; done) | skip
    cases ha with
    | mn =>
      cases hb with
      | mn => cases hs; exact eq_of_equal hop rfl (g0 (.inr (.inr (.inr (.inl ⟨_, rfl⟩))))) (fun d => equalIn_map_nil _ hu _)
      | m => cases hs; exact eq_of_equal hop rfl (g0 (.inr (.inr (.inr (.inl ⟨_, rfl⟩))))) (fun d => equalIn_map_nil _ hu _)
    | m =>
      cases hb with
      | mn => cases hs; exact eq_of_equal hop rfl (g0 (.inr (.inr (.inr (.inl ⟨_, rfl⟩))))) (fun d => equalIn_map_nil' _ hu _)
      | m => cases hs
  · rename_i e1 e2 e3 hu
    cases hc
    refine ⟨rfl, ?_⟩
    cases a <;> cases b <;> simp only [eqV] at hs <;> first | (cases hs; done) | skip
    · cases ha; cases hb; cases hs
      exact eq_of_equal hop rfl (g0 (.inr (.inr (.inr (.inr (.inl ⟨_, _, _, rfl⟩)))))) (fun d => equalIn_fn_nil2 _ hu _ _ _)
    · cases ha; cases hb; cases hs
      exact eq_of_equal hop rfl (g0 (.inr (.inr (.inr (.inr (.inr rfl)))))) (fun d => by first | exact equalIn_fn_nil _ hu | exact equalIn_fn_nil1 _ hu _ _ _)
    · cases ha; cases hb; cases hs
      exact eq_of_equal hop rfl (g0 (.inr (.inr (.inr (.inr (.inr rfl)))))) (fun d => by first | exact equalIn_fn_nil _ hu | exact equalIn_fn_nil1 _ hu _ _ _)
  · rename_i e hu
    cases hc
    refine ⟨rfl, ?_⟩
    cases a <;> cases b <;> simp only [eqV] at hs <;> first | (cases hs; done) | skip
    · cases ha; cases hb; cases hs
      exact eq_of_equal hop rfl (by rw [eqGuard_at_iface]; rfl) (fun d => equalIn_if_nil2 _ hu _ _)
    · cases ha; cases hb; cases hs
      exact eq_of_equal hop rfl (by rw [eqGuard_nil_iface]; rfl) (fun d => equalIn_if_nil1 _ hu _ _)
  · rename_i fs hu
    cases hh : P.stoodInHeld t with
    | true => rw [hh] at hc; cases hc
    | false =>
      rw [hh] at hc
      cases hf : scalFields P fs.toList with
      | none => rw [hf] at hc; cases hc
      | some l =>
        rw [hf] at hc
        simp at hc
        obtain ⟨rfl, rfl⟩ := hc
        refine ⟨rfl, ?_⟩
        cases a <;> cases b <;> simp only [eqV] at hs <;> first | (cases hs; done) | skip
        cases ha with
        | agg ha =>
          cases hb with
          | agg hb =>
            have hfo : P.fieldsOf t = fs := by simp [Program.fieldsOf, hu]
            have hd := eqGuardType_struct hu hf
            refine eq_of_equal hop rfl (run_eqGuard_agg w op t x y _ _ hd) fun d => ?_
            rw [run_equalIn_struct w (d + 1) t _ _ (by rw [hfo]; exact hu) hh, hfo]
            exact eqAt_run ha hb d hf hs
  · cases hc
end Go.AM
