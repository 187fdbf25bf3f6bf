/- Operations that leave memory as it is, the rest; and all of them. -/
import Derived.Test.YtjmnmaaipcbmnaaGreatAmG
import Derived.Laws.BytesString
set_option linter.unusedVariables false
set_option linter.unusedSimpArgs false
namespace Go.AM

section
variable {P : Program} {β : Bt} {B0 : Nat} {h : PM AB} {w : World} (ρ : Operand → Value)

theorem g_slcS {t : TypeId} (ht : P.underlying t = some .string) {x : Operand} {lo hi : Option Operand} {vs : List AV} {v : AV}
    (hv : VRs β vs (ρ x :: ((lo.toList.map ρ) ++ ((hi.toList.map ρ) ++ [])))) (hs : rSlcS lo.isSome hi.isSome h vs = some v) :
    ∃ v', (Instr.sliceAt t (ρ x) (lo.map ρ) (hi.map ρ) none).run P w = .ok v' w ∧ VR β v v' := by
  cases hv with
  | cons hx hv =>
    rename_i a vs
    simp only [rSlcS] at hs
    cases a <;> simp only [slcSV] at hs <;> first | (cases hs; done) | skip
    rename_i s
    cases h1 : optIdx lo.isSome vs 0 with
    | none => rw [h1] at hs; cases hs
    | some p =>
      obtain ⟨l, r1⟩ := p
      rw [h1] at hs
      simp only at hs
      obtain ⟨hv1, hl⟩ := optIdx_spec ρ hv h1
      cases h2 : optIdx hi.isSome r1 s.length with
      | none => rw [h2] at hs; cases hs
      | some p =>
        obtain ⟨hh, r2⟩ := p
        rw [h2] at hs
        obtain ⟨hv2, hhi⟩ := optIdx_spec ρ hv1 h2
        cases hv2
        simp only at hs
        cases hb : (Nat.ble l hh && Nat.ble hh s.length) with
        | false => rw [hb] at hs; cases hs
        | true =>
          rw [hb] at hs
          simp only [Bool.and_eq_true, ble_nat, decide_eq_true_eq] at hb
          obtain ⟨hb1, hb2⟩ := hb
          simp only [cond_true, Option.some.injEq] at hs
          subst hs
          generalize hX : ρ x = X at hx
          cases hx
          have hbs : (Instr.sliceBounds false s.length s.length (lo.map ρ) (hi.map ρ) none).run P w = .ok (l, hh, s.length) w := by
            rcases hhi with ⟨rfl, rfl⟩ | ⟨yh, kh, rfl, hyh⟩
            · rcases hl with ⟨rfl, rfl⟩ | ⟨yl, kl, rfl, hyl⟩
              · simp [Instr.sliceBounds]
              · simp [Instr.sliceBounds, hyl, bound_run kl l _ _ hb1]
            · rcases hl with ⟨rfl, rfl⟩ | ⟨yl, kl, rfl, hyl⟩
              · simp [Instr.sliceBounds, hyh, bound_run kh hh _ _ hb2]
              · simp [Instr.sliceBounds, hyh, hyl, bound_run kh hh _ _ hb2, bound_run kl l _ _ hb1]
          have he : (ByteArray.mk s.toArray).extract l hh = ByteArray.mk ((s.take hh).drop l).toArray := by
            apply ByteArray.ext
            rw [ByteArray.data_extract]
            apply Array.ext'
            simp [Array.toList_extract, List.extract_eq_take_drop, List.drop_take]
          refine ⟨.string ((ByteArray.mk s.toArray).extract l hh), ?_, by rw [he]; exact .s _⟩
          simp only [Instr.sliceAt, Instr.slice, Sem.run_bind, run_underlying ht, Result.andThen_ok, size_mk, hbs, Option.isSome_none, Bool.false_eq_true, if_false, Sem.run_pure]

theorem g_fad {s : TypeId} {fs : Array Field} {f : Nat} {g : Field} (hu : P.underlying s = some (.struct fs)) (hf : fs[f]? = some g) {sz : Nat} (hz : tsize P g.type = some sz) (h0 : sz ≠ 0) {vs : List AV} {v : AV} {a : Value} (hv : VRs β vs [a]) (hs : rFad g.offset h vs = some v) :
    ∃ v', (Instr.fieldAt s a f).run P w = .ok v' w ∧ VR β v v' := by
  obtain ⟨p, rfl, hp⟩ := vrs1 hv
  cases p <;> simp only [rFad] at hs <;> first | (cases hs; done) | skip
  rename_i q
  cases q with
  | none => cases hs
  | some q =>
    obtain ⟨n, k⟩ := q
    cases hs
    cases hp with
    | p hb =>
      rename_i b o z
      refine ⟨.pointer (some ⟨b, o + (k + g.offset), none⟩), ?_, .p hb⟩
      simp only [Instr.fieldAt, Sem.run_bind, run_underlying hu, Result.andThen_ok, hf, Instr.sureAddr, Sem.run_pure, fieldPlace, sizeOf_run hz, if_neg h0, add_at, Nat.add_assoc]
theorem shape_run {t : TypeId} {s : Option Nat} (h : tshape P t = some s) : ∃ n, tsize P t = some n ∧ ((tagg P t = some true ∧ s = some n) ∨ (tagg P t = some false ∧ s = none)) := by
  unfold tshape at h
  split at h
  · rename_i n h1 h2; cases h; exact ⟨n, h2, .inl ⟨h1, rfl⟩⟩
  · rename_i n h1 h2; cases h; exact ⟨n, h2, .inr ⟨h1, rfl⟩⟩
  · cases h
/-- a part of an aggregate -/
theorem part_run {t : TypeId} {s : Option Nat} (hsh : tshape P t = some s) {l : List AV} {l' : Array Value} (hv : VRs β l l'.toList) {off : Nat} {v : AV} (hl : look l off s = some v) :
    ∃ v', (part t l' off).run P w = .ok v' w ∧ VR β v v' := by
  obtain ⟨n, hn, ⟨ha, rfl⟩ | ⟨ha, rfl⟩⟩ := shape_run hsh
  · simp only [look] at hl
    cases hc : cut l off n with
    | none => rw [hc] at hl; cases hl
    | some m =>
      rw [hc] at hl
      cases hl
      unfold cut at hc
      cases hb : Nat.ble (off + n) l.length with
      | false => rw [hb] at hc; cases hc
      | true =>
        rw [hb] at hc
        simp at hc
        subst hc
        refine ⟨.agg (l'.extract off (off + n)), by simp [part, isAgg_run ha, sizeOf_run hn], .agg ?_⟩
        have : (l'.extract off (off + n)).toList = (l'.toList.drop off).take n := by
          simp [Array.toList_extract, List.extract_eq_take_drop]
        rw [this]
        exact VRs.take _ (VRs.drop _ hv)
  · simp only [look] at hl
    obtain ⟨v', h1, h2⟩ := hv.get hl
    exact ⟨v', part_one ha (by rw [← Array.getElem?_toList]; exact h1), h2⟩
theorem g_fld {s : TypeId} {fs : Array Field} {f : Nat} {g : Field} {sh : Option Nat} (hu : P.underlying s = some (.struct fs)) (hf : fs[f]? = some g) (hsh : tshape P g.type = some sh) {vs : List AV} {v : AV} {a : Value} (hv : VRs β vs [a])
    (hs : rFld g.offset sh h vs = some v) : ∃ v', (Instr.field s a f).run P w = .ok v' w ∧ VR β v v' := by
  obtain ⟨p, rfl, hp⟩ := vrs1 hv
  cases p <;> simp only [rFld] at hs <;> first | (cases hs; done) | skip
  cases hp with
  | agg hl =>
    obtain ⟨v', h1, h2⟩ := part_run (P := P) (w := w) hsh hl hs
    exact ⟨v', by simp only [Instr.field, Sem.run_bind, run_underlying hu, Result.andThen_ok, hf, asAgg, Sem.run_pure, h1], h2⟩
theorem g_iad {t e : TypeId} {size : Nat} (ht : P.underlying t = some (.slice e)) (hz : tsize P e = some size) {vs : List AV} {v : AV} {a b : Value} (hv : VRs β vs [a, b]) (hs : rIad size h vs = some v) :
    ∃ v', (Instr.indexAt t a b).run P w = .ok v' w ∧ VR β v v' := by
  obtain ⟨p, q, rfl, hp, hq⟩ := vrs2 hv
  unfold rIad at hs
  split at hs
  · rename_i n o len c ex kd k he
    cases he
    rw [blt_nat] at hs
    by_cases hk : k < len
    · simp only [hk, decide_true, cond_true, Option.some.injEq] at hs
      subst hs
      cases hq
      cases hp with
      | sl hb hl hc he hzz ha =>
        rename_i b1 o1 z1 c1 off
        have hoff : off = o1 + o := by rcases ha with h | h <;> omega
        refine ⟨.pointer (some ⟨b1, o1 + (o + k * size), none⟩), ?_, .p hb⟩
        have h1 : (0 : Int) ≤ Int.ofNat k ∧ Int.ofNat k < (len : Int) := by constructor <;> simp [hk]
        simp only [Instr.indexAt, asIntOf, Sem.run_bind, Sem.run_pure, Result.andThen_ok, run_underlying ht, if_pos h1, sizeOf_run hz, add_at, hoff]
        simp [Nat.add_assoc]
    · simp only [hk, decide_false, cond_false] at hs; cases hs
  · cases hs
theorem g_iadA {t e : TypeId} {n size : Nat} (ht : P.underlying t = some (.array n e)) (hz : tsize P e = some size) {vs : List AV} {v : AV} {a b : Value} (hv : VRs β vs [a, b]) (hs : rIadA n size h vs = some v) :
    ∃ v', (Instr.indexAt t a b).run P w = .ok v' w ∧ VR β v v' := by
  obtain ⟨p, q, rfl, hp, hq⟩ := vrs2 hv
  unfold rIadA at hs
  split at hs
  · rename_i m o kd k he
    cases he
    rw [blt_nat] at hs
    by_cases hk : k < n
    · simp only [hk, decide_true, cond_true, Option.some.injEq] at hs
      subst hs
      cases hq
      cases hp with
      | p hb =>
        rename_i b1 o1 z1
        refine ⟨.pointer (some ⟨b1, o1 + (o + k * size), none⟩), ?_, .p hb⟩
        have h1 : (0 : Int) ≤ Int.ofNat k ∧ Int.ofNat k < (n : Int) := by constructor <;> simp [hk]
        simp only [Instr.indexAt, asIntOf, Sem.run_bind, Sem.run_pure, Result.andThen_ok, run_underlying ht, Instr.sureAddr, if_pos h1, sizeOf_run hz, add_at]
        simp [Nat.add_assoc]
    · simp only [hk, decide_false, cond_false] at hs; cases hs
  · cases hs
theorem g_ixA {t e : TypeId} {n size : Nat} {sh : Option Nat} (ht : P.underlying t = some (.array n e)) (hsh : tshape P e = some sh) (hz : tsize P e = some size) {vs : List AV} {v : AV} {a b : Value} (hv : VRs β vs [a, b])
    (hs : rIxA n size sh.isSome h vs = some v) : ∃ v', (Instr.index t a b).run P w = .ok v' w ∧ VR β v v' := by
  obtain ⟨p, q, rfl, hp, hq⟩ := vrs2 hv
  unfold rIxA at hs
  split at hs
  · rename_i l kd k he
    cases he
    rw [blt_nat] at hs
    by_cases hk : k < n
    · simp only [hk, decide_true, cond_true] at hs
      have hs2 : look l (k * size) sh = some v := by
        obtain ⟨n', hn', ⟨_, rfl⟩ | ⟨_, rfl⟩⟩ := shape_run hsh
        · rw [hz] at hn'; cases hn'; simpa using hs
        · simpa using hs
      cases hq
      cases hp with
      | agg hl =>
        obtain ⟨v', h1, h2⟩ := part_run (P := P) (w := w) hsh hl hs2
        refine ⟨v', ?_, h2⟩
        have h3 : (0 : Int) ≤ Int.ofNat k ∧ Int.ofNat k < (n : Int) := by constructor <;> simp [hk]
        simp only [Instr.index, asIntOf, Sem.run_bind, Sem.run_pure, Result.andThen_ok, run_underlying ht, if_pos h3, sizeOf_run hz]
        simpa using h1
    · simp only [hk, decide_false, cond_false] at hs; cases hs
  · cases hs
theorem g_ixS {t : TypeId} (ht : P.underlying t = some .string) {vs : List AV} {v : AV} {a b : Value} (hv : VRs β vs [a, b]) (hs : rIxS h vs = some v) : ∃ v', (Instr.index t a b).run P w = .ok v' w ∧ VR β v v' := by
  obtain ⟨p, q, rfl, hp, hq⟩ := vrs2 hv
  unfold rIxS at hs
  split at hs
  · rename_i l kd k he
    cases he
    cases hc : l[k]? with
    | none => rw [hc] at hs; cases hs
    | some c =>
      rw [hc] at hs
      cases hs
      cases hq
      cases hp
      refine ⟨.int .u8 (c.toNat : Int), ?_, .i _ _⟩
      have hk : k < l.length := (List.getElem?_eq_some_iff.1 hc).1
      have hg : (ByteArray.mk l.toArray)[k]? = some c := by
        have hk2 : k < (ByteArray.mk l.toArray).size := by rw [size_mk]; exact hk
        rw [getElem?_pos (ByteArray.mk l.toArray) k hk2]
        have h9 := (List.getElem?_eq_some_iff.1 hc).2
        show some (l.toArray[k]'(by simpa using hk)) = some c
        rw [← h9]
        simp
      have h0 : (0 : Int) ≤ Int.ofNat k := by simp
      simp only [Instr.index, asIntOf, Sem.run_bind, Sem.run_pure, Result.andThen_ok, run_underlying ht, if_pos h0]
      simp [hg]
  · cases hs
theorem g_ext {vs : List AV} {v : AV} {a : Value} {k : Nat} (hv : VRs β vs [a]) (hs : rExt k h vs = some v) : ∃ v', (Instr.extract a k).run P w = .ok v' w ∧ VR β v v' := by
  obtain ⟨p, rfl, hp⟩ := vrs1 hv
  cases p <;> simp only [rExt] at hs <;> first | (cases hs; done) | skip
  cases hp with
  | tup hl =>
    obtain ⟨v', h1, h2⟩ := hl.get hs
    rw [Array.getElem?_toList] at h1
    exact ⟨v', by simp [Instr.extract, h1], h2⟩
theorem g_lenSl {t e ty : TypeId} (ht : P.underlying t = some (.slice e)) {vs : List AV} {v : AV} {a : Value} (hv : VRs β vs [a]) (hs : rLenSl h vs = some v) : ∃ v', (Builtin.len_ #[t] ty #[a]).run P w = .ok v' w ∧ VR β v v' := by
  obtain ⟨p, rfl, hp⟩ := vrs1 hv
  cases p <;> simp only [rLenSl] at hs <;> first | (cases hs; done) | skip
  cases hs
  cases hp with
  | sln => exact ⟨_, by simp [Builtin.len_, run_underlying ht, goInt], .i _ _⟩
  | sl => exact ⟨_, by simp [Builtin.len_, run_underlying ht, goInt], .i _ _⟩
theorem g_capSl {t e ty : TypeId} (ht : P.underlying t = some (.slice e)) {vs : List AV} {v : AV} {a : Value} (hv : VRs β vs [a]) (hs : rCapSl h vs = some v) : ∃ v', (Builtin.cap_ #[t] ty #[a]).run P w = .ok v' w ∧ VR β v v' := by
  obtain ⟨p, rfl, hp⟩ := vrs1 hv
  unfold rCapSl at hs
  split at hs
  · rename_i he
    cases he
    cases hs
    cases hp with
    | sln => exact ⟨_, by simp [Builtin.cap_, run_underlying ht, goInt], .i _ _⟩
    | sl hb hl hc he =>
      rw [he rfl]
      exact ⟨_, by simp [Builtin.cap_, run_underlying ht, goInt], .i _ _⟩
  · cases hs
theorem g_lenS {t ty : TypeId} (ht : P.underlying t = some .string) {vs : List AV} {v : AV} {a : Value} (hv : VRs β vs [a]) (hs : rLenS h vs = some v) : ∃ v', (Builtin.len_ #[t] ty #[a]).run P w = .ok v' w ∧ VR β v v' := by
  obtain ⟨p, rfl, hp⟩ := vrs1 hv
  cases p <;> simp only [rLenS] at hs <;> first | (cases hs; done) | skip
  cases hs
  cases hp
  exact ⟨_, by simp [Builtin.len_, run_underlying ht, goInt, size_mk], .i _ _⟩
theorem g_lenC {t e ty : TypeId} {n : Nat} (ht : P.underlying t = some (.array n e)) {vs : List AV} {v : AV} {a : Value} (hv : VRs β vs [a]) (hs : rLenC n h vs = some v) : ∃ v', (Builtin.len_ #[t] ty #[a]).run P w = .ok v' w ∧ VR β v v' := by
  obtain ⟨p, rfl, hp⟩ := vrs1 hv
  simp only [rLenC, Option.some.injEq] at hs
  subst hs
  exact ⟨_, by simp [Builtin.len_, run_underlying ht, goInt], .i _ _⟩
theorem minL_run (m2 : Value → Value → Sem Value) (lt : Int → Int → Bool) (hm : ∀ k j x y, m2 (.int k x) (.int j y) = pure (.int k (if lt y x = true then y else x))) : ∀ {vs : List AV} {vs' : List Value} {x : Int} {k : IntKind} {v : AV},
    VRs β vs vs' → minL lt x vs k = some v → ∃ v', (vs'.foldlM m2 (.int k x)).run P w = .ok v' w ∧ VR β v v'
  | [], _, x, k, v, hv, hs => by
    cases hv
    simp only [minL, Option.some.injEq] at hs
    subst hs
    exact ⟨_, by simp, .i _ _⟩
  | a :: vs, _, x, k, v, hv, hs => by
    cases hv with
    | cons ha ht =>
      cases a <;> simp only [minL] at hs <;> first | (cases hs; done) | skip
      rename_i j y
      cases hk : kEq j k with
      | false => rw [hk] at hs; cases hs
      | true =>
        rw [hk] at hs
        cases ha
        have hs' : minL lt (if lt y x = true then y else x) vs k = some v := by
          cases hl : lt y x <;> rw [hl] at hs <;> simpa using hs
        obtain ⟨v', h1, h2⟩ := minL_run m2 lt hm ht hs'
        exact ⟨v', by simp only [List.foldlM_cons, hm, Sem.run_bind, Sem.run_pure, Result.andThen_ok, h1], h2⟩
theorem g_min {ts : Array TypeId} {ty : TypeId} {vs : List AV} {v : AV} {as : Array Value} (hv : VRs β vs as.toList) (hs : rMin h vs = some v) : ∃ v', (Builtin.min_ ts ty as).run P w = .ok v' w ∧ VR β v v' := by
  unfold rMin at hs
  split at hs
  · generalize hl : as.toList = L at hv
    cases hv with
    | cons ha ht =>
      cases ha
      obtain ⟨v', h1, h2⟩ := minL_run (P := P) (w := w) Builtin.min2 (fun y x => iLt y x) (fun k j x y => by simp [Builtin.min2, iLt_eq]) ht hs
      exact ⟨v', by simp only [Builtin.min_, hl, h1], h2⟩
  · cases hs
theorem g_max {ts : Array TypeId} {ty : TypeId} {vs : List AV} {v : AV} {as : Array Value} (hv : VRs β vs as.toList) (hs : rMax h vs = some v) : ∃ v', (Builtin.max_ ts ty as).run P w = .ok v' w ∧ VR β v v' := by
  unfold rMax at hs
  split at hs
  · generalize hl : as.toList = L at hv
    cases hv with
    | cons ha ht =>
      cases ha
      obtain ⟨v', h1, h2⟩ := minL_run (P := P) (w := w) Builtin.max2 (fun y x => iLt x y) (fun k j x y => by simp [Builtin.max2, iLt_eq]) ht hs
      exact ⟨v', by simp only [Builtin.max_, hl, h1], h2⟩
  · cases hs
theorem u8s_ints {β : Bt} : ∀ {l : List AV} {bs : List UInt8} {l' : List Value}, u8s l = some bs → VRs β l l' → ∃ ns : List Int, l' = ns.map (Value.int .u8) ∧ bs = ns.map fun n => UInt8.ofNat n.toNat
  | [], _, _, h, .nil => by cases h; exact ⟨[], rfl, rfl⟩
  | _ :: r, _, _, h, .cons (v' := v') hv ht => by
    rename_i v _ _
    unfold u8s at h
    split at h
    · rename_i e; cases e
    · rename_i n r' e
      cases e
      split at h
      · rename_i bs' hb
        cases h
        cases hv
        obtain ⟨ns, rfl, rfl⟩ := u8s_ints hb ht
        exact ⟨(n : Int) :: ns, rfl, rfl⟩
      · cases h
    · cases h
theorem foldl_u8 : ∀ (ns : List Int) (s : ByteArray), ns.foldl (fun r n => r.push (UInt8.ofNat n.toNat)) s = ⟨s.data ++ (ns.map fun n => UInt8.ofNat n.toNat).toArray⟩
  | [], s => by simp
  | n :: r, s => by
    rw [List.foldl_cons, foldl_u8 r]
    simp [ByteArray.push]
theorem g_cvtB (hR : Rel β B0 h w) {s d e : TypeId} (hs' : P.underlying s = some (.slice e)) (he : P.underlying e = some (.int .u8)) (hd : P.underlying d = some .string) {vs : List AV} {v : AV} {a : Value} (hv : VRs β vs [a]) (hs : rCvtB h vs = some v) :
    ∃ v', (convert s d a).run P w = .ok v' w ∧ VR β v v' := by
  obtain ⟨p, rfl, hp⟩ := vrs1 hv
  cases p <;> simp only [rCvtB] at hs <;> first | (cases hs; done) | skip
  rename_i q len cap ex
  rw [beq_nat] at hs
  by_cases h00 : len = 0
  · subst h00
    simp only [decide_true, cond_true] at hs
    cases hs
    cases hp with
    | sln => exact ⟨.string .empty, by rw [run_convert_bytes_string w s d e _ _ _ hs' he hd]; simp [Conv.bytesToString], .s []⟩
    | sl hb' hll hc hee hz ha =>
      rename_i r k b o z c' off
      refine ⟨.string ⟨#[]⟩, ?_, .s []⟩
      have hload : (loadCells ⟨b, off, none⟩ 0).run P w = .ok (([] : List Int).map (Value.int .u8)).toArray w := by simp [loadCells, loadCellsFrom]
      rw [run_convert_bytes_string w s d e _ _ _ hs' he hd, run_bytesToString w _ 0 c' [] hload, foldl_u8]
      rfl
  simp only [h00, decide_false, cond_false] at hs
  cases hl : rdCells h q len with
  | none => rw [hl] at hs; cases hs
  | some l =>
    rw [hl] at hs
    simp only at hs
    cases hb : u8s l with
    | none => rw [hb] at hs; cases hs
    | some bs =>
      rw [hb] at hs
      cases hs
      cases hp with
      | sln =>
        simp [rdCells, beq_nat] at hl
        subst hl
        cases hb
        exact ⟨.string .empty, by rw [run_convert_bytes_string w s d e _ _ _ hs' he hd]; simp [Conv.bytesToString], .s []⟩
      | sl hb' hll hc hee hz ha =>
        rename_i r k b o z c' off
        obtain ⟨h1, l', h2, h3⟩ := rd_cells hR hl hb'
        obtain ⟨ns, rfl, rfl⟩ := u8s_ints hb h2
        have hlen : (ns.map (Value.int .u8)).length = len := by rw [← h2.length, h1]
        refine ⟨.string ⟨(ns.map fun n => UInt8.ofNat n.toNat).toArray⟩, ?_, .s _⟩
        have hload : (loadCells ⟨b, off, none⟩ len).run P w = .ok (ns.map (Value.int .u8)).toArray w := by
          rcases Nat.eq_zero_or_pos len with h0 | h0
          · subst h0
            have : ns = [] := by cases ns with | nil => rfl | cons _ _ => simp at hlen
            subst this
            simp [loadCells, loadCellsFrom]
          · have hoff : off = o + k := by
              rcases ha with h | h
              · omega
              · exact h
            subst hoff
            rw [← hlen]
            exact run_loadCells_list (P := P) w ⟨b, o + k, none⟩ (ns.map (Value.int .u8)) (fun j v' hj => by rw [add_at]; exact h3 j v' hj)
        rw [run_convert_bytes_string w s d e _ _ _ hs' he hd, run_bytesToString w _ len c' ns hload, foldl_u8]
        simp
theorem g_ld (hR : Rel β B0 h w) {t : TypeId} {sh : Option Nat} (hsh : tshape P t = some sh) {vs : List AV} {v : AV} {a : Value} (hv : VRs β vs [a]) (hs : rLd sh h vs = some v) : ∃ v', (Instr.loadAt t a).run P w = .ok v' w ∧ VR β v v' := by
  obtain ⟨p, rfl, hp⟩ := vrs1 hv
  cases p <;> simp only [rLd] at hs <;> first | (cases hs; done) | skip
  rename_i q
  cases q with
  | none => cases hs
  | some q =>
    obtain ⟨n, k⟩ := q
    cases hp with
    | p hb =>
      rename_i b o z
      obtain ⟨m, hm, ⟨ha, rfl⟩ | ⟨ha, rfl⟩⟩ := shape_run hsh
      · obtain ⟨l, l', rfl, hlen, h1, h2⟩ := rd_agg hR hs hb
        refine ⟨.agg l'.toArray, ?_, .agg (by simpa using h1)⟩
        have hl' : l'.length = m := by rw [← h1.length, hlen]
        have := run_loadCells_list (P := P) w ⟨b, o + k, none⟩ l' (fun j v' hj => by rw [add_at]; exact h2 j v' hj)
        simp only [Instr.loadAt, Instr.sureAddr, Sem.run_bind, Sem.run_pure, Result.andThen_ok, loadVar, isAgg_run ha, if_true, sizeOf_run hm, ← hl', this]
      · obtain ⟨v', h1, h2⟩ := rd_at hR hs hb
        refine ⟨v', ?_, h1⟩
        simp only [Instr.loadAt, Instr.sureAddr, Sem.run_bind, Sem.run_pure, Result.andThen_ok, loadVar, isAgg_run ha, Bool.false_eq_true, if_false, run_load, h2]
end
end Go.AM
