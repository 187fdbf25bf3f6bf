/- Maps whose keys are whole numbers; building; and all operations that leave memory as it is. -/
import Derived.Test.YtjmnmaaipcbmnaaGreatAmH
set_option linter.unusedVariables false
set_option linter.unusedSimpArgs false
namespace Go.AM

theorem findNow_find {β : Bt} {k : IntKind} {n : Int} (kk : IntKind) : ∀ {es : List (AV × AV)} {ES : List MapEntry} {r : Option AV} (s : Nat), MapR β es ES → mfind k n es = some r →
    (r = none ∧ Instr.findNow (.int kk) (.int k n) ES s = some none) ∨ (∃ v i v', r = some v ∧ Instr.findNow (.int kk) (.int k n) ES s = some (some (i, v')) ∧ VR β v v')
  | _, _, r, s, .nil, h => by
    simp only [mfind, Option.some.injEq] at h
    exact .inl ⟨h.symm, rfl⟩
  | _, _, r, s, .cons (k := j) (n := a) (v := v) (v' := v') hv ht, h => by
    simp only [mfind] at h
    cases hk : kEq k j with
    | false => rw [hk] at h; cases h
    | true =>
      have := kEq_iff.1 hk
      subst this
      simp only [hk, cond_true, iEq_eq] at h
      simp only [Instr.findNow, Instr.sameNow, if_true]
      by_cases hna : n = a
      · subst hna
        simp at h
        subst h
        exact .inr ⟨v, s, v', rfl, by simp, hv⟩
      · have hb : (n == a) = false := by simpa using hna
        rw [hb] at h ⊢
        exact findNow_find kk (s + 1) ht h
theorem findNow_set {β : Bt} {k : IntKind} {n : Int} {v : AV} {v' : Value} (kk : IntKind) (bn : Nat) (hv : VR β v v') : ∀ {es es' : List (AV × AV)} {ES : List MapEntry} (s : Nat), MapR β es ES → msetL k n v es = some es' →
    (Instr.findNow (.int kk) (.int k n) ES s = some none ∧ MapR β es' (ES ++ [⟨.int k n, v', bn⟩])) ∨
    (∃ i e, Instr.findNow (.int kk) (.int k n) ES s = some (some (s + i, e.val)) ∧ ES[i]? = some e ∧ e.key = .int k n ∧ MapR β es' (ES.set i { e with key := .int k n, val := v' }))
  | _, es', _, s, .nil, h => by
    simp only [msetL, Option.some.injEq] at h
    subst h
    exact .inl ⟨rfl, .cons hv .nil⟩
  | _, es', _, s, .cons (k := j) (n := a) (v := u) (v' := u') (bn := b) (es := es) (es' := ES) hu ht, h => by
    simp only [msetL] at h
    cases hk : kEq k j with
    | false => rw [hk] at h; cases h
    | true =>
      have := kEq_iff.1 hk
      subst this
      simp only [hk, cond_true, iEq_eq] at h
      simp only [Instr.findNow, Instr.sameNow, if_true]
      by_cases hna : n = a
      · subst hna
        simp at h
        subst h
        exact .inr ⟨0, ⟨.int k n, u', b⟩, by simp, rfl, rfl, .cons hv ht⟩
      · have hb : (n == a) = false := by simpa using hna
        rw [hb] at h ⊢
        simp only [cond_false] at h
        cases hr : msetL k n v es with
        | none => rw [hr] at h; cases h
        | some r =>
          rw [hr] at h
          cases h
          rcases findNow_set kk bn hv (s + 1) ht hr with ⟨h1, h2⟩ | ⟨i, e, h1, h2, h3, h4⟩
          · exact .inl ⟨h1, .cons hu h2⟩
          · exact .inr ⟨i + 1, e, by rw [h1, show s + 1 + i = s + (i + 1) by omega], by simpa using h2, h3, .cons hu h4⟩
theorem findNow_del {β : Bt} {k : IntKind} {n : Int} (kk : IntKind) : ∀ {es es' : List (AV × AV)} {ES : List MapEntry} (s : Nat), MapR β es ES → mdelL k n es = some es' →
    (Instr.findNow (.int kk) (.int k n) ES s = some none ∧ MapR β es' ES) ∨
    (∃ i u, Instr.findNow (.int kk) (.int k n) ES s = some (some (s + i, u)) ∧ i < ES.length ∧ MapR β es' (ES.eraseIdx i))
  | _, es', _, s, .nil, h => by
    simp only [mdelL, Option.some.injEq] at h
    subst h
    exact .inl ⟨rfl, .nil⟩
  | _, es', _, s, .cons (k := j) (n := a) (v := u) (v' := u') (bn := b) (es := es) (es' := ES) hu ht, h => by
    simp only [mdelL] at h
    cases hk : kEq k j with
    | false => rw [hk] at h; cases h
    | true =>
      have := kEq_iff.1 hk
      subst this
      simp only [hk, cond_true, iEq_eq] at h
      simp only [Instr.findNow, Instr.sameNow, if_true]
      by_cases hna : n = a
      · subst hna
        simp at h
        subst h
        exact .inr ⟨0, u', by simp, by simp, by simpa using ht⟩
      · have hb : (n == a) = false := by simpa using hna
        rw [hb] at h ⊢
        simp only [cond_false] at h
        cases hr : mdelL k n es with
        | none => rw [hr] at h; cases h
        | some r =>
          rw [hr] at h
          cases h
          rcases findNow_del kk (s + 1) ht hr with ⟨h1, h2⟩ | ⟨i, e, h1, h2, h4⟩
          · exact .inl ⟨h1, .cons hu h2⟩
          · exact .inr ⟨i + 1, e, by rw [h1, show s + 1 + i = s + (i + 1) by omega], by simp; omega, .cons hu h4⟩

theorem isIntT_spec {P : Program} {t : TypeId} (h : isIntT P t = true) : ∃ k, P.underlying t = some (.int k) := by
  unfold isIntT at h
  split at h
  · exact ⟨_, by assumption⟩
  · cases h
section
variable {P : Program} {β : Bt} {B0 : Nat} {h : PM AB} {w : World} (ρ : Operand → Value)
theorem checkKey_int {t : TypeId} {kk : IntKind} (hu : P.underlying t = some (.int kk)) (b : Bool) (v : Value) : (Instr.checkKey b 10000 t v).run P w = .ok () w := by
  show (Instr.checkKey b (9999 + 1) t v).run P w = _
  rw [Instr.checkKey]
  simp only [Sem.run_bind, run_underlying hu, Result.andThen_ok]
  rfl
theorem findKey_int {t : TypeId} {kk : IntKind} (hu : P.underlying t = some (.int kk)) {k : Value} {ES : List MapEntry} {r : Option (Nat × Value)} (hf : Instr.findNow (.int kk) k ES 0 = some r) : (Instr.findKey t k ES).run P w = .ok r w := by
  simp only [Instr.findKey, Sem.run_bind, run_underlying hu, Result.andThen_ok, hf]
  rfl
theorem zval_spec {t : TypeId} {z : AV} (hz : zval P t = some z) : ∃ z', (zeroValue t).run P w = .ok z' w ∧ ∀ β, VR β z z' := by
  unfold zval at hz
  split at hz
  · rename_i i hi
    split at hz
    · rename_i zz hzz
      exact ⟨zz, zero_run hi hzz, fun β => toAV_VR hz⟩
    · cases hz
  · cases hz
theorem getObj_map {r : Nat} {ES : Array MapEntry} {clk : Nat} (hh : w.heap[r]? = some (.map ES clk)) : (getObj r).run P w = .ok (.map ES clk) w := by simp [getObj, Sem.run, hh]
theorem map_at (hR : Rel β B0 h w) {r : Nat} {es : List (AV × AV)} (hg : h.get r = some (.map es)) {b z : Nat} {o : Nat} (hb : β r = some (b, o, z)) :
    ∃ ES clk, o = 0 ∧ w.heap[b]? = some (.map ES clk) ∧ MapR β es ES.toList := by
  obtain ⟨_, h0, ES, clk, h1, h2⟩ := hR.blk r _ b o z hg hb
  exact ⟨ES, clk, h0, h1, h2⟩
theorem g_lkup (hR : Rel β B0 h w) {t k e : TypeId} {z : AV} {ok : Bool} (ht : P.underlying t = some (.map k e)) (hk : isIntT P k = true) (hz : zval P e = some z) {vs : List AV} {v : AV} {a b : Value} (hv : VRs β vs [a, b])
    (hs : rLkup z ok h vs = some v) : ∃ v', (Instr.lookup t a b ok).run P w = .ok v' w ∧ VR β v v' := by
  obtain ⟨p, q, rfl, hp, hq⟩ := vrs2 hv
  obtain ⟨kk, hkk⟩ := isIntT_spec hk
  obtain ⟨z', hz1, hz2⟩ := zval_spec (P := P) (w := w) hz
  have zero_case : ∀ {es : Array MapEntry} {b : Value}, (Instr.findKey k b es.toList).run P w = .ok none w → VR β (bif ok then .tup [z, .b false] else z) (if ok = true then Value.tuple #[z', .bool false] else z') := by
    intro es b _
    cases ok
    · simpa using hz2 β
    · simpa using VR.tup (.cons (hz2 β) (.cons (.b _) .nil))
  unfold rLkup at hs
  split at hs
  · rename_i kd n he
    cases he
    cases hs
    cases hp
    cases hq
    have hf := findKey_int (P := P) (w := w) hkk (k := .int kd n) (ES := []) (r := none) rfl
    refine ⟨if ok = true then .tuple #[z', .bool false] else z', ?_, zero_case (es := #[]) (b := .int kd n) (by simpa using hf)⟩
    simp only [Instr.lookup, Sem.run_bind, run_underlying ht, Result.andThen_ok, Sem.run_pure, checkKey_int hkk, hf, hz1, Array.toList_empty]
  · rename_i r kd n he
    cases he
    cases hq
    split at hs
    · rename_i es hg
      cases hp with
      | m hb =>
        obtain ⟨ES, clk, _, hh, hm⟩ := map_at hR hg hb
        have hgo : (getObj _).run P w = .ok (.map ES clk) w := getObj_map hh
        split at hs
        · rename_i u hu
          rcases findNow_find kk 0 hm hu with ⟨h1, _⟩ | ⟨v1, i, v', h1, h2, h3⟩
          · cases h1
          · cases h1
            cases hs
            have hf := findKey_int (P := P) (w := w) hkk h2
            refine ⟨if ok = true then .tuple #[v', .bool true] else v', ?_, ?_⟩
            · simp only [Instr.lookup, Sem.run_bind, run_underlying ht, Result.andThen_ok, hgo, Sem.run_pure, checkKey_int hkk, hf]
            · cases ok
              · simpa using h3
              · simpa using VR.tup (.cons h3 (.cons (.b _) .nil))
        · rename_i hu
          rcases findNow_find kk 0 hm hu with ⟨_, h2⟩ | ⟨v1, i, v', h1, h2, h3⟩
          · cases hs
            have hf := findKey_int (P := P) (w := w) hkk h2
            refine ⟨if ok = true then .tuple #[z', .bool false] else z', ?_, zero_case hf⟩
            simp only [Instr.lookup, Sem.run_bind, run_underlying ht, Result.andThen_ok, hgo, Sem.run_pure, checkKey_int hkk, hf, hz1]
          · cases h1
        · cases hs
    · cases hs
  · cases hs
theorem MapR.length {β : Bt} : ∀ {es : List (AV × AV)} {ES : List MapEntry}, MapR β es ES → es.length = ES.length
  | _, _, .nil => rfl
  | _, _, .cons _ t => by simp [MapR.length t]
theorem g_mlen (hR : Rel β B0 h w) {t k e ty : TypeId} (ht : P.underlying t = some (.map k e)) {vs : List AV} {v : AV} {a : Value} (hv : VRs β vs [a]) (hs : rMlen h vs = some v) : ∃ v', (Builtin.len_ #[t] ty #[a]).run P w = .ok v' w ∧ VR β v v' := by
  obtain ⟨p, rfl, hp⟩ := vrs1 hv
  unfold rMlen at hs
  split at hs
  · rename_i he
    cases he
    cases hs
    cases hp
    exact ⟨_, by simp [Builtin.len_, run_underlying ht, goInt], .i _ _⟩
  · rename_i r he
    cases he
    split at hs
    · rename_i es hg
      cases hs
      cases hp with
      | m hb =>
        obtain ⟨ES, clk, _, hh, hm⟩ := map_at hR hg hb
        have hgo : (getObj _).run P w = .ok (.map ES clk) w := getObj_map hh
        refine ⟨.int .i64 (ES.size : Int), ?_, ?_⟩
        · simp [Builtin.len_, run_underlying ht, goInt, hgo]
        · rw [hm.length]
          have : Int.ofNat ES.toList.length = (ES.size : Int) := by simp
          rw [this]
          exact .i _ _
    · cases hs
  · cases hs

/-! ### building -/
theorem places_run : ∀ {fs : List Field} {pl : List (Nat × Nat)}, fieldPlaces P fs = some pl → (fs.mapM fun f => (do pure (f.offset, ← sizeOf f.type) : Sem (Nat × Nat))).run P w = .ok pl w
  | [], pl, hp => by simp [fieldPlaces, mapO] at hp; subst hp; simp
  | f :: fs, pl, hp => by
    unfold fieldPlaces mapO at hp
    split at hp
    · rename_i y hy
      cases hr : mapO (fun f => (tsize P f.type).map fun s => (f.offset, s)) fs with
      | none => rw [hr] at hp; cases hp
      | some r =>
        rw [hr] at hp
        cases hp
        cases hz : tsize P f.type with
        | none => rw [hz] at hy; cases hy
        | some s =>
          rw [hz] at hy
          cases hy
          have ih := places_run (fs := fs) (pl := r) hr
          simp only [List.mapM_cons, Sem.run_bind, sizeOf_run hz, Result.andThen_ok, Sem.run_pure, ih]
    · cases hp
theorem g_build {t : TypeId} {z : List AV} {ps : List (Nat × Nat)} {parts : Array (Nat × Operand)} (hz : zcells P t = some z) (hp : placesOf P t parts.toList = some ps) {vs : List AV} {v : AV}
    (hv : VRs β vs (parts.toList.map fun p => ρ p.2)) (hs : rBuild z ps h vs = some v) : ∃ v', (Instr.build t (parts.map fun (i, x) => (i, ρ x))).run P w = .ok v' w ∧ VR β v v' := by
  obtain ⟨ti, zv, hi, hzv, hzr, hlen, h1⟩ := zcells_spec hz
  have hz0 := zero_run (P := P) (w := w) hi hzv
  simp only [rBuild] at hs
  cases hf : fillP z ps vs with
  | none => rw [hf] at hs; cases hs
  | some c =>
    rw [hf] at hs
    cases hs
    have hpl : (parts.map fun (i, x) => (i, ρ x)).toList = parts.toList.map fun p => (p.1, ρ p.2) := by simp
    have hv' : VRs β vs ((parts.toList.map fun p => (p.1, ρ p.2)).map (·.2)) := by rw [List.map_map]; exact hv
    unfold placesOf at hp
    split at hp
    · rename_i fs hu
      split at hp
      · rename_i pl hfp
        obtain ⟨r', hr1, hr2⟩ := fill_run (fun i : Nat => pl[i]?) (hzr β) hv' (fun i p hip => by
          rw [List.getElem?_map] at hip
          cases hq : parts.toList[i]? with
          | none => rw [hq] at hip; cases hip
          | some q =>
            rw [hq] at hip
            cases hip
            obtain ⟨y, hy1, hy2⟩ := mapO_get hp i q hq
            rw [hy2]
            exact hy1) hf
        refine ⟨.agg r', ?_, .agg hr2⟩
        have hpr := places_run (P := P) (w := w) (fs := fs.toList) hfp
        simp only [Instr.build, Sem.run_bind, hz0, Result.andThen_ok, run_underlying hu, Array.mapM_eq_mapM_toList, Sem.run_map, hpr, hpl]
        have : (fun i : Nat => pl.toArray[i]?) = fun i : Nat => pl[i]? := by funext i; simp
        simp only [this, hr1]
        rfl
      · cases hp
    · rename_i n e hu
      split at hp
      · rename_i s hsz
        cases hp
        obtain ⟨r', hr1, hr2⟩ := fill_run (fun i => some (i * s, s)) (hzr β) hv' (fun i p hip => by
          rw [List.getElem?_map] at hip ⊢
          cases hq : parts.toList[i]? with
          | none => rw [hq] at hip; cases hip
          | some q => rw [hq] at hip; cases hip; rfl) hf
        refine ⟨.agg r', ?_, .agg hr2⟩
        simp only [Instr.build, Sem.run_bind, hz0, Result.andThen_ok, run_underlying hu, sizeOf_run hsz, hpl, hr1]
        rfl
      · cases hp
    · cases hp

theorem g_mkif {t : TypeId} {d : TypeDesc} (hu : P.underlying t = some d) (hn : ∀ ms, d ≠ .interface ms) {vs : List AV} {v : AV} {a : Value} (hv : VRs β vs [a]) (hs : rMkif t h vs = some v) :
    ∃ v', (Instr.makeInterface t a).run P w = .ok v' w ∧ VR β v v' := by
  obtain ⟨p, rfl, hp⟩ := vrs1 hv
  simp only [rMkif, Option.some.injEq] at hs
  subst hs
  refine ⟨.iface t a, ?_, .ifc t hp⟩
  simp only [Instr.makeInterface, Sem.run_bind, run_underlying hu, Result.andThen_ok]
  cases d <;> first | rfl | exact absurd rfl (hn _)
theorem g_mkfn {f : FuncId} {fst cap : Array Operand} {vs : List AV} {v : AV} (hv : VRs β vs ((fst.toList ++ cap.toList).map ρ)) (hs : rMkfn f fst.size h vs = some v) :
    ∃ v', (Instr.makeFunc (.func f) (fst.map ρ) (cap.map ρ)).run P w = .ok v' w ∧ VR β v v' := by
  simp only [rMkfn, Option.some.injEq] at hs
  subst hs
  refine ⟨_, rfl, .fn f ?_ ?_⟩
  · have := VRs.take fst.size hv
    simpa [List.map_append, List.take_append] using this
  · have := VRs.drop fst.size hv
    simpa [List.map_append, List.drop_append] using this
end
end Go.AM
