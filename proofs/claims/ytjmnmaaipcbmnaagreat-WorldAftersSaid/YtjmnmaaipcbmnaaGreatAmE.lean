/- Constants, parts of values, rows of zeros: what the abstract machine's lists say of the model's. -/
import Derived.Test.YtjmnmaaipcbmnaaGreatAmD
set_option linter.unusedVariables false
set_option linter.unusedSimpArgs false
namespace Go.AM

/-! ### constants -/
theorem toAV1_VR {β : Bt} {v : Value} {a : AV} (h : toAV1 v = some a) : VR β a v := by
  unfold toAV1 at h
  split at h <;> first | (cases h; done) | skip
  · cases h; exact .b _
  · cases h; exact .i _ _
  · rename_i s; cases h; exact .s s.data.toList
  · cases h; exact .pn
  · cases h; exact .sln
  · cases h; exact .mn
  · cases h; exact .nilf
  · cases h; exact .nili
theorem mapO_len {α γ : Type} {f : α → Option γ} : ∀ {l : List α} {m : List γ}, mapO f l = some m → l.length = m.length
  | [], m, h => by simp [mapO] at h; subst h; rfl
  | x :: l, m, h => by
    unfold mapO at h
    split at h
    · cases hr : mapO f l with
      | none => rw [hr] at h; cases h
      | some r => rw [hr] at h; cases h; simp [mapO_len hr]
    · cases h
theorem mapO_get {α γ : Type} {f : α → Option γ} : ∀ {l : List α} {m : List γ}, mapO f l = some m → ∀ (i : Nat) (x : α), l[i]? = some x → ∃ y, f x = some y ∧ m[i]? = some y
  | [], m, h, i, x, hx => by simp at hx
  | z :: l, m, h, i, x, hx => by
    unfold mapO at h
    split at h
    · rename_i y hy
      cases hr : mapO f l with
      | none => rw [hr] at h; cases h
      | some r =>
        rw [hr] at h; cases h
        cases i with
        | zero => simp at hx; subst hx; exact ⟨y, hy, rfl⟩
        | succ i => simpa using mapO_get hr i x (by simpa using hx)
    · cases h
theorem mapO_VRs {β : Bt} {l : List Value} {m : List AV} (h : mapO toAV1 l = some m) : VRs β m l := by
  refine VRs.of_get (mapO_len h).symm fun i a v ha hv => ?_
  obtain ⟨y, hy, hm⟩ := mapO_get h i v hv
  rw [ha] at hm
  cases hm
  exact toAV1_VR hy
theorem toAV_VR {β : Bt} {v : Value} {a : AV} (h : toAV v = some a) : VR β a v := by
  unfold toAV at h
  split at h
  · rename_i cs
    cases hr : mapO toAV1 cs.toList with
    | none => rw [hr] at h; cases h
    | some l => rw [hr] at h; cases h; exact .agg (mapO_VRs hr)
  · exact toAV1_VR h
theorem zero_run {P : Program} {w : World} {t : TypeId} {i : TypeInfo} {z : Value} (hi : P.info? t = some i) (hz : i.zero = some z) : (zeroValue t).run P w = .ok z w := by
  simp [zeroValue, run_typeInfo w hi, hz]
theorem zcells_spec {P : Program} {t : TypeId} {l : List AV} (h : zcells P t = some l) : ∃ i z, P.info? t = some i ∧ i.zero = some z ∧ (∀ β, VRs β l z.cells.toList) ∧ l.length = i.size ∧ l.all AV.one = true := by
  unfold zcells at h
  split at h
  · rename_i i hi
    split at h
    · rename_i z hz
      split at h
      · rename_i m hm
        rw [beq_nat] at h
        by_cases hl : m.length = i.size
        · simp [hl] at h
          subst h
          refine ⟨i, z, hi, hz, fun β => mapO_VRs hm, hl, ?_⟩
          rw [List.all_eq_true]
          intro a ha
          obtain ⟨k, hk⟩ := List.mem_iff_getElem?.1 ha
          have hlen := mapO_len hm
          have hkl : k < z.cells.toList.length := by
            have := (List.getElem?_eq_some_iff.1 hk).1
            omega
          obtain ⟨y, hy, hm2⟩ := mapO_get hm k _ (List.getElem?_eq_getElem hkl)
          rw [hk] at hm2
          cases hm2
          unfold toAV1 at hy
          split at hy <;> first | (cases hy; done) | (cases hy; rfl)
        · simp [hl] at h
      · cases h
    · cases h
  · cases h

/-! ### filling -/
theorem fold_set (off : Nat) : ∀ (vs : List Value) (k : Nat) (cells : Array Value), off + k + vs.length ≤ cells.size →
    ((vs.zipIdx k).foldl (fun cs p => cs.setIfInBounds (off + p.2) p.1) cells).size = cells.size ∧
    ∀ i, ((vs.zipIdx k).foldl (fun cs p => cs.setIfInBounds (off + p.2) p.1) cells)[i]? = if off + k ≤ i ∧ i < off + k + vs.length then vs[i - (off + k)]? else cells[i]?
  | [], k, cells, h => by
    refine ⟨rfl, fun i => ?_⟩
    rw [if_neg (by simp only [List.length_nil]; omega)]
    rfl
  | v :: vs, k, cells, h => by
    simp only [List.length_cons] at h
    obtain ⟨h1, h2⟩ := fold_set off vs (k + 1) (cells.setIfInBounds (off + k) v) (by rw [Array.size_setIfInBounds]; omega)
    simp only [List.zipIdx_cons, List.foldl_cons]
    refine ⟨by rw [h1]; simp, fun i => ?_⟩
    rw [h2 i]
    by_cases hi : i = off + k
    · subst hi
      have hlt : off + k < cells.size := by omega
      rw [if_neg (by omega), if_pos (by simp)]
      simp [hlt]
    · by_cases hc : off + (k + 1) ≤ i ∧ i < off + (k + 1) + vs.length
      · rw [if_pos hc, if_pos (by simp; omega)]
        rw [show i - (off + k) = (i - (off + (k + 1))) + 1 by omega]
        simp
      · rw [if_neg hc, if_neg (by simp; omega), Array.getElem?_setIfInBounds_ne (by omega)]
theorem fold_set' (off : Nat) (vs cells : Array Value) (h : off + vs.size ≤ cells.size) :
    (vs.zipIdx.foldl (fun cs (c, j) => cs.setIfInBounds (off + j) c) cells).size = cells.size ∧
    ∀ i, (vs.zipIdx.foldl (fun cs (c, j) => cs.setIfInBounds (off + j) c) cells)[i]? = if off ≤ i ∧ i < off + vs.size then vs[i - off]? else cells[i]? := by
  rw [← Array.foldl_toList, Array.toList_zipIdx]
  have := fold_set off vs.toList 0 cells (by simpa using h)
  simpa using this
theorem fill_run {β : Bt} (place : Nat → Option (Nat × Nat)) : ∀ {ps : List (Nat × Nat)} {vs : List AV} {parts : List (Nat × Value)} {c : List AV} {c' : Array Value} {r : List AV},
    VRs β c c'.toList → VRs β vs (parts.map (·.2)) → (∀ (i : Nat) (p : Nat × Value), parts[i]? = some p → place p.1 = ps[i]?) → fillP c ps vs = some r →
    ∃ r', Instr.fill place c' parts = some r' ∧ VRs β r r'.toList
  | [], [], [], c, c', r, hc, _, _, h => by simp [fillP] at h; subst h; exact ⟨c', rfl, hc⟩
  | [], [], _ :: _, c, c', r, _, hv, _, _ => by cases hv
  | [], _ :: _, _, c, c', r, _, _, _, h => by simp [fillP] at h
  | _ :: _, [], _, c, c', r, _, _, _, h => by simp [fillP] at h
  | _ :: _, _ :: _, [], c, c', r, _, hv, _, _ => by cases hv
  | (off, sz) :: ps, v :: vs, (i, x) :: parts, c, c', r, hc, hv, hp, h => by
    unfold fillP at h
    cases hl : v.cellsOf with
    | none => rw [hl] at h; cases h
    | some l =>
      rw [hl] at h
      simp only at h
      cases hb : (Nat.beq l.length sz && Nat.ble (off + sz) c.length) with
      | false => rw [hb] at h; cases h
      | true =>
        rw [hb] at h
        simp only [Bool.and_eq_true, beq_nat, ble_nat, decide_eq_true_eq] at hb
        cases hv with
        | cons hvx hvr =>
          obtain ⟨hcl, _⟩ := hvx.cells hl
          have hlen := hcl.length
          have hclen := hc.length
          have hsz : x.cells.size = sz := by rw [← hb.1, hlen]; simp
          have hle : off + x.cells.size ≤ c'.size := by rw [hsz]; have := hb.2; simp at hclen; omega
          obtain ⟨f1, f2⟩ := fold_set' off x.cells c' hle
          have hp0 : place i = some (off, sz) := by have := hp 0 (i, x) rfl; simpa using this
          simp only [Instr.fill, hp0]
          rw [if_neg (by simp [hsz]; omega)]
          refine fill_run place ?_ hvr (fun k p hk => by simpa using hp (k + 1) p (by simpa using hk)) h
          refine VRs.of_get ?_ fun k a b ha hb2 => ?_
          · have : (splice c off l).length = c.length := by unfold splice; simp; omega
            rw [this, hclen, Array.length_toList, Array.length_toList]; exact f1.symm
          · rw [splice_get c l off (by omega)] at ha
            rw [Array.getElem?_toList, f2 k] at hb2
            by_cases h1 : k < off
            · rw [if_pos h1] at ha
              rw [if_neg (by omega)] at hb2
              obtain ⟨u, hu, hvr⟩ := hc.get ha
              rw [Array.getElem?_toList, hb2] at hu
              cases hu
              exact hvr
            · rw [if_neg h1] at ha
              by_cases h2 : k < off + l.length
              · rw [if_pos h2] at ha
                rw [if_pos (by omega)] at hb2
                obtain ⟨u, hu, hvr⟩ := hcl.get ha
                rw [Array.getElem?_toList, hb2] at hu
                cases hu
                exact hvr
              · rw [if_neg h2] at ha
                rw [if_neg (by omega)] at hb2
                obtain ⟨u, hu, hvr⟩ := hc.get ha
                rw [Array.getElem?_toList, hb2] at hu
                cases hu
                exact hvr

/-! ### rows of zeros -/
theorem reps_length (z : List AV) : ∀ n, (reps z n).length = n * z.length
  | 0 => by simp [reps]
  | n + 1 => by simp [reps, reps_length z n, Nat.succ_mul]; omega
theorem reps_get (z : List AV) (hz : 0 < z.length) : ∀ (n i : Nat), i < n * z.length → (reps z n)[i]? = z[i % z.length]?
  | 0, i, h => by simp at h
  | n + 1, i, h => by
    simp only [reps]
    rw [List.getElem?_append]
    split
    · rename_i hi
      rw [Nat.mod_eq_of_lt hi]
    · rename_i hi
      rw [Nat.succ_mul] at h
      rw [reps_get z hz n (i - z.length) (by omega)]
      congr 1
      rw [← Nat.mod_eq_sub_mod (by omega)]
theorem zeros_VRs {β : Bt} {z : List AV} {z' : Array Value} (h : VRs β z z'.toList) (n m : Nat) (hm : m = n * z'.size) : VRs β (reps z n) ((Array.range m).map fun i => z'[i % z'.size]!).toList := by
  have hl := h.length
  simp at hl
  refine VRs.of_get (by simp [reps_length, hl, hm]) fun i a b ha hb => ?_
  have hi : i < n * z.length := by
    have := (List.getElem?_eq_some_iff.1 ha).1
    rwa [reps_length] at this
  have hz : 0 < z.length := by
    rcases Nat.eq_zero_or_pos z.length with h0 | h0
    · rw [h0] at hi; simp at hi
    · exact h0
  rw [reps_get z hz n i hi] at ha
  obtain ⟨u, hu, hv⟩ := h.get ha
  have hmod : i % z'.size < z'.size := Nat.mod_lt _ (by omega)
  rw [Array.getElem?_toList] at hu hb
  simp only [Array.getElem?_map, Option.map_eq_some_iff] at hb
  obtain ⟨j, hj, hb⟩ := hb
  have hji : j = i := by
    have := Array.getElem?_eq_some_iff.1 hj
    obtain ⟨h1, h2⟩ := this
    simp at h2
    exact h2.symm
  subst hji
  rw [hl] at hu
  have : z'[j % z'.size]! = u := by
    rw [getElem!_pos z' _ hmod]
    rw [Array.getElem?_eq_getElem hmod] at hu
    cases hu
    rfl
  rw [← hb, this]
  exact hv
theorem reps_one {z : List AV} (h : z.all AV.one = true) : ∀ n, (reps z n).all AV.one = true
  | 0 => rfl
  | n + 1 => by simp only [reps, List.all_append, h, reps_one h n, Bool.and_self]
end Go.AM
