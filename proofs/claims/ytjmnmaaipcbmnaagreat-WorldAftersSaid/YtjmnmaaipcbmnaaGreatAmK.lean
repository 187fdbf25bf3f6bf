/- Operations that make a block; operations that change memory. -/
import Derived.Test.YtjmnmaaipcbmnaaGreatAmJ
import Derived.Laws.MakeOwn
set_option linter.unusedVariables false
set_option linter.unusedSimpArgs false
namespace Go.AM
open Go.RowKit (Below)

theorem CellsR.of_VRs {β : Bt} {c : List AV} {cs : Array Value} (h : VRs β c cs.toList) : CellsR β c 0 cs := fun i v hv => by
  obtain ⟨u, h1, h2⟩ := h.get hv
  exact ⟨u, by rw [Nat.zero_add, ← Array.getElem?_toList]; exact h1, h2⟩
theorem BR_new {β : Bt} {B0 : Nat} {w : World} {c : List AV} {cs : Array Value} {t : TypeId} {heap : Array Obj} (hb : B0 ≤ w.heap.size) (hh : heap[w.heap.size]? = some (.cells cs t (0, 0))) (h : VRs β c cs.toList) :
    BR β B0 heap w.heap.size 0 cs.size (.cells c) := ⟨hb, cs, t, hh, by omega, CellsR.of_VRs h⟩

section
variable {P : Program} {β : Bt} {B0 : Nat} {w : World} (ρ : Operand → Value)

theorem run_value {s : Sem Value} {v : Value} {w w' : World} (h : s.run P w = .ok v w') : ((do pure (.value (← s))) : Sem Next).run P w = .ok (.value v) w' := by
  simp only [Sem.run_bind, h, Result.andThen_ok, Sem.run_pure]
theorem run_unit {s : Sem Unit} {w w' : World} (h : s.run P w = .ok () w') : ((do s; pure .skip) : Sem Next).run P w = .ok .skip w' := by
  simp only [Sem.run_bind, h, Result.andThen_ok, Sem.run_pure]
/-- An operation that makes a block. -/
theorem A_sound {o : Oper} {op : AOp} {xs : List Operand} (hc : compOp P o = some (op, xs)) {vs : List AV} (hv : VRs β vs (xs.map ρ)) {nx : Nat} {blk : AB} {v : AV} (hs : semA op nx vs = some (blk, v)) (hB : B0 ≤ w.heap.size) :
    ∃ x v' z, (execOp ρ o).run P w = .ok (.value v') (w.alloc x) ∧ blk.own = true ∧
      ∀ γ, Ext β γ → γ nx = some (w.heap.size, 0, z) → VR γ v v' ∧ BR γ B0 (w.alloc x).heap w.heap.size 0 z blk := by
  have hnew : ∀ x : Obj, (w.alloc x).heap[w.heap.size]? = some x := fun x => heap_alloc_new w x
  have none_ : ∀ {p}, semA op = aNone → semA op nx vs = some p → False := fun h0 h1 => by rw [h0] at h1; cases h1
  unfold compOp at hc
  split at hc
  · cases hc; exact (none_ rfl hs).elim
  · cases hc; exact (none_ rfl hs).elim
  · cases hc; exact (none_ rfl hs).elim
  · -- alloc
    rename_i e ho
    cases hz : zcells P e with
    | none => rw [hz] at hc; cases hc
    | some z =>
      rw [hz] at hc; cases hc
      cases hv
      cases hs
      obtain ⟨ti, zv, hi, hzv, hzr, hlen, h1⟩ := zcells_spec hz
      refine ⟨.cells zv.cells e, .pointer (some ⟨w.heap.size, 0 + 0, none⟩), zv.cells.size, ?_, rfl, fun γ hx hn => ⟨VR.p hn, BR_new hB (hnew _) (hzr γ)⟩⟩
      simp [execOp, ho, Instr.alloc, zero_run hi hzv, newVar, newRow]
  · -- box
    rename_i e x ho
    cases hc
    obtain ⟨p, rfl, hp⟩ := vrs1 hv
    simp only [semA, aBox] at hs
    cases hl : p.cellsOf with
    | none => rw [hl] at hs; cases hs
    | some l =>
      rw [hl] at hs
      cases hs
      refine ⟨.cells (ρ x).cells e, .pointer (some ⟨w.heap.size, 0 + 0, none⟩), (ρ x).cells.size, ?_, rfl, fun γ hx hn => ⟨VR.p hn, BR_new hB (hnew _) ((hp.mono hx).cells hl).1⟩⟩
      simp [execOp, ho, Instr.box, newVar, newRow]
  · split at hc <;> cases hc; exact (none_ rfl hs).elim
  · -- buildSlice
    rename_i t len parts ho
    split at hc
    · rename_i e hu
      split at hc
      · rename_i s z hsz hz
        cases hq : Nat.ble (len * s) 16777216 <;> rw [hq] at hc <;> cases hc
        rw [ble_nat, decide_eq_true_eq] at hq
        obtain ⟨ti, zv, hi, hzv, hzr, hlen, h1⟩ := zcells_spec hz
        have hs' : s = ti.size := by simp [tsize, hi] at hsz; exact hsz.symm
        simp only [semA, aBslice] at hs
        cases hf : fillP (reps z len) ((parts.toList.map (·.1)).map fun i => (i * s, s)) vs with
        | none => rw [hf] at hs; cases hs
        | some c =>
          rw [hf] at hs
          simp only at hs
          cases h2 : c.all AV.one <;> rw [h2] at hs <;> cases hs
          have hpl : (parts.map fun (i, x) => (i, ρ x)).toList = parts.toList.map fun p => (p.1, ρ p.2) := by simp
          have hzs : zv.cells.size = s := by have := (hzr β).length; simp at this; omega
          -- the model's zeros
          have key : ∃ zc : Array Value, ((len * s = 0 ∧ zc = #[]) ∨ (len * s ≠ 0 ∧ zc = zv.cells)) ∧ ∀ γ, VRs γ (reps z len) ((Array.range (len * s)).map (zc[· % zc.size]!)).toList := by
            by_cases h0 : len * s = 0
            · refine ⟨#[], .inl ⟨h0, rfl⟩, fun γ => ?_⟩
              have hr0 : reps z len = [] := List.eq_nil_of_length_eq_zero (by rw [reps_length, hlen, ← hs', h0])
              rw [hr0, h0]
              simp
              exact .nil
            · exact ⟨zv.cells, .inr ⟨h0, rfl⟩, fun γ => zeros_VRs (hzr γ) len _ (by rw [hzs])⟩
          obtain ⟨zc, hzc1, hzc2⟩ := key
          have hv' : VRs β vs ((parts.toList.map fun p => (p.1, ρ p.2)).map (·.2)) := by rw [List.map_map] at hv ⊢; exact hv
          obtain ⟨r', hr1, hr2⟩ := fill_run (fun i => some (i * s, s)) (hzc2 β) hv' (fun i p hip => by
            simp only [List.getElem?_map] at hip ⊢
            cases hq : parts.toList[i]? with
            | none => rw [hq] at hip; cases hip
            | some q => rw [hq] at hip; cases hip; rfl) hf
          refine ⟨.cells r' e, .slice (some ⟨w.heap.size, 0, none⟩) len len, r'.size, ?_, rfl, fun γ hx hn => ⟨?_, BR_new hB (hnew _) (hr2.mono hx)⟩⟩
          · simp only [execOp, ho, Instr.buildSlice, Sem.run_bind, run_underlying hu, Result.andThen_ok, sizeOf_run hsz]
            rw [if_neg (by omega)]
            rcases hzc1 with ⟨h0, rfl⟩ | ⟨h0, rfl⟩
            · simp only [if_pos h0, pure_bind, hpl, hr1, newRow, Sem.run_bind, run_newObj, Result.andThen_ok, Sem.run_pure]
              rfl
            · simp only [if_neg h0, Sem.run_bind, zero_run hi hzv, Result.andThen_ok, pure_bind, hpl, hr1, newRow, run_newObj, Sem.run_pure]
              rfl
          · exact VR.sl hn (Nat.le_refl _) (Nat.le_refl _) (fun _ => rfl) (fun h => absurd rfl h) (.inr rfl)
      · cases hc
    · cases hc
  · rename_i t a ho
    cases hq : tshape P t <;> rw [hq] at hc <;> cases hc; exact (none_ rfl hs).elim
  · rename_i t a x ho
    cases hq : tsize P t <;> rw [hq] at hc <;> cases hc; exact (none_ rfl hs).elim
  · cases hc; exact (none_ rfl hs).elim
  · rename_i bo t x y yt ho
    split at hc
    · cases hc; exact (none_ rfl hs).elim
    · cases hc; exact (none_ rfl hs).elim
    · cases hq : isEq bo <;> rw [hq] at hc
      · cases hc
      · cases hce : compEq P (isNeq bo) t with
        | none => rw [hce] at hc; cases hc
        | some a =>
          rw [hce] at hc
          cases hc
          obtain ⟨k, rfl⟩ := compEq_eq hce
          exact (none_ rfl hs).elim
  · cases hc; exact (none_ rfl hs).elim
  · split at hc
    · cases hc; exact (none_ rfl hs).elim
    · cases hc; exact (none_ rfl hs).elim
    · split at hc <;> cases hc <;> exact (none_ rfl hs).elim
    · cases hc
  · split at hc <;> cases hc <;> exact (none_ rfl hs).elim
  · cases hc; exact (none_ rfl hs).elim
  · -- makeMap
    rename_i t ho
    cases hc
    cases hv
    cases hs
    refine ⟨.map #[] 0, .map (some w.heap.size), 0, by simp [execOp, ho, Instr.makeMap], rfl, fun γ hx hn => ⟨.m hn, hB, rfl, #[], 0, hnew _, .nil⟩⟩
  · -- makeSlice
    rename_i t l c ho
    split at hc
    · rename_i e hu
      split at hc
      · rename_i z nb hz hnb
        cases hqn : Nat.beq nb 0 <;> rw [hqn] at hc <;> cases hc
        rw [beq_nat, decide_eq_false_iff_not] at hqn
        obtain ⟨ti, zv, hi, hzv, hzr, hlen, h1⟩ := zcells_spec hz
        obtain ⟨p, q, rfl, hp, hq⟩ := vrs2 hv
        simp only [semA] at hs
        unfold aMksl at hs
        split at hs
        · rename_i kl lN kc cN he
          cases he
          cases hb : (Nat.ble lN cN && Nat.ble (cN * nb) 70368744177664) <;> rw [hb] at hs <;> cases hs
          simp only [Bool.and_eq_true, ble_nat, decide_eq_true_eq] at hb
          obtain ⟨hb1, hb2⟩ := hb
          generalize hl : ρ l = L at hp
          generalize hcc : ρ c = C at hq
          cases hp
          cases hq
          have hnb' : nb = ti.bytes := by simp [tbytes, hi] at hnb; exact hnb.symm
          have hzs : zv.cells.size = ti.size := by have := (hzr β).length; simp at this; omega
          have h48 : (ti.bytes : Int) * (cN : Int) ≤ 70368744177664 := by
            have h9 : ((cN * nb : Nat) : Int) ≤ ((70368744177664 : Nat) : Int) := Int.ofNat_le.2 hb2
            rw [Int.natCast_mul] at h9
            rw [← hnb', Int.mul_comm]
            exact h9
          have hc1 : cN ≤ 70368744177664 := Nat.le_trans (Nat.le_mul_of_pos_right cN (by omega)) hb2
          have hrun := run_make (P := P) w t e ti zv hu hi hzv kl kc (lN : Int) (cN : Int) (by omega) (by omega) (by omega) (by omega)
          simp only [Int.toNat_natCast] at hrun
          refine ⟨.cells (madeCells zv.cells (cN * ti.size)) e, .slice (some ⟨w.heap.size, 0, none⟩) lN cN, _, ?_, rfl, fun γ hx hn => ⟨?_, BR_new hB (hnew _) (zeros_VRs (hzr γ) cN _ (by rw [hzs]))⟩⟩
          · have e1 : execOp ρ o = (do pure (.value (← Instr.makeSlice t (ρ l) (ρ c)))) := by simp only [execOp, ho]
            rw [e1, hl, hcc]
            exact run_value hrun
          · exact VR.sl hn hb1 (Nat.le_refl _) (fun _ => rfl) (fun h => absurd rfl h) (.inr rfl)
        · cases hs
      · cases hc
    · cases hc
  · rename_i t x lo hi mx ho
    split at hc
    · rename_i e hu
      cases hq : (mx.isSome && hi.isNone) <;> rw [hq] at hc
      · cases hsz : tsize P e <;> rw [hsz] at hc <;> cases hc; exact (none_ rfl hs).elim
      · cases hc
    · cases hq : mx.isNone <;> rw [hq] at hc <;> cases hc; exact (none_ rfl hs).elim
    · cases hc
  · split at hc
    · split at hc
      · split at hc
        · rename_i s _
          cases hq : Nat.beq s 0 <;> rw [hq] at hc <;> cases hc; exact (none_ rfl hs).elim
        · cases hc
      · cases hc
    · cases hc
  · split at hc
    · split at hc
      · rename_i g _
        cases hq : tshape P g.type <;> rw [hq] at hc <;> cases hc; exact (none_ rfl hs).elim
      · cases hc
    · cases hc
  · split at hc
    · rename_i e _
      cases hq : tsize P e <;> rw [hq] at hc <;> cases hc; exact (none_ rfl hs).elim
    · rename_i n e _
      cases hq : tsize P e <;> rw [hq] at hc <;> cases hc; exact (none_ rfl hs).elim
    · cases hc
  · split at hc
    · split at hc <;> cases hc; exact (none_ rfl hs).elim
    · cases hc; exact (none_ rfl hs).elim
    · cases hc
  · split at hc
    · rename_i k e _
      cases hq : isIntT P k <;> rw [hq] at hc
      · cases hc
      · cases hz : zval P e <;> rw [hz] at hc <;> cases hc; exact (none_ rfl hs).elim
    · cases hc
  · split at hc
    · rename_i kt e hu
      cases hq : isIntT P kt <;> rw [hq] at hc <;> cases hc; exact (none_ rfl hs).elim
    · cases hc
  · cases hc; exact (none_ rfl hs).elim
  · rename_i c ho
    split at hc
    · rename_i b hb
      unfold compBuiltin at hc
      split at hc
      · split at hc <;> cases hc <;> exact (none_ rfl hs).elim
      · split at hc <;> cases hc <;> exact (none_ rfl hs).elim
      · cases hc; exact (none_ rfl hs).elim
      · cases hc; exact (none_ rfl hs).elim
      · split at hc
        · split at hc
          · rename_i s by' _ _ _ _
            cases hq : (Nat.beq s 0 || Nat.beq by' 0) <;> rw [hq] at hc <;> cases hc
            exact (none_ rfl hs).elim
          · cases hc
        · cases hc
      · split at hc
        · split at hc <;> cases hc; exact (none_ rfl hs).elim
        · cases hc
      · split at hc
        · split at hc <;> cases hc; exact (none_ rfl hs).elim
        · cases hc
      · split at hc
        · rename_i k e _
          cases hq : isIntT P k <;> rw [hq] at hc <;> cases hc; exact (none_ rfl hs).elim
        · cases hc
      · cases hc
    · cases hc; exact (none_ rfl hs).elim
    · rename_i x _ _
      cases hq : isTmp x <;> rw [hq] at hc <;> cases hc; exact (none_ rfl hs).elim
    · cases hc
  · cases hc
end
end Go.AM
