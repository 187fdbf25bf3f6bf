/- ProgRegs: whatever the arguments, where the listed variables hold what they are laid with, the law answers true, and its arguments read as before; and the card: what is listed is tied to the program's text. PRINTED by our rowd.py. -/
import Derived.Test.YtkfcecaoaplfkaaDoorRows
import Derived.Test.YtkfcecaoaplfkaaDoorCards
import Derived.Test.YtkfcecaoaplfkaaDoorTie
import Derived.Test.YtkfcecaoaplfkaaDoorRegsT
import Derived.WalkKit
import Derived.ProofKit
import Derived.OpenShut
import Derived.ShutString
import Derived.ChangeOld
import Derived.Below
import Derived.SizedLaws
import Derived.LaidMore
import Derived.Lay
import Derived.SevenTiedAt
import Derived.Stop.Joined
namespace Go.Proofs.YtkfcecaoaplfkaaDoor.ProgRegsRow
open Go.ChangeShapes Go.WideShapes Go.ChangeAt Go.RowKit Go.AM
open Go.ChangeMaps (open_string shut_string)
set_option linter.unusedVariables false
set_option maxRecDepth 100000
theorem own : ownKnob Tryd.prog.godebug = none := by kernel_rfl
theorem laidOut : laidOutB Tryd.prog = true := by kernel_rfl
theorem insT : InsT Tryd.prog 36 3 4 34 41 := ⟨Tryd.underlying3, Tryd.underlying4, by kernel_rfl, by kernel_rfl, ⟨_, Tryd.underlying36, rfl, (by intro i f h; match i, h with | 0, h => (cases h; exact ⟨rfl, rfl⟩) | 1, h => (cases h; exact ⟨rfl, rfl⟩) | 2, h => (cases h; exact ⟨rfl, rfl⟩) | 3, h => (cases h; exact ⟨rfl, rfl⟩) | 4, h => (cases h; exact ⟨rfl, rfl⟩) | 5, h => (cases h; exact ⟨rfl, rfl⟩) | n + 6, h => simp at h)⟩, by kernel_rfl, Tryd.underlying34, by kernel_rfl, ⟨_, Tryd.underlying41, rfl, (by intro i f h; match i, h with | 0, h => (cases h; exact ⟨rfl, rfl⟩) | 1, h => (cases h; exact ⟨rfl, rfl⟩) | 2, h => (cases h; exact ⟨rfl, rfl⟩) | n + 3, h => simp at h)⟩, by kernel_rfl⟩
noncomputable def laid : List (String × DataW Unit) := Rows.progRegsRow.laid
def asciiZ : List Int := [0, 0, 0, 0, 0, 0, 0, 0, 0, 1, 1, 1, 1, 1, 0, 0, 0, 0, 0, 0, 0, 0, 0, 0, 0, 0, 0, 0, 0, 0, 0, 0, 1, 0, 0, 0, 0, 0, 0, 0, 0, 0, 0, 0, 0, 0, 0, 0, 0, 0, 0, 0, 0, 0, 0, 0, 0, 0, 0, 0, 0, 0, 0, 0, 0, 0, 0, 0, 0, 0, 0, 0, 0, 0, 0, 0, 0, 0, 0, 0, 0, 0, 0, 0, 0, 0, 0, 0, 0, 0, 0, 0, 0, 0, 0, 0, 0, 0, 0, 0, 0, 0, 0, 0, 0, 0, 0, 0, 0, 0, 0, 0, 0, 0, 0, 0, 0, 0, 0, 0, 0, 0, 0, 0, 0, 0, 0, 0, 0, 0, 0, 0, 0, 0, 0, 0, 0, 0, 0, 0, 0, 0, 0, 0, 0, 0, 0, 0, 0, 0, 0, 0, 0, 0, 0, 0, 0, 0, 0, 0, 0, 0, 0, 0, 0, 0, 0, 0, 0, 0, 0, 0, 0, 0, 0, 0, 0, 0, 0, 0, 0, 0, 0, 0, 0, 0, 0, 0, 0, 0, 0, 0, 0, 0, 0, 0, 0, 0, 0, 0, 0, 0, 0, 0, 0, 0, 0, 0, 0, 0, 0, 0, 0, 0, 0, 0, 0, 0, 0, 0, 0, 0, 0, 0, 0, 0, 0, 0, 0, 0, 0, 0, 0, 0, 0, 0, 0, 0, 0, 0, 0, 0, 0, 0, 0, 0, 0, 0, 0, 0, 0, 0, 0, 0, 0, 0]
theorem gc0 : GC 0 = asciiZ.map fun n => .i .u8 n := by kernel_rfl
/-- what the listed variable's cells are -/
theorem cell_of {W : World} (h : laidMetH Tryd.prog laid W) (r : Nat) (hr : r < 256) : W.cell? ⟨0, r, none⟩ = some (.int .u8 (asciiZ.getD r 0)) := by
  rw [MakeChecks.laidMetH_plain _ _ _ (by kernel_rfl)] at h
  obtain ⟨ps, ⟨_, _, _, _, _, _, _, _, _, _, ⟨g, t, cs, fuel, p, q, hg, ht, hv, hd, _, _⟩, _⟩, _, _⟩ := h
  obtain rfl := Option.some.inj ((show Tryd.prog.globalNamed "strings.asciiSpace" = some 0 by kernel_rfl).symm.trans hg)
  obtain rfl := Option.some.inj ((show (Tryd.prog.globals[0]?).map (·.type) = some 55 by kernel_rfl).symm.trans ht)
  obtain ⟨xs, m, _, ex, _, hl, hel⟩ := DataW.trod_array Tryd.underlying55 hd
  have c5 : Tryd.prog.cellsOf 5 = 1 := by kernel_rfl
  have hE := hel r hr
  rw [c5, Nat.mul_one, List.getElem?_eq_getElem (by omega)] at hE
  obtain ⟨z, e1, e2, _⟩ := DataW.trod_int Tryd.underlying5 hE
  have hlen : asciiZ.length = 256 := by kernel_rfl
  have hdat : Rows.laid_strings_asciiSpace (H := Unit) = .agg (asciiZ.map fun n => .lit (.int .u8 n)) := by kernel_rfl
  have ex2 := ex
  rw [hdat] at ex2
  have e3 : (xs.map (·.1)) = asciiZ.map fun n => .lit (.int .u8 n) := (DataW.agg.inj (Prod.mk.inj ex2).1).symm
  have e4 : (xs.map (·.1))[r]? = (asciiZ.map fun n => (DataW.lit (.int .u8 n) : DataW Unit))[r]? := by rw [e3]
  rw [List.getElem?_map, List.getElem?_map, List.getElem?_eq_getElem (by omega : r < xs.length), List.getElem?_eq_getElem (by omega : r < asciiZ.length), e2] at e4
  have hz : z = asciiZ.getD r 0 := by
    simp only [Option.map_some, Option.some.injEq, DataW.lit.injEq, Lit.int.injEq, true_and] at e4
    rw [e4, List.getD, List.getElem?_eq_getElem (by omega : r < asciiZ.length)]; rfl
  rw [World.var?_cell hg hv r, ← hz]
  have : cs.toList[r]? = some (.int .u8 z) := by
    have h0 : ((cs.toList.drop r).take 1)[0]? = some (.int .u8 z) := by rw [e1]; rfl
    simpa using h0
  simpa using this
theorem cells_of {W : World} (h : laidMetH Tryd.prog laid W) : GN ≤ W.heap.size ∧ GW W := by
  have h0 := cell_of h 0 (by omega)
  have hb : ∃ cur t fr, W.heap[0]? = some (.cells cur t fr) := by
    unfold World.cell? at h0
    simp only [Option.isSome_none, Bool.false_eq_true, if_false] at h0
    split at h0
    · rename_i cur t fr hh; exact ⟨cur, t, fr, hh⟩
    · cases h0
  obtain ⟨cur, t, fr, hh⟩ := hb
  refine ⟨(Array.getElem?_eq_some_iff.1 hh).1, fun g hg => ?_⟩
  have hg0 : g = 0 := by have : g < 1 := hg; omega
  subst hg0
  refine ⟨cur, t, fr, hh, fun i v hv => ?_⟩
  rw [gc0, List.getElem?_map, Option.map_eq_some_iff] at hv
  obtain ⟨z, hz, rfl⟩ := hv
  have hlen : asciiZ.length = 256 := by kernel_rfl
  have hi : i < 256 := by have := (List.getElem?_eq_some_iff.1 hz).1; omega
  have hc := cell_of h i hi
  simp only [World.cell?, hh, Option.isSome_none, Bool.false_eq_true, if_false] at hc
  refine ⟨_, by rw [Nat.zero_add]; exact hc, ?_⟩
  rw [List.getD, hz]
  exact .i _ _
theorem lifted (os : Os) (started : os.Started) (H : Type) (enc : TypeId × Value → H) :
    ReturnsInHanded {} Tryd.checked os 6 .any (fun w args => (Rows.progRegsSpec.pre enc Tryd.prog Tryd.f6 Rows.progRegsRow.domain false w args ∧ laidMetH Tryd.prog laid w) ∧ sizedMet enc Tryd.prog Tryd.f6 (OpenSpec.ofChange Rows.progRegsSpec) false w args)
      (Rows.progRegsSpec.post enc Tryd.prog Tryd.f6 false true false false) := by
  refine returnsInHanded_of_change_and (C := Tryd.checked) (X := fun w _ => laidMetH Tryd.prog laid w) (fun _ _ _ hh h => h.of_heap hh) own started (by kernel_rfl) Tryd.func6
    (ChangeSpec.witness_shaped (enc := enc) (C := Tryd.checked) (os := os) (X := fun w _ => laidMetH Tryd.prog laid w) false (World.laidAll Tryd.prog os laid) #[.agg #[.int .i64 0, .int .i64 0, .int .i64 0, .int .i64 0, .slice none 0 0, .bool false]] 8 (World.laidAll_os _ _ _)
      (World.shaped_of_ZipB (by kernel_rfl) (by kernel_rfl)) (by kernel_rfl) (by kernel_rfl) (by kernel_rfl)
      (by rw [MakeChecks.laidMetH_plain _ _ _ (by kernel_rfl)]; exact laidMet_laidAll _ (by kernel_rfl) (by kernel_rfl))) ?_
  intro W base args ds gs before hval0 hW hc _ hL _
  have hval : ∀ (j : Nat) t v, Tryd.f6.params[j]? = some t → args[j]? = some v → Value.okWide Tryd.prog W .any base t v := hval0
  have hW' := hW
  obtain ⟨p, q, hA0, hV, rfl, hfz, hnd⟩ := hW
  have hA : DataW.TrodAll enc Tryd.prog W 0 (fun _ => true) true Tryd.f6.params.toList args.toList ds p := hA0
  rw [Tryd.params6] at hA hval
  obtain ⟨v0, vs0, d0, ds0, p0, q0, hargs, rfl, rfl, h0, r0⟩ := trodAll_cons hA
  obtain ⟨rfl, rfl, rfl⟩ := trodAll_nil r0
  obtain rfl : args = #[v0] := by cases args; simp_all
  obtain ⟨rfl, rfl⟩ := trodVars_none hV
  have k0 := h0
  obtain ⟨hgn, hgw⟩ := cells_of hL
  obtain ⟨l0, S0, β0, L0, x0, ar0, e0, xe0, vr0, as0⟩ := (AR.start W hgn hgw).ins insT (hval 0 36 v0 rfl rfl) h0
  refine (ar0.calls T.mixed T.okK (.cons (vr0) .nil) (T.progRegs_call l0 x0 as0)).mono fun e W' ⟨he, bel⟩ => ?_
  subst he
  have lt0 : ∀ x ∈ p0, x.block < W.heap.size := fun x hx => hW'.lt x (by simp [hx])
  exact ⟨_, rfl, _, _, _, [], _, [], hW', trodAll_mk1 (shut_bool Tryd.underlying4 _), (trodAll_cons_mk (Below.trod laidOut (by kernel_rfl) (of_decide_eq_true (by kernel_rfl)) k0 bel lt0) trodAll_mk0), rfl, bel.frame _, fun h => by cases h⟩
theorem over : Rows.progRegsRow.holds Tryd.pinned (OpenSpec.ofChange Rows.progRegsSpec) :=
  OpenClaim.holds_of_wide 6 Tryd.f6 rfl rfl rfl rfl rfl rfl rfl ⟨rfl, rfl, rfl, rfl, rfl⟩ rfl rfl rfl rfl rfl (by kernel_rfl) Tryd.func6 (by kernel_rfl)
    (of_decide_eq_true (by kernel_rfl)) (by unfold Func.isWrapper; first | (rw [if_pos (by decide +kernel)]; kernel_rfl) | (rw [if_neg (by decide +kernel)]; exact ⟨rfl, rfl⟩))
    (fun os started H enc _ => lifted os started H enc)
theorem tied : Rows.ProgRegsCardSaid :=
  Claim7.holds_tied_plain_at .later [] [.listed, .data] true (true, "b8c772d622e2ad567ef2b12ad2499b627c25bf291dac3f05f50f9e6f4de50ac1") false over (fun _ h => by cases h) (by kernel_rfl) (fun _ h => by cases h) progRegs_row_tie rfl ⟨rfl, rfl⟩ (by kernel_rfl) rfl
    (fun f fn hf hfn => by
      obtain rfl : f = 6 := Option.some.inj ((show Tryd.prog.funcNamed "tarpaulin/tarpaulinlaw4.ProgRegs" = some 6 by kernel_rfl).symm.trans hf) |>.symm
      obtain rfl : fn = Tryd.f6 := (Option.some.inj (Tryd.func6.symm.trans hfn)).symm
      exact ⟨by kernel_rfl, fun j t ht => by
        rw [Tryd.params6] at ht
        have hm : t ∈ [36] := by simpa using Array.mem_of_getElem? ht
        have hall : ([36].all fun u => !Tryd.prog.wantsStandIn u) = true := by kernel_rfl
        exact (show Tryd.prog.wantsStandIn t = false by simpa using List.all_eq_true.1 hall t hm)⟩)
    (by kernel_rfl)
end Go.Proofs.YtkfcecaoaplfkaaDoor.ProgRegsRow
namespace Go.Proofs.YtkfcecaoaplfkaaDoor
/-- The card. -/
theorem progRegs_holds : Rows.ProgRegsCardSaid := ProgRegsRow.tied
end Go.Proofs.YtkfcecaoaplfkaaDoor
