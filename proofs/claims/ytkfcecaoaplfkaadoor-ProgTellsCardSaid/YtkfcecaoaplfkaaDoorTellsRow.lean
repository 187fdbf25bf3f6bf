/- ProgTells: whatever the arguments, where the listed variables hold what they are laid with, the law answers true, and its arguments read as before; and the card: what is listed is tied to the program's text. PRINTED by our rowd.py. -/
import Derived.Test.YtkfcecaoaplfkaaDoorRows
import Derived.Test.YtkfcecaoaplfkaaDoorCards
import Derived.Test.YtkfcecaoaplfkaaDoorTie
import Derived.Test.YtkfcecaoaplfkaaDoorTellsT
import Derived.WalkKit
import Derived.ProofKit
import Derived.OpenShut
import Derived.ShutString
import Derived.ChangeOld
import Derived.Below
import Derived.SizedLaws
import Derived.LaidMore
import Derived.Lay
import Derived.SevenTiedAt
import Derived.Lib.LaidTab
import Derived.Stop.Joined
namespace Go.Proofs.YtkfcecaoaplfkaaDoor.ProgTellsRow
open Go.ChangeShapes Go.WideShapes Go.ChangeAt Go.RowKit Go.AM
open Go.ChangeMaps (open_string shut_string)
set_option linter.unusedVariables false
set_option maxRecDepth 100000
theorem own : ownKnob Tryd.prog.godebug = none := by kernel_rfl
theorem laidOut : laidOutB Tryd.prog = true := by kernel_rfl
theorem insT : InsT Tryd.prog 36 3 4 34 41 := ⟨Tryd.underlying3, Tryd.underlying4, by kernel_rfl, by kernel_rfl, ⟨_, Tryd.underlying36, rfl, (by intro i f h; match i, h with | 0, h => (cases h; exact ⟨rfl, rfl⟩) | 1, h => (cases h; exact ⟨rfl, rfl⟩) | 2, h => (cases h; exact ⟨rfl, rfl⟩) | 3, h => (cases h; exact ⟨rfl, rfl⟩) | 4, h => (cases h; exact ⟨rfl, rfl⟩) | 5, h => (cases h; exact ⟨rfl, rfl⟩) | n + 6, h => simp at h)⟩, by kernel_rfl, Tryd.underlying34, by kernel_rfl, ⟨_, Tryd.underlying41, rfl, (by intro i f h; match i, h with | 0, h => (cases h; exact ⟨rfl, rfl⟩) | 1, h => (cases h; exact ⟨rfl, rfl⟩) | 2, h => (cases h; exact ⟨rfl, rfl⟩) | n + 3, h => simp at h)⟩, by kernel_rfl⟩
noncomputable def laid : List (String × DataW Unit) := Rows.progTellsRow.laid
def asciiZ : List Int := [0, 0, 0, 0, 0, 0, 0, 0, 0, 1, 1, 1, 1, 1, 0, 0, 0, 0, 0, 0, 0, 0, 0, 0, 0, 0, 0, 0, 0, 0, 0, 0, 1, 0, 0, 0, 0, 0, 0, 0, 0, 0, 0, 0, 0, 0, 0, 0, 0, 0, 0, 0, 0, 0, 0, 0, 0, 0, 0, 0, 0, 0, 0, 0, 0, 0, 0, 0, 0, 0, 0, 0, 0, 0, 0, 0, 0, 0, 0, 0, 0, 0, 0, 0, 0, 0, 0, 0, 0, 0, 0, 0, 0, 0, 0, 0, 0, 0, 0, 0, 0, 0, 0, 0, 0, 0, 0, 0, 0, 0, 0, 0, 0, 0, 0, 0, 0, 0, 0, 0, 0, 0, 0, 0, 0, 0, 0, 0, 0, 0, 0, 0, 0, 0, 0, 0, 0, 0, 0, 0, 0, 0, 0, 0, 0, 0, 0, 0, 0, 0, 0, 0, 0, 0, 0, 0, 0, 0, 0, 0, 0, 0, 0, 0, 0, 0, 0, 0, 0, 0, 0, 0, 0, 0, 0, 0, 0, 0, 0, 0, 0, 0, 0, 0, 0, 0, 0, 0, 0, 0, 0, 0, 0, 0, 0, 0, 0, 0, 0, 0, 0, 0, 0, 0, 0, 0, 0, 0, 0, 0, 0, 0, 0, 0, 0, 0, 0, 0, 0, 0, 0, 0, 0, 0, 0, 0, 0, 0, 0, 0, 0, 0, 0, 0, 0, 0, 0, 0, 0, 0, 0, 0, 0, 0, 0, 0, 0, 0, 0, 0, 0, 0, 0, 0, 0, 0]
theorem gc0 : GC 0 = asciiZ.map fun n => .i .u8 n := by kernel_rfl
/-- what the listed variable's cells are -/
theorem cell_of {W : World} (h : laidMetH Tryd.prog laid W) (r : Nat) (hr : r < 256) : W.cell? ⟨0, r, none⟩ = some (.int .u8 (asciiZ.getD r 0)) := by
  rw [MakeChecks.laidMetH_plain _ _ _ (by kernel_rfl)] at h
  obtain ⟨ps, ⟨_, _, _, _, _, _, _, _, _, _, ⟨g, t, cs, fuel, p, q, hg, ht, hv, hd, _, _⟩, _⟩, _, _⟩ := h
  obtain rfl := Option.some.inj ((show Tryd.prog.globalNamed "strings.asciiSpace" = some 0 by kernel_rfl).symm.trans hg)
  obtain rfl := Option.some.inj ((show (Tryd.prog.globals[0]?).map (·.type) = some 55 by kernel_rfl).symm.trans ht)
  obtain ⟨xs, m, _, ex, _, hl, hel⟩ := DataW.trod_array Tryd.underlying55 hd
  have c5 : Tryd.prog.cellsOf 5 = 1 := by kernel_rfl
  have hE := hel r hr
  rw [c5, Nat.mul_one, List.getElem?_eq_getElem (by omega)] at hE
  obtain ⟨z, e1, e2, _⟩ := DataW.trod_int Tryd.underlying5 hE
  have hlen : asciiZ.length = 256 := by kernel_rfl
  have hdat : Rows.laid_strings_asciiSpace (H := Unit) = .agg (asciiZ.map fun n => .lit (.int .u8 n)) := by kernel_rfl
  have ex2 := ex
  rw [hdat] at ex2
  have e3 : (xs.map (·.1)) = asciiZ.map fun n => .lit (.int .u8 n) := (DataW.agg.inj (Prod.mk.inj ex2).1).symm
  have e4 : (xs.map (·.1))[r]? = (asciiZ.map fun n => (DataW.lit (.int .u8 n) : DataW Unit))[r]? := by rw [e3]
  rw [List.getElem?_map, List.getElem?_map, List.getElem?_eq_getElem (by omega : r < xs.length), List.getElem?_eq_getElem (by omega : r < asciiZ.length), e2] at e4
  have hz : z = asciiZ.getD r 0 := by
    simp only [Option.map_some, Option.some.injEq, DataW.lit.injEq, Lit.int.injEq, true_and] at e4
    rw [e4, List.getD, List.getElem?_eq_getElem (by omega : r < asciiZ.length)]; rfl
  rw [World.var?_cell hg hv r, ← hz]
  have : cs.toList[r]? = some (.int .u8 z) := by
    have h0 : ((cs.toList.drop r).take 1)[0]? = some (.int .u8 z) := by rw [e1]; rfl
    simpa using h0
  simpa using this
theorem size_of {W : World} (h : laidMetH Tryd.prog laid W) {cur : Array Value} {t : TypeId} {fr : Nat × Nat} (hh : W.heap[0]? = some (.cells cur t fr)) : cur.size = (GC 0).length := by
  rw [MakeChecks.laidMetH_plain _ _ _ (by kernel_rfl)] at h
  obtain ⟨ps, ⟨_, _, _, _, _, _, _, _, _, _, ⟨g, t, cs, fuel, p, q, hg, ht, hv, hd, _, _⟩, _⟩, _, _⟩ := h
  obtain rfl := Option.some.inj ((show Tryd.prog.globalNamed "strings.asciiSpace" = some 0 by kernel_rfl).symm.trans hg)
  obtain rfl := Option.some.inj ((show (Tryd.prog.globals[0]?).map (·.type) = some 55 by kernel_rfl).symm.trans ht)
  have hcs : cs = cur := by
    unfold World.var? at hv
    rw [hg] at hv
    simp only [Option.bind_some, hh, Option.some.injEq] at hv
    exact hv.symm
  have hdat : Rows.laid_strings_asciiSpace (H := Unit) = Lib.tabData .u8 Lib.asciiSpaceTab := by kernel_rfl
  rw [hdat] at hd
  have e := Lib.cells_of_tab Tryd.underlying55 Tryd.underlying5 (by kernel_rfl) (by kernel_rfl) hd
  have e2 : cs.size = 256 := by
    have h9 := congrArg List.length e
    simp [Lib.asciiSpaceTab] at h9
    exact h9
  have e3 : (GC 0).length = 256 := by kernel_rfl
  rw [← hcs, e2, e3]
theorem cells_of {W : World} (h : laidMetH Tryd.prog laid W) : GN ≤ W.heap.size ∧ GW W := by
  have h0 := cell_of h 0 (by omega)
  have hb : ∃ cur t fr, W.heap[0]? = some (.cells cur t fr) := by
    unfold World.cell? at h0
    simp only [Option.isSome_none, Bool.false_eq_true, if_false] at h0
    split at h0
    · rename_i cur t fr hh; exact ⟨cur, t, fr, hh⟩
    · cases h0
  obtain ⟨cur, t, fr, hh⟩ := hb
  refine ⟨(Array.getElem?_eq_some_iff.1 hh).1, fun g hg => ?_⟩
  have hg0 : g = 0 := by have : g < 1 := hg; omega
  subst hg0
  refine ⟨cur, t, fr, hh, ?_, size_of h hh⟩
  intro i v hv
  rw [gc0, List.getElem?_map, Option.map_eq_some_iff] at hv
  obtain ⟨z, hz, rfl⟩ := hv
  have hlen : asciiZ.length = 256 := by kernel_rfl
  have hi : i < 256 := by have := (List.getElem?_eq_some_iff.1 hz).1; omega
  have hc := cell_of h i hi
  simp only [World.cell?, hh, Option.isSome_none, Bool.false_eq_true, if_false] at hc
  refine ⟨_, by rw [Nat.zero_add]; exact hc, ?_⟩
  rw [List.getD, hz]
  exact .i _ _
theorem lifted (os : Os) (started : os.Started) (H : Type) (enc : TypeId × Value → H) :
    ReturnsInHanded {} Tryd.checked os 3 .any (fun w args => (Rows.progTellsSpec.pre enc Tryd.prog Tryd.f3 Rows.progTellsRow.domain false w args ∧ laidMetH Tryd.prog laid w) ∧ sizedMet enc Tryd.prog Tryd.f3 (OpenSpec.ofChange Rows.progTellsSpec) false w args)
      (Rows.progTellsSpec.post enc Tryd.prog Tryd.f3 false true false false) := by
  refine returnsInHanded_of_change_and (C := Tryd.checked) (X := fun w _ => laidMetH Tryd.prog laid w) (fun _ _ _ hh h => h.of_heap hh) own started (by kernel_rfl) Tryd.func3
    (ChangeSpec.witness_shaped (enc := enc) (C := Tryd.checked) (os := os) (X := fun w _ => laidMetH Tryd.prog laid w) false (World.laidAll Tryd.prog os laid) #[.slice none 0 0, .int .i64 0] 8 (World.laidAll_os _ _ _)
      (World.shaped_of_ZipB (by kernel_rfl) (by kernel_rfl)) (by kernel_rfl) (by kernel_rfl) (by kernel_rfl)
      (by rw [MakeChecks.laidMetH_plain _ _ _ (by kernel_rfl)]; exact laidMet_laidAll _ (by kernel_rfl) (by kernel_rfl))) ?_
  intro W base args ds gs before hval0 hW hc _ hL _
  have hval : ∀ (j : Nat) t v, Tryd.f3.params[j]? = some t → args[j]? = some v → Value.okWide Tryd.prog W .any base t v := hval0
  have hW' := hW
  obtain ⟨p, q, hA0, hV, rfl, hfz, hnd⟩ := hW
  have hA : DataW.TrodAll enc Tryd.prog W 0 (fun _ => true) true Tryd.f3.params.toList args.toList ds p := hA0
  rw [Tryd.params3] at hA hval
  obtain ⟨v0, vs0, d0, ds0, p0, q0, hargs, rfl, rfl, h0, r0⟩ := trodAll_cons hA
  obtain ⟨v1, vs1, d1, ds1, p1, q1, rfl, rfl, rfl, h1, r1⟩ := trodAll_cons r0
  obtain ⟨rfl, rfl, rfl⟩ := trodAll_nil r1
  obtain rfl : args = #[v0, v1] := by cases args; simp_all
  obtain ⟨rfl, rfl⟩ := trodVars_none hV
  have k0 := h0
  obtain ⟨a1, rfl, rfl, rfl, w1⟩ := open_int Tryd.underlying3 (hval 1 3 v1 rfl rfl) h1
  obtain ⟨hgn, hgw⟩ := cells_of hL
  obtain ⟨l0, S0, β0, L0, x0, ar0, e0, xe0, vr0, as0⟩ := (AR.start W hgn hgw).progs Tryd.underlying22 Tryd.underlying29 (by kernel_rfl) insT (hval 0 22 v0 rfl rfl) h0
  refine (ar0.calls T.mixed T.okK (.cons (vr0) (.cons (.i _ _) .nil)) (T.progTells_call l0 x0 as0 a1)).mono fun e W' ⟨he, bel⟩ => ?_
  subst he
  have lt0 : ∀ x ∈ p0, x.block < W.heap.size := fun x hx => hW'.lt x (by simp [hx])
  exact ⟨_, rfl, _, _, _, [], _, [], hW', trodAll_mk1 (shut_bool Tryd.underlying4 _), (trodAll_cons_mk (Below.trod laidOut (by kernel_rfl) (of_decide_eq_true (by kernel_rfl)) k0 bel lt0) (trodAll_cons_mk (shut_int Tryd.underlying3 w1) trodAll_mk0)), rfl, bel.frame _, fun h => by cases h⟩
theorem over : Rows.progTellsRow.holds Tryd.pinned (OpenSpec.ofChange Rows.progTellsSpec) :=
  OpenClaim.holds_of_wide 3 Tryd.f3 rfl rfl rfl rfl rfl rfl rfl ⟨rfl, rfl, rfl, rfl, rfl⟩ rfl rfl rfl rfl rfl (by kernel_rfl) Tryd.func3 (by kernel_rfl)
    (of_decide_eq_true (by kernel_rfl)) (by unfold Func.isWrapper; first | (rw [if_pos (by decide +kernel)]; kernel_rfl) | (rw [if_neg (by decide +kernel)]; exact ⟨rfl, rfl⟩))
    (fun os started H enc _ => lifted os started H enc)
theorem tied : Rows.ProgTellsCardSaid :=
  Claim7.holds_tied_plain_at .later [] [.listed, .data] true (true, "b8c772d622e2ad567ef2b12ad2499b627c25bf291dac3f05f50f9e6f4de50ac1") false over (fun _ h => by cases h) (by kernel_rfl) (fun _ h => by cases h) progTells_row_tie rfl ⟨rfl, rfl⟩ (by kernel_rfl) rfl
    (fun f fn hf hfn => by
      obtain rfl : f = 3 := Option.some.inj ((show Tryd.prog.funcNamed "tarpaulin/tarpaulinlaw4.ProgTells" = some 3 by kernel_rfl).symm.trans hf) |>.symm
      obtain rfl : fn = Tryd.f3 := (Option.some.inj (Tryd.func3.symm.trans hfn)).symm
      exact ⟨by kernel_rfl, fun j t ht => by
        rw [Tryd.params3] at ht
        have hm : t ∈ [22, 3] := by simpa using Array.mem_of_getElem? ht
        have hall : ([22, 3].all fun u => !Tryd.prog.wantsStandIn u) = true := by kernel_rfl
        exact (show Tryd.prog.wantsStandIn t = false by simpa using List.all_eq_true.1 hall t hm)⟩)
    (by kernel_rfl)
end Go.Proofs.YtkfcecaoaplfkaaDoor.ProgTellsRow
namespace Go.Proofs.YtkfcecaoaplfkaaDoor
/-- The card. -/
theorem progTells_holds : Rows.ProgTellsCardSaid := ProgTellsRow.tied
end Go.Proofs.YtkfcecaoaplfkaaDoor
