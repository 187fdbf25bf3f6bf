/- ScriptJoins: whatever the arguments, the law answers true, and its arguments read as before. No condition. PRINTED by our row.py. -/
import Derived.Test.YtppebjifdjpngaaRows
import Derived.Carry
import Derived.Test.YtppebjifdjpngaaScriptJoinsT
import Derived.WalkKit
import Derived.ProofKit
import Derived.OpenShut
import Derived.ShutString
import Derived.ChangeOld
import Derived.Below
import Derived.SizedLaws
namespace Go.Proofs.Ytppebjifdjpngaa.ScriptJoinsRow
open Go.ChangeShapes Go.WideShapes Go.ChangeAt Go.RowKit Go.AM
open Go.ChangeMaps (open_string shut_string)
set_option linter.unusedVariables false
theorem laidOut : laidOutB Try.prog = true := by kernel_rfl
theorem own : ownKnob Try.prog.godebug = none := by kernel_rfl
set_option maxRecDepth 100000 in
theorem lifted (os : Os) (started : os.Started) (H : Type) (enc : TypeId × Value → H) :
    ReturnsInHanded {} Try.checked os 7 .any (Rows.scriptJoinsSpec.pre6 enc Try.prog Try.f7 Rows.scriptJoinsRow.domain false) (Rows.scriptJoinsSpec.post enc Try.prog Try.f7 false true false false) := by
  refine returnsInHanded_of_change_sized (C := Try.checked) own started (by kernel_rfl) Try.func7
    (ChangeSpec.witness6 (enc := enc) (C := Try.checked) false ⟨#[], #[.slice none 0 0, .slice none 0 0], []⟩ 8 (by kernel_rfl) (by kernel_rfl) (by kernel_rfl) (by kernel_rfl)) ?_
  intro W base args ds gs before hval0 hW hcnd hsz0 _
  have hval : ∀ (j : Nat) t v, Try.f7.params[j]? = some t → args[j]? = some v → Value.okWide Try.prog W .any base t v := hval0
  have hW' := hW
  obtain ⟨p, q, hA0, hV, rfl, hfz, hnd⟩ := hW
  have hA : DataW.TrodAll enc Try.prog W 0 (fun _ => true) true Try.f7.params.toList args.toList ds p := hA0
  rw [Try.params7] at hA hval
  obtain ⟨v0, vs0, d0, ds0, p0, q0, hargs, rfl, rfl, h0, r0⟩ := trodAll_cons hA
  obtain ⟨v1, vs1, d1, ds1, p1, q1, rfl, rfl, rfl, h1, r1⟩ := trodAll_cons r0
  obtain ⟨rfl, rfl, rfl⟩ := trodAll_nil r1
  obtain rfl : args = #[v0, v1] := by cases args; simp_all
  obtain ⟨rfl, rfl⟩ := trodVars_none hV
  have k0 := h0
  have k1 := h1
  obtain ⟨l0, S0, β0, L0, x0, ar0, e0, xe0, vr0, as0, z0⟩ := (AR.nil W).ents Try.underlying22 Try.underlying35 rfl (by intro i f h; match i, h with | 0, h => (cases h; exact ⟨rfl, rfl⟩) | 1, h => (cases h; exact ⟨rfl, rfl⟩) | 2, h => (cases h; exact ⟨rfl, rfl⟩) | n + 3, h => simp at h) Try.underlying3 (by kernel_rfl) (by kernel_rfl) (hval 0 22 v0 rfl rfl) h0
  obtain ⟨l1, S1, β1, L1, x1, ar1, e1, xe1, vr1, as1, z1⟩ := (ar0).ents Try.underlying22 Try.underlying35 rfl (by intro i f h; match i, h with | 0, h => (cases h; exact ⟨rfl, rfl⟩) | 1, h => (cases h; exact ⟨rfl, rfl⟩) | 2, h => (cases h; exact ⟨rfl, rfl⟩) | n + 3, h => simp at h) Try.underlying3 (by kernel_rfl) (by kernel_rfl) (hval 1 22 v1 rfl rfl) h1
  refine (ar1.calls T.mixed T.okK (.cons (vr0.mono e1) (.cons (vr1) .nil)) (T.scriptJoins_call l0 x0 (as0.ext xe1) vr0.capOk z0 l1 x1 as1 vr1.capOk z1)).mono fun e W' ⟨he, bel⟩ => ?_
  subst he
  have lt0 : ∀ x ∈ p0, x.block < W.heap.size := fun x hx => hW'.lt x (by simp [hx])
  have lt1 : ∀ x ∈ p1, x.block < W.heap.size := fun x hx => hW'.lt x (by simp [hx])
  exact ⟨_, rfl, _, _, _, [], _, [], hW', trodAll_mk1 (shut_bool Try.underlying4 _), (trodAll_cons_mk (Below.trod laidOut (by kernel_rfl) (of_decide_eq_true (by kernel_rfl)) k0 bel lt0) (trodAll_cons_mk (Below.trod laidOut (by kernel_rfl) (of_decide_eq_true (by kernel_rfl)) k1 bel lt1) trodAll_mk0)), rfl, bel.frame _, fun h => by cases h⟩
theorem over : Rows.scriptJoinsRow.holds Try.pinned (OpenSpec.ofChange Rows.scriptJoinsSpec) :=
  OpenClaim.holds_of_wide 7 Try.f7 rfl rfl rfl rfl rfl rfl rfl ⟨rfl, rfl, rfl, rfl, rfl⟩ rfl rfl rfl rfl rfl (by kernel_rfl) Try.func7 (by kernel_rfl)
    (of_decide_eq_true (by kernel_rfl)) (by unfold Func.isWrapper; first | (rw [if_pos (by decide +kernel)]; kernel_rfl) | (rw [if_neg (by decide +kernel)]; exact ⟨rfl, rfl⟩))
    (fun os started H enc _ => lifted os started H enc)
end Go.Proofs.Ytppebjifdjpngaa.ScriptJoinsRow
namespace Go.Proofs.Ytppebjifdjpngaa
/-- The row. -/
theorem scriptJoins_holds : Rows.ScriptJoinsSaid := ScriptJoinsRow.over
end Go.Proofs.Ytppebjifdjpngaa
