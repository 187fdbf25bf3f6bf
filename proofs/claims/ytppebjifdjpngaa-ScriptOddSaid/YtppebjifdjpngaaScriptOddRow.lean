/- ScriptOdd: whatever the arguments, the law answers true, and its arguments read as before. No condition. PRINTED by our row.py. -/
import Derived.Test.YtppebjifdjpngaaRows
import Derived.Carry
import Derived.Test.YtppebjifdjpngaaScriptOddT
import Derived.WalkKit
import Derived.ProofKit
import Derived.OpenShut
import Derived.ShutString
import Derived.ChangeOld
import Derived.Below
import Derived.SizedLaws
namespace Go.Proofs.Ytppebjifdjpngaa.ScriptOddRow
open Go.ChangeShapes Go.WideShapes Go.ChangeAt Go.RowKit Go.AM
open Go.ChangeMaps (open_string shut_string)
set_option linter.unusedVariables false
theorem laidOut : laidOutB Try.prog = true := by kernel_rfl
theorem own : ownKnob Try.prog.godebug = none := by kernel_rfl
set_option maxRecDepth 100000 in
theorem lifted (os : Os) (started : os.Started) (H : Type) (enc : TypeId × Value → H) :
    ReturnsInHanded {} Try.checked os 8 .any (Rows.scriptOddSpec.pre6 enc Try.prog Try.f8 Rows.scriptOddRow.domain false) (Rows.scriptOddSpec.post enc Try.prog Try.f8 false true false false) := by
  refine returnsInHanded_of_change_sized (C := Try.checked) own started (by kernel_rfl) Try.func8
    (ChangeSpec.witness6 (enc := enc) (C := Try.checked) false ⟨#[], #[.slice none 0 0, .int .i64 0, .slice none 0 0], []⟩ 8 (by kernel_rfl) (by kernel_rfl) (by kernel_rfl) (by kernel_rfl)) ?_
  intro W base args ds gs before hval0 hW hcnd hsz0 _
  have hval : ∀ (j : Nat) t v, Try.f8.params[j]? = some t → args[j]? = some v → Value.okWide Try.prog W .any base t v := hval0
  have hW' := hW
  obtain ⟨p, q, hA0, hV, rfl, hfz, hnd⟩ := hW
  have hA : DataW.TrodAll enc Try.prog W 0 (fun _ => true) true Try.f8.params.toList args.toList ds p := hA0
  rw [Try.params8] at hA hval
  obtain ⟨v0, vs0, d0, ds0, p0, q0, hargs, rfl, rfl, h0, r0⟩ := trodAll_cons hA
  obtain ⟨v1, vs1, d1, ds1, p1, q1, rfl, rfl, rfl, h1, r1⟩ := trodAll_cons r0
  obtain ⟨v2, vs2, d2, ds2, p2, q2, rfl, rfl, rfl, h2, r2⟩ := trodAll_cons r1
  obtain ⟨rfl, rfl, rfl⟩ := trodAll_nil r2
  obtain rfl : args = #[v0, v1, v2] := by cases args; simp_all
  obtain ⟨rfl, rfl⟩ := trodVars_none hV
  have k0 := h0
  obtain ⟨a1, rfl, rfl, rfl, w1⟩ := open_int Try.underlying3 (hval 1 3 v1 rfl rfl) h1
  have k2 := h2
  obtain ⟨l0, S0, β0, L0, x0, ar0, e0, xe0, vr0, as0, z0⟩ := (AR.nil W).ents Try.underlying22 Try.underlying35 rfl (by intro i f h; match i, h with | 0, h => (cases h; exact ⟨rfl, rfl⟩) | 1, h => (cases h; exact ⟨rfl, rfl⟩) | 2, h => (cases h; exact ⟨rfl, rfl⟩) | n + 3, h => simp at h) Try.underlying3 (by kernel_rfl) (by kernel_rfl) (hval 0 22 v0 rfl rfl) h0
  obtain ⟨l2, S2, β2, L2, x2, ar2, e2, xe2, vr2, as2, z2⟩ := (ar0).byts Try.underlying24 Try.underlying5 (by kernel_rfl) (hval 2 24 v2 rfl rfl) h2
  refine (ar2.calls T.mixed T.okK (.cons (vr0.mono e2) (.cons (.i _ _) (.cons (vr2) .nil))) (T.scriptOdd_call l0 x0 (as0.ext xe2) vr0.capOk z0 a1 l2 x2 as2 vr2.capOk z2)).mono fun e W' ⟨he, bel⟩ => ?_
  subst he
  have lt0 : ∀ x ∈ p0, x.block < W.heap.size := fun x hx => hW'.lt x (by simp [hx])
  have lt2 : ∀ x ∈ p2, x.block < W.heap.size := fun x hx => hW'.lt x (by simp [hx])
  exact ⟨_, rfl, _, _, _, [], _, [], hW', trodAll_mk1 (shut_bool Try.underlying4 _), (trodAll_cons_mk (Below.trod laidOut (by kernel_rfl) (of_decide_eq_true (by kernel_rfl)) k0 bel lt0) (trodAll_cons_mk (shut_int Try.underlying3 w1) (trodAll_cons_mk (Below.trod laidOut (by kernel_rfl) (of_decide_eq_true (by kernel_rfl)) k2 bel lt2) trodAll_mk0))), rfl, bel.frame _, fun h => by cases h⟩
theorem over : Rows.scriptOddRow.holds Try.pinned (OpenSpec.ofChange Rows.scriptOddSpec) :=
  OpenClaim.holds_of_wide 8 Try.f8 rfl rfl rfl rfl rfl rfl rfl ⟨rfl, rfl, rfl, rfl, rfl⟩ rfl rfl rfl rfl rfl (by kernel_rfl) Try.func8 (by kernel_rfl)
    (of_decide_eq_true (by kernel_rfl)) (by unfold Func.isWrapper; first | (rw [if_pos (by decide +kernel)]; kernel_rfl) | (rw [if_neg (by decide +kernel)]; exact ⟨rfl, rfl⟩))
    (fun os started H enc _ => lifted os started H enc)
end Go.Proofs.Ytppebjifdjpngaa.ScriptOddRow
namespace Go.Proofs.Ytppebjifdjpngaa
/-- The row. -/
theorem scriptOdd_holds : Rows.ScriptOddSaid := ScriptOddRow.over
end Go.Proofs.Ytppebjifdjpngaa
