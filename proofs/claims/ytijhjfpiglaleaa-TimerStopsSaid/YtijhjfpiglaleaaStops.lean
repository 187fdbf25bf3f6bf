/- TimerStops, off the open machine: all its ways end true. PRINTED by our sym.py. -/
import Derived.Test.YtijhjfpiglaleaaT
set_option maxRecDepth 100000
namespace Go.Proofs.Ytijhjfpiglaleaa.T
open Go.AM
theorem timerStops_wf : allT (xcall tblK 100000 7 [pv 0, pv 1, .b false] ⟨.nil, 0⟩ []) = true := by kernel_rfl
theorem timerStops_wt : allT (xcall tblK 100000 7 [pv 0, pv 1, .b true] ⟨.nil, 0⟩ []) = true := by kernel_rfl
theorem timerStops_true (a0 : Int) (a1 : Int) (a2 : Bool) : ∃ m S, acall tblK m 7 [.i .i64 a0, .i .i64 a1, .b a2] ⟨.nil, 0⟩ = some (.b true, S) := by
  cases a2
  case false =>
    exact xcall_true0 (ρ := fun n => if n = 0 then a0 else if n = 1 then a1 else 0) cleanK timerStops_wf (by simp [pv_sub, AV.sub])
  case true =>
    exact xcall_true0 (ρ := fun n => if n = 0 then a0 else if n = 1 then a1 else 0) cleanK timerStops_wt (by simp [pv_sub, AV.sub])
end Go.Proofs.Ytijhjfpiglaleaa.T
