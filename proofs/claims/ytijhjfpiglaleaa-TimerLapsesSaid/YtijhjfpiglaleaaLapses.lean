/- TimerLapses, off the open machine: all its ways end true. PRINTED by our sym.py. -/
import Derived.Test.YtijhjfpiglaleaaT
set_option maxRecDepth 100000
namespace Go.Proofs.Ytijhjfpiglaleaa.T
open Go.AM
theorem timerLapses_wf : allT (xcall tblK 100000 4 [pv 0, pv 1, pv 2, .b false] ⟨.nil, 0⟩ []) = true := by kernel_rfl
theorem timerLapses_wt : allT (xcall tblK 100000 4 [pv 0, pv 1, pv 2, .b true] ⟨.nil, 0⟩ []) = true := by kernel_rfl
theorem timerLapses_true (a0 : Int) (a1 : Int) (a2 : Int) (a3 : Bool) : ∃ m S, acall tblK m 4 [.i .i64 a0, .i .i64 a1, .i .i64 a2, .b a3] ⟨.nil, 0⟩ = some (.b true, S) := by
  cases a3
  case false =>
    exact xcall_true0 (ρ := fun n => if n = 0 then a0 else if n = 1 then a1 else if n = 2 then a2 else 0) cleanK timerLapses_wf (by simp [pv_sub, AV.sub])
  case true =>
    exact xcall_true0 (ρ := fun n => if n = 0 then a0 else if n = 1 then a1 else if n = 2 then a2 else 0) cleanK timerLapses_wt (by simp [pv_sub, AV.sub])
end Go.Proofs.Ytijhjfpiglaleaa.T
