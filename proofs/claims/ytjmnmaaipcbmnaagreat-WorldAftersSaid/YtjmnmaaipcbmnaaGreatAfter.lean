/- WorldAfters, off the open machine: whatever its arguments it answers true. PRINTED by our sym.py. -/
import Derived.Test.YtjmnmaaipcbmnaaGreatWff
import Derived.Test.YtjmnmaaipcbmnaaGreatWft
import Derived.Test.YtjmnmaaipcbmnaaGreatWtf
import Derived.Test.YtjmnmaaipcbmnaaGreatWtt
set_option maxRecDepth 100000
set_option linter.unusedSimpArgs false
namespace Go.Proofs.YtjmnmaaipcbmnaaGreat.T
open Go.AM
theorem worldAfters_true (a0 : Int) (a1 : Bool) (a2 : Bool) (a3 : Int) : ∃ m S, acall tblK m 3 [.i .i64 a0, .b a1, .b a2, .i .i64 a3] ⟨.nil, 0⟩ = some (.b true, S) := by
  cases a1
  case false =>
    cases a2
    case false =>
      exact xcall_true0 (ρ := fun n => if n = 0 then a0 else if n = 3 then a3 else 0) cleanK worldAfters_wff (by simp [pv_sub, AV.sub])
    case true =>
      exact xcall_true0 (ρ := fun n => if n = 0 then a0 else if n = 3 then a3 else 0) cleanK worldAfters_wft (by simp [pv_sub, AV.sub])
  case true =>
    cases a2
    case false =>
      exact xcall_true0 (ρ := fun n => if n = 0 then a0 else if n = 3 then a3 else 0) cleanK worldAfters_wtf (by simp [pv_sub, AV.sub])
    case true =>
      exact xcall_true0 (ρ := fun n => if n = 0 then a0 else if n = 3 then a3 else 0) cleanK worldAfters_wtt (by simp [pv_sub, AV.sub])
end Go.Proofs.YtjmnmaaipcbmnaaGreat.T
