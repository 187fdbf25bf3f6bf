/- WorldAfters, off the open machine: all its ways of one kind (stopped or not, a context's or not) end true. PRINTED by our sym.py. -/
import Derived.Test.YtjmnmaaipcbmnaaGreatT
set_option maxRecDepth 100000
namespace Go.Proofs.YtjmnmaaipcbmnaaGreat.T
open Go.AM
theorem worldAfters_wtf : allT (xcall tblK 100000 3 [pv 0, .b true, .b false, pv 3] ⟨.nil, 0⟩ []) = true := by kernel_rfl
end Go.Proofs.YtjmnmaaipcbmnaaGreat.T
