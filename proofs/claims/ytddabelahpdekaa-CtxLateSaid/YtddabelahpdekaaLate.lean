/- CtxLate, off the open machine: all its ways end true. PRINTED by our sym.py. -/
import Derived.Test.YtddabelahpdekaaT
set_option maxRecDepth 100000
set_option linter.unusedSimpArgs false
namespace Go.Proofs.Ytddabelahpdekaa.T
open Go.AM
theorem ctxLate_w : allT (xcall tblK 100000 6 [pv 0, pv 1, pv 2, pv 3] ⟨.nil, 0⟩ []) = true := by kernel_rfl
theorem ctxLate_true (a0 : Int) (a1 : Int) (a2 : Int) (a3 : Int) : ∃ m S, acall tblK m 6 [.i .i64 a0, .i .i64 a1, .i .i64 a2, .i .i64 a3] ⟨.nil, 0⟩ = some (.b true, S) := by
  exact xcall_true0 (ρ := fun n => if n = 0 then a0 else if n = 1 then a1 else if n = 2 then a2 else if n = 3 then a3 else 0) cleanK ctxLate_w (by simp [pv_sub, AV.sub])
end Go.Proofs.Ytddabelahpdekaa.T
