/-
  No cell of these rows narrows 'for every input' (looked for: loops, veiled, ifaces, maps, wideKeys, modest, calm, conditions, laid).
  DERIVED. THE GIVEN ROWS OF THIS SEAT. 7 by the template 'for every input the law returns true; each argument reads behind the call as it read before'; 0 by the template 'total and deterministic' (their statements: YtddabelahpdekaaTotals.lean).
  GIVEN WITH THE SEED: the statements are not yours to turn. If you find one false, say at which input.
  Laid BY PROGRAM, IN A SANDBOX (cutbox-rows.mjs): the forced cells as the released guide's own fill.sh prints them over the translation cabd226cb35b82a5… (all of the seat's roots in one cut). By AI agents, Wed Nov 11 2026. No macro, syntax, notation, axiom, sorry.
-/
import Derived.Test.YtddabelahpdekaaChecked
import GoSem.Claim
import GoSem.ClaimJoined
import GoSem.ClaimMapViews
import Derived.JoinedTies
import Derived.KernelRfl
namespace Go.Proofs.Ytddabelahpdekaa
/- THE CELL 'sum', in the pinned program and in every row, IS THE sha256 OF THE DUMP (.gsa) THAT YtddabelahpdekaaProg.lean LOADS. Nothing in Lean hashes anything: it is a label: what it is worth is what the hold of that sum in a sandbox is worth. -/
noncomputable def Try.pinned : Pinned := { name := "ytddabelahpdekaa", sum := "cabd226cb35b82a59342999db40ef9b5a201338650b5ddd8d58049b2d859cc6d", checked := Try.checked }
namespace Rows
def none {H : Type} : Left H := { results := [], args := [] }

/-- 'tarpaulinlaw15.CtxFalls': WHATEVER THE INPUT: true; the input reads as it did. -/
def ctxFallsSpec : ChangeSpec := { name := "ctxFalls", fn := fun _ => fun
  | [d1, d2, d3, d4] => { results := [.lit (.bool true)], args := [d1, d2, d3, d4] }
  | _ => none }
def ctxFallsRow : OpenClaim := { program := "ytddabelahpdekaa", sum := "cabd226cb35b82a59342999db40ef9b5a201338650b5ddd8d58049b2d859cc6d", func := "tarpaulin/tarpaulinlaw15.CtxFalls", spec := "ctxFalls", unfollowed := true, recurses := true, apart := false }
def CtxFallsSaid : Prop := ctxFallsRow.holds Try.pinned (OpenSpec.ofChange ctxFallsSpec)

/-- ITS FALSE NEIGHBOUR: 'it returns false'. Refute it at one input. -/
def ctxFallsWrong : ChangeSpec := { name := "ctxFalls", fn := fun _ => fun
  | [d1, d2, d3, d4] => { results := [.lit (.bool false)], args := [d1, d2, d3, d4] }
  | _ => none }
def CtxFallsWrongFalsely : Prop := ctxFallsRow.holds Try.pinned (OpenSpec.ofChange ctxFallsWrong)

/-- 'tarpaulinlaw15.CtxAfters': WHATEVER THE INPUT: true; the input reads as it did. -/
def ctxAftersSpec : ChangeSpec := { name := "ctxAfters", fn := fun _ => fun
  | [d1, d2, d3] => { results := [.lit (.bool true)], args := [d1, d2, d3] }
  | _ => none }
def ctxAftersRow : OpenClaim := { program := "ytddabelahpdekaa", sum := "cabd226cb35b82a59342999db40ef9b5a201338650b5ddd8d58049b2d859cc6d", func := "tarpaulin/tarpaulinlaw15.CtxAfters", spec := "ctxAfters", unfollowed := true, recurses := true, apart := false }
def CtxAftersSaid : Prop := ctxAftersRow.holds Try.pinned (OpenSpec.ofChange ctxAftersSpec)

/-- ITS FALSE NEIGHBOUR: 'it returns false'. Refute it at one input. -/
def ctxAftersWrong : ChangeSpec := { name := "ctxAfters", fn := fun _ => fun
  | [d1, d2, d3] => { results := [.lit (.bool false)], args := [d1, d2, d3] }
  | _ => none }
def CtxAftersWrongFalsely : Prop := ctxAftersRow.holds Try.pinned (OpenSpec.ofChange ctxAftersWrong)

/-- 'tarpaulinlaw15.CtxFull': WHATEVER THE INPUT: true; the input reads as it did. -/
def ctxFullSpec : ChangeSpec := { name := "ctxFull", fn := fun _ => fun
  | [d1, d2] => { results := [.lit (.bool true)], args := [d1, d2] }
  | _ => none }
def ctxFullRow : OpenClaim := { program := "ytddabelahpdekaa", sum := "cabd226cb35b82a59342999db40ef9b5a201338650b5ddd8d58049b2d859cc6d", func := "tarpaulin/tarpaulinlaw15.CtxFull", spec := "ctxFull", unfollowed := true, recurses := true, apart := false }
def CtxFullSaid : Prop := ctxFullRow.holds Try.pinned (OpenSpec.ofChange ctxFullSpec)

/-- ITS FALSE NEIGHBOUR: 'it returns false'. Refute it at one input. -/
def ctxFullWrong : ChangeSpec := { name := "ctxFull", fn := fun _ => fun
  | [d1, d2] => { results := [.lit (.bool false)], args := [d1, d2] }
  | _ => none }
def CtxFullWrongFalsely : Prop := ctxFullRow.holds Try.pinned (OpenSpec.ofChange ctxFullWrong)

/-- 'tarpaulinlaw15.CtxLate': WHATEVER THE INPUT: true; the input reads as it did. -/
def ctxLateSpec : ChangeSpec := { name := "ctxLate", fn := fun _ => fun
  | [d1, d2, d3, d4] => { results := [.lit (.bool true)], args := [d1, d2, d3, d4] }
  | _ => none }
def ctxLateRow : OpenClaim := { program := "ytddabelahpdekaa", sum := "cabd226cb35b82a59342999db40ef9b5a201338650b5ddd8d58049b2d859cc6d", func := "tarpaulin/tarpaulinlaw15.CtxLate", spec := "ctxLate", unfollowed := true, recurses := true, apart := false }
def CtxLateSaid : Prop := ctxLateRow.holds Try.pinned (OpenSpec.ofChange ctxLateSpec)

/-- ITS FALSE NEIGHBOUR: 'it returns false'. Refute it at one input. -/
def ctxLateWrong : ChangeSpec := { name := "ctxLate", fn := fun _ => fun
  | [d1, d2, d3, d4] => { results := [.lit (.bool false)], args := [d1, d2, d3, d4] }
  | _ => none }
def CtxLateWrongFalsely : Prop := ctxLateRow.holds Try.pinned (OpenSpec.ofChange ctxLateWrong)

/-- 'tarpaulinlaw15.CtxWakes': WHATEVER THE INPUT: true; the input reads as it did. -/
def ctxWakesSpec : ChangeSpec := { name := "ctxWakes", fn := fun _ => fun
  | [d1, d2, d3] => { results := [.lit (.bool true)], args := [d1, d2, d3] }
  | _ => none }
def ctxWakesRow : OpenClaim := { program := "ytddabelahpdekaa", sum := "cabd226cb35b82a59342999db40ef9b5a201338650b5ddd8d58049b2d859cc6d", func := "tarpaulin/tarpaulinlaw15.CtxWakes", spec := "ctxWakes", unfollowed := true, recurses := true, apart := false }
def CtxWakesSaid : Prop := ctxWakesRow.holds Try.pinned (OpenSpec.ofChange ctxWakesSpec)

/-- ITS FALSE NEIGHBOUR: 'it returns false'. Refute it at one input. -/
def ctxWakesWrong : ChangeSpec := { name := "ctxWakes", fn := fun _ => fun
  | [d1, d2, d3] => { results := [.lit (.bool false)], args := [d1, d2, d3] }
  | _ => none }
def CtxWakesWrongFalsely : Prop := ctxWakesRow.holds Try.pinned (OpenSpec.ofChange ctxWakesWrong)

/-- 'tarpaulinlaw15.CtxDeadlines': WHATEVER THE INPUT: true; the input reads as it did. -/
def ctxDeadlinesSpec : ChangeSpec := { name := "ctxDeadlines", fn := fun _ => fun
  | [d1, d2] => { results := [.lit (.bool true)], args := [d1, d2] }
  | _ => none }
def ctxDeadlinesRow : OpenClaim := { program := "ytddabelahpdekaa", sum := "cabd226cb35b82a59342999db40ef9b5a201338650b5ddd8d58049b2d859cc6d", func := "tarpaulin/tarpaulinlaw15.CtxDeadlines", spec := "ctxDeadlines", unfollowed := true, recurses := true, apart := false }
def CtxDeadlinesSaid : Prop := ctxDeadlinesRow.holds Try.pinned (OpenSpec.ofChange ctxDeadlinesSpec)

/-- ITS FALSE NEIGHBOUR: 'it returns false'. Refute it at one input. -/
def ctxDeadlinesWrong : ChangeSpec := { name := "ctxDeadlines", fn := fun _ => fun
  | [d1, d2] => { results := [.lit (.bool false)], args := [d1, d2] }
  | _ => none }
def CtxDeadlinesWrongFalsely : Prop := ctxDeadlinesRow.holds Try.pinned (OpenSpec.ofChange ctxDeadlinesWrong)

/-- 'tarpaulinlaw15.CtxTimers': WHATEVER THE INPUT: true; the input reads as it did. -/
def ctxTimersSpec : ChangeSpec := { name := "ctxTimers", fn := fun _ => fun
  | [d1, d2] => { results := [.lit (.bool true)], args := [d1, d2] }
  | _ => none }
def ctxTimersRow : OpenClaim := { program := "ytddabelahpdekaa", sum := "cabd226cb35b82a59342999db40ef9b5a201338650b5ddd8d58049b2d859cc6d", func := "tarpaulin/tarpaulinlaw15.CtxTimers", spec := "ctxTimers", unfollowed := true, recurses := true, apart := false }
def CtxTimersSaid : Prop := ctxTimersRow.holds Try.pinned (OpenSpec.ofChange ctxTimersSpec)

/-- ITS FALSE NEIGHBOUR: 'it returns false'. Refute it at one input. -/
def ctxTimersWrong : ChangeSpec := { name := "ctxTimers", fn := fun _ => fun
  | [d1, d2] => { results := [.lit (.bool false)], args := [d1, d2] }
  | _ => none }
def CtxTimersWrongFalsely : Prop := ctxTimersRow.holds Try.pinned (OpenSpec.ofChange ctxTimersWrong)

/- THE SECOND FORM. 'bulk': how many values and letters a reading holds, each counted each time it is reached (what is shared counts as often as it is met; a slice's spare places count too). A statement '..UptoSaid' is the law's where the arguments, and the package variables that the reading takes, are together of bulk at most 1048576: NARROWER than '..Said'. Prove '..Said' where nothing that the law and all that it calls make is longer than what came in: it says more and counts as full. Else prove '..UptoSaid'. A law counts once. -/
mutual
def uptoBulk {H : Type} : DataW H → Nat
  | .lit (.string bytes) => bytes.length + 1
  | .lit _ => 1
  | .nil => 1
  | .ptr d => uptoBulk d + 1
  | .slice elems spare => uptoBulkAll elems + uptoBulkAll spare + 1
  | .agg parts => uptoBulkAll parts + 1
  | .iface _ d => uptoBulk d + 1
  | .map entries => uptoBulkEntries entries + 1
  | .held _ => 1
def uptoBulkAll {H : Type} : List (DataW H) → Nat
  | [] => 0
  | d :: r => uptoBulk d + uptoBulkAll r
def uptoBulkEntries {H : Type} : List (Lit × DataW H) → Nat
  | [] => 0
  | x :: r => uptoBulkEntry x + uptoBulkEntries r
def uptoBulkEntry {H : Type} : Lit × DataW H → Nat
  | (.string bytes, d) => bytes.length + uptoBulk d + 1
  | (_, d) => uptoBulk d + 1
 end
def uptoSmall : (H : Type) → List (DataW H) → Bool := fun _ ds => decide (uptoBulkAll ds ≤ 1048576)
def OpenSpec.upto (s : _root_.Go.ChangeSpec) : _root_.Go.OpenSpec := { _root_.Go.OpenSpec.ofChange s with cond := some uptoSmall }

/-- 'tarpaulinlaw15.CtxFalls', WHERE WHAT IT READS IS OF BULK AT MOST 1048576: true; the input reads as it did. -/
def ctxFallsUptoRow : OpenClaim := { program := "ytddabelahpdekaa", sum := "cabd226cb35b82a59342999db40ef9b5a201338650b5ddd8d58049b2d859cc6d", func := "tarpaulin/tarpaulinlaw15.CtxFalls", spec := "ctxFalls", unfollowed := true, recurses := true, apart := false, narrowed := true }
def CtxFallsUptoSaid : Prop := ctxFallsUptoRow.holds Try.pinned (OpenSpec.upto ctxFallsSpec)

/-- 'tarpaulinlaw15.CtxAfters', WHERE WHAT IT READS IS OF BULK AT MOST 1048576: true; the input reads as it did. -/
def ctxAftersUptoRow : OpenClaim := { program := "ytddabelahpdekaa", sum := "cabd226cb35b82a59342999db40ef9b5a201338650b5ddd8d58049b2d859cc6d", func := "tarpaulin/tarpaulinlaw15.CtxAfters", spec := "ctxAfters", unfollowed := true, recurses := true, apart := false, narrowed := true }
def CtxAftersUptoSaid : Prop := ctxAftersUptoRow.holds Try.pinned (OpenSpec.upto ctxAftersSpec)

/-- 'tarpaulinlaw15.CtxFull', WHERE WHAT IT READS IS OF BULK AT MOST 1048576: true; the input reads as it did. -/
def ctxFullUptoRow : OpenClaim := { program := "ytddabelahpdekaa", sum := "cabd226cb35b82a59342999db40ef9b5a201338650b5ddd8d58049b2d859cc6d", func := "tarpaulin/tarpaulinlaw15.CtxFull", spec := "ctxFull", unfollowed := true, recurses := true, apart := false, narrowed := true }
def CtxFullUptoSaid : Prop := ctxFullUptoRow.holds Try.pinned (OpenSpec.upto ctxFullSpec)

/-- 'tarpaulinlaw15.CtxLate', WHERE WHAT IT READS IS OF BULK AT MOST 1048576: true; the input reads as it did. -/
def ctxLateUptoRow : OpenClaim := { program := "ytddabelahpdekaa", sum := "cabd226cb35b82a59342999db40ef9b5a201338650b5ddd8d58049b2d859cc6d", func := "tarpaulin/tarpaulinlaw15.CtxLate", spec := "ctxLate", unfollowed := true, recurses := true, apart := false, narrowed := true }
def CtxLateUptoSaid : Prop := ctxLateUptoRow.holds Try.pinned (OpenSpec.upto ctxLateSpec)

/-- 'tarpaulinlaw15.CtxWakes', WHERE WHAT IT READS IS OF BULK AT MOST 1048576: true; the input reads as it did. -/
def ctxWakesUptoRow : OpenClaim := { program := "ytddabelahpdekaa", sum := "cabd226cb35b82a59342999db40ef9b5a201338650b5ddd8d58049b2d859cc6d", func := "tarpaulin/tarpaulinlaw15.CtxWakes", spec := "ctxWakes", unfollowed := true, recurses := true, apart := false, narrowed := true }
def CtxWakesUptoSaid : Prop := ctxWakesUptoRow.holds Try.pinned (OpenSpec.upto ctxWakesSpec)

/-- 'tarpaulinlaw15.CtxDeadlines', WHERE WHAT IT READS IS OF BULK AT MOST 1048576: true; the input reads as it did. -/
def ctxDeadlinesUptoRow : OpenClaim := { program := "ytddabelahpdekaa", sum := "cabd226cb35b82a59342999db40ef9b5a201338650b5ddd8d58049b2d859cc6d", func := "tarpaulin/tarpaulinlaw15.CtxDeadlines", spec := "ctxDeadlines", unfollowed := true, recurses := true, apart := false, narrowed := true }
def CtxDeadlinesUptoSaid : Prop := ctxDeadlinesUptoRow.holds Try.pinned (OpenSpec.upto ctxDeadlinesSpec)

/-- 'tarpaulinlaw15.CtxTimers', WHERE WHAT IT READS IS OF BULK AT MOST 1048576: true; the input reads as it did. -/
def ctxTimersUptoRow : OpenClaim := { program := "ytddabelahpdekaa", sum := "cabd226cb35b82a59342999db40ef9b5a201338650b5ddd8d58049b2d859cc6d", func := "tarpaulin/tarpaulinlaw15.CtxTimers", spec := "ctxTimers", unfollowed := true, recurses := true, apart := false, narrowed := true }
def CtxTimersUptoSaid : Prop := ctxTimersUptoRow.holds Try.pinned (OpenSpec.upto ctxTimersSpec)

end Rows
end Go.Proofs.Ytddabelahpdekaa
