/-
  No cell of these rows narrows 'for every input' (looked for: loops, veiled, ifaces, maps, wideKeys, modest, calm, conditions, laid).
  DERIVED. THE GIVEN ROWS OF THIS SEAT. 6 by the template 'for every input the law returns true; each argument reads behind the call as it read before'; 0 by the template 'total and deterministic' (their statements: YtppebjifdjpngaaTotals.lean).
  GIVEN WITH THE SEED: the statements are not yours to turn. If you find one false, say at which input.
  Laid BY PROGRAM, IN A SANDBOX (cutbox-rows.mjs): the forced cells as the released guide's own fill.sh prints them over the translation 00fdf6f7ba30b5ed… (all of the seat's roots in one cut). By AI agents, Wed Nov 11 2026. No macro, syntax, notation, axiom, sorry.
-/
import Derived.Test.YtppebjifdjpngaaChecked
import GoSem.Claim
import GoSem.ClaimJoined
import GoSem.ClaimMapViews
import Derived.JoinedTies
import Derived.KernelRfl
namespace Go.Proofs.Ytppebjifdjpngaa
/- THE CELL 'sum', in the pinned program and in every row, IS THE sha256 OF THE DUMP (.gsa) THAT YtppebjifdjpngaaProg.lean LOADS. Nothing in Lean hashes anything: it is a label: what it is worth is what the hold of that sum in a sandbox is worth. -/
noncomputable def Try.pinned : Pinned := { name := "ytppebjifdjpngaa", sum := "00fdf6f7ba30b5edfbc603049b6389f02e742e3b9e204983e74d3a08157b22dd", checked := Try.checked }
namespace Rows
def none {H : Type} : Left H := { results := [], args := [] }

/-- 'tarpaulinlaw3.ScriptBack': WHATEVER THE INPUT: true; the input reads as it did. -/
def scriptBackSpec : ChangeSpec := { name := "scriptBack", fn := fun _ => fun
  | [d1, d2] => { results := [.lit (.bool true)], args := [d1, d2] }
  | _ => none }
def scriptBackRow : OpenClaim := { program := "ytppebjifdjpngaa", sum := "00fdf6f7ba30b5edfbc603049b6389f02e742e3b9e204983e74d3a08157b22dd", func := "tarpaulin/tarpaulinlaw3.ScriptBack", spec := "scriptBack", apart := false }
def ScriptBackSaid : Prop := scriptBackRow.holds Try.pinned (OpenSpec.ofChange scriptBackSpec)

/-- ITS FALSE NEIGHBOUR: 'it returns false'. Refute it at one input. -/
def scriptBackWrong : ChangeSpec := { name := "scriptBack", fn := fun _ => fun
  | [d1, d2] => { results := [.lit (.bool false)], args := [d1, d2] }
  | _ => none }
def ScriptBackWrongFalsely : Prop := scriptBackRow.holds Try.pinned (OpenSpec.ofChange scriptBackWrong)

/-- 'tarpaulinlaw3.ScriptLimits': WHATEVER THE INPUT: true; the input reads as it did. -/
def scriptLimitsSpec : ChangeSpec := { name := "scriptLimits", fn := fun _ => fun
  | [d1, d2] => { results := [.lit (.bool true)], args := [d1, d2] }
  | _ => none }
def scriptLimitsRow : OpenClaim := { program := "ytppebjifdjpngaa", sum := "00fdf6f7ba30b5edfbc603049b6389f02e742e3b9e204983e74d3a08157b22dd", func := "tarpaulin/tarpaulinlaw3.ScriptLimits", spec := "scriptLimits", apart := false }
def ScriptLimitsSaid : Prop := scriptLimitsRow.holds Try.pinned (OpenSpec.ofChange scriptLimitsSpec)

/-- ITS FALSE NEIGHBOUR: 'it returns false'. Refute it at one input. -/
def scriptLimitsWrong : ChangeSpec := { name := "scriptLimits", fn := fun _ => fun
  | [d1, d2] => { results := [.lit (.bool false)], args := [d1, d2] }
  | _ => none }
def ScriptLimitsWrongFalsely : Prop := scriptLimitsRow.holds Try.pinned (OpenSpec.ofChange scriptLimitsWrong)

/-- 'tarpaulinlaw3.ScriptPicks': WHATEVER THE INPUT: true; the input reads as it did. -/
def scriptPicksSpec : ChangeSpec := { name := "scriptPicks", fn := fun _ => fun
  | [d1, d2, d3] => { results := [.lit (.bool true)], args := [d1, d2, d3] }
  | _ => none }
def scriptPicksRow : OpenClaim := { program := "ytppebjifdjpngaa", sum := "00fdf6f7ba30b5edfbc603049b6389f02e742e3b9e204983e74d3a08157b22dd", func := "tarpaulin/tarpaulinlaw3.ScriptPicks", spec := "scriptPicks", apart := false }
def ScriptPicksSaid : Prop := scriptPicksRow.holds Try.pinned (OpenSpec.ofChange scriptPicksSpec)

/-- ITS FALSE NEIGHBOUR: 'it returns false'. Refute it at one input. -/
def scriptPicksWrong : ChangeSpec := { name := "scriptPicks", fn := fun _ => fun
  | [d1, d2, d3] => { results := [.lit (.bool false)], args := [d1, d2, d3] }
  | _ => none }
def ScriptPicksWrongFalsely : Prop := scriptPicksRow.holds Try.pinned (OpenSpec.ofChange scriptPicksWrong)

/-- 'tarpaulinlaw3.ScriptBytes': WHATEVER THE INPUT: true; the input reads as it did. -/
def scriptBytesSpec : ChangeSpec := { name := "scriptBytes", fn := fun _ => fun
  | [d1, d2, d3] => { results := [.lit (.bool true)], args := [d1, d2, d3] }
  | _ => none }
def scriptBytesRow : OpenClaim := { program := "ytppebjifdjpngaa", sum := "00fdf6f7ba30b5edfbc603049b6389f02e742e3b9e204983e74d3a08157b22dd", func := "tarpaulin/tarpaulinlaw3.ScriptBytes", spec := "scriptBytes", apart := false }
def ScriptBytesSaid : Prop := scriptBytesRow.holds Try.pinned (OpenSpec.ofChange scriptBytesSpec)

/-- ITS FALSE NEIGHBOUR: 'it returns false'. Refute it at one input. -/
def scriptBytesWrong : ChangeSpec := { name := "scriptBytes", fn := fun _ => fun
  | [d1, d2, d3] => { results := [.lit (.bool false)], args := [d1, d2, d3] }
  | _ => none }
def ScriptBytesWrongFalsely : Prop := scriptBytesRow.holds Try.pinned (OpenSpec.ofChange scriptBytesWrong)

/-- 'tarpaulinlaw3.ScriptJoins': WHATEVER THE INPUT: true; the input reads as it did. -/
def scriptJoinsSpec : ChangeSpec := { name := "scriptJoins", fn := fun _ => fun
  | [d1, d2] => { results := [.lit (.bool true)], args := [d1, d2] }
  | _ => none }
def scriptJoinsRow : OpenClaim := { program := "ytppebjifdjpngaa", sum := "00fdf6f7ba30b5edfbc603049b6389f02e742e3b9e204983e74d3a08157b22dd", func := "tarpaulin/tarpaulinlaw3.ScriptJoins", spec := "scriptJoins", apart := false }
def ScriptJoinsSaid : Prop := scriptJoinsRow.holds Try.pinned (OpenSpec.ofChange scriptJoinsSpec)

/-- ITS FALSE NEIGHBOUR: 'it returns false'. Refute it at one input. -/
def scriptJoinsWrong : ChangeSpec := { name := "scriptJoins", fn := fun _ => fun
  | [d1, d2] => { results := [.lit (.bool false)], args := [d1, d2] }
  | _ => none }
def ScriptJoinsWrongFalsely : Prop := scriptJoinsRow.holds Try.pinned (OpenSpec.ofChange scriptJoinsWrong)

/-- 'tarpaulinlaw3.ScriptOdd': WHATEVER THE INPUT: true; the input reads as it did. -/
def scriptOddSpec : ChangeSpec := { name := "scriptOdd", fn := fun _ => fun
  | [d1, d2, d3] => { results := [.lit (.bool true)], args := [d1, d2, d3] }
  | _ => none }
def scriptOddRow : OpenClaim := { program := "ytppebjifdjpngaa", sum := "00fdf6f7ba30b5edfbc603049b6389f02e742e3b9e204983e74d3a08157b22dd", func := "tarpaulin/tarpaulinlaw3.ScriptOdd", spec := "scriptOdd", apart := false }
def ScriptOddSaid : Prop := scriptOddRow.holds Try.pinned (OpenSpec.ofChange scriptOddSpec)

/-- ITS FALSE NEIGHBOUR: 'it returns false'. Refute it at one input. -/
def scriptOddWrong : ChangeSpec := { name := "scriptOdd", fn := fun _ => fun
  | [d1, d2, d3] => { results := [.lit (.bool false)], args := [d1, d2, d3] }
  | _ => none }
def ScriptOddWrongFalsely : Prop := scriptOddRow.holds Try.pinned (OpenSpec.ofChange scriptOddWrong)

/- THE SECOND FORM. 'bulk': how many values and letters a reading holds, each counted each time it is reached (what is shared counts as often as it is met; a slice's spare places count too). A statement '..UptoSaid' is the law's where the arguments, and the package variables that the reading takes, are together of bulk at most 1048576: NARROWER than '..Said'. Prove '..Said' where nothing that the law and all that it calls make is longer than what came in: it says more and counts as full. Else prove '..UptoSaid'. A law counts once. -/
mutual
def uptoBulk {H : Type} : DataW H → Nat
  | .lit (.string bytes) => bytes.length + 1
  | .lit _ => 1
  | .nil => 1
  | .ptr d => uptoBulk d + 1
  | .slice elems spare => uptoBulkAll elems + uptoBulkAll spare + 1
  | .agg parts => uptoBulkAll parts + 1
  | .iface _ d => uptoBulk d + 1
  | .map entries => uptoBulkEntries entries + 1
  | .held _ => 1
def uptoBulkAll {H : Type} : List (DataW H) → Nat
  | [] => 0
  | d :: r => uptoBulk d + uptoBulkAll r
def uptoBulkEntries {H : Type} : List (Lit × DataW H) → Nat
  | [] => 0
  | x :: r => uptoBulkEntry x + uptoBulkEntries r
def uptoBulkEntry {H : Type} : Lit × DataW H → Nat
  | (.string bytes, d) => bytes.length + uptoBulk d + 1
  | (_, d) => uptoBulk d + 1
 end
def uptoSmall : (H : Type) → List (DataW H) → Bool := fun _ ds => decide (uptoBulkAll ds ≤ 1048576)
def OpenSpec.upto (s : _root_.Go.ChangeSpec) : _root_.Go.OpenSpec := { _root_.Go.OpenSpec.ofChange s with cond := some uptoSmall }

/-- 'tarpaulinlaw3.ScriptBack', WHERE WHAT IT READS IS OF BULK AT MOST 1048576: true; the input reads as it did. -/
def scriptBackUptoRow : OpenClaim := { program := "ytppebjifdjpngaa", sum := "00fdf6f7ba30b5edfbc603049b6389f02e742e3b9e204983e74d3a08157b22dd", func := "tarpaulin/tarpaulinlaw3.ScriptBack", spec := "scriptBack", apart := false, narrowed := true }
def ScriptBackUptoSaid : Prop := scriptBackUptoRow.holds Try.pinned (OpenSpec.upto scriptBackSpec)

/-- 'tarpaulinlaw3.ScriptLimits', WHERE WHAT IT READS IS OF BULK AT MOST 1048576: true; the input reads as it did. -/
def scriptLimitsUptoRow : OpenClaim := { program := "ytppebjifdjpngaa", sum := "00fdf6f7ba30b5edfbc603049b6389f02e742e3b9e204983e74d3a08157b22dd", func := "tarpaulin/tarpaulinlaw3.ScriptLimits", spec := "scriptLimits", apart := false, narrowed := true }
def ScriptLimitsUptoSaid : Prop := scriptLimitsUptoRow.holds Try.pinned (OpenSpec.upto scriptLimitsSpec)

/-- 'tarpaulinlaw3.ScriptPicks', WHERE WHAT IT READS IS OF BULK AT MOST 1048576: true; the input reads as it did. -/
def scriptPicksUptoRow : OpenClaim := { program := "ytppebjifdjpngaa", sum := "00fdf6f7ba30b5edfbc603049b6389f02e742e3b9e204983e74d3a08157b22dd", func := "tarpaulin/tarpaulinlaw3.ScriptPicks", spec := "scriptPicks", apart := false, narrowed := true }
def ScriptPicksUptoSaid : Prop := scriptPicksUptoRow.holds Try.pinned (OpenSpec.upto scriptPicksSpec)

/-- 'tarpaulinlaw3.ScriptBytes', WHERE WHAT IT READS IS OF BULK AT MOST 1048576: true; the input reads as it did. -/
def scriptBytesUptoRow : OpenClaim := { program := "ytppebjifdjpngaa", sum := "00fdf6f7ba30b5edfbc603049b6389f02e742e3b9e204983e74d3a08157b22dd", func := "tarpaulin/tarpaulinlaw3.ScriptBytes", spec := "scriptBytes", apart := false, narrowed := true }
def ScriptBytesUptoSaid : Prop := scriptBytesUptoRow.holds Try.pinned (OpenSpec.upto scriptBytesSpec)

/-- 'tarpaulinlaw3.ScriptJoins', WHERE WHAT IT READS IS OF BULK AT MOST 1048576: true; the input reads as it did. -/
def scriptJoinsUptoRow : OpenClaim := { program := "ytppebjifdjpngaa", sum := "00fdf6f7ba30b5edfbc603049b6389f02e742e3b9e204983e74d3a08157b22dd", func := "tarpaulin/tarpaulinlaw3.ScriptJoins", spec := "scriptJoins", apart := false, narrowed := true }
def ScriptJoinsUptoSaid : Prop := scriptJoinsUptoRow.holds Try.pinned (OpenSpec.upto scriptJoinsSpec)

/-- 'tarpaulinlaw3.ScriptOdd', WHERE WHAT IT READS IS OF BULK AT MOST 1048576: true; the input reads as it did. -/
def scriptOddUptoRow : OpenClaim := { program := "ytppebjifdjpngaa", sum := "00fdf6f7ba30b5edfbc603049b6389f02e742e3b9e204983e74d3a08157b22dd", func := "tarpaulin/tarpaulinlaw3.ScriptOdd", spec := "scriptOdd", apart := false, narrowed := true }
def ScriptOddUptoSaid : Prop := scriptOddUptoRow.holds Try.pinned (OpenSpec.upto scriptOddSpec)

end Rows
end Go.Proofs.Ytppebjifdjpngaa
