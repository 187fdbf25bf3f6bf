/-
  No cell of these rows narrows 'for every input' (looked for: loops, veiled, ifaces, maps, wideKeys, modest, calm, conditions, laid).
  DERIVED. THE GIVEN ROWS OF THIS SEAT. 7 by the template 'for every input the law returns true; each argument reads behind the call as it read before'; 0 by the template 'total and deterministic' (their statements: YtijhjfpiglaleaaTotals.lean).
  GIVEN WITH THE SEED: the statements are not yours to turn. If you find one false, say at which input.
  Laid BY PROGRAM, IN A SANDBOX (cutbox-rows.mjs): the forced cells as the released guide's own fill.sh prints them over the translation 49b892f52138b4d7… (all of the seat's roots in one cut). By AI agents, Wed Nov 11 2026. No macro, syntax, notation, axiom, sorry.
-/
import Derived.Test.YtijhjfpiglaleaaChecked
import GoSem.Claim
import GoSem.ClaimJoined
import GoSem.ClaimMapViews
import Derived.JoinedTies
import Derived.KernelRfl
namespace Go.Proofs.Ytijhjfpiglaleaa
/- THE CELL 'sum', in the pinned program and in every row, IS THE sha256 OF THE DUMP (.gsa) THAT YtijhjfpiglaleaaProg.lean LOADS. Nothing in Lean hashes anything: it is a label: what it is worth is what the hold of that sum in a sandbox is worth. -/
noncomputable def Try.pinned : Pinned := { name := "ytijhjfpiglaleaa", sum := "49b892f52138b4d76d9ddf459c02778726c1fb43b905e4fbfe6a139e9db58f3e", checked := Try.checked }
namespace Rows
def none {H : Type} : Left H := { results := [], args := [] }

/-- 'tarpaulinlaw13.TimerMany': WHATEVER THE INPUT: true; the input reads as it did. -/
def timerManySpec : ChangeSpec := { name := "timerMany", fn := fun _ => fun
  | [d1, d2] => { results := [.lit (.bool true)], args := [d1, d2] }
  | _ => none }
def timerManyRow : OpenClaim := { program := "ytijhjfpiglaleaa", sum := "49b892f52138b4d76d9ddf459c02778726c1fb43b905e4fbfe6a139e9db58f3e", func := "tarpaulin/tarpaulinlaw13.TimerMany", spec := "timerMany", unfollowed := true, recurses := true, apart := false }
def TimerManySaid : Prop := timerManyRow.holds Try.pinned (OpenSpec.ofChange timerManySpec)

/-- ITS FALSE NEIGHBOUR: 'it returns false'. Refute it at one input. -/
def timerManyWrong : ChangeSpec := { name := "timerMany", fn := fun _ => fun
  | [d1, d2] => { results := [.lit (.bool false)], args := [d1, d2] }
  | _ => none }
def TimerManyWrongFalsely : Prop := timerManyRow.holds Try.pinned (OpenSpec.ofChange timerManyWrong)

/-- 'tarpaulinlaw13.TimerLapses': WHATEVER THE INPUT: true; the input reads as it did. -/
def timerLapsesSpec : ChangeSpec := { name := "timerLapses", fn := fun _ => fun
  | [d1, d2, d3, d4] => { results := [.lit (.bool true)], args := [d1, d2, d3, d4] }
  | _ => none }
def timerLapsesRow : OpenClaim := { program := "ytijhjfpiglaleaa", sum := "49b892f52138b4d76d9ddf459c02778726c1fb43b905e4fbfe6a139e9db58f3e", func := "tarpaulin/tarpaulinlaw13.TimerLapses", spec := "timerLapses", unfollowed := true, recurses := true, apart := false }
def TimerLapsesSaid : Prop := timerLapsesRow.holds Try.pinned (OpenSpec.ofChange timerLapsesSpec)

/-- ITS FALSE NEIGHBOUR: 'it returns false'. Refute it at one input. -/
def timerLapsesWrong : ChangeSpec := { name := "timerLapses", fn := fun _ => fun
  | [d1, d2, d3, d4] => { results := [.lit (.bool false)], args := [d1, d2, d3, d4] }
  | _ => none }
def TimerLapsesWrongFalsely : Prop := timerLapsesRow.holds Try.pinned (OpenSpec.ofChange timerLapsesWrong)

/-- 'tarpaulinlaw13.TimerAnew': WHATEVER THE INPUT: true; the input reads as it did. -/
def timerAnewSpec : ChangeSpec := { name := "timerAnew", fn := fun _ => fun
  | [d1, d2, d3] => { results := [.lit (.bool true)], args := [d1, d2, d3] }
  | _ => none }
def timerAnewRow : OpenClaim := { program := "ytijhjfpiglaleaa", sum := "49b892f52138b4d76d9ddf459c02778726c1fb43b905e4fbfe6a139e9db58f3e", func := "tarpaulin/tarpaulinlaw13.TimerAnew", spec := "timerAnew", unfollowed := true, recurses := true, apart := false }
def TimerAnewSaid : Prop := timerAnewRow.holds Try.pinned (OpenSpec.ofChange timerAnewSpec)

/-- ITS FALSE NEIGHBOUR: 'it returns false'. Refute it at one input. -/
def timerAnewWrong : ChangeSpec := { name := "timerAnew", fn := fun _ => fun
  | [d1, d2, d3] => { results := [.lit (.bool false)], args := [d1, d2, d3] }
  | _ => none }
def TimerAnewWrongFalsely : Prop := timerAnewRow.holds Try.pinned (OpenSpec.ofChange timerAnewWrong)

/-- 'tarpaulinlaw13.TimerTicks': WHATEVER THE INPUT: true; the input reads as it did. -/
def timerTicksSpec : ChangeSpec := { name := "timerTicks", fn := fun _ => fun
  | [d1, d2] => { results := [.lit (.bool true)], args := [d1, d2] }
  | _ => none }
def timerTicksRow : OpenClaim := { program := "ytijhjfpiglaleaa", sum := "49b892f52138b4d76d9ddf459c02778726c1fb43b905e4fbfe6a139e9db58f3e", func := "tarpaulin/tarpaulinlaw13.TimerTicks", spec := "timerTicks", unfollowed := true, recurses := true, apart := false }
def TimerTicksSaid : Prop := timerTicksRow.holds Try.pinned (OpenSpec.ofChange timerTicksSpec)

/-- ITS FALSE NEIGHBOUR: 'it returns false'. Refute it at one input. -/
def timerTicksWrong : ChangeSpec := { name := "timerTicks", fn := fun _ => fun
  | [d1, d2] => { results := [.lit (.bool false)], args := [d1, d2] }
  | _ => none }
def TimerTicksWrongFalsely : Prop := timerTicksRow.holds Try.pinned (OpenSpec.ofChange timerTicksWrong)

/-- 'tarpaulinlaw13.TimerStops': WHATEVER THE INPUT: true; the input reads as it did. -/
def timerStopsSpec : ChangeSpec := { name := "timerStops", fn := fun _ => fun
  | [d1, d2, d3] => { results := [.lit (.bool true)], args := [d1, d2, d3] }
  | _ => none }
def timerStopsRow : OpenClaim := { program := "ytijhjfpiglaleaa", sum := "49b892f52138b4d76d9ddf459c02778726c1fb43b905e4fbfe6a139e9db58f3e", func := "tarpaulin/tarpaulinlaw13.TimerStops", spec := "timerStops", unfollowed := true, recurses := true, apart := false }
def TimerStopsSaid : Prop := timerStopsRow.holds Try.pinned (OpenSpec.ofChange timerStopsSpec)

/-- ITS FALSE NEIGHBOUR: 'it returns false'. Refute it at one input. -/
def timerStopsWrong : ChangeSpec := { name := "timerStops", fn := fun _ => fun
  | [d1, d2, d3] => { results := [.lit (.bool false)], args := [d1, d2, d3] }
  | _ => none }
def TimerStopsWrongFalsely : Prop := timerStopsRow.holds Try.pinned (OpenSpec.ofChange timerStopsWrong)

/-- 'tarpaulinlaw13.TimerStale': WHATEVER THE INPUT: true; the input reads as it did. -/
def timerStaleSpec : ChangeSpec := { name := "timerStale", fn := fun _ => fun
  | [d1, d2, d3] => { results := [.lit (.bool true)], args := [d1, d2, d3] }
  | _ => none }
def timerStaleRow : OpenClaim := { program := "ytijhjfpiglaleaa", sum := "49b892f52138b4d76d9ddf459c02778726c1fb43b905e4fbfe6a139e9db58f3e", func := "tarpaulin/tarpaulinlaw13.TimerStale", spec := "timerStale", unfollowed := true, recurses := true, apart := false }
def TimerStaleSaid : Prop := timerStaleRow.holds Try.pinned (OpenSpec.ofChange timerStaleSpec)

/-- ITS FALSE NEIGHBOUR: 'it returns false'. Refute it at one input. -/
def timerStaleWrong : ChangeSpec := { name := "timerStale", fn := fun _ => fun
  | [d1, d2, d3] => { results := [.lit (.bool false)], args := [d1, d2, d3] }
  | _ => none }
def TimerStaleWrongFalsely : Prop := timerStaleRow.holds Try.pinned (OpenSpec.ofChange timerStaleWrong)

/-- 'tarpaulinlaw13.TimerWaits': WHATEVER THE INPUT: true; the input reads as it did. -/
def timerWaitsSpec : ChangeSpec := { name := "timerWaits", fn := fun _ => fun
  | [d1, d2, d3] => { results := [.lit (.bool true)], args := [d1, d2, d3] }
  | _ => none }
def timerWaitsRow : OpenClaim := { program := "ytijhjfpiglaleaa", sum := "49b892f52138b4d76d9ddf459c02778726c1fb43b905e4fbfe6a139e9db58f3e", func := "tarpaulin/tarpaulinlaw13.TimerWaits", spec := "timerWaits", unfollowed := true, recurses := true, apart := false }
def TimerWaitsSaid : Prop := timerWaitsRow.holds Try.pinned (OpenSpec.ofChange timerWaitsSpec)

/-- ITS FALSE NEIGHBOUR: 'it returns false'. Refute it at one input. -/
def timerWaitsWrong : ChangeSpec := { name := "timerWaits", fn := fun _ => fun
  | [d1, d2, d3] => { results := [.lit (.bool false)], args := [d1, d2, d3] }
  | _ => none }
def TimerWaitsWrongFalsely : Prop := timerWaitsRow.holds Try.pinned (OpenSpec.ofChange timerWaitsWrong)

/- THE SECOND FORM. 'bulk': how many values and letters a reading holds, each counted each time it is reached (what is shared counts as often as it is met; a slice's spare places count too). A statement '..UptoSaid' is the law's where the arguments, and the package variables that the reading takes, are together of bulk at most 1048576: NARROWER than '..Said'. Prove '..Said' where nothing that the law and all that it calls make is longer than what came in: it says more and counts as full. Else prove '..UptoSaid'. A law counts once. -/
mutual
def uptoBulk {H : Type} : DataW H → Nat
  | .lit (.string bytes) => bytes.length + 1
  | .lit _ => 1
  | .nil => 1
  | .ptr d => uptoBulk d + 1
  | .slice elems spare => uptoBulkAll elems + uptoBulkAll spare + 1
  | .agg parts => uptoBulkAll parts + 1
  | .iface _ d => uptoBulk d + 1
  | .map entries => uptoBulkEntries entries + 1
  | .held _ => 1
def uptoBulkAll {H : Type} : List (DataW H) → Nat
  | [] => 0
  | d :: r => uptoBulk d + uptoBulkAll r
def uptoBulkEntries {H : Type} : List (Lit × DataW H) → Nat
  | [] => 0
  | x :: r => uptoBulkEntry x + uptoBulkEntries r
def uptoBulkEntry {H : Type} : Lit × DataW H → Nat
  | (.string bytes, d) => bytes.length + uptoBulk d + 1
  | (_, d) => uptoBulk d + 1
 end
def uptoSmall : (H : Type) → List (DataW H) → Bool := fun _ ds => decide (uptoBulkAll ds ≤ 1048576)
def OpenSpec.upto (s : _root_.Go.ChangeSpec) : _root_.Go.OpenSpec := { _root_.Go.OpenSpec.ofChange s with cond := some uptoSmall }

/-- 'tarpaulinlaw13.TimerMany', WHERE WHAT IT READS IS OF BULK AT MOST 1048576: true; the input reads as it did. -/
def timerManyUptoRow : OpenClaim := { program := "ytijhjfpiglaleaa", sum := "49b892f52138b4d76d9ddf459c02778726c1fb43b905e4fbfe6a139e9db58f3e", func := "tarpaulin/tarpaulinlaw13.TimerMany", spec := "timerMany", unfollowed := true, recurses := true, apart := false, narrowed := true }
def TimerManyUptoSaid : Prop := timerManyUptoRow.holds Try.pinned (OpenSpec.upto timerManySpec)

/-- 'tarpaulinlaw13.TimerLapses', WHERE WHAT IT READS IS OF BULK AT MOST 1048576: true; the input reads as it did. -/
def timerLapsesUptoRow : OpenClaim := { program := "ytijhjfpiglaleaa", sum := "49b892f52138b4d76d9ddf459c02778726c1fb43b905e4fbfe6a139e9db58f3e", func := "tarpaulin/tarpaulinlaw13.TimerLapses", spec := "timerLapses", unfollowed := true, recurses := true, apart := false, narrowed := true }
def TimerLapsesUptoSaid : Prop := timerLapsesUptoRow.holds Try.pinned (OpenSpec.upto timerLapsesSpec)

/-- 'tarpaulinlaw13.TimerAnew', WHERE WHAT IT READS IS OF BULK AT MOST 1048576: true; the input reads as it did. -/
def timerAnewUptoRow : OpenClaim := { program := "ytijhjfpiglaleaa", sum := "49b892f52138b4d76d9ddf459c02778726c1fb43b905e4fbfe6a139e9db58f3e", func := "tarpaulin/tarpaulinlaw13.TimerAnew", spec := "timerAnew", unfollowed := true, recurses := true, apart := false, narrowed := true }
def TimerAnewUptoSaid : Prop := timerAnewUptoRow.holds Try.pinned (OpenSpec.upto timerAnewSpec)

/-- 'tarpaulinlaw13.TimerTicks', WHERE WHAT IT READS IS OF BULK AT MOST 1048576: true; the input reads as it did. -/
def timerTicksUptoRow : OpenClaim := { program := "ytijhjfpiglaleaa", sum := "49b892f52138b4d76d9ddf459c02778726c1fb43b905e4fbfe6a139e9db58f3e", func := "tarpaulin/tarpaulinlaw13.TimerTicks", spec := "timerTicks", unfollowed := true, recurses := true, apart := false, narrowed := true }
def TimerTicksUptoSaid : Prop := timerTicksUptoRow.holds Try.pinned (OpenSpec.upto timerTicksSpec)

/-- 'tarpaulinlaw13.TimerStops', WHERE WHAT IT READS IS OF BULK AT MOST 1048576: true; the input reads as it did. -/
def timerStopsUptoRow : OpenClaim := { program := "ytijhjfpiglaleaa", sum := "49b892f52138b4d76d9ddf459c02778726c1fb43b905e4fbfe6a139e9db58f3e", func := "tarpaulin/tarpaulinlaw13.TimerStops", spec := "timerStops", unfollowed := true, recurses := true, apart := false, narrowed := true }
def TimerStopsUptoSaid : Prop := timerStopsUptoRow.holds Try.pinned (OpenSpec.upto timerStopsSpec)

/-- 'tarpaulinlaw13.TimerStale', WHERE WHAT IT READS IS OF BULK AT MOST 1048576: true; the input reads as it did. -/
def timerStaleUptoRow : OpenClaim := { program := "ytijhjfpiglaleaa", sum := "49b892f52138b4d76d9ddf459c02778726c1fb43b905e4fbfe6a139e9db58f3e", func := "tarpaulin/tarpaulinlaw13.TimerStale", spec := "timerStale", unfollowed := true, recurses := true, apart := false, narrowed := true }
def TimerStaleUptoSaid : Prop := timerStaleUptoRow.holds Try.pinned (OpenSpec.upto timerStaleSpec)

/-- 'tarpaulinlaw13.TimerWaits', WHERE WHAT IT READS IS OF BULK AT MOST 1048576: true; the input reads as it did. -/
def timerWaitsUptoRow : OpenClaim := { program := "ytijhjfpiglaleaa", sum := "49b892f52138b4d76d9ddf459c02778726c1fb43b905e4fbfe6a139e9db58f3e", func := "tarpaulin/tarpaulinlaw13.TimerWaits", spec := "timerWaits", unfollowed := true, recurses := true, apart := false, narrowed := true }
def TimerWaitsUptoSaid : Prop := timerWaitsUptoRow.holds Try.pinned (OpenSpec.upto timerWaitsSpec)

end Rows
end Go.Proofs.Ytijhjfpiglaleaa
