/- The code of the functions that LapseOdd reaches, and that it is compiled from the seat's program. PRINTED by our claimlib.py over our printam.lean. -/
import Derived.Test.YtbmgljppafggbaaChecked
import Derived.Test.YtbmgljppafggbaaLapseOddG2
import Derived.KernelRfl
set_option maxRecDepth 100000
set_option linter.unusedVariables false
namespace Go.Proofs.Ytbmgljppafggbaa.T
open Go.AM
/-- which of the program's functions a name stands for -/
def Nn (k : Nat) : Nat := bif Nat.beq k 10 then 12 else bif Nat.beq k 165 then 17 else bif Nat.beq k 166 then 18 else bif Nat.beq k 167 then 19 else bif Nat.beq k 168 then 8 else bif Nat.beq k 170 then 6 else bif Nat.beq k 176 then 4 else 0
/-- tarpaulin/tarpaulinlaw24.LapseOdd -/
def b4 : Nat := 17592186052551
theorem c4 : compFn Try.prog b4 Try.f4 = some (c_tarpaulinlaw24_LapseOdd Nn) := by kernel_rfl
/-- tarpaulin/tarpaulinlaw24.awake -/
def b6 : Nat := 1839
def a6 : AFn := ⟨(.seq (.reg [⟨.l 0, none, .mv, [.c (.b false)]⟩])
 (.seq (.reg [⟨.t 12, none, (.call 13), []⟩, ⟨.t 11, none, .mv, [.t 12]⟩, ⟨.t 13, none, (.ext 0), [.t 11]⟩, ⟨.t 14, none, (.ext 1), [.t 11]⟩, ⟨.l 1, none, .mv, [.t 13]⟩, ⟨.l 2, none, .mv, [.t 14]⟩])
 (.seq (.seq (.reg [⟨.t 15, none, .mv, [.l 2]⟩, ⟨.t 16, none, (.un .not), [.t 15]⟩])
 (.cond (.t 16) (.seq (.reg [⟨.l 0, none, .mv, [.c (.b false)]⟩])
 .ret) .skip))
 (.seq (.reg [⟨.t 18, none, .mv, [.l 1]⟩, ⟨.t 19, none, .nilchk, [.t 18]⟩, ⟨.t 20, none, (.fad 1), [.t 19]⟩, ⟨.t 21, none, (.ld none), [.t 20]⟩, ⟨.t 22, none, (.call 14), [.t 21, .c (.i .i64 0)]⟩, ⟨.t 17, none, .mv, [.t 22]⟩, ⟨.t 23, none, (.ext 0), [.t 17]⟩, ⟨.t 24, none, (.ext 1), [.t 17]⟩, ⟨.t 25, none, (.ext 2), [.t 17]⟩, ⟨.l 3, none, .mv, [.t 23]⟩, ⟨.t 4, none, .mv, [.t 24]⟩, ⟨.l 5, none, .mv, [.t 25]⟩])
 (.seq (.reg [⟨.t 27, none, .mv, [.l 1]⟩, ⟨.t 28, none, .nilchk, [.t 27]⟩, ⟨.t 29, none, (.fad 1), [.t 28]⟩, ⟨.t 30, none, (.ld none), [.t 29]⟩, ⟨.t 31, none, .mv, [.l 3]⟩, ⟨.t 32, none, (.call 15), [.t 30, .t 31, .c (.i .i64 5)]⟩, ⟨.t 26, none, .mv, [.t 32]⟩, ⟨.t 33, none, (.ext 0), [.t 26]⟩, ⟨.t 34, none, (.ext 1), [.t 26]⟩, ⟨.t 35, none, (.ext 2), [.t 26]⟩, ⟨.t 6, none, .mv, [.t 33]⟩, ⟨.t 7, none, .mv, [.t 34]⟩, ⟨.l 8, none, .mv, [.t 35]⟩])
 (.seq (.reg [⟨.t 36, none, .mv, [.l 1]⟩, ⟨.t 37, none, .nilchk, [.t 36]⟩, ⟨.t 38, none, (.fad 1), [.t 37]⟩, ⟨.t 39, none, (.ld none), [.t 38]⟩, ⟨.t 40, none, (.bslice [(.i .i64 0)] 2 1 [0, 1]), [.c (.i .i64 (-1)), .c (.i .i64 0)]⟩, ⟨.t 41, none, (.bslice [(.b false)] 2 1 [0, 1]), [.c (.b false), .c (.b true)]⟩, ⟨.t 42, none, (.call 16), [.t 39, .t 40, .t 41]⟩, ⟨.l 9, none, .mv, [.t 42]⟩])
 (.seq (.reg [⟨.t 43, none, (.build [(.i .i64 0), (.b false), (.i .i64 0), (.i .i64 0), (.i .i64 0), (.b false)] [(0, 1), (2, 1), (3, 1)]), [.c (.i .i64 (-1)), .c (.i .i64 1), .c (.i .i64 1)]⟩, ⟨.t 44, none, (.build [(.i .i64 0), (.b false), (.i .i64 0), (.i .i64 0), (.i .i64 0), (.b false)] [(0, 1), (1, 1)]), [.c (.i .i64 0), .c (.b true)]⟩, ⟨.t 45, none, (.bslice [(.i .i64 0), (.b false), (.i .i64 0), (.i .i64 0), (.i .i64 0), (.b false)] 2 6 [0, 1]), [.t 43, .t 44]⟩, ⟨.l 10, none, .mv, [.t 45]⟩])
 (.seq (.reg [⟨.t 46, none, .mv, [.l 5]⟩, ⟨.t 47, none, (.bin .eql), [.t 46, .c (.i .i64 0)]⟩, ⟨.t 48, none, .mv, [.t 47]⟩, ⟨.t 49, (some (.t 48, true)), .mv, [.l 8]⟩, ⟨.t 50, (some (.t 48, true)), (.bin .eql), [.t 49, .c (.i .i64 0)]⟩, ⟨.t 51, none, .pick, [.t 48, .t 50, .c (.b false)]⟩, ⟨.t 52, none, .mv, [.t 51]⟩, ⟨.t 53, (some (.t 52, true)), .mv, [.l 9]⟩, ⟨.t 54, (some (.t 52, true)), .lenSl, [.t 53]⟩, ⟨.t 55, (some (.t 52, true)), (.bin .eql), [.t 54, .c (.i .i64 2)]⟩, ⟨.t 56, none, .pick, [.t 52, .t 55, .c (.b false)]⟩, ⟨.t 57, none, .mv, [.t 56]⟩, ⟨.t 58, (some (.t 57, true)), .mv, [.l 9]⟩, ⟨.t 59, (some (.t 57, true)), (.iad 6), [.t 58, .c (.i .i64 1)]⟩, ⟨.t 60, (some (.t 57, true)), (.ld (some 6)), [.t 59]⟩, ⟨.t 61, (some (.t 57, true)), (.build [(.i .i64 0), (.b false), (.i .i64 0), (.i .i64 0), (.i .i64 0), (.b false)] [(1, 1), (2, 1), (3, 1)]), [.c (.b true), .c (.i .i64 1), .c (.i .i64 5)]⟩, ⟨.t 62, (some (.t 57, true)), (.eq false (.agg [(0, 1), (1, 0), (2, 1), (3, 1), (4, 1), (5, 0)])), [.t 60, .t 61]⟩, ⟨.t 63, none, .pick, [.t 57, .t 62, .c (.b false)]⟩, ⟨.t 64, none, .mv, [.t 63]⟩, ⟨.t 65, (some (.t 64, true)), .mv, [.l 9]⟩, ⟨.t 66, (some (.t 64, true)), (.call 8), [.t 65, .c (.i .i64 0)]⟩, ⟨.t 67, none, .pick, [.t 64, .t 66, .c (.b false)]⟩, ⟨.t 68, none, .mv, [.t 67]⟩, ⟨.t 69, (some (.t 68, true)), .mv, [.l 10]⟩, ⟨.t 70, (some (.t 68, true)), (.call 8), [.t 69, .c (.i .i64 0)]⟩, ⟨.t 71, (some (.t 68, true)), (.un .not), [.t 70]⟩, ⟨.t 72, none, .pick, [.t 68, .t 71, .c (.b false)]⟩, ⟨.t 73, none, .mv, [.t 72]⟩, ⟨.t 74, (some (.t 73, true)), .mv, [.l 10]⟩, ⟨.t 75, (some (.t 73, true)), (.call 10), [.t 74, .c (.i .i64 1), .c (.i .i64 0)]⟩, ⟨.t 76, none, .pick, [.t 73, .t 75, .c (.b false)]⟩, ⟨.t 77, none, .mv, [.t 76]⟩, ⟨.t 78, (some (.t 77, true)), .mv, [.l 10]⟩, ⟨.t 79, (some (.t 77, true)), (.call 10), [.t 78, .c (.i .i64 0), .c (.i .i64 1)]⟩, ⟨.t 80, (some (.t 77, true)), (.un .not), [.t 79]⟩, ⟨.t 81, none, .pick, [.t 77, .t 80, .c (.b false)]⟩, ⟨.t 82, none, .mv, [.t 81]⟩, ⟨.t 83, (some (.t 82, true)), (.call 16), [.c (.p none), .c (.sl none 0 0 0), .c (.sl none 0 0 0)]⟩, ⟨.t 84, (some (.t 82, true)), .lenSl, [.t 83]⟩, ⟨.t 85, (some (.t 82, true)), (.bin .eql), [.t 84, .c (.i .i64 0)]⟩, ⟨.t 86, none, .pick, [.t 82, .t 85, .c (.b false)]⟩, ⟨.l 0, none, .mv, [.t 86]⟩])
 .ret)))))))), [.tmp (.l 0)]⟩
theorem c6 : compFn Try.prog b6 Try.f6 = some a6 := by kernel_rfl
/-- tarpaulin/lapse.Sound -/
def b8 : Nat := 2035
theorem c8 : compFn Try.prog b8 Try.f8 = some (c_lapse_Sound Nn) := by kernel_rfl
/-- tarpaulin/lapse.Behind -/
def b10 : Nat := 839
def a10 : AFn := ⟨(.seq (.reg [⟨.l 6, none, .mv, [.c (.b false)]⟩])
 (.seq (.seq (.reg [⟨.t 7, none, .mv, [.l 0]⟩, ⟨.l 8, none, .lenSl, [.t 7]⟩, ⟨.l 9, none, .mv, [.c (.i .i64 0)]⟩])
 (.block 0 (.loop (.seq (.reg [⟨.t 10, none, (.bin .lss), [.l 9, .l 8]⟩])
 (.seq (.cond (.t 10) .skip (.exit 0))
 (.seq (.block 1 (.seq (.block 2 (.seq (.reg [⟨.t 12, none, .mv, [.l 1]⟩, ⟨.t 13, none, (.bin .lss), [.t 12, .c (.i .i64 0)]⟩, ⟨.t 14, none, .mv, [.t 13]⟩, ⟨.t 15, (some (.t 14, false)), .mv, [.l 1]⟩, ⟨.t 16, (some (.t 14, false)), .mv, [.l 0]⟩, ⟨.t 17, (some (.t 14, false)), .lenSl, [.t 16]⟩, ⟨.t 18, (some (.t 14, false)), (.bin .geq), [.t 15, .t 17]⟩, ⟨.t 19, none, .pick, [.t 14, .c (.b true), .t 18]⟩, ⟨.t 11, none, .mv, [.t 19]⟩])
 (.cond (.t 11) (.seq (.reg [⟨.l 6, none, .mv, [.c (.b false)]⟩])
 .ret) (.seq (.reg [⟨.t 21, none, .mv, [.l 1]⟩, ⟨.t 22, none, .mv, [.l 2]⟩, ⟨.t 23, none, (.bin .eql), [.t 21, .t 22]⟩, ⟨.t 20, none, .mv, [.t 23]⟩])
 (.cond (.t 20) (.seq (.reg [⟨.l 6, none, .mv, [.c (.b true)]⟩])
 .ret) (.seq (.reg [⟨.t 25, none, .mv, [.l 0]⟩, ⟨.t 26, none, .mv, [.l 1]⟩, ⟨.t 27, none, (.iad 6), [.t 25, .t 26]⟩, ⟨.t 28, none, (.fad 1), [.t 27]⟩, ⟨.t 29, none, (.ld none), [.t 28]⟩, ⟨.t 30, none, (.un .not), [.t 29]⟩, ⟨.t 24, none, .mv, [.t 30]⟩])
 (.cond (.t 24) (.seq (.reg [⟨.l 6, none, .mv, [.c (.b false)]⟩])
 .ret) .skip)))))))
 (.reg [⟨.t 31, none, .mv, [.l 0]⟩, ⟨.t 32, none, .mv, [.l 1]⟩, ⟨.t 33, none, (.iad 6), [.t 31, .t 32]⟩, ⟨.t 34, none, (.fad 0), [.t 33]⟩, ⟨.t 35, none, (.ld none), [.t 34]⟩, ⟨.l 1, none, .mv, [.t 35]⟩])))
 (.reg [⟨.t 36, none, (.bin .add), [.l 9, .c (.i .i64 1)]⟩, ⟨.l 9, none, .mv, [.t 36]⟩])))))))
 (.seq (.reg [⟨.l 6, none, .mv, [.c (.b false)]⟩])
 .ret))), [.tmp (.l 6)]⟩
theorem c10 : compFn Try.prog b10 Try.f10 = some a10 := by kernel_rfl
/-- tarpaulin/tarpaulinalike.Round -/
def b12 : Nat := 19
theorem c12 : compFn Try.prog b12 Try.f12 = some (c_tarpaulinalike_Round Nn) := by kernel_rfl
/-- tarpaulin/tarpaulinlaw24.fresh -/
def b13 : Nat := 31
def a13 : AFn := ⟨(.seq (.reg [⟨.l 0, none, .mv, [.c (.p none)]⟩, ⟨.l 1, none, .mv, [.c (.b false)]⟩])
 (.seq (.reg [⟨.t 5, none, (.call 21), []⟩, ⟨.l 2, none, .mv, [.t 5]⟩])
 (.seq (.reg [⟨.t 6, none, (.build [(.sl none 0 0 0), (.i .i64 0), (.sl none 0 0 0), (.sl none 0 0 0), (.i .i64 0)] []), []⟩, ⟨.t 7, none, .box, [.t 6]⟩, ⟨.l 3, none, .mv, [.t 7]⟩])
 (.seq (.reg [⟨.t 8, none, .mv, [.l 2]⟩, ⟨.t 9, none, .mv, [.l 2]⟩, ⟨.t 10, none, (.call 22), [.t 9]⟩, ⟨.t 11, none, .mv, [.l 3]⟩, ⟨.t 12, none, .mv, [.l 3]⟩, ⟨.t 13, none, (.call 23), [.t 12]⟩, ⟨.t 14, none, (.build [(.p none), (.p none), (.p none), (.p none), (.i .i64 0)] [(0, 1), (1, 1), (2, 1), (3, 1)]), [.t 8, .t 10, .t 11, .t 13]⟩, ⟨.t 15, none, .box, [.t 14]⟩, ⟨.l 4, none, .mv, [.t 15]⟩])
 (.seq (.reg [⟨.t 16, none, .mv, [.l 4]⟩, ⟨.t 17, none, .mv, [.l 4]⟩, ⟨.t 18, none, .nilchk, [.t 17]⟩, ⟨.t 19, none, (.fad 0), [.t 18]⟩, ⟨.t 20, none, (.ld none), [.t 19]⟩, ⟨.t 21, none, (.eq true .ptr), [.t 20, .c (.p none)]⟩, ⟨.t 22, none, .mv, [.t 21]⟩, ⟨.t 23, (some (.t 22, true)), .mv, [.l 4]⟩, ⟨.t 24, (some (.t 22, true)), .nilchk, [.t 23]⟩, ⟨.t 25, (some (.t 22, true)), (.fad 1), [.t 24]⟩, ⟨.t 26, (some (.t 22, true)), (.ld none), [.t 25]⟩, ⟨.t 27, (some (.t 22, true)), (.eq true .ptr), [.t 26, .c (.p none)]⟩, ⟨.t 28, none, .pick, [.t 22, .t 27, .c (.b false)]⟩, ⟨.l 0, none, .mv, [.t 16]⟩, ⟨.l 1, none, .mv, [.t 28]⟩])
 .ret))))), [.tmp (.l 0), .tmp (.l 1)]⟩
theorem c13 : compFn Try.prog b13 Try.f13 = some a13 := by kernel_rfl
/-- (*tarpaulin/ctx.Set).Cancels -/
def b14 : Nat := 1011
def a14 : AFn := ⟨(.seq (.reg [⟨.l 4, none, .mv, [.c (.i .i64 0)]⟩, ⟨.l 5, none, .mv, [.c (.sl none 0 0 0)]⟩, ⟨.l 6, none, .mv, [.c (.i .i64 0)]⟩])
 (.seq (.seq (.reg [⟨.t 10, none, .mv, [.l 0]⟩, ⟨.t 11, none, .mv, [.l 1]⟩, ⟨.t 12, none, (.call 24), [.t 10, .t 11]⟩, ⟨.l 7, none, .mv, [.t 12]⟩])
 (.seq (.reg [⟨.t 13, none, .mv, [.l 7]⟩, ⟨.t 14, none, (.bin .neq), [.t 13, .c (.i .i64 0)]⟩])
 (.cond (.t 14) (.seq (.reg [⟨.t 15, none, .mv, [.l 7]⟩, ⟨.l 4, none, .mv, [.c (.i .i64 0)]⟩, ⟨.l 5, none, .mv, [.c (.sl none 0 0 0)]⟩, ⟨.l 6, none, .mv, [.t 15]⟩])
 .ret) .skip)))
 (.seq (.reg [⟨.t 16, none, .mv, [.l 0]⟩, ⟨.t 17, none, .nilchk, [.t 16]⟩, ⟨.t 18, none, (.fad 2), [.t 17]⟩, ⟨.t 19, none, (.ld none), [.t 18]⟩, ⟨.t 20, none, .mv, [.l 1]⟩, ⟨.t 21, none, (.iad 9), [.t 19, .t 20]⟩, ⟨.t 22, none, (.ld (some 9)), [.t 21]⟩, ⟨.l 8, none, (.alloc [(.i .i64 0), (.b false), (.p none), (.i .i64 0), (.i .i64 0), (.i .i64 0), (.b false), (.b false), (.i .i64 0)]), []⟩, ⟨.no, none, (.st 9), [.l 8, .t 22]⟩])
 (.seq (.regD [⟨.t 23, none, .mv, [.l 0]⟩, ⟨.t 24, none, (.call 26), []⟩, ⟨.t 25, none, (.fad 5), [.l 8]⟩, ⟨.t 26, none, (.ld none), [.t 25]⟩, ⟨.t 27, none, (.fad 6), [.l 8]⟩, ⟨.t 28, none, (.ld none), [.t 27]⟩, ⟨.t 29, none, (.build [(.i .i64 0), (.b false), (.p none), (.i .i64 0), (.i .i64 0), (.i .i64 0), (.b false), (.b false), (.i .i64 0)] [(2, 1), (5, 1), (6, 1)]), [.t 24, .t 26, .t 28]⟩, ⟨.t 30, none, (.fad 0), [.l 8]⟩, ⟨.t 31, none, (.ld none), [.t 30]⟩, ⟨.t 32, none, (.call 25), [.t 23, .t 29, .t 31]⟩, ⟨.l 9, none, .mv, [.t 32]⟩] [(3, 0), (5, 0), (8, 0)])
 (.seq (.reg [⟨.t 33, none, .mv, [.l 9]⟩, ⟨.t 34, none, .mv, [.l 0]⟩, ⟨.t 35, none, .mv, [.l 9]⟩, ⟨.t 36, none, .mv, [.l 1]⟩, ⟨.t 37, none, (.call 27), [.t 34, .t 35, .t 36]⟩, ⟨.l 4, none, .mv, [.t 33]⟩, ⟨.l 5, none, .mv, [.t 37]⟩, ⟨.l 6, none, .mv, [.c (.i .i64 0)]⟩])
 .ret))))), [.tmp (.l 4), .tmp (.l 5), .tmp (.l 6)]⟩
theorem c14 : compFn Try.prog b14 Try.f14 = some a14 := by kernel_rfl
/-- (*tarpaulin/ctx.Set).Cancel -/
def b15 : Nat := 1991
def a15 : AFn := ⟨(.seq (.reg [⟨.l 6, none, .mv, [.c (.sl none 0 0 0)]⟩, ⟨.l 7, none, .mv, [.c (.sl none 0 0 0)]⟩, ⟨.l 8, none, .mv, [.c (.i .i64 0)]⟩])
 (.seq (.block 0 (.seq (.reg [⟨.t 12, none, .mv, [.l 0]⟩, ⟨.t 13, none, .mv, [.l 1]⟩, ⟨.t 14, none, (.call 28), [.t 12, .t 13]⟩, ⟨.t 15, none, (.un .not), [.t 14]⟩, ⟨.t 11, none, .mv, [.t 15]⟩])
 (.cond (.t 11) (.seq (.reg [⟨.l 6, none, .mv, [.c (.sl none 0 0 0)]⟩, ⟨.l 7, none, .mv, [.c (.sl none 0 0 0)]⟩, ⟨.l 8, none, .mv, [.c (.i .i64 4)]⟩])
 .ret) (.seq (.reg [⟨.t 17, none, .mv, [.l 0]⟩, ⟨.t 18, none, .nilchk, [.t 17]⟩, ⟨.t 19, none, (.fad 2), [.t 18]⟩, ⟨.t 20, none, (.ld none), [.t 19]⟩, ⟨.t 21, none, .mv, [.l 1]⟩, ⟨.t 22, none, (.iad 9), [.t 20, .t 21]⟩, ⟨.t 23, none, (.fad 1), [.t 22]⟩, ⟨.t 24, none, (.ld none), [.t 23]⟩, ⟨.t 16, none, .mv, [.t 24]⟩])
 (.cond (.t 16) (.seq (.reg [⟨.l 6, none, .mv, [.c (.sl none 0 0 0)]⟩, ⟨.l 7, none, .mv, [.c (.sl none 0 0 0)]⟩, ⟨.l 8, none, .mv, [.c (.i .i64 1)]⟩])
 .ret) (.seq (.reg [⟨.t 26, none, .mv, [.l 2]⟩, ⟨.t 27, none, (.bin .lss), [.t 26, .c (.i .i64 1)]⟩, ⟨.t 25, none, .mv, [.t 27]⟩])
 (.cond (.t 25) (.reg [⟨.l 2, none, .mv, [.c (.i .i64 1)]⟩]) .skip)))))))
 (.seq (.reg [⟨.t 29, none, .mv, [.l 0]⟩, ⟨.t 30, none, .mv, [.l 1]⟩, ⟨.t 31, none, .mv, [.l 2]⟩, ⟨.t 32, none, (.call 29), [.t 29, .t 30, .c (.i .i64 1), .t 31]⟩, ⟨.t 28, none, .mv, [.t 32]⟩, ⟨.t 33, none, (.ext 0), [.t 28]⟩, ⟨.t 34, none, (.ext 1), [.t 28]⟩, ⟨.l 9, none, .mv, [.t 33]⟩, ⟨.l 10, none, .mv, [.t 34]⟩])
 (.seq (.reg [⟨.t 35, none, .mv, [.l 9]⟩, ⟨.t 36, none, .mv, [.l 10]⟩, ⟨.l 6, none, .mv, [.t 35]⟩, ⟨.l 7, none, .mv, [.t 36]⟩, ⟨.l 8, none, .mv, [.c (.i .i64 0)]⟩])
 .ret)))), [.tmp (.l 6), .tmp (.l 7), .tmp (.l 8)]⟩
theorem c15 : compFn Try.prog b15 Try.f15 = some a15 := by kernel_rfl
/-- tarpaulin/lapse.Views -/
def b16 : Nat := 3527
def a16 : AFn := ⟨(.seq (.reg [⟨.l 6, none, .mv, [.c (.sl none 0 0 0)]⟩])
 (.seq (.seq (.reg [⟨.t 9, none, .mv, [.l 0]⟩, ⟨.l 10, none, (.call 30), [.t 9]⟩, ⟨.l 11, none, .mv, [.c (.i .i64 0)]⟩])
 (.block 0 (.loop (.seq (.reg [⟨.t 12, none, (.bin .lss), [.l 11, .l 10]⟩])
 (.seq (.cond (.t 12) .skip (.exit 0))
 (.seq (.block 1 (.seq (.reg [⟨.t 13, none, .mv, [.l 11]⟩, ⟨.l 7, none, .mv, [.t 13]⟩])
 (.seq (.reg [⟨.t 14, none, (.build [(.i .i64 0), (.b false), (.i .i64 0), (.i .i64 0), (.i .i64 0), (.b false)] [(0, 1)]), [.c (.i .i64 (-1))]⟩, ⟨.l 8, none, (.alloc [(.i .i64 0), (.b false), (.i .i64 0), (.i .i64 0), (.i .i64 0), (.b false)]), []⟩, ⟨.no, none, (.st 6), [.l 8, .t 14]⟩])
 (.seq (.seq (.reg [⟨.t 15, none, .mv, [.l 7]⟩, ⟨.t 16, none, .mv, [.l 1]⟩, ⟨.t 17, none, .lenSl, [.t 16]⟩, ⟨.t 18, none, (.bin .lss), [.t 15, .t 17]⟩])
 (.cond (.t 18) (.reg [⟨.t 19, none, .mv, [.l 1]⟩, ⟨.t 20, none, .mv, [.l 7]⟩, ⟨.t 21, none, (.iad 1), [.t 19, .t 20]⟩, ⟨.t 22, none, (.ld none), [.t 21]⟩, ⟨.t 23, none, (.fad 0), [.l 8]⟩, ⟨.no, none, (.st 1), [.t 23, .t 22]⟩]) .skip))
 (.seq (.reg [⟨.t 24, none, .mv, [.l 7]⟩, ⟨.t 25, none, .mv, [.l 2]⟩, ⟨.t 26, none, .lenSl, [.t 25]⟩, ⟨.t 27, none, (.bin .lss), [.t 24, .t 26]⟩, ⟨.t 28, none, .mv, [.t 27]⟩, ⟨.t 29, (some (.t 28, true)), .mv, [.l 2]⟩, ⟨.t 30, (some (.t 28, true)), .mv, [.l 7]⟩, ⟨.t 31, (some (.t 28, true)), (.iad 1), [.t 29, .t 30]⟩, ⟨.t 32, (some (.t 28, true)), (.ld none), [.t 31]⟩, ⟨.t 33, none, .pick, [.t 28, .t 32, .c (.b false)]⟩, ⟨.t 34, none, (.fad 1), [.l 8]⟩, ⟨.no, none, (.st 1), [.t 34, .t 33]⟩])
 (.seq (.reg [⟨.t 36, none, .mv, [.l 0]⟩, ⟨.t 37, none, .mv, [.l 7]⟩, ⟨.t 38, none, (.call 31), [.t 36, .t 37]⟩, ⟨.t 35, none, .mv, [.t 38]⟩, ⟨.t 39, none, (.ext 0), [.t 35]⟩, ⟨.t 40, none, (.ext 1), [.t 35]⟩, ⟨.t 41, none, (.fad 2), [.l 8]⟩, ⟨.no, none, (.st 1), [.t 41, .t 39]⟩])
 (.seq (.reg [⟨.t 43, none, .mv, [.l 0]⟩, ⟨.t 44, none, .mv, [.l 7]⟩, ⟨.t 45, none, (.call 32), [.t 43, .t 44]⟩, ⟨.t 42, none, .mv, [.t 45]⟩, ⟨.t 46, none, (.ext 0), [.t 42]⟩, ⟨.t 47, none, (.ext 1), [.t 42]⟩, ⟨.t 48, none, (.fad 3), [.l 8]⟩, ⟨.no, none, (.st 1), [.t 48, .t 46]⟩])
 (.seq (.reg [⟨.t 50, none, .mv, [.l 0]⟩, ⟨.t 51, none, .mv, [.l 7]⟩, ⟨.t 52, none, (.call 33), [.t 50, .t 51]⟩, ⟨.t 49, none, .mv, [.t 52]⟩, ⟨.t 53, none, (.ext 0), [.t 49]⟩, ⟨.t 54, none, (.ext 1), [.t 49]⟩, ⟨.t 55, none, (.ext 2), [.t 49]⟩, ⟨.t 56, none, (.fad 4), [.l 8]⟩, ⟨.no, none, (.st 1), [.t 56, .t 53]⟩, ⟨.t 57, none, (.fad 5), [.l 8]⟩, ⟨.no, none, (.st 1), [.t 57, .t 54]⟩])
 (.reg [⟨.t 58, none, .mv, [.l 6]⟩, ⟨.t 59, none, (.ld (some 6)), [.l 8]⟩, ⟨.t 60, none, (.bslice [(.i .i64 0), (.b false), (.i .i64 0), (.i .i64 0), (.i .i64 0), (.b false)] 1 6 [0]), [.t 59]⟩, ⟨.t 61, none, (.app 6 48), [.t 58, .t 60]⟩, ⟨.l 6, none, .mv, [.t 61]⟩])))))))))
 (.reg [⟨.t 62, none, (.bin .add), [.l 11, .c (.i .i64 1)]⟩, ⟨.l 11, none, .mv, [.t 62]⟩])))))))
 (.seq (.reg [⟨.t 63, none, .mv, [.l 6]⟩, ⟨.l 6, none, .mv, [.t 63]⟩])
 .ret))), [.tmp (.l 6)]⟩
theorem c16 : compFn Try.prog b16 Try.f16 = some a16 := by kernel_rfl
/-- (tarpaulin/lapse.View).code -/
def b17 : Nat := 23
theorem c17 : compFn Try.prog b17 Try.f17 = some (c_lapse_View_code Nn) := by kernel_rfl
/-- (tarpaulin/lapse.View).hangs -/
def b18 : Nat := 31
theorem c18 : compFn Try.prog b18 Try.f18 = some (c_lapse_View_hangs Nn) := by kernel_rfl
/-- tarpaulin/lapse.over -/
def b19 : Nat := 199
theorem c19 : compFn Try.prog b19 Try.f19 = some (c_lapse_over Nn) := by kernel_rfl
/-- tarpaulin/timer.New -/
def b21 : Nat := 1
def a21 : AFn := ⟨(.seq (.reg [⟨.l 0, none, .mv, [.c (.p none)]⟩])
 (.seq (.reg [⟨.t 1, none, (.call 34), []⟩, ⟨.t 2, none, (.build [(.sl none 0 0 0), (.p none), (.i .i64 0)] [(1, 1)]), [.t 1]⟩, ⟨.t 3, none, .box, [.t 2]⟩, ⟨.l 0, none, .mv, [.t 3]⟩])
 .ret)), [.tmp (.l 0)]⟩
theorem c21 : compFn Try.prog b21 Try.f21 = some a21 := by kernel_rfl
/-- tarpaulin/ctx.New -/
def b22 : Nat := 13
def a22 : AFn := ⟨(.seq (.reg [⟨.l 2, none, .mv, [.c (.p none)]⟩])
 (.seq (.reg [⟨.t 4, none, .mv, [.l 0]⟩, ⟨.t 5, none, (.call 35), []⟩, ⟨.t 6, none, .mkmap, []⟩, ⟨.t 7, none, (.build [(.p none), (.p none), (.sl none 0 0 0), (.sl none 0 0 0), (.m none)] [(0, 1), (1, 1), (4, 1)]), [.t 4, .t 5, .t 6]⟩, ⟨.t 8, none, .box, [.t 7]⟩, ⟨.l 3, none, .mv, [.t 8]⟩])
 (.seq (.reg [⟨.t 9, none, .mv, [.l 3]⟩, ⟨.t 10, none, (.build [(.i .i64 0), (.b false), (.p none), (.i .i64 0), (.i .i64 0), (.i .i64 0), (.b false), (.b false), (.i .i64 0)] [(1, 1)]), [.c (.b true)]⟩, ⟨.t 11, none, (.call 25), [.t 9, .t 10, .c (.i .i64 (-1))]⟩])
 (.seq (.reg [⟨.t 12, none, .mv, [.l 3]⟩, ⟨.l 2, none, .mv, [.t 12]⟩])
 .ret)))), [.tmp (.l 2)]⟩
theorem c22 : compFn Try.prog b22 Try.f22 = some a22 := by kernel_rfl
/-- tarpaulin/tarpaulinref9.NewCtx -/
def b23 : Nat := 13
def a23 : AFn := ⟨(.seq (.reg [⟨.l 2, none, .mv, [.c (.p none)]⟩])
 (.seq (.reg [⟨.t 4, none, .mv, [.l 0]⟩, ⟨.t 5, none, (.build [(.p none), (.sl none 0 0 0), (.sl none 0 0 0), (.sl none 0 0 0), (.sl none 0 0 0)] [(0, 1)]), [.t 4]⟩, ⟨.t 6, none, .box, [.t 5]⟩, ⟨.l 3, none, .mv, [.t 6]⟩])
 (.seq (.reg [⟨.t 7, none, .mv, [.l 3]⟩, ⟨.t 8, none, (.build [(.b false), (.i .i64 0), (.i .i64 0), (.b false), (.b false), (.i .i64 0), (.i .i64 0), (.i .i64 0), (.b false), (.b false), (.i .i64 0), (.p none)] [(4, 1), (10, 1)]), [.c (.b true), .c (.i .i64 (-1))]⟩, ⟨.t 9, none, (.call 36), [.t 7, .c (.i .i64 (-1)), .c (.b false), .t 8]⟩])
 (.seq (.reg [⟨.t 10, none, .mv, [.l 3]⟩, ⟨.l 2, none, .mv, [.t 10]⟩])
 .ret)))), [.tmp (.l 2)]⟩
theorem c23 : compFn Try.prog b23 Try.f23 = some a23 := by kernel_rfl
/-- (*tarpaulin/ctx.Set).room -/
def b24 : Nat := 19
def a24 : AFn := ⟨(.seq (.reg [⟨.l 4, none, .mv, [.c (.i .i64 0)]⟩])
 (.seq (.block 0 (.seq (.reg [⟨.t 6, none, .mv, [.l 0]⟩, ⟨.t 7, none, .mv, [.l 1]⟩, ⟨.t 8, none, (.call 28), [.t 6, .t 7]⟩, ⟨.t 9, none, (.un .not), [.t 8]⟩, ⟨.t 5, none, .mv, [.t 9]⟩])
 (.cond (.t 5) (.seq (.reg [⟨.l 4, none, .mv, [.c (.i .i64 4)]⟩])
 .ret) (.seq (.reg [⟨.t 11, none, .mv, [.l 0]⟩, ⟨.t 12, none, .nilchk, [.t 11]⟩, ⟨.t 13, none, (.fad 2), [.t 12]⟩, ⟨.t 14, none, (.ld none), [.t 13]⟩, ⟨.t 15, none, .lenSl, [.t 14]⟩, ⟨.t 16, none, (.bin .geq), [.t 15, .c (.i .i64 64)]⟩, ⟨.t 10, none, .mv, [.t 16]⟩])
 (.cond (.t 10) (.seq (.reg [⟨.l 4, none, .mv, [.c (.i .i64 3)]⟩])
 .ret) .skip)))))
 (.seq (.reg [⟨.l 4, none, .mv, [.c (.i .i64 0)]⟩])
 .ret))), [.tmp (.l 4)]⟩
theorem c24 : compFn Try.prog b24 Try.f24 = some a24 := by kernel_rfl
/-- (*tarpaulin/ctx.Set).add -/
def b25 : Nat := 87
def a25 : AFn := ⟨(.seq (.reg [⟨.l 4, none, .box, [.l 1]⟩, ⟨.l 6, none, .mv, [.c (.i .i64 0)]⟩])
 (.seq (.reg [⟨.t 8, none, .mv, [.l 0]⟩, ⟨.t 9, none, .nilchk, [.t 8]⟩, ⟨.t 10, none, (.fad 1), [.t 9]⟩, ⟨.t 11, none, (.ld none), [.t 10]⟩, ⟨.t 12, none, .mv, [.l 2]⟩, ⟨.t 13, none, (.fad 1), [.l 4]⟩, ⟨.t 14, none, (.ld none), [.t 13]⟩, ⟨.t 15, none, (.un .not), [.t 14]⟩, ⟨.t 16, none, (.call 37), [.t 11, .t 12, .t 15]⟩, ⟨.t 7, none, .mv, [.t 16]⟩, ⟨.t 17, none, (.ext 0), [.t 7]⟩, ⟨.t 18, none, (.ext 1), [.t 7]⟩, ⟨.t 19, none, (.fad 0), [.l 4]⟩, ⟨.no, none, (.st 1), [.t 19, .t 17]⟩])
 (.seq (.reg [⟨.t 20, none, (.fad 8), [.l 4]⟩, ⟨.no, none, (.st 1), [.t 20, .c (.i .i64 (-1))]⟩])
 (.seq (.reg [⟨.t 21, none, .mv, [.l 0]⟩, ⟨.t 22, none, .nilchk, [.t 21]⟩, ⟨.t 23, none, (.fad 4), [.t 22]⟩, ⟨.t 24, none, (.ld none), [.t 23]⟩, ⟨.t 25, none, (.fad 0), [.l 4]⟩, ⟨.t 26, none, (.ld none), [.t 25]⟩, ⟨.t 27, none, .mv, [.l 0]⟩, ⟨.t 28, none, .nilchk, [.t 27]⟩, ⟨.t 29, none, (.fad 2), [.t 28]⟩, ⟨.t 30, none, (.ld none), [.t 29]⟩, ⟨.t 31, none, .lenSl, [.t 30]⟩, ⟨.no, none, .mset, [.t 24, .t 26, .t 31]⟩])
 (.seq (.reg [⟨.t 32, none, .mv, [.l 0]⟩, ⟨.t 33, none, .mv, [.l 0]⟩, ⟨.t 34, none, .nilchk, [.t 33]⟩, ⟨.t 35, none, (.fad 2), [.t 34]⟩, ⟨.t 36, none, (.ld none), [.t 35]⟩, ⟨.t 37, none, (.ld (some 9)), [.l 4]⟩, ⟨.t 38, none, (.bslice [(.i .i64 0), (.b false), (.p none), (.i .i64 0), (.i .i64 0), (.i .i64 0), (.b false), (.b false), (.i .i64 0)] 1 9 [0]), [.t 37]⟩, ⟨.t 39, none, (.app 9 64), [.t 36, .t 38]⟩, ⟨.t 40, none, .nilchk, [.t 32]⟩, ⟨.t 41, none, (.fad 2), [.t 40]⟩, ⟨.no, none, (.st 1), [.t 41, .t 39]⟩])
 (.seq (.reg [⟨.t 42, none, .mv, [.l 0]⟩, ⟨.t 43, none, .nilchk, [.t 42]⟩, ⟨.t 44, none, (.fad 2), [.t 43]⟩, ⟨.t 45, none, (.ld none), [.t 44]⟩, ⟨.t 46, none, .lenSl, [.t 45]⟩, ⟨.t 47, none, (.bin .sub), [.t 46, .c (.i .i64 1)]⟩, ⟨.l 6, none, .mv, [.t 47]⟩])
 .ret)))))), [.tmp (.l 6)]⟩
theorem c25 : compFn Try.prog b25 Try.f25 = some a25 := by kernel_rfl
/-- tarpaulin/chanq.Signal -/
def b26 : Nat := 3
def a26 : AFn := ⟨(.seq (.reg [⟨.l 0, none, .mv, [.c (.p none)]⟩])
 (.seq (.reg [⟨.t 4, none, (.call 38), [.c (.i .i64 0)]⟩, ⟨.t 3, none, .mv, [.t 4]⟩, ⟨.t 5, none, (.ext 0), [.t 3]⟩, ⟨.t 6, none, (.ext 1), [.t 3]⟩, ⟨.l 1, none, .mv, [.t 5]⟩, ⟨.t 2, none, .mv, [.t 6]⟩])
 (.seq (.reg [⟨.t 7, none, .mv, [.l 1]⟩, ⟨.t 8, none, .nilchk, [.t 7]⟩, ⟨.t 9, none, (.fad 4), [.t 8]⟩, ⟨.no, none, (.st 1), [.t 9, .c (.b true)]⟩])
 (.seq (.reg [⟨.t 10, none, .mv, [.l 1]⟩, ⟨.l 0, none, .mv, [.t 10]⟩])
 .ret)))), [.tmp (.l 0)]⟩
theorem c26 : compFn Try.prog b26 Try.f26 = some a26 := by kernel_rfl
/-- (*tarpaulin/ctx.Set).begin -/
def b27 : Nat := 455
def a27 : AFn := ⟨(.seq (.reg [⟨.l 6, none, .mv, [.c (.sl none 0 0 0)]⟩])
 (.seq (.reg [⟨.t 10, none, .mv, [.l 0]⟩, ⟨.t 11, none, .nilchk, [.t 10]⟩, ⟨.t 12, none, (.fad 2), [.t 11]⟩, ⟨.t 13, none, (.ld none), [.t 12]⟩, ⟨.t 14, none, .mv, [.l 2]⟩, ⟨.t 15, none, (.iad 9), [.t 13, .t 14]⟩, ⟨.t 16, none, (.ld (some 9)), [.t 15]⟩, ⟨.l 7, none, (.alloc [(.i .i64 0), (.b false), (.p none), (.i .i64 0), (.i .i64 0), (.i .i64 0), (.b false), (.b false), (.i .i64 0)]), []⟩, ⟨.no, none, (.st 9), [.l 7, .t 16]⟩])
 (.seq (.seq (.reg [⟨.t 17, none, (.fad 3), [.l 7]⟩, ⟨.t 18, none, (.ld none), [.t 17]⟩, ⟨.t 19, none, (.bin .eql), [.t 18, .c (.i .i64 0)]⟩])
 (.cond (.t 19) (.seq (.reg [⟨.l 6, none, .mv, [.c (.sl none 0 0 0)]⟩])
 .ret) .skip))
 (.seq (.reg [⟨.t 21, none, .mv, [.l 0]⟩, ⟨.t 22, none, .mv, [.l 1]⟩, ⟨.t 23, none, (.fad 3), [.l 7]⟩, ⟨.t 24, none, (.ld none), [.t 23]⟩, ⟨.t 25, none, (.fad 4), [.l 7]⟩, ⟨.t 26, none, (.ld none), [.t 25]⟩, ⟨.t 27, none, (.call 29), [.t 21, .t 22, .t 24, .t 26]⟩, ⟨.t 20, none, .mv, [.t 27]⟩, ⟨.t 28, none, (.ext 0), [.t 20]⟩, ⟨.t 29, none, (.ext 1), [.t 20]⟩, ⟨.l 8, none, .mv, [.t 28]⟩, ⟨.t 9, none, .mv, [.t 29]⟩])
 (.seq (.reg [⟨.t 30, none, .mv, [.l 8]⟩, ⟨.l 6, none, .mv, [.t 30]⟩])
 .ret))))), [.tmp (.l 6)]⟩
theorem c27 : compFn Try.prog b27 Try.f27 = some a27 := by kernel_rfl
/-- (*tarpaulin/ctx.Set).has -/
def b28 : Nat := 19
def a28 : AFn := ⟨(.seq (.reg [⟨.l 4, none, .mv, [.c (.b false)]⟩])
 (.seq (.reg [⟨.t 5, none, .mv, [.l 0]⟩, ⟨.t 6, none, (.eq true .ptr), [.t 5, .c (.p none)]⟩, ⟨.t 7, none, .mv, [.t 6]⟩, ⟨.t 8, (some (.t 7, true)), .mv, [.l 1]⟩, ⟨.t 9, (some (.t 7, true)), (.bin .geq), [.t 8, .c (.i .i64 0)]⟩, ⟨.t 10, none, .pick, [.t 7, .t 9, .c (.b false)]⟩, ⟨.t 11, none, .mv, [.t 10]⟩, ⟨.t 12, (some (.t 11, true)), .mv, [.l 1]⟩, ⟨.t 13, (some (.t 11, true)), .mv, [.l 0]⟩, ⟨.t 14, (some (.t 11, true)), .nilchk, [.t 13]⟩, ⟨.t 15, (some (.t 11, true)), (.fad 2), [.t 14]⟩, ⟨.t 16, (some (.t 11, true)), (.ld none), [.t 15]⟩, ⟨.t 17, (some (.t 11, true)), .lenSl, [.t 16]⟩, ⟨.t 18, (some (.t 11, true)), (.bin .lss), [.t 12, .t 17]⟩, ⟨.t 19, none, .pick, [.t 11, .t 18, .c (.b false)]⟩, ⟨.l 4, none, .mv, [.t 19]⟩])
 .ret)), [.tmp (.l 4)]⟩
theorem c28 : compFn Try.prog b28 Try.f28 = some a28 := by kernel_rfl
/-- (*tarpaulin/ctx.Set).cancel -/
def b29 : Nat := 2066035336255469844239
def a29 : AFn := ⟨(.seq (.reg [⟨.l 8, none, .mv, [.c (.sl none 0 0 0)]⟩, ⟨.l 9, none, .mv, [.c (.sl none 0 0 0)]⟩])
 (.seq (.reg [⟨.t 16, none, .mv, [.l 0]⟩, ⟨.t 17, none, .nilchk, [.t 16]⟩, ⟨.t 18, none, (.fad 2), [.t 17]⟩, ⟨.t 19, none, (.ld none), [.t 18]⟩, ⟨.t 20, none, .mv, [.l 1]⟩, ⟨.t 21, none, (.iad 9), [.t 19, .t 20]⟩, ⟨.l 10, none, .mv, [.t 21]⟩])
 (.seq (.seq (.reg [⟨.t 22, none, .mv, [.l 10]⟩, ⟨.t 23, none, .nilchk, [.t 22]⟩, ⟨.t 24, none, (.fad 1), [.t 23]⟩, ⟨.t 25, none, (.ld none), [.t 24]⟩, ⟨.t 26, none, .mv, [.t 25]⟩, ⟨.t 27, (some (.t 26, false)), .mv, [.l 10]⟩, ⟨.t 28, (some (.t 26, false)), .nilchk, [.t 27]⟩, ⟨.t 29, (some (.t 26, false)), (.fad 3), [.t 28]⟩, ⟨.t 30, (some (.t 26, false)), (.ld none), [.t 29]⟩, ⟨.t 31, (some (.t 26, false)), (.bin .neq), [.t 30, .c (.i .i64 0)]⟩, ⟨.t 32, none, .pick, [.t 26, .c (.b true), .t 31]⟩])
 (.cond (.t 32) (.seq (.reg [⟨.l 8, none, .mv, [.c (.sl none 0 0 0)]⟩, ⟨.l 9, none, .mv, [.c (.sl none 0 0 0)]⟩])
 .ret) .skip))
 (.seq (.reg [⟨.t 33, none, .mv, [.l 10]⟩, ⟨.t 34, none, .mv, [.l 10]⟩, ⟨.t 35, none, .mv, [.l 2]⟩, ⟨.t 36, none, .mv, [.l 3]⟩, ⟨.t 37, none, .nilchk, [.t 33]⟩, ⟨.t 38, none, (.fad 3), [.t 37]⟩, ⟨.no, none, (.st 1), [.t 38, .t 35]⟩, ⟨.t 39, none, .nilchk, [.t 34]⟩, ⟨.t 40, none, (.fad 4), [.t 39]⟩, ⟨.no, none, (.st 1), [.t 40, .t 36]⟩])
 (.seq (.reg [⟨.t 41, none, .mv, [.l 1]⟩, ⟨.t 42, none, .mv, [.l 2]⟩, ⟨.t 43, none, .mv, [.l 3]⟩, ⟨.t 44, none, .mv, [.l 10]⟩, ⟨.t 45, none, .nilchk, [.t 44]⟩, ⟨.t 46, none, (.fad 2), [.t 45]⟩, ⟨.t 47, none, (.ld none), [.t 46]⟩, ⟨.t 48, none, (.call 39), [.t 47]⟩, ⟨.t 49, none, (.build [(.i .i64 0), (.i .i64 0), (.i .i64 0), (.sl none 0 0 0)] [(0, 1), (1, 1), (2, 1), (3, 1)]), [.t 41, .t 42, .t 43, .t 48]⟩, ⟨.t 50, none, (.bslice [(.i .i64 0), (.i .i64 0), (.i .i64 0), (.sl none 0 0 0)] 1 4 [0]), [.t 49]⟩, ⟨.l 8, none, .mv, [.t 50]⟩])
 (.seq (.reg [⟨.t 51, none, .mv, [.l 0]⟩, ⟨.t 52, none, .nilchk, [.t 51]⟩, ⟨.t 53, none, (.fad 0), [.t 52]⟩, ⟨.t 54, none, (.ld none), [.t 53]⟩, ⟨.t 55, none, .mv, [.l 10]⟩, ⟨.t 56, none, .nilchk, [.t 55]⟩, ⟨.t 57, none, (.fad 8), [.t 56]⟩, ⟨.t 58, none, (.ld none), [.t 57]⟩, ⟨.t 59, none, (.call 40), [.t 54, .t 58]⟩])
 (.seq (.seq (.reg [⟨.t 60, none, .mv, [.l 0]⟩, ⟨.t 61, none, .nilchk, [.t 60]⟩, ⟨.t 62, none, (.fad 1), [.t 61]⟩, ⟨.t 63, none, (.ld none), [.t 62]⟩, ⟨.t 64, none, .mv, [.l 10]⟩, ⟨.t 65, none, .nilchk, [.t 64]⟩, ⟨.t 66, none, (.fad 0), [.t 65]⟩, ⟨.t 67, none, (.ld none), [.t 66]⟩, ⟨.l 68, none, (.call 41), [.t 63, .t 67]⟩, ⟨.l 69, none, .lenSl, [.l 68]⟩, ⟨.l 70, none, .mv, [.c (.i .i64 0)]⟩])
 (.block 0 (.loop (.seq (.reg [⟨.t 71, none, (.bin .lss), [.l 70, .l 69]⟩])
 (.seq (.cond (.t 71) .skip (.exit 0))
 (.seq (.block 1 (.seq (.reg [⟨.t 72, none, (.iad 1), [.l 68, .l 70]⟩, ⟨.t 73, none, (.ld none), [.t 72]⟩, ⟨.l 12, none, .mv, [.t 73]⟩])
 (.seq (.reg [⟨.t 74, none, .mv, [.l 0]⟩, ⟨.t 75, none, .nilchk, [.t 74]⟩, ⟨.t 76, none, (.fad 4), [.t 75]⟩, ⟨.t 77, none, (.ld none), [.t 76]⟩, ⟨.t 78, none, .mv, [.l 12]⟩, ⟨.t 79, none, (.lkup (.i .i64 0) false), [.t 77, .t 78]⟩, ⟨.l 13, none, .mv, [.t 79]⟩])
 (.seq (.seq (.reg [⟨.t 80, none, .mv, [.l 13]⟩, ⟨.t 81, none, (.bin .lss), [.t 80, .c (.i .i64 0)]⟩])
 (.cond (.t 81) (.seq (.reg [⟨.t 82, none, .mv, [.l 9]⟩, ⟨.t 83, none, .mv, [.l 0]⟩, ⟨.t 84, none, .mv, [.l 13]⟩, ⟨.t 85, none, (.un .neg), [.t 84]⟩, ⟨.t 86, none, (.bin .sub), [.t 85, .c (.i .i64 1)]⟩, ⟨.t 87, none, (.call 42), [.t 83, .t 86]⟩, ⟨.t 88, none, (.bslice [(.i .i64 0), (.i .i64 0)] 1 2 [0]), [.t 87]⟩, ⟨.t 89, none, (.app 2 16), [.t 82, .t 88]⟩, ⟨.l 9, none, .mv, [.t 89]⟩])
 (.exit 1)) .skip))
 (.seq (.reg [⟨.t 91, none, .mv, [.l 0]⟩, ⟨.t 92, none, .mv, [.l 13]⟩, ⟨.t 93, none, .mv, [.l 2]⟩, ⟨.t 94, none, .mv, [.l 3]⟩, ⟨.t 95, none, (.call 29), [.t 91, .t 92, .t 93, .t 94]⟩, ⟨.t 90, none, .mv, [.t 95]⟩, ⟨.t 96, none, (.ext 0), [.t 90]⟩, ⟨.t 97, none, (.ext 1), [.t 90]⟩, ⟨.l 14, none, .mv, [.t 96]⟩, ⟨.l 15, none, .mv, [.t 97]⟩])
 (.reg [⟨.t 98, none, .mv, [.l 8]⟩, ⟨.t 99, none, .mv, [.l 14]⟩, ⟨.t 100, none, (.app 4 48), [.t 98, .t 99]⟩, ⟨.t 101, none, .mv, [.l 9]⟩, ⟨.t 102, none, .mv, [.l 15]⟩, ⟨.t 103, none, (.app 2 16), [.t 101, .t 102]⟩, ⟨.l 8, none, .mv, [.t 100]⟩, ⟨.l 9, none, .mv, [.t 103]⟩]))))))
 (.reg [⟨.t 104, none, (.bin .add), [.l 70, .c (.i .i64 1)]⟩, ⟨.l 70, none, .mv, [.t 104]⟩])))))))
 (.seq (.reg [⟨.t 105, none, .mv, [.l 0]⟩, ⟨.t 106, none, .nilchk, [.t 105]⟩, ⟨.t 107, none, (.fad 1), [.t 106]⟩, ⟨.t 108, none, (.ld none), [.t 107]⟩, ⟨.t 109, none, .mv, [.l 10]⟩, ⟨.t 110, none, .nilchk, [.t 109]⟩, ⟨.t 111, none, (.fad 0), [.t 110]⟩, ⟨.t 112, none, (.ld none), [.t 111]⟩, ⟨.t 113, none, (.call 43), [.t 108, .t 112]⟩])
 (.seq (.reg [⟨.t 114, none, .mv, [.l 8]⟩, ⟨.t 115, none, .mv, [.l 9]⟩, ⟨.l 8, none, .mv, [.t 114]⟩, ⟨.l 9, none, .mv, [.t 115]⟩])
 .ret))))))))), [.tmp (.l 8), .tmp (.l 9)]⟩
theorem c29 : compFn Try.prog b29 Try.f29 = some a29 := by kernel_rfl
/-- (*tarpaulin/ctx.Set).Len -/
def b30 : Nat := 5
def a30 : AFn := ⟨(.seq (.reg [⟨.l 2, none, .mv, [.c (.i .i64 0)]⟩])
 (.seq (.seq (.reg [⟨.t 3, none, .mv, [.l 0]⟩, ⟨.t 4, none, (.eq false .ptr), [.t 3, .c (.p none)]⟩])
 (.cond (.t 4) (.seq (.reg [⟨.l 2, none, .mv, [.c (.i .i64 0)]⟩])
 .ret) .skip))
 (.seq (.reg [⟨.t 5, none, .mv, [.l 0]⟩, ⟨.t 6, none, .nilchk, [.t 5]⟩, ⟨.t 7, none, (.fad 2), [.t 6]⟩, ⟨.t 8, none, (.ld none), [.t 7]⟩, ⟨.t 9, none, .lenSl, [.t 8]⟩, ⟨.l 2, none, .mv, [.t 9]⟩])
 .ret))), [.tmp (.l 2)]⟩
theorem c30 : compFn Try.prog b30 Try.f30 = some a30 := by kernel_rfl
/-- (*tarpaulin/ctx.Set).Err -/
def b31 : Nat := 51
def a31 : AFn := ⟨(.seq (.reg [⟨.l 4, none, .mv, [.c (.i .i64 0)]⟩, ⟨.l 5, none, .mv, [.c (.i .i64 0)]⟩])
 (.seq (.seq (.reg [⟨.t 6, none, .mv, [.l 0]⟩, ⟨.t 7, none, .mv, [.l 1]⟩, ⟨.t 8, none, (.call 28), [.t 6, .t 7]⟩, ⟨.t 9, none, (.un .not), [.t 8]⟩])
 (.cond (.t 9) (.seq (.reg [⟨.l 4, none, .mv, [.c (.i .i64 0)]⟩, ⟨.l 5, none, .mv, [.c (.i .i64 4)]⟩])
 .ret) .skip))
 (.seq (.reg [⟨.t 10, none, .mv, [.l 0]⟩, ⟨.t 11, none, .nilchk, [.t 10]⟩, ⟨.t 12, none, (.fad 2), [.t 11]⟩, ⟨.t 13, none, (.ld none), [.t 12]⟩, ⟨.t 14, none, .mv, [.l 1]⟩, ⟨.t 15, none, (.iad 9), [.t 13, .t 14]⟩, ⟨.t 16, none, (.fad 3), [.t 15]⟩, ⟨.t 17, none, (.ld none), [.t 16]⟩, ⟨.l 4, none, .mv, [.t 17]⟩, ⟨.l 5, none, .mv, [.c (.i .i64 0)]⟩])
 .ret))), [.tmp (.l 4), .tmp (.l 5)]⟩
theorem c31 : compFn Try.prog b31 Try.f31 = some a31 := by kernel_rfl
/-- (*tarpaulin/ctx.Set).Cause -/
def b32 : Nat := 51
def a32 : AFn := ⟨(.seq (.reg [⟨.l 4, none, .mv, [.c (.i .i64 0)]⟩, ⟨.l 5, none, .mv, [.c (.i .i64 0)]⟩])
 (.seq (.seq (.reg [⟨.t 6, none, .mv, [.l 0]⟩, ⟨.t 7, none, .mv, [.l 1]⟩, ⟨.t 8, none, (.call 28), [.t 6, .t 7]⟩, ⟨.t 9, none, (.un .not), [.t 8]⟩])
 (.cond (.t 9) (.seq (.reg [⟨.l 4, none, .mv, [.c (.i .i64 0)]⟩, ⟨.l 5, none, .mv, [.c (.i .i64 4)]⟩])
 .ret) .skip))
 (.seq (.reg [⟨.t 10, none, .mv, [.l 0]⟩, ⟨.t 11, none, .nilchk, [.t 10]⟩, ⟨.t 12, none, (.fad 2), [.t 11]⟩, ⟨.t 13, none, (.ld none), [.t 12]⟩, ⟨.t 14, none, .mv, [.l 1]⟩, ⟨.t 15, none, (.iad 9), [.t 13, .t 14]⟩, ⟨.t 16, none, (.fad 4), [.t 15]⟩, ⟨.t 17, none, (.ld none), [.t 16]⟩, ⟨.l 4, none, .mv, [.t 17]⟩, ⟨.l 5, none, .mv, [.c (.i .i64 0)]⟩])
 .ret))), [.tmp (.l 4), .tmp (.l 5)]⟩
theorem c32 : compFn Try.prog b32 Try.f32 = some a32 := by kernel_rfl
/-- (*tarpaulin/ctx.Set).Until -/
def b33 : Nat := 115
def a33 : AFn := ⟨(.seq (.reg [⟨.l 4, none, .mv, [.c (.i .i64 0)]⟩, ⟨.l 5, none, .mv, [.c (.b false)]⟩, ⟨.l 6, none, .mv, [.c (.i .i64 0)]⟩])
 (.seq (.seq (.reg [⟨.t 7, none, .mv, [.l 0]⟩, ⟨.t 8, none, .mv, [.l 1]⟩, ⟨.t 9, none, (.call 28), [.t 7, .t 8]⟩, ⟨.t 10, none, (.un .not), [.t 9]⟩])
 (.cond (.t 10) (.seq (.reg [⟨.l 4, none, .mv, [.c (.i .i64 0)]⟩, ⟨.l 5, none, .mv, [.c (.b false)]⟩, ⟨.l 6, none, .mv, [.c (.i .i64 4)]⟩])
 .ret) .skip))
 (.seq (.reg [⟨.t 11, none, .mv, [.l 0]⟩, ⟨.t 12, none, .nilchk, [.t 11]⟩, ⟨.t 13, none, (.fad 2), [.t 12]⟩, ⟨.t 14, none, (.ld none), [.t 13]⟩, ⟨.t 15, none, .mv, [.l 1]⟩, ⟨.t 16, none, (.iad 9), [.t 14, .t 15]⟩, ⟨.t 17, none, (.fad 5), [.t 16]⟩, ⟨.t 18, none, (.ld none), [.t 17]⟩, ⟨.t 19, none, .mv, [.l 0]⟩, ⟨.t 20, none, .nilchk, [.t 19]⟩, ⟨.t 21, none, (.fad 2), [.t 20]⟩, ⟨.t 22, none, (.ld none), [.t 21]⟩, ⟨.t 23, none, .mv, [.l 1]⟩, ⟨.t 24, none, (.iad 9), [.t 22, .t 23]⟩, ⟨.t 25, none, (.fad 6), [.t 24]⟩, ⟨.t 26, none, (.ld none), [.t 25]⟩, ⟨.l 4, none, .mv, [.t 18]⟩, ⟨.l 5, none, .mv, [.t 26]⟩, ⟨.l 6, none, .mv, [.c (.i .i64 0)]⟩])
 .ret))), [.tmp (.l 4), .tmp (.l 5), .tmp (.l 6)]⟩
theorem c33 : compFn Try.prog b33 Try.f33 = some a33 := by kernel_rfl
/-- tarpaulin/expire.New -/
def b34 : Nat := 1
def a34 : AFn := ⟨(.seq (.reg [⟨.l 0, none, .mv, [.c (.p none)]⟩])
 (.seq (.reg [⟨.t 1, none, (.call 44), []⟩, ⟨.t 2, none, .mkmap, []⟩, ⟨.t 3, none, (.build [(.p none), (.m none)] [(0, 1), (1, 1)]), [.t 1, .t 2]⟩, ⟨.t 4, none, .box, [.t 3]⟩, ⟨.l 0, none, .mv, [.t 4]⟩])
 .ret)), [.tmp (.l 0)]⟩
theorem c34 : compFn Try.prog b34 Try.f34 = some a34 := by kernel_rfl
/-- tarpaulin/tree.New -/
def b35 : Nat := 1
def a35 : AFn := ⟨(.seq (.reg [⟨.l 0, none, .mv, [.c (.p none)]⟩])
 (.seq (.reg [⟨.t 1, none, (.build [(.sl none 0 0 0)] []), []⟩, ⟨.t 2, none, .box, [.t 1]⟩, ⟨.l 0, none, .mv, [.t 2]⟩])
 .ret)), [.tmp (.l 0)]⟩
theorem c35 : compFn Try.prog b35 Try.f35 = some a35 := by kernel_rfl
/-- (*tarpaulin/tarpaulinref9.Ctx).add -/
def b36 : Nat := 911
def a36 : AFn := ⟨(.seq (.reg [⟨.l 7, none, .box, [.l 3]⟩, ⟨.l 8, none, .mv, [.c (.i .i64 0)]⟩])
 (.seq (.reg [⟨.t 12, none, .mv, [.l 0]⟩, ⟨.t 13, none, .nilchk, [.t 12]⟩, ⟨.t 14, none, (.fad 1), [.t 13]⟩, ⟨.t 15, none, .mv, [.l 1]⟩, ⟨.t 16, none, .mv, [.l 2]⟩, ⟨.t 17, none, (.call 45), [.t 14, .t 15, .t 16]⟩, ⟨.t 11, none, .mv, [.t 17]⟩, ⟨.t 18, none, (.ext 0), [.t 11]⟩, ⟨.t 19, none, (.ext 1), [.t 11]⟩, ⟨.l 9, none, .mv, [.t 18]⟩, ⟨.t 10, none, .mv, [.t 19]⟩])
 (.seq (.reg [⟨.t 20, none, .mv, [.l 0]⟩, ⟨.t 21, none, .nilchk, [.t 20]⟩, ⟨.t 22, none, (.fad 3), [.t 21]⟩, ⟨.t 23, none, (.ld none), [.t 22]⟩, ⟨.t 24, none, .lenSl, [.t 23]⟩, ⟨.t 25, none, (.fad 1), [.l 7]⟩, ⟨.no, none, (.st 1), [.t 25, .t 24]⟩])
 (.seq (.reg [⟨.t 26, none, .mv, [.l 0]⟩, ⟨.t 27, none, .mv, [.l 0]⟩, ⟨.t 28, none, .nilchk, [.t 27]⟩, ⟨.t 29, none, (.fad 2), [.t 28]⟩, ⟨.t 30, none, (.ld none), [.t 29]⟩, ⟨.t 31, none, (.ld (some 12)), [.l 7]⟩, ⟨.t 32, none, (.bslice [(.b false), (.i .i64 0), (.i .i64 0), (.b false), (.b false), (.i .i64 0), (.i .i64 0), (.i .i64 0), (.b false), (.b false), (.i .i64 0), (.p none)] 1 12 [0]), [.t 31]⟩, ⟨.t 33, none, (.app 12 80), [.t 30, .t 32]⟩, ⟨.t 34, none, .nilchk, [.t 26]⟩, ⟨.t 35, none, (.fad 2), [.t 34]⟩, ⟨.no, none, (.st 1), [.t 35, .t 33]⟩])
 (.seq (.reg [⟨.t 36, none, .mv, [.l 0]⟩, ⟨.t 37, none, .mv, [.l 0]⟩, ⟨.t 38, none, .nilchk, [.t 37]⟩, ⟨.t 39, none, (.fad 3), [.t 38]⟩, ⟨.t 40, none, (.ld none), [.t 39]⟩, ⟨.t 41, none, .mv, [.l 9]⟩, ⟨.t 42, none, (.bslice [(.i .i64 0)] 1 1 [0]), [.t 41]⟩, ⟨.t 43, none, (.app 1 8), [.t 40, .t 42]⟩, ⟨.t 44, none, .nilchk, [.t 36]⟩, ⟨.t 45, none, (.fad 3), [.t 44]⟩, ⟨.no, none, (.st 1), [.t 45, .t 43]⟩])
 (.seq (.reg [⟨.t 46, none, (.fad 1), [.l 7]⟩, ⟨.t 47, none, (.ld none), [.t 46]⟩, ⟨.l 8, none, .mv, [.t 47]⟩])
 .ret)))))), [.tmp (.l 8)]⟩
theorem c36 : compFn Try.prog b36 Try.f36 = some a36 := by kernel_rfl
/-- (*tarpaulin/tree.Tree).Add -/
def b37 : Nat := 455
def a37 : AFn := ⟨(.seq (.reg [⟨.l 6, none, .mv, [.c (.i .i64 0)]⟩, ⟨.l 7, none, .mv, [.c (.i .i64 0)]⟩])
 (.seq (.block 0 (.seq (.seq (.reg [⟨.t 10, none, .mv, [.l 0]⟩, ⟨.t 11, none, (.eq false .ptr), [.t 10, .c (.p none)]⟩, ⟨.t 9, none, .mv, [.t 11]⟩])
 (.cond (.t 9) .skip (.reg [⟨.t 12, none, .mv, [.l 1]⟩, ⟨.t 13, none, (.bin .neq), [.t 12, .c (.i .i64 (-1))]⟩, ⟨.t 14, none, .mv, [.t 13]⟩, ⟨.t 15, (some (.t 14, true)), .mv, [.l 0]⟩, ⟨.t 16, (some (.t 14, true)), .mv, [.l 1]⟩, ⟨.t 17, (some (.t 14, true)), (.call 46), [.t 15, .t 16]⟩, ⟨.t 18, (some (.t 14, true)), (.un .not), [.t 17]⟩, ⟨.t 19, none, .pick, [.t 14, .t 18, .c (.b false)]⟩, ⟨.t 9, none, .mv, [.t 19]⟩])))
 (.cond (.t 9) (.seq (.reg [⟨.l 6, none, .mv, [.c (.i .i64 0)]⟩, ⟨.l 7, none, .mv, [.c (.i .i64 1)]⟩])
 .ret) (.seq (.reg [⟨.t 21, none, .mv, [.l 0]⟩, ⟨.t 22, none, .nilchk, [.t 21]⟩, ⟨.t 23, none, (.fad 0), [.t 22]⟩, ⟨.t 24, none, (.ld none), [.t 23]⟩, ⟨.t 25, none, .lenSl, [.t 24]⟩, ⟨.t 26, none, (.bin .geq), [.t 25, .c (.i .i64 1000)]⟩, ⟨.t 20, none, .mv, [.t 26]⟩])
 (.cond (.t 20) (.seq (.reg [⟨.l 6, none, .mv, [.c (.i .i64 0)]⟩, ⟨.l 7, none, .mv, [.c (.i .i64 3)]⟩])
 .ret) .skip)))))
 (.seq (.reg [⟨.t 27, none, .mv, [.l 0]⟩, ⟨.t 28, none, .nilchk, [.t 27]⟩, ⟨.t 29, none, (.fad 0), [.t 28]⟩, ⟨.t 30, none, (.ld none), [.t 29]⟩, ⟨.t 31, none, .lenSl, [.t 30]⟩, ⟨.l 8, none, .mv, [.t 31]⟩])
 (.seq (.reg [⟨.t 32, none, .mv, [.l 2]⟩, ⟨.t 33, none, .mv, [.t 32]⟩, ⟨.t 34, (some (.t 33, true)), .mv, [.l 1]⟩, ⟨.t 35, (some (.t 33, true)), (.bin .neq), [.t 34, .c (.i .i64 (-1))]⟩, ⟨.t 36, none, .pick, [.t 33, .t 35, .c (.b false)]⟩, ⟨.l 2, none, .mv, [.t 36]⟩])
 (.seq (.seq (.reg [⟨.t 37, none, .mv, [.l 2]⟩])
 (.cond (.t 37) (.regD [⟨.t 38, none, .mv, [.l 0]⟩, ⟨.t 39, none, .nilchk, [.t 38]⟩, ⟨.t 40, none, (.fad 0), [.t 39]⟩, ⟨.t 41, none, (.ld none), [.t 40]⟩, ⟨.t 42, none, .mv, [.l 1]⟩, ⟨.t 43, none, .mv, [.l 0]⟩, ⟨.t 44, none, .nilchk, [.t 43]⟩, ⟨.t 45, none, (.fad 0), [.t 44]⟩, ⟨.t 46, none, (.ld none), [.t 45]⟩, ⟨.t 47, none, .mv, [.l 1]⟩, ⟨.t 48, none, (.iad 3), [.t 46, .t 47]⟩, ⟨.t 49, none, (.fad 2), [.t 48]⟩, ⟨.t 50, none, (.ld none), [.t 49]⟩, ⟨.t 51, none, .mv, [.l 8]⟩, ⟨.t 52, none, (.bslice [(.i .i64 0)] 1 1 [0]), [.t 51]⟩, ⟨.t 53, none, (.app 1 8), [.t 50, .t 52]⟩, ⟨.t 54, none, (.iad 3), [.t 41, .t 42]⟩, ⟨.t 55, none, (.fad 2), [.t 54]⟩, ⟨.no, none, (.st 1), [.t 55, .t 53]⟩] [(3, 16)]) .skip))
 (.seq (.reg [⟨.t 56, none, .mv, [.l 0]⟩, ⟨.t 57, none, .mv, [.l 0]⟩, ⟨.t 58, none, .nilchk, [.t 57]⟩, ⟨.t 59, none, (.fad 0), [.t 58]⟩, ⟨.t 60, none, (.ld none), [.t 59]⟩, ⟨.t 61, none, .mv, [.l 1]⟩, ⟨.t 62, none, .mv, [.l 2]⟩, ⟨.t 63, none, (.build [(.i .i64 0), (.b false), (.sl none 0 0 0)] [(0, 1), (1, 1)]), [.t 61, .t 62]⟩, ⟨.t 64, none, (.bslice [(.i .i64 0), (.b false), (.sl none 0 0 0)] 1 3 [0]), [.t 63]⟩, ⟨.t 65, none, (.app 3 40), [.t 60, .t 64]⟩, ⟨.t 66, none, .nilchk, [.t 56]⟩, ⟨.t 67, none, (.fad 0), [.t 66]⟩, ⟨.no, none, (.st 1), [.t 67, .t 65]⟩])
 (.seq (.reg [⟨.t 68, none, .mv, [.l 8]⟩, ⟨.l 6, none, .mv, [.t 68]⟩, ⟨.l 7, none, .mv, [.c (.i .i64 0)]⟩])
 .ret))))))), [.tmp (.l 6), .tmp (.l 7)]⟩
theorem c37 : compFn Try.prog b37 Try.f37 = some a37 := by kernel_rfl
/-- tarpaulin/chanq.New -/
def b38 : Nat := 61
def a38 : AFn := ⟨(.seq (.reg [⟨.l 2, none, .mv, [.c (.p none)]⟩, ⟨.l 3, none, .mv, [.c (.i .i64 0)]⟩])
 (.seq (.reg [⟨.t 7, none, .mv, [.l 0]⟩, ⟨.t 8, none, (.call 47), [.t 7]⟩, ⟨.t 6, none, .mv, [.t 8]⟩, ⟨.t 9, none, (.ext 0), [.t 6]⟩, ⟨.t 10, none, (.ext 1), [.t 6]⟩, ⟨.l 4, none, .mv, [.t 9]⟩, ⟨.l 5, none, .mv, [.t 10]⟩])
 (.seq (.seq (.reg [⟨.t 11, none, .mv, [.l 5]⟩, ⟨.t 12, none, (.bin .neq), [.t 11, .c (.i .i64 0)]⟩])
 (.cond (.t 12) (.seq (.reg [⟨.t 13, none, .mv, [.l 5]⟩, ⟨.l 2, none, .mv, [.c (.p none)]⟩, ⟨.l 3, none, .mv, [.t 13]⟩])
 .ret) .skip))
 (.seq (.reg [⟨.t 14, none, .mv, [.l 4]⟩, ⟨.t 15, none, (.call 48), []⟩, ⟨.t 16, none, (.call 48), []⟩, ⟨.t 17, none, (.build [(.p none), (.p none), (.p none), (.b false), (.b false), (.b false)] [(0, 1), (1, 1), (2, 1)]), [.t 14, .t 15, .t 16]⟩, ⟨.t 18, none, .box, [.t 17]⟩, ⟨.l 2, none, .mv, [.t 18]⟩, ⟨.l 3, none, .mv, [.c (.i .i64 0)]⟩])
 .ret)))), [.tmp (.l 2), .tmp (.l 3)]⟩
theorem c38 : compFn Try.prog b38 Try.f38 = some a38 := by kernel_rfl
/-- (*tarpaulin/chanq.Chan).End -/
def b39 : Nat := 5
def a39 : AFn := ⟨(.seq (.reg [⟨.l 2, none, .mv, [.c (.sl none 0 0 0)]⟩])
 (.seq (.seq (.reg [⟨.t 3, none, .mv, [.l 0]⟩, ⟨.t 4, none, (.eq false .ptr), [.t 3, .c (.p none)]⟩, ⟨.t 5, none, .mv, [.t 4]⟩, ⟨.t 6, (some (.t 5, false)), .mv, [.l 0]⟩, ⟨.t 7, (some (.t 5, false)), .nilchk, [.t 6]⟩, ⟨.t 8, (some (.t 5, false)), (.fad 4), [.t 7]⟩, ⟨.t 9, (some (.t 5, false)), (.ld none), [.t 8]⟩, ⟨.t 10, (some (.t 5, false)), (.un .not), [.t 9]⟩, ⟨.t 11, none, .pick, [.t 5, .c (.b true), .t 10]⟩, ⟨.t 12, none, .mv, [.t 11]⟩, ⟨.t 13, (some (.t 12, false)), .mv, [.l 0]⟩, ⟨.t 14, (some (.t 12, false)), .nilchk, [.t 13]⟩, ⟨.t 15, (some (.t 12, false)), (.fad 5), [.t 14]⟩, ⟨.t 16, (some (.t 12, false)), (.ld none), [.t 15]⟩, ⟨.t 17, none, .pick, [.t 12, .c (.b true), .t 16]⟩])
 (.cond (.t 17) (.seq (.reg [⟨.l 2, none, .mv, [.c (.sl none 0 0 0)]⟩])
 .ret) .skip))
 (.seq (.reg [⟨.t 18, none, .mv, [.l 0]⟩, ⟨.t 19, none, (.call 49), [.t 18]⟩, ⟨.l 2, none, .mv, [.t 19]⟩])
 .ret))), [.tmp (.l 2)]⟩
theorem c39 : compFn Try.prog b39 Try.f39 = some a39 := by kernel_rfl
/-- (*tarpaulin/timer.Set).Stop -/
def b40 : Nat := 115
def a40 : AFn := ⟨(.seq (.reg [⟨.l 4, none, .mv, [.c (.b false)]⟩, ⟨.l 5, none, .mv, [.c (.i .i64 0)]⟩])
 (.seq (.seq (.reg [⟨.t 7, none, .mv, [.l 0]⟩, ⟨.t 8, none, .mv, [.l 1]⟩, ⟨.t 9, none, (.call 50), [.t 7, .t 8]⟩, ⟨.t 10, none, (.un .not), [.t 9]⟩])
 (.cond (.t 10) (.seq (.reg [⟨.l 4, none, .mv, [.c (.b false)]⟩, ⟨.l 5, none, .mv, [.c (.i .i64 4)]⟩])
 .ret) .skip))
 (.seq (.reg [⟨.t 11, none, .mv, [.l 0]⟩, ⟨.t 12, none, .nilchk, [.t 11]⟩, ⟨.t 13, none, (.fad 1), [.t 12]⟩, ⟨.t 14, none, (.ld none), [.t 13]⟩, ⟨.t 15, none, .mv, [.l 1]⟩, ⟨.t 16, none, (.call 51), [.t 14, .t 15]⟩, ⟨.l 6, none, .mv, [.t 16]⟩])
 (.seq (.reg [⟨.t 17, none, .mv, [.l 0]⟩, ⟨.t 18, none, .nilchk, [.t 17]⟩, ⟨.t 19, none, (.fad 0), [.t 18]⟩, ⟨.t 20, none, (.ld none), [.t 19]⟩, ⟨.t 21, none, .mv, [.l 1]⟩, ⟨.t 22, none, (.iad 4), [.t 20, .t 21]⟩, ⟨.t 23, none, (.fad 2), [.t 22]⟩, ⟨.t 24, none, (.ld none), [.t 23]⟩, ⟨.t 25, none, (.call 52), [.t 24]⟩, ⟨.t 26, none, .mv, [.t 25]⟩, ⟨.t 27, (some (.t 26, false)), .mv, [.l 6]⟩, ⟨.t 28, none, .pick, [.t 26, .c (.b true), .t 27]⟩, ⟨.l 4, none, .mv, [.t 28]⟩, ⟨.l 5, none, .mv, [.c (.i .i64 0)]⟩])
 .ret)))), [.tmp (.l 4), .tmp (.l 5)]⟩
theorem c40 : compFn Try.prog b40 Try.f40 = some a40 := by kernel_rfl
/-- (*tarpaulin/tree.Tree).Kids -/
def b41 : Nat := 19
def a41 : AFn := ⟨(.seq (.reg [⟨.l 4, none, .mv, [.c (.sl none 0 0 0)]⟩])
 (.seq (.seq (.reg [⟨.t 5, none, .mv, [.l 0]⟩, ⟨.t 6, none, .mv, [.l 1]⟩, ⟨.t 7, none, (.call 46), [.t 5, .t 6]⟩, ⟨.t 8, none, (.un .not), [.t 7]⟩])
 (.cond (.t 8) (.seq (.reg [⟨.l 4, none, .mv, [.c (.sl none 0 0 0)]⟩])
 .ret) .skip))
 (.seq (.reg [⟨.t 9, none, .mv, [.l 0]⟩, ⟨.t 10, none, .nilchk, [.t 9]⟩, ⟨.t 11, none, (.fad 0), [.t 10]⟩, ⟨.t 12, none, (.ld none), [.t 11]⟩, ⟨.t 13, none, .mv, [.l 1]⟩, ⟨.t 14, none, (.iad 3), [.t 12, .t 13]⟩, ⟨.t 15, none, (.fad 2), [.t 14]⟩, ⟨.t 16, none, (.ld none), [.t 15]⟩, ⟨.t 17, none, (.call 53), [.t 16]⟩, ⟨.l 4, none, .mv, [.t 17]⟩])
 .ret))), [.tmp (.l 4)]⟩
theorem c41 : compFn Try.prog b41 Try.f41 = some a41 := by kernel_rfl
/-- (*tarpaulin/ctx.Set).start -/
def b42 : Nat := 51
def a42 : AFn := ⟨(.seq (.reg [⟨.l 4, none, (.alloc [(.i .i64 0), (.i .i64 0)]), []⟩])
 (.seq (.reg [⟨.t 6, none, .mv, [.l 0]⟩, ⟨.t 7, none, .nilchk, [.t 6]⟩, ⟨.t 8, none, (.fad 3), [.t 7]⟩, ⟨.t 9, none, (.ld none), [.t 8]⟩, ⟨.t 10, none, .mv, [.l 1]⟩, ⟨.t 11, none, (.iad 3), [.t 9, .t 10]⟩, ⟨.l 5, none, .mv, [.t 11]⟩])
 (.seq (.reg [⟨.t 12, none, .mv, [.l 5]⟩, ⟨.t 13, none, .nilchk, [.t 12]⟩, ⟨.t 14, none, (.fad 2), [.t 13]⟩, ⟨.no, none, (.st 1), [.t 14, .c (.b true)]⟩])
 (.seq (.reg [⟨.t 15, none, .mv, [.l 0]⟩, ⟨.t 16, none, .nilchk, [.t 15]⟩, ⟨.t 17, none, (.fad 1), [.t 16]⟩, ⟨.t 18, none, (.ld none), [.t 17]⟩, ⟨.t 19, none, .mv, [.l 5]⟩, ⟨.t 20, none, .nilchk, [.t 19]⟩, ⟨.t 21, none, (.fad 0), [.t 20]⟩, ⟨.t 22, none, (.ld none), [.t 21]⟩, ⟨.t 23, none, (.call 43), [.t 18, .t 22]⟩])
 (.seq (.reg [⟨.t 24, none, .mv, [.l 1]⟩, ⟨.t 25, none, .mv, [.l 5]⟩, ⟨.t 26, none, .nilchk, [.t 25]⟩, ⟨.t 27, none, (.fad 1), [.t 26]⟩, ⟨.t 28, none, (.ld none), [.t 27]⟩, ⟨.t 29, none, (.build [(.i .i64 0), (.i .i64 0)] [(0, 1), (1, 1)]), [.t 24, .t 28]⟩, ⟨.no, none, (.st 2), [.l 4, .t 29]⟩])
 .ret))))), [.cell (.l 4) (some 2)]⟩
theorem c42 : compFn Try.prog b42 Try.f42 = some a42 := by kernel_rfl
/-- (*tarpaulin/tree.Tree).Detach -/
def b43 : Nat := 115
def a43 : AFn := ⟨(.seq (.reg [⟨.l 4, none, .mv, [.c (.b false)]⟩])
 (.seq (.seq (.reg [⟨.t 7, none, .mv, [.l 0]⟩, ⟨.t 8, none, .mv, [.l 1]⟩, ⟨.t 9, none, (.call 46), [.t 7, .t 8]⟩, ⟨.t 10, none, (.un .not), [.t 9]⟩, ⟨.t 11, none, .mv, [.t 10]⟩, ⟨.t 12, (some (.t 11, false)), .mv, [.l 0]⟩, ⟨.t 13, (some (.t 11, false)), .nilchk, [.t 12]⟩, ⟨.t 14, (some (.t 11, false)), (.fad 0), [.t 13]⟩, ⟨.t 15, (some (.t 11, false)), (.ld none), [.t 14]⟩, ⟨.t 16, (some (.t 11, false)), .mv, [.l 1]⟩, ⟨.t 17, (some (.t 11, false)), (.iad 3), [.t 15, .t 16]⟩, ⟨.t 18, (some (.t 11, false)), (.fad 1), [.t 17]⟩, ⟨.t 19, (some (.t 11, false)), (.ld none), [.t 18]⟩, ⟨.t 20, (some (.t 11, false)), (.un .not), [.t 19]⟩, ⟨.t 21, none, .pick, [.t 11, .c (.b true), .t 20]⟩])
 (.cond (.t 21) (.seq (.reg [⟨.l 4, none, .mv, [.c (.b false)]⟩])
 .ret) .skip))
 (.seq (.reg [⟨.t 22, none, .mv, [.l 0]⟩, ⟨.t 23, none, .nilchk, [.t 22]⟩, ⟨.t 24, none, (.fad 0), [.t 23]⟩, ⟨.t 25, none, (.ld none), [.t 24]⟩, ⟨.t 26, none, .mv, [.l 1]⟩, ⟨.t 27, none, (.iad 3), [.t 25, .t 26]⟩, ⟨.t 28, none, (.fad 1), [.t 27]⟩, ⟨.no, none, (.st 1), [.t 28, .c (.b false)]⟩])
 (.seq (.reg [⟨.t 29, none, .mv, [.l 0]⟩, ⟨.t 30, none, .nilchk, [.t 29]⟩, ⟨.t 31, none, (.fad 0), [.t 30]⟩, ⟨.t 32, none, (.ld none), [.t 31]⟩, ⟨.t 33, none, .mv, [.l 0]⟩, ⟨.t 34, none, .nilchk, [.t 33]⟩, ⟨.t 35, none, (.fad 0), [.t 34]⟩, ⟨.t 36, none, (.ld none), [.t 35]⟩, ⟨.t 37, none, .mv, [.l 1]⟩, ⟨.t 38, none, (.iad 3), [.t 36, .t 37]⟩, ⟨.t 39, none, (.fad 0), [.t 38]⟩, ⟨.t 40, none, (.ld none), [.t 39]⟩, ⟨.t 41, none, (.iad 3), [.t 32, .t 40]⟩, ⟨.l 5, none, .mv, [.t 41]⟩])
 (.seq (.reg [⟨.t 42, none, .mv, [.l 5]⟩, ⟨.t 43, none, .nilchk, [.t 42]⟩, ⟨.t 44, none, (.fad 2), [.t 43]⟩, ⟨.t 45, none, (.ld none), [.t 44]⟩, ⟨.t 46, none, .mv, [.l 1]⟩, ⟨.t 47, none, (.call 54), [.t 45, .t 46]⟩, ⟨.l 6, none, .mv, [.t 47]⟩])
 (.seq (.reg [⟨.t 48, none, .mv, [.l 5]⟩, ⟨.t 49, none, .mv, [.l 5]⟩, ⟨.t 50, none, .nilchk, [.t 49]⟩, ⟨.t 51, none, (.fad 2), [.t 50]⟩, ⟨.t 52, none, (.ld none), [.t 51]⟩, ⟨.t 53, none, .mv, [.l 6]⟩, ⟨.t 54, none, .mv, [.l 6]⟩, ⟨.t 55, none, (.bin .add), [.t 54, .c (.i .i64 1)]⟩, ⟨.t 56, none, (.call 55), [.t 52, .t 53, .t 55]⟩, ⟨.t 57, none, .nilchk, [.t 48]⟩, ⟨.t 58, none, (.fad 2), [.t 57]⟩, ⟨.no, none, (.st 1), [.t 58, .t 56]⟩])
 (.seq (.reg [⟨.l 4, none, .mv, [.c (.b true)]⟩])
 .ret))))))), [.tmp (.l 4)]⟩
theorem c43 : compFn Try.prog b43 Try.f43 = some a43 := by kernel_rfl
/-- tarpaulin/heap.New -/
def b44 : Nat := 1
def a44 : AFn := ⟨(.seq (.reg [⟨.l 0, none, .mv, [.c (.p none)]⟩])
 (.seq (.reg [⟨.t 1, none, .mkmap, []⟩, ⟨.t 2, none, (.build [(.sl none 0 0 0), (.m none), (.i .i64 0)] [(1, 1)]), [.t 1]⟩, ⟨.t 3, none, .box, [.t 2]⟩, ⟨.l 0, none, .mv, [.t 3]⟩])
 .ret)), [.tmp (.l 0)]⟩
theorem c44 : compFn Try.prog b44 Try.f44 = some a44 := by kernel_rfl
/-- (*tarpaulin/tarpaulinref1.Tree).Add -/
def b45 : Nat := 199
def a45 : AFn := ⟨(.seq (.reg [⟨.l 6, none, .mv, [.c (.i .i64 0)]⟩, ⟨.l 7, none, .mv, [.c (.i .i64 0)]⟩])
 (.seq (.seq (.reg [⟨.t 8, none, .mv, [.l 1]⟩, ⟨.t 9, none, (.bin .lss), [.t 8, .c (.i .i64 (-1))]⟩, ⟨.t 10, none, .mv, [.t 9]⟩, ⟨.t 11, (some (.t 10, false)), .mv, [.l 1]⟩, ⟨.t 12, (some (.t 10, false)), .mv, [.l 0]⟩, ⟨.t 13, (some (.t 10, false)), .nilchk, [.t 12]⟩, ⟨.t 14, (some (.t 10, false)), (.fad 0), [.t 13]⟩, ⟨.t 15, (some (.t 10, false)), (.ld none), [.t 14]⟩, ⟨.t 16, (some (.t 10, false)), .lenSl, [.t 15]⟩, ⟨.t 17, (some (.t 10, false)), (.bin .geq), [.t 11, .t 16]⟩, ⟨.t 18, none, .pick, [.t 10, .c (.b true), .t 17]⟩])
 (.cond (.t 18) (.seq (.reg [⟨.l 6, none, .mv, [.c (.i .i64 0)]⟩, ⟨.l 7, none, .mv, [.c (.i .i64 1)]⟩])
 .ret) .skip))
 (.seq (.seq (.reg [⟨.t 19, none, .mv, [.l 0]⟩, ⟨.t 20, none, .nilchk, [.t 19]⟩, ⟨.t 21, none, (.fad 0), [.t 20]⟩, ⟨.t 22, none, (.ld none), [.t 21]⟩, ⟨.t 23, none, .lenSl, [.t 22]⟩, ⟨.t 24, none, (.bin .geq), [.t 23, .c (.i .i64 1000)]⟩])
 (.cond (.t 24) (.seq (.reg [⟨.l 6, none, .mv, [.c (.i .i64 0)]⟩, ⟨.l 7, none, .mv, [.c (.i .i64 3)]⟩])
 .ret) .skip))
 (.seq (.reg [⟨.t 25, none, .mv, [.l 0]⟩, ⟨.t 26, none, .mv, [.l 0]⟩, ⟨.t 27, none, .nilchk, [.t 26]⟩, ⟨.t 28, none, (.fad 0), [.t 27]⟩, ⟨.t 29, none, (.ld none), [.t 28]⟩, ⟨.t 30, none, .mv, [.l 1]⟩, ⟨.t 31, none, .mv, [.l 2]⟩, ⟨.t 32, none, .mv, [.t 31]⟩, ⟨.t 33, (some (.t 32, true)), .mv, [.l 1]⟩, ⟨.t 34, (some (.t 32, true)), (.bin .geq), [.t 33, .c (.i .i64 0)]⟩, ⟨.t 35, none, .pick, [.t 32, .t 34, .c (.b false)]⟩, ⟨.t 36, none, (.build [(.i .i64 0), (.b false)] [(0, 1), (1, 1)]), [.t 30, .t 35]⟩, ⟨.t 37, none, (.bslice [(.i .i64 0), (.b false)] 1 2 [0]), [.t 36]⟩, ⟨.t 38, none, (.app 2 16), [.t 29, .t 37]⟩, ⟨.t 39, none, .nilchk, [.t 25]⟩, ⟨.t 40, none, (.fad 0), [.t 39]⟩, ⟨.no, none, (.st 1), [.t 40, .t 38]⟩])
 (.seq (.reg [⟨.t 41, none, .mv, [.l 0]⟩, ⟨.t 42, none, .nilchk, [.t 41]⟩, ⟨.t 43, none, (.fad 0), [.t 42]⟩, ⟨.t 44, none, (.ld none), [.t 43]⟩, ⟨.t 45, none, .lenSl, [.t 44]⟩, ⟨.t 46, none, (.bin .sub), [.t 45, .c (.i .i64 1)]⟩, ⟨.l 6, none, .mv, [.t 46]⟩, ⟨.l 7, none, .mv, [.c (.i .i64 0)]⟩])
 .ret))))), [.tmp (.l 6), .tmp (.l 7)]⟩
theorem c45 : compFn Try.prog b45 Try.f45 = some a45 := by kernel_rfl
/-- (*tarpaulin/tree.Tree).has -/
def b46 : Nat := 19
def a46 : AFn := ⟨(.seq (.reg [⟨.l 4, none, .mv, [.c (.b false)]⟩])
 (.seq (.reg [⟨.t 5, none, .mv, [.l 1]⟩, ⟨.t 6, none, (.bin .geq), [.t 5, .c (.i .i64 0)]⟩, ⟨.t 7, none, .mv, [.t 6]⟩, ⟨.t 8, (some (.t 7, true)), .mv, [.l 1]⟩, ⟨.t 9, (some (.t 7, true)), .mv, [.l 0]⟩, ⟨.t 10, (some (.t 7, true)), (.call 56), [.t 9]⟩, ⟨.t 11, (some (.t 7, true)), (.bin .lss), [.t 8, .t 10]⟩, ⟨.t 12, none, .pick, [.t 7, .t 11, .c (.b false)]⟩, ⟨.l 4, none, .mv, [.t 12]⟩])
 .ret)), [.tmp (.l 4)]⟩
theorem c46 : compFn Try.prog b46 Try.f46 = some a46 := by kernel_rfl
/-- tarpaulin/ring.New -/
def b47 : Nat := 13
def a47 : AFn := ⟨(.seq (.reg [⟨.l 2, none, .mv, [.c (.p none)]⟩, ⟨.l 3, none, .mv, [.c (.i .i64 0)]⟩])
 (.seq (.seq (.reg [⟨.t 4, none, .mv, [.l 0]⟩, ⟨.t 5, none, (.bin .lss), [.t 4, .c (.i .i64 0)]⟩, ⟨.t 6, none, .mv, [.t 5]⟩, ⟨.t 7, (some (.t 6, false)), .mv, [.l 0]⟩, ⟨.t 8, (some (.t 6, false)), (.bin .gtr), [.t 7, .c (.i .i64 64)]⟩, ⟨.t 9, none, .pick, [.t 6, .c (.b true), .t 8]⟩])
 (.cond (.t 9) (.seq (.reg [⟨.l 2, none, .mv, [.c (.p none)]⟩, ⟨.l 3, none, .mv, [.c (.i .i64 1)]⟩])
 .ret) .skip))
 (.seq (.reg [⟨.t 10, none, .mv, [.l 0]⟩, ⟨.t 11, none, (.mksl [(.i .i64 0)] 8), [.t 10, .t 10]⟩, ⟨.t 12, none, (.build [(.sl none 0 0 0), (.i .i64 0), (.i .i64 0)] [(0, 1)]), [.t 11]⟩, ⟨.t 13, none, .box, [.t 12]⟩, ⟨.l 2, none, .mv, [.t 13]⟩, ⟨.l 3, none, .mv, [.c (.i .i64 0)]⟩])
 .ret))), [.tmp (.l 2), .tmp (.l 3)]⟩
theorem c47 : compFn Try.prog b47 Try.f47 = some a47 := by kernel_rfl
/-- tarpaulin/wait.New -/
def b48 : Nat := 1
def a48 : AFn := ⟨(.seq (.reg [⟨.l 0, none, .mv, [.c (.p none)]⟩])
 (.seq (.reg [⟨.t 1, none, (.build [(.p none), (.p none), (.i .i64 0)] []), []⟩, ⟨.t 2, none, .box, [.t 1]⟩, ⟨.l 0, none, .mv, [.t 2]⟩])
 .ret)), [.tmp (.l 0)]⟩
theorem c48 : compFn Try.prog b48 Try.f48 = some a48 := by kernel_rfl
/-- (*tarpaulin/chanq.Chan).end -/
def b49 : Nat := 9007199256576117
def a49 : AFn := ⟨(.seq (.reg [⟨.l 2, none, .mv, [.c (.sl none 0 0 0)]⟩])
 (.seq (.reg [⟨.t 7, none, .mv, [.l 0]⟩, ⟨.t 8, none, .nilchk, [.t 7]⟩, ⟨.t 9, none, (.fad 5), [.t 8]⟩, ⟨.no, none, (.st 1), [.t 9, .c (.b true)]⟩])
 (.seq (.seq (.reg [⟨.t 10, none, .mv, [.l 0]⟩, ⟨.t 11, none, .nilchk, [.t 10]⟩, ⟨.t 12, none, (.fad 1), [.t 11]⟩, ⟨.t 13, none, (.ld none), [.t 12]⟩, ⟨.t 14, none, .mv, [.l 0]⟩, ⟨.t 15, none, .nilchk, [.t 14]⟩, ⟨.t 16, none, (.fad 2), [.t 15]⟩, ⟨.t 17, none, (.ld none), [.t 16]⟩, ⟨.l 18, none, (.bslice [(.p none)] 2 1 [0, 1]), [.t 13, .t 17]⟩, ⟨.l 19, none, .lenSl, [.l 18]⟩, ⟨.l 20, none, .mv, [.c (.i .i64 0)]⟩])
 (.block 0 (.loop (.seq (.reg [⟨.t 21, none, (.bin .lss), [.l 20, .l 19]⟩])
 (.seq (.cond (.t 21) .skip (.exit 0))
 (.seq (.block 1 (.seq (.reg [⟨.t 22, none, (.iad 1), [.l 18, .l 20]⟩, ⟨.t 23, none, (.ld none), [.t 22]⟩, ⟨.l 4, none, .mv, [.t 23]⟩])
 (.seq (.reg [⟨.t 25, none, .mv, [.l 4]⟩, ⟨.t 26, none, (.call 57), [.t 25]⟩, ⟨.t 24, none, .mv, [.t 26]⟩, ⟨.t 27, none, (.ext 0), [.t 24]⟩, ⟨.t 28, none, (.ext 1), [.t 24]⟩, ⟨.l 5, none, (.alloc [(.i .i64 0), (.i .i64 0), (.i .i64 0)]), []⟩, ⟨.no, none, (.st 3), [.l 5, .t 27]⟩, ⟨.l 6, none, .mv, [.t 28]⟩])
 (.block 2 (.loop (.seq (.seq (.reg [⟨.t 29, none, .mv, [.l 6]⟩])
 (.cond (.t 29) .skip (.exit 2)))
 (.seq (.block 3 (.seq (.reg [⟨.t 35, none, .mv, [.l 2]⟩, ⟨.t 36, none, (.mkfn 59 0), [.l 5]⟩, ⟨.t 37, none, (.call 58), [.t 35, .t 36]⟩, ⟨.t 38, none, (.un .not), [.t 37]⟩])
 (.cond (.t 38) (.reg [⟨.t 39, none, .mv, [.l 2]⟩, ⟨.t 40, none, (.fad 0), [.l 5]⟩, ⟨.t 41, none, (.ld none), [.t 40]⟩, ⟨.t 42, none, (.fad 1), [.l 5]⟩, ⟨.t 43, none, (.ld none), [.t 42]⟩, ⟨.t 44, none, .mv, [.l 4]⟩, ⟨.t 45, none, .mv, [.l 0]⟩, ⟨.t 46, none, .nilchk, [.t 45]⟩, ⟨.t 47, none, (.fad 2), [.t 46]⟩, ⟨.t 48, none, (.ld none), [.t 47]⟩, ⟨.t 49, none, (.eq false .ptr), [.t 44, .t 48]⟩, ⟨.t 50, none, (.build [(.i .i64 0), (.i .i64 0), (.i .i64 0), (.b false), (.b false)] [(0, 1), (1, 1), (4, 1)]), [.t 41, .t 43, .t 49]⟩, ⟨.t 51, none, (.bslice [(.i .i64 0), (.i .i64 0), (.i .i64 0), (.b false), (.b false)] 1 5 [0]), [.t 50]⟩, ⟨.t 52, none, (.app 5 32), [.t 39, .t 51]⟩, ⟨.l 2, none, .mv, [.t 52]⟩]) .skip)))
 (.seq (.seq (.reg [⟨.l 53, none, (.ld (some 3)), [.l 5]⟩])
 (.reg [⟨.l 5, none, (.alloc [(.i .i64 0), (.i .i64 0), (.i .i64 0)]), []⟩, ⟨.no, none, (.st 3), [.l 5, .l 53]⟩]))
 (.reg [⟨.t 31, none, .mv, [.l 4]⟩, ⟨.t 32, none, (.call 57), [.t 31]⟩, ⟨.t 30, none, .mv, [.t 32]⟩, ⟨.t 33, none, (.ext 0), [.t 30]⟩, ⟨.t 34, none, (.ext 1), [.t 30]⟩, ⟨.no, none, (.st 3), [.l 5, .t 33]⟩, ⟨.l 6, none, .mv, [.t 34]⟩])))))))))
 (.reg [⟨.t 54, none, (.bin .add), [.l 20, .c (.i .i64 1)]⟩, ⟨.l 20, none, .mv, [.t 54]⟩])))))))
 (.seq (.reg [⟨.t 55, none, .mv, [.l 2]⟩, ⟨.l 2, none, .mv, [.t 55]⟩])
 .ret)))), [.tmp (.l 2)]⟩
theorem c49 : compFn Try.prog b49 Try.f49 = some a49 := by kernel_rfl
/-- (*tarpaulin/timer.Set).has -/
def b50 : Nat := 19
def a50 : AFn := ⟨(.seq (.reg [⟨.l 4, none, .mv, [.c (.b false)]⟩])
 (.seq (.reg [⟨.t 5, none, .mv, [.l 0]⟩, ⟨.t 6, none, (.eq true .ptr), [.t 5, .c (.p none)]⟩, ⟨.t 7, none, .mv, [.t 6]⟩, ⟨.t 8, (some (.t 7, true)), .mv, [.l 1]⟩, ⟨.t 9, (some (.t 7, true)), (.bin .geq), [.t 8, .c (.i .i64 0)]⟩, ⟨.t 10, none, .pick, [.t 7, .t 9, .c (.b false)]⟩, ⟨.t 11, none, .mv, [.t 10]⟩, ⟨.t 12, (some (.t 11, true)), .mv, [.l 1]⟩, ⟨.t 13, (some (.t 11, true)), .mv, [.l 0]⟩, ⟨.t 14, (some (.t 11, true)), .nilchk, [.t 13]⟩, ⟨.t 15, (some (.t 11, true)), (.fad 0), [.t 14]⟩, ⟨.t 16, (some (.t 11, true)), (.ld none), [.t 15]⟩, ⟨.t 17, (some (.t 11, true)), .lenSl, [.t 16]⟩, ⟨.t 18, (some (.t 11, true)), (.bin .lss), [.t 12, .t 17]⟩, ⟨.t 19, none, .pick, [.t 11, .t 18, .c (.b false)]⟩, ⟨.l 4, none, .mv, [.t 19]⟩])
 .ret)), [.tmp (.l 4)]⟩
theorem c50 : compFn Try.prog b50 Try.f50 = some a50 := by kernel_rfl
/-- (*tarpaulin/expire.Timers).Stop -/
def b51 : Nat := 83
def a51 : AFn := ⟨(.seq (.reg [⟨.l 4, none, .mv, [.c (.b false)]⟩])
 (.seq (.seq (.reg [⟨.t 7, none, .mv, [.l 0]⟩, ⟨.t 8, none, (.eq false .ptr), [.t 7, .c (.p none)]⟩])
 (.cond (.t 8) (.seq (.reg [⟨.l 4, none, .mv, [.c (.b false)]⟩])
 .ret) .skip))
 (.seq (.reg [⟨.t 10, none, .mv, [.l 0]⟩, ⟨.t 11, none, .nilchk, [.t 10]⟩, ⟨.t 12, none, (.fad 0), [.t 11]⟩, ⟨.t 13, none, (.ld none), [.t 12]⟩, ⟨.t 14, none, .mv, [.l 1]⟩, ⟨.t 15, none, (.call 60), [.t 13, .t 14]⟩, ⟨.t 9, none, .mv, [.t 15]⟩, ⟨.t 16, none, (.ext 0), [.t 9]⟩, ⟨.t 17, none, (.ext 1), [.t 9]⟩, ⟨.t 5, none, (.alloc [(.i .i64 0), (.i .i64 0), (.i .i64 0)]), []⟩, ⟨.no, none, (.st 3), [.t 5, .t 16]⟩, ⟨.l 6, none, .mv, [.t 17]⟩])
 (.seq (.reg [⟨.t 18, none, .mv, [.l 0]⟩, ⟨.t 19, none, .nilchk, [.t 18]⟩, ⟨.t 20, none, (.fad 1), [.t 19]⟩, ⟨.t 21, none, (.ld none), [.t 20]⟩, ⟨.t 22, none, .mv, [.l 1]⟩, ⟨.no, none, .mdel, [.t 21, .t 22]⟩])
 (.seq (.reg [⟨.t 23, none, .mv, [.l 6]⟩, ⟨.l 4, none, .mv, [.t 23]⟩])
 .ret))))), [.tmp (.l 4)]⟩
theorem c51 : compFn Try.prog b51 Try.f51 = some a51 := by kernel_rfl
/-- (*tarpaulin/chanq.Chan).Drop -/
def b52 : Nat := 5
def a52 : AFn := ⟨(.seq (.reg [⟨.l 2, none, .mv, [.c (.b false)]⟩])
 (.seq (.reg [⟨.t 3, none, .mv, [.l 0]⟩, ⟨.t 4, none, (.eq true .ptr), [.t 3, .c (.p none)]⟩, ⟨.t 5, none, .mv, [.t 4]⟩, ⟨.t 6, (some (.t 5, true)), .mv, [.l 0]⟩, ⟨.t 7, (some (.t 5, true)), .nilchk, [.t 6]⟩, ⟨.t 8, (some (.t 5, true)), (.fad 3), [.t 7]⟩, ⟨.t 9, (some (.t 5, true)), (.ld none), [.t 8]⟩, ⟨.t 10, none, .pick, [.t 5, .t 9, .c (.b false)]⟩, ⟨.t 11, none, .mv, [.t 10]⟩, ⟨.t 12, (some (.t 11, true)), .mv, [.l 0]⟩, ⟨.t 13, (some (.t 11, true)), .nilchk, [.t 12]⟩, ⟨.t 14, (some (.t 11, true)), (.fad 0), [.t 13]⟩, ⟨.t 15, (some (.t 11, true)), (.ld none), [.t 14]⟩, ⟨.t 16, (some (.t 11, true)), (.call 61), [.t 15]⟩, ⟨.t 17, (some (.t 11, true)), (.bin .gtr), [.t 16, .c (.i .i64 0)]⟩, ⟨.t 18, none, .pick, [.t 11, .t 17, .c (.b false)]⟩, ⟨.l 2, none, .mv, [.t 18]⟩])
 .ret)), [.tmp (.l 2)]⟩
theorem c52 : compFn Try.prog b52 Try.f52 = some a52 := by kernel_rfl
/-- slices.Clone[[]int,int] -/
def b53 : Nat := 5
def a53 : AFn := ⟨(.seq (.reg [⟨.l 2, none, .mv, [.c (.sl none 0 0 0)]⟩])
 (.seq (.seq (.reg [⟨.t 3, none, .mv, [.l 0]⟩, ⟨.t 4, none, (.eq false .slnil), [.t 3, .c (.sl none 0 0 0)]⟩])
 (.cond (.t 4) (.seq (.reg [⟨.l 2, none, .mv, [.c (.sl none 0 0 0)]⟩])
 .ret) .skip))
 (.seq (.reg [⟨.t 5, none, (.bslice [(.i .i64 0)] 0 1 []), []⟩, ⟨.t 6, none, .mv, [.l 0]⟩, ⟨.t 7, none, (.app 1 8), [.t 5, .t 6]⟩, ⟨.l 2, none, .mv, [.t 7]⟩])
 .ret))), [.tmp (.l 2)]⟩
theorem c53 : compFn Try.prog b53 Try.f53 = some a53 := by kernel_rfl
/-- slices.Index[[]int,int] -/
def b54 : Nat := 435
def a54 : AFn := ⟨(.seq (.reg [⟨.l 4, none, .mv, [.c (.i .i64 0)]⟩])
 (.seq (.seq (.reg [⟨.t 6, none, .mv, [.l 0]⟩, ⟨.l 7, none, .lenSl, [.t 6]⟩, ⟨.l 8, none, .mv, [.c (.i .i64 0)]⟩])
 (.block 0 (.loop (.seq (.reg [⟨.t 9, none, (.bin .lss), [.l 8, .l 7]⟩])
 (.seq (.cond (.t 9) .skip (.exit 0))
 (.seq (.block 1 (.seq (.reg [⟨.t 10, none, .mv, [.l 8]⟩, ⟨.l 5, none, .mv, [.t 10]⟩])
 (.seq (.reg [⟨.t 11, none, .mv, [.l 1]⟩, ⟨.t 12, none, .mv, [.l 0]⟩, ⟨.t 13, none, .mv, [.l 5]⟩, ⟨.t 14, none, (.iad 1), [.t 12, .t 13]⟩, ⟨.t 15, none, (.ld none), [.t 14]⟩, ⟨.t 16, none, (.bin .eql), [.t 11, .t 15]⟩])
 (.cond (.t 16) (.seq (.reg [⟨.t 17, none, .mv, [.l 5]⟩, ⟨.l 4, none, .mv, [.t 17]⟩])
 .ret) .skip))))
 (.reg [⟨.t 18, none, (.bin .add), [.l 8, .c (.i .i64 1)]⟩, ⟨.l 8, none, .mv, [.t 18]⟩])))))))
 (.seq (.reg [⟨.l 4, none, .mv, [.c (.i .i64 (-1))]⟩])
 .ret))), [.tmp (.l 4)]⟩
theorem c54 : compFn Try.prog b54 Try.f54 = some a54 := by kernel_rfl
/-- slices.Delete[[]int,int] -/
def b55 : Nat := 199
def a55 : AFn := ⟨(.seq (.reg [⟨.l 6, none, .mv, [.c (.sl none 0 0 0)]⟩])
 (.seq (.reg [⟨.t 8, none, .mv, [.l 0]⟩, ⟨.t 9, none, .mv, [.l 1]⟩, ⟨.t 10, none, .mv, [.l 2]⟩, ⟨.t 11, none, .mv, [.l 0]⟩, ⟨.t 12, none, .lenSl, [.t 11]⟩, ⟨.t 13, none, (.slc 1 true true true), [.t 8, .t 9, .t 10, .t 12]⟩])
 (.seq (.seq (.reg [⟨.t 14, none, .mv, [.l 1]⟩, ⟨.t 15, none, .mv, [.l 2]⟩, ⟨.t 16, none, (.bin .eql), [.t 14, .t 15]⟩])
 (.cond (.t 16) (.seq (.reg [⟨.t 17, none, .mv, [.l 0]⟩, ⟨.l 6, none, .mv, [.t 17]⟩])
 .ret) .skip))
 (.seq (.reg [⟨.t 18, none, .mv, [.l 0]⟩, ⟨.t 19, none, .lenSl, [.t 18]⟩, ⟨.l 7, none, .mv, [.t 19]⟩])
 (.seq (.reg [⟨.t 20, none, .mv, [.l 0]⟩, ⟨.t 21, none, .mv, [.l 1]⟩, ⟨.t 22, none, (.slc 1 false true false), [.t 20, .t 21]⟩, ⟨.t 23, none, .mv, [.l 0]⟩, ⟨.t 24, none, .mv, [.l 2]⟩, ⟨.t 25, none, (.slc 1 true false false), [.t 23, .t 24]⟩, ⟨.t 26, none, (.app 1 8), [.t 22, .t 25]⟩, ⟨.l 0, none, .mv, [.t 26]⟩])
 (.seq (.reg [⟨.t 27, none, .mv, [.l 0]⟩, ⟨.t 28, none, .mv, [.l 0]⟩, ⟨.t 29, none, .lenSl, [.t 28]⟩, ⟨.t 30, none, .mv, [.l 7]⟩, ⟨.t 31, none, (.slc 1 true true false), [.t 27, .t 29, .t 30]⟩, ⟨.no, none, (.clr [(.i .i64 0)]), [.t 31]⟩])
 (.seq (.reg [⟨.t 32, none, .mv, [.l 0]⟩, ⟨.l 6, none, .mv, [.t 32]⟩])
 .ret))))))), [.tmp (.l 6)]⟩
theorem c55 : compFn Try.prog b55 Try.f55 = some a55 := by kernel_rfl
/-- (*tarpaulin/tree.Tree).Len -/
def b56 : Nat := 5
def a56 : AFn := ⟨(.seq (.reg [⟨.l 2, none, .mv, [.c (.i .i64 0)]⟩])
 (.seq (.seq (.reg [⟨.t 3, none, .mv, [.l 0]⟩, ⟨.t 4, none, (.eq false .ptr), [.t 3, .c (.p none)]⟩])
 (.cond (.t 4) (.seq (.reg [⟨.l 2, none, .mv, [.c (.i .i64 0)]⟩])
 .ret) .skip))
 (.seq (.reg [⟨.t 5, none, .mv, [.l 0]⟩, ⟨.t 6, none, .nilchk, [.t 5]⟩, ⟨.t 7, none, (.fad 0), [.t 6]⟩, ⟨.t 8, none, (.ld none), [.t 7]⟩, ⟨.t 9, none, .lenSl, [.t 8]⟩, ⟨.l 2, none, .mv, [.t 9]⟩])
 .ret))), [.tmp (.l 2)]⟩
theorem c56 : compFn Try.prog b56 Try.f56 = some a56 := by kernel_rfl
/-- (*tarpaulin/wait.Queue).Pop -/
def b57 : Nat := 13
def a57 : AFn := ⟨(.seq (.reg [⟨.l 2, none, (.alloc [(.i .i64 0), (.i .i64 0), (.i .i64 0)]), []⟩, ⟨.l 3, none, .mv, [.c (.b false)]⟩])
 (.seq (.reg [⟨.t 4, none, .mv, [.l 0]⟩, ⟨.t 5, none, (.call 62), [.t 4, .c (.fn 63 [] [])]⟩, ⟨.t 6, none, (.ext 0), [.t 5]⟩, ⟨.t 7, none, (.ext 1), [.t 5]⟩, ⟨.no, none, (.st 3), [.l 2, .t 6]⟩, ⟨.l 3, none, .mv, [.t 7]⟩])
 .ret)), [.cell (.l 2) (some 3), .tmp (.l 3)]⟩
theorem c57 : compFn Try.prog b57 Try.f57 = some a57 := by kernel_rfl
/-- slices.ContainsFunc[[]tarpaulin/api.Wake,tarpaulin/api.Wake] -/
def b58 : Nat := 19
def a58 : AFn := ⟨(.seq (.reg [⟨.l 4, none, .mv, [.c (.b false)]⟩])
 (.seq (.reg [⟨.t 5, none, .mv, [.l 0]⟩, ⟨.t 6, none, .mv, [.l 1]⟩, ⟨.t 7, none, (.call 64), [.t 5, .t 6]⟩, ⟨.t 8, none, (.bin .geq), [.t 7, .c (.i .i64 0)]⟩, ⟨.l 4, none, .mv, [.t 8]⟩])
 .ret)), [.tmp (.l 4)]⟩
theorem c58 : compFn Try.prog b58 Try.f58 = some a58 := by kernel_rfl
/-- (*tarpaulin/chanq.Chan).end$1 -/
def b59 : Nat := 15
def a59 : AFn := ⟨(.seq (.reg [⟨.l 2, none, .box, [.l 0]⟩, ⟨.l 3, none, .mv, [.c (.b false)]⟩])
 (.seq (.reg [⟨.t 4, none, (.fad 0), [.l 2]⟩, ⟨.t 5, none, (.ld none), [.t 4]⟩, ⟨.t 6, none, (.fad 0), [.l 1]⟩, ⟨.t 7, none, (.ld none), [.t 6]⟩, ⟨.t 8, none, (.bin .eql), [.t 5, .t 7]⟩, ⟨.l 3, none, .mv, [.t 8]⟩])
 .ret)), [.tmp (.l 3)]⟩
theorem c59 : compFn Try.prog b59 Try.f59 = some a59 := by kernel_rfl
/-- (*tarpaulin/heap.Heap).Remove -/
def b60 : Nat := 2035
def a60 : AFn := ⟨(.seq (.reg [⟨.l 4, none, (.alloc [(.i .i64 0), (.i .i64 0), (.i .i64 0)]), []⟩, ⟨.l 5, none, .mv, [.c (.b false)]⟩])
 (.seq (.reg [⟨.t 12, none, .mv, [.l 0]⟩, ⟨.t 13, none, .mv, [.l 1]⟩, ⟨.t 14, none, (.call 65), [.t 12, .t 13]⟩, ⟨.t 11, none, .mv, [.t 14]⟩, ⟨.t 15, none, (.ext 0), [.t 11]⟩, ⟨.t 16, none, (.ext 1), [.t 11]⟩, ⟨.l 6, none, (.alloc [(.i .i64 0), (.i .i64 0), (.i .i64 0)]), []⟩, ⟨.no, none, (.st 3), [.l 6, .t 15]⟩, ⟨.l 7, none, .mv, [.t 16]⟩])
 (.seq (.seq (.reg [⟨.t 17, none, .mv, [.l 7]⟩, ⟨.t 18, none, (.un .not), [.t 17]⟩])
 (.cond (.t 18) (.seq (.reg [⟨.t 19, none, (.build [(.i .i64 0), (.i .i64 0), (.i .i64 0)] []), []⟩, ⟨.no, none, (.st 3), [.l 4, .t 19]⟩, ⟨.l 5, none, .mv, [.c (.b false)]⟩])
 .ret) .skip))
 (.seq (.reg [⟨.t 20, none, .mv, [.l 0]⟩, ⟨.t 21, none, .nilchk, [.t 20]⟩, ⟨.t 22, none, (.fad 1), [.t 21]⟩, ⟨.t 23, none, (.ld none), [.t 22]⟩, ⟨.t 24, none, .mv, [.l 1]⟩, ⟨.t 25, none, (.lkup (.i .i64 0) false), [.t 23, .t 24]⟩, ⟨.t 26, none, .mv, [.l 0]⟩, ⟨.t 27, none, .nilchk, [.t 26]⟩, ⟨.t 28, none, (.fad 0), [.t 27]⟩, ⟨.t 29, none, (.ld none), [.t 28]⟩, ⟨.t 30, none, .lenSl, [.t 29]⟩, ⟨.t 31, none, (.bin .sub), [.t 30, .c (.i .i64 1)]⟩, ⟨.l 8, none, .mv, [.t 25]⟩, ⟨.l 9, none, .mv, [.t 31]⟩])
 (.seq (.reg [⟨.t 32, none, .mv, [.l 0]⟩, ⟨.t 33, none, .nilchk, [.t 32]⟩, ⟨.t 34, none, (.fad 0), [.t 33]⟩, ⟨.t 35, none, (.ld none), [.t 34]⟩, ⟨.t 36, none, .mv, [.l 9]⟩, ⟨.t 37, none, (.iad 3), [.t 35, .t 36]⟩, ⟨.t 38, none, (.ld (some 3)), [.t 37]⟩, ⟨.l 10, none, (.alloc [(.i .i64 0), (.i .i64 0), (.i .i64 0)]), []⟩, ⟨.no, none, (.st 3), [.l 10, .t 38]⟩])
 (.seq (.reg [⟨.t 39, none, .mv, [.l 0]⟩, ⟨.t 40, none, .mv, [.l 0]⟩, ⟨.t 41, none, .nilchk, [.t 40]⟩, ⟨.t 42, none, (.fad 0), [.t 41]⟩, ⟨.t 43, none, (.ld none), [.t 42]⟩, ⟨.t 44, none, .mv, [.l 9]⟩, ⟨.t 45, none, (.slc 3 false true false), [.t 43, .t 44]⟩, ⟨.t 46, none, .nilchk, [.t 39]⟩, ⟨.t 47, none, (.fad 0), [.t 46]⟩, ⟨.no, none, (.st 1), [.t 47, .t 45]⟩])
 (.seq (.reg [⟨.t 48, none, .mv, [.l 0]⟩, ⟨.t 49, none, .nilchk, [.t 48]⟩, ⟨.t 50, none, (.fad 1), [.t 49]⟩, ⟨.t 51, none, (.ld none), [.t 50]⟩, ⟨.t 52, none, .mv, [.l 1]⟩, ⟨.no, none, .mdel, [.t 51, .t 52]⟩])
 (.seq (.seq (.reg [⟨.t 53, none, .mv, [.l 8]⟩, ⟨.t 54, none, .mv, [.l 9]⟩, ⟨.t 55, none, (.bin .lss), [.t 53, .t 54]⟩])
 (.cond (.t 55) (.seq (.reg [⟨.t 56, none, .mv, [.l 0]⟩, ⟨.t 57, none, .mv, [.l 8]⟩, ⟨.t 58, none, (.ld (some 3)), [.l 10]⟩, ⟨.t 59, none, (.call 66), [.t 56, .t 57, .t 58]⟩])
 (.seq (.reg [⟨.t 60, none, .mv, [.l 0]⟩, ⟨.t 61, none, .mv, [.l 8]⟩, ⟨.t 62, none, (.call 67), [.t 60, .t 61]⟩])
 (.reg [⟨.t 63, none, .mv, [.l 0]⟩, ⟨.t 64, none, .mv, [.l 0]⟩, ⟨.t 65, none, .nilchk, [.t 64]⟩, ⟨.t 66, none, (.fad 1), [.t 65]⟩, ⟨.t 67, none, (.ld none), [.t 66]⟩, ⟨.t 68, none, (.fad 0), [.l 10]⟩, ⟨.t 69, none, (.ld none), [.t 68]⟩, ⟨.t 70, none, (.lkup (.i .i64 0) false), [.t 67, .t 69]⟩, ⟨.t 71, none, (.call 68), [.t 63, .t 70]⟩]))) .skip))
 (.seq (.reg [⟨.t 72, none, (.ld (some 3)), [.l 6]⟩, ⟨.no, none, (.st 3), [.l 4, .t 72]⟩, ⟨.l 5, none, .mv, [.c (.b true)]⟩])
 .ret))))))))), [.cell (.l 4) (some 3), .tmp (.l 5)]⟩
theorem c60 : compFn Try.prog b60 Try.f60 = some a60 := by kernel_rfl
/-- (*tarpaulin/ring.Ring).Clear -/
def b61 : Nat := 13
def a61 : AFn := ⟨(.seq (.reg [⟨.l 2, none, .mv, [.c (.i .i64 0)]⟩])
 (.seq (.reg [⟨.t 4, none, .mv, [.l 0]⟩, ⟨.t 5, none, (.call 69), [.t 4]⟩, ⟨.l 3, none, .mv, [.t 5]⟩])
 (.seq (.seq (.reg [⟨.t 6, none, .mv, [.l 3]⟩, ⟨.t 7, none, (.bin .gtr), [.t 6, .c (.i .i64 0)]⟩])
 (.cond (.t 7) (.reg [⟨.t 8, none, .mv, [.l 0]⟩, ⟨.t 9, none, .nilchk, [.t 8]⟩, ⟨.t 10, none, (.fad 2), [.t 9]⟩, ⟨.no, none, (.st 1), [.t 10, .c (.i .i64 0)]⟩]) .skip))
 (.seq (.reg [⟨.t 11, none, .mv, [.l 3]⟩, ⟨.l 2, none, .mv, [.t 11]⟩])
 .ret)))), [.tmp (.l 2)]⟩
theorem c61 : compFn Try.prog b61 Try.f61 = some a61 := by kernel_rfl
/-- (*tarpaulin/wait.Queue).take -/
def b62 : Nat := 115
def a62 : AFn := ⟨(.seq (.reg [⟨.l 4, none, (.alloc [(.i .i64 0), (.i .i64 0), (.i .i64 0)]), []⟩, ⟨.l 5, none, .mv, [.c (.b false)]⟩])
 (.seq (.seq (.reg [⟨.t 7, none, .mv, [.l 0]⟩, ⟨.t 8, none, (.eq false .ptr), [.t 7, .c (.p none)]⟩])
 (.cond (.t 8) (.seq (.reg [⟨.t 9, none, (.build [(.i .i64 0), (.i .i64 0), (.i .i64 0)] []), []⟩, ⟨.no, none, (.st 3), [.l 4, .t 9]⟩, ⟨.l 5, none, .mv, [.c (.b false)]⟩])
 .ret) .skip))
 (.seq (.seq (.reg [⟨.t 10, none, .mv, [.l 0]⟩, ⟨.t 11, none, .nilchk, [.t 10]⟩, ⟨.t 12, none, (.fad 0), [.t 11]⟩, ⟨.t 13, none, (.ld none), [.t 12]⟩, ⟨.l 6, none, .mv, [.t 13]⟩])
 (.block 0 (.loop (.seq (.seq (.reg [⟨.t 14, none, .mv, [.l 6]⟩, ⟨.t 15, none, (.eq true .ptr), [.t 14, .c (.p none)]⟩])
 (.cond (.t 15) .skip (.exit 0)))
 (.seq (.block 1 (.seq (.reg [⟨.t 20, none, .mv, [.l 1]⟩, ⟨.t 21, none, .mv, [.l 6]⟩, ⟨.t 22, none, .nilchk, [.t 21]⟩, ⟨.t 23, none, (.fad 0), [.t 22]⟩, ⟨.t 24, none, (.ld (some 3)), [.t 23]⟩, ⟨.t 25, none, .callv, [.t 20, .t 24]⟩])
 (.cond (.t 25) (.seq (.reg [⟨.t 26, none, .mv, [.l 0]⟩, ⟨.t 27, none, .mv, [.l 6]⟩, ⟨.t 28, none, (.call 70), [.t 26, .t 27]⟩])
 (.seq (.reg [⟨.t 29, none, .mv, [.l 6]⟩, ⟨.t 30, none, .nilchk, [.t 29]⟩, ⟨.t 31, none, (.fad 0), [.t 30]⟩, ⟨.t 32, none, (.ld (some 3)), [.t 31]⟩, ⟨.no, none, (.st 3), [.l 4, .t 32]⟩, ⟨.l 5, none, .mv, [.c (.b true)]⟩])
 .ret)) .skip)))
 (.reg [⟨.t 16, none, .mv, [.l 6]⟩, ⟨.t 17, none, .nilchk, [.t 16]⟩, ⟨.t 18, none, (.fad 4), [.t 17]⟩, ⟨.t 19, none, (.ld none), [.t 18]⟩, ⟨.l 6, none, .mv, [.t 19]⟩]))))))
 (.seq (.reg [⟨.t 33, none, (.build [(.i .i64 0), (.i .i64 0), (.i .i64 0)] []), []⟩, ⟨.no, none, (.st 3), [.l 4, .t 33]⟩, ⟨.l 5, none, .mv, [.c (.b false)]⟩])
 .ret)))), [.cell (.l 4) (some 3), .tmp (.l 5)]⟩
theorem c62 : compFn Try.prog b62 Try.f62 = some a62 := by kernel_rfl
/-- (*tarpaulin/wait.Queue).Pop$1 -/
def b63 : Nat := 5
def a63 : AFn := ⟨(.seq (.reg [⟨.t 1, none, .box, [.l 0]⟩, ⟨.l 2, none, .mv, [.c (.b false)]⟩])
 (.seq (.reg [⟨.l 2, none, .mv, [.c (.b true)]⟩])
 .ret)), [.tmp (.l 2)]⟩
theorem c63 : compFn Try.prog b63 Try.f63 = some a63 := by kernel_rfl
/-- slices.IndexFunc[[]tarpaulin/api.Wake,tarpaulin/api.Wake] -/
def b64 : Nat := 435
def a64 : AFn := ⟨(.seq (.reg [⟨.l 4, none, .mv, [.c (.i .i64 0)]⟩])
 (.seq (.seq (.reg [⟨.t 6, none, .mv, [.l 0]⟩, ⟨.l 7, none, .lenSl, [.t 6]⟩, ⟨.l 8, none, .mv, [.c (.i .i64 0)]⟩])
 (.block 0 (.loop (.seq (.reg [⟨.t 9, none, (.bin .lss), [.l 8, .l 7]⟩])
 (.seq (.cond (.t 9) .skip (.exit 0))
 (.seq (.block 1 (.seq (.reg [⟨.t 10, none, .mv, [.l 8]⟩, ⟨.l 5, none, .mv, [.t 10]⟩])
 (.seq (.reg [⟨.t 11, none, .mv, [.l 1]⟩, ⟨.t 12, none, .mv, [.l 0]⟩, ⟨.t 13, none, .mv, [.l 5]⟩, ⟨.t 14, none, (.iad 5), [.t 12, .t 13]⟩, ⟨.t 15, none, (.ld (some 5)), [.t 14]⟩, ⟨.t 16, none, .callv, [.t 11, .t 15]⟩])
 (.cond (.t 16) (.seq (.reg [⟨.t 17, none, .mv, [.l 5]⟩, ⟨.l 4, none, .mv, [.t 17]⟩])
 .ret) .skip))))
 (.reg [⟨.t 18, none, (.bin .add), [.l 8, .c (.i .i64 1)]⟩, ⟨.l 8, none, .mv, [.t 18]⟩])))))))
 (.seq (.reg [⟨.l 4, none, .mv, [.c (.i .i64 (-1))]⟩])
 .ret))), [.tmp (.l 4)]⟩
theorem c64 : compFn Try.prog b64 Try.f64 = some a64 := by kernel_rfl
/-- (*tarpaulin/heap.Heap).Find -/
def b65 : Nat := 243
def a65 : AFn := ⟨(.seq (.reg [⟨.l 4, none, (.alloc [(.i .i64 0), (.i .i64 0), (.i .i64 0)]), []⟩, ⟨.l 5, none, .mv, [.c (.b false)]⟩])
 (.seq (.seq (.reg [⟨.t 8, none, .mv, [.l 0]⟩, ⟨.t 9, none, (.eq false .ptr), [.t 8, .c (.p none)]⟩])
 (.cond (.t 9) (.seq (.reg [⟨.t 10, none, (.build [(.i .i64 0), (.i .i64 0), (.i .i64 0)] []), []⟩, ⟨.no, none, (.st 3), [.l 4, .t 10]⟩, ⟨.l 5, none, .mv, [.c (.b false)]⟩])
 .ret) .skip))
 (.seq (.reg [⟨.t 12, none, .mv, [.l 0]⟩, ⟨.t 13, none, .nilchk, [.t 12]⟩, ⟨.t 14, none, (.fad 1), [.t 13]⟩, ⟨.t 15, none, (.ld none), [.t 14]⟩, ⟨.t 16, none, .mv, [.l 1]⟩, ⟨.t 17, none, (.lkup (.i .i64 0) true), [.t 15, .t 16]⟩, ⟨.t 11, none, .mv, [.t 17]⟩, ⟨.t 18, none, (.ext 0), [.t 11]⟩, ⟨.t 19, none, (.ext 1), [.t 11]⟩, ⟨.l 6, none, .mv, [.t 18]⟩, ⟨.l 7, none, .mv, [.t 19]⟩])
 (.seq (.seq (.reg [⟨.t 20, none, .mv, [.l 7]⟩, ⟨.t 21, none, (.un .not), [.t 20]⟩])
 (.cond (.t 21) (.seq (.reg [⟨.t 22, none, (.build [(.i .i64 0), (.i .i64 0), (.i .i64 0)] []), []⟩, ⟨.no, none, (.st 3), [.l 4, .t 22]⟩, ⟨.l 5, none, .mv, [.c (.b false)]⟩])
 .ret) .skip))
 (.seq (.reg [⟨.t 23, none, .mv, [.l 0]⟩, ⟨.t 24, none, .nilchk, [.t 23]⟩, ⟨.t 25, none, (.fad 0), [.t 24]⟩, ⟨.t 26, none, (.ld none), [.t 25]⟩, ⟨.t 27, none, .mv, [.l 6]⟩, ⟨.t 28, none, (.iad 3), [.t 26, .t 27]⟩, ⟨.t 29, none, (.ld (some 3)), [.t 28]⟩, ⟨.no, none, (.st 3), [.l 4, .t 29]⟩, ⟨.l 5, none, .mv, [.c (.b true)]⟩])
 .ret))))), [.cell (.l 4) (some 3), .tmp (.l 5)]⟩
theorem c65 : compFn Try.prog b65 Try.f65 = some a65 := by kernel_rfl
/-- (*tarpaulin/heap.Heap).put -/
def b66 : Nat := 39
def a66 : AFn := ⟨(.seq (.reg [⟨.l 5, none, .box, [.l 2]⟩])
 (.seq (.reg [⟨.t 6, none, .mv, [.l 0]⟩, ⟨.t 7, none, .nilchk, [.t 6]⟩, ⟨.t 8, none, (.fad 0), [.t 7]⟩, ⟨.t 9, none, (.ld none), [.t 8]⟩, ⟨.t 10, none, .mv, [.l 1]⟩, ⟨.t 11, none, (.ld (some 3)), [.l 5]⟩, ⟨.t 12, none, (.iad 3), [.t 9, .t 10]⟩, ⟨.no, none, (.st 3), [.t 12, .t 11]⟩])
 (.reg [⟨.t 13, none, .mv, [.l 0]⟩, ⟨.t 14, none, .nilchk, [.t 13]⟩, ⟨.t 15, none, (.fad 1), [.t 14]⟩, ⟨.t 16, none, (.ld none), [.t 15]⟩, ⟨.t 17, none, (.fad 0), [.l 5]⟩, ⟨.t 18, none, (.ld none), [.t 17]⟩, ⟨.t 19, none, .mv, [.l 1]⟩, ⟨.no, none, .mset, [.t 16, .t 18, .t 19]⟩]))), []⟩
theorem c66 : compFn Try.prog b66 Try.f66 = some a66 := by kernel_rfl
/-- (*tarpaulin/heap.Heap).up -/
def b67 : Nat := 19
def a67 : AFn := ⟨(.seq (.reg [⟨.t 5, none, .mv, [.l 0]⟩, ⟨.t 6, none, .nilchk, [.t 5]⟩, ⟨.t 7, none, (.fad 0), [.t 6]⟩, ⟨.t 8, none, (.ld none), [.t 7]⟩, ⟨.t 9, none, .mv, [.l 1]⟩, ⟨.t 10, none, (.iad 3), [.t 8, .t 9]⟩, ⟨.t 11, none, (.ld (some 3)), [.t 10]⟩, ⟨.l 4, none, (.alloc [(.i .i64 0), (.i .i64 0), (.i .i64 0)]), []⟩, ⟨.no, none, (.st 3), [.l 4, .t 11]⟩])
 (.seq (.block 0 (.loop (.seq (.seq (.reg [⟨.t 12, none, .mv, [.l 1]⟩, ⟨.t 13, none, (.bin .gtr), [.t 12, .c (.i .i64 0)]⟩, ⟨.t 14, none, .mv, [.t 13]⟩, ⟨.t 15, (some (.t 14, true)), (.ld (some 3)), [.l 4]⟩, ⟨.t 16, (some (.t 14, true)), .mv, [.l 0]⟩, ⟨.t 17, (some (.t 14, true)), .nilchk, [.t 16]⟩, ⟨.t 18, (some (.t 14, true)), (.fad 0), [.t 17]⟩, ⟨.t 19, (some (.t 14, true)), (.ld none), [.t 18]⟩, ⟨.t 20, (some (.t 14, true)), .mv, [.l 1]⟩, ⟨.t 21, (some (.t 14, true)), (.bin .sub), [.t 20, .c (.i .i64 1)]⟩, ⟨.t 22, (some (.t 14, true)), (.bin .quo), [.t 21, .c (.i .i64 4)]⟩, ⟨.t 23, (some (.t 14, true)), (.iad 3), [.t 19, .t 22]⟩, ⟨.t 24, (some (.t 14, true)), (.ld (some 3)), [.t 23]⟩, ⟨.t 25, (some (.t 14, true)), (.call 71), [.t 15, .t 24]⟩, ⟨.t 26, (some (.t 14, true)), (.bin .lss), [.t 25, .c (.i .i64 0)]⟩, ⟨.t 27, none, .pick, [.t 14, .t 26, .c (.b false)]⟩])
 (.cond (.t 27) .skip (.exit 0)))
 (.block 1 (.seq (.reg [⟨.t 28, none, .mv, [.l 0]⟩, ⟨.t 29, none, .mv, [.l 1]⟩, ⟨.t 30, none, .mv, [.l 0]⟩, ⟨.t 31, none, .nilchk, [.t 30]⟩, ⟨.t 32, none, (.fad 0), [.t 31]⟩, ⟨.t 33, none, (.ld none), [.t 32]⟩, ⟨.t 34, none, .mv, [.l 1]⟩, ⟨.t 35, none, (.bin .sub), [.t 34, .c (.i .i64 1)]⟩, ⟨.t 36, none, (.bin .quo), [.t 35, .c (.i .i64 4)]⟩, ⟨.t 37, none, (.iad 3), [.t 33, .t 36]⟩, ⟨.t 38, none, (.ld (some 3)), [.t 37]⟩, ⟨.t 39, none, (.call 66), [.t 28, .t 29, .t 38]⟩])
 (.reg [⟨.t 40, none, .mv, [.l 1]⟩, ⟨.t 41, none, (.bin .sub), [.t 40, .c (.i .i64 1)]⟩, ⟨.t 42, none, (.bin .quo), [.t 41, .c (.i .i64 4)]⟩, ⟨.l 1, none, .mv, [.t 42]⟩]))))))
 (.reg [⟨.t 43, none, .mv, [.l 0]⟩, ⟨.t 44, none, .mv, [.l 1]⟩, ⟨.t 45, none, (.ld (some 3)), [.l 4]⟩, ⟨.t 46, none, (.call 66), [.t 43, .t 44, .t 45]⟩]))), []⟩
theorem c67 : compFn Try.prog b67 Try.f67 = some a67 := by kernel_rfl
/-- (*tarpaulin/heap.Heap).down -/
def b68 : Nat := 243
def a68 : AFn := ⟨(.seq (.reg [⟨.t 8, none, .mv, [.l 0]⟩, ⟨.t 9, none, .nilchk, [.t 8]⟩, ⟨.t 10, none, (.fad 0), [.t 9]⟩, ⟨.t 11, none, (.ld none), [.t 10]⟩, ⟨.t 12, none, .mv, [.l 1]⟩, ⟨.t 13, none, (.iad 3), [.t 11, .t 12]⟩, ⟨.t 14, none, (.ld (some 3)), [.t 13]⟩, ⟨.l 4, none, (.alloc [(.i .i64 0), (.i .i64 0), (.i .i64 0)]), []⟩, ⟨.no, none, (.st 3), [.l 4, .t 14]⟩])
 (.seq (.block 0 (.loop (.block 1 (.seq (.reg [⟨.t 15, none, .mv, [.l 1]⟩, ⟨.t 16, none, (.bin .mul), [.c (.i .i64 4), .t 15]⟩, ⟨.t 17, none, (.bin .add), [.t 16, .c (.i .i64 1)]⟩, ⟨.l 5, none, .mv, [.t 17]⟩])
 (.seq (.seq (.reg [⟨.t 18, none, .mv, [.l 5]⟩, ⟨.t 19, none, .mv, [.l 0]⟩, ⟨.t 20, none, .nilchk, [.t 19]⟩, ⟨.t 21, none, (.fad 0), [.t 20]⟩, ⟨.t 22, none, (.ld none), [.t 21]⟩, ⟨.t 23, none, .lenSl, [.t 22]⟩, ⟨.t 24, none, (.bin .geq), [.t 18, .t 23]⟩])
 (.cond (.t 24) (.exit 0) .skip))
 (.seq (.reg [⟨.t 25, none, .mv, [.l 5]⟩, ⟨.l 6, none, .mv, [.t 25]⟩])
 (.seq (.seq (.reg [⟨.t 26, none, .mv, [.l 5]⟩, ⟨.t 27, none, (.bin .add), [.t 26, .c (.i .i64 1)]⟩, ⟨.l 7, none, .mv, [.t 27]⟩])
 (.block 2 (.loop (.seq (.seq (.reg [⟨.t 28, none, .mv, [.l 7]⟩, ⟨.t 29, none, .mv, [.l 5]⟩, ⟨.t 30, none, (.bin .add), [.t 29, .c (.i .i64 4)]⟩, ⟨.t 31, none, .mv, [.l 0]⟩, ⟨.t 32, none, .nilchk, [.t 31]⟩, ⟨.t 33, none, (.fad 0), [.t 32]⟩, ⟨.t 34, none, (.ld none), [.t 33]⟩, ⟨.t 35, none, .lenSl, [.t 34]⟩, ⟨.t 36, none, .min, [.t 30, .t 35]⟩, ⟨.t 37, none, (.bin .lss), [.t 28, .t 36]⟩])
 (.cond (.t 37) .skip (.exit 2)))
 (.seq (.block 3 (.seq (.reg [⟨.t 40, none, .mv, [.l 0]⟩, ⟨.t 41, none, .nilchk, [.t 40]⟩, ⟨.t 42, none, (.fad 0), [.t 41]⟩, ⟨.t 43, none, (.ld none), [.t 42]⟩, ⟨.t 44, none, .mv, [.l 7]⟩, ⟨.t 45, none, (.iad 3), [.t 43, .t 44]⟩, ⟨.t 46, none, (.ld (some 3)), [.t 45]⟩, ⟨.t 47, none, .mv, [.l 0]⟩, ⟨.t 48, none, .nilchk, [.t 47]⟩, ⟨.t 49, none, (.fad 0), [.t 48]⟩, ⟨.t 50, none, (.ld none), [.t 49]⟩, ⟨.t 51, none, .mv, [.l 6]⟩, ⟨.t 52, none, (.iad 3), [.t 50, .t 51]⟩, ⟨.t 53, none, (.ld (some 3)), [.t 52]⟩, ⟨.t 54, none, (.call 71), [.t 46, .t 53]⟩, ⟨.t 55, none, (.bin .lss), [.t 54, .c (.i .i64 0)]⟩])
 (.cond (.t 55) (.reg [⟨.t 56, none, .mv, [.l 7]⟩, ⟨.l 6, none, .mv, [.t 56]⟩]) .skip)))
 (.reg [⟨.t 38, none, .mv, [.l 7]⟩, ⟨.t 39, none, (.bin .add), [.t 38, .c (.i .i64 1)]⟩, ⟨.l 7, none, .mv, [.t 39]⟩]))))))
 (.seq (.seq (.reg [⟨.t 57, none, (.ld (some 3)), [.l 4]⟩, ⟨.t 58, none, .mv, [.l 0]⟩, ⟨.t 59, none, .nilchk, [.t 58]⟩, ⟨.t 60, none, (.fad 0), [.t 59]⟩, ⟨.t 61, none, (.ld none), [.t 60]⟩, ⟨.t 62, none, .mv, [.l 6]⟩, ⟨.t 63, none, (.iad 3), [.t 61, .t 62]⟩, ⟨.t 64, none, (.ld (some 3)), [.t 63]⟩, ⟨.t 65, none, (.call 71), [.t 57, .t 64]⟩, ⟨.t 66, none, (.bin .lss), [.t 65, .c (.i .i64 0)]⟩])
 (.cond (.t 66) (.exit 0) .skip))
 (.seq (.reg [⟨.t 67, none, .mv, [.l 0]⟩, ⟨.t 68, none, .mv, [.l 1]⟩, ⟨.t 69, none, .mv, [.l 0]⟩, ⟨.t 70, none, .nilchk, [.t 69]⟩, ⟨.t 71, none, (.fad 0), [.t 70]⟩, ⟨.t 72, none, (.ld none), [.t 71]⟩, ⟨.t 73, none, .mv, [.l 6]⟩, ⟨.t 74, none, (.iad 3), [.t 72, .t 73]⟩, ⟨.t 75, none, (.ld (some 3)), [.t 74]⟩, ⟨.t 76, none, (.call 66), [.t 67, .t 68, .t 75]⟩])
 (.reg [⟨.t 77, none, .mv, [.l 6]⟩, ⟨.l 1, none, .mv, [.t 77]⟩]))))))))))
 (.reg [⟨.t 78, none, .mv, [.l 0]⟩, ⟨.t 79, none, .mv, [.l 1]⟩, ⟨.t 80, none, (.ld (some 3)), [.l 4]⟩, ⟨.t 81, none, (.call 66), [.t 78, .t 79, .t 80]⟩]))), []⟩
theorem c68 : compFn Try.prog b68 Try.f68 = some a68 := by kernel_rfl
/-- (*tarpaulin/ring.Ring).Len -/
def b69 : Nat := 5
def a69 : AFn := ⟨(.seq (.reg [⟨.l 2, none, .mv, [.c (.i .i64 0)]⟩])
 (.seq (.seq (.reg [⟨.t 3, none, .mv, [.l 0]⟩, ⟨.t 4, none, (.eq false .ptr), [.t 3, .c (.p none)]⟩])
 (.cond (.t 4) (.seq (.reg [⟨.l 2, none, .mv, [.c (.i .i64 0)]⟩])
 .ret) .skip))
 (.seq (.reg [⟨.t 5, none, .mv, [.l 0]⟩, ⟨.t 6, none, .nilchk, [.t 5]⟩, ⟨.t 7, none, (.fad 2), [.t 6]⟩, ⟨.t 8, none, (.ld none), [.t 7]⟩, ⟨.l 2, none, .mv, [.t 8]⟩])
 .ret))), [.tmp (.l 2)]⟩
theorem c69 : compFn Try.prog b69 Try.f69 = some a69 := by kernel_rfl
/-- (*tarpaulin/wait.Queue).drop -/
def b70 : Nat := 3
def a70 : AFn := ⟨(.seq (.seq (.reg [⟨.t 4, none, .mv, [.l 1]⟩, ⟨.t 5, none, .nilchk, [.t 4]⟩, ⟨.t 6, none, (.fad 3), [.t 5]⟩, ⟨.t 7, none, (.ld none), [.t 6]⟩, ⟨.t 8, none, (.eq false .ptr), [.t 7, .c (.p none)]⟩])
 (.cond (.t 8) (.reg [⟨.t 9, none, .mv, [.l 0]⟩, ⟨.t 10, none, .mv, [.l 1]⟩, ⟨.t 11, none, .nilchk, [.t 10]⟩, ⟨.t 12, none, (.fad 4), [.t 11]⟩, ⟨.t 13, none, (.ld none), [.t 12]⟩, ⟨.t 14, none, .nilchk, [.t 9]⟩, ⟨.t 15, none, (.fad 0), [.t 14]⟩, ⟨.no, none, (.st 1), [.t 15, .t 13]⟩]) (.reg [⟨.t 16, none, .mv, [.l 1]⟩, ⟨.t 17, none, .nilchk, [.t 16]⟩, ⟨.t 18, none, (.fad 3), [.t 17]⟩, ⟨.t 19, none, (.ld none), [.t 18]⟩, ⟨.t 20, none, .mv, [.l 1]⟩, ⟨.t 21, none, .nilchk, [.t 20]⟩, ⟨.t 22, none, (.fad 4), [.t 21]⟩, ⟨.t 23, none, (.ld none), [.t 22]⟩, ⟨.t 24, none, .nilchk, [.t 19]⟩, ⟨.t 25, none, (.fad 4), [.t 24]⟩, ⟨.no, none, (.st 1), [.t 25, .t 23]⟩])))
 (.seq (.seq (.reg [⟨.t 26, none, .mv, [.l 1]⟩, ⟨.t 27, none, .nilchk, [.t 26]⟩, ⟨.t 28, none, (.fad 4), [.t 27]⟩, ⟨.t 29, none, (.ld none), [.t 28]⟩, ⟨.t 30, none, (.eq false .ptr), [.t 29, .c (.p none)]⟩])
 (.cond (.t 30) (.reg [⟨.t 31, none, .mv, [.l 0]⟩, ⟨.t 32, none, .mv, [.l 1]⟩, ⟨.t 33, none, .nilchk, [.t 32]⟩, ⟨.t 34, none, (.fad 3), [.t 33]⟩, ⟨.t 35, none, (.ld none), [.t 34]⟩, ⟨.t 36, none, .nilchk, [.t 31]⟩, ⟨.t 37, none, (.fad 1), [.t 36]⟩, ⟨.no, none, (.st 1), [.t 37, .t 35]⟩]) (.reg [⟨.t 38, none, .mv, [.l 1]⟩, ⟨.t 39, none, .nilchk, [.t 38]⟩, ⟨.t 40, none, (.fad 4), [.t 39]⟩, ⟨.t 41, none, (.ld none), [.t 40]⟩, ⟨.t 42, none, .mv, [.l 1]⟩, ⟨.t 43, none, .nilchk, [.t 42]⟩, ⟨.t 44, none, (.fad 3), [.t 43]⟩, ⟨.t 45, none, (.ld none), [.t 44]⟩, ⟨.t 46, none, .nilchk, [.t 41]⟩, ⟨.t 47, none, (.fad 3), [.t 46]⟩, ⟨.no, none, (.st 1), [.t 47, .t 45]⟩])))
 (.reg [⟨.t 48, none, .mv, [.l 0]⟩, ⟨.t 49, none, .nilchk, [.t 48]⟩, ⟨.t 50, none, (.fad 2), [.t 49]⟩, ⟨.t 51, none, (.ld none), [.t 50]⟩, ⟨.t 52, none, (.bin .sub), [.t 51, .c (.i .i64 1)]⟩, ⟨.t 53, none, .nilchk, [.t 48]⟩, ⟨.t 54, none, (.fad 2), [.t 53]⟩, ⟨.no, none, (.st 1), [.t 54, .t 52]⟩]))), []⟩
theorem c70 : compFn Try.prog b70 Try.f70 = some a70 := by kernel_rfl
/-- tarpaulin/heap.ahead -/
def b71 : Nat := 31
def a71 : AFn := ⟨(.seq (.reg [⟨.l 2, none, .box, [.l 0]⟩, ⟨.l 3, none, .box, [.l 1]⟩, ⟨.l 4, none, .mv, [.c (.i .i64 0)]⟩])
 (.seq (.regD [⟨.t 5, none, (.fad 1), [.l 2]⟩, ⟨.t 6, none, (.ld none), [.t 5]⟩, ⟨.t 7, none, (.fad 1), [.l 3]⟩, ⟨.t 8, none, (.ld none), [.t 7]⟩, ⟨.t 9, none, (.call 73), [.t 6, .t 8]⟩, ⟨.t 10, none, (.fad 2), [.l 2]⟩, ⟨.t 11, none, (.ld none), [.t 10]⟩, ⟨.t 12, none, (.fad 2), [.l 3]⟩, ⟨.t 13, none, (.ld none), [.t 12]⟩, ⟨.t 14, none, (.call 73), [.t 11, .t 13]⟩, ⟨.t 15, none, (.bslice [(.i .i64 0)] 2 1 [0, 1]), [.t 9, .t 14]⟩, ⟨.t 16, none, (.call 72), [.t 15]⟩, ⟨.l 4, none, .mv, [.t 16]⟩] [(6, 0), (8, 0)])
 .ret)), [.tmp (.l 4)]⟩
theorem c71 : compFn Try.prog b71 Try.f71 = some a71 := by kernel_rfl
/-- cmp.Or[int] -/
def b72 : Nat := 493
def a72 : AFn := ⟨(.seq (.reg [⟨.l 2, none, .mv, [.c (.i .i64 0)]⟩])
 (.seq (.reg [⟨.l 3, none, .mv, [.c (.i .i64 0)]⟩])
 (.seq (.seq (.reg [⟨.l 6, none, .mv, [.l 0]⟩, ⟨.l 7, none, .lenSl, [.l 6]⟩, ⟨.l 8, none, .mv, [.c (.i .i64 0)]⟩])
 (.block 0 (.loop (.seq (.reg [⟨.t 9, none, (.bin .lss), [.l 8, .l 7]⟩])
 (.seq (.cond (.t 9) .skip (.exit 0))
 (.seq (.block 1 (.seq (.reg [⟨.t 10, none, (.iad 1), [.l 6, .l 8]⟩, ⟨.t 11, none, (.ld none), [.t 10]⟩, ⟨.l 5, none, .mv, [.t 11]⟩])
 (.seq (.reg [⟨.t 12, none, .mv, [.l 5]⟩, ⟨.t 13, none, .mv, [.l 3]⟩, ⟨.t 14, none, (.bin .neq), [.t 12, .t 13]⟩])
 (.cond (.t 14) (.seq (.reg [⟨.t 15, none, .mv, [.l 5]⟩, ⟨.l 2, none, .mv, [.t 15]⟩])
 .ret) .skip))))
 (.reg [⟨.t 16, none, (.bin .add), [.l 8, .c (.i .i64 1)]⟩, ⟨.l 8, none, .mv, [.t 16]⟩])))))))
 (.seq (.reg [⟨.t 17, none, .mv, [.l 3]⟩, ⟨.l 2, none, .mv, [.t 17]⟩])
 .ret)))), [.tmp (.l 2)]⟩
theorem c72 : compFn Try.prog b72 Try.f72 = some a72 := by kernel_rfl
/-- cmp.Compare[int] -/
def b73 : Nat := 115
def a73 : AFn := ⟨(.seq (.reg [⟨.l 4, none, .mv, [.c (.i .i64 0)]⟩])
 (.seq (.reg [⟨.t 7, none, .mv, [.l 0]⟩, ⟨.t 8, none, (.call 74), [.t 7]⟩, ⟨.l 5, none, .mv, [.t 8]⟩])
 (.seq (.reg [⟨.t 9, none, .mv, [.l 1]⟩, ⟨.t 10, none, (.call 74), [.t 9]⟩, ⟨.l 6, none, .mv, [.t 10]⟩])
 (.seq (.seq (.reg [⟨.t 11, none, .mv, [.l 5]⟩])
 (.cond (.t 11) (.seq (.seq (.reg [⟨.t 12, none, .mv, [.l 6]⟩])
 (.cond (.t 12) (.seq (.reg [⟨.l 4, none, .mv, [.c (.i .i64 0)]⟩])
 .ret) .skip))
 (.seq (.reg [⟨.l 4, none, .mv, [.c (.i .i64 (-1))]⟩])
 .ret)) .skip))
 (.seq (.seq (.reg [⟨.t 13, none, .mv, [.l 6]⟩])
 (.cond (.t 13) (.seq (.reg [⟨.l 4, none, .mv, [.c (.i .i64 1)]⟩])
 .ret) .skip))
 (.seq (.seq (.reg [⟨.t 14, none, .mv, [.l 0]⟩, ⟨.t 15, none, .mv, [.l 1]⟩, ⟨.t 16, none, (.bin .lss), [.t 14, .t 15]⟩])
 (.cond (.t 16) (.seq (.reg [⟨.l 4, none, .mv, [.c (.i .i64 (-1))]⟩])
 .ret) .skip))
 (.seq (.seq (.reg [⟨.t 17, none, .mv, [.l 0]⟩, ⟨.t 18, none, .mv, [.l 1]⟩, ⟨.t 19, none, (.bin .gtr), [.t 17, .t 18]⟩])
 (.cond (.t 19) (.seq (.reg [⟨.l 4, none, .mv, [.c (.i .i64 1)]⟩])
 .ret) .skip))
 (.seq (.reg [⟨.l 4, none, .mv, [.c (.i .i64 0)]⟩])
 .ret)))))))), [.tmp (.l 4)]⟩
theorem c73 : compFn Try.prog b73 Try.f73 = some a73 := by kernel_rfl
/-- cmp.isNaN[int] -/
def b74 : Nat := 5
def a74 : AFn := ⟨(.seq (.reg [⟨.l 2, none, .mv, [.c (.b false)]⟩])
 (.seq (.reg [⟨.t 3, none, .mv, [.l 0]⟩, ⟨.t 4, none, .mv, [.l 0]⟩, ⟨.t 5, none, (.bin .neq), [.t 3, .t 4]⟩, ⟨.l 2, none, .mv, [.t 5]⟩])
 .ret)), [.tmp (.l 2)]⟩
theorem c74 : compFn Try.prog b74 Try.f74 = some a74 := by kernel_rfl
noncomputable def tbl : Nat → Option AFn
  | 4 => some (c_tarpaulinlaw24_LapseOdd Nn)
  | 6 => some a6
  | 8 => some (c_lapse_Sound Nn)
  | 10 => some a10
  | 12 => some (c_tarpaulinalike_Round Nn)
  | 13 => some a13
  | 14 => some a14
  | 15 => some a15
  | 16 => some a16
  | 17 => some (c_lapse_View_code Nn)
  | 18 => some (c_lapse_View_hangs Nn)
  | 19 => some (c_lapse_over Nn)
  | 21 => some a21
  | 22 => some a22
  | 23 => some a23
  | 24 => some a24
  | 25 => some a25
  | 26 => some a26
  | 27 => some a27
  | 28 => some a28
  | 29 => some a29
  | 30 => some a30
  | 31 => some a31
  | 32 => some a32
  | 33 => some a33
  | 34 => some a34
  | 35 => some a35
  | 36 => some a36
  | 37 => some a37
  | 38 => some a38
  | 39 => some a39
  | 40 => some a40
  | 41 => some a41
  | 42 => some a42
  | 43 => some a43
  | 44 => some a44
  | 45 => some a45
  | 46 => some a46
  | 47 => some a47
  | 48 => some a48
  | 49 => some a49
  | 50 => some a50
  | 51 => some a51
  | 52 => some a52
  | 53 => some a53
  | 54 => some a54
  | 55 => some a55
  | 56 => some a56
  | 57 => some a57
  | 58 => some a58
  | 59 => some a59
  | 60 => some a60
  | 61 => some a61
  | 62 => some a62
  | 63 => some a63
  | 64 => some a64
  | 65 => some a65
  | 66 => some a66
  | 67 => some a67
  | 68 => some a68
  | 69 => some a69
  | 70 => some a70
  | 71 => some a71
  | 72 => some a72
  | 73 => some a73
  | 74 => some a74
  | _ => none
theorem ok : TblOk Try.prog tbl := by
  intro f fn h
  unfold tbl at h
  split at h
  · cases h; exact .inl ⟨b4, _, Try.func4, c4⟩
  · cases h; exact .inl ⟨b6, _, Try.func6, c6⟩
  · cases h; exact .inl ⟨b8, _, Try.func8, c8⟩
  · cases h; exact .inl ⟨b10, _, Try.func10, c10⟩
  · cases h; exact .inl ⟨b12, _, Try.func12, c12⟩
  · cases h; exact .inl ⟨b13, _, Try.func13, c13⟩
  · cases h; exact .inl ⟨b14, _, Try.func14, c14⟩
  · cases h; exact .inl ⟨b15, _, Try.func15, c15⟩
  · cases h; exact .inl ⟨b16, _, Try.func16, c16⟩
  · cases h; exact .inl ⟨b17, _, Try.func17, c17⟩
  · cases h; exact .inl ⟨b18, _, Try.func18, c18⟩
  · cases h; exact .inl ⟨b19, _, Try.func19, c19⟩
  · cases h; exact .inl ⟨b21, _, Try.func21, c21⟩
  · cases h; exact .inl ⟨b22, _, Try.func22, c22⟩
  · cases h; exact .inl ⟨b23, _, Try.func23, c23⟩
  · cases h; exact .inl ⟨b24, _, Try.func24, c24⟩
  · cases h; exact .inl ⟨b25, _, Try.func25, c25⟩
  · cases h; exact .inl ⟨b26, _, Try.func26, c26⟩
  · cases h; exact .inl ⟨b27, _, Try.func27, c27⟩
  · cases h; exact .inl ⟨b28, _, Try.func28, c28⟩
  · cases h; exact .inl ⟨b29, _, Try.func29, c29⟩
  · cases h; exact .inl ⟨b30, _, Try.func30, c30⟩
  · cases h; exact .inl ⟨b31, _, Try.func31, c31⟩
  · cases h; exact .inl ⟨b32, _, Try.func32, c32⟩
  · cases h; exact .inl ⟨b33, _, Try.func33, c33⟩
  · cases h; exact .inl ⟨b34, _, Try.func34, c34⟩
  · cases h; exact .inl ⟨b35, _, Try.func35, c35⟩
  · cases h; exact .inl ⟨b36, _, Try.func36, c36⟩
  · cases h; exact .inl ⟨b37, _, Try.func37, c37⟩
  · cases h; exact .inl ⟨b38, _, Try.func38, c38⟩
  · cases h; exact .inl ⟨b39, _, Try.func39, c39⟩
  · cases h; exact .inl ⟨b40, _, Try.func40, c40⟩
  · cases h; exact .inl ⟨b41, _, Try.func41, c41⟩
  · cases h; exact .inl ⟨b42, _, Try.func42, c42⟩
  · cases h; exact .inl ⟨b43, _, Try.func43, c43⟩
  · cases h; exact .inl ⟨b44, _, Try.func44, c44⟩
  · cases h; exact .inl ⟨b45, _, Try.func45, c45⟩
  · cases h; exact .inl ⟨b46, _, Try.func46, c46⟩
  · cases h; exact .inl ⟨b47, _, Try.func47, c47⟩
  · cases h; exact .inl ⟨b48, _, Try.func48, c48⟩
  · cases h; exact .inl ⟨b49, _, Try.func49, c49⟩
  · cases h; exact .inl ⟨b50, _, Try.func50, c50⟩
  · cases h; exact .inl ⟨b51, _, Try.func51, c51⟩
  · cases h; exact .inl ⟨b52, _, Try.func52, c52⟩
  · cases h; exact .inl ⟨b53, _, Try.func53, c53⟩
  · cases h; exact .inl ⟨b54, _, Try.func54, c54⟩
  · cases h; exact .inl ⟨b55, _, Try.func55, c55⟩
  · cases h; exact .inl ⟨b56, _, Try.func56, c56⟩
  · cases h; exact .inl ⟨b57, _, Try.func57, c57⟩
  · cases h; exact .inl ⟨b58, _, Try.func58, c58⟩
  · cases h; exact .inl ⟨b59, _, Try.func59, c59⟩
  · cases h; exact .inl ⟨b60, _, Try.func60, c60⟩
  · cases h; exact .inl ⟨b61, _, Try.func61, c61⟩
  · cases h; exact .inl ⟨b62, _, Try.func62, c62⟩
  · cases h; exact .inl ⟨b63, _, Try.func63, c63⟩
  · cases h; exact .inl ⟨b64, _, Try.func64, c64⟩
  · cases h; exact .inl ⟨b65, _, Try.func65, c65⟩
  · cases h; exact .inl ⟨b66, _, Try.func66, c66⟩
  · cases h; exact .inl ⟨b67, _, Try.func67, c67⟩
  · cases h; exact .inl ⟨b68, _, Try.func68, c68⟩
  · cases h; exact .inl ⟨b69, _, Try.func69, c69⟩
  · cases h; exact .inl ⟨b70, _, Try.func70, c70⟩
  · cases h; exact .inl ⟨b71, _, Try.func71, c71⟩
  · cases h; exact .inl ⟨b72, _, Try.func72, c72⟩
  · cases h; exact .inl ⟨b73, _, Try.func73, c73⟩
  · cases h; exact .inl ⟨b74, _, Try.func74, c74⟩
  · cases h
theorem mixed : Try.prog.follows .mixedOrders = true := by kernel_rfl
theorem awake6 : KnownTrue Try.prog 6 := known mixed ok Try.func6 c6 (n := 100000) (by kernel_rfl)
/-- the table, with what is known -/
noncomputable def tblK (f : Nat) : Option AFn := bif Nat.beq f 6 then some kTrue else tbl f
theorem okK : TblOk Try.prog tblK := by
  intro f fn h
  unfold tblK at h
  cases h6 : Nat.beq f 6
  case true =>
    rw [h6] at h
    cases h
    exact .inr ⟨rfl, by rw [beq_nat, decide_eq_true_eq] at h6; subst h6; exact awake6⟩
  rw [h6] at h
  exact ok f fn h
theorem h_tarpaulinalike_Round : H_tarpaulinalike_Round Nn tblK := ⟨by kernel_rfl⟩
theorem h_lapse_View_code : H_lapse_View_code Nn tblK := ⟨by kernel_rfl⟩
theorem h_lapse_View_hangs : H_lapse_View_hangs Nn tblK := ⟨by kernel_rfl⟩
theorem h_lapse_over : H_lapse_over Nn tblK := ⟨by kernel_rfl⟩
theorem h_lapse_Sound : H_lapse_Sound Nn tblK := ⟨by kernel_rfl, h_lapse_View_code, h_lapse_View_hangs, h_lapse_over⟩
theorem lapseOdd_true (a0 : Int) (a1 : Int) (a2 : Int) : ∃ m S, acall tblK m 4 [.i .i64 a0, .i .i64 a1, .i .i64 a2] ⟨.nil, 0⟩ = some (.b true, S) :=
  true_of_callL (lapseOdd_law (N := Nn) (F := tblK) (by kernel_rfl) (by kernel_rfl) h_tarpaulinalike_Round h_lapse_Sound a0 a1 a2)
end Go.Proofs.Ytbmgljppafggbaa.T
