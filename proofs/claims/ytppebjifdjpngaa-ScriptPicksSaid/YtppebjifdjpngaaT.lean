/- The abstract machine's code of each function of this seat's program, and that it is compiled from the program's. PRINTED by our glue.py over our printam.lean. -/
import Derived.Test.YtppebjifdjpngaaChecked
import Derived.Test.YtppebjifdjpngaaAmR
import Derived.KernelRfl
set_option maxRecDepth 100000
set_option linter.unusedVariables false
namespace Go.Proofs.Ytppebjifdjpngaa.T
open Go.AM
/-- gosem.cut.init -/
def b2 : Nat := 0
def a2 : AFn := ⟨(.reg [⟨.t 0, none, (.call 1), []⟩]), []⟩
/-- tarpaulin/tarpaulinlaw3.ScriptBack -/
def b3 : Nat := 16371
def a3 : AFn := ⟨(.seq (.reg [⟨.l 4, none, .mv, [.c (.b false)]⟩])
 (.seq (.seq (.reg [⟨.t 14, none, .mv, [.l 0]⟩, ⟨.t 15, none, .lenSl, [.t 14]⟩, ⟨.t 16, none, (.bin .gtr), [.t 15, .c (.i .i64 100)]⟩])
 (.cond (.t 16) (.seq (.reg [⟨.t 17, none, (.call 9), []⟩, ⟨.l 4, none, .mv, [.t 17]⟩])
 .ret) .skip))
 (.seq (.reg [⟨.t 19, none, .mv, [.l 0]⟩, ⟨.t 20, none, (.call 10), [.t 19]⟩, ⟨.t 18, none, .mv, [.t 20]⟩, ⟨.t 21, none, (.ext 0), [.t 18]⟩, ⟨.t 22, none, (.ext 1), [.t 18]⟩, ⟨.l 5, none, .mv, [.t 21]⟩, ⟨.l 6, none, .mv, [.t 22]⟩])
 (.seq (.seq (.reg [⟨.t 23, none, .mv, [.l 6]⟩, ⟨.t 24, none, (.bin .neq), [.t 23, .c (.i .i64 0)]⟩])
 (.cond (.t 24) (.seq (.reg [⟨.t 25, none, .mv, [.l 5]⟩, ⟨.t 26, none, .lenSl, [.t 25]⟩, ⟨.t 27, none, (.bin .eql), [.t 26, .c (.i .i64 0)]⟩, ⟨.t 28, none, .mv, [.t 27]⟩, ⟨.t 29, (some (.t 28, true)), (.call 9), []⟩, ⟨.t 30, none, .pick, [.t 28, .t 29, .c (.b false)]⟩, ⟨.l 4, none, .mv, [.t 30]⟩])
 .ret) .skip))
 (.seq (.reg [⟨.t 32, none, .mv, [.l 5]⟩, ⟨.t 33, none, (.call 11), [.t 32]⟩, ⟨.t 31, none, .mv, [.t 33]⟩, ⟨.t 34, none, (.ext 0), [.t 31]⟩, ⟨.t 35, none, (.ext 1), [.t 31]⟩, ⟨.l 7, none, .mv, [.t 34]⟩, ⟨.l 8, none, .mv, [.t 35]⟩])
 (.seq (.seq (.reg [⟨.t 36, none, .mv, [.l 8]⟩, ⟨.t 37, none, (.bin .neq), [.t 36, .c (.i .i64 0)]⟩, ⟨.t 38, none, .mv, [.t 37]⟩, ⟨.t 39, (some (.t 38, false)), .mv, [.l 0]⟩, ⟨.t 40, (some (.t 38, false)), .mv, [.l 7]⟩, ⟨.t 41, (some (.t 38, false)), (.call 12), [.t 39, .t 40]⟩, ⟨.t 42, (some (.t 38, false)), (.un .not), [.t 41]⟩, ⟨.t 43, none, .pick, [.t 38, .c (.b true), .t 42]⟩])
 (.cond (.t 43) (.seq (.reg [⟨.l 4, none, .mv, [.c (.b false)]⟩])
 .ret) .skip))
 (.seq (.seq (.reg [⟨.t 44, none, .mv, [.l 5]⟩, ⟨.t 45, none, .lenSl, [.t 44]⟩, ⟨.t 46, none, (.bin .eql), [.t 45, .c (.i .i64 0)]⟩])
 (.cond (.t 46) (.seq (.reg [⟨.t 47, none, (.call 9), []⟩, ⟨.l 4, none, .mv, [.t 47]⟩])
 .ret) .skip))
 (.seq (.reg [⟨.t 48, none, .mv, [.l 1]⟩, ⟨.t 49, none, .mv, [.l 5]⟩, ⟨.t 50, none, .lenSl, [.t 49]⟩, ⟨.t 51, none, (.call 13), [.t 48, .t 50]⟩, ⟨.l 9, none, .mv, [.t 51]⟩])
 (.seq (.reg [⟨.t 53, none, .mv, [.l 5]⟩, ⟨.t 54, none, .mv, [.l 9]⟩, ⟨.t 55, none, (.slc 1 false true false), [.t 53, .t 54]⟩, ⟨.t 56, none, (.call 11), [.t 55]⟩, ⟨.t 52, none, .mv, [.t 56]⟩, ⟨.t 57, none, (.ext 0), [.t 52]⟩, ⟨.t 58, none, (.ext 1), [.t 52]⟩, ⟨.l 10, none, .mv, [.t 57]⟩, ⟨.l 11, none, .mv, [.t 58]⟩])
 (.seq (.seq (.reg [⟨.t 59, none, .mv, [.l 11]⟩, ⟨.t 60, none, (.bin .neq), [.t 59, .c (.i .i64 0)]⟩])
 (.cond (.t 60) (.seq (.reg [⟨.t 61, none, .mv, [.l 11]⟩, ⟨.t 62, none, (.bin .eql), [.t 61, .c (.i .i64 2)]⟩, ⟨.t 63, none, .mv, [.t 62]⟩, ⟨.t 64, (some (.t 63, true)), .mv, [.l 10]⟩, ⟨.t 65, (some (.t 63, true)), .lenSl, [.t 64]⟩, ⟨.t 66, (some (.t 63, true)), (.bin .eql), [.t 65, .c (.i .i64 0)]⟩, ⟨.t 67, none, .pick, [.t 63, .t 66, .c (.b false)]⟩, ⟨.t 68, none, .mv, [.t 67]⟩, ⟨.t 69, (some (.t 68, true)), (.call 9), []⟩, ⟨.t 70, none, .pick, [.t 68, .t 69, .c (.b false)]⟩, ⟨.l 4, none, .mv, [.t 70]⟩])
 .ret) .skip))
 (.seq (.reg [⟨.t 72, none, .mv, [.l 10]⟩, ⟨.t 73, none, (.call 10), [.t 72]⟩, ⟨.t 71, none, .mv, [.t 73]⟩, ⟨.t 74, none, (.ext 0), [.t 71]⟩, ⟨.t 75, none, (.ext 1), [.t 71]⟩, ⟨.l 12, none, .mv, [.t 74]⟩, ⟨.l 13, none, .mv, [.t 75]⟩])
 (.seq (.reg [⟨.t 76, none, .mv, [.l 13]⟩, ⟨.t 77, none, (.bin .eql), [.t 76, .c (.i .i64 0)]⟩, ⟨.t 78, none, .mv, [.t 77]⟩, ⟨.t 79, (some (.t 78, true)), .mv, [.l 12]⟩, ⟨.t 80, (some (.t 78, true)), .mv, [.l 5]⟩, ⟨.t 81, (some (.t 78, true)), .mv, [.l 9]⟩, ⟨.t 82, (some (.t 78, true)), (.slc 1 false true false), [.t 80, .t 81]⟩, ⟨.t 83, (some (.t 78, true)), (.call 14), [.t 79, .t 82]⟩, ⟨.t 84, none, .pick, [.t 78, .t 83, .c (.b false)]⟩, ⟨.t 85, none, .mv, [.t 84]⟩, ⟨.t 86, (some (.t 85, true)), .mv, [.l 10]⟩, ⟨.t 87, (some (.t 85, true)), .lenSl, [.t 86]⟩, ⟨.t 88, (some (.t 85, true)), .mv, [.l 0]⟩, ⟨.t 89, (some (.t 85, true)), .lenSl, [.t 88]⟩, ⟨.t 90, (some (.t 85, true)), (.bin .lss), [.t 87, .t 89]⟩, ⟨.t 91, none, .pick, [.t 85, .t 90, .c (.b false)]⟩, ⟨.t 92, none, .mv, [.t 91]⟩, ⟨.t 93, (some (.t 92, true)), .mv, [.l 10]⟩, ⟨.t 94, (some (.t 92, true)), .mv, [.l 0]⟩, ⟨.t 95, (some (.t 92, true)), .mv, [.l 10]⟩, ⟨.t 96, (some (.t 92, true)), .lenSl, [.t 95]⟩, ⟨.t 97, (some (.t 92, true)), (.slc 3 false true false), [.t 94, .t 96]⟩, ⟨.t 98, (some (.t 92, true)), (.call 12), [.t 93, .t 97]⟩, ⟨.t 99, none, .pick, [.t 92, .t 98, .c (.b false)]⟩, ⟨.t 100, none, .mv, [.t 99]⟩, ⟨.t 101, (some (.t 100, true)), (.call 9), []⟩, ⟨.t 102, none, .pick, [.t 100, .t 101, .c (.b false)]⟩, ⟨.l 4, none, .mv, [.t 102]⟩])
 .ret)))))))))))), [.tmp (.l 4)]⟩
/-- tarpaulin/tarpaulinlaw3.ScriptLimits -/
def b4 : Nat := 4083
def a4 : AFn := ⟨(.seq (.reg [⟨.l 4, none, .mv, [.c (.b false)]⟩])
 (.seq (.seq (.reg [⟨.t 12, none, .mv, [.l 0]⟩, ⟨.t 13, none, (.bin .lss), [.t 12, .c (.i .i64 0)]⟩, ⟨.t 14, none, .mv, [.t 13]⟩, ⟨.t 15, (some (.t 14, false)), .mv, [.l 0]⟩, ⟨.t 16, (some (.t 14, false)), (.bin .gtr), [.t 15, .c (.i .i64 2100)]⟩, ⟨.t 17, none, .pick, [.t 14, .c (.b true), .t 16]⟩])
 (.cond (.t 17) (.seq (.reg [⟨.t 18, none, (.call 9), []⟩, ⟨.l 4, none, .mv, [.t 18]⟩])
 .ret) .skip))
 (.seq (.reg [⟨.t 19, none, .mv, [.l 0]⟩, ⟨.t 20, none, (.mksl [(.i .i64 0), (.i .i64 0), (.i .i64 0)] 24), [.t 19, .t 19]⟩, ⟨.l 5, none, .mv, [.t 20]⟩])
 (.seq (.reg [⟨.l 6, none, .mv, [.c (.sl none 0 0 0)]⟩])
 (.seq (.seq (.reg [⟨.l 7, none, .mv, [.c (.i .i64 0)]⟩])
 (.block 0 (.loop (.seq (.seq (.reg [⟨.t 21, none, .mv, [.l 7]⟩, ⟨.t 22, none, .mv, [.l 0]⟩, ⟨.t 23, none, (.bin .lss), [.t 21, .t 22]⟩])
 (.cond (.t 23) .skip (.exit 0)))
 (.seq (.block 1 (.seq (.reg [⟨.t 26, none, .mv, [.l 5]⟩, ⟨.t 27, none, .mv, [.l 7]⟩, ⟨.t 28, none, (.iad 3), [.t 26, .t 27]⟩, ⟨.t 29, none, (.fad 0), [.t 28]⟩, ⟨.no, none, (.st 1), [.t 29, .c (.i .i64 2)]⟩])
 (.seq (.seq (.reg [⟨.t 30, none, .mv, [.l 1]⟩])
 (.cond (.t 30) (.reg [⟨.t 31, none, .mv, [.l 5]⟩, ⟨.t 32, none, .mv, [.l 7]⟩, ⟨.t 33, none, (.iad 3), [.t 31, .t 32]⟩, ⟨.t 34, none, (.fad 0), [.t 33]⟩, ⟨.no, none, (.st 1), [.t 34, .c (.i .i64 1)]⟩]) .skip))
 (.seq (.reg [⟨.t 35, none, .mv, [.l 6]⟩, ⟨.t 36, none, .mv, [.l 5]⟩, ⟨.t 37, none, .mv, [.l 7]⟩, ⟨.t 38, none, (.iad 3), [.t 36, .t 37]⟩, ⟨.t 39, none, (.fad 0), [.t 38]⟩, ⟨.t 40, none, (.ld none), [.t 39]⟩, ⟨.t 41, none, (.cvtI .u8), [.t 40]⟩, ⟨.t 42, none, (.bslice [(.i .u8 0)] 9 1 [0, 1, 2, 3, 4, 5, 6, 7, 8]), [.t 41, .c (.i .u8 0), .c (.i .u8 0), .c (.i .u8 0), .c (.i .u8 0), .c (.i .u8 0), .c (.i .u8 0), .c (.i .u8 0), .c (.i .u8 0)]⟩, ⟨.t 43, none, (.app 1 1), [.t 35, .t 42]⟩, ⟨.l 6, none, .mv, [.t 43]⟩])
 (.seq (.reg [⟨.t 44, none, .mv, [.l 1]⟩])
 (.cond (.t 44) (.reg [⟨.t 45, none, .mv, [.l 6]⟩, ⟨.t 46, none, (.bslice [(.i .u8 0)] 8 1 [0, 1, 2, 3, 4, 5, 6, 7]), [.c (.i .u8 0), .c (.i .u8 0), .c (.i .u8 0), .c (.i .u8 0), .c (.i .u8 0), .c (.i .u8 0), .c (.i .u8 0), .c (.i .u8 0)]⟩, ⟨.t 47, none, (.app 1 1), [.t 45, .t 46]⟩, ⟨.l 6, none, .mv, [.t 47]⟩]) .skip))))))
 (.reg [⟨.t 24, none, .mv, [.l 7]⟩, ⟨.t 25, none, (.bin .add), [.t 24, .c (.i .i64 1)]⟩, ⟨.l 7, none, .mv, [.t 25]⟩]))))))
 (.seq (.reg [⟨.t 49, none, .mv, [.l 5]⟩, ⟨.t 50, none, (.call 10), [.t 49]⟩, ⟨.t 48, none, .mv, [.t 50]⟩, ⟨.t 51, none, (.ext 0), [.t 48]⟩, ⟨.t 52, none, (.ext 1), [.t 48]⟩, ⟨.l 8, none, .mv, [.t 51]⟩, ⟨.l 9, none, .mv, [.t 52]⟩])
 (.seq (.reg [⟨.t 54, none, .mv, [.l 6]⟩, ⟨.t 55, none, (.call 11), [.t 54]⟩, ⟨.t 53, none, .mv, [.t 55]⟩, ⟨.t 56, none, (.ext 0), [.t 53]⟩, ⟨.t 57, none, (.ext 1), [.t 53]⟩, ⟨.l 10, none, .mv, [.t 56]⟩, ⟨.l 11, none, .mv, [.t 57]⟩])
 (.seq (.seq (.reg [⟨.t 58, none, .mv, [.l 0]⟩, ⟨.t 59, none, (.bin .gtr), [.t 58, .c (.i .i64 2000)]⟩])
 (.cond (.t 59) (.seq (.reg [⟨.t 60, none, .mv, [.l 9]⟩, ⟨.t 61, none, (.bin .eql), [.t 60, .c (.i .i64 1)]⟩, ⟨.t 62, none, .mv, [.t 61]⟩, ⟨.t 63, (some (.t 62, true)), .mv, [.l 8]⟩, ⟨.t 64, (some (.t 62, true)), .lenSl, [.t 63]⟩, ⟨.t 65, (some (.t 62, true)), (.bin .eql), [.t 64, .c (.i .i64 0)]⟩, ⟨.t 66, none, .pick, [.t 62, .t 65, .c (.b false)]⟩, ⟨.t 67, none, .mv, [.t 66]⟩, ⟨.t 68, (some (.t 67, true)), .mv, [.l 11]⟩, ⟨.t 69, (some (.t 67, true)), (.bin .eql), [.t 68, .c (.i .i64 2)]⟩, ⟨.t 70, none, .pick, [.t 67, .t 69, .c (.b false)]⟩, ⟨.t 71, none, .mv, [.t 70]⟩, ⟨.t 72, (some (.t 71, true)), .mv, [.l 10]⟩, ⟨.t 73, (some (.t 71, true)), .lenSl, [.t 72]⟩, ⟨.t 74, (some (.t 71, true)), (.bin .eql), [.t 73, .c (.i .i64 0)]⟩, ⟨.t 75, none, .pick, [.t 71, .t 74, .c (.b false)]⟩, ⟨.t 76, none, .mv, [.t 75]⟩, ⟨.t 77, (some (.t 76, true)), (.call 9), []⟩, ⟨.t 78, none, .pick, [.t 76, .t 77, .c (.b false)]⟩, ⟨.l 4, none, .mv, [.t 78]⟩])
 .ret) .skip))
 (.seq (.reg [⟨.t 79, none, .mv, [.l 9]⟩, ⟨.t 80, none, (.bin .eql), [.t 79, .c (.i .i64 0)]⟩, ⟨.t 81, none, .mv, [.t 80]⟩, ⟨.t 82, (some (.t 81, true)), .mv, [.l 8]⟩, ⟨.t 83, (some (.t 81, true)), .mv, [.l 6]⟩, ⟨.t 84, (some (.t 81, true)), (.call 14), [.t 82, .t 83]⟩, ⟨.t 85, none, .pick, [.t 81, .t 84, .c (.b false)]⟩, ⟨.t 86, none, .mv, [.t 85]⟩, ⟨.t 87, (some (.t 86, true)), .mv, [.l 11]⟩, ⟨.t 88, (some (.t 86, true)), (.bin .eql), [.t 87, .c (.i .i64 0)]⟩, ⟨.t 89, none, .pick, [.t 86, .t 88, .c (.b false)]⟩, ⟨.t 90, none, .mv, [.t 89]⟩, ⟨.t 91, (some (.t 90, true)), .mv, [.l 5]⟩, ⟨.t 92, (some (.t 90, true)), .mv, [.l 10]⟩, ⟨.t 93, (some (.t 90, true)), (.call 12), [.t 91, .t 92]⟩, ⟨.t 94, none, .pick, [.t 90, .t 93, .c (.b false)]⟩, ⟨.t 95, none, .mv, [.t 94]⟩, ⟨.t 96, (some (.t 95, true)), (.call 9), []⟩, ⟨.t 97, none, .pick, [.t 95, .t 96, .c (.b false)]⟩, ⟨.l 4, none, .mv, [.t 97]⟩])
 .ret))))))))), [.tmp (.l 4)]⟩
/-- tarpaulin/tarpaulinlaw3.ScriptPicks -/
def b5 : Nat := 199
def a5 : AFn := ⟨(.seq (.reg [⟨.l 6, none, .mv, [.c (.b false)]⟩])
 (.seq (.seq (.reg [⟨.t 8, none, .mv, [.l 1]⟩, ⟨.t 9, none, (.bin .lss), [.t 8, .c (.i .i64 1)]⟩, ⟨.t 10, none, .mv, [.t 9]⟩, ⟨.t 11, (some (.t 10, false)), .mv, [.l 1]⟩, ⟨.t 12, (some (.t 10, false)), (.bin .gtr), [.t 11, .c (.i .i64 1000)]⟩, ⟨.t 13, none, .pick, [.t 10, .c (.b true), .t 12]⟩, ⟨.t 14, none, .mv, [.t 13]⟩, ⟨.t 15, (some (.t 14, false)), .mv, [.l 0]⟩, ⟨.t 16, (some (.t 14, false)), (.bin .lss), [.t 15, .c (.i .i64 (-1099511627776))]⟩, ⟨.t 17, none, .pick, [.t 14, .c (.b true), .t 16]⟩, ⟨.t 18, none, .mv, [.t 17]⟩, ⟨.t 19, (some (.t 18, false)), .mv, [.l 0]⟩, ⟨.t 20, (some (.t 18, false)), (.bin .gtr), [.t 19, .c (.i .i64 1099511627776)]⟩, ⟨.t 21, none, .pick, [.t 18, .c (.b true), .t 20]⟩, ⟨.t 22, none, .mv, [.t 21]⟩, ⟨.t 23, (some (.t 22, false)), .mv, [.l 2]⟩, ⟨.t 24, (some (.t 22, false)), (.bin .lss), [.t 23, .c (.i .i64 (-1000))]⟩, ⟨.t 25, none, .pick, [.t 22, .c (.b true), .t 24]⟩, ⟨.t 26, none, .mv, [.t 25]⟩, ⟨.t 27, (some (.t 26, false)), .mv, [.l 2]⟩, ⟨.t 28, (some (.t 26, false)), (.bin .gtr), [.t 27, .c (.i .i64 1000)]⟩, ⟨.t 29, none, .pick, [.t 26, .c (.b true), .t 28]⟩])
 (.cond (.t 29) (.seq (.reg [⟨.t 30, none, .mv, [.l 0]⟩, ⟨.t 31, none, .mv, [.l 1]⟩, ⟨.t 32, none, .min, [.t 31, .c (.i .i64 0)]⟩, ⟨.t 33, none, (.call 15), [.t 30, .t 32]⟩, ⟨.t 34, none, (.bin .eql), [.t 33, .c (.i .i64 0)]⟩, ⟨.t 35, none, .mv, [.t 34]⟩, ⟨.t 36, (some (.t 35, true)), (.call 9), []⟩, ⟨.t 37, none, .pick, [.t 35, .t 36, .c (.b false)]⟩, ⟨.l 6, none, .mv, [.t 37]⟩])
 .ret) .skip))
 (.seq (.reg [⟨.t 38, none, .mv, [.l 0]⟩, ⟨.t 39, none, .mv, [.l 1]⟩, ⟨.t 40, none, (.call 15), [.t 38, .t 39]⟩, ⟨.l 7, none, .mv, [.t 40]⟩])
 (.seq (.reg [⟨.t 41, none, .mv, [.l 7]⟩, ⟨.t 42, none, (.bin .geq), [.t 41, .c (.i .i64 0)]⟩, ⟨.t 43, none, .mv, [.t 42]⟩, ⟨.t 44, (some (.t 43, true)), .mv, [.l 7]⟩, ⟨.t 45, (some (.t 43, true)), .mv, [.l 1]⟩, ⟨.t 46, (some (.t 43, true)), (.bin .lss), [.t 44, .t 45]⟩, ⟨.t 47, none, .pick, [.t 43, .t 46, .c (.b false)]⟩, ⟨.t 48, none, .mv, [.t 47]⟩, ⟨.t 49, (some (.t 48, true)), .mv, [.l 0]⟩, ⟨.t 50, (some (.t 48, true)), .mv, [.l 7]⟩, ⟨.t 51, (some (.t 48, true)), (.bin .sub), [.t 49, .t 50]⟩, ⟨.t 52, (some (.t 48, true)), .mv, [.l 1]⟩, ⟨.t 53, (some (.t 48, true)), (.bin .rem), [.t 51, .t 52]⟩, ⟨.t 54, (some (.t 48, true)), (.bin .eql), [.t 53, .c (.i .i64 0)]⟩, ⟨.t 55, none, .pick, [.t 48, .t 54, .c (.b false)]⟩, ⟨.t 56, none, .mv, [.t 55]⟩, ⟨.t 57, (some (.t 56, true)), .mv, [.l 0]⟩, ⟨.t 58, (some (.t 56, true)), .mv, [.l 2]⟩, ⟨.t 59, (some (.t 56, true)), .mv, [.l 1]⟩, ⟨.t 60, (some (.t 56, true)), (.bin .mul), [.t 58, .t 59]⟩, ⟨.t 61, (some (.t 56, true)), (.bin .add), [.t 57, .t 60]⟩, ⟨.t 62, (some (.t 56, true)), .mv, [.l 1]⟩, ⟨.t 63, (some (.t 56, true)), (.call 15), [.t 61, .t 62]⟩, ⟨.t 64, (some (.t 56, true)), .mv, [.l 7]⟩, ⟨.t 65, (some (.t 56, true)), (.bin .eql), [.t 63, .t 64]⟩, ⟨.t 66, none, .pick, [.t 56, .t 65, .c (.b false)]⟩, ⟨.t 67, none, .mv, [.t 66]⟩, ⟨.t 68, (some (.t 67, true)), (.call 9), []⟩, ⟨.t 69, none, .pick, [.t 67, .t 68, .c (.b false)]⟩, ⟨.l 6, none, .mv, [.t 69]⟩])
 .ret)))), [.tmp (.l 6)]⟩
/-- tarpaulin/tarpaulinlaw3.ScriptBytes -/
def b6 : Nat := 4039
def a6 : AFn := ⟨(.seq (.reg [⟨.l 6, none, .mv, [.c (.b false)]⟩])
 (.seq (.reg [⟨.t 12, none, .mv, [.l 0]⟩, ⟨.t 13, none, (.build [(.i .i64 0), (.i .i64 0), (.i .i64 0)] [(0, 1), (1, 1)]), [.c (.i .i64 2), .t 12]⟩, ⟨.l 7, none, (.alloc [(.i .i64 0), (.i .i64 0), (.i .i64 0)]), []⟩, ⟨.no, none, (.st 3), [.l 7, .t 13]⟩])
 (.seq (.reg [⟨.l 8, none, .mv, [.c (.i .i64 9)]⟩])
 (.seq (.seq (.reg [⟨.t 14, none, .mv, [.l 2]⟩])
 (.cond (.t 14) (.reg [⟨.t 15, none, .mv, [.l 1]⟩, ⟨.t 16, none, (.fad 0), [.l 7]⟩, ⟨.no, none, (.st 1), [.t 16, .c (.i .i64 1)]⟩, ⟨.t 17, none, (.fad 2), [.l 7]⟩, ⟨.no, none, (.st 1), [.t 17, .t 15]⟩, ⟨.l 8, none, .mv, [.c (.i .i64 17)]⟩]) .skip))
 (.seq (.reg [⟨.t 19, none, (.ld (some 3)), [.l 7]⟩, ⟨.t 20, none, (.bslice [(.i .i64 0), (.i .i64 0), (.i .i64 0)] 1 3 [0]), [.t 19]⟩, ⟨.t 21, none, (.call 10), [.t 20]⟩, ⟨.t 18, none, .mv, [.t 21]⟩, ⟨.t 22, none, (.ext 0), [.t 18]⟩, ⟨.t 23, none, (.ext 1), [.t 18]⟩, ⟨.l 9, none, .mv, [.t 22]⟩, ⟨.l 10, none, .mv, [.t 23]⟩])
 (.seq (.seq (.reg [⟨.t 24, none, .mv, [.l 10]⟩, ⟨.t 25, none, (.bin .neq), [.t 24, .c (.i .i64 0)]⟩, ⟨.t 26, none, .mv, [.t 25]⟩, ⟨.t 27, (some (.t 26, false)), .mv, [.l 9]⟩, ⟨.t 28, (some (.t 26, false)), .lenSl, [.t 27]⟩, ⟨.t 29, (some (.t 26, false)), .mv, [.l 8]⟩, ⟨.t 30, (some (.t 26, false)), (.bin .neq), [.t 28, .t 29]⟩, ⟨.t 31, none, .pick, [.t 26, .c (.b true), .t 30]⟩, ⟨.t 32, none, .mv, [.t 31]⟩, ⟨.t 33, (some (.t 32, false)), .mv, [.l 9]⟩, ⟨.t 34, (some (.t 32, false)), (.iad 1), [.t 33, .c (.i .i64 0)]⟩, ⟨.t 35, (some (.t 32, false)), (.ld none), [.t 34]⟩, ⟨.t 36, (some (.t 32, false)), (.cvtI .i64), [.t 35]⟩, ⟨.t 37, (some (.t 32, false)), (.fad 0), [.l 7]⟩, ⟨.t 38, (some (.t 32, false)), (.ld none), [.t 37]⟩, ⟨.t 39, (some (.t 32, false)), (.bin .neq), [.t 36, .t 38]⟩, ⟨.t 40, none, .pick, [.t 32, .c (.b true), .t 39]⟩])
 (.cond (.t 40) (.seq (.reg [⟨.l 6, none, .mv, [.c (.b false)]⟩])
 .ret) .skip))
 (.seq (.seq (.reg [⟨.l 11, none, .mv, [.c (.i .i64 0)]⟩])
 (.block 0 (.loop (.seq (.seq (.reg [⟨.t 41, none, .mv, [.l 11]⟩, ⟨.t 42, none, (.bin .lss), [.t 41, .c (.i .i64 8)]⟩])
 (.cond (.t 42) .skip (.exit 0)))
 (.seq (.block 1 (.seq (.reg [⟨.t 45, none, .mv, [.l 9]⟩, ⟨.t 46, none, .mv, [.l 11]⟩, ⟨.t 47, none, (.bin .add), [.c (.i .i64 1), .t 46]⟩, ⟨.t 48, none, (.iad 1), [.t 45, .t 47]⟩, ⟨.t 49, none, (.ld none), [.t 48]⟩, ⟨.t 50, none, .mv, [.l 0]⟩, ⟨.t 51, none, (.cvtI .u64), [.t 50]⟩, ⟨.t 52, none, .mv, [.l 11]⟩, ⟨.t 53, none, (.bin .mul), [.c (.i .i64 8), .t 52]⟩, ⟨.t 54, none, (.bin .shr), [.t 51, .t 53]⟩, ⟨.t 55, none, (.cvtI .u8), [.t 54]⟩, ⟨.t 56, none, (.bin .neq), [.t 49, .t 55]⟩, ⟨.t 57, none, .mv, [.t 56]⟩, ⟨.t 58, (some (.t 57, false)), .mv, [.l 2]⟩, ⟨.t 59, (some (.t 57, false)), .mv, [.t 58]⟩, ⟨.t 60, (some (.t 59, true)), .mv, [.l 9]⟩, ⟨.t 61, (some (.t 59, true)), .mv, [.l 11]⟩, ⟨.t 62, (some (.t 59, true)), (.bin .add), [.c (.i .i64 9), .t 61]⟩, ⟨.t 63, (some (.t 59, true)), (.iad 1), [.t 60, .t 62]⟩, ⟨.t 64, (some (.t 59, true)), (.ld none), [.t 63]⟩, ⟨.t 65, (some (.t 59, true)), .mv, [.l 1]⟩, ⟨.t 66, (some (.t 59, true)), (.cvtI .u64), [.t 65]⟩, ⟨.t 67, (some (.t 59, true)), .mv, [.l 11]⟩, ⟨.t 68, (some (.t 59, true)), (.bin .mul), [.c (.i .i64 8), .t 67]⟩, ⟨.t 69, (some (.t 59, true)), (.bin .shr), [.t 66, .t 68]⟩, ⟨.t 70, (some (.t 59, true)), (.cvtI .u8), [.t 69]⟩, ⟨.t 71, (some (.t 59, true)), (.bin .neq), [.t 64, .t 70]⟩, ⟨.t 72, (some (.t 57, false)), .pick, [.t 59, .t 71, .c (.b false)]⟩, ⟨.t 73, none, .pick, [.t 57, .c (.b true), .t 72]⟩])
 (.cond (.t 73) (.seq (.reg [⟨.l 6, none, .mv, [.c (.b false)]⟩])
 .ret) .skip)))
 (.reg [⟨.t 43, none, .mv, [.l 11]⟩, ⟨.t 44, none, (.bin .add), [.t 43, .c (.i .i64 1)]⟩, ⟨.l 11, none, .mv, [.t 44]⟩]))))))
 (.seq (.reg [⟨.t 74, none, (.ld (some 3)), [.l 7]⟩, ⟨.t 75, none, (.call 16), [.t 74]⟩, ⟨.t 76, none, (.bin .eql), [.t 75, .c (.i .i64 0)]⟩, ⟨.t 77, none, .mv, [.l 2]⟩, ⟨.t 78, none, .mv, [.t 77]⟩, ⟨.t 79, (some (.t 78, false)), .mv, [.l 0]⟩, ⟨.t 80, (some (.t 78, false)), (.bin .geq), [.t 79, .c (.i .i64 0)]⟩, ⟨.t 81, none, .pick, [.t 78, .c (.b true), .t 80]⟩, ⟨.t 82, none, (.eq false .bool), [.t 76, .t 81]⟩, ⟨.t 83, none, .mv, [.t 82]⟩, ⟨.t 84, (some (.t 83, true)), (.call 9), []⟩, ⟨.t 85, none, .pick, [.t 83, .t 84, .c (.b false)]⟩, ⟨.l 6, none, .mv, [.t 85]⟩])
 .ret)))))))), [.tmp (.l 6)]⟩
/-- tarpaulin/tarpaulinlaw3.ScriptOdd -/
def b8 : Nat := 262087
def a8 : AFn := ⟨(.seq (.reg [⟨.l 6, none, .mv, [.c (.b false)]⟩])
 (.seq (.seq (.reg [⟨.t 18, none, .mv, [.l 0]⟩, ⟨.t 19, none, .lenSl, [.t 18]⟩, ⟨.t 20, none, (.bin .gtr), [.t 19, .c (.i .i64 50)]⟩, ⟨.t 21, none, .mv, [.t 20]⟩, ⟨.t 22, (some (.t 21, false)), .mv, [.l 2]⟩, ⟨.t 23, (some (.t 21, false)), .lenSl, [.t 22]⟩, ⟨.t 24, (some (.t 21, false)), (.bin .gtr), [.t 23, .c (.i .i64 20)]⟩, ⟨.t 25, none, .pick, [.t 21, .c (.b true), .t 24]⟩])
 (.cond (.t 25) (.seq (.reg [⟨.t 26, none, (.call 9), []⟩, ⟨.l 6, none, .mv, [.t 26]⟩])
 .ret) .skip))
 (.seq (.reg [⟨.t 28, none, .mv, [.l 0]⟩, ⟨.t 29, none, (.call 10), [.t 28]⟩, ⟨.t 27, none, .mv, [.t 29]⟩, ⟨.t 30, none, (.ext 0), [.t 27]⟩, ⟨.t 31, none, (.ext 1), [.t 27]⟩, ⟨.l 7, none, .mv, [.t 30]⟩, ⟨.l 8, none, .mv, [.t 31]⟩])
 (.seq (.seq (.reg [⟨.t 32, none, .mv, [.l 8]⟩, ⟨.t 33, none, (.bin .neq), [.t 32, .c (.i .i64 0)]⟩])
 (.cond (.t 33) (.seq (.reg [⟨.t 34, none, (.call 9), []⟩, ⟨.l 6, none, .mv, [.t 34]⟩])
 .ret) .skip))
 (.seq (.reg [⟨.t 35, none, .mv, [.l 1]⟩, ⟨.t 36, none, (.call 13), [.t 35, .c (.i .i64 253)]⟩, ⟨.t 37, none, (.bin .add), [.c (.i .i64 3), .t 36]⟩, ⟨.t 38, none, (.cvtI .u8), [.t 37]⟩, ⟨.l 9, none, .mv, [.t 38]⟩])
 (.seq (.reg [⟨.t 39, none, (.bslice [(.i .u8 0)] 0 1 []), []⟩, ⟨.t 40, none, .mv, [.l 7]⟩, ⟨.t 41, none, (.app 1 1), [.t 39, .t 40]⟩, ⟨.t 42, none, .mv, [.l 9]⟩, ⟨.t 43, none, (.bslice [(.i .u8 0)] 9 1 [0, 1, 2, 3, 4, 5, 6, 7, 8]), [.t 42, .c (.i .u8 0), .c (.i .u8 0), .c (.i .u8 0), .c (.i .u8 0), .c (.i .u8 0), .c (.i .u8 0), .c (.i .u8 0), .c (.i .u8 0)]⟩, ⟨.t 44, none, (.app 1 1), [.t 41, .t 43]⟩, ⟨.l 10, none, .mv, [.t 44]⟩])
 (.seq (.reg [⟨.t 46, none, .mv, [.l 10]⟩, ⟨.t 47, none, (.call 11), [.t 46]⟩, ⟨.t 45, none, .mv, [.t 47]⟩, ⟨.t 48, none, (.ext 0), [.t 45]⟩, ⟨.t 49, none, (.ext 1), [.t 45]⟩, ⟨.l 11, none, .mv, [.t 48]⟩, ⟨.l 12, none, .mv, [.t 49]⟩])
 (.seq (.reg [⟨.t 50, none, (.bslice [(.i .u8 0)] 0 1 []), []⟩, ⟨.t 51, none, .mv, [.l 7]⟩, ⟨.t 52, none, (.app 1 1), [.t 50, .t 51]⟩, ⟨.t 53, none, .mv, [.l 2]⟩, ⟨.t 54, none, (.app 1 1), [.t 52, .t 53]⟩, ⟨.l 13, none, .mv, [.t 54]⟩])
 (.seq (.reg [⟨.t 56, none, .mv, [.l 13]⟩, ⟨.t 57, none, (.call 11), [.t 56]⟩, ⟨.t 55, none, .mv, [.t 57]⟩, ⟨.t 58, none, (.ext 0), [.t 55]⟩, ⟨.t 59, none, (.ext 1), [.t 55]⟩, ⟨.l 14, none, .mv, [.t 58]⟩, ⟨.l 15, none, .mv, [.t 59]⟩])
 (.seq (.seq (.reg [⟨.t 60, none, .mv, [.l 12]⟩, ⟨.t 61, none, (.bin .neq), [.t 60, .c (.i .i64 2)]⟩, ⟨.t 62, none, .mv, [.t 61]⟩, ⟨.t 63, (some (.t 62, false)), .mv, [.l 11]⟩, ⟨.t 64, (some (.t 62, false)), .lenSl, [.t 63]⟩, ⟨.t 65, (some (.t 62, false)), (.bin .neq), [.t 64, .c (.i .i64 0)]⟩, ⟨.t 66, none, .pick, [.t 62, .c (.b true), .t 65]⟩])
 (.cond (.t 66) (.seq (.reg [⟨.l 6, none, .mv, [.c (.b false)]⟩])
 .ret) .skip))
 (.seq (.seq (.reg [⟨.t 67, none, .mv, [.l 15]⟩, ⟨.t 68, none, (.bin .neq), [.t 67, .c (.i .i64 0)]⟩])
 (.cond (.t 68) (.seq (.reg [⟨.t 69, none, .mv, [.l 15]⟩, ⟨.t 70, none, (.bin .eql), [.t 69, .c (.i .i64 2)]⟩, ⟨.t 71, none, .mv, [.t 70]⟩, ⟨.t 72, (some (.t 71, true)), .mv, [.l 14]⟩, ⟨.t 73, (some (.t 71, true)), .lenSl, [.t 72]⟩, ⟨.t 74, (some (.t 71, true)), (.bin .eql), [.t 73, .c (.i .i64 0)]⟩, ⟨.t 75, none, .pick, [.t 71, .t 74, .c (.b false)]⟩, ⟨.t 76, none, .mv, [.t 75]⟩, ⟨.t 77, (some (.t 76, true)), (.call 9), []⟩, ⟨.t 78, none, .pick, [.t 76, .t 77, .c (.b false)]⟩, ⟨.l 6, none, .mv, [.t 78]⟩])
 .ret) .skip))
 (.seq (.reg [⟨.t 80, none, .mv, [.l 14]⟩, ⟨.t 81, none, (.call 10), [.t 80]⟩, ⟨.t 79, none, .mv, [.t 81]⟩, ⟨.t 82, none, (.ext 0), [.t 79]⟩, ⟨.t 83, none, (.ext 1), [.t 79]⟩, ⟨.l 16, none, .mv, [.t 82]⟩, ⟨.l 17, none, .mv, [.t 83]⟩])
 (.seq (.reg [⟨.t 84, none, .mv, [.l 17]⟩, ⟨.t 85, none, (.bin .eql), [.t 84, .c (.i .i64 0)]⟩, ⟨.t 86, none, .mv, [.t 85]⟩, ⟨.t 87, (some (.t 86, true)), .mv, [.l 16]⟩, ⟨.t 88, (some (.t 86, true)), .mv, [.l 13]⟩, ⟨.t 89, (some (.t 86, true)), (.call 14), [.t 87, .t 88]⟩, ⟨.t 90, none, .pick, [.t 86, .t 89, .c (.b false)]⟩, ⟨.t 91, none, .mv, [.t 90]⟩, ⟨.t 92, (some (.t 91, true)), .mv, [.l 14]⟩, ⟨.t 93, (some (.t 91, true)), (.call 17), [.t 92]⟩, ⟨.t 94, (some (.t 91, true)), (.un .not), [.t 93]⟩, ⟨.t 95, none, .pick, [.t 91, .t 94, .c (.b false)]⟩, ⟨.t 96, none, .mv, [.t 95]⟩, ⟨.t 97, (some (.t 96, true)), (.call 9), []⟩, ⟨.t 98, none, .pick, [.t 96, .t 97, .c (.b false)]⟩, ⟨.l 6, none, .mv, [.t 98]⟩])
 .ret))))))))))))), [.tmp (.l 6)]⟩
/-- tarpaulin/tarpaulinlaw3.awake -/
def b9 : Nat := 351
def a9 : AFn := ⟨(.seq (.reg [⟨.l 0, none, .mv, [.c (.b false)]⟩])
 (.seq (.reg [⟨.t 10, none, (.build [(.i .i64 0), (.i .i64 0), (.i .i64 0)] [(0, 1), (1, 1)]), [.c (.i .i64 2), .c (.i .i64 1)]⟩, ⟨.t 11, none, (.build [(.i .i64 0), (.i .i64 0), (.i .i64 0)] [(0, 1), (1, 1), (2, 1)]), [.c (.i .i64 1), .c (.i .i64 (-1)), .c (.i .i64 2)]⟩, ⟨.t 12, none, (.bslice [(.i .i64 0), (.i .i64 0), (.i .i64 0)] 2 3 [0, 1]), [.t 10, .t 11]⟩, ⟨.t 13, none, (.call 10), [.t 12]⟩, ⟨.t 9, none, .mv, [.t 13]⟩, ⟨.t 14, none, (.ext 0), [.t 9]⟩, ⟨.t 15, none, (.ext 1), [.t 9]⟩, ⟨.l 1, none, .mv, [.t 14]⟩, ⟨.l 2, none, .mv, [.t 15]⟩])
 (.seq (.reg [⟨.t 17, none, .mv, [.l 1]⟩, ⟨.t 18, none, (.call 11), [.t 17]⟩, ⟨.t 16, none, .mv, [.t 18]⟩, ⟨.t 19, none, (.ext 0), [.t 16]⟩, ⟨.t 20, none, (.ext 1), [.t 16]⟩, ⟨.l 3, none, .mv, [.t 19]⟩, ⟨.l 4, none, .mv, [.t 20]⟩])
 (.seq (.reg [⟨.t 22, none, (.bslice [(.i .u8 0)] 1 1 [0]), [.c (.i .u8 3)]⟩, ⟨.t 23, none, (.call 11), [.t 22]⟩, ⟨.t 21, none, .mv, [.t 23]⟩, ⟨.t 24, none, (.ext 0), [.t 21]⟩, ⟨.t 25, none, (.ext 1), [.t 21]⟩, ⟨.t 5, none, .mv, [.t 24]⟩, ⟨.l 6, none, .mv, [.t 25]⟩])
 (.seq (.reg [⟨.t 27, none, (.build [(.i .i64 0), (.i .i64 0), (.i .i64 0)] []), []⟩, ⟨.t 28, none, (.bslice [(.i .i64 0), (.i .i64 0), (.i .i64 0)] 1 3 [0]), [.t 27]⟩, ⟨.t 29, none, (.call 10), [.t 28]⟩, ⟨.t 26, none, .mv, [.t 29]⟩, ⟨.t 30, none, (.ext 0), [.t 26]⟩, ⟨.t 31, none, (.ext 1), [.t 26]⟩, ⟨.t 7, none, .mv, [.t 30]⟩, ⟨.l 8, none, .mv, [.t 31]⟩])
 (.seq (.reg [⟨.t 32, none, .mv, [.l 2]⟩, ⟨.t 33, none, (.bin .eql), [.t 32, .c (.i .i64 0)]⟩, ⟨.t 34, none, .mv, [.t 33]⟩, ⟨.t 35, (some (.t 34, true)), .mv, [.l 1]⟩, ⟨.t 36, (some (.t 34, true)), .lenSl, [.t 35]⟩, ⟨.t 37, (some (.t 34, true)), (.bin .eql), [.t 36, .c (.i .i64 26)]⟩, ⟨.t 38, none, .pick, [.t 34, .t 37, .c (.b false)]⟩, ⟨.t 39, none, .mv, [.t 38]⟩, ⟨.t 40, (some (.t 39, true)), .mv, [.l 1]⟩, ⟨.t 41, (some (.t 39, true)), (.iad 1), [.t 40, .c (.i .i64 0)]⟩, ⟨.t 42, (some (.t 39, true)), (.ld none), [.t 41]⟩, ⟨.t 43, (some (.t 39, true)), (.bin .eql), [.t 42, .c (.i .u8 2)]⟩, ⟨.t 44, none, .pick, [.t 39, .t 43, .c (.b false)]⟩, ⟨.t 45, none, .mv, [.t 44]⟩, ⟨.t 46, (some (.t 45, true)), .mv, [.l 1]⟩, ⟨.t 47, (some (.t 45, true)), (.iad 1), [.t 46, .c (.i .i64 1)]⟩, ⟨.t 48, (some (.t 45, true)), (.ld none), [.t 47]⟩, ⟨.t 49, (some (.t 45, true)), (.bin .eql), [.t 48, .c (.i .u8 1)]⟩, ⟨.t 50, none, .pick, [.t 45, .t 49, .c (.b false)]⟩, ⟨.t 51, none, .mv, [.t 50]⟩, ⟨.t 52, (some (.t 51, true)), .mv, [.l 4]⟩, ⟨.t 53, (some (.t 51, true)), (.bin .eql), [.t 52, .c (.i .i64 0)]⟩, ⟨.t 54, none, .pick, [.t 51, .t 53, .c (.b false)]⟩, ⟨.t 55, none, .mv, [.t 54]⟩, ⟨.t 56, (some (.t 55, true)), .mv, [.l 3]⟩, ⟨.t 57, (some (.t 55, true)), .lenSl, [.t 56]⟩, ⟨.t 58, (some (.t 55, true)), (.bin .eql), [.t 57, .c (.i .i64 2)]⟩, ⟨.t 59, none, .pick, [.t 55, .t 58, .c (.b false)]⟩, ⟨.t 60, none, .mv, [.t 59]⟩, ⟨.t 61, (some (.t 60, true)), .mv, [.l 3]⟩, ⟨.t 62, (some (.t 60, true)), (.iad 3), [.t 61, .c (.i .i64 1)]⟩, ⟨.t 63, (some (.t 60, true)), (.ld (some 3)), [.t 62]⟩, ⟨.t 64, (some (.t 60, true)), (.build [(.i .i64 0), (.i .i64 0), (.i .i64 0)] [(0, 1), (1, 1), (2, 1)]), [.c (.i .i64 1), .c (.i .i64 (-1)), .c (.i .i64 2)]⟩, ⟨.t 65, (some (.t 60, true)), (.eq false (.agg [(0, 1), (1, 1), (2, 1)])), [.t 63, .t 64]⟩, ⟨.t 66, none, .pick, [.t 60, .t 65, .c (.b false)]⟩, ⟨.t 67, none, .mv, [.t 66]⟩, ⟨.t 68, (some (.t 67, true)), .mv, [.l 6]⟩, ⟨.t 69, (some (.t 67, true)), (.bin .eql), [.t 68, .c (.i .i64 2)]⟩, ⟨.t 70, none, .pick, [.t 67, .t 69, .c (.b false)]⟩, ⟨.t 71, none, .mv, [.t 70]⟩, ⟨.t 72, (some (.t 71, true)), .mv, [.l 8]⟩, ⟨.t 73, (some (.t 71, true)), (.bin .eql), [.t 72, .c (.i .i64 1)]⟩, ⟨.t 74, none, .pick, [.t 71, .t 73, .c (.b false)]⟩, ⟨.t 75, none, .mv, [.t 74]⟩, ⟨.t 76, (some (.t 75, true)), .mv, [.l 3]⟩, ⟨.t 77, (some (.t 75, true)), (.iad 3), [.t 76, .c (.i .i64 0)]⟩, ⟨.t 78, (some (.t 75, true)), (.ld (some 3)), [.t 77]⟩, ⟨.t 79, (some (.t 75, true)), (.call 16), [.t 78]⟩, ⟨.t 80, (some (.t 75, true)), (.bin .eql), [.t 79, .c (.i .i64 0)]⟩, ⟨.t 81, none, .pick, [.t 75, .t 80, .c (.b false)]⟩, ⟨.t 82, none, .mv, [.t 81]⟩, ⟨.t 83, (some (.t 82, true)), (.build [(.i .i64 0), (.i .i64 0), (.i .i64 0)] [(0, 1), (1, 1)]), [.c (.i .i64 2), .c (.i .i64 (-1))]⟩, ⟨.t 84, (some (.t 82, true)), (.call 16), [.t 83]⟩, ⟨.t 85, (some (.t 82, true)), (.bin .eql), [.t 84, .c (.i .i64 1)]⟩, ⟨.t 86, none, .pick, [.t 82, .t 85, .c (.b false)]⟩, ⟨.t 87, none, .mv, [.t 86]⟩, ⟨.t 88, (some (.t 87, true)), (.call 15), [.c (.i .i64 (-1)), .c (.i .i64 3)]⟩, ⟨.t 89, (some (.t 87, true)), (.bin .eql), [.t 88, .c (.i .i64 2)]⟩, ⟨.t 90, none, .pick, [.t 87, .t 89, .c (.b false)]⟩, ⟨.t 91, none, .mv, [.t 90]⟩, ⟨.t 92, (some (.t 91, true)), (.call 15), [.c (.i .i64 5), .c (.i .i64 0)]⟩, ⟨.t 93, (some (.t 91, true)), (.bin .eql), [.t 92, .c (.i .i64 0)]⟩, ⟨.t 94, none, .pick, [.t 91, .t 93, .c (.b false)]⟩, ⟨.l 0, none, .mv, [.t 94]⟩])
 .ret)))))), [.tmp (.l 0)]⟩
/-- tarpaulin/script.Encode -/
def b10 : Nat := 3629
def a10 : AFn := ⟨(.seq (.reg [⟨.l 2, none, .mv, [.c (.sl none 0 0 0)]⟩, ⟨.l 3, none, .mv, [.c (.i .i64 0)]⟩])
 (.seq (.seq (.reg [⟨.t 6, none, .mv, [.l 0]⟩, ⟨.t 7, none, .lenSl, [.t 6]⟩, ⟨.t 8, none, (.bin .gtr), [.t 7, .c (.i .i64 2000)]⟩])
 (.cond (.t 8) (.seq (.reg [⟨.l 2, none, .mv, [.c (.sl none 0 0 0)]⟩, ⟨.l 3, none, .mv, [.c (.i .i64 1)]⟩])
 .ret) .skip))
 (.seq (.seq (.reg [⟨.l 9, none, .mv, [.l 0]⟩, ⟨.l 10, none, .lenSl, [.l 9]⟩, ⟨.l 11, none, .mv, [.c (.i .i64 0)]⟩])
 (.block 0 (.loop (.seq (.reg [⟨.t 12, none, (.bin .lss), [.l 11, .l 10]⟩])
 (.seq (.cond (.t 12) .skip (.exit 0))
 (.seq (.block 1 (.seq (.reg [⟨.t 13, none, (.iad 3), [.l 9, .l 11]⟩, ⟨.t 14, none, (.ld (some 3)), [.t 13]⟩, ⟨.l 5, none, (.alloc [(.i .i64 0), (.i .i64 0), (.i .i64 0)]), []⟩, ⟨.no, none, (.st 3), [.l 5, .t 14]⟩])
 (.seq (.seq (.reg [⟨.t 15, none, (.fad 0), [.l 5]⟩, ⟨.t 16, none, (.ld none), [.t 15]⟩, ⟨.t 17, none, (.bin .neq), [.t 16, .c (.i .i64 1)]⟩, ⟨.t 18, none, .mv, [.t 17]⟩, ⟨.t 19, (some (.t 18, true)), (.fad 0), [.l 5]⟩, ⟨.t 20, (some (.t 18, true)), (.ld none), [.t 19]⟩, ⟨.t 21, (some (.t 18, true)), (.bin .neq), [.t 20, .c (.i .i64 2)]⟩, ⟨.t 22, none, .pick, [.t 18, .t 21, .c (.b false)]⟩, ⟨.t 23, none, .mv, [.t 22]⟩, ⟨.t 24, (some (.t 23, false)), (.fad 0), [.l 5]⟩, ⟨.t 25, (some (.t 23, false)), (.ld none), [.t 24]⟩, ⟨.t 26, (some (.t 23, false)), (.bin .eql), [.t 25, .c (.i .i64 2)]⟩, ⟨.t 27, (some (.t 23, false)), .mv, [.t 26]⟩, ⟨.t 28, (some (.t 27, true)), (.fad 2), [.l 5]⟩, ⟨.t 29, (some (.t 27, true)), (.ld none), [.t 28]⟩, ⟨.t 30, (some (.t 27, true)), (.bin .neq), [.t 29, .c (.i .i64 0)]⟩, ⟨.t 31, (some (.t 23, false)), .pick, [.t 27, .t 30, .c (.b false)]⟩, ⟨.t 32, none, .pick, [.t 23, .c (.b true), .t 31]⟩])
 (.cond (.t 32) (.seq (.reg [⟨.l 2, none, .mv, [.c (.sl none 0 0 0)]⟩, ⟨.l 3, none, .mv, [.c (.i .i64 1)]⟩])
 .ret) .skip))
 (.seq (.regD [⟨.t 33, none, .mv, [.l 2]⟩, ⟨.t 34, none, (.fad 0), [.l 5]⟩, ⟨.t 35, none, (.ld none), [.t 34]⟩, ⟨.t 36, none, (.cvtI .u8), [.t 35]⟩, ⟨.t 37, none, (.bslice [(.i .u8 0)] 1 1 [0]), [.t 36]⟩, ⟨.t 38, none, (.app 1 1), [.t 33, .t 37]⟩, ⟨.t 39, none, (.fad 1), [.l 5]⟩, ⟨.t 40, none, (.ld none), [.t 39]⟩, ⟨.t 41, none, (.call 18), [.t 38, .t 40]⟩, ⟨.l 2, none, .mv, [.t 41]⟩] [(7, 0)])
 (.seq (.reg [⟨.t 42, none, (.fad 0), [.l 5]⟩, ⟨.t 43, none, (.ld none), [.t 42]⟩, ⟨.t 44, none, (.bin .eql), [.t 43, .c (.i .i64 1)]⟩])
 (.cond (.t 44) (.reg [⟨.t 45, none, .mv, [.l 2]⟩, ⟨.t 46, none, (.fad 2), [.l 5]⟩, ⟨.t 47, none, (.ld none), [.t 46]⟩, ⟨.t 48, none, (.call 18), [.t 45, .t 47]⟩, ⟨.l 2, none, .mv, [.t 48]⟩]) .skip))))))
 (.reg [⟨.t 49, none, (.bin .add), [.l 11, .c (.i .i64 1)]⟩, ⟨.l 11, none, .mv, [.t 49]⟩])))))))
 (.seq (.reg [⟨.t 50, none, .mv, [.l 2]⟩, ⟨.l 2, none, .mv, [.t 50]⟩, ⟨.l 3, none, .mv, [.c (.i .i64 0)]⟩])
 .ret)))), [.tmp (.l 2), .tmp (.l 3)]⟩
/-- tarpaulin/script.Decode -/
def b11 : Nat := 61
def a11 : AFn := ⟨(.seq (.reg [⟨.l 2, none, .mv, [.c (.sl none 0 0 0)]⟩, ⟨.l 3, none, .mv, [.c (.i .i64 0)]⟩])
 (.seq (.seq (.reg [⟨.t 6, none, .mv, [.l 0]⟩, ⟨.t 7, none, .lenSl, [.t 6]⟩, ⟨.t 8, none, (.bin .gtr), [.t 7, .c (.i .i64 65536)]⟩])
 (.cond (.t 8) (.seq (.reg [⟨.l 2, none, .mv, [.c (.sl none 0 0 0)]⟩, ⟨.l 3, none, .mv, [.c (.i .i64 2)]⟩])
 .ret) .skip))
 (.seq (.block 0 (.loop (.seq (.seq (.reg [⟨.t 9, none, .mv, [.l 0]⟩, ⟨.t 10, none, .lenSl, [.t 9]⟩, ⟨.t 11, none, (.bin .gtr), [.t 10, .c (.i .i64 0)]⟩])
 (.cond (.t 11) .skip (.exit 0)))
 (.block 1 (.seq (.reg [⟨.t 13, none, .mv, [.l 0]⟩, ⟨.t 14, none, (.call 19), [.t 13]⟩, ⟨.t 12, none, .mv, [.t 14]⟩, ⟨.t 15, none, (.ext 0), [.t 12]⟩, ⟨.t 16, none, (.ext 1), [.t 12]⟩, ⟨.l 4, none, (.alloc [(.i .i64 0), (.i .i64 0), (.i .i64 0)]), []⟩, ⟨.no, none, (.st 3), [.l 4, .t 15]⟩, ⟨.l 5, none, .mv, [.t 16]⟩])
 (.seq (.seq (.reg [⟨.t 17, none, .mv, [.l 5]⟩, ⟨.t 18, none, (.bin .eql), [.t 17, .c (.i .i64 0)]⟩, ⟨.t 19, none, .mv, [.t 18]⟩, ⟨.t 20, (some (.t 19, false)), .mv, [.l 2]⟩, ⟨.t 21, (some (.t 19, false)), .lenSl, [.t 20]⟩, ⟨.t 22, (some (.t 19, false)), (.bin .eql), [.t 21, .c (.i .i64 2000)]⟩, ⟨.t 23, none, .pick, [.t 19, .c (.b true), .t 22]⟩])
 (.cond (.t 23) (.seq (.reg [⟨.l 2, none, .mv, [.c (.sl none 0 0 0)]⟩, ⟨.l 3, none, .mv, [.c (.i .i64 2)]⟩])
 .ret) .skip))
 (.reg [⟨.t 24, none, .mv, [.l 2]⟩, ⟨.t 25, none, (.ld (some 3)), [.l 4]⟩, ⟨.t 26, none, (.bslice [(.i .i64 0), (.i .i64 0), (.i .i64 0)] 1 3 [0]), [.t 25]⟩, ⟨.t 27, none, (.app 3 24), [.t 24, .t 26]⟩, ⟨.t 28, none, .mv, [.l 0]⟩, ⟨.t 29, none, .mv, [.l 5]⟩, ⟨.t 30, none, (.slc 1 true false false), [.t 28, .t 29]⟩, ⟨.l 2, none, .mv, [.t 27]⟩, ⟨.l 0, none, .mv, [.t 30]⟩])))))))
 (.seq (.reg [⟨.t 31, none, .mv, [.l 2]⟩, ⟨.l 2, none, .mv, [.t 31]⟩, ⟨.l 3, none, .mv, [.c (.i .i64 0)]⟩])
 .ret)))), [.tmp (.l 2), .tmp (.l 3)]⟩
/-- tarpaulin/tarpaulinlaw3.same -/
def b12 : Nat := 51
def a12 : AFn := ⟨(.seq (.reg [⟨.l 4, none, .mv, [.c (.b false)]⟩])
 (.seq (.seq (.reg [⟨.t 6, none, .mv, [.l 0]⟩, ⟨.t 7, none, .lenSl, [.t 6]⟩, ⟨.t 8, none, .mv, [.l 1]⟩, ⟨.t 9, none, .lenSl, [.t 8]⟩, ⟨.t 10, none, (.bin .neq), [.t 7, .t 9]⟩])
 (.cond (.t 10) (.seq (.reg [⟨.l 4, none, .mv, [.c (.b false)]⟩])
 .ret) .skip))
 (.seq (.seq (.reg [⟨.l 5, none, .mv, [.c (.i .i64 0)]⟩])
 (.block 0 (.loop (.seq (.seq (.reg [⟨.t 11, none, .mv, [.l 5]⟩, ⟨.t 12, none, .mv, [.l 0]⟩, ⟨.t 13, none, .lenSl, [.t 12]⟩, ⟨.t 14, none, (.bin .lss), [.t 11, .t 13]⟩])
 (.cond (.t 14) .skip (.exit 0)))
 (.seq (.block 1 (.seq (.reg [⟨.t 17, none, .mv, [.l 0]⟩, ⟨.t 18, none, .mv, [.l 5]⟩, ⟨.t 19, none, (.iad 3), [.t 17, .t 18]⟩, ⟨.t 20, none, (.ld (some 3)), [.t 19]⟩, ⟨.t 21, none, .mv, [.l 1]⟩, ⟨.t 22, none, .mv, [.l 5]⟩, ⟨.t 23, none, (.iad 3), [.t 21, .t 22]⟩, ⟨.t 24, none, (.ld (some 3)), [.t 23]⟩, ⟨.t 25, none, (.eq true (.agg [(0, 1), (1, 1), (2, 1)])), [.t 20, .t 24]⟩])
 (.cond (.t 25) (.seq (.reg [⟨.l 4, none, .mv, [.c (.b false)]⟩])
 .ret) .skip)))
 (.reg [⟨.t 15, none, .mv, [.l 5]⟩, ⟨.t 16, none, (.bin .add), [.t 15, .c (.i .i64 1)]⟩, ⟨.l 5, none, .mv, [.t 16]⟩]))))))
 (.seq (.reg [⟨.l 4, none, .mv, [.c (.b true)]⟩])
 .ret)))), [.tmp (.l 4)]⟩
/-- tarpaulin/tarpaulinalike.Round -/
def b13 : Nat := 19
def a13 : AFn := ⟨(.seq (.reg [⟨.l 4, none, .mv, [.c (.i .i64 0)]⟩])
 (.seq (.reg [⟨.t 5, none, .mv, [.l 0]⟩, ⟨.t 6, none, .mv, [.l 1]⟩, ⟨.t 7, none, (.bin .rem), [.t 5, .t 6]⟩, ⟨.t 8, none, .mv, [.l 1]⟩, ⟨.t 9, none, (.bin .add), [.t 7, .t 8]⟩, ⟨.t 10, none, .mv, [.l 1]⟩, ⟨.t 11, none, (.bin .rem), [.t 9, .t 10]⟩, ⟨.l 4, none, .mv, [.t 11]⟩])
 .ret)), [.tmp (.l 4)]⟩
/-- tarpaulin/script.Pick -/
def b15 : Nat := 19
def a15 : AFn := ⟨(.seq (.reg [⟨.l 4, none, .mv, [.c (.i .i64 0)]⟩])
 (.seq (.seq (.reg [⟨.t 5, none, .mv, [.l 1]⟩, ⟨.t 6, none, (.bin .lss), [.t 5, .c (.i .i64 1)]⟩])
 (.cond (.t 6) (.seq (.reg [⟨.l 4, none, .mv, [.c (.i .i64 0)]⟩])
 .ret) .skip))
 (.seq (.reg [⟨.t 7, none, .mv, [.l 0]⟩, ⟨.t 8, none, .mv, [.l 1]⟩, ⟨.t 9, none, (.bin .rem), [.t 7, .t 8]⟩, ⟨.l 0, none, .mv, [.t 9]⟩])
 (.seq (.seq (.reg [⟨.t 10, none, .mv, [.l 0]⟩, ⟨.t 11, none, (.bin .lss), [.t 10, .c (.i .i64 0)]⟩])
 (.cond (.t 11) (.reg [⟨.t 12, none, .mv, [.l 0]⟩, ⟨.t 13, none, .mv, [.l 1]⟩, ⟨.t 14, none, (.bin .add), [.t 12, .t 13]⟩, ⟨.l 0, none, .mv, [.t 14]⟩]) .skip))
 (.seq (.reg [⟨.t 15, none, .mv, [.l 0]⟩, ⟨.l 4, none, .mv, [.t 15]⟩])
 .ret))))), [.tmp (.l 4)]⟩
/-- tarpaulin/script.Check -/
def b16 : Nat := 7
def a16 : AFn := ⟨(.seq (.reg [⟨.l 1, none, .box, [.l 0]⟩, ⟨.l 2, none, .mv, [.c (.i .i64 0)]⟩])
 (.seq (.seq (.reg [⟨.t 3, none, (.fad 0), [.l 1]⟩, ⟨.t 4, none, (.ld none), [.t 3]⟩, ⟨.t 5, none, (.bin .eql), [.t 4, .c (.i .i64 1)]⟩, ⟨.t 6, none, .mv, [.t 5]⟩, ⟨.t 7, (some (.t 6, false)), (.fad 0), [.l 1]⟩, ⟨.t 8, (some (.t 6, false)), (.ld none), [.t 7]⟩, ⟨.t 9, (some (.t 6, false)), (.bin .eql), [.t 8, .c (.i .i64 2)]⟩, ⟨.t 10, (some (.t 6, false)), .mv, [.t 9]⟩, ⟨.t 11, (some (.t 10, true)), (.fad 1), [.l 1]⟩, ⟨.t 12, (some (.t 10, true)), (.ld none), [.t 11]⟩, ⟨.t 13, (some (.t 10, true)), (.bin .geq), [.t 12, .c (.i .i64 0)]⟩, ⟨.t 14, (some (.t 6, false)), .pick, [.t 10, .t 13, .c (.b false)]⟩, ⟨.t 15, (some (.t 6, false)), .mv, [.t 14]⟩, ⟨.t 16, (some (.t 15, true)), (.fad 2), [.l 1]⟩, ⟨.t 17, (some (.t 15, true)), (.ld none), [.t 16]⟩, ⟨.t 18, (some (.t 15, true)), (.bin .eql), [.t 17, .c (.i .i64 0)]⟩, ⟨.t 19, (some (.t 6, false)), .pick, [.t 15, .t 18, .c (.b false)]⟩, ⟨.t 20, none, .pick, [.t 6, .c (.b true), .t 19]⟩])
 (.cond (.t 20) (.seq (.reg [⟨.l 2, none, .mv, [.c (.i .i64 0)]⟩])
 .ret) .skip))
 (.seq (.reg [⟨.l 2, none, .mv, [.c (.i .i64 1)]⟩])
 .ret))), [.tmp (.l 2)]⟩
/-- tarpaulin/tarpaulinlaw3.odd -/
def b17 : Nat := 13
def a17 : AFn := ⟨(.seq (.reg [⟨.l 2, none, .mv, [.c (.b false)]⟩])
 (.seq (.seq (.reg [⟨.l 3, none, .mv, [.c (.i .i64 0)]⟩])
 (.block 0 (.loop (.seq (.seq (.reg [⟨.t 4, none, .mv, [.l 3]⟩, ⟨.t 5, none, .mv, [.l 0]⟩, ⟨.t 6, none, .lenSl, [.t 5]⟩, ⟨.t 7, none, (.bin .lss), [.t 4, .t 6]⟩])
 (.cond (.t 7) .skip (.exit 0)))
 (.seq (.block 1 (.seq (.reg [⟨.t 10, none, .mv, [.l 0]⟩, ⟨.t 11, none, .mv, [.l 3]⟩, ⟨.t 12, none, (.iad 3), [.t 10, .t 11]⟩, ⟨.t 13, none, (.fad 0), [.t 12]⟩, ⟨.t 14, none, (.ld none), [.t 13]⟩, ⟨.t 15, none, (.bin .eql), [.t 14, .c (.i .i64 2)]⟩, ⟨.t 16, none, .mv, [.t 15]⟩, ⟨.t 17, (some (.t 16, true)), .mv, [.l 0]⟩, ⟨.t 18, (some (.t 16, true)), .mv, [.l 3]⟩, ⟨.t 19, (some (.t 16, true)), (.iad 3), [.t 17, .t 18]⟩, ⟨.t 20, (some (.t 16, true)), (.fad 2), [.t 19]⟩, ⟨.t 21, (some (.t 16, true)), (.ld none), [.t 20]⟩, ⟨.t 22, (some (.t 16, true)), (.bin .neq), [.t 21, .c (.i .i64 0)]⟩, ⟨.t 23, none, .pick, [.t 16, .t 22, .c (.b false)]⟩])
 (.cond (.t 23) (.seq (.reg [⟨.l 2, none, .mv, [.c (.b true)]⟩])
 .ret) .skip)))
 (.reg [⟨.t 8, none, .mv, [.l 3]⟩, ⟨.t 9, none, (.bin .add), [.t 8, .c (.i .i64 1)]⟩, ⟨.l 3, none, .mv, [.t 9]⟩]))))))
 (.seq (.reg [⟨.l 2, none, .mv, [.c (.b false)]⟩])
 .ret))), [.tmp (.l 2)]⟩
/-- tarpaulin/script.put -/
def b18 : Nat := 115
def a18 : AFn := ⟨(.seq (.reg [⟨.l 4, none, .mv, [.c (.sl none 0 0 0)]⟩])
 (.seq (.seq (.reg [⟨.l 6, none, .mv, [.c (.i .i64 0)]⟩])
 (.block 0 (.loop (.seq (.reg [⟨.t 7, none, (.bin .lss), [.l 6, .c (.i .i64 8)]⟩])
 (.seq (.cond (.t 7) .skip (.exit 0))
 (.seq (.block 1 (.seq (.reg [⟨.t 8, none, .mv, [.l 6]⟩, ⟨.l 5, none, .mv, [.t 8]⟩])
 (.reg [⟨.t 9, none, .mv, [.l 0]⟩, ⟨.t 10, none, .mv, [.l 1]⟩, ⟨.t 11, none, (.cvtI .u64), [.t 10]⟩, ⟨.t 12, none, .mv, [.l 5]⟩, ⟨.t 13, none, (.bin .mul), [.c (.i .i64 8), .t 12]⟩, ⟨.t 14, none, (.bin .shr), [.t 11, .t 13]⟩, ⟨.t 15, none, (.cvtI .u8), [.t 14]⟩, ⟨.t 16, none, (.bslice [(.i .u8 0)] 1 1 [0]), [.t 15]⟩, ⟨.t 17, none, (.app 1 1), [.t 9, .t 16]⟩, ⟨.l 0, none, .mv, [.t 17]⟩])))
 (.reg [⟨.t 18, none, (.bin .add), [.l 6, .c (.i .i64 1)]⟩, ⟨.l 6, none, .mv, [.t 18]⟩])))))))
 (.seq (.reg [⟨.t 19, none, .mv, [.l 0]⟩, ⟨.l 4, none, .mv, [.t 19]⟩])
 .ret))), [.tmp (.l 4)]⟩
/-- tarpaulin/script.first -/
def b19 : Nat := 1037
def a19 : AFn := ⟨(.seq (.reg [⟨.l 2, none, (.alloc [(.i .i64 0), (.i .i64 0), (.i .i64 0)]), []⟩, ⟨.l 3, none, .mv, [.c (.i .i64 0)]⟩])
 (.seq (.reg [⟨.t 4, none, .mv, [.l 0]⟩, ⟨.t 5, none, (.iad 1), [.t 4, .c (.i .i64 0)]⟩, ⟨.t 6, none, (.ld none), [.t 5]⟩, ⟨.t 7, none, (.cvtI .i64), [.t 6]⟩, ⟨.t 8, none, (.fad 0), [.l 2]⟩, ⟨.no, none, (.st 1), [.t 8, .t 7]⟩, ⟨.l 3, none, .mv, [.c (.i .i64 9)]⟩])
 (.seq (.seq (.reg [⟨.t 9, none, (.fad 0), [.l 2]⟩, ⟨.l 10, none, (.ld none), [.t 9]⟩])
 (.block 0 (.seq (.block 2 (.seq (.block 1 (.seq (.seq (.seq (.reg [⟨.t 12, none, (.bin .eql), [.l 10, .c (.i .i64 1)]⟩, ⟨.t 11, none, .mv, [.t 12]⟩])
 (.cond (.t 11) (.exit 1) .skip))
 (.seq (.reg [⟨.t 14, none, (.bin .eql), [.l 10, .c (.i .i64 2)]⟩, ⟨.t 13, none, .mv, [.t 14]⟩])
 (.cond (.t 13) (.exit 2) .skip)))
 (.exit 0)))
 (.seq (.reg [⟨.t 15, none, .mv, [.l 3]⟩, ⟨.t 16, none, (.bin .add), [.t 15, .c (.i .i64 8)]⟩, ⟨.l 3, none, .mv, [.t 16]⟩])
 (.seq (.seq (.reg [⟨.t 17, none, .mv, [.l 0]⟩, ⟨.t 18, none, .lenSl, [.t 17]⟩, ⟨.t 19, none, .mv, [.l 3]⟩, ⟨.t 20, none, (.bin .lss), [.t 18, .t 19]⟩])
 (.cond (.t 20) (.seq (.reg [⟨.t 21, none, (.ld (some 3)), [.l 2]⟩, ⟨.no, none, (.st 3), [.l 2, .t 21]⟩, ⟨.l 3, none, .mv, [.c (.i .i64 0)]⟩])
 .ret) .skip))
 (.reg [⟨.t 22, none, .mv, [.l 0]⟩, ⟨.t 23, none, .mv, [.l 3]⟩, ⟨.t 24, none, (.bin .sub), [.t 23, .c (.i .i64 8)]⟩, ⟨.t 25, none, (.slc 1 true false false), [.t 22, .t 24]⟩, ⟨.t 26, none, (.call 20), [.t 25]⟩, ⟨.t 27, none, (.fad 2), [.l 2]⟩, ⟨.no, none, (.st 1), [.t 27, .t 26]⟩])))))
 (.seq (.seq (.seq (.reg [⟨.t 28, none, .mv, [.l 0]⟩, ⟨.t 29, none, .lenSl, [.t 28]⟩, ⟨.t 30, none, .mv, [.l 3]⟩, ⟨.t 31, none, (.bin .lss), [.t 29, .t 30]⟩])
 (.cond (.t 31) (.seq (.reg [⟨.t 32, none, (.ld (some 3)), [.l 2]⟩, ⟨.no, none, (.st 3), [.l 2, .t 32]⟩, ⟨.l 3, none, .mv, [.c (.i .i64 0)]⟩])
 .ret) .skip))
 (.seq (.reg [⟨.t 33, none, .mv, [.l 0]⟩, ⟨.t 34, none, (.slc 1 true false false), [.t 33, .c (.i .i64 1)]⟩, ⟨.t 35, none, (.call 20), [.t 34]⟩, ⟨.t 36, none, (.fad 1), [.l 2]⟩, ⟨.no, none, (.st 1), [.t 36, .t 35]⟩])
 (.seq (.reg [⟨.t 37, none, (.ld (some 3)), [.l 2]⟩, ⟨.t 38, none, .mv, [.l 3]⟩, ⟨.no, none, (.st 3), [.l 2, .t 37]⟩, ⟨.l 3, none, .mv, [.t 38]⟩])
 .ret)))
 (.exit 0)))))
 (.seq (.reg [⟨.t 39, none, (.ld (some 3)), [.l 2]⟩, ⟨.no, none, (.st 3), [.l 2, .t 39]⟩, ⟨.l 3, none, .mv, [.c (.i .i64 0)]⟩])
 .ret)))), [.cell (.l 2) (some 3), .tmp (.l 3)]⟩
/-- tarpaulin/script.get -/
def b20 : Nat := 61
def a20 : AFn := ⟨(.seq (.reg [⟨.l 2, none, .mv, [.c (.i .i64 0)]⟩])
 (.seq (.reg [⟨.l 3, none, .mv, [.c (.i .u64 0)]⟩])
 (.seq (.seq (.reg [⟨.l 5, none, .mv, [.c (.i .i64 0)]⟩])
 (.block 0 (.loop (.seq (.reg [⟨.t 6, none, (.bin .lss), [.l 5, .c (.i .i64 8)]⟩])
 (.seq (.cond (.t 6) .skip (.exit 0))
 (.seq (.block 1 (.seq (.reg [⟨.t 7, none, .mv, [.l 5]⟩, ⟨.l 4, none, .mv, [.t 7]⟩])
 (.reg [⟨.t 8, none, .mv, [.l 3]⟩, ⟨.t 9, none, .mv, [.l 0]⟩, ⟨.t 10, none, .mv, [.l 4]⟩, ⟨.t 11, none, (.iad 1), [.t 9, .t 10]⟩, ⟨.t 12, none, (.ld none), [.t 11]⟩, ⟨.t 13, none, (.cvtI .u64), [.t 12]⟩, ⟨.t 14, none, .mv, [.l 4]⟩, ⟨.t 15, none, (.bin .mul), [.c (.i .i64 8), .t 14]⟩, ⟨.t 16, none, (.bin .shl), [.t 13, .t 15]⟩, ⟨.t 17, none, (.bin .or), [.t 8, .t 16]⟩, ⟨.l 3, none, .mv, [.t 17]⟩])))
 (.reg [⟨.t 18, none, (.bin .add), [.l 5, .c (.i .i64 1)]⟩, ⟨.l 5, none, .mv, [.t 18]⟩])))))))
 (.seq (.reg [⟨.t 19, none, .mv, [.l 3]⟩, ⟨.t 20, none, (.cvtI .i64), [.t 19]⟩, ⟨.l 2, none, .mv, [.t 20]⟩])
 .ret)))), [.tmp (.l 2)]⟩
def tbl : Nat → Option AFn
  | 2 => some a2
  | 3 => some a3
  | 4 => some a4
  | 5 => some a5
  | 6 => some a6
  | 8 => some a8
  | 9 => some a9
  | 10 => some a10
  | 11 => some a11
  | 12 => some a12
  | 13 => some a13
  | 15 => some a15
  | 16 => some a16
  | 17 => some a17
  | 18 => some a18
  | 19 => some a19
  | 20 => some a20
  | _ => none
theorem c2 : compFn Try.prog b2 Try.f2 = some a2 := by kernel_rfl
theorem c3 : compFn Try.prog b3 Try.f3 = some a3 := by kernel_rfl
theorem c4 : compFn Try.prog b4 Try.f4 = some a4 := by kernel_rfl
theorem c5 : compFn Try.prog b5 Try.f5 = some a5 := by kernel_rfl
theorem c6 : compFn Try.prog b6 Try.f6 = some a6 := by kernel_rfl
theorem c8 : compFn Try.prog b8 Try.f8 = some a8 := by kernel_rfl
theorem c9 : compFn Try.prog b9 Try.f9 = some a9 := by kernel_rfl
theorem c10 : compFn Try.prog b10 Try.f10 = some a10 := by kernel_rfl
theorem c11 : compFn Try.prog b11 Try.f11 = some a11 := by kernel_rfl
theorem c12 : compFn Try.prog b12 Try.f12 = some a12 := by kernel_rfl
theorem c13 : compFn Try.prog b13 Try.f13 = some a13 := by kernel_rfl
theorem c15 : compFn Try.prog b15 Try.f15 = some a15 := by kernel_rfl
theorem c16 : compFn Try.prog b16 Try.f16 = some a16 := by kernel_rfl
theorem c17 : compFn Try.prog b17 Try.f17 = some a17 := by kernel_rfl
theorem c18 : compFn Try.prog b18 Try.f18 = some a18 := by kernel_rfl
theorem c19 : compFn Try.prog b19 Try.f19 = some a19 := by kernel_rfl
theorem c20 : compFn Try.prog b20 Try.f20 = some a20 := by kernel_rfl
theorem ok : TblOk Try.prog tbl := by
  intro f fn h
  unfold tbl at h
  split at h
  · cases h; exact ⟨b2, _, Try.func2, c2⟩
  · cases h; exact ⟨b3, _, Try.func3, c3⟩
  · cases h; exact ⟨b4, _, Try.func4, c4⟩
  · cases h; exact ⟨b5, _, Try.func5, c5⟩
  · cases h; exact ⟨b6, _, Try.func6, c6⟩
  · cases h; exact ⟨b8, _, Try.func8, c8⟩
  · cases h; exact ⟨b9, _, Try.func9, c9⟩
  · cases h; exact ⟨b10, _, Try.func10, c10⟩
  · cases h; exact ⟨b11, _, Try.func11, c11⟩
  · cases h; exact ⟨b12, _, Try.func12, c12⟩
  · cases h; exact ⟨b13, _, Try.func13, c13⟩
  · cases h; exact ⟨b15, _, Try.func15, c15⟩
  · cases h; exact ⟨b16, _, Try.func16, c16⟩
  · cases h; exact ⟨b17, _, Try.func17, c17⟩
  · cases h; exact ⟨b18, _, Try.func18, c18⟩
  · cases h; exact ⟨b19, _, Try.func19, c19⟩
  · cases h; exact ⟨b20, _, Try.func20, c20⟩
  · cases h
theorem mixed : Try.prog.follows .mixedOrders = true := by kernel_rfl
end Go.Proofs.Ytppebjifdjpngaa.T
