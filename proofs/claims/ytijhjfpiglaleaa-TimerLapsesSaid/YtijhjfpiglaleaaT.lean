/- The abstract machine's code of each function of this seat's program, and that it is compiled from the program's. PRINTED by our glue.py over our printam.lean. -/
import Derived.Test.YtijhjfpiglaleaaChecked
import Derived.Test.YtijhjfpiglaleaaAmW
import Derived.KernelRfl
set_option maxRecDepth 100000
set_option linter.unusedVariables false
namespace Go.Proofs.Ytijhjfpiglaleaa.T
open Go.AM
/-- gosem.cut.init -/
def b2 : Nat := 0
def a2 : AFn := ⟨(.reg [⟨.t 0, none, (.call 1), []⟩]), []⟩
/-- tarpaulin/tarpaulinlaw13.TimerMany -/
def b3 : Nat := 5472243
def a3 : AFn := ⟨(.seq (.reg [⟨.l 4, none, .mv, [.c (.b false)]⟩])
 (.seq (.seq (.reg [⟨.t 23, none, .mv, [.l 0]⟩, ⟨.t 24, none, .lenSl, [.t 23]⟩, ⟨.t 25, none, (.bin .gtr), [.t 24, .c (.i .i64 64)]⟩, ⟨.t 26, none, .mv, [.t 25]⟩, ⟨.t 27, (some (.t 26, false)), .mv, [.l 1]⟩, ⟨.t 28, (some (.t 26, false)), (.bin .lss), [.t 27, .c (.i .i64 0)]⟩, ⟨.t 29, none, .pick, [.t 26, .c (.b true), .t 28]⟩, ⟨.t 30, none, .mv, [.t 29]⟩, ⟨.t 31, (some (.t 30, false)), .mv, [.l 1]⟩, ⟨.t 32, (some (.t 30, false)), (.bin .gtr), [.t 31, .c (.i .i64 10)]⟩, ⟨.t 33, none, .pick, [.t 30, .c (.b true), .t 32]⟩])
 (.cond (.t 33) (.seq (.reg [⟨.t 34, none, (.call 10), []⟩, ⟨.l 4, none, .mv, [.t 34]⟩])
 .ret) .skip))
 (.seq (.reg [⟨.t 35, none, (.call 11), []⟩, ⟨.l 5, none, .mv, [.t 35]⟩])
 (.seq (.seq (.reg [⟨.t 36, none, .mv, [.l 5]⟩, ⟨.t 37, none, (.eq false .ptr), [.t 36, .c (.p none)]⟩])
 (.cond (.t 37) (.seq (.reg [⟨.l 4, none, .mv, [.c (.b false)]⟩])
 .ret) .skip))
 (.seq (.seq (.reg [⟨.l 6, none, .mv, [.c (.i .i64 0)]⟩])
 (.block 0 (.loop (.seq (.seq (.reg [⟨.t 38, none, .mv, [.l 6]⟩, ⟨.t 39, none, .mv, [.l 0]⟩, ⟨.t 40, none, .lenSl, [.t 39]⟩, ⟨.t 41, none, (.bin .lss), [.t 38, .t 40]⟩])
 (.cond (.t 41) .skip (.exit 0)))
 (.seq (.block 1 (.seq (.reg [⟨.t 44, none, .mv, [.l 0]⟩, ⟨.t 45, none, .mv, [.l 6]⟩, ⟨.t 46, none, (.iad 1), [.t 44, .t 45]⟩, ⟨.t 47, none, (.ld none), [.t 46]⟩, ⟨.t 48, none, (.call 12), [.t 47, .c (.i .i64 100)]⟩, ⟨.l 7, none, .mv, [.t 48]⟩])
 (.seq (.reg [⟨.t 50, none, .mv, [.l 5]⟩, ⟨.t 51, none, .mv, [.l 7]⟩, ⟨.t 52, none, .mv, [.l 6]⟩, ⟨.t 53, none, (.call 13), [.t 50, .c (.i .i64 10), .t 51, .t 52]⟩, ⟨.t 49, none, .mv, [.t 53]⟩, ⟨.t 54, none, (.ext 0), [.t 49]⟩, ⟨.t 55, none, (.ext 1), [.t 49]⟩, ⟨.l 8, none, .mv, [.t 54]⟩, ⟨.l 9, none, .mv, [.t 55]⟩])
 (.seq (.reg [⟨.t 56, none, .mv, [.l 9]⟩, ⟨.t 57, none, (.bin .neq), [.t 56, .c (.i .i64 0)]⟩, ⟨.t 58, none, .mv, [.t 57]⟩, ⟨.t 59, (some (.t 58, false)), .mv, [.l 8]⟩, ⟨.t 60, (some (.t 58, false)), .mv, [.l 6]⟩, ⟨.t 61, (some (.t 58, false)), (.bin .neq), [.t 59, .t 60]⟩, ⟨.t 62, none, .pick, [.t 58, .c (.b true), .t 61]⟩])
 (.cond (.t 62) (.seq (.reg [⟨.l 4, none, .mv, [.c (.b false)]⟩])
 .ret) .skip)))))
 (.reg [⟨.t 42, none, .mv, [.l 6]⟩, ⟨.t 43, none, (.bin .add), [.t 42, .c (.i .i64 1)]⟩, ⟨.l 6, none, .mv, [.t 43]⟩]))))))
 (.seq (.reg [⟨.l 10, none, .mv, [.c (.i .i64 (-1))]⟩, ⟨.l 11, none, .mv, [.c (.i .i64 (-1))]⟩])
 (.seq (.seq (.reg [⟨.l 12, none, .mv, [.c (.i .i64 0)]⟩])
 (.block 2 (.loop (.seq (.seq (.reg [⟨.t 63, none, .mv, [.l 12]⟩, ⟨.t 64, none, .mv, [.l 0]⟩, ⟨.t 65, none, .lenSl, [.t 64]⟩, ⟨.t 66, none, (.bin .lss), [.t 63, .t 65]⟩])
 (.cond (.t 66) .skip (.exit 2)))
 (.seq (.block 3 (.seq (.reg [⟨.t 70, none, .mv, [.l 5]⟩, ⟨.t 71, none, (.call 14), [.t 70, .c (.i .i64 200)]⟩, ⟨.t 69, none, .mv, [.t 71]⟩, ⟨.t 72, none, (.ext 0), [.t 69]⟩, ⟨.t 73, none, (.ext 1), [.t 69]⟩, ⟨.l 13, none, (.alloc [(.i .i64 0), (.i .i64 0), (.i .i64 0), (.i .i64 0), (.i .i64 0), (.sl none 0 0 0), (.b false)]), []⟩, ⟨.no, none, (.st 7), [.l 13, .t 72]⟩, ⟨.l 14, none, .mv, [.t 73]⟩])
 (.seq (.seq (.regD [⟨.t 74, none, .mv, [.l 14]⟩, ⟨.t 75, none, (.un .not), [.t 74]⟩, ⟨.t 76, none, .mv, [.t 75]⟩, ⟨.t 77, (some (.t 76, false)), (.fad 1), [.l 13]⟩, ⟨.t 78, (some (.t 76, false)), (.ld none), [.t 77]⟩, ⟨.t 79, (some (.t 76, false)), (.bin .neq), [.t 78, .c (.i .i64 3)]⟩, ⟨.t 80, none, .pick, [.t 76, .c (.b true), .t 79]⟩, ⟨.t 81, none, .mv, [.t 80]⟩, ⟨.t 82, (some (.t 81, false)), (.fad 4), [.l 13]⟩, ⟨.t 83, (some (.t 81, false)), (.ld none), [.t 82]⟩, ⟨.t 84, (some (.t 81, false)), (.fad 0), [.l 13]⟩, ⟨.t 85, (some (.t 81, false)), (.ld none), [.t 84]⟩, ⟨.t 86, (some (.t 81, false)), (.bin .neq), [.t 83, .t 85]⟩, ⟨.t 87, none, .pick, [.t 81, .c (.b true), .t 86]⟩, ⟨.t 88, none, .mv, [.t 87]⟩, ⟨.t 89, (some (.t 88, false)), (.fad 0), [.l 13]⟩, ⟨.t 90, (some (.t 88, false)), (.ld none), [.t 89]⟩, ⟨.t 91, (some (.t 88, false)), (.bin .lss), [.t 90, .c (.i .i64 0)]⟩, ⟨.t 92, none, .pick, [.t 88, .c (.b true), .t 91]⟩, ⟨.t 93, none, .mv, [.t 92]⟩, ⟨.t 94, (some (.t 93, false)), (.fad 0), [.l 13]⟩, ⟨.t 95, (some (.t 93, false)), (.ld none), [.t 94]⟩, ⟨.t 96, (some (.t 93, false)), .mv, [.l 0]⟩, ⟨.t 97, (some (.t 93, false)), .lenSl, [.t 96]⟩, ⟨.t 98, (some (.t 93, false)), (.bin .geq), [.t 95, .t 97]⟩, ⟨.t 99, none, .pick, [.t 93, .c (.b true), .t 98]⟩, ⟨.t 100, none, .mv, [.t 99]⟩, ⟨.t 101, (some (.t 100, false)), (.fad 2), [.l 13]⟩, ⟨.t 102, (some (.t 100, false)), (.ld none), [.t 101]⟩, ⟨.t 103, (some (.t 100, false)), .mv, [.l 0]⟩, ⟨.t 104, (some (.t 100, false)), (.fad 0), [.l 13]⟩, ⟨.t 105, (some (.t 100, false)), (.ld none), [.t 104]⟩, ⟨.t 106, (some (.t 100, false)), (.iad 1), [.t 103, .t 105]⟩, ⟨.t 107, (some (.t 100, false)), (.ld none), [.t 106]⟩, ⟨.t 108, (some (.t 100, false)), (.call 12), [.t 107, .c (.i .i64 100)]⟩, ⟨.t 109, (some (.t 100, false)), (.bin .add), [.c (.i .i64 10), .t 108]⟩, ⟨.t 110, (some (.t 100, false)), (.bin .neq), [.t 102, .t 109]⟩, ⟨.t 111, none, .pick, [.t 100, .c (.b true), .t 110]⟩, ⟨.t 112, none, .mv, [.t 111]⟩, ⟨.t 113, (some (.t 112, false)), (.fad 2), [.l 13]⟩, ⟨.t 114, (some (.t 112, false)), (.ld none), [.t 113]⟩, ⟨.t 115, (some (.t 112, false)), .mv, [.l 10]⟩, ⟨.t 116, (some (.t 112, false)), (.bin .lss), [.t 114, .t 115]⟩, ⟨.t 117, none, .pick, [.t 112, .c (.b true), .t 116]⟩, ⟨.t 118, none, .mv, [.t 117]⟩, ⟨.t 119, (some (.t 118, false)), (.fad 2), [.l 13]⟩, ⟨.t 120, (some (.t 118, false)), (.ld none), [.t 119]⟩, ⟨.t 121, (some (.t 118, false)), .mv, [.l 10]⟩, ⟨.t 122, (some (.t 118, false)), (.bin .eql), [.t 120, .t 121]⟩, ⟨.t 123, (some (.t 118, false)), .mv, [.t 122]⟩, ⟨.t 124, (some (.t 123, true)), (.fad 0), [.l 13]⟩, ⟨.t 125, (some (.t 123, true)), (.ld none), [.t 124]⟩, ⟨.t 126, (some (.t 123, true)), .mv, [.l 11]⟩, ⟨.t 127, (some (.t 123, true)), (.bin .lss), [.t 125, .t 126]⟩, ⟨.t 128, (some (.t 118, false)), .pick, [.t 123, .t 127, .c (.b false)]⟩, ⟨.t 129, none, .pick, [.t 118, .c (.b true), .t 128]⟩] [(28, 35)])
 (.cond (.t 129) (.seq (.reg [⟨.l 4, none, .mv, [.c (.b false)]⟩])
 .ret) .skip))
 (.reg [⟨.t 130, none, (.fad 2), [.l 13]⟩, ⟨.t 131, none, (.ld none), [.t 130]⟩, ⟨.t 132, none, (.fad 0), [.l 13]⟩, ⟨.t 133, none, (.ld none), [.t 132]⟩, ⟨.l 10, none, .mv, [.t 131]⟩, ⟨.l 11, none, .mv, [.t 133]⟩]))))
 (.reg [⟨.t 67, none, .mv, [.l 12]⟩, ⟨.t 68, none, (.bin .add), [.t 67, .c (.i .i64 1)]⟩, ⟨.l 12, none, .mv, [.t 68]⟩]))))))
 (.seq (.reg [⟨.t 135, none, .mv, [.l 5]⟩, ⟨.t 136, none, (.call 14), [.t 135, .c (.i .i64 4611686018427387904)]⟩, ⟨.t 134, none, .mv, [.t 136]⟩, ⟨.t 137, none, (.ext 0), [.t 134]⟩, ⟨.t 138, none, (.ext 1), [.t 134]⟩, ⟨.t 15, none, (.alloc [(.i .i64 0), (.i .i64 0), (.i .i64 0), (.i .i64 0), (.i .i64 0), (.sl none 0 0 0), (.b false)]), []⟩, ⟨.no, none, (.st 7), [.t 15, .t 137]⟩, ⟨.l 16, none, .mv, [.t 138]⟩])
 (.seq (.seq (.reg [⟨.t 139, none, .mv, [.l 0]⟩, ⟨.t 140, none, .lenSl, [.t 139]⟩, ⟨.l 17, none, .mv, [.t 140]⟩])
 (.block 4 (.loop (.seq (.seq (.reg [⟨.t 141, none, .mv, [.l 17]⟩, ⟨.t 142, none, .mv, [.l 1]⟩, ⟨.t 143, none, (.bin .add), [.c (.i .i64 64), .t 142]⟩, ⟨.t 144, none, (.bin .lss), [.t 141, .t 143]⟩])
 (.cond (.t 144) .skip (.exit 4)))
 (.seq (.block 5 (.seq (.reg [⟨.t 148, none, .mv, [.l 5]⟩, ⟨.t 149, none, (.call 15), [.t 148, .c (.i .i64 0), .c (.i .i64 1)]⟩, ⟨.t 147, none, .mv, [.t 149]⟩, ⟨.t 150, none, (.ext 0), [.t 147]⟩, ⟨.t 151, none, (.ext 1), [.t 147]⟩, ⟨.t 152, none, (.ext 2), [.t 147]⟩, ⟨.t 18, none, .mv, [.t 150]⟩, ⟨.t 19, none, .mv, [.t 151]⟩, ⟨.l 20, none, .mv, [.t 152]⟩])
 (.seq (.reg [⟨.t 153, none, .mv, [.l 20]⟩, ⟨.t 154, none, (.bin .eql), [.t 153, .c (.i .i64 0)]⟩, ⟨.t 155, none, .mv, [.l 17]⟩, ⟨.t 156, none, (.bin .lss), [.t 155, .c (.i .i64 64)]⟩, ⟨.t 157, none, (.eq true .bool), [.t 154, .t 156]⟩, ⟨.t 158, none, .mv, [.t 157]⟩, ⟨.t 159, (some (.t 158, false)), .mv, [.l 20]⟩, ⟨.t 160, (some (.t 158, false)), (.bin .neq), [.t 159, .c (.i .i64 0)]⟩, ⟨.t 161, (some (.t 158, false)), .mv, [.t 160]⟩, ⟨.t 162, (some (.t 161, true)), .mv, [.l 20]⟩, ⟨.t 163, (some (.t 161, true)), (.bin .neq), [.t 162, .c (.i .i64 3)]⟩, ⟨.t 164, (some (.t 158, false)), .pick, [.t 161, .t 163, .c (.b false)]⟩, ⟨.t 165, none, .pick, [.t 158, .c (.b true), .t 164]⟩])
 (.cond (.t 165) (.seq (.reg [⟨.l 4, none, .mv, [.c (.b false)]⟩])
 .ret) .skip))))
 (.reg [⟨.t 145, none, .mv, [.l 17]⟩, ⟨.t 146, none, (.bin .add), [.t 145, .c (.i .i64 1)]⟩, ⟨.l 17, none, .mv, [.t 146]⟩]))))))
 (.seq (.reg [⟨.t 167, none, .mv, [.l 5]⟩, ⟨.t 168, none, (.call 16), [.t 167, .c (.i .i64 5), .c (.i .i64 0)]⟩, ⟨.t 166, none, .mv, [.t 168]⟩, ⟨.t 169, none, (.ext 0), [.t 166]⟩, ⟨.t 170, none, (.ext 1), [.t 166]⟩, ⟨.t 21, none, .mv, [.t 169]⟩, ⟨.l 22, none, .mv, [.t 170]⟩])
 (.seq (.reg [⟨.t 171, none, .mv, [.l 16]⟩, ⟨.t 172, none, (.un .not), [.t 171]⟩, ⟨.t 173, none, .mv, [.t 172]⟩, ⟨.t 174, (some (.t 173, true)), .mv, [.l 22]⟩, ⟨.t 175, (some (.t 173, true)), (.bin .eql), [.t 174, .c (.i .i64 0)]⟩, ⟨.t 176, none, .pick, [.t 173, .t 175, .c (.b false)]⟩, ⟨.t 177, none, .mv, [.t 176]⟩, ⟨.t 178, (some (.t 177, true)), (.call 10), []⟩, ⟨.t 179, none, .pick, [.t 177, .t 178, .c (.b false)]⟩, ⟨.l 4, none, .mv, [.t 179]⟩])
 .ret))))))))))), [.tmp (.l 4)]⟩
/-- tarpaulin/tarpaulinlaw13.TimerLapses -/
def b4 : Nat := 98533135
def a4 : AFn := ⟨(.seq (.reg [⟨.l 8, none, .mv, [.c (.b false)]⟩])
 (.seq (.seq (.reg [⟨.t 27, none, .mv, [.l 1]⟩, ⟨.t 28, none, (.bin .lss), [.t 27, .c (.i .i64 0)]⟩, ⟨.t 29, none, .mv, [.t 28]⟩, ⟨.t 30, (some (.t 29, false)), .mv, [.l 2]⟩, ⟨.t 31, (some (.t 29, false)), (.bin .lss), [.t 30, .c (.i .i64 0)]⟩, ⟨.t 32, none, .pick, [.t 29, .c (.b true), .t 31]⟩, ⟨.t 33, none, .mv, [.t 32]⟩, ⟨.t 34, (some (.t 33, false)), .mv, [.l 2]⟩, ⟨.t 35, (some (.t 33, false)), (.bin .gtr), [.t 34, .c (.i .i64 4611686018427387904)]⟩, ⟨.t 36, none, .pick, [.t 33, .c (.b true), .t 35]⟩])
 (.cond (.t 36) (.seq (.reg [⟨.t 37, none, (.call 10), []⟩, ⟨.l 8, none, .mv, [.t 37]⟩])
 .ret) .skip))
 (.seq (.reg [⟨.t 38, none, (.call 11), []⟩, ⟨.l 9, none, .mv, [.t 38]⟩])
 (.seq (.seq (.reg [⟨.t 39, none, .mv, [.l 9]⟩, ⟨.t 40, none, (.eq false .ptr), [.t 39, .c (.p none)]⟩])
 (.cond (.t 40) (.seq (.reg [⟨.l 8, none, .mv, [.c (.b false)]⟩])
 .ret) .skip))
 (.seq (.reg [⟨.t 42, none, .mv, [.l 9]⟩, ⟨.t 43, none, .mv, [.l 0]⟩, ⟨.t 44, none, .mv, [.l 1]⟩, ⟨.t 45, none, (.call 16), [.t 42, .t 43, .t 44]⟩, ⟨.t 41, none, .mv, [.t 45]⟩, ⟨.t 46, none, (.ext 0), [.t 41]⟩, ⟨.t 47, none, (.ext 1), [.t 41]⟩, ⟨.l 10, none, .mv, [.t 46]⟩, ⟨.l 11, none, .mv, [.t 47]⟩])
 (.seq (.reg [⟨.t 48, none, .mv, [.l 0]⟩, ⟨.t 49, none, .min, [.t 48, .c (.i .i64 4611686018427387904)]⟩, ⟨.t 50, none, .max, [.t 49, .c (.i .i64 0)]⟩, ⟨.l 12, none, .mv, [.t 50]⟩])
 (.seq (.reg [⟨.t 52, none, .mv, [.l 9]⟩, ⟨.t 53, none, (.call 17), [.t 52]⟩, ⟨.t 51, none, .mv, [.t 53]⟩, ⟨.t 54, none, (.ext 0), [.t 51]⟩, ⟨.t 55, none, (.ext 1), [.t 51]⟩, ⟨.l 13, none, .mv, [.t 54]⟩, ⟨.l 14, none, .mv, [.t 55]⟩])
 (.seq (.reg [⟨.t 57, none, .mv, [.l 9]⟩, ⟨.t 58, none, .mv, [.l 10]⟩, ⟨.t 59, none, (.call 18), [.t 57, .t 58, .c (.i .i64 0), .c (.i .i64 5)]⟩, ⟨.t 56, none, .mv, [.t 59]⟩, ⟨.t 60, none, (.ext 0), [.t 56]⟩, ⟨.t 61, none, (.ext 1), [.t 56]⟩, ⟨.t 15, none, .mv, [.t 60]⟩, ⟨.l 16, none, .mv, [.t 61]⟩])
 (.seq (.seq (.reg [⟨.t 62, none, .mv, [.l 11]⟩, ⟨.t 63, none, (.bin .neq), [.t 62, .c (.i .i64 0)]⟩, ⟨.t 64, none, .mv, [.t 63]⟩, ⟨.t 65, (some (.t 64, false)), .mv, [.l 14]⟩, ⟨.t 66, (some (.t 64, false)), (.un .not), [.t 65]⟩, ⟨.t 67, none, .pick, [.t 64, .c (.b true), .t 66]⟩, ⟨.t 68, none, .mv, [.t 67]⟩, ⟨.t 69, (some (.t 68, false)), .mv, [.l 13]⟩, ⟨.t 70, (some (.t 68, false)), .mv, [.l 12]⟩, ⟨.t 71, (some (.t 68, false)), (.bin .neq), [.t 69, .t 70]⟩, ⟨.t 72, none, .pick, [.t 68, .c (.b true), .t 71]⟩, ⟨.t 73, none, .mv, [.t 72]⟩, ⟨.t 74, (some (.t 73, false)), .mv, [.l 16]⟩, ⟨.t 75, (some (.t 73, false)), (.bin .neq), [.t 74, .c (.i .i64 7)]⟩, ⟨.t 76, none, .pick, [.t 73, .c (.b true), .t 75]⟩, ⟨.t 77, none, .mv, [.t 76]⟩, ⟨.t 78, (some (.t 77, false)), .mv, [.l 9]⟩, ⟨.t 79, (some (.t 77, false)), .mv, [.l 10]⟩, ⟨.t 80, (some (.t 77, false)), (.call 19), [.t 78, .t 79]⟩, ⟨.t 81, (some (.t 77, false)), (.eq true .ptr), [.t 80, .c (.p none)]⟩, ⟨.t 82, none, .pick, [.t 77, .c (.b true), .t 81]⟩, ⟨.t 83, none, .mv, [.t 82]⟩, ⟨.t 84, (some (.t 83, false)), .mv, [.l 9]⟩, ⟨.t 85, (some (.t 83, false)), .mv, [.l 10]⟩, ⟨.t 86, (some (.t 83, false)), (.call 20), [.t 84, .t 85]⟩, ⟨.t 87, (some (.t 83, false)), (.bin .neq), [.t 86, .c (.i .i64 4)]⟩, ⟨.t 88, none, .pick, [.t 83, .c (.b true), .t 87]⟩, ⟨.t 89, none, .mv, [.t 88]⟩, ⟨.t 90, (some (.t 89, false)), .mv, [.l 9]⟩, ⟨.t 91, (some (.t 89, false)), .mv, [.l 10]⟩, ⟨.t 92, (some (.t 89, false)), (.call 21), [.t 90, .t 91]⟩, ⟨.t 93, (some (.t 89, false)), (.bin .neq), [.t 92, .c (.i .i64 1)]⟩, ⟨.t 94, none, .pick, [.t 89, .c (.b true), .t 93]⟩])
 (.cond (.t 94) (.seq (.reg [⟨.l 8, none, .mv, [.c (.b false)]⟩])
 .ret) .skip))
 (.seq (.seq (.reg [⟨.t 95, none, .mv, [.l 3]⟩])
 (.cond (.t 95) (.seq (.reg [⟨.t 97, none, .mv, [.l 9]⟩, ⟨.t 98, none, .mv, [.l 10]⟩, ⟨.t 99, none, (.call 22), [.t 97, .t 98]⟩, ⟨.t 96, none, .mv, [.t 99]⟩, ⟨.t 100, none, (.ext 0), [.t 96]⟩, ⟨.t 101, none, (.ext 1), [.t 96]⟩, ⟨.l 17, none, .mv, [.t 100]⟩, ⟨.l 18, none, .mv, [.t 101]⟩])
 (.seq (.reg [⟨.t 103, none, .mv, [.l 9]⟩, ⟨.t 104, none, .mv, [.l 10]⟩, ⟨.t 105, none, (.call 22), [.t 103, .t 104]⟩, ⟨.t 102, none, .mv, [.t 105]⟩, ⟨.t 106, none, (.ext 0), [.t 102]⟩, ⟨.t 107, none, (.ext 1), [.t 102]⟩, ⟨.l 19, none, .mv, [.t 106]⟩, ⟨.l 20, none, .mv, [.t 107]⟩])
 (.seq (.reg [⟨.t 109, none, .mv, [.l 9]⟩, ⟨.t 110, none, (.call 14), [.t 109, .c (.i .i64 4611686018427387904)]⟩, ⟨.t 108, none, .mv, [.t 110]⟩, ⟨.t 111, none, (.ext 0), [.t 108]⟩, ⟨.t 112, none, (.ext 1), [.t 108]⟩, ⟨.t 21, none, (.alloc [(.i .i64 0), (.i .i64 0), (.i .i64 0), (.i .i64 0), (.i .i64 0), (.sl none 0 0 0), (.b false)]), []⟩, ⟨.no, none, (.st 7), [.t 21, .t 111]⟩, ⟨.l 22, none, .mv, [.t 112]⟩])
 (.seq (.reg [⟨.t 113, none, .mv, [.l 17]⟩, ⟨.t 114, none, .mv, [.t 113]⟩, ⟨.t 115, (some (.t 114, true)), .mv, [.l 18]⟩, ⟨.t 116, (some (.t 114, true)), (.bin .eql), [.t 115, .c (.i .i64 0)]⟩, ⟨.t 117, none, .pick, [.t 114, .t 116, .c (.b false)]⟩, ⟨.t 118, none, .mv, [.t 117]⟩, ⟨.t 119, (some (.t 118, true)), .mv, [.l 19]⟩, ⟨.t 120, (some (.t 118, true)), (.un .not), [.t 119]⟩, ⟨.t 121, none, .pick, [.t 118, .t 120, .c (.b false)]⟩, ⟨.t 122, none, .mv, [.t 121]⟩, ⟨.t 123, (some (.t 122, true)), .mv, [.l 20]⟩, ⟨.t 124, (some (.t 122, true)), (.bin .eql), [.t 123, .c (.i .i64 0)]⟩, ⟨.t 125, none, .pick, [.t 122, .t 124, .c (.b false)]⟩, ⟨.t 126, none, .mv, [.t 125]⟩, ⟨.t 127, (some (.t 126, true)), .mv, [.l 22]⟩, ⟨.t 128, (some (.t 126, true)), (.un .not), [.t 127]⟩, ⟨.t 129, none, .pick, [.t 126, .t 128, .c (.b false)]⟩, ⟨.t 130, none, .mv, [.t 129]⟩, ⟨.t 131, (some (.t 130, true)), (.call 10), []⟩, ⟨.t 132, none, .pick, [.t 130, .t 131, .c (.b false)]⟩, ⟨.l 8, none, .mv, [.t 132]⟩])
 .ret)))) .skip))
 (.seq (.reg [⟨.t 134, none, .mv, [.l 9]⟩, ⟨.t 135, none, .mv, [.l 2]⟩, ⟨.t 136, none, (.call 14), [.t 134, .t 135]⟩, ⟨.t 133, none, .mv, [.t 136]⟩, ⟨.t 137, none, (.ext 0), [.t 133]⟩, ⟨.t 138, none, (.ext 1), [.t 133]⟩, ⟨.l 23, none, (.alloc [(.i .i64 0), (.i .i64 0), (.i .i64 0), (.i .i64 0), (.i .i64 0), (.sl none 0 0 0), (.b false)]), []⟩, ⟨.no, none, (.st 7), [.l 23, .t 137]⟩, ⟨.l 24, none, .mv, [.t 138]⟩])
 (.seq (.seq (.reg [⟨.t 139, none, .mv, [.l 24]⟩, ⟨.t 140, none, .mv, [.l 12]⟩, ⟨.t 141, none, .mv, [.l 2]⟩, ⟨.t 142, none, (.bin .leq), [.t 140, .t 141]⟩, ⟨.t 143, none, (.eq true .bool), [.t 139, .t 142]⟩, ⟨.t 144, none, .mv, [.t 143]⟩, ⟨.t 145, (some (.t 144, false)), .mv, [.l 24]⟩, ⟨.t 146, (some (.t 144, false)), .mv, [.t 145]⟩, ⟨.t 147, (some (.t 146, true)), (.fad 0), [.l 23]⟩, ⟨.t 148, (some (.t 146, true)), (.ld none), [.t 147]⟩, ⟨.t 149, (some (.t 146, true)), .mv, [.l 10]⟩, ⟨.t 150, (some (.t 146, true)), (.bin .neq), [.t 148, .t 149]⟩, ⟨.t 151, (some (.t 146, true)), .mv, [.t 150]⟩, ⟨.t 152, (some (.t 151, false)), (.fad 4), [.l 23]⟩, ⟨.t 153, (some (.t 151, false)), (.ld none), [.t 152]⟩, ⟨.t 154, (some (.t 151, false)), .mv, [.l 1]⟩, ⟨.t 155, (some (.t 151, false)), (.bin .neq), [.t 153, .t 154]⟩, ⟨.t 156, (some (.t 146, true)), .pick, [.t 151, .c (.b true), .t 155]⟩, ⟨.t 157, (some (.t 146, true)), .mv, [.t 156]⟩, ⟨.t 158, (some (.t 157, false)), (.fad 2), [.l 23]⟩, ⟨.t 159, (some (.t 157, false)), (.ld none), [.t 158]⟩, ⟨.t 160, (some (.t 157, false)), .mv, [.l 12]⟩, ⟨.t 161, (some (.t 157, false)), (.bin .neq), [.t 159, .t 160]⟩, ⟨.t 162, (some (.t 146, true)), .pick, [.t 157, .c (.b true), .t 161]⟩, ⟨.t 163, (some (.t 146, true)), .mv, [.t 162]⟩, ⟨.t 164, (some (.t 163, false)), (.fad 3), [.l 23]⟩, ⟨.t 165, (some (.t 163, false)), (.ld none), [.t 164]⟩, ⟨.t 166, (some (.t 163, false)), .mv, [.l 2]⟩, ⟨.t 167, (some (.t 163, false)), (.bin .neq), [.t 165, .t 166]⟩, ⟨.t 168, (some (.t 146, true)), .pick, [.t 163, .c (.b true), .t 167]⟩, ⟨.t 169, (some (.t 146, true)), .mv, [.t 168]⟩, ⟨.t 170, (some (.t 169, false)), (.fad 1), [.l 23]⟩, ⟨.t 171, (some (.t 169, false)), (.ld none), [.t 170]⟩, ⟨.t 172, (some (.t 169, false)), (.bin .neq), [.t 171, .c (.i .i64 4)]⟩, ⟨.t 173, (some (.t 146, true)), .pick, [.t 169, .c (.b true), .t 172]⟩, ⟨.t 174, (some (.t 146, true)), .mv, [.t 173]⟩, ⟨.t 175, (some (.t 174, false)), (.fad 6), [.l 23]⟩, ⟨.t 176, (some (.t 174, false)), (.ld none), [.t 175]⟩, ⟨.t 177, (some (.t 146, true)), .pick, [.t 174, .c (.b true), .t 176]⟩, ⟨.t 178, (some (.t 146, true)), .mv, [.t 177]⟩, ⟨.t 179, (some (.t 178, false)), (.fad 5), [.l 23]⟩, ⟨.t 180, (some (.t 178, false)), (.ld none), [.t 179]⟩, ⟨.t 181, (some (.t 178, false)), .lenSl, [.t 180]⟩, ⟨.t 182, (some (.t 178, false)), (.bin .neq), [.t 181, .c (.i .i64 0)]⟩, ⟨.t 183, (some (.t 146, true)), .pick, [.t 178, .c (.b true), .t 182]⟩, ⟨.t 184, (some (.t 144, false)), .pick, [.t 146, .t 183, .c (.b false)]⟩, ⟨.t 185, none, .pick, [.t 144, .c (.b true), .t 184]⟩])
 (.cond (.t 185) (.seq (.reg [⟨.l 8, none, .mv, [.c (.b false)]⟩])
 .ret) .skip))
 (.seq (.reg [⟨.t 187, none, .mv, [.l 9]⟩, ⟨.t 188, none, .mv, [.l 2]⟩, ⟨.t 189, none, (.call 14), [.t 187, .t 188]⟩, ⟨.t 186, none, .mv, [.t 189]⟩, ⟨.t 190, none, (.ext 0), [.t 186]⟩, ⟨.t 191, none, (.ext 1), [.t 186]⟩, ⟨.t 25, none, (.alloc [(.i .i64 0), (.i .i64 0), (.i .i64 0), (.i .i64 0), (.i .i64 0), (.sl none 0 0 0), (.b false)]), []⟩, ⟨.no, none, (.st 7), [.t 25, .t 190]⟩, ⟨.l 26, none, .mv, [.t 191]⟩])
 (.seq (.reg [⟨.t 192, none, .mv, [.l 26]⟩, ⟨.t 193, none, (.un .not), [.t 192]⟩, ⟨.t 194, none, .mv, [.t 193]⟩, ⟨.t 195, (some (.t 194, true)), (.call 10), []⟩, ⟨.t 196, none, .pick, [.t 194, .t 195, .c (.b false)]⟩, ⟨.l 8, none, .mv, [.t 196]⟩])
 .ret)))))))))))))), [.tmp (.l 8)]⟩
/-- tarpaulin/tarpaulinlaw13.TimerAnew -/
def b5 : Nat := 2199031087047
def a5 : AFn := ⟨(.seq (.reg [⟨.l 6, none, .mv, [.c (.b false)]⟩])
 (.seq (.seq (.reg [⟨.t 23, none, .mv, [.l 1]⟩, ⟨.t 24, none, (.bin .lss), [.t 23, .c (.i .i64 1)]⟩, ⟨.t 25, none, .mv, [.t 24]⟩, ⟨.t 26, (some (.t 25, false)), .mv, [.l 1]⟩, ⟨.t 27, (some (.t 25, false)), (.bin .gtr), [.t 26, .c (.i .i64 1000)]⟩, ⟨.t 28, none, .pick, [.t 25, .c (.b true), .t 27]⟩, ⟨.t 29, none, .mv, [.t 28]⟩, ⟨.t 30, (some (.t 29, false)), .mv, [.l 2]⟩, ⟨.t 31, (some (.t 29, false)), .lenSl, [.t 30]⟩, ⟨.t 32, (some (.t 29, false)), (.bin .gtr), [.t 31, .c (.i .i64 30)]⟩, ⟨.t 33, none, .pick, [.t 29, .c (.b true), .t 32]⟩])
 (.cond (.t 33) (.seq (.reg [⟨.t 34, none, (.call 10), []⟩, ⟨.l 6, none, .mv, [.t 34]⟩])
 .ret) .skip))
 (.seq (.reg [⟨.t 35, none, (.call 11), []⟩, ⟨.l 7, none, .mv, [.t 35]⟩])
 (.seq (.seq (.reg [⟨.t 36, none, .mv, [.l 7]⟩, ⟨.t 37, none, (.eq false .ptr), [.t 36, .c (.p none)]⟩])
 (.cond (.t 37) (.seq (.reg [⟨.l 6, none, .mv, [.c (.b false)]⟩])
 .ret) .skip))
 (.seq (.reg [⟨.l 8, none, .mv, [.c (.i .i64 0)]⟩, ⟨.l 9, none, .mv, [.c (.i .i64 0)]⟩])
 (.seq (.reg [⟨.t 38, none, .mv, [.l 0]⟩, ⟨.t 39, none, (.call 12), [.t 38, .c (.i .i64 3)]⟩, ⟨.t 40, none, (.bin .add), [.c (.i .i64 1), .t 39]⟩, ⟨.l 10, none, .mv, [.t 40]⟩])
 (.seq (.seq (.reg [⟨.l 41, none, .mv, [.l 10]⟩])
 (.block 0 (.seq (.reg [⟨.t 49, none, (.bin .eql), [.l 41, .c (.i .i64 1)]⟩, ⟨.t 48, none, .mv, [.t 49]⟩])
 (.cond (.t 48) (.reg [⟨.t 51, none, .mv, [.l 7]⟩, ⟨.t 52, none, .mv, [.l 1]⟩, ⟨.t 53, none, (.call 15), [.t 51, .c (.i .i64 0), .t 52]⟩, ⟨.t 50, none, .mv, [.t 53]⟩, ⟨.t 54, none, (.ext 0), [.t 50]⟩, ⟨.t 55, none, (.ext 1), [.t 50]⟩, ⟨.t 56, none, (.ext 2), [.t 50]⟩, ⟨.l 8, none, .mv, [.t 54]⟩, ⟨.l 9, none, .mv, [.t 56]⟩]) (.seq (.reg [⟨.t 58, none, (.bin .eql), [.l 41, .c (.i .i64 2)]⟩, ⟨.t 57, none, .mv, [.t 58]⟩])
 (.cond (.t 57) (.reg [⟨.t 60, none, .mv, [.l 7]⟩, ⟨.t 61, none, .mv, [.l 1]⟩, ⟨.t 62, none, (.call 23), [.t 60, .c (.i .i64 0), .t 61]⟩, ⟨.t 59, none, .mv, [.t 62]⟩, ⟨.t 63, none, (.ext 0), [.t 59]⟩, ⟨.t 64, none, (.ext 1), [.t 59]⟩, ⟨.t 65, none, (.ext 2), [.t 59]⟩, ⟨.l 8, none, .mv, [.t 63]⟩, ⟨.l 9, none, .mv, [.t 65]⟩]) (.reg [⟨.t 43, none, .mv, [.l 7]⟩, ⟨.t 44, none, .mv, [.l 1]⟩, ⟨.t 45, none, (.call 13), [.t 43, .c (.i .i64 0), .t 44, .c (.i .i64 7)]⟩, ⟨.t 42, none, .mv, [.t 45]⟩, ⟨.t 46, none, (.ext 0), [.t 42]⟩, ⟨.t 47, none, (.ext 1), [.t 42]⟩, ⟨.l 8, none, .mv, [.t 46]⟩, ⟨.l 9, none, .mv, [.t 47]⟩])))))))
 (.seq (.seq (.reg [⟨.t 66, none, .mv, [.l 9]⟩, ⟨.t 67, none, (.bin .neq), [.t 66, .c (.i .i64 0)]⟩, ⟨.t 68, none, .mv, [.t 67]⟩, ⟨.t 69, (some (.t 68, false)), .mv, [.l 7]⟩, ⟨.t 70, (some (.t 68, false)), .mv, [.l 8]⟩, ⟨.t 71, (some (.t 68, false)), (.call 20), [.t 69, .t 70]⟩, ⟨.t 72, (some (.t 68, false)), .mv, [.l 10]⟩, ⟨.t 73, (some (.t 68, false)), (.bin .neq), [.t 71, .t 72]⟩, ⟨.t 74, none, .pick, [.t 68, .c (.b true), .t 73]⟩, ⟨.t 75, none, .mv, [.t 74]⟩, ⟨.t 76, (some (.t 75, false)), .mv, [.l 7]⟩, ⟨.t 77, (some (.t 75, false)), .mv, [.l 8]⟩, ⟨.t 78, (some (.t 75, false)), (.call 19), [.t 76, .t 77]⟩, ⟨.t 79, (some (.t 75, false)), (.eq false .ptr), [.t 78, .c (.p none)]⟩, ⟨.t 80, (some (.t 75, false)), .mv, [.l 10]⟩, ⟨.t 81, (some (.t 75, false)), (.bin .eql), [.t 80, .c (.i .i64 3)]⟩, ⟨.t 82, (some (.t 75, false)), (.eq true .bool), [.t 79, .t 81]⟩, ⟨.t 83, none, .pick, [.t 75, .c (.b true), .t 82]⟩])
 (.cond (.t 83) (.seq (.reg [⟨.l 6, none, .mv, [.c (.b false)]⟩])
 .ret) .skip))
 (.seq (.reg [⟨.t 84, none, .mv, [.l 1]⟩, ⟨.l 11, none, .mv, [.c (.i .i64 0)]⟩, ⟨.l 12, none, .mv, [.t 84]⟩])
 (.seq (.seq (.reg [⟨.l 13, none, .mv, [.c (.i .i64 0)]⟩])
 (.block 1 (.loop (.seq (.seq (.reg [⟨.t 85, none, .mv, [.l 13]⟩, ⟨.t 86, none, .mv, [.l 2]⟩, ⟨.t 87, none, .lenSl, [.t 86]⟩, ⟨.t 88, none, (.bin .lss), [.t 85, .t 87]⟩])
 (.cond (.t 88) .skip (.exit 1)))
 (.seq (.block 2 (.seq (.reg [⟨.t 91, none, .mv, [.l 2]⟩, ⟨.t 92, none, .mv, [.l 13]⟩, ⟨.t 93, none, (.iad 1), [.t 91, .t 92]⟩, ⟨.t 94, none, (.ld none), [.t 93]⟩, ⟨.t 95, none, (.call 12), [.t 94, .c (.i .i64 500)]⟩, ⟨.t 96, none, (.bin .add), [.c (.i .i64 1), .t 95]⟩, ⟨.l 14, none, .mv, [.t 96]⟩])
 (.seq (.reg [⟨.t 98, none, .mv, [.l 7]⟩, ⟨.t 99, none, .mv, [.l 8]⟩, ⟨.t 100, none, .mv, [.l 11]⟩, ⟨.t 101, none, .mv, [.l 14]⟩, ⟨.t 102, none, (.call 18), [.t 98, .t 99, .t 100, .t 101]⟩, ⟨.t 97, none, .mv, [.t 102]⟩, ⟨.t 103, none, (.ext 0), [.t 97]⟩, ⟨.t 104, none, (.ext 1), [.t 97]⟩, ⟨.t 15, none, .mv, [.t 103]⟩, ⟨.l 16, none, .mv, [.t 104]⟩])
 (.seq (.reg [⟨.t 105, none, .mv, [.l 11]⟩, ⟨.t 106, none, .mv, [.l 14]⟩, ⟨.t 107, none, (.bin .add), [.t 105, .t 106]⟩, ⟨.l 12, none, .mv, [.t 107]⟩])
 (.seq (.reg [⟨.t 109, none, .mv, [.l 7]⟩, ⟨.t 110, none, (.call 17), [.t 109]⟩, ⟨.t 108, none, .mv, [.t 110]⟩, ⟨.t 111, none, (.ext 0), [.t 108]⟩, ⟨.t 112, none, (.ext 1), [.t 108]⟩, ⟨.l 17, none, .mv, [.t 111]⟩, ⟨.l 18, none, .mv, [.t 112]⟩])
 (.seq (.seq (.reg [⟨.t 113, none, .mv, [.l 16]⟩, ⟨.t 114, none, (.bin .neq), [.t 113, .c (.i .i64 0)]⟩, ⟨.t 115, none, .mv, [.t 114]⟩, ⟨.t 116, (some (.t 115, false)), .mv, [.l 18]⟩, ⟨.t 117, (some (.t 115, false)), (.un .not), [.t 116]⟩, ⟨.t 118, none, .pick, [.t 115, .c (.b true), .t 117]⟩, ⟨.t 119, none, .mv, [.t 118]⟩, ⟨.t 120, (some (.t 119, false)), .mv, [.l 17]⟩, ⟨.t 121, (some (.t 119, false)), .mv, [.l 12]⟩, ⟨.t 122, (some (.t 119, false)), (.bin .neq), [.t 120, .t 121]⟩, ⟨.t 123, none, .pick, [.t 119, .c (.b true), .t 122]⟩, ⟨.t 124, none, .mv, [.t 123]⟩, ⟨.t 125, (some (.t 124, false)), .mv, [.l 7]⟩, ⟨.t 126, (some (.t 124, false)), .mv, [.l 8]⟩, ⟨.t 127, (some (.t 124, false)), (.call 21), [.t 125, .t 126]⟩, ⟨.t 128, (some (.t 124, false)), .mv, [.l 13]⟩, ⟨.t 129, (some (.t 124, false)), (.bin .add), [.t 128, .c (.i .i64 2)]⟩, ⟨.t 130, (some (.t 124, false)), (.bin .neq), [.t 127, .t 129]⟩, ⟨.t 131, none, .pick, [.t 124, .c (.b true), .t 130]⟩])
 (.cond (.t 131) (.seq (.reg [⟨.l 6, none, .mv, [.c (.b false)]⟩])
 .ret) .skip))
 (.seq (.reg [⟨.t 132, none, .mv, [.l 11]⟩, ⟨.t 133, none, .mv, [.l 14]⟩, ⟨.t 134, none, (.bin .quo), [.t 133, .c (.i .i64 2)]⟩, ⟨.t 135, none, (.bin .add), [.t 132, .t 134]⟩, ⟨.l 11, none, .mv, [.t 135]⟩])
 (.seq (.reg [⟨.t 137, none, .mv, [.l 7]⟩, ⟨.t 138, none, .mv, [.l 11]⟩, ⟨.t 139, none, (.call 14), [.t 137, .t 138]⟩, ⟨.t 136, none, .mv, [.t 139]⟩, ⟨.t 140, none, (.ext 0), [.t 136]⟩, ⟨.t 141, none, (.ext 1), [.t 136]⟩, ⟨.t 19, none, (.alloc [(.i .i64 0), (.i .i64 0), (.i .i64 0), (.i .i64 0), (.i .i64 0), (.sl none 0 0 0), (.b false)]), []⟩, ⟨.no, none, (.st 7), [.t 19, .t 140]⟩, ⟨.l 20, none, .mv, [.t 141]⟩])
 (.seq (.reg [⟨.t 142, none, .mv, [.l 20]⟩, ⟨.t 143, none, .mv, [.l 12]⟩, ⟨.t 144, none, .mv, [.l 11]⟩, ⟨.t 145, none, (.bin .leq), [.t 143, .t 144]⟩, ⟨.t 146, none, (.eq true .bool), [.t 142, .t 145]⟩])
 (.cond (.t 146) (.seq (.reg [⟨.l 6, none, .mv, [.c (.b false)]⟩])
 .ret) .skip))))))))))
 (.reg [⟨.t 89, none, .mv, [.l 13]⟩, ⟨.t 90, none, (.bin .add), [.t 89, .c (.i .i64 1)]⟩, ⟨.l 13, none, .mv, [.t 90]⟩]))))))
 (.seq (.seq (.reg [⟨.t 147, none, .mv, [.l 2]⟩, ⟨.t 148, none, .lenSl, [.t 147]⟩, ⟨.t 149, none, (.bin .eql), [.t 148, .c (.i .i64 0)]⟩])
 (.cond (.t 149) (.seq (.reg [⟨.t 151, none, .mv, [.l 7]⟩, ⟨.t 152, none, (.call 17), [.t 151]⟩, ⟨.t 150, none, .mv, [.t 152]⟩, ⟨.t 153, none, (.ext 0), [.t 150]⟩, ⟨.t 154, none, (.ext 1), [.t 150]⟩, ⟨.l 21, none, .mv, [.t 153]⟩, ⟨.l 22, none, .mv, [.t 154]⟩])
 (.seq (.reg [⟨.t 155, none, .mv, [.l 22]⟩, ⟨.t 156, none, .mv, [.t 155]⟩, ⟨.t 157, (some (.t 156, true)), .mv, [.l 21]⟩, ⟨.t 158, (some (.t 156, true)), .mv, [.l 1]⟩, ⟨.t 159, (some (.t 156, true)), (.bin .eql), [.t 157, .t 158]⟩, ⟨.t 160, none, .pick, [.t 156, .t 159, .c (.b false)]⟩, ⟨.t 161, none, .mv, [.t 160]⟩, ⟨.t 162, (some (.t 161, true)), .mv, [.l 7]⟩, ⟨.t 163, (some (.t 161, true)), .mv, [.l 8]⟩, ⟨.t 164, (some (.t 161, true)), (.call 21), [.t 162, .t 163]⟩, ⟨.t 165, (some (.t 161, true)), (.bin .eql), [.t 164, .c (.i .i64 1)]⟩, ⟨.t 166, none, .pick, [.t 161, .t 165, .c (.b false)]⟩, ⟨.t 167, none, .mv, [.t 166]⟩, ⟨.t 168, (some (.t 167, true)), (.call 10), []⟩, ⟨.t 169, none, .pick, [.t 167, .t 168, .c (.b false)]⟩, ⟨.l 6, none, .mv, [.t 169]⟩])
 .ret)) .skip))
 (.seq (.reg [⟨.t 170, none, .mv, [.l 7]⟩, ⟨.t 171, none, (.call 24), [.t 170]⟩, ⟨.t 172, none, (.bin .eql), [.t 171, .c (.i .i64 1)]⟩, ⟨.t 173, none, .mv, [.t 172]⟩, ⟨.t 174, (some (.t 173, true)), (.call 10), []⟩, ⟨.t 175, none, .pick, [.t 173, .t 174, .c (.b false)]⟩, ⟨.l 6, none, .mv, [.t 175]⟩])
 .ret)))))))))))), [.tmp (.l 6)]⟩
/-- tarpaulin/tarpaulinlaw13.TimerTicks -/
def b6 : Nat := 1507251
def a6 : AFn := ⟨(.seq (.reg [⟨.l 4, none, .mv, [.c (.b false)]⟩])
 (.seq (.seq (.reg [⟨.t 21, none, .mv, [.l 0]⟩, ⟨.t 22, none, (.bin .lss), [.t 21, .c (.i .i64 1)]⟩, ⟨.t 23, none, .mv, [.t 22]⟩, ⟨.t 24, (some (.t 23, false)), .mv, [.l 0]⟩, ⟨.t 25, (some (.t 23, false)), (.bin .gtr), [.t 24, .c (.i .i64 100)]⟩, ⟨.t 26, none, .pick, [.t 23, .c (.b true), .t 25]⟩, ⟨.t 27, none, .mv, [.t 26]⟩, ⟨.t 28, (some (.t 27, false)), .mv, [.l 1]⟩, ⟨.t 29, (some (.t 27, false)), .lenSl, [.t 28]⟩, ⟨.t 30, (some (.t 27, false)), (.bin .gtr), [.t 29, .c (.i .i64 50)]⟩, ⟨.t 31, none, .pick, [.t 27, .c (.b true), .t 30]⟩])
 (.cond (.t 31) (.seq (.reg [⟨.t 32, none, (.call 10), []⟩, ⟨.l 4, none, .mv, [.t 32]⟩])
 .ret) .skip))
 (.seq (.reg [⟨.t 33, none, (.call 11), []⟩, ⟨.l 5, none, .mv, [.t 33]⟩])
 (.seq (.seq (.reg [⟨.t 34, none, .mv, [.l 5]⟩, ⟨.t 35, none, (.eq false .ptr), [.t 34, .c (.p none)]⟩])
 (.cond (.t 35) (.seq (.reg [⟨.l 4, none, .mv, [.c (.b false)]⟩])
 .ret) .skip))
 (.seq (.reg [⟨.t 37, none, .mv, [.l 5]⟩, ⟨.t 38, none, .mv, [.l 0]⟩, ⟨.t 39, none, (.call 23), [.t 37, .c (.i .i64 0), .t 38]⟩, ⟨.t 36, none, .mv, [.t 39]⟩, ⟨.t 40, none, (.ext 0), [.t 36]⟩, ⟨.t 41, none, (.ext 1), [.t 36]⟩, ⟨.t 42, none, (.ext 2), [.t 36]⟩, ⟨.t 6, none, .mv, [.t 40]⟩, ⟨.l 7, none, .mv, [.t 41]⟩, ⟨.l 8, none, .mv, [.t 42]⟩])
 (.seq (.seq (.reg [⟨.t 43, none, .mv, [.l 8]⟩, ⟨.t 44, none, (.bin .neq), [.t 43, .c (.i .i64 0)]⟩, ⟨.t 45, none, .mv, [.t 44]⟩, ⟨.t 46, (some (.t 45, false)), .mv, [.l 7]⟩, ⟨.t 47, (some (.t 45, false)), (.eq false .ptr), [.t 46, .c (.p none)]⟩, ⟨.t 48, none, .pick, [.t 45, .c (.b true), .t 47]⟩])
 (.cond (.t 48) (.seq (.reg [⟨.l 4, none, .mv, [.c (.b false)]⟩])
 .ret) .skip))
 (.seq (.reg [⟨.t 49, none, .mv, [.l 0]⟩, ⟨.l 9, none, .mv, [.c (.i .i64 0)]⟩, ⟨.l 10, none, .mv, [.t 49]⟩, ⟨.l 11, none, .mv, [.c (.i .i64 (-1))]⟩])
 (.seq (.seq (.reg [⟨.l 12, none, .mv, [.c (.i .i64 0)]⟩])
 (.block 0 (.loop (.seq (.seq (.reg [⟨.t 50, none, .mv, [.l 12]⟩, ⟨.t 51, none, .mv, [.l 1]⟩, ⟨.t 52, none, .lenSl, [.t 51]⟩, ⟨.t 53, none, (.bin .lss), [.t 50, .t 52]⟩])
 (.cond (.t 53) .skip (.exit 0)))
 (.seq (.block 1 (.seq (.seq (.reg [⟨.t 56, none, .mv, [.l 1]⟩, ⟨.t 57, none, .mv, [.l 12]⟩, ⟨.t 58, none, (.iad 1), [.t 56, .t 57]⟩, ⟨.t 59, none, (.ld none), [.t 58]⟩, ⟨.t 60, none, (.bin .rem), [.t 59, .c (.i .i64 3)]⟩, ⟨.t 61, none, (.bin .eql), [.t 60, .c (.i .i64 0)]⟩])
 (.cond (.t 61) (.seq (.reg [⟨.t 63, none, .mv, [.l 7]⟩, ⟨.t 64, none, (.call 25), [.t 63]⟩, ⟨.t 62, none, .mv, [.t 64]⟩, ⟨.t 65, none, (.ext 0), [.t 62]⟩, ⟨.t 66, none, (.ext 1), [.t 62]⟩, ⟨.t 67, none, (.ext 2), [.t 62]⟩, ⟨.t 68, none, (.ext 3), [.t 62]⟩, ⟨.l 13, none, .mv, [.t 65]⟩, ⟨.l 14, none, .mv, [.t 66]⟩, ⟨.l 15, none, .mv, [.t 67]⟩, ⟨.t 16, none, .mv, [.t 68]⟩])
 (.seq (.seq (.reg [⟨.t 69, none, .mv, [.l 14]⟩, ⟨.t 70, none, .mv, [.l 11]⟩, ⟨.t 71, none, (.bin .geq), [.t 70, .c (.i .i64 0)]⟩, ⟨.t 72, none, (.eq true .bool), [.t 69, .t 71]⟩, ⟨.t 73, none, .mv, [.t 72]⟩, ⟨.t 74, (some (.t 73, false)), .mv, [.l 15]⟩, ⟨.t 75, (some (.t 73, false)), .mv, [.l 14]⟩, ⟨.t 76, (some (.t 73, false)), (.eq true .bool), [.t 74, .t 75]⟩, ⟨.t 77, none, .pick, [.t 73, .c (.b true), .t 76]⟩, ⟨.t 78, none, .mv, [.t 77]⟩, ⟨.t 79, (some (.t 78, false)), .mv, [.l 14]⟩, ⟨.t 80, (some (.t 78, false)), .mv, [.t 79]⟩, ⟨.t 81, (some (.t 80, true)), .mv, [.l 13]⟩, ⟨.t 82, (some (.t 80, true)), .mv, [.l 11]⟩, ⟨.t 83, (some (.t 80, true)), (.bin .neq), [.t 81, .t 82]⟩, ⟨.t 84, (some (.t 78, false)), .pick, [.t 80, .t 83, .c (.b false)]⟩, ⟨.t 85, none, .pick, [.t 78, .c (.b true), .t 84]⟩])
 (.cond (.t 85) (.seq (.reg [⟨.l 4, none, .mv, [.c (.b false)]⟩])
 .ret) .skip))
 (.seq (.reg [⟨.l 11, none, .mv, [.c (.i .i64 (-1))]⟩])
 (.exit 1)))) .skip))
 (.seq (.reg [⟨.t 86, none, .mv, [.l 9]⟩, ⟨.t 87, none, .mv, [.l 1]⟩, ⟨.t 88, none, .mv, [.l 12]⟩, ⟨.t 89, none, (.iad 1), [.t 87, .t 88]⟩, ⟨.t 90, none, (.ld none), [.t 89]⟩, ⟨.t 91, none, (.call 12), [.t 90, .c (.i .i64 300)]⟩, ⟨.t 92, none, (.bin .add), [.t 86, .t 91]⟩, ⟨.l 9, none, .mv, [.t 92]⟩])
 (.seq (.reg [⟨.t 94, none, .mv, [.l 5]⟩, ⟨.t 95, none, .mv, [.l 9]⟩, ⟨.t 96, none, (.call 14), [.t 94, .t 95]⟩, ⟨.t 93, none, .mv, [.t 96]⟩, ⟨.t 97, none, (.ext 0), [.t 93]⟩, ⟨.t 98, none, (.ext 1), [.t 93]⟩, ⟨.l 17, none, (.alloc [(.i .i64 0), (.i .i64 0), (.i .i64 0), (.i .i64 0), (.i .i64 0), (.sl none 0 0 0), (.b false)]), []⟩, ⟨.no, none, (.st 7), [.l 17, .t 97]⟩, ⟨.l 18, none, .mv, [.t 98]⟩])
 (.seq (.seq (.reg [⟨.t 99, none, .mv, [.l 18]⟩, ⟨.t 100, none, .mv, [.l 10]⟩, ⟨.t 101, none, .mv, [.l 9]⟩, ⟨.t 102, none, (.bin .leq), [.t 100, .t 101]⟩, ⟨.t 103, none, (.eq true .bool), [.t 99, .t 102]⟩, ⟨.t 104, none, .mv, [.t 103]⟩, ⟨.t 105, (some (.t 104, false)), .mv, [.l 18]⟩, ⟨.t 106, (some (.t 104, false)), .mv, [.t 105]⟩, ⟨.t 107, (some (.t 106, true)), (.fad 2), [.l 17]⟩, ⟨.t 108, (some (.t 106, true)), (.ld none), [.t 107]⟩, ⟨.t 109, (some (.t 106, true)), .mv, [.l 10]⟩, ⟨.t 110, (some (.t 106, true)), (.bin .neq), [.t 108, .t 109]⟩, ⟨.t 111, (some (.t 106, true)), .mv, [.t 110]⟩, ⟨.t 112, (some (.t 111, false)), (.fad 6), [.l 17]⟩, ⟨.t 113, (some (.t 111, false)), (.ld none), [.t 112]⟩, ⟨.t 114, (some (.t 111, false)), .mv, [.l 11]⟩, ⟨.t 115, (some (.t 111, false)), (.bin .lss), [.t 114, .c (.i .i64 0)]⟩, ⟨.t 116, (some (.t 111, false)), (.eq true .bool), [.t 113, .t 115]⟩, ⟨.t 117, (some (.t 106, true)), .pick, [.t 111, .c (.b true), .t 116]⟩, ⟨.t 118, (some (.t 104, false)), .pick, [.t 106, .t 117, .c (.b false)]⟩, ⟨.t 119, none, .pick, [.t 104, .c (.b true), .t 118]⟩])
 (.cond (.t 119) (.seq (.reg [⟨.l 4, none, .mv, [.c (.b false)]⟩])
 .ret) .skip))
 (.seq (.seq (.reg [⟨.t 120, none, .mv, [.l 18]⟩])
 (.cond (.t 120) (.seq (.reg [⟨.t 121, none, .mv, [.l 10]⟩, ⟨.t 122, none, .mv, [.l 0]⟩, ⟨.t 123, none, .mv, [.l 9]⟩, ⟨.t 124, none, .mv, [.l 10]⟩, ⟨.t 125, none, (.bin .sub), [.t 123, .t 124]⟩, ⟨.t 126, none, .mv, [.l 0]⟩, ⟨.t 127, none, (.bin .quo), [.t 125, .t 126]⟩, ⟨.t 128, none, (.bin .add), [.t 127, .c (.i .i64 1)]⟩, ⟨.t 129, none, (.bin .mul), [.t 122, .t 128]⟩, ⟨.t 130, none, (.bin .add), [.t 121, .t 129]⟩, ⟨.l 10, none, .mv, [.t 130]⟩])
 (.seq (.reg [⟨.t 131, none, .mv, [.l 11]⟩, ⟨.t 132, none, (.bin .lss), [.t 131, .c (.i .i64 0)]⟩])
 (.cond (.t 132) (.reg [⟨.t 133, none, .mv, [.l 9]⟩, ⟨.l 11, none, .mv, [.t 133]⟩]) .skip))) .skip))
 (.seq (.reg [⟨.t 135, none, .mv, [.l 5]⟩, ⟨.t 136, none, .mv, [.l 9]⟩, ⟨.t 137, none, (.call 14), [.t 135, .t 136]⟩, ⟨.t 134, none, .mv, [.t 137]⟩, ⟨.t 138, none, (.ext 0), [.t 134]⟩, ⟨.t 139, none, (.ext 1), [.t 134]⟩, ⟨.t 19, none, (.alloc [(.i .i64 0), (.i .i64 0), (.i .i64 0), (.i .i64 0), (.i .i64 0), (.sl none 0 0 0), (.b false)]), []⟩, ⟨.no, none, (.st 7), [.t 19, .t 138]⟩, ⟨.l 20, none, .mv, [.t 139]⟩])
 (.seq (.reg [⟨.t 140, none, .mv, [.l 20]⟩])
 (.cond (.t 140) (.seq (.reg [⟨.l 4, none, .mv, [.c (.b false)]⟩])
 .ret) .skip)))))))))
 (.reg [⟨.t 54, none, .mv, [.l 12]⟩, ⟨.t 55, none, (.bin .add), [.t 54, .c (.i .i64 1)]⟩, ⟨.l 12, none, .mv, [.t 55]⟩]))))))
 (.seq (.reg [⟨.t 141, none, (.call 10), []⟩, ⟨.l 4, none, .mv, [.t 141]⟩])
 .ret))))))))), [.tmp (.l 4)]⟩
/-- tarpaulin/tarpaulinlaw13.TimerStops -/
def b7 : Nat := 9697223
def a7 : AFn := ⟨(.seq (.reg [⟨.l 6, none, .mv, [.c (.b false)]⟩])
 (.seq (.seq (.reg [⟨.t 24, none, .mv, [.l 0]⟩, ⟨.t 25, none, (.bin .lss), [.t 24, .c (.i .i64 0)]⟩, ⟨.t 26, none, .mv, [.t 25]⟩, ⟨.t 27, (some (.t 26, false)), .mv, [.l 0]⟩, ⟨.t 28, (some (.t 26, false)), (.bin .gtr), [.t 27, .c (.i .i64 1000)]⟩, ⟨.t 29, none, .pick, [.t 26, .c (.b true), .t 28]⟩, ⟨.t 30, none, .mv, [.t 29]⟩, ⟨.t 31, (some (.t 30, false)), .mv, [.l 1]⟩, ⟨.t 32, (some (.t 30, false)), (.bin .lss), [.t 31, .c (.i .i64 0)]⟩, ⟨.t 33, none, .pick, [.t 30, .c (.b true), .t 32]⟩, ⟨.t 34, none, .mv, [.t 33]⟩, ⟨.t 35, (some (.t 34, false)), .mv, [.l 1]⟩, ⟨.t 36, (some (.t 34, false)), (.bin .gtr), [.t 35, .c (.i .i64 2000)]⟩, ⟨.t 37, none, .pick, [.t 34, .c (.b true), .t 36]⟩])
 (.cond (.t 37) (.seq (.reg [⟨.t 38, none, (.call 10), []⟩, ⟨.l 6, none, .mv, [.t 38]⟩])
 .ret) .skip))
 (.seq (.reg [⟨.t 39, none, (.call 11), []⟩, ⟨.l 7, none, .mv, [.t 39]⟩])
 (.seq (.seq (.reg [⟨.t 40, none, .mv, [.l 7]⟩, ⟨.t 41, none, (.eq false .ptr), [.t 40, .c (.p none)]⟩])
 (.cond (.t 41) (.seq (.reg [⟨.l 6, none, .mv, [.c (.b false)]⟩])
 .ret) .skip))
 (.seq (.reg [⟨.t 43, none, .mv, [.l 7]⟩, ⟨.t 44, none, .mv, [.l 0]⟩, ⟨.t 45, none, (.call 15), [.t 43, .c (.i .i64 0), .t 44]⟩, ⟨.t 42, none, .mv, [.t 45]⟩, ⟨.t 46, none, (.ext 0), [.t 42]⟩, ⟨.t 47, none, (.ext 1), [.t 42]⟩, ⟨.t 48, none, (.ext 2), [.t 42]⟩, ⟨.l 8, none, .mv, [.t 46]⟩, ⟨.l 9, none, .mv, [.t 47]⟩, ⟨.l 10, none, .mv, [.t 48]⟩])
 (.seq (.seq (.reg [⟨.t 49, none, .mv, [.l 10]⟩, ⟨.t 50, none, (.bin .neq), [.t 49, .c (.i .i64 0)]⟩, ⟨.t 51, none, .mv, [.t 50]⟩, ⟨.t 52, (some (.t 51, false)), .mv, [.l 9]⟩, ⟨.t 53, (some (.t 51, false)), (.eq false .ptr), [.t 52, .c (.p none)]⟩, ⟨.t 54, none, .pick, [.t 51, .c (.b true), .t 53]⟩])
 (.cond (.t 54) (.seq (.reg [⟨.l 6, none, .mv, [.c (.b false)]⟩])
 .ret) .skip))
 (.seq (.reg [⟨.t 56, none, .mv, [.l 7]⟩, ⟨.t 57, none, .mv, [.l 1]⟩, ⟨.t 58, none, (.call 14), [.t 56, .t 57]⟩, ⟨.t 55, none, .mv, [.t 58]⟩, ⟨.t 59, none, (.ext 0), [.t 55]⟩, ⟨.t 60, none, (.ext 1), [.t 55]⟩, ⟨.t 11, none, (.alloc [(.i .i64 0), (.i .i64 0), (.i .i64 0), (.i .i64 0), (.i .i64 0), (.sl none 0 0 0), (.b false)]), []⟩, ⟨.no, none, (.st 7), [.t 11, .t 59]⟩, ⟨.l 12, none, .mv, [.t 60]⟩])
 (.seq (.reg [⟨.l 13, none, .mv, [.c (.b false)]⟩])
 (.seq (.seq (.reg [⟨.t 61, none, .mv, [.l 2]⟩])
 (.cond (.t 61) (.reg [⟨.t 63, none, .mv, [.l 9]⟩, ⟨.t 64, none, (.call 25), [.t 63]⟩, ⟨.t 62, none, .mv, [.t 64]⟩, ⟨.t 65, none, (.ext 0), [.t 62]⟩, ⟨.t 66, none, (.ext 1), [.t 62]⟩, ⟨.t 67, none, (.ext 2), [.t 62]⟩, ⟨.t 68, none, (.ext 3), [.t 62]⟩, ⟨.l 13, none, .mv, [.t 66]⟩]) .skip))
 (.seq (.reg [⟨.t 70, none, .mv, [.l 7]⟩, ⟨.t 71, none, .mv, [.l 8]⟩, ⟨.t 72, none, (.call 22), [.t 70, .t 71]⟩, ⟨.t 69, none, .mv, [.t 72]⟩, ⟨.t 73, none, (.ext 0), [.t 69]⟩, ⟨.t 74, none, (.ext 1), [.t 69]⟩, ⟨.l 14, none, .mv, [.t 73]⟩, ⟨.l 15, none, .mv, [.t 74]⟩])
 (.seq (.reg [⟨.t 76, none, .mv, [.l 7]⟩, ⟨.t 77, none, .mv, [.l 8]⟩, ⟨.t 78, none, (.call 22), [.t 76, .t 77]⟩, ⟨.t 75, none, .mv, [.t 78]⟩, ⟨.t 79, none, (.ext 0), [.t 75]⟩, ⟨.t 80, none, (.ext 1), [.t 75]⟩, ⟨.l 16, none, .mv, [.t 79]⟩, ⟨.l 17, none, .mv, [.t 80]⟩])
 (.seq (.reg [⟨.t 82, none, .mv, [.l 9]⟩, ⟨.t 83, none, (.call 25), [.t 82]⟩, ⟨.t 81, none, .mv, [.t 83]⟩, ⟨.t 84, none, (.ext 0), [.t 81]⟩, ⟨.t 85, none, (.ext 1), [.t 81]⟩, ⟨.t 86, none, (.ext 2), [.t 81]⟩, ⟨.t 87, none, (.ext 3), [.t 81]⟩, ⟨.t 18, none, .mv, [.t 84]⟩, ⟨.t 19, none, .mv, [.t 85]⟩, ⟨.l 20, none, .mv, [.t 86]⟩, ⟨.t 21, none, .mv, [.t 87]⟩])
 (.seq (.reg [⟨.t 89, none, .mv, [.l 7]⟩, ⟨.t 90, none, (.call 14), [.t 89, .c (.i .i64 4611686018427387904)]⟩, ⟨.t 88, none, .mv, [.t 90]⟩, ⟨.t 91, none, (.ext 0), [.t 88]⟩, ⟨.t 92, none, (.ext 1), [.t 88]⟩, ⟨.t 22, none, (.alloc [(.i .i64 0), (.i .i64 0), (.i .i64 0), (.i .i64 0), (.i .i64 0), (.sl none 0 0 0), (.b false)]), []⟩, ⟨.no, none, (.st 7), [.t 22, .t 91]⟩, ⟨.l 23, none, .mv, [.t 92]⟩])
 (.seq (.reg [⟨.t 93, none, .mv, [.l 12]⟩, ⟨.t 94, none, .mv, [.l 0]⟩, ⟨.t 95, none, .mv, [.l 1]⟩, ⟨.t 96, none, (.bin .leq), [.t 94, .t 95]⟩, ⟨.t 97, none, (.eq false .bool), [.t 93, .t 96]⟩, ⟨.t 98, none, .mv, [.t 97]⟩, ⟨.t 99, (some (.t 98, true)), .mv, [.l 13]⟩, ⟨.t 100, (some (.t 98, true)), .mv, [.l 12]⟩, ⟨.t 101, (some (.t 98, true)), .mv, [.t 100]⟩, ⟨.t 102, (some (.t 101, true)), .mv, [.l 2]⟩, ⟨.t 103, (some (.t 98, true)), .pick, [.t 101, .t 102, .c (.b false)]⟩, ⟨.t 104, (some (.t 98, true)), (.eq false .bool), [.t 99, .t 103]⟩, ⟨.t 105, none, .pick, [.t 98, .t 104, .c (.b false)]⟩, ⟨.t 106, none, .mv, [.t 105]⟩, ⟨.t 107, (some (.t 106, true)), .mv, [.l 15]⟩, ⟨.t 108, (some (.t 106, true)), (.bin .eql), [.t 107, .c (.i .i64 0)]⟩, ⟨.t 109, none, .pick, [.t 106, .t 108, .c (.b false)]⟩, ⟨.t 110, none, .mv, [.t 109]⟩, ⟨.t 111, (some (.t 110, true)), .mv, [.l 17]⟩, ⟨.t 112, (some (.t 110, true)), (.bin .eql), [.t 111, .c (.i .i64 0)]⟩, ⟨.t 113, none, .pick, [.t 110, .t 112, .c (.b false)]⟩, ⟨.t 114, none, .mv, [.t 113]⟩, ⟨.t 115, (some (.t 114, true)), .mv, [.l 14]⟩, ⟨.t 116, (some (.t 114, true)), .mv, [.l 13]⟩, ⟨.t 117, (some (.t 114, true)), (.un .not), [.t 116]⟩, ⟨.t 118, (some (.t 114, true)), (.eq false .bool), [.t 115, .t 117]⟩, ⟨.t 119, none, .pick, [.t 114, .t 118, .c (.b false)]⟩, ⟨.t 120, none, .mv, [.t 119]⟩, ⟨.t 121, (some (.t 120, true)), .mv, [.l 16]⟩, ⟨.t 122, (some (.t 120, true)), (.un .not), [.t 121]⟩, ⟨.t 123, none, .pick, [.t 120, .t 122, .c (.b false)]⟩, ⟨.t 124, none, .mv, [.t 123]⟩, ⟨.t 125, (some (.t 124, true)), .mv, [.l 20]⟩, ⟨.t 126, (some (.t 124, true)), (.un .not), [.t 125]⟩, ⟨.t 127, none, .pick, [.t 124, .t 126, .c (.b false)]⟩, ⟨.t 128, none, .mv, [.t 127]⟩, ⟨.t 129, (some (.t 128, true)), .mv, [.l 23]⟩, ⟨.t 130, (some (.t 128, true)), (.un .not), [.t 129]⟩, ⟨.t 131, none, .pick, [.t 128, .t 130, .c (.b false)]⟩, ⟨.t 132, none, .mv, [.t 131]⟩, ⟨.t 133, (some (.t 132, true)), (.call 10), []⟩, ⟨.t 134, none, .pick, [.t 132, .t 133, .c (.b false)]⟩, ⟨.l 6, none, .mv, [.t 134]⟩])
 .ret)))))))))))))), [.tmp (.l 6)]⟩
/-- tarpaulin/tarpaulinlaw13.TimerStale -/
def b8 : Nat := 37778931862957256081351
def a8 : AFn := ⟨(.seq (.reg [⟨.l 6, none, .mv, [.c (.b false)]⟩])
 (.seq (.seq (.reg [⟨.t 27, none, .mv, [.l 1]⟩, ⟨.t 28, none, (.bin .lss), [.t 27, .c (.i .i64 1)]⟩, ⟨.t 29, none, .mv, [.t 28]⟩, ⟨.t 30, (some (.t 29, false)), .mv, [.l 1]⟩, ⟨.t 31, (some (.t 29, false)), (.bin .gtr), [.t 30, .c (.i .i64 1000)]⟩, ⟨.t 32, none, .pick, [.t 29, .c (.b true), .t 31]⟩, ⟨.t 33, none, .mv, [.t 32]⟩, ⟨.t 34, (some (.t 33, false)), .mv, [.l 2]⟩, ⟨.t 35, (some (.t 33, false)), .lenSl, [.t 34]⟩, ⟨.t 36, (some (.t 33, false)), (.bin .gtr), [.t 35, .c (.i .i64 80)]⟩, ⟨.t 37, none, .pick, [.t 33, .c (.b true), .t 36]⟩])
 (.cond (.t 37) (.seq (.reg [⟨.t 38, none, (.call 10), []⟩, ⟨.l 6, none, .mv, [.t 38]⟩])
 .ret) .skip))
 (.seq (.reg [⟨.t 39, none, (.call 11), []⟩, ⟨.l 7, none, .mv, [.t 39]⟩])
 (.seq (.seq (.reg [⟨.t 40, none, .mv, [.l 7]⟩, ⟨.t 41, none, (.eq false .ptr), [.t 40, .c (.p none)]⟩])
 (.cond (.t 41) (.seq (.reg [⟨.l 6, none, .mv, [.c (.b false)]⟩])
 .ret) .skip))
 (.seq (.reg [⟨.t 43, none, .mv, [.l 7]⟩, ⟨.t 44, none, .mv, [.l 1]⟩, ⟨.t 45, none, (.call 15), [.t 43, .c (.i .i64 0), .t 44]⟩, ⟨.t 42, none, .mv, [.t 45]⟩, ⟨.t 46, none, (.ext 0), [.t 42]⟩, ⟨.t 47, none, (.ext 1), [.t 42]⟩, ⟨.t 48, none, (.ext 2), [.t 42]⟩, ⟨.l 8, none, .mv, [.t 46]⟩, ⟨.l 9, none, .mv, [.t 47]⟩, ⟨.l 10, none, .mv, [.t 48]⟩])
 (.seq (.seq (.reg [⟨.t 49, none, .mv, [.l 0]⟩])
 (.cond (.t 49) (.reg [⟨.t 51, none, .mv, [.l 7]⟩, ⟨.t 52, none, .mv, [.l 1]⟩, ⟨.t 53, none, (.call 23), [.t 51, .c (.i .i64 0), .t 52]⟩, ⟨.t 50, none, .mv, [.t 53]⟩, ⟨.t 54, none, (.ext 0), [.t 50]⟩, ⟨.t 55, none, (.ext 1), [.t 50]⟩, ⟨.t 56, none, (.ext 2), [.t 50]⟩, ⟨.l 8, none, .mv, [.t 54]⟩, ⟨.l 9, none, .mv, [.t 55]⟩, ⟨.l 10, none, .mv, [.t 56]⟩]) .skip))
 (.seq (.seq (.reg [⟨.t 57, none, .mv, [.l 10]⟩, ⟨.t 58, none, (.bin .neq), [.t 57, .c (.i .i64 0)]⟩, ⟨.t 59, none, .mv, [.t 58]⟩, ⟨.t 60, (some (.t 59, false)), .mv, [.l 9]⟩, ⟨.t 61, (some (.t 59, false)), (.eq false .ptr), [.t 60, .c (.p none)]⟩, ⟨.t 62, none, .pick, [.t 59, .c (.b true), .t 61]⟩])
 (.cond (.t 62) (.seq (.reg [⟨.l 6, none, .mv, [.c (.b false)]⟩])
 .ret) .skip))
 (.seq (.reg [⟨.t 63, none, .mv, [.l 1]⟩, ⟨.l 11, none, .mv, [.c (.i .i64 0)]⟩, ⟨.l 12, none, .mv, [.c (.i .i64 0)]⟩, ⟨.l 13, none, .mv, [.t 63]⟩])
 (.seq (.seq (.reg [⟨.l 14, none, .mv, [.c (.i .i64 0)]⟩])
 (.block 0 (.loop (.seq (.seq (.reg [⟨.t 64, none, .mv, [.l 14]⟩, ⟨.t 65, none, .mv, [.l 2]⟩, ⟨.t 66, none, .lenSl, [.t 65]⟩, ⟨.t 67, none, (.bin .lss), [.t 64, .t 66]⟩])
 (.cond (.t 67) .skip (.exit 0)))
 (.seq (.block 1 (.seq (.seq (.reg [⟨.t 70, none, .mv, [.l 2]⟩, ⟨.t 71, none, .mv, [.l 14]⟩, ⟨.t 72, none, (.iad 3), [.t 70, .t 71]⟩, ⟨.t 73, none, (.fad 0), [.t 72]⟩, ⟨.t 74, none, (.ld none), [.t 73]⟩, ⟨.l 75, none, (.call 12), [.t 74, .c (.i .i64 4)]⟩])
 (.block 2 (.seq (.reg [⟨.t 77, none, (.bin .eql), [.l 75, .c (.i .i64 0)]⟩, ⟨.t 76, none, .mv, [.t 77]⟩])
 (.cond (.t 76) (.seq (.reg [⟨.t 78, none, .mv, [.l 11]⟩, ⟨.t 79, none, .mv, [.l 2]⟩, ⟨.t 80, none, .mv, [.l 14]⟩, ⟨.t 81, none, (.iad 3), [.t 79, .t 80]⟩, ⟨.t 82, none, (.fad 2), [.t 81]⟩, ⟨.t 83, none, (.ld none), [.t 82]⟩, ⟨.t 84, none, (.call 12), [.t 83, .c (.i .i64 2000)]⟩, ⟨.t 85, none, (.bin .add), [.t 78, .t 84]⟩, ⟨.l 11, none, .mv, [.t 85]⟩])
 (.seq (.reg [⟨.l 15, none, .mv, [.c (.i .i64 0)]⟩])
 (.block 3 (.loop (.seq (.seq (.reg [⟨.t 86, none, .mv, [.l 15]⟩, ⟨.t 87, none, (.bin .lss), [.t 86, .c (.i .i64 3)]⟩])
 (.cond (.t 87) .skip (.exit 3)))
 (.seq (.block 4 (.seq (.reg [⟨.t 91, none, .mv, [.l 7]⟩, ⟨.t 92, none, .mv, [.l 11]⟩, ⟨.t 93, none, (.call 14), [.t 91, .t 92]⟩, ⟨.t 90, none, .mv, [.t 93]⟩, ⟨.t 94, none, (.ext 0), [.t 90]⟩, ⟨.t 95, none, (.ext 1), [.t 90]⟩, ⟨.l 16, none, (.alloc [(.i .i64 0), (.i .i64 0), (.i .i64 0), (.i .i64 0), (.i .i64 0), (.sl none 0 0 0), (.b false)]), []⟩, ⟨.no, none, (.st 7), [.l 16, .t 94]⟩, ⟨.l 17, none, .mv, [.t 95]⟩])
 (.seq (.reg [⟨.t 96, none, .mv, [.l 17]⟩, ⟨.t 97, none, .mv, [.t 96]⟩, ⟨.t 98, (some (.t 97, true)), (.fad 2), [.l 16]⟩, ⟨.t 99, (some (.t 97, true)), (.ld none), [.t 98]⟩, ⟨.t 100, (some (.t 97, true)), .mv, [.l 11]⟩, ⟨.t 101, (some (.t 97, true)), (.bin .gtr), [.t 99, .t 100]⟩, ⟨.t 102, (some (.t 97, true)), .mv, [.t 101]⟩, ⟨.t 103, (some (.t 102, false)), (.fad 2), [.l 16]⟩, ⟨.t 104, (some (.t 102, false)), (.ld none), [.t 103]⟩, ⟨.t 105, (some (.t 102, false)), .mv, [.l 12]⟩, ⟨.t 106, (some (.t 102, false)), (.bin .lss), [.t 104, .t 105]⟩, ⟨.t 107, (some (.t 97, true)), .pick, [.t 102, .c (.b true), .t 106]⟩, ⟨.t 108, none, .pick, [.t 97, .t 107, .c (.b false)]⟩])
 (.cond (.t 108) (.seq (.reg [⟨.l 6, none, .mv, [.c (.b false)]⟩])
 .ret) .skip))))
 (.reg [⟨.t 88, none, .mv, [.l 15]⟩, ⟨.t 89, none, (.bin .add), [.t 88, .c (.i .i64 1)]⟩, ⟨.l 15, none, .mv, [.t 89]⟩]))))))) (.seq (.reg [⟨.t 110, none, (.bin .eql), [.l 75, .c (.i .i64 1)]⟩, ⟨.t 109, none, .mv, [.t 110]⟩])
 (.cond (.t 109) (.seq (.reg [⟨.t 112, none, .mv, [.l 9]⟩, ⟨.t 113, none, (.call 25), [.t 112]⟩, ⟨.t 111, none, .mv, [.t 113]⟩, ⟨.t 114, none, (.ext 0), [.t 111]⟩, ⟨.t 115, none, (.ext 1), [.t 111]⟩, ⟨.t 116, none, (.ext 2), [.t 111]⟩, ⟨.t 117, none, (.ext 3), [.t 111]⟩, ⟨.l 18, none, .mv, [.t 114]⟩, ⟨.l 19, none, .mv, [.t 115]⟩, ⟨.l 20, none, .mv, [.t 116]⟩, ⟨.t 21, none, .mv, [.t 117]⟩])
 (.seq (.seq (.reg [⟨.t 118, none, .mv, [.l 20]⟩, ⟨.t 119, none, .mv, [.l 19]⟩, ⟨.t 120, none, (.eq true .bool), [.t 118, .t 119]⟩])
 (.cond (.t 120) (.seq (.reg [⟨.l 6, none, .mv, [.c (.b false)]⟩])
 .ret) .skip))
 (.seq (.reg [⟨.t 121, none, .mv, [.l 19]⟩, ⟨.t 122, none, .mv, [.t 121]⟩, ⟨.t 123, (some (.t 122, true)), .mv, [.l 13]⟩, ⟨.t 124, (some (.t 122, true)), (.bin .lss), [.t 123, .c (.i .i64 0)]⟩, ⟨.t 125, (some (.t 122, true)), .mv, [.t 124]⟩, ⟨.t 126, (some (.t 125, false)), .mv, [.l 18]⟩, ⟨.t 127, (some (.t 125, false)), .mv, [.l 13]⟩, ⟨.t 128, (some (.t 125, false)), (.bin .lss), [.t 126, .t 127]⟩, ⟨.t 129, (some (.t 122, true)), .pick, [.t 125, .c (.b true), .t 128]⟩, ⟨.t 130, (some (.t 122, true)), .mv, [.t 129]⟩, ⟨.t 131, (some (.t 130, false)), .mv, [.l 18]⟩, ⟨.t 132, (some (.t 130, false)), .mv, [.l 11]⟩, ⟨.t 133, (some (.t 130, false)), (.bin .gtr), [.t 131, .t 132]⟩, ⟨.t 134, (some (.t 122, true)), .pick, [.t 130, .c (.b true), .t 133]⟩, ⟨.t 135, none, .pick, [.t 122, .t 134, .c (.b false)]⟩])
 (.cond (.t 135) (.seq (.reg [⟨.l 6, none, .mv, [.c (.b false)]⟩])
 .ret) .skip)))) (.seq (.reg [⟨.t 137, none, (.bin .eql), [.l 75, .c (.i .i64 2)]⟩, ⟨.t 136, none, .mv, [.t 137]⟩])
 (.cond (.t 136) (.seq (.reg [⟨.t 139, none, .mv, [.l 7]⟩, ⟨.t 140, none, .mv, [.l 8]⟩, ⟨.t 141, none, (.call 22), [.t 139, .t 140]⟩, ⟨.t 138, none, .mv, [.t 141]⟩, ⟨.t 142, none, (.ext 0), [.t 138]⟩, ⟨.t 143, none, (.ext 1), [.t 138]⟩, ⟨.t 22, none, .mv, [.t 142]⟩, ⟨.l 23, none, .mv, [.t 143]⟩])
 (.seq (.seq (.reg [⟨.t 144, none, .mv, [.l 23]⟩, ⟨.t 145, none, (.bin .neq), [.t 144, .c (.i .i64 0)]⟩, ⟨.t 146, none, .mv, [.t 145]⟩, ⟨.t 147, (some (.t 146, false)), .mv, [.l 9]⟩, ⟨.t 148, (some (.t 146, false)), (.call 26), [.t 147, .c (.b false)]⟩, ⟨.t 149, none, .pick, [.t 146, .c (.b true), .t 148]⟩])
 (.cond (.t 149) (.seq (.reg [⟨.l 6, none, .mv, [.c (.b false)]⟩])
 .ret) .skip))
 (.reg [⟨.l 13, none, .mv, [.c (.i .i64 (-1))]⟩]))) (.seq (.reg [⟨.t 151, none, (.bin .eql), [.l 75, .c (.i .i64 3)]⟩, ⟨.t 150, none, .mv, [.t 151]⟩])
 (.cond (.t 150) (.seq (.reg [⟨.t 152, none, .mv, [.l 2]⟩, ⟨.t 153, none, .mv, [.l 14]⟩, ⟨.t 154, none, (.iad 3), [.t 152, .t 153]⟩, ⟨.t 155, none, (.fad 2), [.t 154]⟩, ⟨.t 156, none, (.ld none), [.t 155]⟩, ⟨.t 157, none, (.call 12), [.t 156, .c (.i .i64 1000)]⟩, ⟨.t 158, none, (.bin .add), [.c (.i .i64 1), .t 157]⟩, ⟨.l 24, none, .mv, [.t 158]⟩])
 (.seq (.reg [⟨.t 160, none, .mv, [.l 7]⟩, ⟨.t 161, none, .mv, [.l 8]⟩, ⟨.t 162, none, .mv, [.l 11]⟩, ⟨.t 163, none, .mv, [.l 24]⟩, ⟨.t 164, none, (.call 18), [.t 160, .t 161, .t 162, .t 163]⟩, ⟨.t 159, none, .mv, [.t 164]⟩, ⟨.t 165, none, (.ext 0), [.t 159]⟩, ⟨.t 166, none, (.ext 1), [.t 159]⟩, ⟨.t 25, none, .mv, [.t 165]⟩, ⟨.l 26, none, .mv, [.t 166]⟩])
 (.seq (.seq (.reg [⟨.t 167, none, .mv, [.l 26]⟩, ⟨.t 168, none, (.bin .neq), [.t 167, .c (.i .i64 0)]⟩, ⟨.t 169, none, .mv, [.t 168]⟩, ⟨.t 170, (some (.t 169, false)), .mv, [.l 9]⟩, ⟨.t 171, (some (.t 169, false)), (.call 26), [.t 170, .c (.b false)]⟩, ⟨.t 172, none, .pick, [.t 169, .c (.b true), .t 171]⟩])
 (.cond (.t 172) (.seq (.reg [⟨.l 6, none, .mv, [.c (.b false)]⟩])
 .ret) .skip))
 (.reg [⟨.t 173, none, .mv, [.l 11]⟩, ⟨.t 174, none, .mv, [.l 11]⟩, ⟨.t 175, none, .mv, [.l 24]⟩, ⟨.t 176, none, (.bin .add), [.t 174, .t 175]⟩, ⟨.l 12, none, .mv, [.t 173]⟩, ⟨.l 13, none, .mv, [.t 176]⟩])))) .skip))))))))))
 (.seq (.reg [⟨.t 177, none, .mv, [.l 9]⟩, ⟨.t 178, none, (.call 27), [.t 177]⟩, ⟨.t 179, none, (.bin .neq), [.t 178, .c (.i .i64 0)]⟩, ⟨.t 180, none, .mv, [.t 179]⟩, ⟨.t 181, (some (.t 180, false)), .mv, [.l 9]⟩, ⟨.t 182, (some (.t 180, false)), (.call 28), [.t 181]⟩, ⟨.t 183, (some (.t 180, false)), (.bin .neq), [.t 182, .c (.i .i64 0)]⟩, ⟨.t 184, none, .pick, [.t 180, .c (.b true), .t 183]⟩])
 (.cond (.t 184) (.seq (.reg [⟨.l 6, none, .mv, [.c (.b false)]⟩])
 .ret) .skip))))
 (.reg [⟨.t 68, none, .mv, [.l 14]⟩, ⟨.t 69, none, (.bin .add), [.t 68, .c (.i .i64 1)]⟩, ⟨.l 14, none, .mv, [.t 69]⟩]))))))
 (.seq (.reg [⟨.t 185, none, (.call 10), []⟩, ⟨.l 6, none, .mv, [.t 185]⟩])
 .ret)))))))))), [.tmp (.l 6)]⟩
/-- tarpaulin/tarpaulinlaw13.TimerWaits -/
def b9 : Nat := 65223
def a9 : AFn := ⟨(.seq (.reg [⟨.l 6, none, .mv, [.c (.b false)]⟩])
 (.seq (.seq (.reg [⟨.t 16, none, .mv, [.l 0]⟩, ⟨.t 17, none, (.bin .lss), [.t 16, .c (.i .i64 1)]⟩, ⟨.t 18, none, .mv, [.t 17]⟩, ⟨.t 19, (some (.t 18, false)), .mv, [.l 0]⟩, ⟨.t 20, (some (.t 18, false)), (.bin .gtr), [.t 19, .c (.i .i64 10)]⟩, ⟨.t 21, none, .pick, [.t 18, .c (.b true), .t 20]⟩, ⟨.t 22, none, .mv, [.t 21]⟩, ⟨.t 23, (some (.t 22, false)), .mv, [.l 1]⟩, ⟨.t 24, (some (.t 22, false)), (.bin .lss), [.t 23, .c (.i .i64 1)]⟩, ⟨.t 25, none, .pick, [.t 22, .c (.b true), .t 24]⟩, ⟨.t 26, none, .mv, [.t 25]⟩, ⟨.t 27, (some (.t 26, false)), .mv, [.l 1]⟩, ⟨.t 28, (some (.t 26, false)), (.bin .gtr), [.t 27, .c (.i .i64 100)]⟩, ⟨.t 29, none, .pick, [.t 26, .c (.b true), .t 28]⟩, ⟨.t 30, none, .mv, [.t 29]⟩, ⟨.t 31, (some (.t 30, false)), .mv, [.l 2]⟩, ⟨.t 32, (some (.t 30, false)), (.bin .lss), [.t 31, .c (.i .i64 0)]⟩, ⟨.t 33, none, .pick, [.t 30, .c (.b true), .t 32]⟩, ⟨.t 34, none, .mv, [.t 33]⟩, ⟨.t 35, (some (.t 34, false)), .mv, [.l 2]⟩, ⟨.t 36, (some (.t 34, false)), (.bin .gtr), [.t 35, .c (.i .i64 300)]⟩, ⟨.t 37, none, .pick, [.t 34, .c (.b true), .t 36]⟩])
 (.cond (.t 37) (.seq (.reg [⟨.t 38, none, (.call 10), []⟩, ⟨.l 6, none, .mv, [.t 38]⟩])
 .ret) .skip))
 (.seq (.reg [⟨.t 39, none, (.call 11), []⟩, ⟨.l 7, none, .mv, [.t 39]⟩])
 (.seq (.seq (.reg [⟨.t 40, none, .mv, [.l 7]⟩, ⟨.t 41, none, (.eq false .ptr), [.t 40, .c (.p none)]⟩])
 (.cond (.t 41) (.seq (.reg [⟨.l 6, none, .mv, [.c (.b false)]⟩])
 .ret) .skip))
 (.seq (.reg [⟨.t 43, none, .mv, [.l 7]⟩, ⟨.t 44, none, .mv, [.l 1]⟩, ⟨.t 45, none, (.call 23), [.t 43, .c (.i .i64 0), .t 44]⟩, ⟨.t 42, none, .mv, [.t 45]⟩, ⟨.t 46, none, (.ext 0), [.t 42]⟩, ⟨.t 47, none, (.ext 1), [.t 42]⟩, ⟨.t 48, none, (.ext 2), [.t 42]⟩, ⟨.t 8, none, .mv, [.t 46]⟩, ⟨.l 9, none, .mv, [.t 47]⟩, ⟨.l 10, none, .mv, [.t 48]⟩])
 (.seq (.seq (.reg [⟨.t 49, none, .mv, [.l 10]⟩, ⟨.t 50, none, (.bin .neq), [.t 49, .c (.i .i64 0)]⟩, ⟨.t 51, none, .mv, [.t 50]⟩, ⟨.t 52, (some (.t 51, false)), .mv, [.l 9]⟩, ⟨.t 53, (some (.t 51, false)), (.eq false .ptr), [.t 52, .c (.p none)]⟩, ⟨.t 54, none, .pick, [.t 51, .c (.b true), .t 53]⟩])
 (.cond (.t 54) (.seq (.reg [⟨.l 6, none, .mv, [.c (.b false)]⟩])
 .ret) .skip))
 (.seq (.seq (.reg [⟨.l 11, none, .mv, [.c (.i .i64 0)]⟩])
 (.block 0 (.loop (.seq (.seq (.reg [⟨.t 55, none, .mv, [.l 11]⟩, ⟨.t 56, none, .mv, [.l 0]⟩, ⟨.t 57, none, (.bin .lss), [.t 55, .t 56]⟩])
 (.cond (.t 57) .skip (.exit 0)))
 (.seq (.block 1 (.seq (.reg [⟨.t 60, none, .mv, [.l 9]⟩, ⟨.t 61, none, .mv, [.l 11]⟩, ⟨.t 62, none, (.build [(.i .i64 0), (.i .i64 0), (.i .i64 0)] [(0, 1), (1, 1)]), [.t 61, .c (.i .i64 3)]⟩, ⟨.t 63, none, (.call 29), [.t 60, .t 62, .c (.b false)]⟩, ⟨.t 64, none, (.bin .neq), [.t 63, .c (.i .i64 0)]⟩])
 (.cond (.t 64) (.seq (.reg [⟨.l 6, none, .mv, [.c (.b false)]⟩])
 .ret) .skip)))
 (.reg [⟨.t 58, none, .mv, [.l 11]⟩, ⟨.t 59, none, (.bin .add), [.t 58, .c (.i .i64 1)]⟩, ⟨.l 11, none, .mv, [.t 59]⟩]))))))
 (.seq (.reg [⟨.l 12, none, .mv, [.c (.i .i64 0)]⟩])
 (.seq (.seq (.reg [⟨.l 13, none, .mv, [.c (.i .i64 0)]⟩])
 (.block 2 (.loop (.seq (.seq (.reg [⟨.t 65, none, .mv, [.l 13]⟩, ⟨.t 66, none, .mv, [.l 0]⟩, ⟨.t 67, none, (.bin .lss), [.t 65, .t 66]⟩])
 (.cond (.t 67) .skip (.exit 2)))
 (.seq (.block 3 (.seq (.reg [⟨.t 70, none, .mv, [.l 12]⟩, ⟨.t 71, none, .mv, [.l 1]⟩, ⟨.t 72, none, (.bin .add), [.t 70, .t 71]⟩, ⟨.t 73, none, .mv, [.l 2]⟩, ⟨.t 74, none, (.bin .add), [.t 72, .t 73]⟩, ⟨.l 12, none, .mv, [.t 74]⟩])
 (.seq (.reg [⟨.t 76, none, .mv, [.l 7]⟩, ⟨.t 77, none, .mv, [.l 12]⟩, ⟨.t 78, none, (.call 14), [.t 76, .t 77]⟩, ⟨.t 75, none, .mv, [.t 78]⟩, ⟨.t 79, none, (.ext 0), [.t 75]⟩, ⟨.t 80, none, (.ext 1), [.t 75]⟩, ⟨.l 14, none, (.alloc [(.i .i64 0), (.i .i64 0), (.i .i64 0), (.i .i64 0), (.i .i64 0), (.sl none 0 0 0), (.b false)]), []⟩, ⟨.no, none, (.st 7), [.l 14, .t 79]⟩, ⟨.l 15, none, .mv, [.t 80]⟩])
 (.seq (.reg [⟨.t 81, none, .mv, [.l 15]⟩, ⟨.t 82, none, (.un .not), [.t 81]⟩, ⟨.t 83, none, .mv, [.t 82]⟩, ⟨.t 84, (some (.t 83, false)), (.fad 6), [.l 14]⟩, ⟨.t 85, (some (.t 83, false)), (.ld none), [.t 84]⟩, ⟨.t 86, (some (.t 83, false)), (.un .not), [.t 85]⟩, ⟨.t 87, none, .pick, [.t 83, .c (.b true), .t 86]⟩, ⟨.t 88, none, .mv, [.t 87]⟩, ⟨.t 89, (some (.t 88, false)), (.fad 5), [.l 14]⟩, ⟨.t 90, (some (.t 88, false)), (.ld none), [.t 89]⟩, ⟨.t 91, (some (.t 88, false)), .lenSl, [.t 90]⟩, ⟨.t 92, (some (.t 88, false)), (.bin .neq), [.t 91, .c (.i .i64 1)]⟩, ⟨.t 93, none, .pick, [.t 88, .c (.b true), .t 92]⟩, ⟨.t 94, none, .mv, [.t 93]⟩, ⟨.t 95, (some (.t 94, false)), (.fad 5), [.l 14]⟩, ⟨.t 96, (some (.t 94, false)), (.ld none), [.t 95]⟩, ⟨.t 97, (some (.t 94, false)), (.iad 5), [.t 96, .c (.i .i64 0)]⟩, ⟨.t 98, (some (.t 94, false)), (.ld (some 5)), [.t 97]⟩, ⟨.t 99, (some (.t 94, false)), .mv, [.l 13]⟩, ⟨.t 100, (some (.t 94, false)), .mv, [.l 12]⟩, ⟨.t 101, (some (.t 94, false)), (.build [(.i .i64 0), (.i .i64 0), (.i .i64 0), (.b false), (.b false)] [(0, 1), (1, 1), (2, 1), (3, 1)]), [.t 99, .c (.i .i64 3), .t 100, .c (.b true)]⟩, ⟨.t 102, (some (.t 94, false)), (.eq true (.agg [(0, 1), (1, 1), (2, 1), (3, 0), (4, 0)])), [.t 98, .t 101]⟩, ⟨.t 103, none, .pick, [.t 94, .c (.b true), .t 102]⟩])
 (.cond (.t 103) (.seq (.reg [⟨.l 6, none, .mv, [.c (.b false)]⟩])
 .ret) .skip)))))
 (.reg [⟨.t 68, none, .mv, [.l 13]⟩, ⟨.t 69, none, (.bin .add), [.t 68, .c (.i .i64 1)]⟩, ⟨.l 13, none, .mv, [.t 69]⟩]))))))
 (.seq (.reg [⟨.t 104, none, .mv, [.l 9]⟩, ⟨.t 105, none, (.call 26), [.t 104, .c (.b false)]⟩, ⟨.t 106, none, (.un .not), [.t 105]⟩, ⟨.t 107, none, .mv, [.t 106]⟩, ⟨.t 108, (some (.t 107, true)), .mv, [.l 9]⟩, ⟨.t 109, (some (.t 107, true)), (.call 30), [.t 108, .c (.b false)]⟩, ⟨.t 110, (some (.t 107, true)), .lenSl, [.t 109]⟩, ⟨.t 111, (some (.t 107, true)), (.bin .eql), [.t 110, .c (.i .i64 0)]⟩, ⟨.t 112, none, .pick, [.t 107, .t 111, .c (.b false)]⟩, ⟨.t 113, none, .mv, [.t 112]⟩, ⟨.t 114, (some (.t 113, true)), (.call 10), []⟩, ⟨.t 115, none, .pick, [.t 113, .t 114, .c (.b false)]⟩, ⟨.l 6, none, .mv, [.t 115]⟩])
 .ret)))))))))), [.tmp (.l 6)]⟩
/-- tarpaulin/tarpaulinlaw13.awake -/
def b10 : Nat := 654049279
def a10 : AFn := ⟨(.seq (.reg [⟨.l 0, none, .mv, [.c (.b false)]⟩])
 (.seq (.reg [⟨.t 30, none, (.call 11), []⟩, ⟨.l 1, none, .mv, [.t 30]⟩])
 (.seq (.seq (.reg [⟨.t 31, none, .mv, [.l 1]⟩, ⟨.t 32, none, (.eq false .ptr), [.t 31, .c (.p none)]⟩])
 (.cond (.t 32) (.seq (.reg [⟨.l 0, none, .mv, [.c (.b false)]⟩])
 .ret) .skip))
 (.seq (.reg [⟨.t 34, none, .mv, [.l 1]⟩, ⟨.t 35, none, (.call 15), [.t 34, .c (.i .i64 5), .c (.i .i64 3)]⟩, ⟨.t 33, none, .mv, [.t 35]⟩, ⟨.t 36, none, (.ext 0), [.t 33]⟩, ⟨.t 37, none, (.ext 1), [.t 33]⟩, ⟨.t 38, none, (.ext 2), [.t 33]⟩, ⟨.l 2, none, .mv, [.t 36]⟩, ⟨.l 3, none, .mv, [.t 37]⟩, ⟨.l 4, none, .mv, [.t 38]⟩])
 (.seq (.reg [⟨.t 40, none, .mv, [.l 1]⟩, ⟨.t 41, none, (.call 14), [.t 40, .c (.i .i64 9)]⟩, ⟨.t 39, none, .mv, [.t 41]⟩, ⟨.t 42, none, (.ext 0), [.t 39]⟩, ⟨.t 43, none, (.ext 1), [.t 39]⟩, ⟨.l 5, none, (.alloc [(.i .i64 0), (.i .i64 0), (.i .i64 0), (.i .i64 0), (.i .i64 0), (.sl none 0 0 0), (.b false)]), []⟩, ⟨.no, none, (.st 7), [.l 5, .t 42]⟩, ⟨.l 6, none, .mv, [.t 43]⟩])
 (.seq (.reg [⟨.t 45, none, .mv, [.l 1]⟩, ⟨.t 46, none, .mv, [.l 2]⟩, ⟨.t 47, none, (.call 22), [.t 45, .t 46]⟩, ⟨.t 44, none, .mv, [.t 47]⟩, ⟨.t 48, none, (.ext 0), [.t 44]⟩, ⟨.t 49, none, (.ext 1), [.t 44]⟩, ⟨.l 7, none, .mv, [.t 48]⟩, ⟨.l 8, none, .mv, [.t 49]⟩])
 (.seq (.reg [⟨.t 51, none, .mv, [.l 1]⟩, ⟨.t 52, none, (.call 23), [.t 51, .c (.i .i64 9), .c (.i .i64 0)]⟩, ⟨.t 50, none, .mv, [.t 52]⟩, ⟨.t 53, none, (.ext 0), [.t 50]⟩, ⟨.t 54, none, (.ext 1), [.t 50]⟩, ⟨.t 55, none, (.ext 2), [.t 50]⟩, ⟨.l 9, none, .mv, [.t 53]⟩, ⟨.l 10, none, .mv, [.t 54]⟩, ⟨.l 11, none, .mv, [.t 55]⟩])
 (.seq (.reg [⟨.t 57, none, .mv, [.l 1]⟩, ⟨.t 58, none, (.call 13), [.t 57, .c (.i .i64 9), .c (.i .i64 1), .c (.i .i64 2)]⟩, ⟨.t 56, none, .mv, [.t 58]⟩, ⟨.t 59, none, (.ext 0), [.t 56]⟩, ⟨.t 60, none, (.ext 1), [.t 56]⟩, ⟨.l 12, none, .mv, [.t 59]⟩, ⟨.l 13, none, .mv, [.t 60]⟩])
 (.seq (.reg [⟨.t 62, none, .mv, [.l 1]⟩, ⟨.t 63, none, .mv, [.l 12]⟩, ⟨.t 64, none, (.call 18), [.t 62, .t 63, .c (.i .i64 9), .c (.i .i64 10)]⟩, ⟨.t 61, none, .mv, [.t 64]⟩, ⟨.t 65, none, (.ext 0), [.t 61]⟩, ⟨.t 66, none, (.ext 1), [.t 61]⟩, ⟨.l 14, none, .mv, [.t 65]⟩, ⟨.l 15, none, .mv, [.t 66]⟩])
 (.seq (.reg [⟨.t 68, none, .mv, [.l 1]⟩, ⟨.t 69, none, (.call 16), [.t 68, .c (.i .i64 12), .c (.i .i64 4)]⟩, ⟨.t 67, none, .mv, [.t 69]⟩, ⟨.t 70, none, (.ext 0), [.t 67]⟩, ⟨.t 71, none, (.ext 1), [.t 67]⟩, ⟨.l 16, none, .mv, [.t 70]⟩, ⟨.l 17, none, .mv, [.t 71]⟩])
 (.seq (.reg [⟨.t 73, none, .mv, [.l 1]⟩, ⟨.t 74, none, .mv, [.l 16]⟩, ⟨.t 75, none, (.call 18), [.t 73, .t 74, .c (.i .i64 9), .c (.i .i64 1)]⟩, ⟨.t 72, none, .mv, [.t 75]⟩, ⟨.t 76, none, (.ext 0), [.t 72]⟩, ⟨.t 77, none, (.ext 1), [.t 72]⟩, ⟨.t 18, none, .mv, [.t 76]⟩, ⟨.l 19, none, .mv, [.t 77]⟩])
 (.seq (.reg [⟨.t 79, none, .mv, [.l 1]⟩, ⟨.t 80, none, (.call 14), [.t 79, .c (.i .i64 20)]⟩, ⟨.t 78, none, .mv, [.t 80]⟩, ⟨.t 81, none, (.ext 0), [.t 78]⟩, ⟨.t 82, none, (.ext 1), [.t 78]⟩, ⟨.l 20, none, (.alloc [(.i .i64 0), (.i .i64 0), (.i .i64 0), (.i .i64 0), (.i .i64 0), (.sl none 0 0 0), (.b false)]), []⟩, ⟨.no, none, (.st 7), [.l 20, .t 81]⟩, ⟨.l 21, none, .mv, [.t 82]⟩])
 (.seq (.reg [⟨.t 84, none, .mv, [.l 1]⟩, ⟨.t 85, none, (.call 14), [.t 84, .c (.i .i64 20)]⟩, ⟨.t 83, none, .mv, [.t 85]⟩, ⟨.t 86, none, (.ext 0), [.t 83]⟩, ⟨.t 87, none, (.ext 1), [.t 83]⟩, ⟨.l 22, none, (.alloc [(.i .i64 0), (.i .i64 0), (.i .i64 0), (.i .i64 0), (.i .i64 0), (.sl none 0 0 0), (.b false)]), []⟩, ⟨.no, none, (.st 7), [.l 22, .t 86]⟩, ⟨.l 23, none, .mv, [.t 87]⟩])
 (.seq (.reg [⟨.t 89, none, .mv, [.l 1]⟩, ⟨.t 90, none, (.call 22), [.t 89, .c (.i .i64 99)]⟩, ⟨.t 88, none, .mv, [.t 90]⟩, ⟨.t 91, none, (.ext 0), [.t 88]⟩, ⟨.t 92, none, (.ext 1), [.t 88]⟩, ⟨.t 24, none, .mv, [.t 91]⟩, ⟨.l 25, none, .mv, [.t 92]⟩])
 (.seq (.reg [⟨.l 26, none, .mv, [.c (.p none)]⟩])
 (.seq (.reg [⟨.t 94, none, .mv, [.l 26]⟩, ⟨.t 95, none, (.call 15), [.t 94, .c (.i .i64 1), .c (.i .i64 1)]⟩, ⟨.t 93, none, .mv, [.t 95]⟩, ⟨.t 96, none, (.ext 0), [.t 93]⟩, ⟨.t 97, none, (.ext 1), [.t 93]⟩, ⟨.t 98, none, (.ext 2), [.t 93]⟩, ⟨.t 27, none, .mv, [.t 96]⟩, ⟨.t 28, none, .mv, [.t 97]⟩, ⟨.l 29, none, .mv, [.t 98]⟩])
 (.seq (.reg [⟨.t 99, none, .mv, [.l 4]⟩, ⟨.t 100, none, (.bin .eql), [.t 99, .c (.i .i64 0)]⟩, ⟨.t 101, none, .mv, [.t 100]⟩, ⟨.t 102, (some (.t 101, true)), .mv, [.l 2]⟩, ⟨.t 103, (some (.t 101, true)), (.bin .eql), [.t 102, .c (.i .i64 0)]⟩, ⟨.t 104, none, .pick, [.t 101, .t 103, .c (.b false)]⟩, ⟨.t 105, none, .mv, [.t 104]⟩, ⟨.t 106, (some (.t 105, true)), .mv, [.l 3]⟩, ⟨.t 107, (some (.t 105, true)), (.eq true .ptr), [.t 106, .c (.p none)]⟩, ⟨.t 108, none, .pick, [.t 105, .t 107, .c (.b false)]⟩, ⟨.t 109, none, .mv, [.t 108]⟩, ⟨.t 110, (some (.t 109, true)), .mv, [.l 6]⟩, ⟨.t 111, none, .pick, [.t 109, .t 110, .c (.b false)]⟩, ⟨.t 112, none, .mv, [.t 111]⟩, ⟨.t 113, (some (.t 112, true)), (.fad 1), [.l 5]⟩, ⟨.t 114, (some (.t 112, true)), (.ld none), [.t 113]⟩, ⟨.t 115, (some (.t 112, true)), (.bin .eql), [.t 114, .c (.i .i64 1)]⟩, ⟨.t 116, none, .pick, [.t 112, .t 115, .c (.b false)]⟩, ⟨.t 117, none, .mv, [.t 116]⟩, ⟨.t 118, (some (.t 117, true)), (.fad 2), [.l 5]⟩, ⟨.t 119, (some (.t 117, true)), (.ld none), [.t 118]⟩, ⟨.t 120, (some (.t 117, true)), (.bin .eql), [.t 119, .c (.i .i64 8)]⟩, ⟨.t 121, none, .pick, [.t 117, .t 120, .c (.b false)]⟩, ⟨.t 122, none, .mv, [.t 121]⟩, ⟨.t 123, (some (.t 122, true)), (.fad 3), [.l 5]⟩, ⟨.t 124, (some (.t 122, true)), (.ld none), [.t 123]⟩, ⟨.t 125, (some (.t 122, true)), (.bin .eql), [.t 124, .c (.i .i64 9)]⟩, ⟨.t 126, none, .pick, [.t 122, .t 125, .c (.b false)]⟩, ⟨.t 127, none, .mv, [.t 126]⟩, ⟨.t 128, (some (.t 127, true)), (.fad 6), [.l 5]⟩, ⟨.t 129, (some (.t 127, true)), (.ld none), [.t 128]⟩, ⟨.t 130, none, .pick, [.t 127, .t 129, .c (.b false)]⟩, ⟨.t 131, none, .mv, [.t 130]⟩, ⟨.t 132, (some (.t 131, true)), .mv, [.l 7]⟩, ⟨.t 133, none, .pick, [.t 131, .t 132, .c (.b false)]⟩, ⟨.t 134, none, .mv, [.t 133]⟩, ⟨.t 135, (some (.t 134, true)), .mv, [.l 8]⟩, ⟨.t 136, (some (.t 134, true)), (.bin .eql), [.t 135, .c (.i .i64 0)]⟩, ⟨.t 137, none, .pick, [.t 134, .t 136, .c (.b false)]⟩, ⟨.t 138, none, .mv, [.t 137]⟩, ⟨.t 139, (some (.t 138, true)), .mv, [.l 3]⟩, ⟨.t 140, (some (.t 138, true)), (.call 26), [.t 139, .c (.b false)]⟩, ⟨.t 141, (some (.t 138, true)), (.un .not), [.t 140]⟩, ⟨.t 142, none, .pick, [.t 138, .t 141, .c (.b false)]⟩, ⟨.t 143, none, .mv, [.t 142]⟩, ⟨.t 144, (some (.t 143, true)), .mv, [.l 11]⟩, ⟨.t 145, (some (.t 143, true)), (.bin .eql), [.t 144, .c (.i .i64 1)]⟩, ⟨.t 146, none, .pick, [.t 143, .t 145, .c (.b false)]⟩, ⟨.t 147, none, .mv, [.t 146]⟩, ⟨.t 148, (some (.t 147, true)), .mv, [.l 9]⟩, ⟨.t 149, (some (.t 147, true)), (.bin .eql), [.t 148, .c (.i .i64 0)]⟩, ⟨.t 150, none, .pick, [.t 147, .t 149, .c (.b false)]⟩, ⟨.t 151, none, .mv, [.t 150]⟩, ⟨.t 152, (some (.t 151, true)), .mv, [.l 10]⟩, ⟨.t 153, (some (.t 151, true)), (.eq false .ptr), [.t 152, .c (.p none)]⟩, ⟨.t 154, none, .pick, [.t 151, .t 153, .c (.b false)]⟩, ⟨.t 155, none, .mv, [.t 154]⟩, ⟨.t 156, (some (.t 155, true)), .mv, [.l 13]⟩, ⟨.t 157, (some (.t 155, true)), (.bin .eql), [.t 156, .c (.i .i64 0)]⟩, ⟨.t 158, none, .pick, [.t 155, .t 157, .c (.b false)]⟩, ⟨.t 159, none, .mv, [.t 158]⟩, ⟨.t 160, (some (.t 159, true)), .mv, [.l 12]⟩, ⟨.t 161, (some (.t 159, true)), (.bin .eql), [.t 160, .c (.i .i64 1)]⟩, ⟨.t 162, none, .pick, [.t 159, .t 161, .c (.b false)]⟩, ⟨.t 163, none, .mv, [.t 162]⟩, ⟨.t 164, (some (.t 163, true)), .mv, [.l 14]⟩, ⟨.t 165, none, .pick, [.t 163, .t 164, .c (.b false)]⟩, ⟨.t 166, none, .mv, [.t 165]⟩, ⟨.t 167, (some (.t 166, true)), .mv, [.l 15]⟩, ⟨.t 168, (some (.t 166, true)), (.bin .eql), [.t 167, .c (.i .i64 0)]⟩, ⟨.t 169, none, .pick, [.t 166, .t 168, .c (.b false)]⟩, ⟨.t 170, none, .mv, [.t 169]⟩, ⟨.t 171, (some (.t 170, true)), .mv, [.l 17]⟩, ⟨.t 172, (some (.t 170, true)), (.bin .eql), [.t 171, .c (.i .i64 0)]⟩, ⟨.t 173, none, .pick, [.t 170, .t 172, .c (.b false)]⟩, ⟨.t 174, none, .mv, [.t 173]⟩, ⟨.t 175, (some (.t 174, true)), .mv, [.l 16]⟩, ⟨.t 176, (some (.t 174, true)), (.bin .eql), [.t 175, .c (.i .i64 2)]⟩, ⟨.t 177, none, .pick, [.t 174, .t 176, .c (.b false)]⟩, ⟨.t 178, none, .mv, [.t 177]⟩, ⟨.t 179, (some (.t 178, true)), .mv, [.l 19]⟩, ⟨.t 180, (some (.t 178, true)), (.bin .eql), [.t 179, .c (.i .i64 7)]⟩, ⟨.t 181, none, .pick, [.t 178, .t 180, .c (.b false)]⟩, ⟨.t 182, none, .mv, [.t 181]⟩, ⟨.t 183, (some (.t 182, true)), .mv, [.l 21]⟩, ⟨.t 184, none, .pick, [.t 182, .t 183, .c (.b false)]⟩, ⟨.t 185, none, .mv, [.t 184]⟩, ⟨.t 186, (some (.t 185, true)), (.fad 1), [.l 20]⟩, ⟨.t 187, (some (.t 185, true)), (.ld none), [.t 186]⟩, ⟨.t 188, (some (.t 185, true)), (.bin .eql), [.t 187, .c (.i .i64 4)]⟩, ⟨.t 189, none, .pick, [.t 185, .t 188, .c (.b false)]⟩, ⟨.t 190, none, .mv, [.t 189]⟩, ⟨.t 191, (some (.t 190, true)), (.fad 4), [.l 20]⟩, ⟨.t 192, (some (.t 190, true)), (.ld none), [.t 191]⟩, ⟨.t 193, (some (.t 190, true)), (.bin .eql), [.t 192, .c (.i .i64 4)]⟩, ⟨.t 194, none, .pick, [.t 190, .t 193, .c (.b false)]⟩, ⟨.t 195, none, .mv, [.t 194]⟩, ⟨.t 196, (some (.t 195, true)), .mv, [.l 23]⟩, ⟨.t 197, none, .pick, [.t 195, .t 196, .c (.b false)]⟩, ⟨.t 198, none, .mv, [.t 197]⟩, ⟨.t 199, (some (.t 198, true)), (.fad 1), [.l 22]⟩, ⟨.t 200, (some (.t 198, true)), (.ld none), [.t 199]⟩, ⟨.t 201, (some (.t 198, true)), (.bin .eql), [.t 200, .c (.i .i64 3)]⟩, ⟨.t 202, none, .pick, [.t 198, .t 201, .c (.b false)]⟩, ⟨.t 203, none, .mv, [.t 202]⟩, ⟨.t 204, (some (.t 203, true)), (.fad 4), [.l 22]⟩, ⟨.t 205, (some (.t 203, true)), (.ld none), [.t 204]⟩, ⟨.t 206, (some (.t 203, true)), (.bin .eql), [.t 205, .c (.i .i64 2)]⟩, ⟨.t 207, none, .pick, [.t 203, .t 206, .c (.b false)]⟩, ⟨.t 208, none, .mv, [.t 207]⟩, ⟨.t 209, (some (.t 208, true)), (.fad 2), [.l 22]⟩, ⟨.t 210, (some (.t 208, true)), (.ld none), [.t 209]⟩, ⟨.t 211, (some (.t 208, true)), (.bin .eql), [.t 210, .c (.i .i64 19)]⟩, ⟨.t 212, none, .pick, [.t 208, .t 211, .c (.b false)]⟩, ⟨.t 213, none, .mv, [.t 212]⟩, ⟨.t 214, (some (.t 213, true)), .mv, [.l 25]⟩, ⟨.t 215, (some (.t 213, true)), (.bin .eql), [.t 214, .c (.i .i64 4)]⟩, ⟨.t 216, none, .pick, [.t 213, .t 215, .c (.b false)]⟩, ⟨.t 217, none, .mv, [.t 216]⟩, ⟨.t 218, (some (.t 217, true)), .mv, [.l 1]⟩, ⟨.t 219, (some (.t 217, true)), .mv, [.l 12]⟩, ⟨.t 220, (some (.t 217, true)), (.call 21), [.t 218, .t 219]⟩, ⟨.t 221, (some (.t 217, true)), (.bin .eql), [.t 220, .c (.i .i64 2)]⟩, ⟨.t 222, none, .pick, [.t 217, .t 221, .c (.b false)]⟩, ⟨.t 223, none, .mv, [.t 222]⟩, ⟨.t 224, (some (.t 223, true)), .mv, [.l 29]⟩, ⟨.t 225, (some (.t 223, true)), (.bin .eql), [.t 224, .c (.i .i64 3)]⟩, ⟨.t 226, none, .pick, [.t 223, .t 225, .c (.b false)]⟩, ⟨.l 0, none, .mv, [.t 226]⟩])
 .ret))))))))))))))))), [.tmp (.l 0)]⟩
/-- tarpaulin/timer.New -/
def b11 : Nat := 1
def a11 : AFn := ⟨(.seq (.reg [⟨.l 0, none, .mv, [.c (.p none)]⟩])
 (.seq (.reg [⟨.t 1, none, (.call 31), []⟩, ⟨.t 2, none, (.build [(.sl none 0 0 0), (.p none), (.i .i64 0)] [(1, 1)]), [.t 1]⟩, ⟨.t 3, none, .box, [.t 2]⟩, ⟨.l 0, none, .mv, [.t 3]⟩])
 .ret)), [.tmp (.l 0)]⟩
/-- tarpaulin/tarpaulinalike.Round -/
def b12 : Nat := 19
def a12 : AFn := ⟨(.seq (.reg [⟨.l 4, none, .mv, [.c (.i .i64 0)]⟩])
 (.seq (.reg [⟨.t 5, none, .mv, [.l 0]⟩, ⟨.t 6, none, .mv, [.l 1]⟩, ⟨.t 7, none, (.bin .rem), [.t 5, .t 6]⟩, ⟨.t 8, none, .mv, [.l 1]⟩, ⟨.t 9, none, (.bin .add), [.t 7, .t 8]⟩, ⟨.t 10, none, .mv, [.l 1]⟩, ⟨.t 11, none, (.bin .rem), [.t 9, .t 10]⟩, ⟨.l 4, none, .mv, [.t 11]⟩])
 .ret)), [.tmp (.l 4)]⟩
/-- (*tarpaulin/timer.Set).Func -/
def b13 : Nat := 783
def a13 : AFn := ⟨(.seq (.reg [⟨.l 8, none, .mv, [.c (.i .i64 0)]⟩, ⟨.l 9, none, .mv, [.c (.i .i64 0)]⟩])
 (.seq (.reg [⟨.t 10, none, .mv, [.l 0]⟩, ⟨.t 11, none, .mv, [.l 3]⟩, ⟨.t 12, none, (.build [(.i .i64 0), (.i .i64 0), (.p none), (.i .i64 0)] [(0, 1), (1, 1)]), [.c (.i .i64 3), .t 11]⟩, ⟨.t 13, none, .mv, [.l 1]⟩, ⟨.t 14, none, .mv, [.l 2]⟩, ⟨.t 15, none, (.call 32), [.t 10, .t 12, .t 13, .t 14]⟩, ⟨.t 16, none, (.ext 0), [.t 15]⟩, ⟨.t 17, none, (.ext 1), [.t 15]⟩, ⟨.l 8, none, .mv, [.t 16]⟩, ⟨.l 9, none, .mv, [.t 17]⟩])
 .ret)), [.tmp (.l 8), .tmp (.l 9)]⟩
/-- (*tarpaulin/timer.Set).Fire -/
def b14 : Nat := 1011
def a14 : AFn := ⟨(.seq (.reg [⟨.l 4, none, (.alloc [(.i .i64 0), (.i .i64 0), (.i .i64 0), (.i .i64 0), (.i .i64 0), (.sl none 0 0 0), (.b false)]), []⟩, ⟨.l 5, none, .mv, [.c (.b false)]⟩])
 (.seq (.seq (.reg [⟨.t 10, none, .mv, [.l 0]⟩, ⟨.t 11, none, (.eq false .ptr), [.t 10, .c (.p none)]⟩])
 (.cond (.t 11) (.seq (.reg [⟨.t 12, none, (.build [(.i .i64 0), (.i .i64 0), (.i .i64 0), (.i .i64 0), (.i .i64 0), (.sl none 0 0 0), (.b false)] []), []⟩, ⟨.no, none, (.st 7), [.l 4, .t 12]⟩, ⟨.l 5, none, .mv, [.c (.b false)]⟩])
 .ret) .skip))
 (.seq (.reg [⟨.t 14, none, .mv, [.l 0]⟩, ⟨.t 15, none, .nilchk, [.t 14]⟩, ⟨.t 16, none, (.fad 1), [.t 15]⟩, ⟨.t 17, none, (.ld none), [.t 16]⟩, ⟨.t 18, none, .mv, [.l 1]⟩, ⟨.t 19, none, (.call 33), [.t 17, .t 18]⟩, ⟨.t 13, none, .mv, [.t 19]⟩, ⟨.t 20, none, (.ext 0), [.t 13]⟩, ⟨.t 21, none, (.ext 1), [.t 13]⟩, ⟨.l 6, none, (.alloc [(.i .i64 0), (.i .i64 0), (.i .i64 0)]), []⟩, ⟨.no, none, (.st 3), [.l 6, .t 20]⟩, ⟨.l 7, none, .mv, [.t 21]⟩])
 (.seq (.seq (.reg [⟨.t 22, none, .mv, [.l 7]⟩, ⟨.t 23, none, (.un .not), [.t 22]⟩])
 (.cond (.t 23) (.seq (.reg [⟨.t 24, none, (.build [(.i .i64 0), (.i .i64 0), (.i .i64 0), (.i .i64 0), (.i .i64 0), (.sl none 0 0 0), (.b false)] []), []⟩, ⟨.no, none, (.st 7), [.l 4, .t 24]⟩, ⟨.l 5, none, .mv, [.c (.b false)]⟩])
 .ret) .skip))
 (.seq (.reg [⟨.t 25, none, .mv, [.l 0]⟩, ⟨.t 26, none, .nilchk, [.t 25]⟩, ⟨.t 27, none, (.fad 0), [.t 26]⟩, ⟨.t 28, none, (.ld none), [.t 27]⟩, ⟨.t 29, none, (.fad 0), [.l 6]⟩, ⟨.t 30, none, (.ld none), [.t 29]⟩, ⟨.t 31, none, (.iad 4), [.t 28, .t 30]⟩, ⟨.t 32, none, (.ld (some 4)), [.t 31]⟩, ⟨.l 8, none, (.alloc [(.i .i64 0), (.i .i64 0), (.p none), (.i .i64 0)]), []⟩, ⟨.no, none, (.st 4), [.l 8, .t 32]⟩])
 (.seq (.reg [⟨.t 33, none, (.fad 0), [.l 6]⟩, ⟨.t 34, none, (.ld none), [.t 33]⟩, ⟨.t 35, none, (.fad 0), [.l 8]⟩, ⟨.t 36, none, (.ld none), [.t 35]⟩, ⟨.t 37, none, (.fad 1), [.l 6]⟩, ⟨.t 38, none, (.ld none), [.t 37]⟩, ⟨.t 39, none, (.fad 2), [.l 6]⟩, ⟨.t 40, none, (.ld none), [.t 39]⟩, ⟨.t 41, none, (.fad 1), [.l 8]⟩, ⟨.t 42, none, (.ld none), [.t 41]⟩, ⟨.t 43, none, (.build [(.i .i64 0), (.i .i64 0), (.i .i64 0), (.i .i64 0), (.i .i64 0), (.sl none 0 0 0), (.b false)] [(0, 1), (1, 1), (2, 1), (3, 1), (4, 1)]), [.t 34, .t 36, .t 38, .t 40, .t 42]⟩, ⟨.l 9, none, (.alloc [(.i .i64 0), (.i .i64 0), (.i .i64 0), (.i .i64 0), (.i .i64 0), (.sl none 0 0 0), (.b false)]), []⟩, ⟨.no, none, (.st 7), [.l 9, .t 43]⟩])
 (.seq (.reg [⟨.t 45, none, (.fad 2), [.l 8]⟩, ⟨.t 46, none, (.ld none), [.t 45]⟩, ⟨.t 47, none, .mv, [.l 1]⟩, ⟨.t 48, none, (.call 34), [.t 46, .t 47]⟩, ⟨.t 44, none, .mv, [.t 48]⟩, ⟨.t 49, none, (.ext 0), [.t 44]⟩, ⟨.t 50, none, (.ext 1), [.t 44]⟩, ⟨.t 51, none, (.fad 5), [.l 9]⟩, ⟨.no, none, (.st 1), [.t 51, .t 49]⟩, ⟨.t 52, none, (.fad 6), [.l 9]⟩, ⟨.no, none, (.st 1), [.t 52, .t 50]⟩])
 (.seq (.reg [⟨.t 53, none, (.ld (some 7)), [.l 9]⟩, ⟨.no, none, (.st 7), [.l 4, .t 53]⟩, ⟨.l 5, none, .mv, [.c (.b true)]⟩])
 .ret)))))))), [.cell (.l 4) (some 7), .tmp (.l 5)]⟩
/-- (*tarpaulin/timer.Set).Timer -/
def b15 : Nat := 455
def a15 : AFn := ⟨(.seq (.reg [⟨.l 6, none, .mv, [.c (.i .i64 0)]⟩, ⟨.l 7, none, .mv, [.c (.p none)]⟩, ⟨.l 8, none, .mv, [.c (.i .i64 0)]⟩])
 (.seq (.reg [⟨.t 9, none, .mv, [.l 0]⟩, ⟨.t 10, none, .mv, [.l 1]⟩, ⟨.t 11, none, .mv, [.l 2]⟩, ⟨.t 12, none, (.call 35), [.t 9, .c (.i .i64 1), .t 10, .t 11]⟩, ⟨.t 13, none, (.ext 0), [.t 12]⟩, ⟨.t 14, none, (.ext 1), [.t 12]⟩, ⟨.t 15, none, (.ext 2), [.t 12]⟩, ⟨.l 6, none, .mv, [.t 13]⟩, ⟨.l 7, none, .mv, [.t 14]⟩, ⟨.l 8, none, .mv, [.t 15]⟩])
 .ret)), [.tmp (.l 6), .tmp (.l 7), .tmp (.l 8)]⟩
/-- (*tarpaulin/timer.Set).Lapse -/
def b16 : Nat := 199
def a16 : AFn := ⟨(.seq (.reg [⟨.l 6, none, .mv, [.c (.i .i64 0)]⟩, ⟨.l 7, none, .mv, [.c (.i .i64 0)]⟩])
 (.seq (.reg [⟨.t 8, none, .mv, [.l 0]⟩, ⟨.t 9, none, .mv, [.l 2]⟩, ⟨.t 10, none, (.build [(.i .i64 0), (.i .i64 0), (.p none), (.i .i64 0)] [(0, 1), (1, 1)]), [.c (.i .i64 4), .t 9]⟩, ⟨.t 11, none, .mv, [.l 1]⟩, ⟨.t 12, none, (.call 32), [.t 8, .t 10, .c (.i .i64 0), .t 11]⟩, ⟨.t 13, none, (.ext 0), [.t 12]⟩, ⟨.t 14, none, (.ext 1), [.t 12]⟩, ⟨.l 6, none, .mv, [.t 13]⟩, ⟨.l 7, none, .mv, [.t 14]⟩])
 .ret)), [.tmp (.l 6), .tmp (.l 7)]⟩
/-- (*tarpaulin/timer.Set).Next -/
def b17 : Nat := 13
def a17 : AFn := ⟨(.seq (.reg [⟨.l 2, none, .mv, [.c (.i .i64 0)]⟩, ⟨.l 3, none, .mv, [.c (.b false)]⟩])
 (.seq (.seq (.reg [⟨.t 4, none, .mv, [.l 0]⟩, ⟨.t 5, none, (.eq false .ptr), [.t 4, .c (.p none)]⟩])
 (.cond (.t 5) (.seq (.reg [⟨.l 2, none, .mv, [.c (.i .i64 0)]⟩, ⟨.l 3, none, .mv, [.c (.b false)]⟩])
 .ret) .skip))
 (.seq (.reg [⟨.t 6, none, .mv, [.l 0]⟩, ⟨.t 7, none, .nilchk, [.t 6]⟩, ⟨.t 8, none, (.fad 1), [.t 7]⟩, ⟨.t 9, none, (.ld none), [.t 8]⟩, ⟨.t 10, none, (.call 36), [.t 9]⟩, ⟨.t 11, none, (.ext 0), [.t 10]⟩, ⟨.t 12, none, (.ext 1), [.t 10]⟩, ⟨.l 2, none, .mv, [.t 11]⟩, ⟨.l 3, none, .mv, [.t 12]⟩])
 .ret))), [.tmp (.l 2), .tmp (.l 3)]⟩
/-- (*tarpaulin/timer.Set).Reset -/
def b18 : Nat := 1807
def a18 : AFn := ⟨(.seq (.reg [⟨.l 8, none, .mv, [.c (.b false)]⟩, ⟨.l 9, none, .mv, [.c (.i .i64 0)]⟩])
 (.seq (.block 0 (.seq (.reg [⟨.t 13, none, .mv, [.l 0]⟩, ⟨.t 14, none, .mv, [.l 1]⟩, ⟨.t 15, none, (.call 37), [.t 13, .t 14]⟩, ⟨.t 16, none, (.un .not), [.t 15]⟩, ⟨.t 12, none, .mv, [.t 16]⟩])
 (.cond (.t 12) (.seq (.reg [⟨.l 8, none, .mv, [.c (.b false)]⟩, ⟨.l 9, none, .mv, [.c (.i .i64 4)]⟩])
 .ret) (.seq (.reg [⟨.t 18, none, .mv, [.l 2]⟩, ⟨.t 19, none, (.call 38), [.t 18]⟩, ⟨.t 20, none, .mv, [.t 19]⟩, ⟨.t 21, (some (.t 20, false)), .mv, [.l 0]⟩, ⟨.t 22, (some (.t 20, false)), .nilchk, [.t 21]⟩, ⟨.t 23, (some (.t 20, false)), (.fad 0), [.t 22]⟩, ⟨.t 24, (some (.t 20, false)), (.ld none), [.t 23]⟩, ⟨.t 25, (some (.t 20, false)), .mv, [.l 1]⟩, ⟨.t 26, (some (.t 20, false)), (.iad 4), [.t 24, .t 25]⟩, ⟨.t 27, (some (.t 20, false)), (.fad 0), [.t 26]⟩, ⟨.t 28, (some (.t 20, false)), (.ld none), [.t 27]⟩, ⟨.t 29, (some (.t 20, false)), (.bin .eql), [.t 28, .c (.i .i64 2)]⟩, ⟨.t 30, (some (.t 20, false)), .mv, [.t 29]⟩, ⟨.t 31, (some (.t 30, true)), .mv, [.l 3]⟩, ⟨.t 32, (some (.t 30, true)), (.bin .lss), [.t 31, .c (.i .i64 1)]⟩, ⟨.t 33, (some (.t 20, false)), .pick, [.t 30, .t 32, .c (.b false)]⟩, ⟨.t 34, none, .pick, [.t 20, .c (.b true), .t 33]⟩, ⟨.t 17, none, .mv, [.t 34]⟩])
 (.cond (.t 17) (.seq (.reg [⟨.l 8, none, .mv, [.c (.b false)]⟩, ⟨.l 9, none, .mv, [.c (.i .i64 1)]⟩])
 .ret) (.seq (.reg [⟨.t 36, none, .mv, [.l 0]⟩, ⟨.t 37, none, .nilchk, [.t 36]⟩, ⟨.t 38, none, (.fad 0), [.t 37]⟩, ⟨.t 39, none, (.ld none), [.t 38]⟩, ⟨.t 40, none, .mv, [.l 1]⟩, ⟨.t 41, none, (.iad 4), [.t 39, .t 40]⟩, ⟨.t 42, none, (.fad 0), [.t 41]⟩, ⟨.t 43, none, (.ld none), [.t 42]⟩, ⟨.t 44, none, (.bin .eql), [.t 43, .c (.i .i64 4)]⟩, ⟨.t 35, none, .mv, [.t 44]⟩])
 (.cond (.t 35) (.seq (.reg [⟨.l 8, none, .mv, [.c (.b false)]⟩, ⟨.l 9, none, .mv, [.c (.i .i64 7)]⟩])
 .ret) .skip)))))))
 (.seq (.reg [⟨.t 46, none, .mv, [.l 0]⟩, ⟨.t 47, none, .mv, [.l 1]⟩, ⟨.t 48, none, (.call 22), [.t 46, .t 47]⟩, ⟨.t 45, none, .mv, [.t 48]⟩, ⟨.t 49, none, (.ext 0), [.t 45]⟩, ⟨.t 50, none, (.ext 1), [.t 45]⟩, ⟨.l 10, none, .mv, [.t 49]⟩, ⟨.t 11, none, .mv, [.t 50]⟩])
 (.seq (.reg [⟨.t 51, none, .mv, [.l 0]⟩, ⟨.t 52, none, .mv, [.l 1]⟩, ⟨.t 53, none, .mv, [.l 2]⟩, ⟨.t 54, none, .mv, [.l 3]⟩, ⟨.t 55, none, (.call 39), [.t 51, .t 52, .t 53, .t 54]⟩])
 (.seq (.reg [⟨.t 56, none, .mv, [.l 10]⟩, ⟨.l 8, none, .mv, [.t 56]⟩, ⟨.l 9, none, .mv, [.c (.i .i64 0)]⟩])
 .ret))))), [.tmp (.l 8), .tmp (.l 9)]⟩
/-- (*tarpaulin/timer.Set).Chan -/
def b19 : Nat := 19
def a19 : AFn := ⟨(.seq (.reg [⟨.l 4, none, .mv, [.c (.p none)]⟩])
 (.seq (.seq (.reg [⟨.t 5, none, .mv, [.l 0]⟩, ⟨.t 6, none, .mv, [.l 1]⟩, ⟨.t 7, none, (.call 37), [.t 5, .t 6]⟩, ⟨.t 8, none, (.un .not), [.t 7]⟩])
 (.cond (.t 8) (.seq (.reg [⟨.l 4, none, .mv, [.c (.p none)]⟩])
 .ret) .skip))
 (.seq (.reg [⟨.t 9, none, .mv, [.l 0]⟩, ⟨.t 10, none, .nilchk, [.t 9]⟩, ⟨.t 11, none, (.fad 0), [.t 10]⟩, ⟨.t 12, none, (.ld none), [.t 11]⟩, ⟨.t 13, none, .mv, [.l 1]⟩, ⟨.t 14, none, (.iad 4), [.t 12, .t 13]⟩, ⟨.t 15, none, (.fad 2), [.t 14]⟩, ⟨.t 16, none, (.ld none), [.t 15]⟩, ⟨.l 4, none, .mv, [.t 16]⟩])
 .ret))), [.tmp (.l 4)]⟩
/-- (*tarpaulin/timer.Set).Kind -/
def b20 : Nat := 19
def a20 : AFn := ⟨(.seq (.reg [⟨.l 4, none, .mv, [.c (.i .i64 0)]⟩])
 (.seq (.seq (.reg [⟨.t 5, none, .mv, [.l 0]⟩, ⟨.t 6, none, .mv, [.l 1]⟩, ⟨.t 7, none, (.call 37), [.t 5, .t 6]⟩, ⟨.t 8, none, (.un .not), [.t 7]⟩])
 (.cond (.t 8) (.seq (.reg [⟨.l 4, none, .mv, [.c (.i .i64 0)]⟩])
 .ret) .skip))
 (.seq (.reg [⟨.t 9, none, .mv, [.l 0]⟩, ⟨.t 10, none, .nilchk, [.t 9]⟩, ⟨.t 11, none, (.fad 0), [.t 10]⟩, ⟨.t 12, none, (.ld none), [.t 11]⟩, ⟨.t 13, none, .mv, [.l 1]⟩, ⟨.t 14, none, (.iad 4), [.t 12, .t 13]⟩, ⟨.t 15, none, (.fad 0), [.t 14]⟩, ⟨.t 16, none, (.ld none), [.t 15]⟩, ⟨.l 4, none, .mv, [.t 16]⟩])
 .ret))), [.tmp (.l 4)]⟩
/-- (*tarpaulin/timer.Set).Gen -/
def b21 : Nat := 19
def a21 : AFn := ⟨(.seq (.reg [⟨.l 4, none, .mv, [.c (.i .i64 0)]⟩])
 (.seq (.seq (.reg [⟨.t 5, none, .mv, [.l 0]⟩, ⟨.t 6, none, .mv, [.l 1]⟩, ⟨.t 7, none, (.call 37), [.t 5, .t 6]⟩, ⟨.t 8, none, (.un .not), [.t 7]⟩])
 (.cond (.t 8) (.seq (.reg [⟨.l 4, none, .mv, [.c (.i .i64 0)]⟩])
 .ret) .skip))
 (.seq (.reg [⟨.t 9, none, .mv, [.l 0]⟩, ⟨.t 10, none, .nilchk, [.t 9]⟩, ⟨.t 11, none, (.fad 0), [.t 10]⟩, ⟨.t 12, none, (.ld none), [.t 11]⟩, ⟨.t 13, none, .mv, [.l 1]⟩, ⟨.t 14, none, (.iad 4), [.t 12, .t 13]⟩, ⟨.t 15, none, (.fad 3), [.t 14]⟩, ⟨.t 16, none, (.ld none), [.t 15]⟩, ⟨.l 4, none, .mv, [.t 16]⟩])
 .ret))), [.tmp (.l 4)]⟩
/-- (*tarpaulin/timer.Set).Stop -/
def b22 : Nat := 115
def a22 : AFn := ⟨(.seq (.reg [⟨.l 4, none, .mv, [.c (.b false)]⟩, ⟨.l 5, none, .mv, [.c (.i .i64 0)]⟩])
 (.seq (.seq (.reg [⟨.t 7, none, .mv, [.l 0]⟩, ⟨.t 8, none, .mv, [.l 1]⟩, ⟨.t 9, none, (.call 37), [.t 7, .t 8]⟩, ⟨.t 10, none, (.un .not), [.t 9]⟩])
 (.cond (.t 10) (.seq (.reg [⟨.l 4, none, .mv, [.c (.b false)]⟩, ⟨.l 5, none, .mv, [.c (.i .i64 4)]⟩])
 .ret) .skip))
 (.seq (.reg [⟨.t 11, none, .mv, [.l 0]⟩, ⟨.t 12, none, .nilchk, [.t 11]⟩, ⟨.t 13, none, (.fad 1), [.t 12]⟩, ⟨.t 14, none, (.ld none), [.t 13]⟩, ⟨.t 15, none, .mv, [.l 1]⟩, ⟨.t 16, none, (.call 40), [.t 14, .t 15]⟩, ⟨.l 6, none, .mv, [.t 16]⟩])
 (.seq (.reg [⟨.t 17, none, .mv, [.l 0]⟩, ⟨.t 18, none, .nilchk, [.t 17]⟩, ⟨.t 19, none, (.fad 0), [.t 18]⟩, ⟨.t 20, none, (.ld none), [.t 19]⟩, ⟨.t 21, none, .mv, [.l 1]⟩, ⟨.t 22, none, (.iad 4), [.t 20, .t 21]⟩, ⟨.t 23, none, (.fad 2), [.t 22]⟩, ⟨.t 24, none, (.ld none), [.t 23]⟩, ⟨.t 25, none, (.call 41), [.t 24]⟩, ⟨.t 26, none, .mv, [.t 25]⟩, ⟨.t 27, (some (.t 26, false)), .mv, [.l 6]⟩, ⟨.t 28, none, .pick, [.t 26, .c (.b true), .t 27]⟩, ⟨.l 4, none, .mv, [.t 28]⟩, ⟨.l 5, none, .mv, [.c (.i .i64 0)]⟩])
 .ret)))), [.tmp (.l 4), .tmp (.l 5)]⟩
/-- (*tarpaulin/timer.Set).Ticker -/
def b23 : Nat := 455
def a23 : AFn := ⟨(.seq (.reg [⟨.l 6, none, .mv, [.c (.i .i64 0)]⟩, ⟨.l 7, none, .mv, [.c (.p none)]⟩, ⟨.l 8, none, .mv, [.c (.i .i64 0)]⟩])
 (.seq (.reg [⟨.t 9, none, .mv, [.l 0]⟩, ⟨.t 10, none, .mv, [.l 1]⟩, ⟨.t 11, none, .mv, [.l 2]⟩, ⟨.t 12, none, (.call 35), [.t 9, .c (.i .i64 2), .t 10, .t 11]⟩, ⟨.t 13, none, (.ext 0), [.t 12]⟩, ⟨.t 14, none, (.ext 1), [.t 12]⟩, ⟨.t 15, none, (.ext 2), [.t 12]⟩, ⟨.l 6, none, .mv, [.t 13]⟩, ⟨.l 7, none, .mv, [.t 14]⟩, ⟨.l 8, none, .mv, [.t 15]⟩])
 .ret)), [.tmp (.l 6), .tmp (.l 7), .tmp (.l 8)]⟩
/-- (*tarpaulin/timer.Set).Len -/
def b24 : Nat := 5
def a24 : AFn := ⟨(.seq (.reg [⟨.l 2, none, .mv, [.c (.i .i64 0)]⟩])
 (.seq (.seq (.reg [⟨.t 3, none, .mv, [.l 0]⟩, ⟨.t 4, none, (.eq false .ptr), [.t 3, .c (.p none)]⟩])
 (.cond (.t 4) (.seq (.reg [⟨.l 2, none, .mv, [.c (.i .i64 0)]⟩])
 .ret) .skip))
 (.seq (.reg [⟨.t 5, none, .mv, [.l 0]⟩, ⟨.t 6, none, .nilchk, [.t 5]⟩, ⟨.t 7, none, (.fad 0), [.t 6]⟩, ⟨.t 8, none, (.ld none), [.t 7]⟩, ⟨.t 9, none, .lenSl, [.t 8]⟩, ⟨.l 2, none, .mv, [.t 9]⟩])
 .ret))), [.tmp (.l 2)]⟩
/-- (*tarpaulin/chanq.Chan).Recv -/
def b25 : Nat := 509
def a25 : AFn := ⟨(.seq (.reg [⟨.l 2, none, .mv, [.c (.i .i64 0)]⟩, ⟨.l 3, none, .mv, [.c (.b false)]⟩, ⟨.l 4, none, .mv, [.c (.b false)]⟩, ⟨.l 5, none, .mv, [.c (.sl none 0 0 0)]⟩])
 (.seq (.seq (.reg [⟨.t 9, none, .mv, [.l 0]⟩, ⟨.t 10, none, (.eq false .ptr), [.t 9, .c (.p none)]⟩])
 (.cond (.t 10) (.seq (.reg [⟨.l 2, none, .mv, [.c (.i .i64 0)]⟩, ⟨.l 3, none, .mv, [.c (.b false)]⟩, ⟨.l 4, none, .mv, [.c (.b false)]⟩, ⟨.l 5, none, .mv, [.c (.sl none 0 0 0)]⟩])
 .ret) .skip))
 (.seq (.reg [⟨.t 12, none, .mv, [.l 0]⟩, ⟨.t 13, none, .nilchk, [.t 12]⟩, ⟨.t 14, none, (.fad 0), [.t 13]⟩, ⟨.t 15, none, (.ld none), [.t 14]⟩, ⟨.t 16, none, (.call 42), [.t 15]⟩, ⟨.t 11, none, .mv, [.t 16]⟩, ⟨.t 17, none, (.ext 0), [.t 11]⟩, ⟨.t 18, none, (.ext 1), [.t 11]⟩, ⟨.l 2, none, .mv, [.t 17]⟩, ⟨.l 6, none, .mv, [.t 18]⟩])
 (.seq (.reg [⟨.t 20, none, .mv, [.l 0]⟩, ⟨.t 21, none, .nilchk, [.t 20]⟩, ⟨.t 22, none, (.fad 2), [.t 21]⟩, ⟨.t 23, none, (.ld none), [.t 22]⟩, ⟨.t 24, none, (.call 43), [.t 23]⟩, ⟨.t 19, none, .mv, [.t 24]⟩, ⟨.t 25, none, (.ext 0), [.t 19]⟩, ⟨.t 26, none, (.ext 1), [.t 19]⟩, ⟨.l 7, none, (.alloc [(.i .i64 0), (.i .i64 0), (.i .i64 0)]), []⟩, ⟨.no, none, (.st 3), [.l 7, .t 25]⟩, ⟨.l 8, none, .mv, [.t 26]⟩])
 (.seq (.seq (.reg [⟨.t 27, none, .mv, [.l 8]⟩])
 (.cond (.t 27) (.reg [⟨.t 28, none, (.fad 0), [.l 7]⟩, ⟨.t 29, none, (.ld none), [.t 28]⟩, ⟨.t 30, none, (.fad 1), [.l 7]⟩, ⟨.t 31, none, (.ld none), [.t 30]⟩, ⟨.t 32, none, (.build [(.i .i64 0), (.i .i64 0), (.i .i64 0), (.b false), (.b false)] [(0, 1), (1, 1), (3, 1)]), [.t 29, .t 31, .c (.b true)]⟩, ⟨.t 33, none, (.bslice [(.i .i64 0), (.i .i64 0), (.i .i64 0), (.b false), (.b false)] 1 5 [0]), [.t 32]⟩, ⟨.l 5, none, .mv, [.t 33]⟩]) .skip))
 (.seq (.block 0 (.seq (.reg [⟨.t 35, none, .mv, [.l 6]⟩, ⟨.t 36, none, .mv, [.t 35]⟩, ⟨.t 37, (some (.t 36, true)), .mv, [.l 8]⟩, ⟨.t 38, none, .pick, [.t 36, .t 37, .c (.b false)]⟩, ⟨.t 34, none, .mv, [.t 38]⟩])
 (.cond (.t 34) (.reg [⟨.t 39, none, .mv, [.l 0]⟩, ⟨.t 40, none, .nilchk, [.t 39]⟩, ⟨.t 41, none, (.fad 0), [.t 40]⟩, ⟨.t 42, none, (.ld none), [.t 41]⟩, ⟨.t 43, none, (.fad 2), [.l 7]⟩, ⟨.t 44, none, (.ld none), [.t 43]⟩, ⟨.t 45, none, (.call 44), [.t 42, .t 44]⟩]) (.seq (.reg [⟨.t 47, none, .mv, [.l 8]⟩, ⟨.t 46, none, .mv, [.t 47]⟩])
 (.cond (.t 46) (.reg [⟨.t 48, none, (.fad 2), [.l 7]⟩, ⟨.t 49, none, (.ld none), [.t 48]⟩, ⟨.l 2, none, .mv, [.t 49]⟩]) (.seq (.reg [⟨.t 51, none, .mv, [.l 6]⟩, ⟨.t 52, none, (.un .not), [.t 51]⟩, ⟨.t 50, none, .mv, [.t 52]⟩])
 (.cond (.t 50) (.seq (.reg [⟨.t 53, none, .mv, [.l 0]⟩, ⟨.t 54, none, .nilchk, [.t 53]⟩, ⟨.t 55, none, (.fad 5), [.t 54]⟩, ⟨.t 56, none, (.ld none), [.t 55]⟩, ⟨.l 2, none, .mv, [.c (.i .i64 0)]⟩, ⟨.l 3, none, .mv, [.c (.b false)]⟩, ⟨.l 4, none, .mv, [.t 56]⟩, ⟨.l 5, none, .mv, [.c (.sl none 0 0 0)]⟩])
 .ret) .skip)))))))
 (.seq (.reg [⟨.t 57, none, .mv, [.l 2]⟩, ⟨.t 58, none, .mv, [.l 5]⟩, ⟨.l 2, none, .mv, [.t 57]⟩, ⟨.l 3, none, .mv, [.c (.b true)]⟩, ⟨.l 4, none, .mv, [.c (.b true)]⟩, ⟨.l 5, none, .mv, [.t 58]⟩])
 .ret))))))), [.tmp (.l 2), .tmp (.l 3), .tmp (.l 4), .tmp (.l 5)]⟩
/-- (*tarpaulin/chanq.Chan).Can -/
def b26 : Nat := 19
def a26 : AFn := ⟨(.seq (.reg [⟨.l 4, none, .mv, [.c (.b false)]⟩])
 (.seq (.block 0 (.seq (.seq (.reg [⟨.t 6, none, .mv, [.l 0]⟩, ⟨.t 7, none, (.eq false .ptr), [.t 6, .c (.p none)]⟩, ⟨.t 5, none, .mv, [.t 7]⟩])
 (.cond (.t 5) .skip (.reg [⟨.t 8, none, .mv, [.l 0]⟩, ⟨.t 9, none, (.call 45), [.t 8]⟩, ⟨.t 10, none, .mv, [.t 9]⟩, ⟨.t 11, (some (.t 10, true)), .mv, [.l 1]⟩, ⟨.t 12, none, .pick, [.t 10, .t 11, .c (.b false)]⟩, ⟨.t 5, none, .mv, [.t 12]⟩])))
 (.cond (.t 5) (.seq (.reg [⟨.l 4, none, .mv, [.c (.b false)]⟩])
 .ret) .skip)))
 (.seq (.reg [⟨.t 13, none, .mv, [.l 0]⟩, ⟨.t 14, none, .nilchk, [.t 13]⟩, ⟨.t 15, none, (.fad 5), [.t 14]⟩, ⟨.t 16, none, (.ld none), [.t 15]⟩, ⟨.t 17, none, .mv, [.t 16]⟩, ⟨.t 18, (some (.t 17, false)), .mv, [.l 0]⟩, ⟨.t 19, (some (.t 17, false)), .mv, [.l 1]⟩, ⟨.t 20, (some (.t 17, false)), (.call 46), [.t 18, .t 19]⟩, ⟨.t 21, none, .pick, [.t 17, .c (.b true), .t 20]⟩, ⟨.t 22, none, .mv, [.t 21]⟩, ⟨.t 23, (some (.t 22, false)), .mv, [.l 0]⟩, ⟨.t 24, (some (.t 22, false)), .mv, [.l 1]⟩, ⟨.t 25, (some (.t 22, false)), (.un .not), [.t 24]⟩, ⟨.t 26, (some (.t 22, false)), (.call 47), [.t 23, .t 25]⟩, ⟨.t 27, (some (.t 22, false)), (.call 48), [.t 26]⟩, ⟨.t 28, (some (.t 22, false)), (.bin .gtr), [.t 27, .c (.i .i64 0)]⟩, ⟨.t 29, none, .pick, [.t 22, .c (.b true), .t 28]⟩, ⟨.l 4, none, .mv, [.t 29]⟩])
 .ret))), [.tmp (.l 4)]⟩
/-- (*tarpaulin/chanq.Chan).Len -/
def b27 : Nat := 5
def a27 : AFn := ⟨(.seq (.reg [⟨.l 2, none, .mv, [.c (.i .i64 0)]⟩])
 (.seq (.seq (.reg [⟨.t 3, none, .mv, [.l 0]⟩, ⟨.t 4, none, (.eq false .ptr), [.t 3, .c (.p none)]⟩, ⟨.t 5, none, .mv, [.t 4]⟩, ⟨.t 6, (some (.t 5, false)), .mv, [.l 0]⟩, ⟨.t 7, (some (.t 5, false)), .nilchk, [.t 6]⟩, ⟨.t 8, (some (.t 5, false)), (.fad 3), [.t 7]⟩, ⟨.t 9, (some (.t 5, false)), (.ld none), [.t 8]⟩, ⟨.t 10, none, .pick, [.t 5, .c (.b true), .t 9]⟩])
 (.cond (.t 10) (.seq (.reg [⟨.l 2, none, .mv, [.c (.i .i64 0)]⟩])
 .ret) .skip))
 (.seq (.reg [⟨.t 11, none, .mv, [.l 0]⟩, ⟨.t 12, none, .nilchk, [.t 11]⟩, ⟨.t 13, none, (.fad 0), [.t 12]⟩, ⟨.t 14, none, (.ld none), [.t 13]⟩, ⟨.t 15, none, (.call 49), [.t 14]⟩, ⟨.l 2, none, .mv, [.t 15]⟩])
 .ret))), [.tmp (.l 2)]⟩
/-- (*tarpaulin/chanq.Chan).Cap -/
def b28 : Nat := 5
def a28 : AFn := ⟨(.seq (.reg [⟨.l 2, none, .mv, [.c (.i .i64 0)]⟩])
 (.seq (.seq (.reg [⟨.t 3, none, .mv, [.l 0]⟩, ⟨.t 4, none, (.eq false .ptr), [.t 3, .c (.p none)]⟩, ⟨.t 5, none, .mv, [.t 4]⟩, ⟨.t 6, (some (.t 5, false)), .mv, [.l 0]⟩, ⟨.t 7, (some (.t 5, false)), .nilchk, [.t 6]⟩, ⟨.t 8, (some (.t 5, false)), (.fad 3), [.t 7]⟩, ⟨.t 9, (some (.t 5, false)), (.ld none), [.t 8]⟩, ⟨.t 10, none, .pick, [.t 5, .c (.b true), .t 9]⟩])
 (.cond (.t 10) (.seq (.reg [⟨.l 2, none, .mv, [.c (.i .i64 0)]⟩])
 .ret) .skip))
 (.seq (.reg [⟨.t 11, none, .mv, [.l 0]⟩, ⟨.t 12, none, .nilchk, [.t 11]⟩, ⟨.t 13, none, (.fad 0), [.t 12]⟩, ⟨.t 14, none, (.ld none), [.t 13]⟩, ⟨.t 15, none, (.call 50), [.t 14]⟩, ⟨.l 2, none, .mv, [.t 15]⟩])
 .ret))), [.tmp (.l 2)]⟩
/-- (*tarpaulin/chanq.Chan).Wait -/
def b29 : Nat := 215
def a29 : AFn := ⟨(.seq (.reg [⟨.l 4, none, .box, [.l 1]⟩, ⟨.l 6, none, .mv, [.c (.i .i64 0)]⟩])
 (.seq (.block 0 (.seq (.reg [⟨.t 9, none, .mv, [.l 0]⟩, ⟨.t 10, none, (.eq false .ptr), [.t 9, .c (.p none)]⟩, ⟨.t 8, none, .mv, [.t 10]⟩])
 (.cond (.t 8) (.seq (.reg [⟨.l 6, none, .mv, [.c (.i .i64 6)]⟩])
 .ret) (.seq (.reg [⟨.t 12, none, .mv, [.l 0]⟩, ⟨.t 13, none, (.call 45), [.t 12]⟩, ⟨.t 14, none, .mv, [.t 13]⟩, ⟨.t 15, (some (.t 14, true)), .mv, [.l 2]⟩, ⟨.t 16, none, .pick, [.t 14, .t 15, .c (.b false)]⟩, ⟨.t 11, none, .mv, [.t 16]⟩])
 (.cond (.t 11) (.seq (.reg [⟨.l 6, none, .mv, [.c (.i .i64 7)]⟩])
 .ret) (.seq (.reg [⟨.t 18, none, .mv, [.l 0]⟩, ⟨.t 19, none, .nilchk, [.t 18]⟩, ⟨.t 20, none, (.fad 5), [.t 19]⟩, ⟨.t 21, none, (.ld none), [.t 20]⟩, ⟨.t 17, none, .mv, [.t 21]⟩])
 (.cond (.t 17) (.seq (.reg [⟨.l 6, none, .mv, [.c (.i .i64 5)]⟩])
 .ret) .skip)))))))
 (.seq (.reg [⟨.t 22, none, (.mkfn 51 0), [.l 4]⟩, ⟨.l 7, none, .mv, [.t 22]⟩])
 (.seq (.seq (.reg [⟨.t 23, none, .mv, [.l 0]⟩, ⟨.t 24, none, .mv, [.l 2]⟩, ⟨.t 25, none, (.call 46), [.t 23, .t 24]⟩, ⟨.t 26, none, .mv, [.t 25]⟩, ⟨.t 27, (some (.t 26, false)), .mv, [.l 0]⟩, ⟨.t 28, (some (.t 26, false)), .mv, [.l 2]⟩, ⟨.t 29, (some (.t 26, false)), (.un .not), [.t 28]⟩, ⟨.t 30, (some (.t 26, false)), (.call 30), [.t 27, .t 29]⟩, ⟨.t 31, (some (.t 26, false)), .mv, [.l 7]⟩, ⟨.t 32, (some (.t 26, false)), (.call 52), [.t 30, .t 31]⟩, ⟨.t 33, none, .pick, [.t 26, .c (.b true), .t 32]⟩])
 (.cond (.t 33) (.seq (.reg [⟨.l 6, none, .mv, [.c (.i .i64 1)]⟩])
 .ret) .skip))
 (.seq (.regD [⟨.t 34, none, .mv, [.l 0]⟩, ⟨.t 35, none, .mv, [.l 2]⟩, ⟨.t 36, none, (.call 47), [.t 34, .t 35]⟩, ⟨.t 37, none, (.ld (some 3)), [.l 4]⟩, ⟨.t 38, none, (.call 53), [.t 36, .t 37]⟩] [(3, 0)])
 (.seq (.reg [⟨.l 6, none, .mv, [.c (.i .i64 0)]⟩])
 .ret)))))), [.tmp (.l 6)]⟩
/-- (*tarpaulin/chanq.Chan).Waiting -/
def b30 : Nat := 19
def a30 : AFn := ⟨(.seq (.reg [⟨.l 4, none, .mv, [.c (.sl none 0 0 0)]⟩])
 (.seq (.reg [⟨.t 5, none, .mv, [.l 0]⟩, ⟨.t 6, none, .mv, [.l 1]⟩, ⟨.t 7, none, (.call 47), [.t 5, .t 6]⟩, ⟨.t 8, none, (.call 54), [.t 7]⟩, ⟨.l 4, none, .mv, [.t 8]⟩])
 .ret)), [.tmp (.l 4)]⟩
/-- tarpaulin/expire.New -/
def b31 : Nat := 1
def a31 : AFn := ⟨(.seq (.reg [⟨.l 0, none, .mv, [.c (.p none)]⟩])
 (.seq (.reg [⟨.t 1, none, (.call 55), []⟩, ⟨.t 2, none, .mkmap, []⟩, ⟨.t 3, none, (.build [(.p none), (.m none)] [(0, 1), (1, 1)]), [.t 1, .t 2]⟩, ⟨.t 4, none, .box, [.t 3]⟩, ⟨.l 0, none, .mv, [.t 4]⟩])
 .ret)), [.tmp (.l 0)]⟩
/-- (*tarpaulin/timer.Set).make -/
def b32 : Nat := 815
def a32 : AFn := ⟨(.seq (.reg [⟨.l 5, none, .box, [.l 1]⟩, ⟨.l 8, none, .mv, [.c (.i .i64 0)]⟩, ⟨.l 9, none, .mv, [.c (.i .i64 0)]⟩])
 (.seq (.block 0 (.seq (.reg [⟨.t 11, none, .mv, [.l 2]⟩, ⟨.t 12, none, (.call 38), [.t 11]⟩, ⟨.t 13, none, .mv, [.t 12]⟩, ⟨.t 14, (some (.t 13, false)), (.fad 1), [.l 5]⟩, ⟨.t 15, (some (.t 13, false)), (.ld none), [.t 14]⟩, ⟨.t 16, (some (.t 13, false)), (.bin .lss), [.t 15, .c (.i .i64 0)]⟩, ⟨.t 17, none, .pick, [.t 13, .c (.b true), .t 16]⟩, ⟨.t 18, none, .mv, [.t 17]⟩, ⟨.t 19, (some (.t 18, false)), (.fad 0), [.l 5]⟩, ⟨.t 20, (some (.t 18, false)), (.ld none), [.t 19]⟩, ⟨.t 21, (some (.t 18, false)), (.bin .eql), [.t 20, .c (.i .i64 2)]⟩, ⟨.t 22, (some (.t 18, false)), .mv, [.t 21]⟩, ⟨.t 23, (some (.t 22, true)), .mv, [.l 3]⟩, ⟨.t 24, (some (.t 22, true)), (.bin .lss), [.t 23, .c (.i .i64 1)]⟩, ⟨.t 25, (some (.t 18, false)), .pick, [.t 22, .t 24, .c (.b false)]⟩, ⟨.t 26, none, .pick, [.t 18, .c (.b true), .t 25]⟩, ⟨.t 10, none, .mv, [.t 26]⟩])
 (.cond (.t 10) (.seq (.reg [⟨.l 8, none, .mv, [.c (.i .i64 0)]⟩, ⟨.l 9, none, .mv, [.c (.i .i64 1)]⟩])
 .ret) (.seq (.seq (.reg [⟨.t 28, none, .mv, [.l 0]⟩, ⟨.t 29, none, (.eq false .ptr), [.t 28, .c (.p none)]⟩, ⟨.t 27, none, .mv, [.t 29]⟩])
 (.cond (.t 27) .skip (.reg [⟨.t 30, none, (.fad 0), [.l 5]⟩, ⟨.t 31, none, (.ld none), [.t 30]⟩, ⟨.t 32, none, (.bin .neq), [.t 31, .c (.i .i64 4)]⟩, ⟨.t 33, none, .mv, [.t 32]⟩, ⟨.t 34, (some (.t 33, true)), .mv, [.l 0]⟩, ⟨.t 35, (some (.t 33, true)), .nilchk, [.t 34]⟩, ⟨.t 36, (some (.t 33, true)), (.fad 2), [.t 35]⟩, ⟨.t 37, (some (.t 33, true)), (.ld none), [.t 36]⟩, ⟨.t 38, (some (.t 33, true)), (.bin .geq), [.t 37, .c (.i .i64 64)]⟩, ⟨.t 39, none, .pick, [.t 33, .t 38, .c (.b false)]⟩, ⟨.t 27, none, .mv, [.t 39]⟩])))
 (.cond (.t 27) (.seq (.reg [⟨.l 8, none, .mv, [.c (.i .i64 0)]⟩, ⟨.l 9, none, .mv, [.c (.i .i64 3)]⟩])
 .ret) .skip)))))
 (.seq (.seq (.reg [⟨.t 40, none, (.fad 0), [.l 5]⟩, ⟨.t 41, none, (.ld none), [.t 40]⟩, ⟨.t 42, none, (.bin .neq), [.t 41, .c (.i .i64 4)]⟩])
 (.cond (.t 42) (.reg [⟨.t 43, none, .mv, [.l 0]⟩, ⟨.t 44, none, .nilchk, [.t 43]⟩, ⟨.t 45, none, (.fad 2), [.t 44]⟩, ⟨.t 46, none, (.ld none), [.t 45]⟩, ⟨.t 47, none, (.bin .add), [.t 46, .c (.i .i64 1)]⟩, ⟨.t 48, none, .nilchk, [.t 43]⟩, ⟨.t 49, none, (.fad 2), [.t 48]⟩, ⟨.no, none, (.st 1), [.t 49, .t 47]⟩]) .skip))
 (.seq (.reg [⟨.t 50, none, .mv, [.l 0]⟩, ⟨.t 51, none, .mv, [.l 0]⟩, ⟨.t 52, none, .nilchk, [.t 51]⟩, ⟨.t 53, none, (.fad 0), [.t 52]⟩, ⟨.t 54, none, (.ld none), [.t 53]⟩, ⟨.t 55, none, (.ld (some 4)), [.l 5]⟩, ⟨.t 56, none, (.bslice [(.i .i64 0), (.i .i64 0), (.p none), (.i .i64 0)] 1 4 [0]), [.t 55]⟩, ⟨.t 57, none, (.app 4 32), [.t 54, .t 56]⟩, ⟨.t 58, none, .nilchk, [.t 50]⟩, ⟨.t 59, none, (.fad 0), [.t 58]⟩, ⟨.no, none, (.st 1), [.t 59, .t 57]⟩])
 (.seq (.reg [⟨.t 60, none, .mv, [.l 0]⟩, ⟨.t 61, none, .mv, [.l 0]⟩, ⟨.t 62, none, .nilchk, [.t 61]⟩, ⟨.t 63, none, (.fad 0), [.t 62]⟩, ⟨.t 64, none, (.ld none), [.t 63]⟩, ⟨.t 65, none, .lenSl, [.t 64]⟩, ⟨.t 66, none, (.bin .sub), [.t 65, .c (.i .i64 1)]⟩, ⟨.t 67, none, .mv, [.l 2]⟩, ⟨.t 68, none, .mv, [.l 3]⟩, ⟨.t 69, none, (.call 39), [.t 60, .t 66, .t 67, .t 68]⟩])
 (.seq (.reg [⟨.t 70, none, .mv, [.l 0]⟩, ⟨.t 71, none, .nilchk, [.t 70]⟩, ⟨.t 72, none, (.fad 0), [.t 71]⟩, ⟨.t 73, none, (.ld none), [.t 72]⟩, ⟨.t 74, none, .lenSl, [.t 73]⟩, ⟨.t 75, none, (.bin .sub), [.t 74, .c (.i .i64 1)]⟩, ⟨.l 8, none, .mv, [.t 75]⟩, ⟨.l 9, none, .mv, [.c (.i .i64 0)]⟩])
 .ret)))))), [.tmp (.l 8), .tmp (.l 9)]⟩
/-- (*tarpaulin/expire.Timers).Take -/
def b33 : Nat := 7667
def a33 : AFn := ⟨(.seq (.reg [⟨.l 4, none, (.alloc [(.i .i64 0), (.i .i64 0), (.i .i64 0)]), []⟩, ⟨.l 5, none, .mv, [.c (.b false)]⟩])
 (.seq (.reg [⟨.t 14, none, .mv, [.l 0]⟩, ⟨.t 15, none, (.call 36), [.t 14]⟩, ⟨.t 13, none, .mv, [.t 15]⟩, ⟨.t 16, none, (.ext 0), [.t 13]⟩, ⟨.t 17, none, (.ext 1), [.t 13]⟩, ⟨.l 6, none, .mv, [.t 16]⟩, ⟨.l 7, none, .mv, [.t 17]⟩])
 (.seq (.seq (.reg [⟨.t 18, none, .mv, [.l 7]⟩, ⟨.t 19, none, (.un .not), [.t 18]⟩, ⟨.t 20, none, .mv, [.t 19]⟩, ⟨.t 21, (some (.t 20, false)), .mv, [.l 1]⟩, ⟨.t 22, (some (.t 20, false)), (.bin .lss), [.t 21, .c (.i .i64 0)]⟩, ⟨.t 23, none, .pick, [.t 20, .c (.b true), .t 22]⟩, ⟨.t 24, none, .mv, [.t 23]⟩, ⟨.t 25, (some (.t 24, false)), .mv, [.l 6]⟩, ⟨.t 26, (some (.t 24, false)), .mv, [.l 1]⟩, ⟨.t 27, (some (.t 24, false)), (.bin .gtr), [.t 25, .t 26]⟩, ⟨.t 28, none, .pick, [.t 24, .c (.b true), .t 27]⟩])
 (.cond (.t 28) (.seq (.reg [⟨.t 29, none, (.build [(.i .i64 0), (.i .i64 0), (.i .i64 0)] []), []⟩, ⟨.no, none, (.st 3), [.l 4, .t 29]⟩, ⟨.l 5, none, .mv, [.c (.b false)]⟩])
 .ret) .skip))
 (.seq (.reg [⟨.t 31, none, .mv, [.l 0]⟩, ⟨.t 32, none, .nilchk, [.t 31]⟩, ⟨.t 33, none, (.fad 0), [.t 32]⟩, ⟨.t 34, none, (.ld none), [.t 33]⟩, ⟨.t 35, none, (.call 56), [.t 34]⟩, ⟨.t 30, none, .mv, [.t 35]⟩, ⟨.t 36, none, (.ext 0), [.t 30]⟩, ⟨.t 37, none, (.ext 1), [.t 30]⟩, ⟨.l 8, none, (.alloc [(.i .i64 0), (.i .i64 0), (.i .i64 0)]), []⟩, ⟨.no, none, (.st 3), [.l 8, .t 36]⟩, ⟨.t 9, none, .mv, [.t 37]⟩])
 (.seq (.reg [⟨.t 38, none, .mv, [.l 0]⟩, ⟨.t 39, none, .nilchk, [.t 38]⟩, ⟨.t 40, none, (.fad 1), [.t 39]⟩, ⟨.t 41, none, (.ld none), [.t 40]⟩, ⟨.t 42, none, (.fad 0), [.l 8]⟩, ⟨.t 43, none, (.ld none), [.t 42]⟩, ⟨.t 44, none, (.lkup (.i .i64 0) false), [.t 41, .t 43]⟩, ⟨.l 10, none, .mv, [.t 44]⟩])
 (.seq (.reg [⟨.t 45, none, .mv, [.l 0]⟩, ⟨.t 46, none, .nilchk, [.t 45]⟩, ⟨.t 47, none, (.fad 1), [.t 46]⟩, ⟨.t 48, none, (.ld none), [.t 47]⟩, ⟨.t 49, none, (.fad 0), [.l 8]⟩, ⟨.t 50, none, (.ld none), [.t 49]⟩, ⟨.no, none, .mdel, [.t 48, .t 50]⟩])
 (.seq (.seq (.reg [⟨.t 52, none, .mv, [.l 6]⟩, ⟨.t 53, none, .mv, [.l 10]⟩, ⟨.t 54, none, .mv, [.l 1]⟩, ⟨.t 55, none, (.call 57), [.t 52, .t 53, .t 54]⟩, ⟨.t 51, none, .mv, [.t 55]⟩, ⟨.t 56, none, (.ext 0), [.t 51]⟩, ⟨.t 57, none, (.ext 1), [.t 51]⟩, ⟨.l 11, none, .mv, [.t 56]⟩, ⟨.l 12, none, .mv, [.t 57]⟩])
 (.seq (.reg [⟨.t 58, none, .mv, [.l 12]⟩, ⟨.t 59, none, (.bin .eql), [.t 58, .c (.i .i64 0)]⟩, ⟨.t 60, none, .mv, [.t 59]⟩, ⟨.t 61, (some (.t 60, true)), .mv, [.l 11]⟩, ⟨.t 62, (some (.t 60, true)), .mv, [.l 1]⟩, ⟨.t 63, (some (.t 60, true)), (.bin .gtr), [.t 61, .t 62]⟩, ⟨.t 64, none, .pick, [.t 60, .t 63, .c (.b false)]⟩])
 (.cond (.t 64) (.reg [⟨.t 65, none, .mv, [.l 0]⟩, ⟨.t 66, none, (.fad 0), [.l 8]⟩, ⟨.t 67, none, (.ld none), [.t 66]⟩, ⟨.t 68, none, .mv, [.l 11]⟩, ⟨.t 69, none, .mv, [.l 10]⟩, ⟨.t 70, none, (.call 58), [.t 65, .t 67, .t 68, .t 69]⟩]) .skip)))
 (.seq (.reg [⟨.t 71, none, (.fad 0), [.l 8]⟩, ⟨.t 72, none, (.ld none), [.t 71]⟩, ⟨.t 73, none, .mv, [.l 6]⟩, ⟨.t 74, none, .mv, [.l 1]⟩, ⟨.t 75, none, (.build [(.i .i64 0), (.i .i64 0), (.i .i64 0)] [(0, 1), (1, 1), (2, 1)]), [.t 72, .t 73, .t 74]⟩, ⟨.no, none, (.st 3), [.l 4, .t 75]⟩, ⟨.l 5, none, .mv, [.c (.b true)]⟩])
 .ret)))))))), [.cell (.l 4) (some 3), .tmp (.l 5)]⟩
/-- (*tarpaulin/chanq.Chan).Put -/
def b34 : Nat := 51
def a34 : AFn := ⟨(.seq (.reg [⟨.l 4, none, .mv, [.c (.sl none 0 0 0)]⟩, ⟨.l 5, none, .mv, [.c (.b false)]⟩])
 (.seq (.seq (.reg [⟨.t 6, none, .mv, [.l 0]⟩, ⟨.t 7, none, (.eq false .ptr), [.t 6, .c (.p none)]⟩, ⟨.t 8, none, .mv, [.t 7]⟩, ⟨.t 9, (some (.t 8, false)), .mv, [.l 0]⟩, ⟨.t 10, (some (.t 8, false)), .nilchk, [.t 9]⟩, ⟨.t 11, (some (.t 8, false)), (.fad 3), [.t 10]⟩, ⟨.t 12, (some (.t 8, false)), (.ld none), [.t 11]⟩, ⟨.t 13, (some (.t 8, false)), (.un .not), [.t 12]⟩, ⟨.t 14, none, .pick, [.t 8, .c (.b true), .t 13]⟩])
 (.cond (.t 14) (.seq (.reg [⟨.l 4, none, .mv, [.c (.sl none 0 0 0)]⟩, ⟨.l 5, none, .mv, [.c (.b false)]⟩])
 .ret) .skip))
 (.seq (.seq (.reg [⟨.t 15, none, .mv, [.l 0]⟩, ⟨.t 16, none, .mv, [.l 1]⟩, ⟨.t 17, none, (.call 59), [.t 15, .t 16]⟩, ⟨.l 4, none, .mv, [.t 17]⟩])
 (.seq (.reg [⟨.t 18, none, .mv, [.l 4]⟩, ⟨.t 19, none, .lenSl, [.t 18]⟩, ⟨.t 20, none, (.bin .gtr), [.t 19, .c (.i .i64 0)]⟩])
 (.cond (.t 20) (.seq (.reg [⟨.t 21, none, .mv, [.l 4]⟩, ⟨.l 4, none, .mv, [.t 21]⟩, ⟨.l 5, none, .mv, [.c (.b true)]⟩])
 .ret) .skip)))
 (.seq (.reg [⟨.t 22, none, .mv, [.l 0]⟩, ⟨.t 23, none, .nilchk, [.t 22]⟩, ⟨.t 24, none, (.fad 0), [.t 23]⟩, ⟨.t 25, none, (.ld none), [.t 24]⟩, ⟨.t 26, none, .mv, [.l 1]⟩, ⟨.t 27, none, (.call 44), [.t 25, .t 26]⟩, ⟨.l 4, none, .mv, [.c (.sl none 0 0 0)]⟩, ⟨.l 5, none, .mv, [.t 27]⟩])
 .ret)))), [.tmp (.l 4), .tmp (.l 5)]⟩
/-- (*tarpaulin/timer.Set).channel -/
def b35 : Nat := 16143
def a35 : AFn := ⟨(.seq (.reg [⟨.l 8, none, .mv, [.c (.i .i64 0)]⟩, ⟨.l 9, none, .mv, [.c (.p none)]⟩, ⟨.l 10, none, .mv, [.c (.i .i64 0)]⟩])
 (.seq (.reg [⟨.t 14, none, (.call 60), []⟩, ⟨.l 11, none, .mv, [.t 14]⟩])
 (.seq (.reg [⟨.t 16, none, .mv, [.l 0]⟩, ⟨.t 17, none, .mv, [.l 1]⟩, ⟨.t 18, none, .mv, [.l 11]⟩, ⟨.t 19, none, (.build [(.i .i64 0), (.i .i64 0), (.p none), (.i .i64 0)] [(0, 1), (2, 1)]), [.t 17, .t 18]⟩, ⟨.t 20, none, .mv, [.l 2]⟩, ⟨.t 21, none, .mv, [.l 3]⟩, ⟨.t 22, none, (.call 32), [.t 16, .t 19, .t 20, .t 21]⟩, ⟨.t 15, none, .mv, [.t 22]⟩, ⟨.t 23, none, (.ext 0), [.t 15]⟩, ⟨.t 24, none, (.ext 1), [.t 15]⟩, ⟨.l 12, none, .mv, [.t 23]⟩, ⟨.l 13, none, .mv, [.t 24]⟩])
 (.seq (.seq (.reg [⟨.t 25, none, .mv, [.l 13]⟩, ⟨.t 26, none, (.bin .neq), [.t 25, .c (.i .i64 0)]⟩])
 (.cond (.t 26) (.seq (.reg [⟨.t 27, none, .mv, [.l 13]⟩, ⟨.l 8, none, .mv, [.c (.i .i64 0)]⟩, ⟨.l 9, none, .mv, [.c (.p none)]⟩, ⟨.l 10, none, .mv, [.t 27]⟩])
 .ret) .skip))
 (.seq (.reg [⟨.t 28, none, .mv, [.l 12]⟩, ⟨.t 29, none, .mv, [.l 11]⟩, ⟨.l 8, none, .mv, [.t 28]⟩, ⟨.l 9, none, .mv, [.t 29]⟩, ⟨.l 10, none, .mv, [.c (.i .i64 0)]⟩])
 .ret))))), [.tmp (.l 8), .tmp (.l 9), .tmp (.l 10)]⟩
/-- (*tarpaulin/expire.Timers).Next -/
def b36 : Nat := 61
def a36 : AFn := ⟨(.seq (.reg [⟨.l 2, none, .mv, [.c (.i .i64 0)]⟩, ⟨.l 3, none, .mv, [.c (.b false)]⟩])
 (.seq (.seq (.reg [⟨.t 6, none, .mv, [.l 0]⟩, ⟨.t 7, none, (.eq false .ptr), [.t 6, .c (.p none)]⟩])
 (.cond (.t 7) (.seq (.reg [⟨.l 2, none, .mv, [.c (.i .i64 0)]⟩, ⟨.l 3, none, .mv, [.c (.b false)]⟩])
 .ret) .skip))
 (.seq (.reg [⟨.t 9, none, .mv, [.l 0]⟩, ⟨.t 10, none, .nilchk, [.t 9]⟩, ⟨.t 11, none, (.fad 0), [.t 10]⟩, ⟨.t 12, none, (.ld none), [.t 11]⟩, ⟨.t 13, none, (.call 61), [.t 12]⟩, ⟨.t 8, none, .mv, [.t 13]⟩, ⟨.t 14, none, (.ext 0), [.t 8]⟩, ⟨.t 15, none, (.ext 1), [.t 8]⟩, ⟨.l 4, none, (.alloc [(.i .i64 0), (.i .i64 0), (.i .i64 0)]), []⟩, ⟨.no, none, (.st 3), [.l 4, .t 14]⟩, ⟨.l 5, none, .mv, [.t 15]⟩])
 (.seq (.reg [⟨.t 16, none, (.fad 1), [.l 4]⟩, ⟨.t 17, none, (.ld none), [.t 16]⟩, ⟨.t 18, none, .mv, [.l 5]⟩, ⟨.l 2, none, .mv, [.t 17]⟩, ⟨.l 3, none, .mv, [.t 18]⟩])
 .ret)))), [.tmp (.l 2), .tmp (.l 3)]⟩
/-- (*tarpaulin/timer.Set).has -/
def b37 : Nat := 19
def a37 : AFn := ⟨(.seq (.reg [⟨.l 4, none, .mv, [.c (.b false)]⟩])
 (.seq (.reg [⟨.t 5, none, .mv, [.l 0]⟩, ⟨.t 6, none, (.eq true .ptr), [.t 5, .c (.p none)]⟩, ⟨.t 7, none, .mv, [.t 6]⟩, ⟨.t 8, (some (.t 7, true)), .mv, [.l 1]⟩, ⟨.t 9, (some (.t 7, true)), (.bin .geq), [.t 8, .c (.i .i64 0)]⟩, ⟨.t 10, none, .pick, [.t 7, .t 9, .c (.b false)]⟩, ⟨.t 11, none, .mv, [.t 10]⟩, ⟨.t 12, (some (.t 11, true)), .mv, [.l 1]⟩, ⟨.t 13, (some (.t 11, true)), .mv, [.l 0]⟩, ⟨.t 14, (some (.t 11, true)), .nilchk, [.t 13]⟩, ⟨.t 15, (some (.t 11, true)), (.fad 0), [.t 14]⟩, ⟨.t 16, (some (.t 11, true)), (.ld none), [.t 15]⟩, ⟨.t 17, (some (.t 11, true)), .lenSl, [.t 16]⟩, ⟨.t 18, (some (.t 11, true)), (.bin .lss), [.t 12, .t 17]⟩, ⟨.t 19, none, .pick, [.t 11, .t 18, .c (.b false)]⟩, ⟨.l 4, none, .mv, [.t 19]⟩])
 .ret)), [.tmp (.l 4)]⟩
/-- tarpaulin/timer.bad -/
def b38 : Nat := 5
def a38 : AFn := ⟨(.seq (.reg [⟨.l 2, none, .mv, [.c (.b false)]⟩])
 (.seq (.reg [⟨.t 3, none, .mv, [.l 0]⟩, ⟨.t 4, none, (.bin .lss), [.t 3, .c (.i .i64 0)]⟩, ⟨.t 5, none, .mv, [.t 4]⟩, ⟨.t 6, (some (.t 5, false)), .mv, [.l 0]⟩, ⟨.t 7, (some (.t 5, false)), (.bin .gtr), [.t 6, .c (.i .i64 4611686018427387904)]⟩, ⟨.t 8, none, .pick, [.t 5, .c (.b true), .t 7]⟩, ⟨.l 2, none, .mv, [.t 8]⟩])
 .ret)), [.tmp (.l 2)]⟩
/-- (*tarpaulin/timer.Set).arm -/
def b39 : Nat := 271
def a39 : AFn := ⟨(.seq (.reg [⟨.l 8, none, .mv, [.c (.i .i64 0)]⟩])
 (.seq (.seq (.reg [⟨.t 9, none, .mv, [.l 0]⟩, ⟨.t 10, none, .nilchk, [.t 9]⟩, ⟨.t 11, none, (.fad 0), [.t 10]⟩, ⟨.t 12, none, (.ld none), [.t 11]⟩, ⟨.t 13, none, .mv, [.l 1]⟩, ⟨.t 14, none, (.iad 4), [.t 12, .t 13]⟩, ⟨.t 15, none, (.fad 0), [.t 14]⟩, ⟨.t 16, none, (.ld none), [.t 15]⟩, ⟨.t 17, none, (.bin .eql), [.t 16, .c (.i .i64 2)]⟩])
 (.cond (.t 17) (.reg [⟨.t 18, none, .mv, [.l 3]⟩, ⟨.t 19, none, .min, [.t 18, .c (.i .i64 4611686018427387904)]⟩, ⟨.l 8, none, .mv, [.t 19]⟩]) .skip))
 (.seq (.regD [⟨.t 20, none, .mv, [.l 0]⟩, ⟨.t 21, none, .nilchk, [.t 20]⟩, ⟨.t 22, none, (.fad 1), [.t 21]⟩, ⟨.t 23, none, (.ld none), [.t 22]⟩, ⟨.t 24, none, .mv, [.l 1]⟩, ⟨.t 25, none, .mv, [.l 2]⟩, ⟨.t 26, none, .mv, [.l 3]⟩, ⟨.t 27, none, .max, [.t 26, .c (.i .i64 0)]⟩, ⟨.t 28, none, (.call 62), [.t 25, .t 27]⟩, ⟨.t 29, none, .mv, [.l 8]⟩, ⟨.t 30, none, (.call 58), [.t 23, .t 24, .t 28, .t 29]⟩] [(3, 9)])
 (.reg [⟨.t 31, none, .mv, [.l 0]⟩, ⟨.t 32, none, .nilchk, [.t 31]⟩, ⟨.t 33, none, (.fad 0), [.t 32]⟩, ⟨.t 34, none, (.ld none), [.t 33]⟩, ⟨.t 35, none, .mv, [.l 1]⟩, ⟨.t 36, none, (.iad 4), [.t 34, .t 35]⟩, ⟨.t 37, none, (.fad 3), [.t 36]⟩, ⟨.t 38, none, (.ld none), [.t 37]⟩, ⟨.t 39, none, (.bin .add), [.t 38, .c (.i .i64 1)]⟩, ⟨.t 40, none, (.iad 4), [.t 34, .t 35]⟩, ⟨.t 41, none, (.fad 3), [.t 40]⟩, ⟨.no, none, (.st 1), [.t 41, .t 39]⟩])))), []⟩
/-- (*tarpaulin/expire.Timers).Stop -/
def b40 : Nat := 83
def a40 : AFn := ⟨(.seq (.reg [⟨.l 4, none, .mv, [.c (.b false)]⟩])
 (.seq (.seq (.reg [⟨.t 7, none, .mv, [.l 0]⟩, ⟨.t 8, none, (.eq false .ptr), [.t 7, .c (.p none)]⟩])
 (.cond (.t 8) (.seq (.reg [⟨.l 4, none, .mv, [.c (.b false)]⟩])
 .ret) .skip))
 (.seq (.reg [⟨.t 10, none, .mv, [.l 0]⟩, ⟨.t 11, none, .nilchk, [.t 10]⟩, ⟨.t 12, none, (.fad 0), [.t 11]⟩, ⟨.t 13, none, (.ld none), [.t 12]⟩, ⟨.t 14, none, .mv, [.l 1]⟩, ⟨.t 15, none, (.call 63), [.t 13, .t 14]⟩, ⟨.t 9, none, .mv, [.t 15]⟩, ⟨.t 16, none, (.ext 0), [.t 9]⟩, ⟨.t 17, none, (.ext 1), [.t 9]⟩, ⟨.t 5, none, (.alloc [(.i .i64 0), (.i .i64 0), (.i .i64 0)]), []⟩, ⟨.no, none, (.st 3), [.t 5, .t 16]⟩, ⟨.l 6, none, .mv, [.t 17]⟩])
 (.seq (.reg [⟨.t 18, none, .mv, [.l 0]⟩, ⟨.t 19, none, .nilchk, [.t 18]⟩, ⟨.t 20, none, (.fad 1), [.t 19]⟩, ⟨.t 21, none, (.ld none), [.t 20]⟩, ⟨.t 22, none, .mv, [.l 1]⟩, ⟨.no, none, .mdel, [.t 21, .t 22]⟩])
 (.seq (.reg [⟨.t 23, none, .mv, [.l 6]⟩, ⟨.l 4, none, .mv, [.t 23]⟩])
 .ret))))), [.tmp (.l 4)]⟩
/-- (*tarpaulin/chanq.Chan).Drop -/
def b41 : Nat := 5
def a41 : AFn := ⟨(.seq (.reg [⟨.l 2, none, .mv, [.c (.b false)]⟩])
 (.seq (.reg [⟨.t 3, none, .mv, [.l 0]⟩, ⟨.t 4, none, (.eq true .ptr), [.t 3, .c (.p none)]⟩, ⟨.t 5, none, .mv, [.t 4]⟩, ⟨.t 6, (some (.t 5, true)), .mv, [.l 0]⟩, ⟨.t 7, (some (.t 5, true)), .nilchk, [.t 6]⟩, ⟨.t 8, (some (.t 5, true)), (.fad 3), [.t 7]⟩, ⟨.t 9, (some (.t 5, true)), (.ld none), [.t 8]⟩, ⟨.t 10, none, .pick, [.t 5, .t 9, .c (.b false)]⟩, ⟨.t 11, none, .mv, [.t 10]⟩, ⟨.t 12, (some (.t 11, true)), .mv, [.l 0]⟩, ⟨.t 13, (some (.t 11, true)), .nilchk, [.t 12]⟩, ⟨.t 14, (some (.t 11, true)), (.fad 0), [.t 13]⟩, ⟨.t 15, (some (.t 11, true)), (.ld none), [.t 14]⟩, ⟨.t 16, (some (.t 11, true)), (.call 64), [.t 15]⟩, ⟨.t 17, (some (.t 11, true)), (.bin .gtr), [.t 16, .c (.i .i64 0)]⟩, ⟨.t 18, none, .pick, [.t 11, .t 17, .c (.b false)]⟩, ⟨.l 2, none, .mv, [.t 18]⟩])
 .ret)), [.tmp (.l 2)]⟩
/-- (*tarpaulin/ring.Ring).Pop -/
def b42 : Nat := 29
def a42 : AFn := ⟨(.seq (.reg [⟨.l 2, none, .mv, [.c (.i .i64 0)]⟩, ⟨.l 3, none, .mv, [.c (.b false)]⟩])
 (.seq (.seq (.reg [⟨.t 5, none, .mv, [.l 0]⟩, ⟨.t 6, none, (.eq false .ptr), [.t 5, .c (.p none)]⟩, ⟨.t 7, none, .mv, [.t 6]⟩, ⟨.t 8, (some (.t 7, false)), .mv, [.l 0]⟩, ⟨.t 9, (some (.t 7, false)), .nilchk, [.t 8]⟩, ⟨.t 10, (some (.t 7, false)), (.fad 2), [.t 9]⟩, ⟨.t 11, (some (.t 7, false)), (.ld none), [.t 10]⟩, ⟨.t 12, (some (.t 7, false)), (.bin .eql), [.t 11, .c (.i .i64 0)]⟩, ⟨.t 13, none, .pick, [.t 7, .c (.b true), .t 12]⟩])
 (.cond (.t 13) (.seq (.reg [⟨.l 2, none, .mv, [.c (.i .i64 0)]⟩, ⟨.l 3, none, .mv, [.c (.b false)]⟩])
 .ret) .skip))
 (.seq (.reg [⟨.t 14, none, .mv, [.l 0]⟩, ⟨.t 15, none, .nilchk, [.t 14]⟩, ⟨.t 16, none, (.fad 0), [.t 15]⟩, ⟨.t 17, none, (.ld none), [.t 16]⟩, ⟨.t 18, none, .mv, [.l 0]⟩, ⟨.t 19, none, .nilchk, [.t 18]⟩, ⟨.t 20, none, (.fad 1), [.t 19]⟩, ⟨.t 21, none, (.ld none), [.t 20]⟩, ⟨.t 22, none, (.iad 1), [.t 17, .t 21]⟩, ⟨.t 23, none, (.ld none), [.t 22]⟩, ⟨.l 4, none, .mv, [.t 23]⟩])
 (.seq (.reg [⟨.t 24, none, .mv, [.l 0]⟩, ⟨.t 25, none, .mv, [.l 0]⟩, ⟨.t 26, none, .nilchk, [.t 25]⟩, ⟨.t 27, none, (.fad 1), [.t 26]⟩, ⟨.t 28, none, (.ld none), [.t 27]⟩, ⟨.t 29, none, (.bin .add), [.t 28, .c (.i .i64 1)]⟩, ⟨.t 30, none, .mv, [.l 0]⟩, ⟨.t 31, none, .nilchk, [.t 30]⟩, ⟨.t 32, none, (.fad 0), [.t 31]⟩, ⟨.t 33, none, (.ld none), [.t 32]⟩, ⟨.t 34, none, .lenSl, [.t 33]⟩, ⟨.t 35, none, (.bin .rem), [.t 29, .t 34]⟩, ⟨.t 36, none, .nilchk, [.t 24]⟩, ⟨.t 37, none, (.fad 1), [.t 36]⟩, ⟨.no, none, (.st 1), [.t 37, .t 35]⟩])
 (.seq (.reg [⟨.t 38, none, .mv, [.l 0]⟩, ⟨.t 39, none, .nilchk, [.t 38]⟩, ⟨.t 40, none, (.fad 2), [.t 39]⟩, ⟨.t 41, none, (.ld none), [.t 40]⟩, ⟨.t 42, none, (.bin .sub), [.t 41, .c (.i .i64 1)]⟩, ⟨.t 43, none, .nilchk, [.t 38]⟩, ⟨.t 44, none, (.fad 2), [.t 43]⟩, ⟨.no, none, (.st 1), [.t 44, .t 42]⟩])
 (.seq (.reg [⟨.t 45, none, .mv, [.l 4]⟩, ⟨.l 2, none, .mv, [.t 45]⟩, ⟨.l 3, none, .mv, [.c (.b true)]⟩])
 .ret)))))), [.tmp (.l 2), .tmp (.l 3)]⟩
/-- (*tarpaulin/wait.Queue).Pop -/
def b43 : Nat := 13
def a43 : AFn := ⟨(.seq (.reg [⟨.l 2, none, (.alloc [(.i .i64 0), (.i .i64 0), (.i .i64 0)]), []⟩, ⟨.l 3, none, .mv, [.c (.b false)]⟩])
 (.seq (.reg [⟨.t 4, none, .mv, [.l 0]⟩, ⟨.t 5, none, (.call 65), [.t 4, .c (.fn 66 [] [])]⟩, ⟨.t 6, none, (.ext 0), [.t 5]⟩, ⟨.t 7, none, (.ext 1), [.t 5]⟩, ⟨.no, none, (.st 3), [.l 2, .t 6]⟩, ⟨.l 3, none, .mv, [.t 7]⟩])
 .ret)), [.cell (.l 2) (some 3), .tmp (.l 3)]⟩
/-- (*tarpaulin/ring.Ring).Push -/
def b44 : Nat := 19
def a44 : AFn := ⟨(.seq (.reg [⟨.l 4, none, .mv, [.c (.b false)]⟩])
 (.seq (.seq (.reg [⟨.t 5, none, .mv, [.l 0]⟩, ⟨.t 6, none, (.eq false .ptr), [.t 5, .c (.p none)]⟩, ⟨.t 7, none, .mv, [.t 6]⟩, ⟨.t 8, (some (.t 7, false)), .mv, [.l 0]⟩, ⟨.t 9, (some (.t 7, false)), .nilchk, [.t 8]⟩, ⟨.t 10, (some (.t 7, false)), (.fad 2), [.t 9]⟩, ⟨.t 11, (some (.t 7, false)), (.ld none), [.t 10]⟩, ⟨.t 12, (some (.t 7, false)), .mv, [.l 0]⟩, ⟨.t 13, (some (.t 7, false)), .nilchk, [.t 12]⟩, ⟨.t 14, (some (.t 7, false)), (.fad 0), [.t 13]⟩, ⟨.t 15, (some (.t 7, false)), (.ld none), [.t 14]⟩, ⟨.t 16, (some (.t 7, false)), .lenSl, [.t 15]⟩, ⟨.t 17, (some (.t 7, false)), (.bin .eql), [.t 11, .t 16]⟩, ⟨.t 18, none, .pick, [.t 7, .c (.b true), .t 17]⟩])
 (.cond (.t 18) (.seq (.reg [⟨.l 4, none, .mv, [.c (.b false)]⟩])
 .ret) .skip))
 (.seq (.reg [⟨.t 19, none, .mv, [.l 0]⟩, ⟨.t 20, none, .nilchk, [.t 19]⟩, ⟨.t 21, none, (.fad 0), [.t 20]⟩, ⟨.t 22, none, (.ld none), [.t 21]⟩, ⟨.t 23, none, .mv, [.l 0]⟩, ⟨.t 24, none, .nilchk, [.t 23]⟩, ⟨.t 25, none, (.fad 1), [.t 24]⟩, ⟨.t 26, none, (.ld none), [.t 25]⟩, ⟨.t 27, none, .mv, [.l 0]⟩, ⟨.t 28, none, .nilchk, [.t 27]⟩, ⟨.t 29, none, (.fad 2), [.t 28]⟩, ⟨.t 30, none, (.ld none), [.t 29]⟩, ⟨.t 31, none, (.bin .add), [.t 26, .t 30]⟩, ⟨.t 32, none, .mv, [.l 0]⟩, ⟨.t 33, none, .nilchk, [.t 32]⟩, ⟨.t 34, none, (.fad 0), [.t 33]⟩, ⟨.t 35, none, (.ld none), [.t 34]⟩, ⟨.t 36, none, .lenSl, [.t 35]⟩, ⟨.t 37, none, (.bin .rem), [.t 31, .t 36]⟩, ⟨.t 38, none, .mv, [.l 1]⟩, ⟨.t 39, none, (.iad 1), [.t 22, .t 37]⟩, ⟨.no, none, (.st 1), [.t 39, .t 38]⟩])
 (.seq (.reg [⟨.t 40, none, .mv, [.l 0]⟩, ⟨.t 41, none, .nilchk, [.t 40]⟩, ⟨.t 42, none, (.fad 2), [.t 41]⟩, ⟨.t 43, none, (.ld none), [.t 42]⟩, ⟨.t 44, none, (.bin .add), [.t 43, .c (.i .i64 1)]⟩, ⟨.t 45, none, .nilchk, [.t 40]⟩, ⟨.t 46, none, (.fad 2), [.t 45]⟩, ⟨.no, none, (.st 1), [.t 46, .t 44]⟩])
 (.seq (.reg [⟨.l 4, none, .mv, [.c (.b true)]⟩])
 .ret))))), [.tmp (.l 4)]⟩
/-- (*tarpaulin/chanq.Chan).Mute -/
def b45 : Nat := 5
def a45 : AFn := ⟨(.seq (.reg [⟨.l 2, none, .mv, [.c (.b false)]⟩])
 (.seq (.reg [⟨.t 3, none, .mv, [.l 0]⟩, ⟨.t 4, none, (.eq true .ptr), [.t 3, .c (.p none)]⟩, ⟨.t 5, none, .mv, [.t 4]⟩, ⟨.t 6, (some (.t 5, true)), .mv, [.l 0]⟩, ⟨.t 7, (some (.t 5, true)), .nilchk, [.t 6]⟩, ⟨.t 8, (some (.t 5, true)), (.fad 3), [.t 7]⟩, ⟨.t 9, (some (.t 5, true)), (.ld none), [.t 8]⟩, ⟨.t 10, (some (.t 5, true)), .mv, [.t 9]⟩, ⟨.t 11, (some (.t 10, false)), .mv, [.l 0]⟩, ⟨.t 12, (some (.t 10, false)), .nilchk, [.t 11]⟩, ⟨.t 13, (some (.t 10, false)), (.fad 4), [.t 12]⟩, ⟨.t 14, (some (.t 10, false)), (.ld none), [.t 13]⟩, ⟨.t 15, (some (.t 5, true)), .pick, [.t 10, .c (.b true), .t 14]⟩, ⟨.t 16, none, .pick, [.t 5, .t 15, .c (.b false)]⟩, ⟨.l 2, none, .mv, [.t 16]⟩])
 .ret)), [.tmp (.l 2)]⟩
/-- (*tarpaulin/chanq.Chan).free -/
def b46 : Nat := 19
def a46 : AFn := ⟨(.seq (.reg [⟨.l 4, none, .mv, [.c (.b false)]⟩])
 (.seq (.seq (.reg [⟨.t 5, none, .mv, [.l 1]⟩])
 (.cond (.t 5) (.seq (.regD [⟨.t 6, none, .mv, [.l 0]⟩, ⟨.t 7, none, .nilchk, [.t 6]⟩, ⟨.t 8, none, (.fad 0), [.t 7]⟩, ⟨.t 9, none, (.ld none), [.t 8]⟩, ⟨.t 10, none, (.call 49), [.t 9]⟩, ⟨.t 11, none, .mv, [.l 0]⟩, ⟨.t 12, none, .nilchk, [.t 11]⟩, ⟨.t 13, none, (.fad 0), [.t 12]⟩, ⟨.t 14, none, (.ld none), [.t 13]⟩, ⟨.t 15, none, (.call 50), [.t 14]⟩, ⟨.t 16, none, (.bin .lss), [.t 10, .t 15]⟩, ⟨.l 4, none, .mv, [.t 16]⟩] [(8, 0)])
 .ret) .skip))
 (.seq (.reg [⟨.t 17, none, .mv, [.l 0]⟩, ⟨.t 18, none, .nilchk, [.t 17]⟩, ⟨.t 19, none, (.fad 0), [.t 18]⟩, ⟨.t 20, none, (.ld none), [.t 19]⟩, ⟨.t 21, none, (.call 49), [.t 20]⟩, ⟨.t 22, none, (.bin .gtr), [.t 21, .c (.i .i64 0)]⟩, ⟨.l 4, none, .mv, [.t 22]⟩])
 .ret))), [.tmp (.l 4)]⟩
/-- (*tarpaulin/chanq.Chan).queue -/
def b47 : Nat := 19
def a47 : AFn := ⟨(.seq (.reg [⟨.l 4, none, .mv, [.c (.p none)]⟩])
 (.seq (.block 0 (.seq (.reg [⟨.t 6, none, .mv, [.l 0]⟩, ⟨.t 7, none, (.eq false .ptr), [.t 6, .c (.p none)]⟩, ⟨.t 5, none, .mv, [.t 7]⟩])
 (.cond (.t 5) (.seq (.reg [⟨.l 4, none, .mv, [.c (.p none)]⟩])
 .ret) (.seq (.reg [⟨.t 9, none, .mv, [.l 1]⟩, ⟨.t 8, none, .mv, [.t 9]⟩])
 (.cond (.t 8) (.seq (.reg [⟨.t 10, none, .mv, [.l 0]⟩, ⟨.t 11, none, .nilchk, [.t 10]⟩, ⟨.t 12, none, (.fad 2), [.t 11]⟩, ⟨.t 13, none, (.ld none), [.t 12]⟩, ⟨.l 4, none, .mv, [.t 13]⟩])
 .ret) .skip)))))
 (.seq (.reg [⟨.t 14, none, .mv, [.l 0]⟩, ⟨.t 15, none, .nilchk, [.t 14]⟩, ⟨.t 16, none, (.fad 1), [.t 15]⟩, ⟨.t 17, none, (.ld none), [.t 16]⟩, ⟨.l 4, none, .mv, [.t 17]⟩])
 .ret))), [.tmp (.l 4)]⟩
/-- (*tarpaulin/wait.Queue).Len -/
def b48 : Nat := 5
def a48 : AFn := ⟨(.seq (.reg [⟨.l 2, none, .mv, [.c (.i .i64 0)]⟩])
 (.seq (.seq (.reg [⟨.t 3, none, .mv, [.l 0]⟩, ⟨.t 4, none, (.eq false .ptr), [.t 3, .c (.p none)]⟩])
 (.cond (.t 4) (.seq (.reg [⟨.l 2, none, .mv, [.c (.i .i64 0)]⟩])
 .ret) .skip))
 (.seq (.reg [⟨.t 5, none, .mv, [.l 0]⟩, ⟨.t 6, none, .nilchk, [.t 5]⟩, ⟨.t 7, none, (.fad 2), [.t 6]⟩, ⟨.t 8, none, (.ld none), [.t 7]⟩, ⟨.l 2, none, .mv, [.t 8]⟩])
 .ret))), [.tmp (.l 2)]⟩
/-- (*tarpaulin/ring.Ring).Len -/
def b49 : Nat := 5
def a49 : AFn := ⟨(.seq (.reg [⟨.l 2, none, .mv, [.c (.i .i64 0)]⟩])
 (.seq (.seq (.reg [⟨.t 3, none, .mv, [.l 0]⟩, ⟨.t 4, none, (.eq false .ptr), [.t 3, .c (.p none)]⟩])
 (.cond (.t 4) (.seq (.reg [⟨.l 2, none, .mv, [.c (.i .i64 0)]⟩])
 .ret) .skip))
 (.seq (.reg [⟨.t 5, none, .mv, [.l 0]⟩, ⟨.t 6, none, .nilchk, [.t 5]⟩, ⟨.t 7, none, (.fad 2), [.t 6]⟩, ⟨.t 8, none, (.ld none), [.t 7]⟩, ⟨.l 2, none, .mv, [.t 8]⟩])
 .ret))), [.tmp (.l 2)]⟩
/-- (*tarpaulin/ring.Ring).Size -/
def b50 : Nat := 5
def a50 : AFn := ⟨(.seq (.reg [⟨.l 2, none, .mv, [.c (.i .i64 0)]⟩])
 (.seq (.seq (.reg [⟨.t 3, none, .mv, [.l 0]⟩, ⟨.t 4, none, (.eq false .ptr), [.t 3, .c (.p none)]⟩])
 (.cond (.t 4) (.seq (.reg [⟨.l 2, none, .mv, [.c (.i .i64 0)]⟩])
 .ret) .skip))
 (.seq (.reg [⟨.t 5, none, .mv, [.l 0]⟩, ⟨.t 6, none, .nilchk, [.t 5]⟩, ⟨.t 7, none, (.fad 0), [.t 6]⟩, ⟨.t 8, none, (.ld none), [.t 7]⟩, ⟨.t 9, none, .lenSl, [.t 8]⟩, ⟨.l 2, none, .mv, [.t 9]⟩])
 .ret))), [.tmp (.l 2)]⟩
/-- (*tarpaulin/chanq.Chan).Wait$1 -/
def b51 : Nat := 15
def a51 : AFn := ⟨(.seq (.reg [⟨.l 2, none, .box, [.l 0]⟩, ⟨.l 3, none, .mv, [.c (.b false)]⟩])
 (.seq (.reg [⟨.t 4, none, (.fad 0), [.l 2]⟩, ⟨.t 5, none, (.ld none), [.t 4]⟩, ⟨.t 6, none, (.fad 0), [.l 1]⟩, ⟨.t 7, none, (.ld none), [.t 6]⟩, ⟨.t 8, none, (.bin .neq), [.t 5, .t 7]⟩, ⟨.l 3, none, .mv, [.t 8]⟩])
 .ret)), [.tmp (.l 3)]⟩
/-- slices.ContainsFunc[[]tarpaulin/api.Wait,tarpaulin/api.Wait] -/
def b52 : Nat := 19
def a52 : AFn := ⟨(.seq (.reg [⟨.l 4, none, .mv, [.c (.b false)]⟩])
 (.seq (.reg [⟨.t 5, none, .mv, [.l 0]⟩, ⟨.t 6, none, .mv, [.l 1]⟩, ⟨.t 7, none, (.call 67), [.t 5, .t 6]⟩, ⟨.t 8, none, (.bin .geq), [.t 7, .c (.i .i64 0)]⟩, ⟨.l 4, none, .mv, [.t 8]⟩])
 .ret)), [.tmp (.l 4)]⟩
/-- (*tarpaulin/wait.Queue).Push -/
def b53 : Nat := 59
def a53 : AFn := ⟨(.seq (.reg [⟨.l 3, none, .box, [.l 1]⟩, ⟨.l 4, none, .mv, [.c (.i .i64 0)]⟩])
 (.seq (.seq (.reg [⟨.t 6, none, .mv, [.l 0]⟩, ⟨.t 7, none, (.eq false .ptr), [.t 6, .c (.p none)]⟩])
 (.cond (.t 7) (.seq (.reg [⟨.l 4, none, .mv, [.c (.i .i64 0)]⟩])
 .ret) .skip))
 (.seq (.reg [⟨.t 8, none, (.ld (some 3)), [.l 3]⟩, ⟨.t 9, none, .mv, [.l 0]⟩, ⟨.t 10, none, .nilchk, [.t 9]⟩, ⟨.t 11, none, (.fad 1), [.t 10]⟩, ⟨.t 12, none, (.ld none), [.t 11]⟩, ⟨.t 13, none, (.build [(.i .i64 0), (.i .i64 0), (.i .i64 0), (.p none), (.p none)] [(0, 3), (3, 1)]), [.t 8, .t 12]⟩, ⟨.t 14, none, .box, [.t 13]⟩, ⟨.l 5, none, .mv, [.t 14]⟩])
 (.seq (.seq (.reg [⟨.t 15, none, .mv, [.l 0]⟩, ⟨.t 16, none, .nilchk, [.t 15]⟩, ⟨.t 17, none, (.fad 1), [.t 16]⟩, ⟨.t 18, none, (.ld none), [.t 17]⟩, ⟨.t 19, none, (.eq false .ptr), [.t 18, .c (.p none)]⟩])
 (.cond (.t 19) (.reg [⟨.t 20, none, .mv, [.l 0]⟩, ⟨.t 21, none, .mv, [.l 5]⟩, ⟨.t 22, none, .nilchk, [.t 20]⟩, ⟨.t 23, none, (.fad 0), [.t 22]⟩, ⟨.no, none, (.st 1), [.t 23, .t 21]⟩]) (.reg [⟨.t 24, none, .mv, [.l 0]⟩, ⟨.t 25, none, .nilchk, [.t 24]⟩, ⟨.t 26, none, (.fad 1), [.t 25]⟩, ⟨.t 27, none, (.ld none), [.t 26]⟩, ⟨.t 28, none, .mv, [.l 5]⟩, ⟨.t 29, none, .nilchk, [.t 27]⟩, ⟨.t 30, none, (.fad 4), [.t 29]⟩, ⟨.no, none, (.st 1), [.t 30, .t 28]⟩])))
 (.seq (.reg [⟨.t 31, none, .mv, [.l 0]⟩, ⟨.t 32, none, .mv, [.l 5]⟩, ⟨.t 33, none, .nilchk, [.t 31]⟩, ⟨.t 34, none, (.fad 1), [.t 33]⟩, ⟨.no, none, (.st 1), [.t 34, .t 32]⟩])
 (.seq (.reg [⟨.t 35, none, .mv, [.l 0]⟩, ⟨.t 36, none, .nilchk, [.t 35]⟩, ⟨.t 37, none, (.fad 2), [.t 36]⟩, ⟨.t 38, none, (.ld none), [.t 37]⟩, ⟨.t 39, none, (.bin .add), [.t 38, .c (.i .i64 1)]⟩, ⟨.t 40, none, .nilchk, [.t 35]⟩, ⟨.t 41, none, (.fad 2), [.t 40]⟩, ⟨.no, none, (.st 1), [.t 41, .t 39]⟩])
 (.seq (.reg [⟨.t 42, none, .mv, [.l 0]⟩, ⟨.t 43, none, .nilchk, [.t 42]⟩, ⟨.t 44, none, (.fad 2), [.t 43]⟩, ⟨.t 45, none, (.ld none), [.t 44]⟩, ⟨.l 4, none, .mv, [.t 45]⟩])
 .ret))))))), [.tmp (.l 4)]⟩
/-- (*tarpaulin/wait.Queue).All -/
def b54 : Nat := 13
def a54 : AFn := ⟨(.seq (.reg [⟨.l 2, none, .mv, [.c (.sl none 0 0 0)]⟩])
 (.seq (.seq (.reg [⟨.t 4, none, .mv, [.l 0]⟩, ⟨.t 5, none, (.eq false .ptr), [.t 4, .c (.p none)]⟩])
 (.cond (.t 5) (.seq (.reg [⟨.l 2, none, .mv, [.c (.sl none 0 0 0)]⟩])
 .ret) .skip))
 (.seq (.seq (.reg [⟨.t 6, none, .mv, [.l 0]⟩, ⟨.t 7, none, .nilchk, [.t 6]⟩, ⟨.t 8, none, (.fad 0), [.t 7]⟩, ⟨.t 9, none, (.ld none), [.t 8]⟩, ⟨.l 3, none, .mv, [.t 9]⟩])
 (.block 0 (.loop (.seq (.seq (.reg [⟨.t 10, none, .mv, [.l 3]⟩, ⟨.t 11, none, (.eq true .ptr), [.t 10, .c (.p none)]⟩])
 (.cond (.t 11) .skip (.exit 0)))
 (.seq (.block 1 (.reg [⟨.t 16, none, .mv, [.l 2]⟩, ⟨.t 17, none, .mv, [.l 3]⟩, ⟨.t 18, none, .nilchk, [.t 17]⟩, ⟨.t 19, none, (.fad 0), [.t 18]⟩, ⟨.t 20, none, (.ld (some 3)), [.t 19]⟩, ⟨.t 21, none, (.bslice [(.i .i64 0), (.i .i64 0), (.i .i64 0)] 1 3 [0]), [.t 20]⟩, ⟨.t 22, none, (.app 3 24), [.t 16, .t 21]⟩, ⟨.l 2, none, .mv, [.t 22]⟩]))
 (.reg [⟨.t 12, none, .mv, [.l 3]⟩, ⟨.t 13, none, .nilchk, [.t 12]⟩, ⟨.t 14, none, (.fad 4), [.t 13]⟩, ⟨.t 15, none, (.ld none), [.t 14]⟩, ⟨.l 3, none, .mv, [.t 15]⟩]))))))
 (.seq (.reg [⟨.t 23, none, .mv, [.l 2]⟩, ⟨.l 2, none, .mv, [.t 23]⟩])
 .ret)))), [.tmp (.l 2)]⟩
/-- tarpaulin/heap.New -/
def b55 : Nat := 1
def a55 : AFn := ⟨(.seq (.reg [⟨.l 0, none, .mv, [.c (.p none)]⟩])
 (.seq (.reg [⟨.t 1, none, .mkmap, []⟩, ⟨.t 2, none, (.build [(.sl none 0 0 0), (.m none), (.i .i64 0)] [(1, 1)]), [.t 1]⟩, ⟨.t 3, none, .box, [.t 2]⟩, ⟨.l 0, none, .mv, [.t 3]⟩])
 .ret)), [.tmp (.l 0)]⟩
/-- (*tarpaulin/heap.Heap).Pop -/
def b56 : Nat := 61
def a56 : AFn := ⟨(.seq (.reg [⟨.l 2, none, (.alloc [(.i .i64 0), (.i .i64 0), (.i .i64 0)]), []⟩, ⟨.l 3, none, .mv, [.c (.b false)]⟩])
 (.seq (.reg [⟨.t 7, none, .mv, [.l 0]⟩, ⟨.t 8, none, (.call 61), [.t 7]⟩, ⟨.t 6, none, .mv, [.t 8]⟩, ⟨.t 9, none, (.ext 0), [.t 6]⟩, ⟨.t 10, none, (.ext 1), [.t 6]⟩, ⟨.l 4, none, (.alloc [(.i .i64 0), (.i .i64 0), (.i .i64 0)]), []⟩, ⟨.no, none, (.st 3), [.l 4, .t 9]⟩, ⟨.l 5, none, .mv, [.t 10]⟩])
 (.seq (.seq (.reg [⟨.t 11, none, .mv, [.l 5]⟩])
 (.cond (.t 11) (.reg [⟨.t 12, none, .mv, [.l 0]⟩, ⟨.t 13, none, (.fad 0), [.l 4]⟩, ⟨.t 14, none, (.ld none), [.t 13]⟩, ⟨.t 15, none, (.call 63), [.t 12, .t 14]⟩]) .skip))
 (.seq (.reg [⟨.t 16, none, (.ld (some 3)), [.l 4]⟩, ⟨.t 17, none, .mv, [.l 5]⟩, ⟨.no, none, (.st 3), [.l 2, .t 16]⟩, ⟨.l 3, none, .mv, [.t 17]⟩])
 .ret)))), [.cell (.l 2) (some 3), .tmp (.l 3)]⟩
/-- tarpaulin/clock.Next -/
def b57 : Nat := 199
def a57 : AFn := ⟨(.seq (.reg [⟨.l 6, none, .mv, [.c (.i .i64 0)]⟩, ⟨.l 7, none, .mv, [.c (.i .i64 0)]⟩])
 (.seq (.seq (.reg [⟨.t 8, none, .mv, [.l 1]⟩, ⟨.t 9, none, (.bin .lss), [.t 8, .c (.i .i64 1)]⟩, ⟨.t 10, none, .mv, [.t 9]⟩, ⟨.t 11, (some (.t 10, false)), .mv, [.l 0]⟩, ⟨.t 12, (some (.t 10, false)), .mv, [.l 2]⟩, ⟨.t 13, (some (.t 10, false)), .min, [.t 11, .t 12]⟩, ⟨.t 14, (some (.t 10, false)), (.bin .lss), [.t 13, .c (.i .i64 0)]⟩, ⟨.t 15, none, .pick, [.t 10, .c (.b true), .t 14]⟩, ⟨.t 16, none, .mv, [.t 15]⟩, ⟨.t 17, (some (.t 16, false)), .mv, [.l 0]⟩, ⟨.t 18, (some (.t 16, false)), .mv, [.l 1]⟩, ⟨.t 19, (some (.t 16, false)), .mv, [.l 2]⟩, ⟨.t 20, (some (.t 16, false)), .max, [.t 17, .t 18, .t 19]⟩, ⟨.t 21, (some (.t 16, false)), (.bin .gtr), [.t 20, .c (.i .i64 4611686018427387904)]⟩, ⟨.t 22, none, .pick, [.t 16, .c (.b true), .t 21]⟩])
 (.cond (.t 22) (.seq (.reg [⟨.l 6, none, .mv, [.c (.i .i64 0)]⟩, ⟨.l 7, none, .mv, [.c (.i .i64 1)]⟩])
 .ret) .skip))
 (.seq (.seq (.reg [⟨.t 23, none, .mv, [.l 0]⟩, ⟨.t 24, none, .mv, [.l 2]⟩, ⟨.t 25, none, (.bin .gtr), [.t 23, .t 24]⟩])
 (.cond (.t 25) (.seq (.reg [⟨.t 26, none, .mv, [.l 0]⟩, ⟨.l 6, none, .mv, [.t 26]⟩, ⟨.l 7, none, .mv, [.c (.i .i64 0)]⟩])
 .ret) .skip))
 (.seq (.reg [⟨.t 27, none, .mv, [.l 2]⟩, ⟨.t 28, none, .mv, [.l 1]⟩, ⟨.t 29, none, .mv, [.l 2]⟩, ⟨.t 30, none, .mv, [.l 0]⟩, ⟨.t 31, none, (.bin .sub), [.t 29, .t 30]⟩, ⟨.t 32, none, .mv, [.l 1]⟩, ⟨.t 33, none, (.bin .rem), [.t 31, .t 32]⟩, ⟨.t 34, none, (.bin .sub), [.t 28, .t 33]⟩, ⟨.t 35, none, (.call 62), [.t 27, .t 34]⟩, ⟨.l 6, none, .mv, [.t 35]⟩, ⟨.l 7, none, .mv, [.c (.i .i64 0)]⟩])
 .ret)))), [.tmp (.l 6), .tmp (.l 7)]⟩
/-- (*tarpaulin/expire.Timers).Arm -/
def b58 : Nat := 271
def a58 : AFn := ⟨(.seq (.reg [⟨.l 8, none, .mv, [.c (.i .i64 0)]⟩])
 (.seq (.seq (.reg [⟨.t 9, none, .mv, [.l 0]⟩, ⟨.t 10, none, (.eq false .ptr), [.t 9, .c (.p none)]⟩, ⟨.t 11, none, .mv, [.t 10]⟩, ⟨.t 12, (some (.t 11, false)), .mv, [.l 2]⟩, ⟨.t 13, (some (.t 11, false)), .mv, [.l 3]⟩, ⟨.t 14, (some (.t 11, false)), .min, [.t 12, .t 13]⟩, ⟨.t 15, (some (.t 11, false)), (.bin .lss), [.t 14, .c (.i .i64 0)]⟩, ⟨.t 16, none, .pick, [.t 11, .c (.b true), .t 15]⟩, ⟨.t 17, none, .mv, [.t 16]⟩, ⟨.t 18, (some (.t 17, false)), .mv, [.l 2]⟩, ⟨.t 19, (some (.t 17, false)), .mv, [.l 3]⟩, ⟨.t 20, (some (.t 17, false)), .max, [.t 18, .t 19]⟩, ⟨.t 21, (some (.t 17, false)), (.bin .gtr), [.t 20, .c (.i .i64 4611686018427387904)]⟩, ⟨.t 22, none, .pick, [.t 17, .c (.b true), .t 21]⟩])
 (.cond (.t 22) (.seq (.reg [⟨.l 8, none, .mv, [.c (.i .i64 1)]⟩])
 .ret) .skip))
 (.seq (.reg [⟨.t 23, none, .mv, [.l 0]⟩, ⟨.t 24, none, .mv, [.l 1]⟩, ⟨.t 25, none, (.call 40), [.t 23, .t 24]⟩])
 (.seq (.reg [⟨.t 26, none, .mv, [.l 0]⟩, ⟨.t 27, none, .nilchk, [.t 26]⟩, ⟨.t 28, none, (.fad 1), [.t 27]⟩, ⟨.t 29, none, (.ld none), [.t 28]⟩, ⟨.t 30, none, .mv, [.l 1]⟩, ⟨.t 31, none, .mv, [.l 3]⟩, ⟨.no, none, .mset, [.t 29, .t 30, .t 31]⟩])
 (.seq (.reg [⟨.t 32, none, .mv, [.l 0]⟩, ⟨.t 33, none, .nilchk, [.t 32]⟩, ⟨.t 34, none, (.fad 0), [.t 33]⟩, ⟨.t 35, none, (.ld none), [.t 34]⟩, ⟨.t 36, none, .mv, [.l 1]⟩, ⟨.t 37, none, .mv, [.l 2]⟩, ⟨.t 38, none, (.call 68), [.t 35, .t 36, .t 37]⟩, ⟨.l 8, none, .mv, [.t 38]⟩])
 .ret))))), [.tmp (.l 8)]⟩
/-- (*tarpaulin/chanq.Chan).deliver -/
def b59 : Nat := 115
def a59 : AFn := ⟨(.seq (.reg [⟨.l 4, none, .mv, [.c (.sl none 0 0 0)]⟩])
 (.seq (.reg [⟨.t 8, none, .mv, [.l 0]⟩, ⟨.t 9, none, .nilchk, [.t 8]⟩, ⟨.t 10, none, (.fad 1), [.t 9]⟩, ⟨.t 11, none, (.ld none), [.t 10]⟩, ⟨.t 12, none, (.call 43), [.t 11]⟩, ⟨.t 7, none, .mv, [.t 12]⟩, ⟨.t 13, none, (.ext 0), [.t 7]⟩, ⟨.t 14, none, (.ext 1), [.t 7]⟩, ⟨.l 5, none, (.alloc [(.i .i64 0), (.i .i64 0), (.i .i64 0)]), []⟩, ⟨.no, none, (.st 3), [.l 5, .t 13]⟩, ⟨.l 6, none, .mv, [.t 14]⟩])
 (.seq (.seq (.reg [⟨.t 15, none, .mv, [.l 6]⟩, ⟨.t 16, none, (.un .not), [.t 15]⟩])
 (.cond (.t 16) (.seq (.reg [⟨.l 4, none, .mv, [.c (.sl none 0 0 0)]⟩])
 .ret) .skip))
 (.seq (.reg [⟨.t 17, none, (.fad 0), [.l 5]⟩, ⟨.t 18, none, (.ld none), [.t 17]⟩, ⟨.t 19, none, (.fad 1), [.l 5]⟩, ⟨.t 20, none, (.ld none), [.t 19]⟩, ⟨.t 21, none, .mv, [.l 1]⟩, ⟨.t 22, none, (.build [(.i .i64 0), (.i .i64 0), (.i .i64 0), (.b false), (.b false)] [(0, 1), (1, 1), (2, 1), (3, 1)]), [.t 18, .t 20, .t 21, .c (.b true)]⟩, ⟨.t 23, none, (.bslice [(.i .i64 0), (.i .i64 0), (.i .i64 0), (.b false), (.b false)] 1 5 [0]), [.t 22]⟩, ⟨.l 4, none, .mv, [.t 23]⟩])
 .ret)))), [.tmp (.l 4)]⟩
/-- tarpaulin/chanq.Timed -/
def b60 : Nat := 3
def a60 : AFn := ⟨(.seq (.reg [⟨.l 0, none, .mv, [.c (.p none)]⟩])
 (.seq (.reg [⟨.t 4, none, (.call 69), [.c (.i .i64 1)]⟩, ⟨.t 3, none, .mv, [.t 4]⟩, ⟨.t 5, none, (.ext 0), [.t 3]⟩, ⟨.t 6, none, (.ext 1), [.t 3]⟩, ⟨.l 1, none, .mv, [.t 5]⟩, ⟨.t 2, none, .mv, [.t 6]⟩])
 (.seq (.reg [⟨.t 7, none, .mv, [.l 1]⟩, ⟨.t 8, none, .nilchk, [.t 7]⟩, ⟨.t 9, none, (.fad 3), [.t 8]⟩, ⟨.no, none, (.st 1), [.t 9, .c (.b true)]⟩])
 (.seq (.reg [⟨.t 10, none, .mv, [.l 1]⟩, ⟨.l 0, none, .mv, [.t 10]⟩])
 .ret)))), [.tmp (.l 0)]⟩
/-- (*tarpaulin/heap.Heap).Min -/
def b61 : Nat := 13
def a61 : AFn := ⟨(.seq (.reg [⟨.l 2, none, (.alloc [(.i .i64 0), (.i .i64 0), (.i .i64 0)]), []⟩, ⟨.l 3, none, .mv, [.c (.b false)]⟩])
 (.seq (.seq (.reg [⟨.t 4, none, .mv, [.l 0]⟩, ⟨.t 5, none, (.call 70), [.t 4]⟩, ⟨.t 6, none, (.bin .eql), [.t 5, .c (.i .i64 0)]⟩])
 (.cond (.t 6) (.seq (.reg [⟨.t 7, none, (.build [(.i .i64 0), (.i .i64 0), (.i .i64 0)] []), []⟩, ⟨.no, none, (.st 3), [.l 2, .t 7]⟩, ⟨.l 3, none, .mv, [.c (.b false)]⟩])
 .ret) .skip))
 (.seq (.reg [⟨.t 8, none, .mv, [.l 0]⟩, ⟨.t 9, none, .nilchk, [.t 8]⟩, ⟨.t 10, none, (.fad 0), [.t 9]⟩, ⟨.t 11, none, (.ld none), [.t 10]⟩, ⟨.t 12, none, (.iad 3), [.t 11, .c (.i .i64 0)]⟩, ⟨.t 13, none, (.ld (some 3)), [.t 12]⟩, ⟨.no, none, (.st 3), [.l 2, .t 13]⟩, ⟨.l 3, none, .mv, [.c (.b true)]⟩])
 .ret))), [.cell (.l 2) (some 3), .tmp (.l 3)]⟩
/-- tarpaulin/clock.Add -/
def b62 : Nat := 19
def a62 : AFn := ⟨(.seq (.reg [⟨.l 4, none, .mv, [.c (.i .i64 0)]⟩])
 (.seq (.reg [⟨.t 5, none, .mv, [.l 0]⟩, ⟨.t 6, none, (.call 71), [.t 5]⟩, ⟨.t 7, none, .mv, [.l 1]⟩, ⟨.t 8, none, (.call 71), [.t 7]⟩, ⟨.l 0, none, .mv, [.t 6]⟩, ⟨.l 1, none, .mv, [.t 8]⟩])
 (.seq (.block 0 (.seq (.reg [⟨.t 10, none, .mv, [.l 1]⟩, ⟨.t 11, none, (.bin .gtr), [.t 10, .c (.i .i64 0)]⟩, ⟨.t 12, none, .mv, [.t 11]⟩, ⟨.t 13, (some (.t 12, true)), .mv, [.l 0]⟩, ⟨.t 14, (some (.t 12, true)), .mv, [.l 1]⟩, ⟨.t 15, (some (.t 12, true)), (.bin .sub), [.c (.i .i64 4611686018427387904), .t 14]⟩, ⟨.t 16, (some (.t 12, true)), (.bin .gtr), [.t 13, .t 15]⟩, ⟨.t 17, none, .pick, [.t 12, .t 16, .c (.b false)]⟩, ⟨.t 9, none, .mv, [.t 17]⟩])
 (.cond (.t 9) (.seq (.reg [⟨.l 4, none, .mv, [.c (.i .i64 4611686018427387904)]⟩])
 .ret) (.seq (.reg [⟨.t 19, none, .mv, [.l 1]⟩, ⟨.t 20, none, (.bin .lss), [.t 19, .c (.i .i64 0)]⟩, ⟨.t 21, none, .mv, [.t 20]⟩, ⟨.t 22, (some (.t 21, true)), .mv, [.l 0]⟩, ⟨.t 23, (some (.t 21, true)), .mv, [.l 1]⟩, ⟨.t 24, (some (.t 21, true)), (.bin .sub), [.c (.i .i64 (-4611686018427387904)), .t 23]⟩, ⟨.t 25, (some (.t 21, true)), (.bin .lss), [.t 22, .t 24]⟩, ⟨.t 26, none, .pick, [.t 21, .t 25, .c (.b false)]⟩, ⟨.t 18, none, .mv, [.t 26]⟩])
 (.cond (.t 18) (.seq (.reg [⟨.l 4, none, .mv, [.c (.i .i64 (-4611686018427387904))]⟩])
 .ret) .skip)))))
 (.seq (.reg [⟨.t 27, none, .mv, [.l 0]⟩, ⟨.t 28, none, .mv, [.l 1]⟩, ⟨.t 29, none, (.bin .add), [.t 27, .t 28]⟩, ⟨.l 4, none, .mv, [.t 29]⟩])
 .ret)))), [.tmp (.l 4)]⟩
/-- (*tarpaulin/heap.Heap).Remove -/
def b63 : Nat := 2035
def a63 : AFn := ⟨(.seq (.reg [⟨.l 4, none, (.alloc [(.i .i64 0), (.i .i64 0), (.i .i64 0)]), []⟩, ⟨.l 5, none, .mv, [.c (.b false)]⟩])
 (.seq (.reg [⟨.t 12, none, .mv, [.l 0]⟩, ⟨.t 13, none, .mv, [.l 1]⟩, ⟨.t 14, none, (.call 72), [.t 12, .t 13]⟩, ⟨.t 11, none, .mv, [.t 14]⟩, ⟨.t 15, none, (.ext 0), [.t 11]⟩, ⟨.t 16, none, (.ext 1), [.t 11]⟩, ⟨.l 6, none, (.alloc [(.i .i64 0), (.i .i64 0), (.i .i64 0)]), []⟩, ⟨.no, none, (.st 3), [.l 6, .t 15]⟩, ⟨.l 7, none, .mv, [.t 16]⟩])
 (.seq (.seq (.reg [⟨.t 17, none, .mv, [.l 7]⟩, ⟨.t 18, none, (.un .not), [.t 17]⟩])
 (.cond (.t 18) (.seq (.reg [⟨.t 19, none, (.build [(.i .i64 0), (.i .i64 0), (.i .i64 0)] []), []⟩, ⟨.no, none, (.st 3), [.l 4, .t 19]⟩, ⟨.l 5, none, .mv, [.c (.b false)]⟩])
 .ret) .skip))
 (.seq (.reg [⟨.t 20, none, .mv, [.l 0]⟩, ⟨.t 21, none, .nilchk, [.t 20]⟩, ⟨.t 22, none, (.fad 1), [.t 21]⟩, ⟨.t 23, none, (.ld none), [.t 22]⟩, ⟨.t 24, none, .mv, [.l 1]⟩, ⟨.t 25, none, (.lkup (.i .i64 0) false), [.t 23, .t 24]⟩, ⟨.t 26, none, .mv, [.l 0]⟩, ⟨.t 27, none, .nilchk, [.t 26]⟩, ⟨.t 28, none, (.fad 0), [.t 27]⟩, ⟨.t 29, none, (.ld none), [.t 28]⟩, ⟨.t 30, none, .lenSl, [.t 29]⟩, ⟨.t 31, none, (.bin .sub), [.t 30, .c (.i .i64 1)]⟩, ⟨.l 8, none, .mv, [.t 25]⟩, ⟨.l 9, none, .mv, [.t 31]⟩])
 (.seq (.reg [⟨.t 32, none, .mv, [.l 0]⟩, ⟨.t 33, none, .nilchk, [.t 32]⟩, ⟨.t 34, none, (.fad 0), [.t 33]⟩, ⟨.t 35, none, (.ld none), [.t 34]⟩, ⟨.t 36, none, .mv, [.l 9]⟩, ⟨.t 37, none, (.iad 3), [.t 35, .t 36]⟩, ⟨.t 38, none, (.ld (some 3)), [.t 37]⟩, ⟨.l 10, none, (.alloc [(.i .i64 0), (.i .i64 0), (.i .i64 0)]), []⟩, ⟨.no, none, (.st 3), [.l 10, .t 38]⟩])
 (.seq (.reg [⟨.t 39, none, .mv, [.l 0]⟩, ⟨.t 40, none, .mv, [.l 0]⟩, ⟨.t 41, none, .nilchk, [.t 40]⟩, ⟨.t 42, none, (.fad 0), [.t 41]⟩, ⟨.t 43, none, (.ld none), [.t 42]⟩, ⟨.t 44, none, .mv, [.l 9]⟩, ⟨.t 45, none, (.slc 3 false true false), [.t 43, .t 44]⟩, ⟨.t 46, none, .nilchk, [.t 39]⟩, ⟨.t 47, none, (.fad 0), [.t 46]⟩, ⟨.no, none, (.st 1), [.t 47, .t 45]⟩])
 (.seq (.reg [⟨.t 48, none, .mv, [.l 0]⟩, ⟨.t 49, none, .nilchk, [.t 48]⟩, ⟨.t 50, none, (.fad 1), [.t 49]⟩, ⟨.t 51, none, (.ld none), [.t 50]⟩, ⟨.t 52, none, .mv, [.l 1]⟩, ⟨.no, none, .mdel, [.t 51, .t 52]⟩])
 (.seq (.seq (.reg [⟨.t 53, none, .mv, [.l 8]⟩, ⟨.t 54, none, .mv, [.l 9]⟩, ⟨.t 55, none, (.bin .lss), [.t 53, .t 54]⟩])
 (.cond (.t 55) (.seq (.reg [⟨.t 56, none, .mv, [.l 0]⟩, ⟨.t 57, none, .mv, [.l 8]⟩, ⟨.t 58, none, (.ld (some 3)), [.l 10]⟩, ⟨.t 59, none, (.call 73), [.t 56, .t 57, .t 58]⟩])
 (.seq (.reg [⟨.t 60, none, .mv, [.l 0]⟩, ⟨.t 61, none, .mv, [.l 8]⟩, ⟨.t 62, none, (.call 74), [.t 60, .t 61]⟩])
 (.reg [⟨.t 63, none, .mv, [.l 0]⟩, ⟨.t 64, none, .mv, [.l 0]⟩, ⟨.t 65, none, .nilchk, [.t 64]⟩, ⟨.t 66, none, (.fad 1), [.t 65]⟩, ⟨.t 67, none, (.ld none), [.t 66]⟩, ⟨.t 68, none, (.fad 0), [.l 10]⟩, ⟨.t 69, none, (.ld none), [.t 68]⟩, ⟨.t 70, none, (.lkup (.i .i64 0) false), [.t 67, .t 69]⟩, ⟨.t 71, none, (.call 75), [.t 63, .t 70]⟩]))) .skip))
 (.seq (.reg [⟨.t 72, none, (.ld (some 3)), [.l 6]⟩, ⟨.no, none, (.st 3), [.l 4, .t 72]⟩, ⟨.l 5, none, .mv, [.c (.b true)]⟩])
 .ret))))))))), [.cell (.l 4) (some 3), .tmp (.l 5)]⟩
/-- (*tarpaulin/ring.Ring).Clear -/
def b64 : Nat := 13
def a64 : AFn := ⟨(.seq (.reg [⟨.l 2, none, .mv, [.c (.i .i64 0)]⟩])
 (.seq (.reg [⟨.t 4, none, .mv, [.l 0]⟩, ⟨.t 5, none, (.call 49), [.t 4]⟩, ⟨.l 3, none, .mv, [.t 5]⟩])
 (.seq (.seq (.reg [⟨.t 6, none, .mv, [.l 3]⟩, ⟨.t 7, none, (.bin .gtr), [.t 6, .c (.i .i64 0)]⟩])
 (.cond (.t 7) (.reg [⟨.t 8, none, .mv, [.l 0]⟩, ⟨.t 9, none, .nilchk, [.t 8]⟩, ⟨.t 10, none, (.fad 2), [.t 9]⟩, ⟨.no, none, (.st 1), [.t 10, .c (.i .i64 0)]⟩]) .skip))
 (.seq (.reg [⟨.t 11, none, .mv, [.l 3]⟩, ⟨.l 2, none, .mv, [.t 11]⟩])
 .ret)))), [.tmp (.l 2)]⟩
/-- (*tarpaulin/wait.Queue).take -/
def b65 : Nat := 115
def a65 : AFn := ⟨(.seq (.reg [⟨.l 4, none, (.alloc [(.i .i64 0), (.i .i64 0), (.i .i64 0)]), []⟩, ⟨.l 5, none, .mv, [.c (.b false)]⟩])
 (.seq (.seq (.reg [⟨.t 7, none, .mv, [.l 0]⟩, ⟨.t 8, none, (.eq false .ptr), [.t 7, .c (.p none)]⟩])
 (.cond (.t 8) (.seq (.reg [⟨.t 9, none, (.build [(.i .i64 0), (.i .i64 0), (.i .i64 0)] []), []⟩, ⟨.no, none, (.st 3), [.l 4, .t 9]⟩, ⟨.l 5, none, .mv, [.c (.b false)]⟩])
 .ret) .skip))
 (.seq (.seq (.reg [⟨.t 10, none, .mv, [.l 0]⟩, ⟨.t 11, none, .nilchk, [.t 10]⟩, ⟨.t 12, none, (.fad 0), [.t 11]⟩, ⟨.t 13, none, (.ld none), [.t 12]⟩, ⟨.l 6, none, .mv, [.t 13]⟩])
 (.block 0 (.loop (.seq (.seq (.reg [⟨.t 14, none, .mv, [.l 6]⟩, ⟨.t 15, none, (.eq true .ptr), [.t 14, .c (.p none)]⟩])
 (.cond (.t 15) .skip (.exit 0)))
 (.seq (.block 1 (.seq (.reg [⟨.t 20, none, .mv, [.l 1]⟩, ⟨.t 21, none, .mv, [.l 6]⟩, ⟨.t 22, none, .nilchk, [.t 21]⟩, ⟨.t 23, none, (.fad 0), [.t 22]⟩, ⟨.t 24, none, (.ld (some 3)), [.t 23]⟩, ⟨.t 25, none, .callv, [.t 20, .t 24]⟩])
 (.cond (.t 25) (.seq (.reg [⟨.t 26, none, .mv, [.l 0]⟩, ⟨.t 27, none, .mv, [.l 6]⟩, ⟨.t 28, none, (.call 76), [.t 26, .t 27]⟩])
 (.seq (.reg [⟨.t 29, none, .mv, [.l 6]⟩, ⟨.t 30, none, .nilchk, [.t 29]⟩, ⟨.t 31, none, (.fad 0), [.t 30]⟩, ⟨.t 32, none, (.ld (some 3)), [.t 31]⟩, ⟨.no, none, (.st 3), [.l 4, .t 32]⟩, ⟨.l 5, none, .mv, [.c (.b true)]⟩])
 .ret)) .skip)))
 (.reg [⟨.t 16, none, .mv, [.l 6]⟩, ⟨.t 17, none, .nilchk, [.t 16]⟩, ⟨.t 18, none, (.fad 4), [.t 17]⟩, ⟨.t 19, none, (.ld none), [.t 18]⟩, ⟨.l 6, none, .mv, [.t 19]⟩]))))))
 (.seq (.reg [⟨.t 33, none, (.build [(.i .i64 0), (.i .i64 0), (.i .i64 0)] []), []⟩, ⟨.no, none, (.st 3), [.l 4, .t 33]⟩, ⟨.l 5, none, .mv, [.c (.b false)]⟩])
 .ret)))), [.cell (.l 4) (some 3), .tmp (.l 5)]⟩
/-- (*tarpaulin/wait.Queue).Pop$1 -/
def b66 : Nat := 5
def a66 : AFn := ⟨(.seq (.reg [⟨.t 1, none, .box, [.l 0]⟩, ⟨.l 2, none, .mv, [.c (.b false)]⟩])
 (.seq (.reg [⟨.l 2, none, .mv, [.c (.b true)]⟩])
 .ret)), [.tmp (.l 2)]⟩
/-- slices.IndexFunc[[]tarpaulin/api.Wait,tarpaulin/api.Wait] -/
def b67 : Nat := 435
def a67 : AFn := ⟨(.seq (.reg [⟨.l 4, none, .mv, [.c (.i .i64 0)]⟩])
 (.seq (.seq (.reg [⟨.t 6, none, .mv, [.l 0]⟩, ⟨.l 7, none, .lenSl, [.t 6]⟩, ⟨.l 8, none, .mv, [.c (.i .i64 0)]⟩])
 (.block 0 (.loop (.seq (.reg [⟨.t 9, none, (.bin .lss), [.l 8, .l 7]⟩])
 (.seq (.cond (.t 9) .skip (.exit 0))
 (.seq (.block 1 (.seq (.reg [⟨.t 10, none, .mv, [.l 8]⟩, ⟨.l 5, none, .mv, [.t 10]⟩])
 (.seq (.reg [⟨.t 11, none, .mv, [.l 1]⟩, ⟨.t 12, none, .mv, [.l 0]⟩, ⟨.t 13, none, .mv, [.l 5]⟩, ⟨.t 14, none, (.iad 3), [.t 12, .t 13]⟩, ⟨.t 15, none, (.ld (some 3)), [.t 14]⟩, ⟨.t 16, none, .callv, [.t 11, .t 15]⟩])
 (.cond (.t 16) (.seq (.reg [⟨.t 17, none, .mv, [.l 5]⟩, ⟨.l 4, none, .mv, [.t 17]⟩])
 .ret) .skip))))
 (.reg [⟨.t 18, none, (.bin .add), [.l 8, .c (.i .i64 1)]⟩, ⟨.l 8, none, .mv, [.t 18]⟩])))))))
 (.seq (.reg [⟨.l 4, none, .mv, [.c (.i .i64 (-1))]⟩])
 .ret))), [.tmp (.l 4)]⟩
/-- (*tarpaulin/heap.Heap).Add -/
def b68 : Nat := 327
def a68 : AFn := ⟨(.seq (.reg [⟨.l 6, none, .mv, [.c (.i .i64 0)]⟩])
 (.seq (.seq (.reg [⟨.t 9, none, .mv, [.l 0]⟩, ⟨.t 10, none, (.eq false .ptr), [.t 9, .c (.p none)]⟩])
 (.cond (.t 10) (.seq (.reg [⟨.l 6, none, .mv, [.c (.i .i64 1)]⟩])
 .ret) .skip))
 (.seq (.seq (.reg [⟨.t 12, none, .mv, [.l 0]⟩, ⟨.t 13, none, .nilchk, [.t 12]⟩, ⟨.t 14, none, (.fad 1), [.t 13]⟩, ⟨.t 15, none, (.ld none), [.t 14]⟩, ⟨.t 16, none, .mv, [.l 1]⟩, ⟨.t 17, none, (.lkup (.i .i64 0) true), [.t 15, .t 16]⟩, ⟨.t 11, none, .mv, [.t 17]⟩, ⟨.t 18, none, (.ext 0), [.t 11]⟩, ⟨.t 19, none, (.ext 1), [.t 11]⟩, ⟨.t 7, none, .mv, [.t 18]⟩, ⟨.l 8, none, .mv, [.t 19]⟩])
 (.seq (.reg [⟨.t 20, none, .mv, [.l 8]⟩])
 (.cond (.t 20) (.seq (.reg [⟨.l 6, none, .mv, [.c (.i .i64 1)]⟩])
 .ret) .skip)))
 (.seq (.reg [⟨.t 21, none, .mv, [.l 0]⟩, ⟨.t 22, none, .nilchk, [.t 21]⟩, ⟨.t 23, none, (.fad 2), [.t 22]⟩, ⟨.t 24, none, (.ld none), [.t 23]⟩, ⟨.t 25, none, (.bin .add), [.t 24, .c (.i .i64 1)]⟩, ⟨.t 26, none, .nilchk, [.t 21]⟩, ⟨.t 27, none, (.fad 2), [.t 26]⟩, ⟨.no, none, (.st 1), [.t 27, .t 25]⟩])
 (.seq (.reg [⟨.t 28, none, .mv, [.l 0]⟩, ⟨.t 29, none, .mv, [.l 0]⟩, ⟨.t 30, none, .nilchk, [.t 29]⟩, ⟨.t 31, none, (.fad 0), [.t 30]⟩, ⟨.t 32, none, (.ld none), [.t 31]⟩, ⟨.t 33, none, .mv, [.l 1]⟩, ⟨.t 34, none, .mv, [.l 2]⟩, ⟨.t 35, none, .mv, [.l 0]⟩, ⟨.t 36, none, .nilchk, [.t 35]⟩, ⟨.t 37, none, (.fad 2), [.t 36]⟩, ⟨.t 38, none, (.ld none), [.t 37]⟩, ⟨.t 39, none, (.build [(.i .i64 0), (.i .i64 0), (.i .i64 0)] [(0, 1), (1, 1), (2, 1)]), [.t 33, .t 34, .t 38]⟩, ⟨.t 40, none, (.bslice [(.i .i64 0), (.i .i64 0), (.i .i64 0)] 1 3 [0]), [.t 39]⟩, ⟨.t 41, none, (.app 3 24), [.t 32, .t 40]⟩, ⟨.t 42, none, .nilchk, [.t 28]⟩, ⟨.t 43, none, (.fad 0), [.t 42]⟩, ⟨.no, none, (.st 1), [.t 43, .t 41]⟩])
 (.seq (.reg [⟨.t 44, none, .mv, [.l 0]⟩, ⟨.t 45, none, .mv, [.l 0]⟩, ⟨.t 46, none, .nilchk, [.t 45]⟩, ⟨.t 47, none, (.fad 0), [.t 46]⟩, ⟨.t 48, none, (.ld none), [.t 47]⟩, ⟨.t 49, none, .lenSl, [.t 48]⟩, ⟨.t 50, none, (.bin .sub), [.t 49, .c (.i .i64 1)]⟩, ⟨.t 51, none, (.call 74), [.t 44, .t 50]⟩])
 (.seq (.reg [⟨.l 6, none, .mv, [.c (.i .i64 0)]⟩])
 .ret))))))), [.tmp (.l 6)]⟩
/-- tarpaulin/chanq.New -/
def b69 : Nat := 61
def a69 : AFn := ⟨(.seq (.reg [⟨.l 2, none, .mv, [.c (.p none)]⟩, ⟨.l 3, none, .mv, [.c (.i .i64 0)]⟩])
 (.seq (.reg [⟨.t 7, none, .mv, [.l 0]⟩, ⟨.t 8, none, (.call 77), [.t 7]⟩, ⟨.t 6, none, .mv, [.t 8]⟩, ⟨.t 9, none, (.ext 0), [.t 6]⟩, ⟨.t 10, none, (.ext 1), [.t 6]⟩, ⟨.l 4, none, .mv, [.t 9]⟩, ⟨.l 5, none, .mv, [.t 10]⟩])
 (.seq (.seq (.reg [⟨.t 11, none, .mv, [.l 5]⟩, ⟨.t 12, none, (.bin .neq), [.t 11, .c (.i .i64 0)]⟩])
 (.cond (.t 12) (.seq (.reg [⟨.t 13, none, .mv, [.l 5]⟩, ⟨.l 2, none, .mv, [.c (.p none)]⟩, ⟨.l 3, none, .mv, [.t 13]⟩])
 .ret) .skip))
 (.seq (.reg [⟨.t 14, none, .mv, [.l 4]⟩, ⟨.t 15, none, (.call 78), []⟩, ⟨.t 16, none, (.call 78), []⟩, ⟨.t 17, none, (.build [(.p none), (.p none), (.p none), (.b false), (.b false), (.b false)] [(0, 1), (1, 1), (2, 1)]), [.t 14, .t 15, .t 16]⟩, ⟨.t 18, none, .box, [.t 17]⟩, ⟨.l 2, none, .mv, [.t 18]⟩, ⟨.l 3, none, .mv, [.c (.i .i64 0)]⟩])
 .ret)))), [.tmp (.l 2), .tmp (.l 3)]⟩
/-- (*tarpaulin/heap.Heap).Len -/
def b70 : Nat := 5
def a70 : AFn := ⟨(.seq (.reg [⟨.l 2, none, .mv, [.c (.i .i64 0)]⟩])
 (.seq (.seq (.reg [⟨.t 3, none, .mv, [.l 0]⟩, ⟨.t 4, none, (.eq false .ptr), [.t 3, .c (.p none)]⟩])
 (.cond (.t 4) (.seq (.reg [⟨.l 2, none, .mv, [.c (.i .i64 0)]⟩])
 .ret) .skip))
 (.seq (.reg [⟨.t 5, none, .mv, [.l 0]⟩, ⟨.t 6, none, .nilchk, [.t 5]⟩, ⟨.t 7, none, (.fad 0), [.t 6]⟩, ⟨.t 8, none, (.ld none), [.t 7]⟩, ⟨.t 9, none, .lenSl, [.t 8]⟩, ⟨.l 2, none, .mv, [.t 9]⟩])
 .ret))), [.tmp (.l 2)]⟩
/-- tarpaulin/clock.held -/
def b71 : Nat := 5
def a71 : AFn := ⟨(.seq (.reg [⟨.l 2, none, .mv, [.c (.i .i64 0)]⟩])
 (.seq (.reg [⟨.t 3, none, .mv, [.l 0]⟩, ⟨.t 4, none, .max, [.t 3, .c (.i .i64 (-4611686018427387904))]⟩, ⟨.t 5, none, .min, [.t 4, .c (.i .i64 4611686018427387904)]⟩, ⟨.l 2, none, .mv, [.t 5]⟩])
 .ret)), [.tmp (.l 2)]⟩
/-- (*tarpaulin/heap.Heap).Find -/
def b72 : Nat := 243
def a72 : AFn := ⟨(.seq (.reg [⟨.l 4, none, (.alloc [(.i .i64 0), (.i .i64 0), (.i .i64 0)]), []⟩, ⟨.l 5, none, .mv, [.c (.b false)]⟩])
 (.seq (.seq (.reg [⟨.t 8, none, .mv, [.l 0]⟩, ⟨.t 9, none, (.eq false .ptr), [.t 8, .c (.p none)]⟩])
 (.cond (.t 9) (.seq (.reg [⟨.t 10, none, (.build [(.i .i64 0), (.i .i64 0), (.i .i64 0)] []), []⟩, ⟨.no, none, (.st 3), [.l 4, .t 10]⟩, ⟨.l 5, none, .mv, [.c (.b false)]⟩])
 .ret) .skip))
 (.seq (.reg [⟨.t 12, none, .mv, [.l 0]⟩, ⟨.t 13, none, .nilchk, [.t 12]⟩, ⟨.t 14, none, (.fad 1), [.t 13]⟩, ⟨.t 15, none, (.ld none), [.t 14]⟩, ⟨.t 16, none, .mv, [.l 1]⟩, ⟨.t 17, none, (.lkup (.i .i64 0) true), [.t 15, .t 16]⟩, ⟨.t 11, none, .mv, [.t 17]⟩, ⟨.t 18, none, (.ext 0), [.t 11]⟩, ⟨.t 19, none, (.ext 1), [.t 11]⟩, ⟨.l 6, none, .mv, [.t 18]⟩, ⟨.l 7, none, .mv, [.t 19]⟩])
 (.seq (.seq (.reg [⟨.t 20, none, .mv, [.l 7]⟩, ⟨.t 21, none, (.un .not), [.t 20]⟩])
 (.cond (.t 21) (.seq (.reg [⟨.t 22, none, (.build [(.i .i64 0), (.i .i64 0), (.i .i64 0)] []), []⟩, ⟨.no, none, (.st 3), [.l 4, .t 22]⟩, ⟨.l 5, none, .mv, [.c (.b false)]⟩])
 .ret) .skip))
 (.seq (.reg [⟨.t 23, none, .mv, [.l 0]⟩, ⟨.t 24, none, .nilchk, [.t 23]⟩, ⟨.t 25, none, (.fad 0), [.t 24]⟩, ⟨.t 26, none, (.ld none), [.t 25]⟩, ⟨.t 27, none, .mv, [.l 6]⟩, ⟨.t 28, none, (.iad 3), [.t 26, .t 27]⟩, ⟨.t 29, none, (.ld (some 3)), [.t 28]⟩, ⟨.no, none, (.st 3), [.l 4, .t 29]⟩, ⟨.l 5, none, .mv, [.c (.b true)]⟩])
 .ret))))), [.cell (.l 4) (some 3), .tmp (.l 5)]⟩
/-- (*tarpaulin/heap.Heap).put -/
def b73 : Nat := 39
def a73 : AFn := ⟨(.seq (.reg [⟨.l 5, none, .box, [.l 2]⟩])
 (.seq (.reg [⟨.t 6, none, .mv, [.l 0]⟩, ⟨.t 7, none, .nilchk, [.t 6]⟩, ⟨.t 8, none, (.fad 0), [.t 7]⟩, ⟨.t 9, none, (.ld none), [.t 8]⟩, ⟨.t 10, none, .mv, [.l 1]⟩, ⟨.t 11, none, (.ld (some 3)), [.l 5]⟩, ⟨.t 12, none, (.iad 3), [.t 9, .t 10]⟩, ⟨.no, none, (.st 3), [.t 12, .t 11]⟩])
 (.reg [⟨.t 13, none, .mv, [.l 0]⟩, ⟨.t 14, none, .nilchk, [.t 13]⟩, ⟨.t 15, none, (.fad 1), [.t 14]⟩, ⟨.t 16, none, (.ld none), [.t 15]⟩, ⟨.t 17, none, (.fad 0), [.l 5]⟩, ⟨.t 18, none, (.ld none), [.t 17]⟩, ⟨.t 19, none, .mv, [.l 1]⟩, ⟨.no, none, .mset, [.t 16, .t 18, .t 19]⟩]))), []⟩
/-- (*tarpaulin/heap.Heap).up -/
def b74 : Nat := 19
def a74 : AFn := ⟨(.seq (.reg [⟨.t 5, none, .mv, [.l 0]⟩, ⟨.t 6, none, .nilchk, [.t 5]⟩, ⟨.t 7, none, (.fad 0), [.t 6]⟩, ⟨.t 8, none, (.ld none), [.t 7]⟩, ⟨.t 9, none, .mv, [.l 1]⟩, ⟨.t 10, none, (.iad 3), [.t 8, .t 9]⟩, ⟨.t 11, none, (.ld (some 3)), [.t 10]⟩, ⟨.l 4, none, (.alloc [(.i .i64 0), (.i .i64 0), (.i .i64 0)]), []⟩, ⟨.no, none, (.st 3), [.l 4, .t 11]⟩])
 (.seq (.block 0 (.loop (.seq (.seq (.reg [⟨.t 12, none, .mv, [.l 1]⟩, ⟨.t 13, none, (.bin .gtr), [.t 12, .c (.i .i64 0)]⟩, ⟨.t 14, none, .mv, [.t 13]⟩, ⟨.t 15, (some (.t 14, true)), (.ld (some 3)), [.l 4]⟩, ⟨.t 16, (some (.t 14, true)), .mv, [.l 0]⟩, ⟨.t 17, (some (.t 14, true)), .nilchk, [.t 16]⟩, ⟨.t 18, (some (.t 14, true)), (.fad 0), [.t 17]⟩, ⟨.t 19, (some (.t 14, true)), (.ld none), [.t 18]⟩, ⟨.t 20, (some (.t 14, true)), .mv, [.l 1]⟩, ⟨.t 21, (some (.t 14, true)), (.bin .sub), [.t 20, .c (.i .i64 1)]⟩, ⟨.t 22, (some (.t 14, true)), (.bin .quo), [.t 21, .c (.i .i64 4)]⟩, ⟨.t 23, (some (.t 14, true)), (.iad 3), [.t 19, .t 22]⟩, ⟨.t 24, (some (.t 14, true)), (.ld (some 3)), [.t 23]⟩, ⟨.t 25, (some (.t 14, true)), (.call 79), [.t 15, .t 24]⟩, ⟨.t 26, (some (.t 14, true)), (.bin .lss), [.t 25, .c (.i .i64 0)]⟩, ⟨.t 27, none, .pick, [.t 14, .t 26, .c (.b false)]⟩])
 (.cond (.t 27) .skip (.exit 0)))
 (.block 1 (.seq (.reg [⟨.t 28, none, .mv, [.l 0]⟩, ⟨.t 29, none, .mv, [.l 1]⟩, ⟨.t 30, none, .mv, [.l 0]⟩, ⟨.t 31, none, .nilchk, [.t 30]⟩, ⟨.t 32, none, (.fad 0), [.t 31]⟩, ⟨.t 33, none, (.ld none), [.t 32]⟩, ⟨.t 34, none, .mv, [.l 1]⟩, ⟨.t 35, none, (.bin .sub), [.t 34, .c (.i .i64 1)]⟩, ⟨.t 36, none, (.bin .quo), [.t 35, .c (.i .i64 4)]⟩, ⟨.t 37, none, (.iad 3), [.t 33, .t 36]⟩, ⟨.t 38, none, (.ld (some 3)), [.t 37]⟩, ⟨.t 39, none, (.call 73), [.t 28, .t 29, .t 38]⟩])
 (.reg [⟨.t 40, none, .mv, [.l 1]⟩, ⟨.t 41, none, (.bin .sub), [.t 40, .c (.i .i64 1)]⟩, ⟨.t 42, none, (.bin .quo), [.t 41, .c (.i .i64 4)]⟩, ⟨.l 1, none, .mv, [.t 42]⟩]))))))
 (.reg [⟨.t 43, none, .mv, [.l 0]⟩, ⟨.t 44, none, .mv, [.l 1]⟩, ⟨.t 45, none, (.ld (some 3)), [.l 4]⟩, ⟨.t 46, none, (.call 73), [.t 43, .t 44, .t 45]⟩]))), []⟩
/-- (*tarpaulin/heap.Heap).down -/
def b75 : Nat := 243
def a75 : AFn := ⟨(.seq (.reg [⟨.t 8, none, .mv, [.l 0]⟩, ⟨.t 9, none, .nilchk, [.t 8]⟩, ⟨.t 10, none, (.fad 0), [.t 9]⟩, ⟨.t 11, none, (.ld none), [.t 10]⟩, ⟨.t 12, none, .mv, [.l 1]⟩, ⟨.t 13, none, (.iad 3), [.t 11, .t 12]⟩, ⟨.t 14, none, (.ld (some 3)), [.t 13]⟩, ⟨.l 4, none, (.alloc [(.i .i64 0), (.i .i64 0), (.i .i64 0)]), []⟩, ⟨.no, none, (.st 3), [.l 4, .t 14]⟩])
 (.seq (.block 0 (.loop (.block 1 (.seq (.reg [⟨.t 15, none, .mv, [.l 1]⟩, ⟨.t 16, none, (.bin .mul), [.c (.i .i64 4), .t 15]⟩, ⟨.t 17, none, (.bin .add), [.t 16, .c (.i .i64 1)]⟩, ⟨.l 5, none, .mv, [.t 17]⟩])
 (.seq (.seq (.reg [⟨.t 18, none, .mv, [.l 5]⟩, ⟨.t 19, none, .mv, [.l 0]⟩, ⟨.t 20, none, .nilchk, [.t 19]⟩, ⟨.t 21, none, (.fad 0), [.t 20]⟩, ⟨.t 22, none, (.ld none), [.t 21]⟩, ⟨.t 23, none, .lenSl, [.t 22]⟩, ⟨.t 24, none, (.bin .geq), [.t 18, .t 23]⟩])
 (.cond (.t 24) (.exit 0) .skip))
 (.seq (.reg [⟨.t 25, none, .mv, [.l 5]⟩, ⟨.l 6, none, .mv, [.t 25]⟩])
 (.seq (.seq (.reg [⟨.t 26, none, .mv, [.l 5]⟩, ⟨.t 27, none, (.bin .add), [.t 26, .c (.i .i64 1)]⟩, ⟨.l 7, none, .mv, [.t 27]⟩])
 (.block 2 (.loop (.seq (.seq (.reg [⟨.t 28, none, .mv, [.l 7]⟩, ⟨.t 29, none, .mv, [.l 5]⟩, ⟨.t 30, none, (.bin .add), [.t 29, .c (.i .i64 4)]⟩, ⟨.t 31, none, .mv, [.l 0]⟩, ⟨.t 32, none, .nilchk, [.t 31]⟩, ⟨.t 33, none, (.fad 0), [.t 32]⟩, ⟨.t 34, none, (.ld none), [.t 33]⟩, ⟨.t 35, none, .lenSl, [.t 34]⟩, ⟨.t 36, none, .min, [.t 30, .t 35]⟩, ⟨.t 37, none, (.bin .lss), [.t 28, .t 36]⟩])
 (.cond (.t 37) .skip (.exit 2)))
 (.seq (.block 3 (.seq (.reg [⟨.t 40, none, .mv, [.l 0]⟩, ⟨.t 41, none, .nilchk, [.t 40]⟩, ⟨.t 42, none, (.fad 0), [.t 41]⟩, ⟨.t 43, none, (.ld none), [.t 42]⟩, ⟨.t 44, none, .mv, [.l 7]⟩, ⟨.t 45, none, (.iad 3), [.t 43, .t 44]⟩, ⟨.t 46, none, (.ld (some 3)), [.t 45]⟩, ⟨.t 47, none, .mv, [.l 0]⟩, ⟨.t 48, none, .nilchk, [.t 47]⟩, ⟨.t 49, none, (.fad 0), [.t 48]⟩, ⟨.t 50, none, (.ld none), [.t 49]⟩, ⟨.t 51, none, .mv, [.l 6]⟩, ⟨.t 52, none, (.iad 3), [.t 50, .t 51]⟩, ⟨.t 53, none, (.ld (some 3)), [.t 52]⟩, ⟨.t 54, none, (.call 79), [.t 46, .t 53]⟩, ⟨.t 55, none, (.bin .lss), [.t 54, .c (.i .i64 0)]⟩])
 (.cond (.t 55) (.reg [⟨.t 56, none, .mv, [.l 7]⟩, ⟨.l 6, none, .mv, [.t 56]⟩]) .skip)))
 (.reg [⟨.t 38, none, .mv, [.l 7]⟩, ⟨.t 39, none, (.bin .add), [.t 38, .c (.i .i64 1)]⟩, ⟨.l 7, none, .mv, [.t 39]⟩]))))))
 (.seq (.seq (.reg [⟨.t 57, none, (.ld (some 3)), [.l 4]⟩, ⟨.t 58, none, .mv, [.l 0]⟩, ⟨.t 59, none, .nilchk, [.t 58]⟩, ⟨.t 60, none, (.fad 0), [.t 59]⟩, ⟨.t 61, none, (.ld none), [.t 60]⟩, ⟨.t 62, none, .mv, [.l 6]⟩, ⟨.t 63, none, (.iad 3), [.t 61, .t 62]⟩, ⟨.t 64, none, (.ld (some 3)), [.t 63]⟩, ⟨.t 65, none, (.call 79), [.t 57, .t 64]⟩, ⟨.t 66, none, (.bin .lss), [.t 65, .c (.i .i64 0)]⟩])
 (.cond (.t 66) (.exit 0) .skip))
 (.seq (.reg [⟨.t 67, none, .mv, [.l 0]⟩, ⟨.t 68, none, .mv, [.l 1]⟩, ⟨.t 69, none, .mv, [.l 0]⟩, ⟨.t 70, none, .nilchk, [.t 69]⟩, ⟨.t 71, none, (.fad 0), [.t 70]⟩, ⟨.t 72, none, (.ld none), [.t 71]⟩, ⟨.t 73, none, .mv, [.l 6]⟩, ⟨.t 74, none, (.iad 3), [.t 72, .t 73]⟩, ⟨.t 75, none, (.ld (some 3)), [.t 74]⟩, ⟨.t 76, none, (.call 73), [.t 67, .t 68, .t 75]⟩])
 (.reg [⟨.t 77, none, .mv, [.l 6]⟩, ⟨.l 1, none, .mv, [.t 77]⟩]))))))))))
 (.reg [⟨.t 78, none, .mv, [.l 0]⟩, ⟨.t 79, none, .mv, [.l 1]⟩, ⟨.t 80, none, (.ld (some 3)), [.l 4]⟩, ⟨.t 81, none, (.call 73), [.t 78, .t 79, .t 80]⟩]))), []⟩
/-- (*tarpaulin/wait.Queue).drop -/
def b76 : Nat := 3
def a76 : AFn := ⟨(.seq (.seq (.reg [⟨.t 4, none, .mv, [.l 1]⟩, ⟨.t 5, none, .nilchk, [.t 4]⟩, ⟨.t 6, none, (.fad 3), [.t 5]⟩, ⟨.t 7, none, (.ld none), [.t 6]⟩, ⟨.t 8, none, (.eq false .ptr), [.t 7, .c (.p none)]⟩])
 (.cond (.t 8) (.reg [⟨.t 9, none, .mv, [.l 0]⟩, ⟨.t 10, none, .mv, [.l 1]⟩, ⟨.t 11, none, .nilchk, [.t 10]⟩, ⟨.t 12, none, (.fad 4), [.t 11]⟩, ⟨.t 13, none, (.ld none), [.t 12]⟩, ⟨.t 14, none, .nilchk, [.t 9]⟩, ⟨.t 15, none, (.fad 0), [.t 14]⟩, ⟨.no, none, (.st 1), [.t 15, .t 13]⟩]) (.reg [⟨.t 16, none, .mv, [.l 1]⟩, ⟨.t 17, none, .nilchk, [.t 16]⟩, ⟨.t 18, none, (.fad 3), [.t 17]⟩, ⟨.t 19, none, (.ld none), [.t 18]⟩, ⟨.t 20, none, .mv, [.l 1]⟩, ⟨.t 21, none, .nilchk, [.t 20]⟩, ⟨.t 22, none, (.fad 4), [.t 21]⟩, ⟨.t 23, none, (.ld none), [.t 22]⟩, ⟨.t 24, none, .nilchk, [.t 19]⟩, ⟨.t 25, none, (.fad 4), [.t 24]⟩, ⟨.no, none, (.st 1), [.t 25, .t 23]⟩])))
 (.seq (.seq (.reg [⟨.t 26, none, .mv, [.l 1]⟩, ⟨.t 27, none, .nilchk, [.t 26]⟩, ⟨.t 28, none, (.fad 4), [.t 27]⟩, ⟨.t 29, none, (.ld none), [.t 28]⟩, ⟨.t 30, none, (.eq false .ptr), [.t 29, .c (.p none)]⟩])
 (.cond (.t 30) (.reg [⟨.t 31, none, .mv, [.l 0]⟩, ⟨.t 32, none, .mv, [.l 1]⟩, ⟨.t 33, none, .nilchk, [.t 32]⟩, ⟨.t 34, none, (.fad 3), [.t 33]⟩, ⟨.t 35, none, (.ld none), [.t 34]⟩, ⟨.t 36, none, .nilchk, [.t 31]⟩, ⟨.t 37, none, (.fad 1), [.t 36]⟩, ⟨.no, none, (.st 1), [.t 37, .t 35]⟩]) (.reg [⟨.t 38, none, .mv, [.l 1]⟩, ⟨.t 39, none, .nilchk, [.t 38]⟩, ⟨.t 40, none, (.fad 4), [.t 39]⟩, ⟨.t 41, none, (.ld none), [.t 40]⟩, ⟨.t 42, none, .mv, [.l 1]⟩, ⟨.t 43, none, .nilchk, [.t 42]⟩, ⟨.t 44, none, (.fad 3), [.t 43]⟩, ⟨.t 45, none, (.ld none), [.t 44]⟩, ⟨.t 46, none, .nilchk, [.t 41]⟩, ⟨.t 47, none, (.fad 3), [.t 46]⟩, ⟨.no, none, (.st 1), [.t 47, .t 45]⟩])))
 (.reg [⟨.t 48, none, .mv, [.l 0]⟩, ⟨.t 49, none, .nilchk, [.t 48]⟩, ⟨.t 50, none, (.fad 2), [.t 49]⟩, ⟨.t 51, none, (.ld none), [.t 50]⟩, ⟨.t 52, none, (.bin .sub), [.t 51, .c (.i .i64 1)]⟩, ⟨.t 53, none, .nilchk, [.t 48]⟩, ⟨.t 54, none, (.fad 2), [.t 53]⟩, ⟨.no, none, (.st 1), [.t 54, .t 52]⟩]))), []⟩
/-- tarpaulin/ring.New -/
def b77 : Nat := 13
def a77 : AFn := ⟨(.seq (.reg [⟨.l 2, none, .mv, [.c (.p none)]⟩, ⟨.l 3, none, .mv, [.c (.i .i64 0)]⟩])
 (.seq (.seq (.reg [⟨.t 4, none, .mv, [.l 0]⟩, ⟨.t 5, none, (.bin .lss), [.t 4, .c (.i .i64 0)]⟩, ⟨.t 6, none, .mv, [.t 5]⟩, ⟨.t 7, (some (.t 6, false)), .mv, [.l 0]⟩, ⟨.t 8, (some (.t 6, false)), (.bin .gtr), [.t 7, .c (.i .i64 64)]⟩, ⟨.t 9, none, .pick, [.t 6, .c (.b true), .t 8]⟩])
 (.cond (.t 9) (.seq (.reg [⟨.l 2, none, .mv, [.c (.p none)]⟩, ⟨.l 3, none, .mv, [.c (.i .i64 1)]⟩])
 .ret) .skip))
 (.seq (.reg [⟨.t 10, none, .mv, [.l 0]⟩, ⟨.t 11, none, (.mksl [(.i .i64 0)] 8), [.t 10, .t 10]⟩, ⟨.t 12, none, (.build [(.sl none 0 0 0), (.i .i64 0), (.i .i64 0)] [(0, 1)]), [.t 11]⟩, ⟨.t 13, none, .box, [.t 12]⟩, ⟨.l 2, none, .mv, [.t 13]⟩, ⟨.l 3, none, .mv, [.c (.i .i64 0)]⟩])
 .ret))), [.tmp (.l 2), .tmp (.l 3)]⟩
/-- tarpaulin/wait.New -/
def b78 : Nat := 1
def a78 : AFn := ⟨(.seq (.reg [⟨.l 0, none, .mv, [.c (.p none)]⟩])
 (.seq (.reg [⟨.t 1, none, (.build [(.p none), (.p none), (.i .i64 0)] []), []⟩, ⟨.t 2, none, .box, [.t 1]⟩, ⟨.l 0, none, .mv, [.t 2]⟩])
 .ret)), [.tmp (.l 0)]⟩
/-- tarpaulin/heap.ahead -/
def b79 : Nat := 31
def a79 : AFn := ⟨(.seq (.reg [⟨.l 2, none, .box, [.l 0]⟩, ⟨.l 3, none, .box, [.l 1]⟩, ⟨.l 4, none, .mv, [.c (.i .i64 0)]⟩])
 (.seq (.regD [⟨.t 5, none, (.fad 1), [.l 2]⟩, ⟨.t 6, none, (.ld none), [.t 5]⟩, ⟨.t 7, none, (.fad 1), [.l 3]⟩, ⟨.t 8, none, (.ld none), [.t 7]⟩, ⟨.t 9, none, (.call 81), [.t 6, .t 8]⟩, ⟨.t 10, none, (.fad 2), [.l 2]⟩, ⟨.t 11, none, (.ld none), [.t 10]⟩, ⟨.t 12, none, (.fad 2), [.l 3]⟩, ⟨.t 13, none, (.ld none), [.t 12]⟩, ⟨.t 14, none, (.call 81), [.t 11, .t 13]⟩, ⟨.t 15, none, (.bslice [(.i .i64 0)] 2 1 [0, 1]), [.t 9, .t 14]⟩, ⟨.t 16, none, (.call 80), [.t 15]⟩, ⟨.l 4, none, .mv, [.t 16]⟩] [(6, 0), (8, 0)])
 .ret)), [.tmp (.l 4)]⟩
/-- cmp.Or[int] -/
def b80 : Nat := 493
def a80 : AFn := ⟨(.seq (.reg [⟨.l 2, none, .mv, [.c (.i .i64 0)]⟩])
 (.seq (.reg [⟨.l 3, none, .mv, [.c (.i .i64 0)]⟩])
 (.seq (.seq (.reg [⟨.l 6, none, .mv, [.l 0]⟩, ⟨.l 7, none, .lenSl, [.l 6]⟩, ⟨.l 8, none, .mv, [.c (.i .i64 0)]⟩])
 (.block 0 (.loop (.seq (.reg [⟨.t 9, none, (.bin .lss), [.l 8, .l 7]⟩])
 (.seq (.cond (.t 9) .skip (.exit 0))
 (.seq (.block 1 (.seq (.reg [⟨.t 10, none, (.iad 1), [.l 6, .l 8]⟩, ⟨.t 11, none, (.ld none), [.t 10]⟩, ⟨.l 5, none, .mv, [.t 11]⟩])
 (.seq (.reg [⟨.t 12, none, .mv, [.l 5]⟩, ⟨.t 13, none, .mv, [.l 3]⟩, ⟨.t 14, none, (.bin .neq), [.t 12, .t 13]⟩])
 (.cond (.t 14) (.seq (.reg [⟨.t 15, none, .mv, [.l 5]⟩, ⟨.l 2, none, .mv, [.t 15]⟩])
 .ret) .skip))))
 (.reg [⟨.t 16, none, (.bin .add), [.l 8, .c (.i .i64 1)]⟩, ⟨.l 8, none, .mv, [.t 16]⟩])))))))
 (.seq (.reg [⟨.t 17, none, .mv, [.l 3]⟩, ⟨.l 2, none, .mv, [.t 17]⟩])
 .ret)))), [.tmp (.l 2)]⟩
/-- cmp.Compare[int] -/
def b81 : Nat := 115
def a81 : AFn := ⟨(.seq (.reg [⟨.l 4, none, .mv, [.c (.i .i64 0)]⟩])
 (.seq (.reg [⟨.t 7, none, .mv, [.l 0]⟩, ⟨.t 8, none, (.call 82), [.t 7]⟩, ⟨.l 5, none, .mv, [.t 8]⟩])
 (.seq (.reg [⟨.t 9, none, .mv, [.l 1]⟩, ⟨.t 10, none, (.call 82), [.t 9]⟩, ⟨.l 6, none, .mv, [.t 10]⟩])
 (.seq (.seq (.reg [⟨.t 11, none, .mv, [.l 5]⟩])
 (.cond (.t 11) (.seq (.seq (.reg [⟨.t 12, none, .mv, [.l 6]⟩])
 (.cond (.t 12) (.seq (.reg [⟨.l 4, none, .mv, [.c (.i .i64 0)]⟩])
 .ret) .skip))
 (.seq (.reg [⟨.l 4, none, .mv, [.c (.i .i64 (-1))]⟩])
 .ret)) .skip))
 (.seq (.seq (.reg [⟨.t 13, none, .mv, [.l 6]⟩])
 (.cond (.t 13) (.seq (.reg [⟨.l 4, none, .mv, [.c (.i .i64 1)]⟩])
 .ret) .skip))
 (.seq (.seq (.reg [⟨.t 14, none, .mv, [.l 0]⟩, ⟨.t 15, none, .mv, [.l 1]⟩, ⟨.t 16, none, (.bin .lss), [.t 14, .t 15]⟩])
 (.cond (.t 16) (.seq (.reg [⟨.l 4, none, .mv, [.c (.i .i64 (-1))]⟩])
 .ret) .skip))
 (.seq (.seq (.reg [⟨.t 17, none, .mv, [.l 0]⟩, ⟨.t 18, none, .mv, [.l 1]⟩, ⟨.t 19, none, (.bin .gtr), [.t 17, .t 18]⟩])
 (.cond (.t 19) (.seq (.reg [⟨.l 4, none, .mv, [.c (.i .i64 1)]⟩])
 .ret) .skip))
 (.seq (.reg [⟨.l 4, none, .mv, [.c (.i .i64 0)]⟩])
 .ret)))))))), [.tmp (.l 4)]⟩
/-- cmp.isNaN[int] -/
def b82 : Nat := 5
def a82 : AFn := ⟨(.seq (.reg [⟨.l 2, none, .mv, [.c (.b false)]⟩])
 (.seq (.reg [⟨.t 3, none, .mv, [.l 0]⟩, ⟨.t 4, none, .mv, [.l 0]⟩, ⟨.t 5, none, (.bin .neq), [.t 3, .t 4]⟩, ⟨.l 2, none, .mv, [.t 5]⟩])
 .ret)), [.tmp (.l 2)]⟩
def tbl : Nat → Option AFn
  | 2 => some a2
  | 3 => some a3
  | 4 => some a4
  | 5 => some a5
  | 6 => some a6
  | 7 => some a7
  | 8 => some a8
  | 9 => some a9
  | 10 => some a10
  | 11 => some a11
  | 12 => some a12
  | 13 => some a13
  | 14 => some a14
  | 15 => some a15
  | 16 => some a16
  | 17 => some a17
  | 18 => some a18
  | 19 => some a19
  | 20 => some a20
  | 21 => some a21
  | 22 => some a22
  | 23 => some a23
  | 24 => some a24
  | 25 => some a25
  | 26 => some a26
  | 27 => some a27
  | 28 => some a28
  | 29 => some a29
  | 30 => some a30
  | 31 => some a31
  | 32 => some a32
  | 33 => some a33
  | 34 => some a34
  | 35 => some a35
  | 36 => some a36
  | 37 => some a37
  | 38 => some a38
  | 39 => some a39
  | 40 => some a40
  | 41 => some a41
  | 42 => some a42
  | 43 => some a43
  | 44 => some a44
  | 45 => some a45
  | 46 => some a46
  | 47 => some a47
  | 48 => some a48
  | 49 => some a49
  | 50 => some a50
  | 51 => some a51
  | 52 => some a52
  | 53 => some a53
  | 54 => some a54
  | 55 => some a55
  | 56 => some a56
  | 57 => some a57
  | 58 => some a58
  | 59 => some a59
  | 60 => some a60
  | 61 => some a61
  | 62 => some a62
  | 63 => some a63
  | 64 => some a64
  | 65 => some a65
  | 66 => some a66
  | 67 => some a67
  | 68 => some a68
  | 69 => some a69
  | 70 => some a70
  | 71 => some a71
  | 72 => some a72
  | 73 => some a73
  | 74 => some a74
  | 75 => some a75
  | 76 => some a76
  | 77 => some a77
  | 78 => some a78
  | 79 => some a79
  | 80 => some a80
  | 81 => some a81
  | 82 => some a82
  | _ => none
theorem c2 : compFn Try.prog b2 Try.f2 = some a2 := by kernel_rfl
theorem c3 : compFn Try.prog b3 Try.f3 = some a3 := by kernel_rfl
theorem c4 : compFn Try.prog b4 Try.f4 = some a4 := by kernel_rfl
theorem c5 : compFn Try.prog b5 Try.f5 = some a5 := by kernel_rfl
theorem c6 : compFn Try.prog b6 Try.f6 = some a6 := by kernel_rfl
theorem c7 : compFn Try.prog b7 Try.f7 = some a7 := by kernel_rfl
theorem c8 : compFn Try.prog b8 Try.f8 = some a8 := by kernel_rfl
theorem c9 : compFn Try.prog b9 Try.f9 = some a9 := by kernel_rfl
theorem c10 : compFn Try.prog b10 Try.f10 = some a10 := by kernel_rfl
theorem c11 : compFn Try.prog b11 Try.f11 = some a11 := by kernel_rfl
theorem c12 : compFn Try.prog b12 Try.f12 = some a12 := by kernel_rfl
theorem c13 : compFn Try.prog b13 Try.f13 = some a13 := by kernel_rfl
theorem c14 : compFn Try.prog b14 Try.f14 = some a14 := by kernel_rfl
theorem c15 : compFn Try.prog b15 Try.f15 = some a15 := by kernel_rfl
theorem c16 : compFn Try.prog b16 Try.f16 = some a16 := by kernel_rfl
theorem c17 : compFn Try.prog b17 Try.f17 = some a17 := by kernel_rfl
theorem c18 : compFn Try.prog b18 Try.f18 = some a18 := by kernel_rfl
theorem c19 : compFn Try.prog b19 Try.f19 = some a19 := by kernel_rfl
theorem c20 : compFn Try.prog b20 Try.f20 = some a20 := by kernel_rfl
theorem c21 : compFn Try.prog b21 Try.f21 = some a21 := by kernel_rfl
theorem c22 : compFn Try.prog b22 Try.f22 = some a22 := by kernel_rfl
theorem c23 : compFn Try.prog b23 Try.f23 = some a23 := by kernel_rfl
theorem c24 : compFn Try.prog b24 Try.f24 = some a24 := by kernel_rfl
theorem c25 : compFn Try.prog b25 Try.f25 = some a25 := by kernel_rfl
theorem c26 : compFn Try.prog b26 Try.f26 = some a26 := by kernel_rfl
theorem c27 : compFn Try.prog b27 Try.f27 = some a27 := by kernel_rfl
theorem c28 : compFn Try.prog b28 Try.f28 = some a28 := by kernel_rfl
theorem c29 : compFn Try.prog b29 Try.f29 = some a29 := by kernel_rfl
theorem c30 : compFn Try.prog b30 Try.f30 = some a30 := by kernel_rfl
theorem c31 : compFn Try.prog b31 Try.f31 = some a31 := by kernel_rfl
theorem c32 : compFn Try.prog b32 Try.f32 = some a32 := by kernel_rfl
theorem c33 : compFn Try.prog b33 Try.f33 = some a33 := by kernel_rfl
theorem c34 : compFn Try.prog b34 Try.f34 = some a34 := by kernel_rfl
theorem c35 : compFn Try.prog b35 Try.f35 = some a35 := by kernel_rfl
theorem c36 : compFn Try.prog b36 Try.f36 = some a36 := by kernel_rfl
theorem c37 : compFn Try.prog b37 Try.f37 = some a37 := by kernel_rfl
theorem c38 : compFn Try.prog b38 Try.f38 = some a38 := by kernel_rfl
theorem c39 : compFn Try.prog b39 Try.f39 = some a39 := by kernel_rfl
theorem c40 : compFn Try.prog b40 Try.f40 = some a40 := by kernel_rfl
theorem c41 : compFn Try.prog b41 Try.f41 = some a41 := by kernel_rfl
theorem c42 : compFn Try.prog b42 Try.f42 = some a42 := by kernel_rfl
theorem c43 : compFn Try.prog b43 Try.f43 = some a43 := by kernel_rfl
theorem c44 : compFn Try.prog b44 Try.f44 = some a44 := by kernel_rfl
theorem c45 : compFn Try.prog b45 Try.f45 = some a45 := by kernel_rfl
theorem c46 : compFn Try.prog b46 Try.f46 = some a46 := by kernel_rfl
theorem c47 : compFn Try.prog b47 Try.f47 = some a47 := by kernel_rfl
theorem c48 : compFn Try.prog b48 Try.f48 = some a48 := by kernel_rfl
theorem c49 : compFn Try.prog b49 Try.f49 = some a49 := by kernel_rfl
theorem c50 : compFn Try.prog b50 Try.f50 = some a50 := by kernel_rfl
theorem c51 : compFn Try.prog b51 Try.f51 = some a51 := by kernel_rfl
theorem c52 : compFn Try.prog b52 Try.f52 = some a52 := by kernel_rfl
theorem c53 : compFn Try.prog b53 Try.f53 = some a53 := by kernel_rfl
theorem c54 : compFn Try.prog b54 Try.f54 = some a54 := by kernel_rfl
theorem c55 : compFn Try.prog b55 Try.f55 = some a55 := by kernel_rfl
theorem c56 : compFn Try.prog b56 Try.f56 = some a56 := by kernel_rfl
theorem c57 : compFn Try.prog b57 Try.f57 = some a57 := by kernel_rfl
theorem c58 : compFn Try.prog b58 Try.f58 = some a58 := by kernel_rfl
theorem c59 : compFn Try.prog b59 Try.f59 = some a59 := by kernel_rfl
theorem c60 : compFn Try.prog b60 Try.f60 = some a60 := by kernel_rfl
theorem c61 : compFn Try.prog b61 Try.f61 = some a61 := by kernel_rfl
theorem c62 : compFn Try.prog b62 Try.f62 = some a62 := by kernel_rfl
theorem c63 : compFn Try.prog b63 Try.f63 = some a63 := by kernel_rfl
theorem c64 : compFn Try.prog b64 Try.f64 = some a64 := by kernel_rfl
theorem c65 : compFn Try.prog b65 Try.f65 = some a65 := by kernel_rfl
theorem c66 : compFn Try.prog b66 Try.f66 = some a66 := by kernel_rfl
theorem c67 : compFn Try.prog b67 Try.f67 = some a67 := by kernel_rfl
theorem c68 : compFn Try.prog b68 Try.f68 = some a68 := by kernel_rfl
theorem c69 : compFn Try.prog b69 Try.f69 = some a69 := by kernel_rfl
theorem c70 : compFn Try.prog b70 Try.f70 = some a70 := by kernel_rfl
theorem c71 : compFn Try.prog b71 Try.f71 = some a71 := by kernel_rfl
theorem c72 : compFn Try.prog b72 Try.f72 = some a72 := by kernel_rfl
theorem c73 : compFn Try.prog b73 Try.f73 = some a73 := by kernel_rfl
theorem c74 : compFn Try.prog b74 Try.f74 = some a74 := by kernel_rfl
theorem c75 : compFn Try.prog b75 Try.f75 = some a75 := by kernel_rfl
theorem c76 : compFn Try.prog b76 Try.f76 = some a76 := by kernel_rfl
theorem c77 : compFn Try.prog b77 Try.f77 = some a77 := by kernel_rfl
theorem c78 : compFn Try.prog b78 Try.f78 = some a78 := by kernel_rfl
theorem c79 : compFn Try.prog b79 Try.f79 = some a79 := by kernel_rfl
theorem c80 : compFn Try.prog b80 Try.f80 = some a80 := by kernel_rfl
theorem c81 : compFn Try.prog b81 Try.f81 = some a81 := by kernel_rfl
theorem c82 : compFn Try.prog b82 Try.f82 = some a82 := by kernel_rfl
theorem ok : TblOk Try.prog tbl := by
  intro f fn h
  unfold tbl at h
  split at h
  · cases h; exact .inl ⟨b2, _, Try.func2, c2⟩
  · cases h; exact .inl ⟨b3, _, Try.func3, c3⟩
  · cases h; exact .inl ⟨b4, _, Try.func4, c4⟩
  · cases h; exact .inl ⟨b5, _, Try.func5, c5⟩
  · cases h; exact .inl ⟨b6, _, Try.func6, c6⟩
  · cases h; exact .inl ⟨b7, _, Try.func7, c7⟩
  · cases h; exact .inl ⟨b8, _, Try.func8, c8⟩
  · cases h; exact .inl ⟨b9, _, Try.func9, c9⟩
  · cases h; exact .inl ⟨b10, _, Try.func10, c10⟩
  · cases h; exact .inl ⟨b11, _, Try.func11, c11⟩
  · cases h; exact .inl ⟨b12, _, Try.func12, c12⟩
  · cases h; exact .inl ⟨b13, _, Try.func13, c13⟩
  · cases h; exact .inl ⟨b14, _, Try.func14, c14⟩
  · cases h; exact .inl ⟨b15, _, Try.func15, c15⟩
  · cases h; exact .inl ⟨b16, _, Try.func16, c16⟩
  · cases h; exact .inl ⟨b17, _, Try.func17, c17⟩
  · cases h; exact .inl ⟨b18, _, Try.func18, c18⟩
  · cases h; exact .inl ⟨b19, _, Try.func19, c19⟩
  · cases h; exact .inl ⟨b20, _, Try.func20, c20⟩
  · cases h; exact .inl ⟨b21, _, Try.func21, c21⟩
  · cases h; exact .inl ⟨b22, _, Try.func22, c22⟩
  · cases h; exact .inl ⟨b23, _, Try.func23, c23⟩
  · cases h; exact .inl ⟨b24, _, Try.func24, c24⟩
  · cases h; exact .inl ⟨b25, _, Try.func25, c25⟩
  · cases h; exact .inl ⟨b26, _, Try.func26, c26⟩
  · cases h; exact .inl ⟨b27, _, Try.func27, c27⟩
  · cases h; exact .inl ⟨b28, _, Try.func28, c28⟩
  · cases h; exact .inl ⟨b29, _, Try.func29, c29⟩
  · cases h; exact .inl ⟨b30, _, Try.func30, c30⟩
  · cases h; exact .inl ⟨b31, _, Try.func31, c31⟩
  · cases h; exact .inl ⟨b32, _, Try.func32, c32⟩
  · cases h; exact .inl ⟨b33, _, Try.func33, c33⟩
  · cases h; exact .inl ⟨b34, _, Try.func34, c34⟩
  · cases h; exact .inl ⟨b35, _, Try.func35, c35⟩
  · cases h; exact .inl ⟨b36, _, Try.func36, c36⟩
  · cases h; exact .inl ⟨b37, _, Try.func37, c37⟩
  · cases h; exact .inl ⟨b38, _, Try.func38, c38⟩
  · cases h; exact .inl ⟨b39, _, Try.func39, c39⟩
  · cases h; exact .inl ⟨b40, _, Try.func40, c40⟩
  · cases h; exact .inl ⟨b41, _, Try.func41, c41⟩
  · cases h; exact .inl ⟨b42, _, Try.func42, c42⟩
  · cases h; exact .inl ⟨b43, _, Try.func43, c43⟩
  · cases h; exact .inl ⟨b44, _, Try.func44, c44⟩
  · cases h; exact .inl ⟨b45, _, Try.func45, c45⟩
  · cases h; exact .inl ⟨b46, _, Try.func46, c46⟩
  · cases h; exact .inl ⟨b47, _, Try.func47, c47⟩
  · cases h; exact .inl ⟨b48, _, Try.func48, c48⟩
  · cases h; exact .inl ⟨b49, _, Try.func49, c49⟩
  · cases h; exact .inl ⟨b50, _, Try.func50, c50⟩
  · cases h; exact .inl ⟨b51, _, Try.func51, c51⟩
  · cases h; exact .inl ⟨b52, _, Try.func52, c52⟩
  · cases h; exact .inl ⟨b53, _, Try.func53, c53⟩
  · cases h; exact .inl ⟨b54, _, Try.func54, c54⟩
  · cases h; exact .inl ⟨b55, _, Try.func55, c55⟩
  · cases h; exact .inl ⟨b56, _, Try.func56, c56⟩
  · cases h; exact .inl ⟨b57, _, Try.func57, c57⟩
  · cases h; exact .inl ⟨b58, _, Try.func58, c58⟩
  · cases h; exact .inl ⟨b59, _, Try.func59, c59⟩
  · cases h; exact .inl ⟨b60, _, Try.func60, c60⟩
  · cases h; exact .inl ⟨b61, _, Try.func61, c61⟩
  · cases h; exact .inl ⟨b62, _, Try.func62, c62⟩
  · cases h; exact .inl ⟨b63, _, Try.func63, c63⟩
  · cases h; exact .inl ⟨b64, _, Try.func64, c64⟩
  · cases h; exact .inl ⟨b65, _, Try.func65, c65⟩
  · cases h; exact .inl ⟨b66, _, Try.func66, c66⟩
  · cases h; exact .inl ⟨b67, _, Try.func67, c67⟩
  · cases h; exact .inl ⟨b68, _, Try.func68, c68⟩
  · cases h; exact .inl ⟨b69, _, Try.func69, c69⟩
  · cases h; exact .inl ⟨b70, _, Try.func70, c70⟩
  · cases h; exact .inl ⟨b71, _, Try.func71, c71⟩
  · cases h; exact .inl ⟨b72, _, Try.func72, c72⟩
  · cases h; exact .inl ⟨b73, _, Try.func73, c73⟩
  · cases h; exact .inl ⟨b74, _, Try.func74, c74⟩
  · cases h; exact .inl ⟨b75, _, Try.func75, c75⟩
  · cases h; exact .inl ⟨b76, _, Try.func76, c76⟩
  · cases h; exact .inl ⟨b77, _, Try.func77, c77⟩
  · cases h; exact .inl ⟨b78, _, Try.func78, c78⟩
  · cases h; exact .inl ⟨b79, _, Try.func79, c79⟩
  · cases h; exact .inl ⟨b80, _, Try.func80, c80⟩
  · cases h; exact .inl ⟨b81, _, Try.func81, c81⟩
  · cases h; exact .inl ⟨b82, _, Try.func82, c82⟩
  · cases h
theorem clean : ∀ f fn, tbl f = some fn → fn.clean = true := by
  intro f fn h
  unfold tbl at h
  split at h
  · cases h; kernel_rfl
  · cases h; kernel_rfl
  · cases h; kernel_rfl
  · cases h; kernel_rfl
  · cases h; kernel_rfl
  · cases h; kernel_rfl
  · cases h; kernel_rfl
  · cases h; kernel_rfl
  · cases h; kernel_rfl
  · cases h; kernel_rfl
  · cases h; kernel_rfl
  · cases h; kernel_rfl
  · cases h; kernel_rfl
  · cases h; kernel_rfl
  · cases h; kernel_rfl
  · cases h; kernel_rfl
  · cases h; kernel_rfl
  · cases h; kernel_rfl
  · cases h; kernel_rfl
  · cases h; kernel_rfl
  · cases h; kernel_rfl
  · cases h; kernel_rfl
  · cases h; kernel_rfl
  · cases h; kernel_rfl
  · cases h; kernel_rfl
  · cases h; kernel_rfl
  · cases h; kernel_rfl
  · cases h; kernel_rfl
  · cases h; kernel_rfl
  · cases h; kernel_rfl
  · cases h; kernel_rfl
  · cases h; kernel_rfl
  · cases h; kernel_rfl
  · cases h; kernel_rfl
  · cases h; kernel_rfl
  · cases h; kernel_rfl
  · cases h; kernel_rfl
  · cases h; kernel_rfl
  · cases h; kernel_rfl
  · cases h; kernel_rfl
  · cases h; kernel_rfl
  · cases h; kernel_rfl
  · cases h; kernel_rfl
  · cases h; kernel_rfl
  · cases h; kernel_rfl
  · cases h; kernel_rfl
  · cases h; kernel_rfl
  · cases h; kernel_rfl
  · cases h; kernel_rfl
  · cases h; kernel_rfl
  · cases h; kernel_rfl
  · cases h; kernel_rfl
  · cases h; kernel_rfl
  · cases h; kernel_rfl
  · cases h; kernel_rfl
  · cases h; kernel_rfl
  · cases h; kernel_rfl
  · cases h; kernel_rfl
  · cases h; kernel_rfl
  · cases h; kernel_rfl
  · cases h; kernel_rfl
  · cases h; kernel_rfl
  · cases h; kernel_rfl
  · cases h; kernel_rfl
  · cases h; kernel_rfl
  · cases h; kernel_rfl
  · cases h; kernel_rfl
  · cases h; kernel_rfl
  · cases h; kernel_rfl
  · cases h; kernel_rfl
  · cases h; kernel_rfl
  · cases h; kernel_rfl
  · cases h; kernel_rfl
  · cases h; kernel_rfl
  · cases h; kernel_rfl
  · cases h; kernel_rfl
  · cases h; kernel_rfl
  · cases h; kernel_rfl
  · cases h; kernel_rfl
  · cases h; kernel_rfl
  · cases h; kernel_rfl
  · cases h
theorem mixed : Try.prog.follows .mixedOrders = true := by kernel_rfl
theorem awake10 : KnownTrue Try.prog 10 := known mixed ok Try.func10 c10 (n := 100000) (by kernel_rfl)
/-- the table, with what is known -/
def tblK (f : Nat) : Option AFn := bif Nat.beq f 10 then some kTrue else tbl f
theorem okK : TblOk Try.prog tblK := by
  intro f fn h
  unfold tblK at h
  cases h10 : Nat.beq f 10
  case true =>
    rw [h10] at h
    cases h
    exact .inr ⟨rfl, by rw [beq_nat, decide_eq_true_eq] at h10; subst h10; exact awake10⟩
  rw [h10] at h
  exact ok f fn h
theorem cleanK : ∀ f fn, tblK f = some fn → fn.clean = true := by
  intro f fn h
  unfold tblK at h
  cases h10 : Nat.beq f 10
  case true =>
    rw [h10] at h
    cases h
    rfl
  rw [h10] at h
  exact clean f fn h
end Go.Proofs.Ytijhjfpiglaleaa.T
