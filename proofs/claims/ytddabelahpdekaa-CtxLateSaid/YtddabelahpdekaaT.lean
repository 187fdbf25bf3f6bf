/- The abstract machine's code of each function of this seat's program, and that it is compiled from the program's. PRINTED by our glue.py over our printam.lean. -/
import Derived.Test.YtddabelahpdekaaChecked
import Derived.Test.YtddabelahpdekaaAmW
import Derived.KernelRfl
set_option maxRecDepth 100000
set_option linter.unusedVariables false
namespace Go.Proofs.Ytddabelahpdekaa.T
open Go.AM
/-- gosem.cut.init -/
def b2 : Nat := 0
def a2 : AFn := ⟨(.reg [⟨.t 0, none, (.call 1), []⟩]), []⟩
/-- tarpaulin/tarpaulinlaw15.CtxFalls -/
def b3 : Nat := 7515668239
def a3 : AFn := ⟨(.seq (.reg [⟨.l 8, none, .mv, [.c (.b false)]⟩])
 (.seq (.seq (.reg [⟨.t 34, none, .mv, [.l 0]⟩, ⟨.t 35, none, .lenSl, [.t 34]⟩, ⟨.t 36, none, (.bin .gtr), [.t 35, .c (.i .i64 40)]⟩, ⟨.t 37, none, .mv, [.t 36]⟩, ⟨.t 38, (some (.t 37, false)), .mv, [.l 1]⟩, ⟨.t 39, (some (.t 37, false)), .lenSl, [.t 38]⟩, ⟨.t 40, (some (.t 37, false)), .mv, [.l 0]⟩, ⟨.t 41, (some (.t 37, false)), .lenSl, [.t 40]⟩, ⟨.t 42, (some (.t 37, false)), (.bin .lss), [.t 39, .t 41]⟩, ⟨.t 43, none, .pick, [.t 37, .c (.b true), .t 42]⟩, ⟨.t 44, none, .mv, [.t 43]⟩, ⟨.t 45, (some (.t 44, false)), .mv, [.l 1]⟩, ⟨.t 46, (some (.t 44, false)), .lenSl, [.t 45]⟩, ⟨.t 47, (some (.t 44, false)), (.bin .gtr), [.t 46, .c (.i .i64 60)]⟩, ⟨.t 48, none, .pick, [.t 44, .c (.b true), .t 47]⟩, ⟨.t 49, none, .mv, [.t 48]⟩, ⟨.t 50, (some (.t 49, false)), .mv, [.l 3]⟩, ⟨.t 51, (some (.t 49, false)), (.bin .lss), [.t 50, .c (.i .i64 3)]⟩, ⟨.t 52, none, .pick, [.t 49, .c (.b true), .t 51]⟩])
 (.cond (.t 52) (.seq (.reg [⟨.t 53, none, (.call 10), []⟩, ⟨.l 8, none, .mv, [.t 53]⟩])
 .ret) .skip))
 (.seq (.reg [⟨.t 54, none, (.call 12), []⟩, ⟨.t 55, none, (.call 11), [.t 54]⟩, ⟨.l 9, none, .mv, [.t 55]⟩])
 (.seq (.seq (.reg [⟨.t 56, none, .mv, [.l 9]⟩, ⟨.t 57, none, (.eq false .ptr), [.t 56, .c (.p none)]⟩])
 (.cond (.t 57) (.seq (.reg [⟨.l 8, none, .mv, [.c (.b false)]⟩])
 .ret) .skip))
 (.seq (.reg [⟨.t 58, none, (.bslice [(.i .i64 0)] 1 1 [0]), [.c (.i .i64 (-1))]⟩, ⟨.l 10, none, .mv, [.t 58]⟩])
 (.seq (.reg [⟨.t 59, none, (.bslice [(.b false)] 1 1 [0]), [.c (.b true)]⟩, ⟨.l 11, none, .mv, [.t 59]⟩])
 (.seq (.seq (.reg [⟨.l 12, none, .mv, [.c (.i .i64 0)]⟩])
 (.block 0 (.loop (.seq (.seq (.reg [⟨.t 60, none, .mv, [.l 12]⟩, ⟨.t 61, none, .mv, [.l 0]⟩, ⟨.t 62, none, .lenSl, [.t 61]⟩, ⟨.t 63, none, (.bin .lss), [.t 60, .t 62]⟩])
 (.cond (.t 63) .skip (.exit 0)))
 (.seq (.block 1 (.seq (.reg [⟨.t 66, none, .mv, [.l 0]⟩, ⟨.t 67, none, .mv, [.l 12]⟩, ⟨.t 68, none, (.iad 1), [.t 66, .t 67]⟩, ⟨.t 69, none, (.ld none), [.t 68]⟩, ⟨.t 70, none, .mv, [.l 12]⟩, ⟨.t 71, none, (.bin .add), [.t 70, .c (.i .i64 1)]⟩, ⟨.t 72, none, (.call 13), [.t 69, .t 71]⟩, ⟨.l 13, none, .mv, [.t 72]⟩])
 (.seq (.reg [⟨.l 14, none, .mv, [.c (.i .i64 0)]⟩, ⟨.l 15, none, .mv, [.c (.i .i64 0)]⟩])
 (.seq (.reg [⟨.t 73, none, .mv, [.l 1]⟩, ⟨.t 74, none, .mv, [.l 12]⟩, ⟨.t 75, none, (.iad 1), [.t 73, .t 74]⟩, ⟨.t 76, none, (.ld none), [.t 75]⟩, ⟨.t 77, none, (.call 13), [.t 76, .c (.i .i64 4)]⟩, ⟨.t 78, none, (.bin .eql), [.t 77, .c (.i .i64 0)]⟩, ⟨.l 16, none, .mv, [.t 78]⟩])
 (.seq (.seq (.reg [⟨.t 79, none, .mv, [.l 16]⟩])
 (.cond (.t 79) (.reg [⟨.t 81, none, .mv, [.l 9]⟩, ⟨.t 82, none, .mv, [.l 13]⟩, ⟨.t 83, none, (.call 14), [.t 81, .t 82]⟩, ⟨.t 80, none, .mv, [.t 83]⟩, ⟨.t 84, none, (.ext 0), [.t 80]⟩, ⟨.t 85, none, (.ext 1), [.t 80]⟩, ⟨.l 14, none, .mv, [.t 84]⟩, ⟨.l 15, none, .mv, [.t 85]⟩]) (.reg [⟨.t 87, none, .mv, [.l 9]⟩, ⟨.t 88, none, .mv, [.l 13]⟩, ⟨.t 89, none, (.call 15), [.t 87, .t 88]⟩, ⟨.t 86, none, .mv, [.t 89]⟩, ⟨.t 90, none, (.ext 0), [.t 86]⟩, ⟨.t 91, none, (.ext 1), [.t 86]⟩, ⟨.t 92, none, (.ext 2), [.t 86]⟩, ⟨.l 14, none, .mv, [.t 90]⟩, ⟨.l 15, none, .mv, [.t 92]⟩])))
 (.seq (.seq (.reg [⟨.t 93, none, .mv, [.l 15]⟩, ⟨.t 94, none, (.bin .neq), [.t 93, .c (.i .i64 0)]⟩, ⟨.t 95, none, .mv, [.t 94]⟩, ⟨.t 96, (some (.t 95, false)), .mv, [.l 14]⟩, ⟨.t 97, (some (.t 95, false)), .mv, [.l 12]⟩, ⟨.t 98, (some (.t 95, false)), (.bin .add), [.t 97, .c (.i .i64 1)]⟩, ⟨.t 99, (some (.t 95, false)), (.bin .neq), [.t 96, .t 98]⟩, ⟨.t 100, none, .pick, [.t 95, .c (.b true), .t 99]⟩])
 (.cond (.t 100) (.seq (.reg [⟨.l 8, none, .mv, [.c (.b false)]⟩])
 .ret) .skip))
 (.seq (.seq (.reg [⟨.t 101, none, .mv, [.l 16]⟩])
 (.cond (.t 101) (.reg [⟨.l 13, none, .mv, [.c (.i .i64 (-1))]⟩]) .skip))
 (.reg [⟨.t 102, none, .mv, [.l 10]⟩, ⟨.t 103, none, .mv, [.l 13]⟩, ⟨.t 104, none, (.bslice [(.i .i64 0)] 1 1 [0]), [.t 103]⟩, ⟨.t 105, none, (.app 1 8), [.t 102, .t 104]⟩, ⟨.t 106, none, .mv, [.l 11]⟩, ⟨.t 107, none, .mv, [.l 16]⟩, ⟨.t 108, none, (.bslice [(.b false)] 1 1 [0]), [.t 107]⟩, ⟨.t 109, none, (.app 1 1), [.t 106, .t 108]⟩, ⟨.l 10, none, .mv, [.t 105]⟩, ⟨.l 11, none, .mv, [.t 109]⟩]))))))))
 (.reg [⟨.t 64, none, .mv, [.l 12]⟩, ⟨.t 65, none, (.bin .add), [.t 64, .c (.i .i64 1)]⟩, ⟨.l 12, none, .mv, [.t 65]⟩]))))))
 (.seq (.reg [⟨.t 110, none, .mv, [.l 2]⟩, ⟨.t 111, none, .mv, [.l 10]⟩, ⟨.t 112, none, .lenSl, [.t 111]⟩, ⟨.t 113, none, (.call 13), [.t 110, .t 112]⟩, ⟨.l 17, none, .mv, [.t 113]⟩])
 (.seq (.reg [⟨.t 115, none, .mv, [.l 9]⟩, ⟨.t 116, none, .mv, [.l 17]⟩, ⟨.t 117, none, .mv, [.l 3]⟩, ⟨.t 118, none, (.call 16), [.t 115, .t 116, .t 117]⟩, ⟨.t 114, none, .mv, [.t 118]⟩, ⟨.t 119, none, (.ext 0), [.t 114]⟩, ⟨.t 120, none, (.ext 1), [.t 114]⟩, ⟨.t 121, none, (.ext 2), [.t 114]⟩, ⟨.l 18, none, .mv, [.t 119]⟩, ⟨.t 19, none, .mv, [.t 120]⟩, ⟨.l 20, none, .mv, [.t 121]⟩])
 (.seq (.seq (.reg [⟨.t 122, none, .mv, [.l 11]⟩, ⟨.t 123, none, .mv, [.l 17]⟩, ⟨.t 124, none, (.iad 1), [.t 122, .t 123]⟩, ⟨.t 125, none, (.ld none), [.t 124]⟩])
 (.cond (.t 125) (.seq (.reg [⟨.t 126, none, .mv, [.l 20]⟩, ⟨.t 127, none, (.bin .eql), [.t 126, .c (.i .i64 1)]⟩, ⟨.t 128, none, .mv, [.t 127]⟩, ⟨.t 129, (some (.t 128, true)), .mv, [.l 18]⟩, ⟨.t 130, (some (.t 128, true)), .lenSl, [.t 129]⟩, ⟨.t 131, (some (.t 128, true)), (.bin .eql), [.t 130, .c (.i .i64 0)]⟩, ⟨.t 132, none, .pick, [.t 128, .t 131, .c (.b false)]⟩, ⟨.t 133, none, .mv, [.t 132]⟩, ⟨.t 134, (some (.t 133, true)), (.call 10), []⟩, ⟨.t 135, none, .pick, [.t 133, .t 134, .c (.b false)]⟩, ⟨.l 8, none, .mv, [.t 135]⟩])
 .ret) .skip))
 (.seq (.seq (.reg [⟨.t 136, none, .mv, [.l 20]⟩, ⟨.t 137, none, (.bin .neq), [.t 136, .c (.i .i64 0)]⟩])
 (.cond (.t 137) (.seq (.reg [⟨.l 8, none, .mv, [.c (.b false)]⟩])
 .ret) .skip))
 (.seq (.reg [⟨.l 21, none, .mv, [.c (.i .i64 0)]⟩])
 (.seq (.seq (.reg [⟨.l 22, none, .mv, [.c (.i .i64 0)]⟩])
 (.block 2 (.loop (.seq (.seq (.reg [⟨.t 138, none, .mv, [.l 22]⟩, ⟨.t 139, none, .mv, [.l 10]⟩, ⟨.t 140, none, .lenSl, [.t 139]⟩, ⟨.t 141, none, (.bin .lss), [.t 138, .t 140]⟩])
 (.cond (.t 141) .skip (.exit 2)))
 (.seq (.block 3 (.seq (.reg [⟨.l 23, none, .mv, [.c (.b false)]⟩])
 (.seq (.seq (.reg [⟨.t 144, none, .mv, [.l 22]⟩, ⟨.l 24, none, .mv, [.t 144]⟩])
 (.block 4 (.loop (.seq (.seq (.reg [⟨.t 145, none, .mv, [.l 24]⟩, ⟨.t 146, none, (.bin .geq), [.t 145, .c (.i .i64 0)]⟩])
 (.cond (.t 146) .skip (.exit 4)))
 (.seq (.block 5 (.reg [⟨.t 151, none, .mv, [.l 23]⟩, ⟨.t 152, none, .mv, [.t 151]⟩, ⟨.t 153, (some (.t 152, false)), .mv, [.l 24]⟩, ⟨.t 154, (some (.t 152, false)), .mv, [.l 17]⟩, ⟨.t 155, (some (.t 152, false)), (.bin .eql), [.t 153, .t 154]⟩, ⟨.t 156, none, .pick, [.t 152, .c (.b true), .t 155]⟩, ⟨.l 23, none, .mv, [.t 156]⟩]))
 (.reg [⟨.t 147, none, .mv, [.l 10]⟩, ⟨.t 148, none, .mv, [.l 24]⟩, ⟨.t 149, none, (.iad 1), [.t 147, .t 148]⟩, ⟨.t 150, none, (.ld none), [.t 149]⟩, ⟨.l 24, none, .mv, [.t 150]⟩]))))))
 (.seq (.reg [⟨.t 158, none, .mv, [.l 9]⟩, ⟨.t 159, none, .mv, [.l 22]⟩, ⟨.t 160, none, (.call 17), [.t 158, .t 159]⟩, ⟨.t 157, none, .mv, [.t 160]⟩, ⟨.t 161, none, (.ext 0), [.t 157]⟩, ⟨.t 162, none, (.ext 1), [.t 157]⟩, ⟨.l 25, none, .mv, [.t 161]⟩, ⟨.l 26, none, .mv, [.t 162]⟩])
 (.seq (.reg [⟨.t 164, none, .mv, [.l 9]⟩, ⟨.t 165, none, .mv, [.l 22]⟩, ⟨.t 166, none, (.call 18), [.t 164, .t 165]⟩, ⟨.t 163, none, .mv, [.t 166]⟩, ⟨.t 167, none, (.ext 0), [.t 163]⟩, ⟨.t 168, none, (.ext 1), [.t 163]⟩, ⟨.l 27, none, .mv, [.t 167]⟩, ⟨.l 28, none, .mv, [.t 168]⟩])
 (.seq (.seq (.reg [⟨.t 169, none, .mv, [.l 26]⟩, ⟨.t 170, none, (.bin .neq), [.t 169, .c (.i .i64 0)]⟩, ⟨.t 171, none, .mv, [.t 170]⟩, ⟨.t 172, (some (.t 171, false)), .mv, [.l 28]⟩, ⟨.t 173, (some (.t 171, false)), (.bin .neq), [.t 172, .c (.i .i64 0)]⟩, ⟨.t 174, none, .pick, [.t 171, .c (.b true), .t 173]⟩, ⟨.t 175, none, .mv, [.t 174]⟩, ⟨.t 176, (some (.t 175, false)), .mv, [.l 25]⟩, ⟨.t 177, (some (.t 175, false)), (.bin .eql), [.t 176, .c (.i .i64 1)]⟩, ⟨.t 178, (some (.t 175, false)), .mv, [.l 23]⟩, ⟨.t 179, (some (.t 175, false)), (.eq true .bool), [.t 177, .t 178]⟩, ⟨.t 180, none, .pick, [.t 175, .c (.b true), .t 179]⟩, ⟨.t 181, none, .mv, [.t 180]⟩, ⟨.t 182, (some (.t 181, false)), .mv, [.l 27]⟩, ⟨.t 183, (some (.t 181, false)), .mv, [.l 3]⟩, ⟨.t 184, (some (.t 181, false)), (.bin .eql), [.t 182, .t 183]⟩, ⟨.t 185, (some (.t 181, false)), .mv, [.l 23]⟩, ⟨.t 186, (some (.t 181, false)), (.eq true .bool), [.t 184, .t 185]⟩, ⟨.t 187, none, .pick, [.t 181, .c (.b true), .t 186]⟩, ⟨.t 188, none, .mv, [.t 187]⟩, ⟨.t 189, (some (.t 188, false)), .mv, [.l 23]⟩, ⟨.t 190, (some (.t 188, false)), (.un .not), [.t 189]⟩, ⟨.t 191, (some (.t 188, false)), .mv, [.t 190]⟩, ⟨.t 192, (some (.t 191, true)), .mv, [.l 25]⟩, ⟨.t 193, (some (.t 191, true)), (.bin .neq), [.t 192, .c (.i .i64 0)]⟩, ⟨.t 194, (some (.t 191, true)), .mv, [.t 193]⟩, ⟨.t 195, (some (.t 194, false)), .mv, [.l 27]⟩, ⟨.t 196, (some (.t 194, false)), (.bin .neq), [.t 195, .c (.i .i64 0)]⟩, ⟨.t 197, (some (.t 191, true)), .pick, [.t 194, .c (.b true), .t 196]⟩, ⟨.t 198, (some (.t 188, false)), .pick, [.t 191, .t 197, .c (.b false)]⟩, ⟨.t 199, none, .pick, [.t 188, .c (.b true), .t 198]⟩])
 (.cond (.t 199) (.seq (.reg [⟨.l 8, none, .mv, [.c (.b false)]⟩])
 .ret) .skip))
 (.seq (.reg [⟨.t 200, none, .mv, [.l 23]⟩])
 (.cond (.t 200) (.reg [⟨.t 201, none, .mv, [.l 21]⟩, ⟨.t 202, none, (.bin .add), [.t 201, .c (.i .i64 1)]⟩, ⟨.l 21, none, .mv, [.t 202]⟩]) .skip))))))))
 (.reg [⟨.t 142, none, .mv, [.l 22]⟩, ⟨.t 143, none, (.bin .add), [.t 142, .c (.i .i64 1)]⟩, ⟨.l 22, none, .mv, [.t 143]⟩]))))))
 (.seq (.reg [⟨.t 204, none, .mv, [.l 9]⟩, ⟨.t 205, none, .mv, [.l 17]⟩, ⟨.t 206, none, .mv, [.l 3]⟩, ⟨.t 207, none, (.bin .add), [.t 206, .c (.i .i64 1)]⟩, ⟨.t 208, none, (.call 16), [.t 204, .t 205, .t 207]⟩, ⟨.t 203, none, .mv, [.t 208]⟩, ⟨.t 209, none, (.ext 0), [.t 203]⟩, ⟨.t 210, none, (.ext 1), [.t 203]⟩, ⟨.t 211, none, (.ext 2), [.t 203]⟩, ⟨.l 29, none, .mv, [.t 209]⟩, ⟨.t 30, none, .mv, [.t 210]⟩, ⟨.l 31, none, .mv, [.t 211]⟩])
 (.seq (.reg [⟨.t 213, none, .mv, [.l 9]⟩, ⟨.t 214, none, .mv, [.l 17]⟩, ⟨.t 215, none, (.call 18), [.t 213, .t 214]⟩, ⟨.t 212, none, .mv, [.t 215]⟩, ⟨.t 216, none, (.ext 0), [.t 212]⟩, ⟨.t 217, none, (.ext 1), [.t 212]⟩, ⟨.l 32, none, .mv, [.t 216]⟩, ⟨.t 33, none, .mv, [.t 217]⟩])
 (.seq (.reg [⟨.t 218, none, .mv, [.l 18]⟩, ⟨.t 219, none, .lenSl, [.t 218]⟩, ⟨.t 220, none, .mv, [.l 21]⟩, ⟨.t 221, none, (.bin .eql), [.t 219, .t 220]⟩, ⟨.t 222, none, .mv, [.t 221]⟩, ⟨.t 223, (some (.t 222, true)), .mv, [.l 18]⟩, ⟨.t 224, (some (.t 222, true)), (.iad 4), [.t 223, .c (.i .i64 0)]⟩, ⟨.t 225, (some (.t 222, true)), (.fad 0), [.t 224]⟩, ⟨.t 226, (some (.t 222, true)), (.ld none), [.t 225]⟩, ⟨.t 227, (some (.t 222, true)), .mv, [.l 17]⟩, ⟨.t 228, (some (.t 222, true)), (.bin .eql), [.t 226, .t 227]⟩, ⟨.t 229, none, .pick, [.t 222, .t 228, .c (.b false)]⟩, ⟨.t 230, none, .mv, [.t 229]⟩, ⟨.t 231, (some (.t 230, true)), .mv, [.l 31]⟩, ⟨.t 232, (some (.t 230, true)), (.bin .eql), [.t 231, .c (.i .i64 0)]⟩, ⟨.t 233, none, .pick, [.t 230, .t 232, .c (.b false)]⟩, ⟨.t 234, none, .mv, [.t 233]⟩, ⟨.t 235, (some (.t 234, true)), .mv, [.l 29]⟩, ⟨.t 236, (some (.t 234, true)), .lenSl, [.t 235]⟩, ⟨.t 237, (some (.t 234, true)), (.bin .eql), [.t 236, .c (.i .i64 0)]⟩, ⟨.t 238, none, .pick, [.t 234, .t 237, .c (.b false)]⟩, ⟨.t 239, none, .mv, [.t 238]⟩, ⟨.t 240, (some (.t 239, true)), .mv, [.l 32]⟩, ⟨.t 241, (some (.t 239, true)), .mv, [.l 3]⟩, ⟨.t 242, (some (.t 239, true)), (.bin .eql), [.t 240, .t 241]⟩, ⟨.t 243, none, .pick, [.t 239, .t 242, .c (.b false)]⟩, ⟨.t 244, none, .mv, [.t 243]⟩, ⟨.t 245, (some (.t 244, true)), (.call 10), []⟩, ⟨.t 246, none, .pick, [.t 244, .t 245, .c (.b false)]⟩, ⟨.l 8, none, .mv, [.t 246]⟩])
 .ret)))))))))))))))), [.tmp (.l 8)]⟩
/-- tarpaulin/tarpaulinlaw15.CtxAfters -/
def b4 : Nat := 132003130823
def a4 : AFn := ⟨(.seq (.reg [⟨.l 6, none, .mv, [.c (.b false)]⟩])
 (.seq (.seq (.reg [⟨.t 38, none, .mv, [.l 0]⟩, ⟨.t 39, none, .lenSl, [.t 38]⟩, ⟨.t 40, none, (.bin .gtr), [.t 39, .c (.i .i64 20)]⟩, ⟨.t 41, none, .mv, [.t 40]⟩, ⟨.t 42, (some (.t 41, false)), .mv, [.l 1]⟩, ⟨.t 43, (some (.t 41, false)), .lenSl, [.t 42]⟩, ⟨.t 44, (some (.t 41, false)), .mv, [.l 0]⟩, ⟨.t 45, (some (.t 41, false)), .lenSl, [.t 44]⟩, ⟨.t 46, (some (.t 41, false)), (.bin .lss), [.t 43, .t 45]⟩, ⟨.t 47, none, .pick, [.t 41, .c (.b true), .t 46]⟩, ⟨.t 48, none, .mv, [.t 47]⟩, ⟨.t 49, (some (.t 48, false)), .mv, [.l 1]⟩, ⟨.t 50, (some (.t 48, false)), .lenSl, [.t 49]⟩, ⟨.t 51, (some (.t 48, false)), (.bin .gtr), [.t 50, .c (.i .i64 30)]⟩, ⟨.t 52, none, .pick, [.t 48, .c (.b true), .t 51]⟩])
 (.cond (.t 52) (.seq (.reg [⟨.t 53, none, (.call 10), []⟩, ⟨.l 6, none, .mv, [.t 53]⟩])
 .ret) .skip))
 (.seq (.reg [⟨.t 54, none, (.call 11), [.c (.p none)]⟩, ⟨.l 7, none, .mv, [.t 54]⟩])
 (.seq (.seq (.reg [⟨.t 55, none, .mv, [.l 7]⟩, ⟨.t 56, none, (.eq false .ptr), [.t 55, .c (.p none)]⟩])
 (.cond (.t 56) (.seq (.reg [⟨.l 6, none, .mv, [.c (.b false)]⟩])
 .ret) .skip))
 (.seq (.reg [⟨.t 58, none, .mv, [.l 7]⟩, ⟨.t 59, none, (.call 15), [.t 58, .c (.i .i64 0)]⟩, ⟨.t 57, none, .mv, [.t 59]⟩, ⟨.t 60, none, (.ext 0), [.t 57]⟩, ⟨.t 61, none, (.ext 1), [.t 57]⟩, ⟨.t 62, none, (.ext 2), [.t 57]⟩, ⟨.l 8, none, .mv, [.t 60]⟩, ⟨.t 9, none, .mv, [.t 61]⟩, ⟨.l 10, none, .mv, [.t 62]⟩])
 (.seq (.reg [⟨.t 64, none, .mv, [.l 7]⟩, ⟨.t 65, none, .mv, [.l 8]⟩, ⟨.t 66, none, (.call 15), [.t 64, .t 65]⟩, ⟨.t 63, none, .mv, [.t 66]⟩, ⟨.t 67, none, (.ext 0), [.t 63]⟩, ⟨.t 68, none, (.ext 1), [.t 63]⟩, ⟨.t 69, none, (.ext 2), [.t 63]⟩, ⟨.l 11, none, .mv, [.t 67]⟩, ⟨.t 12, none, .mv, [.t 68]⟩, ⟨.l 13, none, .mv, [.t 69]⟩])
 (.seq (.seq (.reg [⟨.t 70, none, .mv, [.l 10]⟩, ⟨.t 71, none, (.bin .neq), [.t 70, .c (.i .i64 0)]⟩, ⟨.t 72, none, .mv, [.t 71]⟩, ⟨.t 73, (some (.t 72, false)), .mv, [.l 13]⟩, ⟨.t 74, (some (.t 72, false)), (.bin .neq), [.t 73, .c (.i .i64 0)]⟩, ⟨.t 75, none, .pick, [.t 72, .c (.b true), .t 74]⟩])
 (.cond (.t 75) (.seq (.reg [⟨.l 6, none, .mv, [.c (.b false)]⟩])
 .ret) .skip))
 (.seq (.reg [⟨.l 14, none, .mv, [.c (.sl none 0 0 0)]⟩])
 (.seq (.seq (.reg [⟨.l 15, none, .mv, [.c (.i .i64 0)]⟩])
 (.block 0 (.loop (.seq (.seq (.reg [⟨.t 76, none, .mv, [.l 15]⟩, ⟨.t 77, none, .mv, [.l 0]⟩, ⟨.t 78, none, .lenSl, [.t 77]⟩, ⟨.t 79, none, (.bin .lss), [.t 76, .t 78]⟩])
 (.cond (.t 79) .skip (.exit 0)))
 (.seq (.block 1 (.seq (.reg [⟨.t 82, none, .mv, [.l 8]⟩, ⟨.t 83, none, .mv, [.l 11]⟩, ⟨.t 84, none, (.bslice [(.i .i64 0)] 3 1 [0, 1, 2]), [.t 82, .t 83, .c (.i .i64 0)]⟩, ⟨.t 85, none, .mv, [.l 0]⟩, ⟨.t 86, none, .mv, [.l 15]⟩, ⟨.t 87, none, (.iad 1), [.t 85, .t 86]⟩, ⟨.t 88, none, (.ld none), [.t 87]⟩, ⟨.t 89, none, (.call 13), [.t 88, .c (.i .i64 3)]⟩, ⟨.t 90, none, (.iad 1), [.t 84, .t 89]⟩, ⟨.t 91, none, (.ld none), [.t 90]⟩, ⟨.l 16, none, .mv, [.t 91]⟩])
 (.seq (.reg [⟨.t 93, none, .mv, [.l 7]⟩, ⟨.t 94, none, .mv, [.l 16]⟩, ⟨.t 95, none, .mv, [.l 15]⟩, ⟨.t 96, none, (.bin .add), [.c (.i .i64 100), .t 95]⟩, ⟨.t 97, none, (.call 19), [.t 93, .t 94, .t 96]⟩, ⟨.t 92, none, .mv, [.t 97]⟩, ⟨.t 98, none, (.ext 0), [.t 92]⟩, ⟨.t 99, none, (.ext 1), [.t 92]⟩, ⟨.t 100, none, (.ext 2), [.t 92]⟩, ⟨.l 17, none, .mv, [.t 98]⟩, ⟨.l 18, none, .mv, [.t 99]⟩, ⟨.l 19, none, .mv, [.t 100]⟩])
 (.seq (.reg [⟨.t 101, none, .mv, [.l 19]⟩, ⟨.t 102, none, (.bin .neq), [.t 101, .c (.i .i64 0)]⟩, ⟨.t 103, none, .mv, [.t 102]⟩, ⟨.t 104, (some (.t 103, false)), .mv, [.l 17]⟩, ⟨.t 105, (some (.t 103, false)), .mv, [.l 15]⟩, ⟨.t 106, (some (.t 103, false)), (.bin .neq), [.t 104, .t 105]⟩, ⟨.t 107, none, .pick, [.t 103, .c (.b true), .t 106]⟩, ⟨.t 108, none, .mv, [.t 107]⟩, ⟨.t 109, (some (.t 108, false)), .mv, [.l 18]⟩, ⟨.t 110, (some (.t 108, false)), .lenSl, [.t 109]⟩, ⟨.t 111, (some (.t 108, false)), (.bin .neq), [.t 110, .c (.i .i64 0)]⟩, ⟨.t 112, none, .pick, [.t 108, .c (.b true), .t 111]⟩])
 (.cond (.t 112) (.seq (.reg [⟨.l 6, none, .mv, [.c (.b false)]⟩])
 .ret) .skip)))))
 (.reg [⟨.t 80, none, .mv, [.l 15]⟩, ⟨.t 81, none, (.bin .add), [.t 80, .c (.i .i64 1)]⟩, ⟨.l 15, none, .mv, [.t 81]⟩]))))))
 (.seq (.seq (.reg [⟨.l 20, none, .mv, [.c (.i .i64 0)]⟩])
 (.block 2 (.loop (.seq (.seq (.reg [⟨.t 113, none, .mv, [.l 20]⟩, ⟨.t 114, none, .mv, [.l 0]⟩, ⟨.t 115, none, .lenSl, [.t 114]⟩, ⟨.t 116, none, (.bin .lss), [.t 113, .t 115]⟩])
 (.cond (.t 116) .skip (.exit 2)))
 (.seq (.block 3 (.seq (.reg [⟨.t 119, none, .mv, [.l 1]⟩, ⟨.t 120, none, .mv, [.l 20]⟩, ⟨.t 121, none, (.iad 1), [.t 119, .t 120]⟩, ⟨.t 122, none, (.ld none), [.t 121]⟩])
 (.cond (.t 122) (.seq (.reg [⟨.t 124, none, .mv, [.l 7]⟩, ⟨.t 125, none, .mv, [.l 20]⟩, ⟨.t 126, none, (.call 20), [.t 124, .t 125]⟩, ⟨.t 123, none, .mv, [.t 126]⟩, ⟨.t 127, none, (.ext 0), [.t 123]⟩, ⟨.t 128, none, (.ext 1), [.t 123]⟩, ⟨.l 21, none, .mv, [.t 127]⟩, ⟨.l 22, none, .mv, [.t 128]⟩])
 (.seq (.reg [⟨.t 130, none, .mv, [.l 7]⟩, ⟨.t 131, none, .mv, [.l 20]⟩, ⟨.t 132, none, (.call 20), [.t 130, .t 131]⟩, ⟨.t 129, none, .mv, [.t 132]⟩, ⟨.t 133, none, (.ext 0), [.t 129]⟩, ⟨.t 134, none, (.ext 1), [.t 129]⟩, ⟨.l 23, none, .mv, [.t 133]⟩, ⟨.l 24, none, .mv, [.t 134]⟩])
 (.seq (.reg [⟨.t 135, none, .mv, [.l 22]⟩, ⟨.t 136, none, (.bin .neq), [.t 135, .c (.i .i64 0)]⟩, ⟨.t 137, none, .mv, [.t 136]⟩, ⟨.t 138, (some (.t 137, false)), .mv, [.l 24]⟩, ⟨.t 139, (some (.t 137, false)), (.bin .neq), [.t 138, .c (.i .i64 0)]⟩, ⟨.t 140, none, .pick, [.t 137, .c (.b true), .t 139]⟩, ⟨.t 141, none, .mv, [.t 140]⟩, ⟨.t 142, (some (.t 141, false)), .mv, [.l 21]⟩, ⟨.t 143, (some (.t 141, false)), (.un .not), [.t 142]⟩, ⟨.t 144, none, .pick, [.t 141, .c (.b true), .t 143]⟩, ⟨.t 145, none, .mv, [.t 144]⟩, ⟨.t 146, (some (.t 145, false)), .mv, [.l 23]⟩, ⟨.t 147, none, .pick, [.t 145, .c (.b true), .t 146]⟩])
 (.cond (.t 147) (.seq (.reg [⟨.l 6, none, .mv, [.c (.b false)]⟩])
 .ret) .skip)))) (.seq (.reg [⟨.t 148, none, .mv, [.l 0]⟩, ⟨.t 149, none, .mv, [.l 20]⟩, ⟨.t 150, none, (.iad 1), [.t 148, .t 149]⟩, ⟨.t 151, none, (.ld none), [.t 150]⟩, ⟨.t 152, none, (.call 13), [.t 151, .c (.i .i64 3)]⟩, ⟨.t 153, none, (.bin .eql), [.t 152, .c (.i .i64 1)]⟩])
 (.cond (.t 153) (.reg [⟨.t 154, none, .mv, [.l 14]⟩, ⟨.t 155, none, .mv, [.l 20]⟩, ⟨.t 156, none, (.bslice [(.i .i64 0)] 1 1 [0]), [.t 155]⟩, ⟨.t 157, none, (.app 1 8), [.t 154, .t 156]⟩, ⟨.l 14, none, .mv, [.t 157]⟩]) .skip)))))
 (.reg [⟨.t 117, none, .mv, [.l 20]⟩, ⟨.t 118, none, (.bin .add), [.t 117, .c (.i .i64 1)]⟩, ⟨.l 20, none, .mv, [.t 118]⟩]))))))
 (.seq (.seq (.reg [⟨.l 25, none, .mv, [.c (.i .i64 0)]⟩])
 (.block 4 (.loop (.seq (.seq (.reg [⟨.t 158, none, .mv, [.l 25]⟩, ⟨.t 159, none, .mv, [.l 0]⟩, ⟨.t 160, none, .lenSl, [.t 159]⟩, ⟨.t 161, none, (.bin .lss), [.t 158, .t 160]⟩])
 (.cond (.t 161) .skip (.exit 4)))
 (.seq (.block 5 (.seq (.reg [⟨.t 164, none, .mv, [.l 1]⟩, ⟨.t 165, none, .mv, [.l 25]⟩, ⟨.t 166, none, (.iad 1), [.t 164, .t 165]⟩, ⟨.t 167, none, (.ld none), [.t 166]⟩, ⟨.t 168, none, (.un .not), [.t 167]⟩, ⟨.t 169, none, .mv, [.t 168]⟩, ⟨.t 170, (some (.t 169, true)), .mv, [.l 0]⟩, ⟨.t 171, (some (.t 169, true)), .mv, [.l 25]⟩, ⟨.t 172, (some (.t 169, true)), (.iad 1), [.t 170, .t 171]⟩, ⟨.t 173, (some (.t 169, true)), (.ld none), [.t 172]⟩, ⟨.t 174, (some (.t 169, true)), (.call 13), [.t 173, .c (.i .i64 3)]⟩, ⟨.t 175, (some (.t 169, true)), (.bin .eql), [.t 174, .c (.i .i64 0)]⟩, ⟨.t 176, none, .pick, [.t 169, .t 175, .c (.b false)]⟩])
 (.cond (.t 176) (.reg [⟨.t 177, none, .mv, [.l 14]⟩, ⟨.t 178, none, .mv, [.l 25]⟩, ⟨.t 179, none, (.bslice [(.i .i64 0)] 1 1 [0]), [.t 178]⟩, ⟨.t 180, none, (.app 1 8), [.t 177, .t 179]⟩, ⟨.l 14, none, .mv, [.t 180]⟩]) .skip)))
 (.reg [⟨.t 162, none, .mv, [.l 25]⟩, ⟨.t 163, none, (.bin .add), [.t 162, .c (.i .i64 1)]⟩, ⟨.l 25, none, .mv, [.t 163]⟩]))))))
 (.seq (.reg [⟨.t 182, none, .mv, [.l 7]⟩, ⟨.t 183, none, .mv, [.l 8]⟩, ⟨.t 184, none, (.call 16), [.t 182, .t 183, .c (.i .i64 0)]⟩, ⟨.t 181, none, .mv, [.t 184]⟩, ⟨.t 185, none, (.ext 0), [.t 181]⟩, ⟨.t 186, none, (.ext 1), [.t 181]⟩, ⟨.t 187, none, (.ext 2), [.t 181]⟩, ⟨.t 26, none, .mv, [.t 185]⟩, ⟨.l 27, none, .mv, [.t 186]⟩, ⟨.l 28, none, .mv, [.t 187]⟩])
 (.seq (.seq (.reg [⟨.t 188, none, .mv, [.l 28]⟩, ⟨.t 189, none, (.bin .neq), [.t 188, .c (.i .i64 0)]⟩, ⟨.t 190, none, .mv, [.t 189]⟩, ⟨.t 191, (some (.t 190, false)), .mv, [.l 27]⟩, ⟨.t 192, (some (.t 190, false)), .lenSl, [.t 191]⟩, ⟨.t 193, (some (.t 190, false)), .mv, [.l 14]⟩, ⟨.t 194, (some (.t 190, false)), .lenSl, [.t 193]⟩, ⟨.t 195, (some (.t 190, false)), (.bin .neq), [.t 192, .t 194]⟩, ⟨.t 196, none, .pick, [.t 190, .c (.b true), .t 195]⟩])
 (.cond (.t 196) (.seq (.reg [⟨.l 6, none, .mv, [.c (.b false)]⟩])
 .ret) .skip))
 (.seq (.seq (.reg [⟨.l 29, none, .mv, [.c (.i .i64 0)]⟩])
 (.block 6 (.loop (.seq (.seq (.reg [⟨.t 197, none, .mv, [.l 29]⟩, ⟨.t 198, none, .mv, [.l 27]⟩, ⟨.t 199, none, .lenSl, [.t 198]⟩, ⟨.t 200, none, (.bin .lss), [.t 197, .t 199]⟩])
 (.cond (.t 200) .skip (.exit 6)))
 (.seq (.block 7 (.seq (.reg [⟨.t 203, none, .mv, [.l 27]⟩, ⟨.t 204, none, .mv, [.l 29]⟩, ⟨.t 205, none, (.iad 2), [.t 203, .t 204]⟩, ⟨.t 206, none, (.ld (some 2)), [.t 205]⟩, ⟨.t 207, none, .mv, [.l 14]⟩, ⟨.t 208, none, .mv, [.l 29]⟩, ⟨.t 209, none, (.iad 1), [.t 207, .t 208]⟩, ⟨.t 210, none, (.ld none), [.t 209]⟩, ⟨.t 211, none, .mv, [.l 14]⟩, ⟨.t 212, none, .mv, [.l 29]⟩, ⟨.t 213, none, (.iad 1), [.t 211, .t 212]⟩, ⟨.t 214, none, (.ld none), [.t 213]⟩, ⟨.t 215, none, (.bin .add), [.c (.i .i64 100), .t 214]⟩, ⟨.t 216, none, (.build [(.i .i64 0), (.i .i64 0)] [(0, 1), (1, 1)]), [.t 210, .t 215]⟩, ⟨.t 217, none, (.eq true (.agg [(0, 1), (1, 1)])), [.t 206, .t 216]⟩])
 (.cond (.t 217) (.seq (.reg [⟨.l 6, none, .mv, [.c (.b false)]⟩])
 .ret) .skip)))
 (.reg [⟨.t 201, none, .mv, [.l 29]⟩, ⟨.t 202, none, (.bin .add), [.t 201, .c (.i .i64 1)]⟩, ⟨.l 29, none, .mv, [.t 202]⟩]))))))
 (.seq (.reg [⟨.t 219, none, .mv, [.l 7]⟩, ⟨.t 220, none, .mv, [.l 8]⟩, ⟨.t 221, none, (.call 16), [.t 219, .t 220, .c (.i .i64 0)]⟩, ⟨.t 218, none, .mv, [.t 221]⟩, ⟨.t 222, none, (.ext 0), [.t 218]⟩, ⟨.t 223, none, (.ext 1), [.t 218]⟩, ⟨.t 224, none, (.ext 2), [.t 218]⟩, ⟨.t 30, none, .mv, [.t 222]⟩, ⟨.l 31, none, .mv, [.t 223]⟩, ⟨.t 32, none, .mv, [.t 224]⟩])
 (.seq (.reg [⟨.t 226, none, .mv, [.l 7]⟩, ⟨.t 227, none, .mv, [.l 11]⟩, ⟨.t 228, none, .mv, [.l 2]⟩, ⟨.t 229, none, (.call 13), [.t 228, .c (.i .i64 16)]⟩, ⟨.t 230, none, (.call 19), [.t 226, .t 227, .t 229]⟩, ⟨.t 225, none, .mv, [.t 230]⟩, ⟨.t 231, none, (.ext 0), [.t 225]⟩, ⟨.t 232, none, (.ext 1), [.t 225]⟩, ⟨.t 233, none, (.ext 2), [.t 225]⟩, ⟨.l 33, none, .mv, [.t 231]⟩, ⟨.l 34, none, .mv, [.t 232]⟩, ⟨.l 35, none, .mv, [.t 233]⟩])
 (.seq (.reg [⟨.t 235, none, .mv, [.l 7]⟩, ⟨.t 236, none, .mv, [.l 33]⟩, ⟨.t 237, none, (.call 20), [.t 235, .t 236]⟩, ⟨.t 234, none, .mv, [.t 237]⟩, ⟨.t 238, none, (.ext 0), [.t 234]⟩, ⟨.t 239, none, (.ext 1), [.t 234]⟩, ⟨.l 36, none, .mv, [.t 238]⟩, ⟨.t 37, none, .mv, [.t 239]⟩])
 (.seq (.regD [⟨.t 240, none, .mv, [.l 31]⟩, ⟨.t 241, none, .lenSl, [.t 240]⟩, ⟨.t 242, none, (.bin .eql), [.t 241, .c (.i .i64 0)]⟩, ⟨.t 243, none, .mv, [.t 242]⟩, ⟨.t 244, (some (.t 243, true)), .mv, [.l 35]⟩, ⟨.t 245, (some (.t 243, true)), (.bin .eql), [.t 244, .c (.i .i64 0)]⟩, ⟨.t 246, none, .pick, [.t 243, .t 245, .c (.b false)]⟩, ⟨.t 247, none, .mv, [.t 246]⟩, ⟨.t 248, (some (.t 247, true)), .mv, [.l 34]⟩, ⟨.t 249, (some (.t 247, true)), .lenSl, [.t 248]⟩, ⟨.t 250, (some (.t 247, true)), (.bin .eql), [.t 249, .c (.i .i64 1)]⟩, ⟨.t 251, none, .pick, [.t 247, .t 250, .c (.b false)]⟩, ⟨.t 252, none, .mv, [.t 251]⟩, ⟨.t 253, (some (.t 252, true)), .mv, [.l 34]⟩, ⟨.t 254, (some (.t 252, true)), (.iad 2), [.t 253, .c (.i .i64 0)]⟩, ⟨.t 255, (some (.t 252, true)), (.fad 0), [.t 254]⟩, ⟨.t 256, (some (.t 252, true)), (.ld none), [.t 255]⟩, ⟨.t 257, (some (.t 252, true)), .mv, [.l 33]⟩, ⟨.t 258, (some (.t 252, true)), (.bin .eql), [.t 256, .t 257]⟩, ⟨.t 259, none, .pick, [.t 252, .t 258, .c (.b false)]⟩, ⟨.t 260, none, .mv, [.t 259]⟩, ⟨.t 261, (some (.t 260, true)), .mv, [.l 34]⟩, ⟨.t 262, (some (.t 260, true)), (.iad 2), [.t 261, .c (.i .i64 0)]⟩, ⟨.t 263, (some (.t 260, true)), (.fad 1), [.t 262]⟩, ⟨.t 264, (some (.t 260, true)), (.ld none), [.t 263]⟩, ⟨.t 265, (some (.t 260, true)), .mv, [.l 2]⟩, ⟨.t 266, (some (.t 260, true)), (.call 13), [.t 265, .c (.i .i64 16)]⟩, ⟨.t 267, (some (.t 260, true)), (.bin .eql), [.t 264, .t 266]⟩, ⟨.t 268, none, .pick, [.t 260, .t 267, .c (.b false)]⟩, ⟨.t 269, none, .mv, [.t 268]⟩, ⟨.t 270, (some (.t 269, true)), .mv, [.l 36]⟩, ⟨.t 271, (some (.t 269, true)), (.un .not), [.t 270]⟩, ⟨.t 272, none, .pick, [.t 269, .t 271, .c (.b false)]⟩, ⟨.t 273, none, .mv, [.t 272]⟩, ⟨.t 274, (some (.t 273, true)), (.call 10), []⟩, ⟨.t 275, none, .pick, [.t 273, .t 274, .c (.b false)]⟩, ⟨.l 6, none, .mv, [.t 275]⟩] [(24, 27)])
 .ret)))))))))))))))))), [.tmp (.l 6)]⟩
/-- tarpaulin/tarpaulinlaw15.CtxFull -/
def b5 : Nat := 70368744194035
def a5 : AFn := ⟨(.seq (.reg [⟨.l 4, none, .mv, [.c (.b false)]⟩])
 (.seq (.seq (.reg [⟨.t 14, none, .mv, [.l 0]⟩, ⟨.t 15, none, .lenSl, [.t 14]⟩, ⟨.t 16, none, (.bin .gtr), [.t 15, .c (.i .i64 20)]⟩, ⟨.t 17, none, .mv, [.t 16]⟩, ⟨.t 18, (some (.t 17, false)), .mv, [.l 1]⟩, ⟨.t 19, (some (.t 17, false)), (.bin .lss), [.t 18, .c (.i .i64 0)]⟩, ⟨.t 20, none, .pick, [.t 17, .c (.b true), .t 19]⟩, ⟨.t 21, none, .mv, [.t 20]⟩, ⟨.t 22, (some (.t 21, false)), .mv, [.l 1]⟩, ⟨.t 23, (some (.t 21, false)), (.bin .gtr), [.t 22, .c (.i .i64 5)]⟩, ⟨.t 24, none, .pick, [.t 21, .c (.b true), .t 23]⟩])
 (.cond (.t 24) (.seq (.reg [⟨.t 25, none, (.call 10), []⟩, ⟨.l 4, none, .mv, [.t 25]⟩])
 .ret) .skip))
 (.seq (.reg [⟨.t 26, none, (.call 11), [.c (.p none)]⟩, ⟨.l 5, none, .mv, [.t 26]⟩])
 (.seq (.seq (.reg [⟨.t 27, none, .mv, [.l 5]⟩, ⟨.t 28, none, (.eq false .ptr), [.t 27, .c (.p none)]⟩])
 (.cond (.t 28) (.seq (.reg [⟨.l 4, none, .mv, [.c (.b false)]⟩])
 .ret) .skip))
 (.seq (.seq (.reg [⟨.l 6, none, .mv, [.c (.i .i64 1)]⟩])
 (.block 0 (.loop (.seq (.seq (.reg [⟨.t 29, none, .mv, [.l 6]⟩, ⟨.t 30, none, .mv, [.l 1]⟩, ⟨.t 31, none, (.bin .add), [.c (.i .i64 64), .t 30]⟩, ⟨.t 32, none, (.bin .lss), [.t 29, .t 31]⟩])
 (.cond (.t 32) .skip (.exit 0)))
 (.seq (.block 1 (.seq (.reg [⟨.l 7, none, .mv, [.c (.i .i64 0)]⟩])
 (.seq (.seq (.reg [⟨.t 35, none, .mv, [.l 0]⟩, ⟨.t 36, none, .lenSl, [.t 35]⟩, ⟨.t 37, none, (.bin .gtr), [.t 36, .c (.i .i64 0)]⟩])
 (.cond (.t 37) (.reg [⟨.t 38, none, .mv, [.l 0]⟩, ⟨.t 39, none, .mv, [.l 6]⟩, ⟨.t 40, none, .mv, [.l 0]⟩, ⟨.t 41, none, .lenSl, [.t 40]⟩, ⟨.t 42, none, (.bin .rem), [.t 39, .t 41]⟩, ⟨.t 43, none, (.iad 1), [.t 38, .t 42]⟩, ⟨.t 44, none, (.ld none), [.t 43]⟩, ⟨.t 45, none, (.call 13), [.t 44, .c (.i .i64 3)]⟩, ⟨.l 7, none, .mv, [.t 45]⟩]) .skip))
 (.seq (.reg [⟨.l 8, none, .mv, [.c (.i .i64 0)]⟩, ⟨.l 9, none, .mv, [.c (.i .i64 0)]⟩])
 (.seq (.seq (.reg [⟨.l 46, none, .mv, [.l 7]⟩])
 (.block 2 (.seq (.reg [⟨.t 53, none, (.bin .eql), [.l 46, .c (.i .i64 0)]⟩, ⟨.t 52, none, .mv, [.t 53]⟩])
 (.cond (.t 52) (.reg [⟨.t 55, none, .mv, [.l 5]⟩, ⟨.t 56, none, (.call 15), [.t 55, .c (.i .i64 0)]⟩, ⟨.t 54, none, .mv, [.t 56]⟩, ⟨.t 57, none, (.ext 0), [.t 54]⟩, ⟨.t 58, none, (.ext 1), [.t 54]⟩, ⟨.t 59, none, (.ext 2), [.t 54]⟩, ⟨.l 8, none, .mv, [.t 57]⟩, ⟨.l 9, none, .mv, [.t 59]⟩]) (.seq (.reg [⟨.t 61, none, (.bin .eql), [.l 46, .c (.i .i64 1)]⟩, ⟨.t 60, none, .mv, [.t 61]⟩])
 (.cond (.t 60) (.reg [⟨.t 63, none, .mv, [.l 5]⟩, ⟨.t 64, none, (.call 21), [.t 63, .c (.i .i64 0), .c (.i .i64 50), .c (.i .i64 1)]⟩, ⟨.t 62, none, .mv, [.t 64]⟩, ⟨.t 65, none, (.ext 0), [.t 62]⟩, ⟨.t 66, none, (.ext 1), [.t 62]⟩, ⟨.t 67, none, (.ext 2), [.t 62]⟩, ⟨.l 8, none, .mv, [.t 65]⟩, ⟨.l 9, none, .mv, [.t 67]⟩]) (.reg [⟨.t 48, none, .mv, [.l 5]⟩, ⟨.t 49, none, (.call 14), [.t 48, .c (.i .i64 0)]⟩, ⟨.t 47, none, .mv, [.t 49]⟩, ⟨.t 50, none, (.ext 0), [.t 47]⟩, ⟨.t 51, none, (.ext 1), [.t 47]⟩, ⟨.l 8, none, .mv, [.t 50]⟩, ⟨.l 9, none, .mv, [.t 51]⟩])))))))
 (.seq (.reg [⟨.t 68, none, .mv, [.l 9]⟩, ⟨.t 69, none, (.bin .eql), [.t 68, .c (.i .i64 0)]⟩, ⟨.t 70, none, .mv, [.l 6]⟩, ⟨.t 71, none, (.bin .lss), [.t 70, .c (.i .i64 64)]⟩, ⟨.t 72, none, (.eq true .bool), [.t 69, .t 71]⟩, ⟨.t 73, none, .mv, [.t 72]⟩, ⟨.t 74, (some (.t 73, false)), .mv, [.l 9]⟩, ⟨.t 75, (some (.t 73, false)), (.bin .eql), [.t 74, .c (.i .i64 0)]⟩, ⟨.t 76, (some (.t 73, false)), .mv, [.t 75]⟩, ⟨.t 77, (some (.t 76, true)), .mv, [.l 8]⟩, ⟨.t 78, (some (.t 76, true)), .mv, [.l 6]⟩, ⟨.t 79, (some (.t 76, true)), (.bin .neq), [.t 77, .t 78]⟩, ⟨.t 80, (some (.t 73, false)), .pick, [.t 76, .t 79, .c (.b false)]⟩, ⟨.t 81, none, .pick, [.t 73, .c (.b true), .t 80]⟩, ⟨.t 82, none, .mv, [.t 81]⟩, ⟨.t 83, (some (.t 82, false)), .mv, [.l 9]⟩, ⟨.t 84, (some (.t 82, false)), (.bin .neq), [.t 83, .c (.i .i64 0)]⟩, ⟨.t 85, (some (.t 82, false)), .mv, [.t 84]⟩, ⟨.t 86, (some (.t 85, true)), .mv, [.l 9]⟩, ⟨.t 87, (some (.t 85, true)), (.bin .neq), [.t 86, .c (.i .i64 3)]⟩, ⟨.t 88, (some (.t 85, true)), .mv, [.t 87]⟩, ⟨.t 89, (some (.t 88, false)), .mv, [.l 8]⟩, ⟨.t 90, (some (.t 88, false)), (.bin .neq), [.t 89, .c (.i .i64 0)]⟩, ⟨.t 91, (some (.t 85, true)), .pick, [.t 88, .c (.b true), .t 90]⟩, ⟨.t 92, (some (.t 82, false)), .pick, [.t 85, .t 91, .c (.b false)]⟩, ⟨.t 93, none, .pick, [.t 82, .c (.b true), .t 92]⟩])
 (.cond (.t 93) (.seq (.reg [⟨.l 4, none, .mv, [.c (.b false)]⟩])
 .ret) .skip)))))))
 (.reg [⟨.t 33, none, .mv, [.l 6]⟩, ⟨.t 34, none, (.bin .add), [.t 33, .c (.i .i64 1)]⟩, ⟨.l 6, none, .mv, [.t 34]⟩]))))))
 (.seq (.seq (.reg [⟨.l 10, none, .mv, [.c (.i .i64 0)]⟩])
 (.block 3 (.loop (.seq (.seq (.reg [⟨.t 94, none, .mv, [.l 10]⟩, ⟨.t 95, none, .mv, [.l 1]⟩, ⟨.t 96, none, (.bin .add), [.c (.i .i64 64), .t 95]⟩, ⟨.t 97, none, (.bin .lss), [.t 94, .t 96]⟩])
 (.cond (.t 97) .skip (.exit 3)))
 (.seq (.block 4 (.seq (.reg [⟨.t 101, none, .mv, [.l 5]⟩, ⟨.t 102, none, .mv, [.l 10]⟩, ⟨.t 103, none, (.call 19), [.t 101, .c (.i .i64 0), .t 102]⟩, ⟨.t 100, none, .mv, [.t 103]⟩, ⟨.t 104, none, (.ext 0), [.t 100]⟩, ⟨.t 105, none, (.ext 1), [.t 100]⟩, ⟨.t 106, none, (.ext 2), [.t 100]⟩, ⟨.l 11, none, .mv, [.t 104]⟩, ⟨.l 12, none, .mv, [.t 105]⟩, ⟨.l 13, none, .mv, [.t 106]⟩])
 (.seq (.reg [⟨.t 107, none, .mv, [.l 13]⟩, ⟨.t 108, none, (.bin .eql), [.t 107, .c (.i .i64 0)]⟩, ⟨.t 109, none, .mv, [.l 10]⟩, ⟨.t 110, none, (.bin .lss), [.t 109, .c (.i .i64 64)]⟩, ⟨.t 111, none, (.eq true .bool), [.t 108, .t 110]⟩, ⟨.t 112, none, .mv, [.t 111]⟩, ⟨.t 113, (some (.t 112, false)), .mv, [.l 13]⟩, ⟨.t 114, (some (.t 112, false)), (.bin .eql), [.t 113, .c (.i .i64 0)]⟩, ⟨.t 115, (some (.t 112, false)), .mv, [.t 114]⟩, ⟨.t 116, (some (.t 115, true)), .mv, [.l 11]⟩, ⟨.t 117, (some (.t 115, true)), .mv, [.l 10]⟩, ⟨.t 118, (some (.t 115, true)), (.bin .neq), [.t 116, .t 117]⟩, ⟨.t 119, (some (.t 112, false)), .pick, [.t 115, .t 118, .c (.b false)]⟩, ⟨.t 120, none, .pick, [.t 112, .c (.b true), .t 119]⟩, ⟨.t 121, none, .mv, [.t 120]⟩, ⟨.t 122, (some (.t 121, false)), .mv, [.l 13]⟩, ⟨.t 123, (some (.t 121, false)), (.bin .neq), [.t 122, .c (.i .i64 0)]⟩, ⟨.t 124, (some (.t 121, false)), .mv, [.t 123]⟩, ⟨.t 125, (some (.t 124, true)), .mv, [.l 13]⟩, ⟨.t 126, (some (.t 124, true)), (.bin .neq), [.t 125, .c (.i .i64 3)]⟩, ⟨.t 127, (some (.t 121, false)), .pick, [.t 124, .t 126, .c (.b false)]⟩, ⟨.t 128, none, .pick, [.t 121, .c (.b true), .t 127]⟩, ⟨.t 129, none, .mv, [.t 128]⟩, ⟨.t 130, (some (.t 129, false)), .mv, [.l 12]⟩, ⟨.t 131, (some (.t 129, false)), .lenSl, [.t 130]⟩, ⟨.t 132, (some (.t 129, false)), (.bin .neq), [.t 131, .c (.i .i64 0)]⟩, ⟨.t 133, none, .pick, [.t 129, .c (.b true), .t 132]⟩])
 (.cond (.t 133) (.seq (.reg [⟨.l 4, none, .mv, [.c (.b false)]⟩])
 .ret) .skip))))
 (.reg [⟨.t 98, none, .mv, [.l 10]⟩, ⟨.t 99, none, (.bin .add), [.t 98, .c (.i .i64 1)]⟩, ⟨.l 10, none, .mv, [.t 99]⟩]))))))
 (.seq (.reg [⟨.t 134, none, .mv, [.l 5]⟩, ⟨.t 135, none, (.call 22), [.t 134]⟩, ⟨.t 136, none, (.bin .eql), [.t 135, .c (.i .i64 64)]⟩, ⟨.t 137, none, .mv, [.t 136]⟩, ⟨.t 138, (some (.t 137, true)), (.call 10), []⟩, ⟨.t 139, none, .pick, [.t 137, .t 138, .c (.b false)]⟩, ⟨.l 4, none, .mv, [.t 139]⟩])
 .ret))))))), [.tmp (.l 4)]⟩
/-- tarpaulin/tarpaulinlaw15.CtxLate -/
def b6 : Nat := 28949067535
def a6 : AFn := ⟨(.seq (.reg [⟨.l 8, none, .mv, [.c (.b false)]⟩])
 (.seq (.seq (.reg [⟨.t 36, none, .mv, [.l 0]⟩, ⟨.t 37, none, (.bin .lss), [.t 36, .c (.i .i64 3)]⟩, ⟨.t 38, none, .mv, [.t 37]⟩, ⟨.t 39, (some (.t 38, false)), .mv, [.l 1]⟩, ⟨.t 40, (some (.t 38, false)), (.bin .lss), [.t 39, .c (.i .i64 1)]⟩, ⟨.t 41, none, .pick, [.t 38, .c (.b true), .t 40]⟩, ⟨.t 42, none, .mv, [.t 41]⟩, ⟨.t 43, (some (.t 42, false)), .mv, [.l 1]⟩, ⟨.t 44, (some (.t 42, false)), (.bin .gtr), [.t 43, .c (.i .i64 10)]⟩, ⟨.t 45, none, .pick, [.t 42, .c (.b true), .t 44]⟩, ⟨.t 46, none, .mv, [.t 45]⟩, ⟨.t 47, (some (.t 46, false)), .mv, [.l 3]⟩, ⟨.t 48, (some (.t 46, false)), (.bin .lss), [.t 47, .c (.i .i64 0)]⟩, ⟨.t 49, none, .pick, [.t 46, .c (.b true), .t 48]⟩, ⟨.t 50, none, .mv, [.t 49]⟩, ⟨.t 51, (some (.t 50, false)), .mv, [.l 3]⟩, ⟨.t 52, (some (.t 50, false)), (.bin .gtr), [.t 51, .c (.i .i64 1000)]⟩, ⟨.t 53, none, .pick, [.t 50, .c (.b true), .t 52]⟩, ⟨.t 54, none, .mv, [.t 53]⟩, ⟨.t 55, (some (.t 54, false)), .mv, [.l 2]⟩, ⟨.t 56, (some (.t 54, false)), (.bin .lss), [.t 55, .c (.i .i64 (-10))]⟩, ⟨.t 57, none, .pick, [.t 54, .c (.b true), .t 56]⟩, ⟨.t 58, none, .mv, [.t 57]⟩, ⟨.t 59, (some (.t 58, false)), .mv, [.l 2]⟩, ⟨.t 60, (some (.t 58, false)), (.bin .gtr), [.t 59, .c (.i .i64 2000)]⟩, ⟨.t 61, none, .pick, [.t 58, .c (.b true), .t 60]⟩])
 (.cond (.t 61) (.seq (.reg [⟨.t 62, none, (.call 10), []⟩, ⟨.l 8, none, .mv, [.t 62]⟩])
 .ret) .skip))
 (.seq (.reg [⟨.t 63, none, (.call 12), []⟩, ⟨.t 64, none, (.call 11), [.t 63]⟩, ⟨.l 9, none, .mv, [.t 64]⟩])
 (.seq (.seq (.reg [⟨.t 65, none, .mv, [.l 9]⟩, ⟨.t 66, none, (.eq false .ptr), [.t 65, .c (.p none)]⟩])
 (.cond (.t 66) (.seq (.reg [⟨.l 8, none, .mv, [.c (.b false)]⟩])
 .ret) .skip))
 (.seq (.reg [⟨.t 68, none, .mv, [.l 9]⟩, ⟨.t 69, none, (.call 15), [.t 68, .c (.i .i64 0)]⟩, ⟨.t 67, none, .mv, [.t 69]⟩, ⟨.t 70, none, (.ext 0), [.t 67]⟩, ⟨.t 71, none, (.ext 1), [.t 67]⟩, ⟨.t 72, none, (.ext 2), [.t 67]⟩, ⟨.l 10, none, .mv, [.t 70]⟩, ⟨.t 11, none, .mv, [.t 71]⟩, ⟨.l 12, none, .mv, [.t 72]⟩])
 (.seq (.reg [⟨.t 74, none, .mv, [.l 9]⟩, ⟨.t 75, none, .mv, [.l 10]⟩, ⟨.t 76, none, .mv, [.l 0]⟩, ⟨.t 77, none, (.call 16), [.t 74, .t 75, .t 76]⟩, ⟨.t 73, none, .mv, [.t 77]⟩, ⟨.t 78, none, (.ext 0), [.t 73]⟩, ⟨.t 79, none, (.ext 1), [.t 73]⟩, ⟨.t 80, none, (.ext 2), [.t 73]⟩, ⟨.l 13, none, .mv, [.t 78]⟩, ⟨.t 14, none, .mv, [.t 79]⟩, ⟨.l 15, none, .mv, [.t 80]⟩])
 (.seq (.seq (.reg [⟨.t 81, none, .mv, [.l 12]⟩, ⟨.t 82, none, (.bin .neq), [.t 81, .c (.i .i64 0)]⟩, ⟨.t 83, none, .mv, [.t 82]⟩, ⟨.t 84, (some (.t 83, false)), .mv, [.l 15]⟩, ⟨.t 85, (some (.t 83, false)), (.bin .neq), [.t 84, .c (.i .i64 0)]⟩, ⟨.t 86, none, .pick, [.t 83, .c (.b true), .t 85]⟩, ⟨.t 87, none, .mv, [.t 86]⟩, ⟨.t 88, (some (.t 87, false)), .mv, [.l 13]⟩, ⟨.t 89, (some (.t 87, false)), .lenSl, [.t 88]⟩, ⟨.t 90, (some (.t 87, false)), (.bin .neq), [.t 89, .c (.i .i64 1)]⟩, ⟨.t 91, none, .pick, [.t 87, .c (.b true), .t 90]⟩])
 (.cond (.t 91) (.seq (.reg [⟨.l 8, none, .mv, [.c (.b false)]⟩])
 .ret) .skip))
 (.seq (.seq (.reg [⟨.l 16, none, .mv, [.c (.i .i64 0)]⟩])
 (.block 0 (.loop (.seq (.seq (.reg [⟨.t 92, none, .mv, [.l 16]⟩, ⟨.t 93, none, .mv, [.l 1]⟩, ⟨.t 94, none, (.bin .lss), [.t 92, .t 93]⟩])
 (.cond (.t 94) .skip (.exit 0)))
 (.seq (.block 1 (.seq (.reg [⟨.t 98, none, .mv, [.l 9]⟩, ⟨.t 99, none, .mv, [.l 10]⟩, ⟨.t 100, none, (.call 15), [.t 98, .t 99]⟩, ⟨.t 97, none, .mv, [.t 100]⟩, ⟨.t 101, none, (.ext 0), [.t 97]⟩, ⟨.t 102, none, (.ext 1), [.t 97]⟩, ⟨.t 103, none, (.ext 2), [.t 97]⟩, ⟨.l 17, none, .mv, [.t 101]⟩, ⟨.l 18, none, .mv, [.t 102]⟩, ⟨.l 19, none, .mv, [.t 103]⟩])
 (.seq (.reg [⟨.t 105, none, .mv, [.l 9]⟩, ⟨.t 106, none, .mv, [.l 17]⟩, ⟨.t 107, none, (.call 23), [.t 105, .t 106]⟩, ⟨.t 104, none, .mv, [.t 107]⟩, ⟨.t 108, none, (.ext 0), [.t 104]⟩, ⟨.t 109, none, (.ext 1), [.t 104]⟩, ⟨.l 20, none, .mv, [.t 108]⟩, ⟨.l 21, none, .mv, [.t 109]⟩])
 (.seq (.reg [⟨.t 111, none, .mv, [.l 9]⟩, ⟨.t 112, none, .mv, [.l 17]⟩, ⟨.t 113, none, (.call 17), [.t 111, .t 112]⟩, ⟨.t 110, none, .mv, [.t 113]⟩, ⟨.t 114, none, (.ext 0), [.t 110]⟩, ⟨.t 115, none, (.ext 1), [.t 110]⟩, ⟨.l 22, none, .mv, [.t 114]⟩, ⟨.t 23, none, .mv, [.t 115]⟩])
 (.seq (.reg [⟨.t 117, none, .mv, [.l 9]⟩, ⟨.t 118, none, .mv, [.l 17]⟩, ⟨.t 119, none, (.call 18), [.t 117, .t 118]⟩, ⟨.t 116, none, .mv, [.t 119]⟩, ⟨.t 120, none, (.ext 0), [.t 116]⟩, ⟨.t 121, none, (.ext 1), [.t 116]⟩, ⟨.l 24, none, .mv, [.t 120]⟩, ⟨.t 25, none, .mv, [.t 121]⟩])
 (.seq (.seq (.reg [⟨.t 122, none, .mv, [.l 19]⟩, ⟨.t 123, none, (.bin .neq), [.t 122, .c (.i .i64 0)]⟩, ⟨.t 124, none, .mv, [.t 123]⟩, ⟨.t 125, (some (.t 124, false)), .mv, [.l 21]⟩, ⟨.t 126, (some (.t 124, false)), (.bin .neq), [.t 125, .c (.i .i64 0)]⟩, ⟨.t 127, none, .pick, [.t 124, .c (.b true), .t 126]⟩, ⟨.t 128, none, .mv, [.t 127]⟩, ⟨.t 129, (some (.t 128, false)), .mv, [.l 20]⟩, ⟨.t 130, (some (.t 128, false)), (.eq false .ptr), [.t 129, .c (.p none)]⟩, ⟨.t 131, none, .pick, [.t 128, .c (.b true), .t 130]⟩, ⟨.t 132, none, .mv, [.t 131]⟩, ⟨.t 133, (some (.t 132, false)), .mv, [.l 20]⟩, ⟨.t 134, (some (.t 132, false)), (.call 24), [.t 133]⟩, ⟨.t 135, (some (.t 132, false)), (.un .not), [.t 134]⟩, ⟨.t 136, none, .pick, [.t 132, .c (.b true), .t 135]⟩, ⟨.t 137, none, .mv, [.t 136]⟩, ⟨.t 138, (some (.t 137, false)), .mv, [.l 22]⟩, ⟨.t 139, (some (.t 137, false)), (.bin .neq), [.t 138, .c (.i .i64 1)]⟩, ⟨.t 140, none, .pick, [.t 137, .c (.b true), .t 139]⟩, ⟨.t 141, none, .mv, [.t 140]⟩, ⟨.t 142, (some (.t 141, false)), .mv, [.l 24]⟩, ⟨.t 143, (some (.t 141, false)), .mv, [.l 0]⟩, ⟨.t 144, (some (.t 141, false)), (.bin .neq), [.t 142, .t 143]⟩, ⟨.t 145, none, .pick, [.t 141, .c (.b true), .t 144]⟩, ⟨.t 146, none, .mv, [.t 145]⟩, ⟨.t 147, (some (.t 146, false)), .mv, [.l 18]⟩, ⟨.t 148, (some (.t 146, false)), .lenSl, [.t 147]⟩, ⟨.t 149, (some (.t 146, false)), (.bin .neq), [.t 148, .c (.i .i64 1)]⟩, ⟨.t 150, none, .pick, [.t 146, .c (.b true), .t 149]⟩, ⟨.t 151, none, .mv, [.t 150]⟩, ⟨.t 152, (some (.t 151, false)), .mv, [.l 18]⟩, ⟨.t 153, (some (.t 151, false)), (.iad 4), [.t 152, .c (.i .i64 0)]⟩, ⟨.t 154, (some (.t 151, false)), (.fad 0), [.t 153]⟩, ⟨.t 155, (some (.t 151, false)), (.ld none), [.t 154]⟩, ⟨.t 156, (some (.t 151, false)), .mv, [.l 17]⟩, ⟨.t 157, (some (.t 151, false)), (.bin .neq), [.t 155, .t 156]⟩, ⟨.t 158, none, .pick, [.t 151, .c (.b true), .t 157]⟩])
 (.cond (.t 158) (.seq (.reg [⟨.l 8, none, .mv, [.c (.b false)]⟩])
 .ret) .skip))
 (.reg [⟨.t 159, none, .mv, [.l 17]⟩, ⟨.l 10, none, .mv, [.t 159]⟩])))))))
 (.reg [⟨.t 95, none, .mv, [.l 16]⟩, ⟨.t 96, none, (.bin .add), [.t 95, .c (.i .i64 1)]⟩, ⟨.l 16, none, .mv, [.t 96]⟩]))))))
 (.seq (.reg [⟨.t 161, none, .mv, [.l 9]⟩, ⟨.t 162, none, .mv, [.l 2]⟩, ⟨.t 163, none, .mv, [.l 3]⟩, ⟨.t 164, none, (.call 21), [.t 161, .c (.i .i64 0), .t 162, .t 163]⟩, ⟨.t 160, none, .mv, [.t 164]⟩, ⟨.t 165, none, (.ext 0), [.t 160]⟩, ⟨.t 166, none, (.ext 1), [.t 160]⟩, ⟨.t 167, none, (.ext 2), [.t 160]⟩, ⟨.l 26, none, .mv, [.t 165]⟩, ⟨.l 27, none, .mv, [.t 166]⟩, ⟨.l 28, none, .mv, [.t 167]⟩])
 (.seq (.reg [⟨.t 169, none, .mv, [.l 9]⟩, ⟨.t 170, none, .mv, [.l 26]⟩, ⟨.t 171, none, (.call 17), [.t 169, .t 170]⟩, ⟨.t 168, none, .mv, [.t 171]⟩, ⟨.t 172, none, (.ext 0), [.t 168]⟩, ⟨.t 173, none, (.ext 1), [.t 168]⟩, ⟨.l 29, none, .mv, [.t 172]⟩, ⟨.t 30, none, .mv, [.t 173]⟩])
 (.seq (.reg [⟨.t 175, none, .mv, [.l 9]⟩, ⟨.t 176, none, .mv, [.l 26]⟩, ⟨.t 177, none, (.call 18), [.t 175, .t 176]⟩, ⟨.t 174, none, .mv, [.t 177]⟩, ⟨.t 178, none, (.ext 0), [.t 174]⟩, ⟨.t 179, none, (.ext 1), [.t 174]⟩, ⟨.l 31, none, .mv, [.t 178]⟩, ⟨.t 32, none, .mv, [.t 179]⟩])
 (.seq (.reg [⟨.t 181, none, .mv, [.l 9]⟩, ⟨.t 182, none, .mv, [.l 26]⟩, ⟨.t 183, none, (.call 25), [.t 181, .t 182]⟩, ⟨.t 180, none, .mv, [.t 183]⟩, ⟨.t 184, none, (.ext 0), [.t 180]⟩, ⟨.t 185, none, (.ext 1), [.t 180]⟩, ⟨.t 186, none, (.ext 2), [.t 180]⟩, ⟨.l 33, none, .mv, [.t 184]⟩, ⟨.l 34, none, .mv, [.t 185]⟩, ⟨.t 35, none, .mv, [.t 186]⟩])
 (.seq (.seq (.reg [⟨.t 187, none, .mv, [.l 28]⟩, ⟨.t 188, none, (.bin .neq), [.t 187, .c (.i .i64 0)]⟩, ⟨.t 189, none, .mv, [.t 188]⟩, ⟨.t 190, (some (.t 189, false)), .mv, [.l 34]⟩, ⟨.t 191, (some (.t 189, false)), (.un .not), [.t 190]⟩, ⟨.t 192, none, .pick, [.t 189, .c (.b true), .t 191]⟩, ⟨.t 193, none, .mv, [.t 192]⟩, ⟨.t 194, (some (.t 193, false)), .mv, [.l 33]⟩, ⟨.t 195, (some (.t 193, false)), .mv, [.l 2]⟩, ⟨.t 196, (some (.t 193, false)), .max, [.t 195, .c (.i .i64 0)]⟩, ⟨.t 197, (some (.t 193, false)), (.bin .neq), [.t 194, .t 196]⟩, ⟨.t 198, none, .pick, [.t 193, .c (.b true), .t 197]⟩])
 (.cond (.t 198) (.seq (.reg [⟨.l 8, none, .mv, [.c (.b false)]⟩])
 .ret) .skip))
 (.seq (.seq (.reg [⟨.t 199, none, .mv, [.l 2]⟩, ⟨.t 200, none, .max, [.t 199, .c (.i .i64 0)]⟩, ⟨.t 201, none, .mv, [.l 3]⟩, ⟨.t 202, none, (.bin .leq), [.t 200, .t 201]⟩])
 (.cond (.t 202) (.seq (.reg [⟨.t 203, none, .mv, [.l 29]⟩, ⟨.t 204, none, (.bin .eql), [.t 203, .c (.i .i64 2)]⟩, ⟨.t 205, none, .mv, [.t 204]⟩, ⟨.t 206, (some (.t 205, true)), .mv, [.l 31]⟩, ⟨.t 207, (some (.t 205, true)), (.bin .eql), [.t 206, .c (.i .i64 2)]⟩, ⟨.t 208, none, .pick, [.t 205, .t 207, .c (.b false)]⟩, ⟨.t 209, none, .mv, [.t 208]⟩, ⟨.t 210, (some (.t 209, true)), .mv, [.l 27]⟩, ⟨.t 211, (some (.t 209, true)), .lenSl, [.t 210]⟩, ⟨.t 212, (some (.t 209, true)), (.bin .eql), [.t 211, .c (.i .i64 1)]⟩, ⟨.t 213, none, .pick, [.t 209, .t 212, .c (.b false)]⟩, ⟨.t 214, none, .mv, [.t 213]⟩, ⟨.t 215, (some (.t 214, true)), (.call 10), []⟩, ⟨.t 216, none, .pick, [.t 214, .t 215, .c (.b false)]⟩, ⟨.l 8, none, .mv, [.t 216]⟩])
 .ret) .skip))
 (.seq (.reg [⟨.t 217, none, .mv, [.l 29]⟩, ⟨.t 218, none, (.bin .eql), [.t 217, .c (.i .i64 0)]⟩, ⟨.t 219, none, .mv, [.t 218]⟩, ⟨.t 220, (some (.t 219, true)), .mv, [.l 31]⟩, ⟨.t 221, (some (.t 219, true)), (.bin .eql), [.t 220, .c (.i .i64 0)]⟩, ⟨.t 222, none, .pick, [.t 219, .t 221, .c (.b false)]⟩, ⟨.t 223, none, .mv, [.t 222]⟩, ⟨.t 224, (some (.t 223, true)), .mv, [.l 27]⟩, ⟨.t 225, (some (.t 223, true)), .lenSl, [.t 224]⟩, ⟨.t 226, (some (.t 223, true)), (.bin .eql), [.t 225, .c (.i .i64 0)]⟩, ⟨.t 227, none, .pick, [.t 223, .t 226, .c (.b false)]⟩, ⟨.t 228, none, .mv, [.t 227]⟩, ⟨.t 229, (some (.t 228, true)), (.call 10), []⟩, ⟨.t 230, none, .pick, [.t 228, .t 229, .c (.b false)]⟩, ⟨.l 8, none, .mv, [.t 230]⟩])
 .ret))))))))))))))), [.tmp (.l 8)]⟩
/-- tarpaulin/tarpaulinlaw15.CtxWakes -/
def b7 : Nat := 4061127
def a7 : AFn := ⟨(.seq (.reg [⟨.l 6, none, .mv, [.c (.b false)]⟩])
 (.seq (.seq (.reg [⟨.t 23, none, .mv, [.l 0]⟩, ⟨.t 24, none, (.bin .lss), [.t 23, .c (.i .i64 1)]⟩, ⟨.t 25, none, .mv, [.t 24]⟩, ⟨.t 26, (some (.t 25, false)), .mv, [.l 0]⟩, ⟨.t 27, (some (.t 25, false)), (.bin .gtr), [.t 26, .c (.i .i64 12)]⟩, ⟨.t 28, none, .pick, [.t 25, .c (.b true), .t 27]⟩])
 (.cond (.t 28) (.seq (.reg [⟨.t 29, none, (.call 10), []⟩, ⟨.l 6, none, .mv, [.t 29]⟩])
 .ret) .skip))
 (.seq (.reg [⟨.t 30, none, (.call 11), [.c (.p none)]⟩, ⟨.l 7, none, .mv, [.t 30]⟩])
 (.seq (.seq (.reg [⟨.t 31, none, .mv, [.l 7]⟩, ⟨.t 32, none, (.eq false .ptr), [.t 31, .c (.p none)]⟩])
 (.cond (.t 32) (.seq (.reg [⟨.l 6, none, .mv, [.c (.b false)]⟩])
 .ret) .skip))
 (.seq (.reg [⟨.l 8, none, .mv, [.c (.i .i64 0)]⟩])
 (.seq (.seq (.reg [⟨.l 9, none, .mv, [.c (.i .i64 0)]⟩])
 (.block 0 (.loop (.seq (.seq (.reg [⟨.t 33, none, .mv, [.l 9]⟩, ⟨.t 34, none, .mv, [.l 0]⟩, ⟨.t 35, none, (.bin .lss), [.t 33, .t 34]⟩])
 (.cond (.t 35) .skip (.exit 0)))
 (.seq (.block 1 (.seq (.reg [⟨.t 39, none, .mv, [.l 7]⟩, ⟨.t 40, none, .mv, [.l 8]⟩, ⟨.t 41, none, (.call 15), [.t 39, .t 40]⟩, ⟨.t 38, none, .mv, [.t 41]⟩, ⟨.t 42, none, (.ext 0), [.t 38]⟩, ⟨.t 43, none, (.ext 1), [.t 38]⟩, ⟨.t 44, none, (.ext 2), [.t 38]⟩, ⟨.l 10, none, .mv, [.t 42]⟩, ⟨.t 11, none, .mv, [.t 43]⟩, ⟨.l 12, none, .mv, [.t 44]⟩])
 (.seq (.reg [⟨.t 46, none, .mv, [.l 7]⟩, ⟨.t 47, none, .mv, [.l 10]⟩, ⟨.t 48, none, (.call 23), [.t 46, .t 47]⟩, ⟨.t 45, none, .mv, [.t 48]⟩, ⟨.t 49, none, (.ext 0), [.t 45]⟩, ⟨.t 50, none, (.ext 1), [.t 45]⟩, ⟨.l 13, none, .mv, [.t 49]⟩, ⟨.l 14, none, .mv, [.t 50]⟩])
 (.seq (.seq (.reg [⟨.t 51, none, .mv, [.l 12]⟩, ⟨.t 52, none, (.bin .neq), [.t 51, .c (.i .i64 0)]⟩, ⟨.t 53, none, .mv, [.t 52]⟩, ⟨.t 54, (some (.t 53, false)), .mv, [.l 14]⟩, ⟨.t 55, (some (.t 53, false)), (.bin .neq), [.t 54, .c (.i .i64 0)]⟩, ⟨.t 56, none, .pick, [.t 53, .c (.b true), .t 55]⟩, ⟨.t 57, none, .mv, [.t 56]⟩, ⟨.t 58, (some (.t 57, false)), .mv, [.l 10]⟩, ⟨.t 59, (some (.t 57, false)), .mv, [.l 9]⟩, ⟨.t 60, (some (.t 57, false)), (.bin .add), [.t 59, .c (.i .i64 1)]⟩, ⟨.t 61, (some (.t 57, false)), (.bin .neq), [.t 58, .t 60]⟩, ⟨.t 62, none, .pick, [.t 57, .c (.b true), .t 61]⟩, ⟨.t 63, none, .mv, [.t 62]⟩, ⟨.t 64, (some (.t 63, false)), .mv, [.l 13]⟩, ⟨.t 65, (some (.t 63, false)), (.eq false .ptr), [.t 64, .c (.p none)]⟩, ⟨.t 66, none, .pick, [.t 63, .c (.b true), .t 65]⟩, ⟨.t 67, none, .mv, [.t 66]⟩, ⟨.t 68, (some (.t 67, false)), .mv, [.l 13]⟩, ⟨.t 69, (some (.t 67, false)), .mv, [.l 9]⟩, ⟨.t 70, (some (.t 67, false)), (.bin .add), [.c (.i .i64 10), .t 69]⟩, ⟨.t 71, (some (.t 67, false)), (.build [(.i .i64 0), (.i .i64 0), (.i .i64 0)] [(0, 1)]), [.t 70]⟩, ⟨.t 72, (some (.t 67, false)), (.call 26), [.t 68, .t 71, .c (.b false)]⟩, ⟨.t 73, (some (.t 67, false)), (.bin .neq), [.t 72, .c (.i .i64 0)]⟩, ⟨.t 74, none, .pick, [.t 67, .c (.b true), .t 73]⟩])
 (.cond (.t 74) (.seq (.reg [⟨.l 6, none, .mv, [.c (.b false)]⟩])
 .ret) .skip))
 (.reg [⟨.t 75, none, .mv, [.l 10]⟩, ⟨.l 8, none, .mv, [.t 75]⟩])))))
 (.reg [⟨.t 36, none, .mv, [.l 9]⟩, ⟨.t 37, none, (.bin .add), [.t 36, .c (.i .i64 1)]⟩, ⟨.l 9, none, .mv, [.t 37]⟩]))))))
 (.seq (.reg [⟨.t 76, none, .mv, [.l 1]⟩, ⟨.t 77, none, .mv, [.l 0]⟩, ⟨.t 78, none, (.call 13), [.t 76, .t 77]⟩, ⟨.t 79, none, (.bin .add), [.c (.i .i64 1), .t 78]⟩, ⟨.l 15, none, .mv, [.t 79]⟩])
 (.seq (.reg [⟨.t 81, none, .mv, [.l 7]⟩, ⟨.t 82, none, .mv, [.l 15]⟩, ⟨.t 83, none, .mv, [.l 2]⟩, ⟨.t 84, none, (.call 16), [.t 81, .t 82, .t 83]⟩, ⟨.t 80, none, .mv, [.t 84]⟩, ⟨.t 85, none, (.ext 0), [.t 80]⟩, ⟨.t 86, none, (.ext 1), [.t 80]⟩, ⟨.t 87, none, (.ext 2), [.t 80]⟩, ⟨.l 16, none, .mv, [.t 85]⟩, ⟨.t 17, none, .mv, [.t 86]⟩, ⟨.l 18, none, .mv, [.t 87]⟩])
 (.seq (.seq (.reg [⟨.t 88, none, .mv, [.l 18]⟩, ⟨.t 89, none, (.bin .neq), [.t 88, .c (.i .i64 0)]⟩, ⟨.t 90, none, .mv, [.t 89]⟩, ⟨.t 91, (some (.t 90, false)), .mv, [.l 16]⟩, ⟨.t 92, (some (.t 90, false)), .lenSl, [.t 91]⟩, ⟨.t 93, (some (.t 90, false)), .mv, [.l 0]⟩, ⟨.t 94, (some (.t 90, false)), .mv, [.l 15]⟩, ⟨.t 95, (some (.t 90, false)), (.bin .sub), [.t 93, .t 94]⟩, ⟨.t 96, (some (.t 90, false)), (.bin .add), [.t 95, .c (.i .i64 1)]⟩, ⟨.t 97, (some (.t 90, false)), (.bin .neq), [.t 92, .t 96]⟩, ⟨.t 98, none, .pick, [.t 90, .c (.b true), .t 97]⟩])
 (.cond (.t 98) (.seq (.reg [⟨.l 6, none, .mv, [.c (.b false)]⟩])
 .ret) .skip))
 (.seq (.seq (.reg [⟨.l 19, none, .mv, [.c (.i .i64 0)]⟩])
 (.block 2 (.loop (.seq (.seq (.reg [⟨.t 99, none, .mv, [.l 19]⟩, ⟨.t 100, none, .mv, [.l 16]⟩, ⟨.t 101, none, .lenSl, [.t 100]⟩, ⟨.t 102, none, (.bin .lss), [.t 99, .t 101]⟩])
 (.cond (.t 102) .skip (.exit 2)))
 (.seq (.block 3 (.seq (.reg [⟨.t 105, none, .mv, [.l 16]⟩, ⟨.t 106, none, .mv, [.l 19]⟩, ⟨.t 107, none, (.iad 4), [.t 105, .t 106]⟩, ⟨.t 108, none, (.fad 0), [.t 107]⟩, ⟨.t 109, none, (.ld none), [.t 108]⟩, ⟨.t 110, none, .mv, [.l 15]⟩, ⟨.t 111, none, .mv, [.l 19]⟩, ⟨.t 112, none, (.bin .add), [.t 110, .t 111]⟩, ⟨.t 113, none, (.bin .neq), [.t 109, .t 112]⟩, ⟨.t 114, none, .mv, [.t 113]⟩, ⟨.t 115, (some (.t 114, false)), .mv, [.l 16]⟩, ⟨.t 116, (some (.t 114, false)), .mv, [.l 19]⟩, ⟨.t 117, (some (.t 114, false)), (.iad 4), [.t 115, .t 116]⟩, ⟨.t 118, (some (.t 114, false)), (.fad 3), [.t 117]⟩, ⟨.t 119, (some (.t 114, false)), (.ld none), [.t 118]⟩, ⟨.t 120, (some (.t 114, false)), .lenSl, [.t 119]⟩, ⟨.t 121, (some (.t 114, false)), (.bin .neq), [.t 120, .c (.i .i64 1)]⟩, ⟨.t 122, none, .pick, [.t 114, .c (.b true), .t 121]⟩, ⟨.t 123, none, .mv, [.t 122]⟩, ⟨.t 124, (some (.t 123, false)), .mv, [.l 16]⟩, ⟨.t 125, (some (.t 123, false)), .mv, [.l 19]⟩, ⟨.t 126, (some (.t 123, false)), (.iad 4), [.t 124, .t 125]⟩, ⟨.t 127, (some (.t 123, false)), (.fad 3), [.t 126]⟩, ⟨.t 128, (some (.t 123, false)), (.ld none), [.t 127]⟩, ⟨.t 129, (some (.t 123, false)), (.iad 5), [.t 128, .c (.i .i64 0)]⟩, ⟨.t 130, (some (.t 123, false)), (.ld (some 5)), [.t 129]⟩, ⟨.t 131, (some (.t 123, false)), .mv, [.l 15]⟩, ⟨.t 132, (some (.t 123, false)), (.bin .add), [.c (.i .i64 9), .t 131]⟩, ⟨.t 133, (some (.t 123, false)), .mv, [.l 19]⟩, ⟨.t 134, (some (.t 123, false)), (.bin .add), [.t 132, .t 133]⟩, ⟨.t 135, (some (.t 123, false)), (.build [(.i .i64 0), (.i .i64 0), (.i .i64 0), (.b false), (.b false)] [(0, 1)]), [.t 134]⟩, ⟨.t 136, (some (.t 123, false)), (.eq true (.agg [(0, 1), (1, 1), (2, 1), (3, 0), (4, 0)])), [.t 130, .t 135]⟩, ⟨.t 137, none, .pick, [.t 123, .c (.b true), .t 136]⟩, ⟨.t 138, none, .mv, [.t 137]⟩, ⟨.t 139, (some (.t 138, false)), .mv, [.l 16]⟩, ⟨.t 140, (some (.t 138, false)), .mv, [.l 19]⟩, ⟨.t 141, (some (.t 138, false)), (.iad 4), [.t 139, .t 140]⟩, ⟨.t 142, (some (.t 138, false)), (.fad 1), [.t 141]⟩, ⟨.t 143, (some (.t 138, false)), (.ld none), [.t 142]⟩, ⟨.t 144, (some (.t 138, false)), (.bin .neq), [.t 143, .c (.i .i64 1)]⟩, ⟨.t 145, none, .pick, [.t 138, .c (.b true), .t 144]⟩, ⟨.t 146, none, .mv, [.t 145]⟩, ⟨.t 147, (some (.t 146, false)), .mv, [.l 16]⟩, ⟨.t 148, (some (.t 146, false)), .mv, [.l 19]⟩, ⟨.t 149, (some (.t 146, false)), (.iad 4), [.t 147, .t 148]⟩, ⟨.t 150, (some (.t 146, false)), (.fad 2), [.t 149]⟩, ⟨.t 151, (some (.t 146, false)), (.ld none), [.t 150]⟩, ⟨.t 152, (some (.t 146, false)), .mv, [.l 2]⟩, ⟨.t 153, (some (.t 146, false)), .max, [.t 152, .c (.i .i64 1)]⟩, ⟨.t 154, (some (.t 146, false)), (.bin .neq), [.t 151, .t 153]⟩, ⟨.t 155, none, .pick, [.t 146, .c (.b true), .t 154]⟩])
 (.cond (.t 155) (.seq (.reg [⟨.l 6, none, .mv, [.c (.b false)]⟩])
 .ret) .skip)))
 (.reg [⟨.t 103, none, .mv, [.l 19]⟩, ⟨.t 104, none, (.bin .add), [.t 103, .c (.i .i64 1)]⟩, ⟨.l 19, none, .mv, [.t 104]⟩]))))))
 (.seq (.seq (.reg [⟨.l 20, none, .mv, [.c (.i .i64 1)]⟩])
 (.block 4 (.loop (.seq (.seq (.reg [⟨.t 156, none, .mv, [.l 20]⟩, ⟨.t 157, none, .mv, [.l 15]⟩, ⟨.t 158, none, (.bin .lss), [.t 156, .t 157]⟩])
 (.cond (.t 158) .skip (.exit 4)))
 (.seq (.block 5 (.seq (.reg [⟨.t 162, none, .mv, [.l 7]⟩, ⟨.t 163, none, .mv, [.l 20]⟩, ⟨.t 164, none, (.call 23), [.t 162, .t 163]⟩, ⟨.t 161, none, .mv, [.t 164]⟩, ⟨.t 165, none, (.ext 0), [.t 161]⟩, ⟨.t 166, none, (.ext 1), [.t 161]⟩, ⟨.l 21, none, .mv, [.t 165]⟩, ⟨.t 22, none, .mv, [.t 166]⟩])
 (.seq (.reg [⟨.t 167, none, .mv, [.l 21]⟩, ⟨.t 168, none, (.eq false .ptr), [.t 167, .c (.p none)]⟩, ⟨.t 169, none, .mv, [.t 168]⟩, ⟨.t 170, (some (.t 169, false)), .mv, [.l 21]⟩, ⟨.t 171, (some (.t 169, false)), (.call 24), [.t 170]⟩, ⟨.t 172, none, .pick, [.t 169, .c (.b true), .t 171]⟩, ⟨.t 173, none, .mv, [.t 172]⟩, ⟨.t 174, (some (.t 173, false)), .mv, [.l 21]⟩, ⟨.t 175, (some (.t 173, false)), (.call 27), [.t 174, .c (.b false)]⟩, ⟨.t 176, (some (.t 173, false)), .lenSl, [.t 175]⟩, ⟨.t 177, (some (.t 173, false)), (.bin .neq), [.t 176, .c (.i .i64 1)]⟩, ⟨.t 178, none, .pick, [.t 173, .c (.b true), .t 177]⟩])
 (.cond (.t 178) (.seq (.reg [⟨.l 6, none, .mv, [.c (.b false)]⟩])
 .ret) .skip))))
 (.reg [⟨.t 159, none, .mv, [.l 20]⟩, ⟨.t 160, none, (.bin .add), [.t 159, .c (.i .i64 1)]⟩, ⟨.l 20, none, .mv, [.t 160]⟩]))))))
 (.seq (.reg [⟨.t 179, none, (.call 10), []⟩, ⟨.l 6, none, .mv, [.t 179]⟩])
 .ret)))))))))))), [.tmp (.l 6)]⟩
/-- tarpaulin/tarpaulinlaw15.CtxDeadlines -/
def b8 : Nat := 365953011
def a8 : AFn := ⟨(.seq (.reg [⟨.l 4, none, .mv, [.c (.b false)]⟩])
 (.seq (.seq (.reg [⟨.t 29, none, .mv, [.l 0]⟩, ⟨.t 30, none, .lenSl, [.t 29]⟩, ⟨.t 31, none, (.bin .lss), [.t 30, .c (.i .i64 1)]⟩, ⟨.t 32, none, .mv, [.t 31]⟩, ⟨.t 33, (some (.t 32, false)), .mv, [.l 0]⟩, ⟨.t 34, (some (.t 32, false)), .lenSl, [.t 33]⟩, ⟨.t 35, (some (.t 32, false)), (.bin .gtr), [.t 34, .c (.i .i64 20)]⟩, ⟨.t 36, none, .pick, [.t 32, .c (.b true), .t 35]⟩, ⟨.t 37, none, .mv, [.t 36]⟩, ⟨.t 38, (some (.t 37, false)), .mv, [.l 1]⟩, ⟨.t 39, (some (.t 37, false)), (.bin .lss), [.t 38, .c (.i .i64 1)]⟩, ⟨.t 40, none, .pick, [.t 37, .c (.b true), .t 39]⟩, ⟨.t 41, none, .mv, [.t 40]⟩, ⟨.t 42, (some (.t 41, false)), .mv, [.l 1]⟩, ⟨.t 43, (some (.t 41, false)), (.bin .gtr), [.t 42, .c (.i .i64 1000)]⟩, ⟨.t 44, none, .pick, [.t 41, .c (.b true), .t 43]⟩])
 (.cond (.t 44) (.seq (.reg [⟨.t 45, none, (.call 10), []⟩, ⟨.l 4, none, .mv, [.t 45]⟩])
 .ret) .skip))
 (.seq (.reg [⟨.t 46, none, (.call 12), []⟩, ⟨.l 5, none, .mv, [.t 46]⟩])
 (.seq (.reg [⟨.t 47, none, .mv, [.l 5]⟩, ⟨.t 48, none, (.call 11), [.t 47]⟩, ⟨.l 6, none, .mv, [.t 48]⟩])
 (.seq (.seq (.reg [⟨.t 49, none, .mv, [.l 5]⟩, ⟨.t 50, none, (.eq false .ptr), [.t 49, .c (.p none)]⟩, ⟨.t 51, none, .mv, [.t 50]⟩, ⟨.t 52, (some (.t 51, false)), .mv, [.l 6]⟩, ⟨.t 53, (some (.t 51, false)), (.eq false .ptr), [.t 52, .c (.p none)]⟩, ⟨.t 54, none, .pick, [.t 51, .c (.b true), .t 53]⟩])
 (.cond (.t 54) (.seq (.reg [⟨.l 4, none, .mv, [.c (.b false)]⟩])
 .ret) .skip))
 (.seq (.reg [⟨.l 7, none, .mv, [.c (.i .i64 0)]⟩, ⟨.l 8, none, .mv, [.c (.i .i64 0)]⟩])
 (.seq (.reg [⟨.l 9, none, .mv, [.c (.sl none 0 0 0)]⟩])
 (.seq (.seq (.reg [⟨.l 10, none, .mv, [.c (.i .i64 0)]⟩])
 (.block 0 (.loop (.seq (.seq (.reg [⟨.t 55, none, .mv, [.l 10]⟩, ⟨.t 56, none, .mv, [.l 0]⟩, ⟨.t 57, none, .lenSl, [.t 56]⟩, ⟨.t 58, none, (.bin .lss), [.t 55, .t 57]⟩])
 (.cond (.t 58) .skip (.exit 0)))
 (.seq (.block 1 (.seq (.reg [⟨.t 61, none, .mv, [.l 0]⟩, ⟨.t 62, none, .mv, [.l 10]⟩, ⟨.t 63, none, (.iad 1), [.t 61, .t 62]⟩, ⟨.t 64, none, (.ld none), [.t 63]⟩, ⟨.t 65, none, (.call 13), [.t 64, .c (.i .i64 1000)]⟩, ⟨.l 11, none, .mv, [.t 65]⟩])
 (.seq (.reg [⟨.l 12, none, .mv, [.c (.i .i64 0)]⟩, ⟨.l 13, none, .mv, [.c (.i .i64 0)]⟩])
 (.seq (.seq (.reg [⟨.t 66, none, .mv, [.l 11]⟩, ⟨.t 67, none, (.bin .eql), [.t 66, .c (.i .i64 0)]⟩])
 (.cond (.t 67) (.reg [⟨.t 69, none, .mv, [.l 6]⟩, ⟨.t 70, none, .mv, [.l 7]⟩, ⟨.t 71, none, (.call 15), [.t 69, .t 70]⟩, ⟨.t 68, none, .mv, [.t 71]⟩, ⟨.t 72, none, (.ext 0), [.t 68]⟩, ⟨.t 73, none, (.ext 1), [.t 68]⟩, ⟨.t 74, none, (.ext 2), [.t 68]⟩, ⟨.l 12, none, .mv, [.t 72]⟩, ⟨.l 13, none, .mv, [.t 74]⟩]) (.seq (.reg [⟨.t 76, none, .mv, [.l 6]⟩, ⟨.t 77, none, .mv, [.l 7]⟩, ⟨.t 78, none, .mv, [.l 11]⟩, ⟨.t 79, none, (.call 21), [.t 76, .t 77, .t 78, .c (.i .i64 0)]⟩, ⟨.t 75, none, .mv, [.t 79]⟩, ⟨.t 80, none, (.ext 0), [.t 75]⟩, ⟨.t 81, none, (.ext 1), [.t 75]⟩, ⟨.t 82, none, (.ext 2), [.t 75]⟩, ⟨.l 12, none, .mv, [.t 80]⟩, ⟨.l 13, none, .mv, [.t 82]⟩])
 (.seq (.reg [⟨.t 83, none, .mv, [.l 8]⟩, ⟨.t 84, none, (.bin .eql), [.t 83, .c (.i .i64 0)]⟩, ⟨.t 85, none, .mv, [.t 84]⟩, ⟨.t 86, (some (.t 85, false)), .mv, [.l 11]⟩, ⟨.t 87, (some (.t 85, false)), .mv, [.l 8]⟩, ⟨.t 88, (some (.t 85, false)), (.bin .lss), [.t 86, .t 87]⟩, ⟨.t 89, none, .pick, [.t 85, .c (.b true), .t 88]⟩])
 (.cond (.t 89) (.reg [⟨.t 90, none, .mv, [.l 11]⟩, ⟨.l 8, none, .mv, [.t 90]⟩]) .skip)))))
 (.seq (.seq (.reg [⟨.t 91, none, .mv, [.l 13]⟩, ⟨.t 92, none, (.bin .neq), [.t 91, .c (.i .i64 0)]⟩, ⟨.t 93, none, .mv, [.t 92]⟩, ⟨.t 94, (some (.t 93, false)), .mv, [.l 12]⟩, ⟨.t 95, (some (.t 93, false)), .mv, [.l 10]⟩, ⟨.t 96, (some (.t 93, false)), (.bin .add), [.t 95, .c (.i .i64 1)]⟩, ⟨.t 97, (some (.t 93, false)), (.bin .neq), [.t 94, .t 96]⟩, ⟨.t 98, none, .pick, [.t 93, .c (.b true), .t 97]⟩])
 (.cond (.t 98) (.seq (.reg [⟨.l 4, none, .mv, [.c (.b false)]⟩])
 .ret) .skip))
 (.seq (.reg [⟨.t 100, none, .mv, [.l 6]⟩, ⟨.t 101, none, .mv, [.l 12]⟩, ⟨.t 102, none, (.call 25), [.t 100, .t 101]⟩, ⟨.t 99, none, .mv, [.t 102]⟩, ⟨.t 103, none, (.ext 0), [.t 99]⟩, ⟨.t 104, none, (.ext 1), [.t 99]⟩, ⟨.t 105, none, (.ext 2), [.t 99]⟩, ⟨.l 14, none, .mv, [.t 103]⟩, ⟨.l 15, none, .mv, [.t 104]⟩, ⟨.l 16, none, .mv, [.t 105]⟩])
 (.seq (.seq (.reg [⟨.t 106, none, .mv, [.l 16]⟩, ⟨.t 107, none, (.bin .neq), [.t 106, .c (.i .i64 0)]⟩, ⟨.t 108, none, .mv, [.t 107]⟩, ⟨.t 109, (some (.t 108, false)), .mv, [.l 15]⟩, ⟨.t 110, (some (.t 108, false)), .mv, [.l 8]⟩, ⟨.t 111, (some (.t 108, false)), (.bin .gtr), [.t 110, .c (.i .i64 0)]⟩, ⟨.t 112, (some (.t 108, false)), (.eq true .bool), [.t 109, .t 111]⟩, ⟨.t 113, none, .pick, [.t 108, .c (.b true), .t 112]⟩, ⟨.t 114, none, .mv, [.t 113]⟩, ⟨.t 115, (some (.t 114, false)), .mv, [.l 14]⟩, ⟨.t 116, (some (.t 114, false)), .mv, [.l 8]⟩, ⟨.t 117, (some (.t 114, false)), (.bin .neq), [.t 115, .t 116]⟩, ⟨.t 118, none, .pick, [.t 114, .c (.b true), .t 117]⟩])
 (.cond (.t 118) (.seq (.reg [⟨.l 4, none, .mv, [.c (.b false)]⟩])
 .ret) .skip))
 (.seq (.reg [⟨.t 119, none, .mv, [.l 9]⟩, ⟨.t 120, none, .mv, [.l 8]⟩, ⟨.t 121, none, (.bslice [(.i .i64 0)] 1 1 [0]), [.t 120]⟩, ⟨.t 122, none, (.app 1 8), [.t 119, .t 121]⟩, ⟨.l 9, none, .mv, [.t 122]⟩])
 (.reg [⟨.t 123, none, .mv, [.l 12]⟩, ⟨.l 7, none, .mv, [.t 123]⟩])))))))))
 (.reg [⟨.t 59, none, .mv, [.l 10]⟩, ⟨.t 60, none, (.bin .add), [.t 59, .c (.i .i64 1)]⟩, ⟨.l 10, none, .mv, [.t 60]⟩]))))))
 (.seq (.seq (.reg [⟨.l 17, none, .mv, [.c (.i .i64 0)]⟩])
 (.block 2 (.loop (.seq (.seq (.reg [⟨.t 124, none, .mv, [.l 17]⟩, ⟨.t 125, none, .mv, [.l 0]⟩, ⟨.t 126, none, .lenSl, [.t 125]⟩, ⟨.t 127, none, (.bin .leq), [.t 124, .t 126]⟩])
 (.cond (.t 127) .skip (.exit 2)))
 (.seq (.block 3 (.seq (.reg [⟨.t 131, none, .mv, [.l 5]⟩, ⟨.t 132, none, .mv, [.l 1]⟩, ⟨.t 133, none, (.call 28), [.t 131, .t 132]⟩, ⟨.t 130, none, .mv, [.t 133]⟩, ⟨.t 134, none, (.ext 0), [.t 130]⟩, ⟨.t 135, none, (.ext 1), [.t 130]⟩, ⟨.l 18, none, (.alloc [(.i .i64 0), (.i .i64 0), (.i .i64 0), (.i .i64 0), (.i .i64 0), (.sl none 0 0 0), (.b false)]), []⟩, ⟨.no, none, (.st 7), [.l 18, .t 134]⟩, ⟨.l 19, none, .mv, [.t 135]⟩])
 (.seq (.seq (.reg [⟨.t 136, none, .mv, [.l 19]⟩, ⟨.t 137, none, (.un .not), [.t 136]⟩])
 (.cond (.t 137) (.exit 2) .skip))
 (.seq (.reg [⟨.t 139, none, .mv, [.l 6]⟩, ⟨.t 140, none, (.fad 4), [.l 18]⟩, ⟨.t 141, none, (.ld none), [.t 140]⟩, ⟨.t 142, none, (.call 29), [.t 139, .t 141]⟩, ⟨.t 138, none, .mv, [.t 142]⟩, ⟨.t 143, none, (.ext 0), [.t 138]⟩, ⟨.t 144, none, (.ext 1), [.t 138]⟩, ⟨.t 145, none, (.ext 2), [.t 138]⟩, ⟨.t 20, none, .mv, [.t 143]⟩, ⟨.t 21, none, .mv, [.t 144]⟩, ⟨.l 22, none, .mv, [.t 145]⟩])
 (.seq (.reg [⟨.t 146, none, .mv, [.l 22]⟩, ⟨.t 147, none, (.bin .neq), [.t 146, .c (.i .i64 0)]⟩, ⟨.t 148, none, .mv, [.t 147]⟩, ⟨.t 149, (some (.t 148, false)), (.fad 1), [.l 18]⟩, ⟨.t 150, (some (.t 148, false)), (.ld none), [.t 149]⟩, ⟨.t 151, (some (.t 148, false)), (.bin .neq), [.t 150, .c (.i .i64 4)]⟩, ⟨.t 152, none, .pick, [.t 148, .c (.b true), .t 151]⟩, ⟨.t 153, none, .mv, [.t 152]⟩, ⟨.t 154, (some (.t 153, false)), (.fad 2), [.l 18]⟩, ⟨.t 155, (some (.t 153, false)), (.ld none), [.t 154]⟩, ⟨.t 156, (some (.t 153, false)), .mv, [.l 1]⟩, ⟨.t 157, (some (.t 153, false)), (.bin .gtr), [.t 155, .t 156]⟩, ⟨.t 158, none, .pick, [.t 153, .c (.b true), .t 157]⟩])
 (.cond (.t 158) (.seq (.reg [⟨.l 4, none, .mv, [.c (.b false)]⟩])
 .ret) .skip))))))
 (.reg [⟨.t 128, none, .mv, [.l 17]⟩, ⟨.t 129, none, (.bin .add), [.t 128, .c (.i .i64 1)]⟩, ⟨.l 17, none, .mv, [.t 129]⟩]))))))
 (.seq (.seq (.reg [⟨.l 23, none, .mv, [.c (.i .i64 0)]⟩])
 (.block 4 (.loop (.seq (.seq (.reg [⟨.t 159, none, .mv, [.l 23]⟩, ⟨.t 160, none, .mv, [.l 9]⟩, ⟨.t 161, none, .lenSl, [.t 160]⟩, ⟨.t 162, none, (.bin .lss), [.t 159, .t 161]⟩])
 (.cond (.t 162) .skip (.exit 4)))
 (.seq (.block 5 (.seq (.reg [⟨.t 166, none, .mv, [.l 6]⟩, ⟨.t 167, none, .mv, [.l 23]⟩, ⟨.t 168, none, (.bin .add), [.t 167, .c (.i .i64 1)]⟩, ⟨.t 169, none, (.call 17), [.t 166, .t 168]⟩, ⟨.t 165, none, .mv, [.t 169]⟩, ⟨.t 170, none, (.ext 0), [.t 165]⟩, ⟨.t 171, none, (.ext 1), [.t 165]⟩, ⟨.l 24, none, .mv, [.t 170]⟩, ⟨.t 25, none, .mv, [.t 171]⟩])
 (.seq (.reg [⟨.t 173, none, .mv, [.l 6]⟩, ⟨.t 174, none, .mv, [.l 23]⟩, ⟨.t 175, none, (.bin .add), [.t 174, .c (.i .i64 1)]⟩, ⟨.t 176, none, (.call 18), [.t 173, .t 175]⟩, ⟨.t 172, none, .mv, [.t 176]⟩, ⟨.t 177, none, (.ext 0), [.t 172]⟩, ⟨.t 178, none, (.ext 1), [.t 172]⟩, ⟨.l 26, none, .mv, [.t 177]⟩, ⟨.t 27, none, .mv, [.t 178]⟩])
 (.seq (.reg [⟨.t 179, none, .mv, [.l 9]⟩, ⟨.t 180, none, .mv, [.l 23]⟩, ⟨.t 181, none, (.iad 1), [.t 179, .t 180]⟩, ⟨.t 182, none, (.ld none), [.t 181]⟩, ⟨.t 183, none, (.bin .gtr), [.t 182, .c (.i .i64 0)]⟩, ⟨.t 184, none, .mv, [.t 183]⟩, ⟨.t 185, (some (.t 184, true)), .mv, [.l 9]⟩, ⟨.t 186, (some (.t 184, true)), .mv, [.l 23]⟩, ⟨.t 187, (some (.t 184, true)), (.iad 1), [.t 185, .t 186]⟩, ⟨.t 188, (some (.t 184, true)), (.ld none), [.t 187]⟩, ⟨.t 189, (some (.t 184, true)), .mv, [.l 1]⟩, ⟨.t 190, (some (.t 184, true)), (.bin .leq), [.t 188, .t 189]⟩, ⟨.t 191, none, .pick, [.t 184, .t 190, .c (.b false)]⟩, ⟨.l 28, none, .mv, [.t 191]⟩])
 (.seq (.reg [⟨.t 192, none, .mv, [.l 24]⟩, ⟨.t 193, none, (.bin .eql), [.t 192, .c (.i .i64 2)]⟩, ⟨.t 194, none, .mv, [.l 28]⟩, ⟨.t 195, none, (.eq true .bool), [.t 193, .t 194]⟩, ⟨.t 196, none, .mv, [.t 195]⟩, ⟨.t 197, (some (.t 196, false)), .mv, [.l 26]⟩, ⟨.t 198, (some (.t 196, false)), (.bin .eql), [.t 197, .c (.i .i64 2)]⟩, ⟨.t 199, (some (.t 196, false)), .mv, [.l 28]⟩, ⟨.t 200, (some (.t 196, false)), (.eq true .bool), [.t 198, .t 199]⟩, ⟨.t 201, none, .pick, [.t 196, .c (.b true), .t 200]⟩, ⟨.t 202, none, .mv, [.t 201]⟩, ⟨.t 203, (some (.t 202, false)), .mv, [.l 28]⟩, ⟨.t 204, (some (.t 202, false)), (.un .not), [.t 203]⟩, ⟨.t 205, (some (.t 202, false)), .mv, [.t 204]⟩, ⟨.t 206, (some (.t 205, true)), .mv, [.l 24]⟩, ⟨.t 207, (some (.t 205, true)), (.bin .neq), [.t 206, .c (.i .i64 0)]⟩, ⟨.t 208, (some (.t 202, false)), .pick, [.t 205, .t 207, .c (.b false)]⟩, ⟨.t 209, none, .pick, [.t 202, .c (.b true), .t 208]⟩])
 (.cond (.t 209) (.seq (.reg [⟨.l 4, none, .mv, [.c (.b false)]⟩])
 .ret) .skip))))))
 (.reg [⟨.t 163, none, .mv, [.l 23]⟩, ⟨.t 164, none, (.bin .add), [.t 163, .c (.i .i64 1)]⟩, ⟨.l 23, none, .mv, [.t 164]⟩]))))))
 (.seq (.reg [⟨.t 210, none, (.call 10), []⟩, ⟨.l 4, none, .mv, [.t 210]⟩])
 .ret))))))))))), [.tmp (.l 4)]⟩
/-- tarpaulin/tarpaulinlaw15.CtxTimers -/
def b9 : Nat := 1476329459
def a9 : AFn := ⟨(.seq (.reg [⟨.l 4, none, .mv, [.c (.b false)]⟩])
 (.seq (.seq (.reg [⟨.t 31, none, .mv, [.l 0]⟩, ⟨.t 32, none, .lenSl, [.t 31]⟩, ⟨.t 33, none, (.bin .gtr), [.t 32, .c (.i .i64 30)]⟩, ⟨.t 34, none, .mv, [.t 33]⟩, ⟨.t 35, (some (.t 34, false)), .mv, [.l 1]⟩, ⟨.t 36, (some (.t 34, false)), .lenSl, [.t 35]⟩, ⟨.t 37, (some (.t 34, false)), (.bin .gtr), [.t 36, .c (.i .i64 30)]⟩, ⟨.t 38, none, .pick, [.t 34, .c (.b true), .t 37]⟩])
 (.cond (.t 38) (.seq (.reg [⟨.t 39, none, (.call 10), []⟩, ⟨.l 4, none, .mv, [.t 39]⟩])
 .ret) .skip))
 (.seq (.reg [⟨.t 40, none, (.call 12), []⟩, ⟨.l 5, none, .mv, [.t 40]⟩])
 (.seq (.reg [⟨.t 41, none, .mv, [.l 5]⟩, ⟨.t 42, none, (.call 11), [.t 41]⟩, ⟨.l 6, none, .mv, [.t 42]⟩])
 (.seq (.seq (.reg [⟨.t 43, none, .mv, [.l 5]⟩, ⟨.t 44, none, (.eq false .ptr), [.t 43, .c (.p none)]⟩, ⟨.t 45, none, .mv, [.t 44]⟩, ⟨.t 46, (some (.t 45, false)), .mv, [.l 6]⟩, ⟨.t 47, (some (.t 45, false)), (.eq false .ptr), [.t 46, .c (.p none)]⟩, ⟨.t 48, none, .pick, [.t 45, .c (.b true), .t 47]⟩])
 (.cond (.t 48) (.seq (.reg [⟨.l 4, none, .mv, [.c (.b false)]⟩])
 .ret) .skip))
 (.seq (.reg [⟨.l 7, none, .mv, [.c (.sl none 0 0 0)]⟩])
 (.seq (.seq (.reg [⟨.l 8, none, .mv, [.c (.i .i64 0)]⟩])
 (.block 0 (.loop (.seq (.seq (.reg [⟨.t 49, none, .mv, [.l 8]⟩, ⟨.t 50, none, .mv, [.l 0]⟩, ⟨.t 51, none, .lenSl, [.t 50]⟩, ⟨.t 52, none, (.bin .lss), [.t 49, .t 51]⟩])
 (.cond (.t 52) .skip (.exit 0)))
 (.seq (.block 1 (.seq (.reg [⟨.t 55, none, .mv, [.l 0]⟩, ⟨.t 56, none, .mv, [.l 8]⟩, ⟨.t 57, none, (.iad 1), [.t 55, .t 56]⟩, ⟨.t 58, none, (.ld none), [.t 57]⟩, ⟨.t 59, none, (.call 13), [.t 58, .c (.i .i64 100)]⟩, ⟨.t 60, none, (.bin .add), [.c (.i .i64 1), .t 59]⟩, ⟨.l 9, none, .mv, [.t 60]⟩])
 (.seq (.reg [⟨.t 62, none, .mv, [.l 6]⟩, ⟨.t 63, none, .mv, [.l 9]⟩, ⟨.t 64, none, (.call 21), [.t 62, .c (.i .i64 0), .t 63, .c (.i .i64 0)]⟩, ⟨.t 61, none, .mv, [.t 64]⟩, ⟨.t 65, none, (.ext 0), [.t 61]⟩, ⟨.t 66, none, (.ext 1), [.t 61]⟩, ⟨.t 67, none, (.ext 2), [.t 61]⟩, ⟨.l 10, none, .mv, [.t 65]⟩, ⟨.l 11, none, .mv, [.t 66]⟩, ⟨.l 12, none, .mv, [.t 67]⟩])
 (.seq (.seq (.reg [⟨.t 68, none, .mv, [.l 12]⟩, ⟨.t 69, none, (.bin .neq), [.t 68, .c (.i .i64 0)]⟩, ⟨.t 70, none, .mv, [.t 69]⟩, ⟨.t 71, (some (.t 70, false)), .mv, [.l 10]⟩, ⟨.t 72, (some (.t 70, false)), .mv, [.l 8]⟩, ⟨.t 73, (some (.t 70, false)), (.bin .add), [.t 72, .c (.i .i64 1)]⟩, ⟨.t 74, (some (.t 70, false)), (.bin .neq), [.t 71, .t 73]⟩, ⟨.t 75, none, .pick, [.t 70, .c (.b true), .t 74]⟩, ⟨.t 76, none, .mv, [.t 75]⟩, ⟨.t 77, (some (.t 76, false)), .mv, [.l 11]⟩, ⟨.t 78, (some (.t 76, false)), .lenSl, [.t 77]⟩, ⟨.t 79, (some (.t 76, false)), (.bin .neq), [.t 78, .c (.i .i64 0)]⟩, ⟨.t 80, none, .pick, [.t 76, .c (.b true), .t 79]⟩])
 (.cond (.t 80) (.seq (.reg [⟨.l 4, none, .mv, [.c (.b false)]⟩])
 .ret) .skip))
 (.reg [⟨.t 81, none, .mv, [.l 7]⟩, ⟨.t 82, none, .mv, [.l 9]⟩, ⟨.t 83, none, (.bslice [(.i .i64 0)] 1 1 [0]), [.t 82]⟩, ⟨.t 84, none, (.app 1 8), [.t 81, .t 83]⟩, ⟨.l 7, none, .mv, [.t 84]⟩])))))
 (.reg [⟨.t 53, none, .mv, [.l 8]⟩, ⟨.t 54, none, (.bin .add), [.t 53, .c (.i .i64 1)]⟩, ⟨.l 8, none, .mv, [.t 54]⟩]))))))
 (.seq (.seq (.reg [⟨.l 13, none, .mv, [.c (.i .i64 0)]⟩])
 (.block 2 (.loop (.seq (.seq (.reg [⟨.t 85, none, .mv, [.l 13]⟩, ⟨.t 86, none, .mv, [.l 1]⟩, ⟨.t 87, none, .lenSl, [.t 86]⟩, ⟨.t 88, none, (.bin .lss), [.t 85, .t 87]⟩, ⟨.t 89, none, .mv, [.t 88]⟩, ⟨.t 90, (some (.t 89, true)), .mv, [.l 7]⟩, ⟨.t 91, (some (.t 89, true)), .lenSl, [.t 90]⟩, ⟨.t 92, (some (.t 89, true)), (.bin .gtr), [.t 91, .c (.i .i64 0)]⟩, ⟨.t 93, none, .pick, [.t 89, .t 92, .c (.b false)]⟩])
 (.cond (.t 93) .skip (.exit 2)))
 (.seq (.block 3 (.seq (.reg [⟨.t 96, none, .mv, [.l 1]⟩, ⟨.t 97, none, .mv, [.l 13]⟩, ⟨.t 98, none, (.iad 1), [.t 96, .t 97]⟩, ⟨.t 99, none, (.ld none), [.t 98]⟩, ⟨.t 100, none, .mv, [.l 7]⟩, ⟨.t 101, none, .lenSl, [.t 100]⟩, ⟨.t 102, none, (.call 13), [.t 99, .t 101]⟩, ⟨.l 14, none, .mv, [.t 102]⟩])
 (.seq (.reg [⟨.t 104, none, .mv, [.l 6]⟩, ⟨.t 105, none, .mv, [.l 14]⟩, ⟨.t 106, none, (.bin .add), [.t 105, .c (.i .i64 1)]⟩, ⟨.t 107, none, (.call 16), [.t 104, .t 106, .c (.i .i64 0)]⟩, ⟨.t 103, none, .mv, [.t 107]⟩, ⟨.t 108, none, (.ext 0), [.t 103]⟩, ⟨.t 109, none, (.ext 1), [.t 103]⟩, ⟨.t 110, none, (.ext 2), [.t 103]⟩, ⟨.l 15, none, .mv, [.t 108]⟩, ⟨.t 16, none, .mv, [.t 109]⟩, ⟨.l 17, none, .mv, [.t 110]⟩])
 (.seq (.seq (.reg [⟨.t 111, none, .mv, [.l 17]⟩, ⟨.t 112, none, (.bin .neq), [.t 111, .c (.i .i64 0)]⟩, ⟨.t 113, none, .mv, [.t 112]⟩, ⟨.t 114, (some (.t 113, false)), .mv, [.l 15]⟩, ⟨.t 115, (some (.t 113, false)), .lenSl, [.t 114]⟩, ⟨.t 116, (some (.t 113, false)), (.bin .eql), [.t 115, .c (.i .i64 1)]⟩, ⟨.t 117, (some (.t 113, false)), .mv, [.l 7]⟩, ⟨.t 118, (some (.t 113, false)), .mv, [.l 14]⟩, ⟨.t 119, (some (.t 113, false)), (.iad 1), [.t 117, .t 118]⟩, ⟨.t 120, (some (.t 113, false)), (.ld none), [.t 119]⟩, ⟨.t 121, (some (.t 113, false)), (.bin .gtr), [.t 120, .c (.i .i64 0)]⟩, ⟨.t 122, (some (.t 113, false)), (.eq true .bool), [.t 116, .t 121]⟩, ⟨.t 123, none, .pick, [.t 113, .c (.b true), .t 122]⟩])
 (.cond (.t 123) (.seq (.reg [⟨.l 4, none, .mv, [.c (.b false)]⟩])
 .ret) .skip))
 (.reg [⟨.t 124, none, .mv, [.l 7]⟩, ⟨.t 125, none, .mv, [.l 14]⟩, ⟨.t 126, none, (.iad 1), [.t 124, .t 125]⟩, ⟨.no, none, (.st 1), [.t 126, .c (.i .i64 0)]⟩])))))
 (.reg [⟨.t 94, none, .mv, [.l 13]⟩, ⟨.t 95, none, (.bin .add), [.t 94, .c (.i .i64 1)]⟩, ⟨.l 13, none, .mv, [.t 95]⟩]))))))
 (.seq (.reg [⟨.l 18, none, .mv, [.c (.i .i64 0)]⟩, ⟨.l 19, none, .mv, [.c (.i .i64 0)]⟩])
 (.seq (.seq (.reg [⟨.l 20, none, .mv, [.c (.i .i64 0)]⟩])
 (.block 4 (.loop (.seq (.seq (.reg [⟨.t 127, none, .mv, [.l 20]⟩, ⟨.t 128, none, .mv, [.l 7]⟩, ⟨.t 129, none, .lenSl, [.t 128]⟩, ⟨.t 130, none, (.bin .lss), [.t 127, .t 129]⟩])
 (.cond (.t 130) .skip (.exit 4)))
 (.seq (.block 5 (.seq (.reg [⟨.t 133, none, .mv, [.l 7]⟩, ⟨.t 134, none, .mv, [.l 20]⟩, ⟨.t 135, none, (.iad 1), [.t 133, .t 134]⟩, ⟨.t 136, none, (.ld none), [.t 135]⟩, ⟨.t 137, none, (.bin .gtr), [.t 136, .c (.i .i64 0)]⟩])
 (.cond (.t 137) (.seq (.reg [⟨.t 138, none, .mv, [.l 19]⟩, ⟨.t 139, none, (.bin .add), [.t 138, .c (.i .i64 1)]⟩, ⟨.l 19, none, .mv, [.t 139]⟩])
 (.seq (.reg [⟨.t 140, none, .mv, [.l 18]⟩, ⟨.t 141, none, (.bin .eql), [.t 140, .c (.i .i64 0)]⟩, ⟨.t 142, none, .mv, [.t 141]⟩, ⟨.t 143, (some (.t 142, false)), .mv, [.l 7]⟩, ⟨.t 144, (some (.t 142, false)), .mv, [.l 20]⟩, ⟨.t 145, (some (.t 142, false)), (.iad 1), [.t 143, .t 144]⟩, ⟨.t 146, (some (.t 142, false)), (.ld none), [.t 145]⟩, ⟨.t 147, (some (.t 142, false)), .mv, [.l 18]⟩, ⟨.t 148, (some (.t 142, false)), (.bin .lss), [.t 146, .t 147]⟩, ⟨.t 149, none, .pick, [.t 142, .c (.b true), .t 148]⟩])
 (.cond (.t 149) (.reg [⟨.t 150, none, .mv, [.l 7]⟩, ⟨.t 151, none, .mv, [.l 20]⟩, ⟨.t 152, none, (.iad 1), [.t 150, .t 151]⟩, ⟨.t 153, none, (.ld none), [.t 152]⟩, ⟨.l 18, none, .mv, [.t 153]⟩]) .skip))) .skip)))
 (.reg [⟨.t 131, none, .mv, [.l 20]⟩, ⟨.t 132, none, (.bin .add), [.t 131, .c (.i .i64 1)]⟩, ⟨.l 20, none, .mv, [.t 132]⟩]))))))
 (.seq (.reg [⟨.t 155, none, .mv, [.l 5]⟩, ⟨.t 156, none, (.call 30), [.t 155]⟩, ⟨.t 154, none, .mv, [.t 156]⟩, ⟨.t 157, none, (.ext 0), [.t 154]⟩, ⟨.t 158, none, (.ext 1), [.t 154]⟩, ⟨.l 21, none, .mv, [.t 157]⟩, ⟨.l 22, none, .mv, [.t 158]⟩])
 (.seq (.seq (.reg [⟨.t 159, none, .mv, [.l 22]⟩, ⟨.t 160, none, .mv, [.l 19]⟩, ⟨.t 161, none, (.bin .gtr), [.t 160, .c (.i .i64 0)]⟩, ⟨.t 162, none, (.eq true .bool), [.t 159, .t 161]⟩, ⟨.t 163, none, .mv, [.t 162]⟩, ⟨.t 164, (some (.t 163, false)), .mv, [.l 22]⟩, ⟨.t 165, (some (.t 163, false)), .mv, [.t 164]⟩, ⟨.t 166, (some (.t 165, true)), .mv, [.l 21]⟩, ⟨.t 167, (some (.t 165, true)), .mv, [.l 18]⟩, ⟨.t 168, (some (.t 165, true)), (.bin .neq), [.t 166, .t 167]⟩, ⟨.t 169, (some (.t 163, false)), .pick, [.t 165, .t 168, .c (.b false)]⟩, ⟨.t 170, none, .pick, [.t 163, .c (.b true), .t 169]⟩])
 (.cond (.t 170) (.seq (.reg [⟨.l 4, none, .mv, [.c (.b false)]⟩])
 .ret) .skip))
 (.seq (.seq (.reg [⟨.l 23, none, .mv, [.c (.i .i64 0)]⟩])
 (.block 6 (.loop (.seq (.seq (.reg [⟨.t 171, none, .mv, [.l 23]⟩, ⟨.t 172, none, .mv, [.l 19]⟩, ⟨.t 173, none, (.bin .lss), [.t 171, .t 172]⟩])
 (.cond (.t 173) .skip (.exit 6)))
 (.seq (.block 7 (.seq (.reg [⟨.t 177, none, .mv, [.l 5]⟩, ⟨.t 178, none, (.call 28), [.t 177, .c (.i .i64 200)]⟩, ⟨.t 176, none, .mv, [.t 178]⟩, ⟨.t 179, none, (.ext 0), [.t 176]⟩, ⟨.t 180, none, (.ext 1), [.t 176]⟩, ⟨.l 24, none, (.alloc [(.i .i64 0), (.i .i64 0), (.i .i64 0), (.i .i64 0), (.i .i64 0), (.sl none 0 0 0), (.b false)]), []⟩, ⟨.no, none, (.st 7), [.l 24, .t 179]⟩, ⟨.l 25, none, .mv, [.t 180]⟩])
 (.seq (.seq (.reg [⟨.t 181, none, .mv, [.l 25]⟩, ⟨.t 182, none, (.un .not), [.t 181]⟩, ⟨.t 183, none, .mv, [.t 182]⟩, ⟨.t 184, (some (.t 183, false)), (.fad 4), [.l 24]⟩, ⟨.t 185, (some (.t 183, false)), (.ld none), [.t 184]⟩, ⟨.t 186, (some (.t 183, false)), (.bin .lss), [.t 185, .c (.i .i64 1)]⟩, ⟨.t 187, none, .pick, [.t 183, .c (.b true), .t 186]⟩, ⟨.t 188, none, .mv, [.t 187]⟩, ⟨.t 189, (some (.t 188, false)), (.fad 4), [.l 24]⟩, ⟨.t 190, (some (.t 188, false)), (.ld none), [.t 189]⟩, ⟨.t 191, (some (.t 188, false)), .mv, [.l 7]⟩, ⟨.t 192, (some (.t 188, false)), .lenSl, [.t 191]⟩, ⟨.t 193, (some (.t 188, false)), (.bin .gtr), [.t 190, .t 192]⟩, ⟨.t 194, none, .pick, [.t 188, .c (.b true), .t 193]⟩, ⟨.t 195, none, .mv, [.t 194]⟩, ⟨.t 196, (some (.t 195, false)), .mv, [.l 7]⟩, ⟨.t 197, (some (.t 195, false)), (.fad 4), [.l 24]⟩, ⟨.t 198, (some (.t 195, false)), (.ld none), [.t 197]⟩, ⟨.t 199, (some (.t 195, false)), (.bin .sub), [.t 198, .c (.i .i64 1)]⟩, ⟨.t 200, (some (.t 195, false)), (.iad 1), [.t 196, .t 199]⟩, ⟨.t 201, (some (.t 195, false)), (.ld none), [.t 200]⟩, ⟨.t 202, (some (.t 195, false)), (.fad 2), [.l 24]⟩, ⟨.t 203, (some (.t 195, false)), (.ld none), [.t 202]⟩, ⟨.t 204, (some (.t 195, false)), (.bin .neq), [.t 201, .t 203]⟩, ⟨.t 205, none, .pick, [.t 195, .c (.b true), .t 204]⟩])
 (.cond (.t 205) (.seq (.reg [⟨.l 4, none, .mv, [.c (.b false)]⟩])
 .ret) .skip))
 (.seq (.reg [⟨.t 207, none, .mv, [.l 6]⟩, ⟨.t 208, none, (.fad 4), [.l 24]⟩, ⟨.t 209, none, (.ld none), [.t 208]⟩, ⟨.t 210, none, (.call 29), [.t 207, .t 209]⟩, ⟨.t 206, none, .mv, [.t 210]⟩, ⟨.t 211, none, (.ext 0), [.t 206]⟩, ⟨.t 212, none, (.ext 1), [.t 206]⟩, ⟨.t 213, none, (.ext 2), [.t 206]⟩, ⟨.l 26, none, .mv, [.t 211]⟩, ⟨.t 27, none, .mv, [.t 212]⟩, ⟨.l 28, none, .mv, [.t 213]⟩])
 (.seq (.seq (.reg [⟨.t 214, none, .mv, [.l 28]⟩, ⟨.t 215, none, (.bin .neq), [.t 214, .c (.i .i64 0)]⟩, ⟨.t 216, none, .mv, [.t 215]⟩, ⟨.t 217, (some (.t 216, false)), .mv, [.l 26]⟩, ⟨.t 218, (some (.t 216, false)), .lenSl, [.t 217]⟩, ⟨.t 219, (some (.t 216, false)), (.bin .neq), [.t 218, .c (.i .i64 1)]⟩, ⟨.t 220, none, .pick, [.t 216, .c (.b true), .t 219]⟩, ⟨.t 221, none, .mv, [.t 220]⟩, ⟨.t 222, (some (.t 221, false)), .mv, [.l 26]⟩, ⟨.t 223, (some (.t 221, false)), (.iad 4), [.t 222, .c (.i .i64 0)]⟩, ⟨.t 224, (some (.t 221, false)), (.fad 1), [.t 223]⟩, ⟨.t 225, (some (.t 221, false)), (.ld none), [.t 224]⟩, ⟨.t 226, (some (.t 221, false)), (.bin .neq), [.t 225, .c (.i .i64 2)]⟩, ⟨.t 227, none, .pick, [.t 221, .c (.b true), .t 226]⟩])
 (.cond (.t 227) (.seq (.reg [⟨.l 4, none, .mv, [.c (.b false)]⟩])
 .ret) .skip))
 (.reg [⟨.t 228, none, .mv, [.l 7]⟩, ⟨.t 229, none, (.fad 4), [.l 24]⟩, ⟨.t 230, none, (.ld none), [.t 229]⟩, ⟨.t 231, none, (.bin .sub), [.t 230, .c (.i .i64 1)]⟩, ⟨.t 232, none, (.iad 1), [.t 228, .t 231]⟩, ⟨.no, none, (.st 1), [.t 232, .c (.i .i64 (-1))]⟩]))))))
 (.reg [⟨.t 174, none, .mv, [.l 23]⟩, ⟨.t 175, none, (.bin .add), [.t 174, .c (.i .i64 1)]⟩, ⟨.l 23, none, .mv, [.t 175]⟩]))))))
 (.seq (.reg [⟨.t 234, none, .mv, [.l 5]⟩, ⟨.t 235, none, (.call 28), [.t 234, .c (.i .i64 200)]⟩, ⟨.t 233, none, .mv, [.t 235]⟩, ⟨.t 236, none, (.ext 0), [.t 233]⟩, ⟨.t 237, none, (.ext 1), [.t 233]⟩, ⟨.t 29, none, (.alloc [(.i .i64 0), (.i .i64 0), (.i .i64 0), (.i .i64 0), (.i .i64 0), (.sl none 0 0 0), (.b false)]), []⟩, ⟨.no, none, (.st 7), [.t 29, .t 236]⟩, ⟨.l 30, none, .mv, [.t 237]⟩])
 (.seq (.reg [⟨.t 238, none, .mv, [.l 30]⟩, ⟨.t 239, none, (.un .not), [.t 238]⟩, ⟨.t 240, none, .mv, [.t 239]⟩, ⟨.t 241, (some (.t 240, true)), (.call 10), []⟩, ⟨.t 242, none, .pick, [.t 240, .t 241, .c (.b false)]⟩, ⟨.l 4, none, .mv, [.t 242]⟩])
 .ret))))))))))))))), [.tmp (.l 4)]⟩
/-- tarpaulin/tarpaulinlaw15.awake -/
def b10 : Nat := 41724327718767
def a10 : AFn := ⟨(.seq (.reg [⟨.l 0, none, .mv, [.c (.b false)]⟩])
 (.seq (.reg [⟨.t 47, none, (.call 31), []⟩, ⟨.t 46, none, .mv, [.t 47]⟩, ⟨.t 48, none, (.ext 0), [.t 46]⟩, ⟨.t 49, none, (.ext 1), [.t 46]⟩, ⟨.l 1, none, .mv, [.t 48]⟩, ⟨.l 2, none, .mv, [.t 49]⟩])
 (.seq (.seq (.reg [⟨.t 50, none, .mv, [.l 2]⟩, ⟨.t 51, none, (.un .not), [.t 50]⟩])
 (.cond (.t 51) (.seq (.reg [⟨.l 0, none, .mv, [.c (.b false)]⟩])
 .ret) .skip))
 (.seq (.reg [⟨.t 53, none, .mv, [.l 1]⟩, ⟨.t 54, none, .nilchk, [.t 53]⟩, ⟨.t 55, none, (.fad 1), [.t 54]⟩, ⟨.t 56, none, (.ld none), [.t 55]⟩, ⟨.t 57, none, (.call 15), [.t 56, .c (.i .i64 0)]⟩, ⟨.t 52, none, .mv, [.t 57]⟩, ⟨.t 58, none, (.ext 0), [.t 52]⟩, ⟨.t 59, none, (.ext 1), [.t 52]⟩, ⟨.t 60, none, (.ext 2), [.t 52]⟩, ⟨.l 3, none, .mv, [.t 58]⟩, ⟨.t 4, none, .mv, [.t 59]⟩, ⟨.l 5, none, .mv, [.t 60]⟩])
 (.seq (.reg [⟨.t 62, none, .mv, [.l 1]⟩, ⟨.t 63, none, .nilchk, [.t 62]⟩, ⟨.t 64, none, (.fad 1), [.t 63]⟩, ⟨.t 65, none, (.ld none), [.t 64]⟩, ⟨.t 66, none, .mv, [.l 3]⟩, ⟨.t 67, none, (.call 21), [.t 65, .t 66, .c (.i .i64 20), .c (.i .i64 5)]⟩, ⟨.t 61, none, .mv, [.t 67]⟩, ⟨.t 68, none, (.ext 0), [.t 61]⟩, ⟨.t 69, none, (.ext 1), [.t 61]⟩, ⟨.t 70, none, (.ext 2), [.t 61]⟩, ⟨.l 6, none, .mv, [.t 68]⟩, ⟨.t 7, none, .mv, [.t 69]⟩, ⟨.l 8, none, .mv, [.t 70]⟩])
 (.seq (.reg [⟨.t 72, none, .mv, [.l 1]⟩, ⟨.t 73, none, .nilchk, [.t 72]⟩, ⟨.t 74, none, (.fad 1), [.t 73]⟩, ⟨.t 75, none, (.ld none), [.t 74]⟩, ⟨.t 76, none, .mv, [.l 6]⟩, ⟨.t 77, none, (.call 14), [.t 75, .t 76]⟩, ⟨.t 71, none, .mv, [.t 77]⟩, ⟨.t 78, none, (.ext 0), [.t 71]⟩, ⟨.t 79, none, (.ext 1), [.t 71]⟩, ⟨.l 9, none, .mv, [.t 78]⟩, ⟨.l 10, none, .mv, [.t 79]⟩])
 (.seq (.reg [⟨.t 81, none, .mv, [.l 1]⟩, ⟨.t 82, none, .nilchk, [.t 81]⟩, ⟨.t 83, none, (.fad 1), [.t 82]⟩, ⟨.t 84, none, (.ld none), [.t 83]⟩, ⟨.t 85, none, .mv, [.l 9]⟩, ⟨.t 86, none, (.call 15), [.t 84, .t 85]⟩, ⟨.t 80, none, .mv, [.t 86]⟩, ⟨.t 87, none, (.ext 0), [.t 80]⟩, ⟨.t 88, none, (.ext 1), [.t 80]⟩, ⟨.t 89, none, (.ext 2), [.t 80]⟩, ⟨.l 11, none, .mv, [.t 87]⟩, ⟨.t 12, none, .mv, [.t 88]⟩, ⟨.l 13, none, .mv, [.t 89]⟩])
 (.seq (.reg [⟨.t 91, none, .mv, [.l 1]⟩, ⟨.t 92, none, .nilchk, [.t 91]⟩, ⟨.t 93, none, (.fad 1), [.t 92]⟩, ⟨.t 94, none, (.ld none), [.t 93]⟩, ⟨.t 95, none, .mv, [.l 6]⟩, ⟨.t 96, none, (.call 19), [.t 94, .t 95, .c (.i .i64 3)]⟩, ⟨.t 90, none, .mv, [.t 96]⟩, ⟨.t 97, none, (.ext 0), [.t 90]⟩, ⟨.t 98, none, (.ext 1), [.t 90]⟩, ⟨.t 99, none, (.ext 2), [.t 90]⟩, ⟨.l 14, none, .mv, [.t 97]⟩, ⟨.t 15, none, .mv, [.t 98]⟩, ⟨.l 16, none, .mv, [.t 99]⟩])
 (.seq (.reg [⟨.t 101, none, .mv, [.l 1]⟩, ⟨.t 102, none, .nilchk, [.t 101]⟩, ⟨.t 103, none, (.fad 1), [.t 102]⟩, ⟨.t 104, none, (.ld none), [.t 103]⟩, ⟨.t 105, none, .mv, [.l 6]⟩, ⟨.t 106, none, (.call 21), [.t 104, .t 105, .c (.i .i64 50), .c (.i .i64 5)]⟩, ⟨.t 100, none, .mv, [.t 106]⟩, ⟨.t 107, none, (.ext 0), [.t 100]⟩, ⟨.t 108, none, (.ext 1), [.t 100]⟩, ⟨.t 109, none, (.ext 2), [.t 100]⟩, ⟨.l 17, none, .mv, [.t 107]⟩, ⟨.t 18, none, .mv, [.t 108]⟩, ⟨.l 19, none, .mv, [.t 109]⟩])
 (.seq (.reg [⟨.t 111, none, .mv, [.l 1]⟩, ⟨.t 112, none, .nilchk, [.t 111]⟩, ⟨.t 113, none, (.fad 1), [.t 112]⟩, ⟨.t 114, none, (.ld none), [.t 113]⟩, ⟨.t 115, none, .mv, [.l 17]⟩, ⟨.t 116, none, (.call 25), [.t 114, .t 115]⟩, ⟨.t 110, none, .mv, [.t 116]⟩, ⟨.t 117, none, (.ext 0), [.t 110]⟩, ⟨.t 118, none, (.ext 1), [.t 110]⟩, ⟨.t 119, none, (.ext 2), [.t 110]⟩, ⟨.l 20, none, .mv, [.t 117]⟩, ⟨.l 21, none, .mv, [.t 118]⟩, ⟨.t 22, none, .mv, [.t 119]⟩])
 (.seq (.reg [⟨.t 121, none, .mv, [.l 1]⟩, ⟨.t 122, none, .nilchk, [.t 121]⟩, ⟨.t 123, none, (.fad 1), [.t 122]⟩, ⟨.t 124, none, (.ld none), [.t 123]⟩, ⟨.t 125, none, .mv, [.l 3]⟩, ⟨.t 126, none, (.call 16), [.t 124, .t 125, .c (.i .i64 9)]⟩, ⟨.t 120, none, .mv, [.t 126]⟩, ⟨.t 127, none, (.ext 0), [.t 120]⟩, ⟨.t 128, none, (.ext 1), [.t 120]⟩, ⟨.t 129, none, (.ext 2), [.t 120]⟩, ⟨.l 23, none, .mv, [.t 127]⟩, ⟨.l 24, none, .mv, [.t 128]⟩, ⟨.l 25, none, .mv, [.t 129]⟩])
 (.seq (.reg [⟨.t 131, none, .mv, [.l 1]⟩, ⟨.t 132, none, .nilchk, [.t 131]⟩, ⟨.t 133, none, (.fad 1), [.t 132]⟩, ⟨.t 134, none, (.ld none), [.t 133]⟩, ⟨.t 135, none, (.call 16), [.t 134, .c (.i .i64 0), .c (.i .i64 1)]⟩, ⟨.t 130, none, .mv, [.t 135]⟩, ⟨.t 136, none, (.ext 0), [.t 130]⟩, ⟨.t 137, none, (.ext 1), [.t 130]⟩, ⟨.t 138, none, (.ext 2), [.t 130]⟩, ⟨.t 26, none, .mv, [.t 136]⟩, ⟨.t 27, none, .mv, [.t 137]⟩, ⟨.l 28, none, .mv, [.t 138]⟩])
 (.seq (.reg [⟨.t 140, none, .mv, [.l 1]⟩, ⟨.t 141, none, .nilchk, [.t 140]⟩, ⟨.t 142, none, (.fad 1), [.t 141]⟩, ⟨.t 143, none, (.ld none), [.t 142]⟩, ⟨.t 144, none, .mv, [.l 11]⟩, ⟨.t 145, none, (.call 17), [.t 143, .t 144]⟩, ⟨.t 139, none, .mv, [.t 145]⟩, ⟨.t 146, none, (.ext 0), [.t 139]⟩, ⟨.t 147, none, (.ext 1), [.t 139]⟩, ⟨.l 29, none, .mv, [.t 146]⟩, ⟨.t 30, none, .mv, [.t 147]⟩])
 (.seq (.reg [⟨.t 149, none, .mv, [.l 1]⟩, ⟨.t 150, none, .nilchk, [.t 149]⟩, ⟨.t 151, none, (.fad 1), [.t 150]⟩, ⟨.t 152, none, (.ld none), [.t 151]⟩, ⟨.t 153, none, .mv, [.l 6]⟩, ⟨.t 154, none, (.call 18), [.t 152, .t 153]⟩, ⟨.t 148, none, .mv, [.t 154]⟩, ⟨.t 155, none, (.ext 0), [.t 148]⟩, ⟨.t 156, none, (.ext 1), [.t 148]⟩, ⟨.l 31, none, .mv, [.t 155]⟩, ⟨.t 32, none, .mv, [.t 156]⟩])
 (.seq (.reg [⟨.t 158, none, .mv, [.l 1]⟩, ⟨.t 159, none, .nilchk, [.t 158]⟩, ⟨.t 160, none, (.fad 1), [.t 159]⟩, ⟨.t 161, none, (.ld none), [.t 160]⟩, ⟨.t 162, none, .mv, [.l 14]⟩, ⟨.t 163, none, (.call 20), [.t 161, .t 162]⟩, ⟨.t 157, none, .mv, [.t 163]⟩, ⟨.t 164, none, (.ext 0), [.t 157]⟩, ⟨.t 165, none, (.ext 1), [.t 157]⟩, ⟨.l 33, none, .mv, [.t 164]⟩, ⟨.t 34, none, .mv, [.t 165]⟩])
 (.seq (.reg [⟨.t 167, none, .mv, [.l 1]⟩, ⟨.t 168, none, .nilchk, [.t 167]⟩, ⟨.t 169, none, (.fad 0), [.t 168]⟩, ⟨.t 170, none, (.ld none), [.t 169]⟩, ⟨.t 171, none, (.call 30), [.t 170]⟩, ⟨.t 166, none, .mv, [.t 171]⟩, ⟨.t 172, none, (.ext 0), [.t 166]⟩, ⟨.t 173, none, (.ext 1), [.t 166]⟩, ⟨.t 35, none, .mv, [.t 172]⟩, ⟨.l 36, none, .mv, [.t 173]⟩])
 (.seq (.reg [⟨.t 175, none, .mv, [.l 1]⟩, ⟨.t 176, none, .nilchk, [.t 175]⟩, ⟨.t 177, none, (.fad 1), [.t 176]⟩, ⟨.t 178, none, (.ld none), [.t 177]⟩, ⟨.t 179, none, (.call 21), [.t 178, .c (.i .i64 0), .c (.i .i64 3), .c (.i .i64 5)]⟩, ⟨.t 174, none, .mv, [.t 179]⟩, ⟨.t 180, none, (.ext 0), [.t 174]⟩, ⟨.t 181, none, (.ext 1), [.t 174]⟩, ⟨.t 182, none, (.ext 2), [.t 174]⟩, ⟨.l 37, none, .mv, [.t 180]⟩, ⟨.l 38, none, .mv, [.t 181]⟩, ⟨.l 39, none, .mv, [.t 182]⟩])
 (.seq (.reg [⟨.t 184, none, .mv, [.l 1]⟩, ⟨.t 185, none, .nilchk, [.t 184]⟩, ⟨.t 186, none, (.fad 1), [.t 185]⟩, ⟨.t 187, none, (.ld none), [.t 186]⟩, ⟨.t 188, none, .mv, [.l 37]⟩, ⟨.t 189, none, (.call 17), [.t 187, .t 188]⟩, ⟨.t 183, none, .mv, [.t 189]⟩, ⟨.t 190, none, (.ext 0), [.t 183]⟩, ⟨.t 191, none, (.ext 1), [.t 183]⟩, ⟨.l 40, none, .mv, [.t 190]⟩, ⟨.t 41, none, .mv, [.t 191]⟩])
 (.seq (.reg [⟨.l 42, none, .mv, [.c (.p none)]⟩])
 (.seq (.reg [⟨.t 193, none, .mv, [.l 42]⟩, ⟨.t 194, none, (.call 15), [.t 193, .c (.i .i64 0)]⟩, ⟨.t 192, none, .mv, [.t 194]⟩, ⟨.t 195, none, (.ext 0), [.t 192]⟩, ⟨.t 196, none, (.ext 1), [.t 192]⟩, ⟨.t 197, none, (.ext 2), [.t 192]⟩, ⟨.t 43, none, .mv, [.t 195]⟩, ⟨.t 44, none, .mv, [.t 196]⟩, ⟨.l 45, none, .mv, [.t 197]⟩])
 (.seq (.reg [⟨.t 198, none, .mv, [.l 5]⟩, ⟨.t 199, none, (.bin .eql), [.t 198, .c (.i .i64 0)]⟩, ⟨.t 200, none, .mv, [.t 199]⟩, ⟨.t 201, (some (.t 200, true)), .mv, [.l 3]⟩, ⟨.t 202, (some (.t 200, true)), (.bin .eql), [.t 201, .c (.i .i64 1)]⟩, ⟨.t 203, none, .pick, [.t 200, .t 202, .c (.b false)]⟩, ⟨.t 204, none, .mv, [.t 203]⟩, ⟨.t 205, (some (.t 204, true)), .mv, [.l 8]⟩, ⟨.t 206, (some (.t 204, true)), (.bin .eql), [.t 205, .c (.i .i64 0)]⟩, ⟨.t 207, none, .pick, [.t 204, .t 206, .c (.b false)]⟩, ⟨.t 208, none, .mv, [.t 207]⟩, ⟨.t 209, (some (.t 208, true)), .mv, [.l 6]⟩, ⟨.t 210, (some (.t 208, true)), (.bin .eql), [.t 209, .c (.i .i64 2)]⟩, ⟨.t 211, none, .pick, [.t 208, .t 210, .c (.b false)]⟩, ⟨.t 212, none, .mv, [.t 211]⟩, ⟨.t 213, (some (.t 212, true)), .mv, [.l 10]⟩, ⟨.t 214, (some (.t 212, true)), (.bin .eql), [.t 213, .c (.i .i64 0)]⟩, ⟨.t 215, none, .pick, [.t 212, .t 214, .c (.b false)]⟩, ⟨.t 216, none, .mv, [.t 215]⟩, ⟨.t 217, (some (.t 216, true)), .mv, [.l 13]⟩, ⟨.t 218, (some (.t 216, true)), (.bin .eql), [.t 217, .c (.i .i64 0)]⟩, ⟨.t 219, none, .pick, [.t 216, .t 218, .c (.b false)]⟩, ⟨.t 220, none, .mv, [.t 219]⟩, ⟨.t 221, (some (.t 220, true)), .mv, [.l 16]⟩, ⟨.t 222, (some (.t 220, true)), (.bin .eql), [.t 221, .c (.i .i64 0)]⟩, ⟨.t 223, none, .pick, [.t 220, .t 222, .c (.b false)]⟩, ⟨.t 224, none, .mv, [.t 223]⟩, ⟨.t 225, (some (.t 224, true)), .mv, [.l 19]⟩, ⟨.t 226, (some (.t 224, true)), (.bin .eql), [.t 225, .c (.i .i64 0)]⟩, ⟨.t 227, none, .pick, [.t 224, .t 226, .c (.b false)]⟩, ⟨.t 228, none, .mv, [.t 227]⟩, ⟨.t 229, (some (.t 228, true)), .mv, [.l 20]⟩, ⟨.t 230, (some (.t 228, true)), (.bin .eql), [.t 229, .c (.i .i64 20)]⟩, ⟨.t 231, none, .pick, [.t 228, .t 230, .c (.b false)]⟩, ⟨.t 232, none, .mv, [.t 231]⟩, ⟨.t 233, (some (.t 232, true)), .mv, [.l 21]⟩, ⟨.t 234, none, .pick, [.t 232, .t 233, .c (.b false)]⟩, ⟨.t 235, none, .mv, [.t 234]⟩, ⟨.t 236, (some (.t 235, true)), .mv, [.l 25]⟩, ⟨.t 237, (some (.t 235, true)), (.bin .eql), [.t 236, .c (.i .i64 0)]⟩, ⟨.t 238, none, .pick, [.t 235, .t 237, .c (.b false)]⟩, ⟨.t 239, none, .mv, [.t 238]⟩, ⟨.t 240, (some (.t 239, true)), .mv, [.l 23]⟩, ⟨.t 241, (some (.t 239, true)), .lenSl, [.t 240]⟩, ⟨.t 242, (some (.t 239, true)), (.bin .eql), [.t 241, .c (.i .i64 3)]⟩, ⟨.t 243, none, .pick, [.t 239, .t 242, .c (.b false)]⟩, ⟨.t 244, none, .mv, [.t 243]⟩, ⟨.t 245, (some (.t 244, true)), .mv, [.l 23]⟩, ⟨.t 246, (some (.t 244, true)), (.iad 4), [.t 245, .c (.i .i64 0)]⟩, ⟨.t 247, (some (.t 244, true)), (.fad 0), [.t 246]⟩, ⟨.t 248, (some (.t 244, true)), (.ld none), [.t 247]⟩, ⟨.t 249, (some (.t 244, true)), .mv, [.l 3]⟩, ⟨.t 250, (some (.t 244, true)), (.bin .eql), [.t 248, .t 249]⟩, ⟨.t 251, none, .pick, [.t 244, .t 250, .c (.b false)]⟩, ⟨.t 252, none, .mv, [.t 251]⟩, ⟨.t 253, (some (.t 252, true)), .mv, [.l 23]⟩, ⟨.t 254, (some (.t 252, true)), (.iad 4), [.t 253, .c (.i .i64 1)]⟩, ⟨.t 255, (some (.t 252, true)), (.fad 0), [.t 254]⟩, ⟨.t 256, (some (.t 252, true)), (.ld none), [.t 255]⟩, ⟨.t 257, (some (.t 252, true)), .mv, [.l 6]⟩, ⟨.t 258, (some (.t 252, true)), (.bin .eql), [.t 256, .t 257]⟩, ⟨.t 259, none, .pick, [.t 252, .t 258, .c (.b false)]⟩, ⟨.t 260, none, .mv, [.t 259]⟩, ⟨.t 261, (some (.t 260, true)), .mv, [.l 23]⟩, ⟨.t 262, (some (.t 260, true)), (.iad 4), [.t 261, .c (.i .i64 2)]⟩, ⟨.t 263, (some (.t 260, true)), (.fad 0), [.t 262]⟩, ⟨.t 264, (some (.t 260, true)), (.ld none), [.t 263]⟩, ⟨.t 265, (some (.t 260, true)), .mv, [.l 17]⟩, ⟨.t 266, (some (.t 260, true)), (.bin .eql), [.t 264, .t 265]⟩, ⟨.t 267, none, .pick, [.t 260, .t 266, .c (.b false)]⟩, ⟨.t 268, none, .mv, [.t 267]⟩, ⟨.t 269, (some (.t 268, true)), .mv, [.l 23]⟩, ⟨.t 270, (some (.t 268, true)), (.iad 4), [.t 269, .c (.i .i64 2)]⟩, ⟨.t 271, (some (.t 268, true)), (.fad 2), [.t 270]⟩, ⟨.t 272, (some (.t 268, true)), (.ld none), [.t 271]⟩, ⟨.t 273, (some (.t 268, true)), (.bin .eql), [.t 272, .c (.i .i64 9)]⟩, ⟨.t 274, none, .pick, [.t 268, .t 273, .c (.b false)]⟩, ⟨.t 275, none, .mv, [.t 274]⟩, ⟨.t 276, (some (.t 275, true)), .mv, [.l 24]⟩, ⟨.t 277, (some (.t 275, true)), .lenSl, [.t 276]⟩, ⟨.t 278, (some (.t 275, true)), (.bin .eql), [.t 277, .c (.i .i64 1)]⟩, ⟨.t 279, none, .pick, [.t 275, .t 278, .c (.b false)]⟩, ⟨.t 280, none, .mv, [.t 279]⟩, ⟨.t 281, (some (.t 280, true)), .mv, [.l 24]⟩, ⟨.t 282, (some (.t 280, true)), (.iad 2), [.t 281, .c (.i .i64 0)]⟩, ⟨.t 283, (some (.t 280, true)), (.ld (some 2)), [.t 282]⟩, ⟨.t 284, (some (.t 280, true)), .mv, [.l 14]⟩, ⟨.t 285, (some (.t 280, true)), (.build [(.i .i64 0), (.i .i64 0)] [(0, 1), (1, 1)]), [.t 284, .c (.i .i64 3)]⟩, ⟨.t 286, (some (.t 280, true)), (.eq false (.agg [(0, 1), (1, 1)])), [.t 283, .t 285]⟩, ⟨.t 287, none, .pick, [.t 280, .t 286, .c (.b false)]⟩, ⟨.t 288, none, .mv, [.t 287]⟩, ⟨.t 289, (some (.t 288, true)), .mv, [.l 28]⟩, ⟨.t 290, (some (.t 288, true)), (.bin .eql), [.t 289, .c (.i .i64 1)]⟩, ⟨.t 291, none, .pick, [.t 288, .t 290, .c (.b false)]⟩, ⟨.t 292, none, .mv, [.t 291]⟩, ⟨.t 293, (some (.t 292, true)), .mv, [.l 29]⟩, ⟨.t 294, (some (.t 292, true)), (.bin .eql), [.t 293, .c (.i .i64 0)]⟩, ⟨.t 295, none, .pick, [.t 292, .t 294, .c (.b false)]⟩, ⟨.t 296, none, .mv, [.t 295]⟩, ⟨.t 297, (some (.t 296, true)), .mv, [.l 31]⟩, ⟨.t 298, (some (.t 296, true)), (.bin .eql), [.t 297, .c (.i .i64 9)]⟩, ⟨.t 299, none, .pick, [.t 296, .t 298, .c (.b false)]⟩, ⟨.t 300, none, .mv, [.t 299]⟩, ⟨.t 301, (some (.t 300, true)), .mv, [.l 33]⟩, ⟨.t 302, (some (.t 300, true)), (.un .not), [.t 301]⟩, ⟨.t 303, none, .pick, [.t 300, .t 302, .c (.b false)]⟩, ⟨.t 304, none, .mv, [.t 303]⟩, ⟨.t 305, (some (.t 304, true)), .mv, [.l 36]⟩, ⟨.t 306, (some (.t 304, true)), (.un .not), [.t 305]⟩, ⟨.t 307, none, .pick, [.t 304, .t 306, .c (.b false)]⟩, ⟨.t 308, none, .mv, [.t 307]⟩, ⟨.t 309, (some (.t 308, true)), .mv, [.l 39]⟩, ⟨.t 310, (some (.t 308, true)), (.bin .eql), [.t 309, .c (.i .i64 0)]⟩, ⟨.t 311, none, .pick, [.t 308, .t 310, .c (.b false)]⟩, ⟨.t 312, none, .mv, [.t 311]⟩, ⟨.t 313, (some (.t 312, true)), .mv, [.l 38]⟩, ⟨.t 314, (some (.t 312, true)), .lenSl, [.t 313]⟩, ⟨.t 315, (some (.t 312, true)), (.bin .eql), [.t 314, .c (.i .i64 1)]⟩, ⟨.t 316, none, .pick, [.t 312, .t 315, .c (.b false)]⟩, ⟨.t 317, none, .mv, [.t 316]⟩, ⟨.t 318, (some (.t 317, true)), .mv, [.l 40]⟩, ⟨.t 319, (some (.t 317, true)), (.bin .eql), [.t 318, .c (.i .i64 2)]⟩, ⟨.t 320, none, .pick, [.t 317, .t 319, .c (.b false)]⟩, ⟨.t 321, none, .mv, [.t 320]⟩, ⟨.t 322, (some (.t 321, true)), .mv, [.l 45]⟩, ⟨.t 323, (some (.t 321, true)), (.bin .eql), [.t 322, .c (.i .i64 4)]⟩, ⟨.t 324, none, .pick, [.t 321, .t 323, .c (.b false)]⟩, ⟨.l 0, none, .mv, [.t 324]⟩])
 .ret))))))))))))))))))))), [.tmp (.l 0)]⟩
/-- tarpaulin/ctx.New -/
def b11 : Nat := 13
def a11 : AFn := ⟨(.seq (.reg [⟨.l 2, none, .mv, [.c (.p none)]⟩])
 (.seq (.reg [⟨.t 4, none, .mv, [.l 0]⟩, ⟨.t 5, none, (.call 32), []⟩, ⟨.t 6, none, .mkmap, []⟩, ⟨.t 7, none, (.build [(.p none), (.p none), (.sl none 0 0 0), (.sl none 0 0 0), (.m none)] [(0, 1), (1, 1), (4, 1)]), [.t 4, .t 5, .t 6]⟩, ⟨.t 8, none, .box, [.t 7]⟩, ⟨.l 3, none, .mv, [.t 8]⟩])
 (.seq (.reg [⟨.t 9, none, .mv, [.l 3]⟩, ⟨.t 10, none, (.build [(.i .i64 0), (.b false), (.p none), (.i .i64 0), (.i .i64 0), (.i .i64 0), (.b false), (.b false), (.i .i64 0)] [(1, 1)]), [.c (.b true)]⟩, ⟨.t 11, none, (.call 33), [.t 9, .t 10, .c (.i .i64 (-1))]⟩])
 (.seq (.reg [⟨.t 12, none, .mv, [.l 3]⟩, ⟨.l 2, none, .mv, [.t 12]⟩])
 .ret)))), [.tmp (.l 2)]⟩
/-- tarpaulin/timer.New -/
def b12 : Nat := 1
def a12 : AFn := ⟨(.seq (.reg [⟨.l 0, none, .mv, [.c (.p none)]⟩])
 (.seq (.reg [⟨.t 1, none, (.call 34), []⟩, ⟨.t 2, none, (.build [(.sl none 0 0 0), (.p none), (.i .i64 0)] [(1, 1)]), [.t 1]⟩, ⟨.t 3, none, .box, [.t 2]⟩, ⟨.l 0, none, .mv, [.t 3]⟩])
 .ret)), [.tmp (.l 0)]⟩
/-- tarpaulin/tarpaulinalike.Round -/
def b13 : Nat := 19
def a13 : AFn := ⟨(.seq (.reg [⟨.l 4, none, .mv, [.c (.i .i64 0)]⟩])
 (.seq (.reg [⟨.t 5, none, .mv, [.l 0]⟩, ⟨.t 6, none, .mv, [.l 1]⟩, ⟨.t 7, none, (.bin .rem), [.t 5, .t 6]⟩, ⟨.t 8, none, .mv, [.l 1]⟩, ⟨.t 9, none, (.bin .add), [.t 7, .t 8]⟩, ⟨.t 10, none, .mv, [.l 1]⟩, ⟨.t 11, none, (.bin .rem), [.t 9, .t 10]⟩, ⟨.l 4, none, .mv, [.t 11]⟩])
 .ret)), [.tmp (.l 4)]⟩
/-- (*tarpaulin/ctx.Set).Without -/
def b14 : Nat := 115
def a14 : AFn := ⟨(.seq (.reg [⟨.l 4, none, .mv, [.c (.i .i64 0)]⟩, ⟨.l 5, none, .mv, [.c (.i .i64 0)]⟩])
 (.seq (.seq (.reg [⟨.t 7, none, .mv, [.l 0]⟩, ⟨.t 8, none, .mv, [.l 1]⟩, ⟨.t 9, none, (.call 35), [.t 7, .t 8]⟩, ⟨.l 6, none, .mv, [.t 9]⟩])
 (.seq (.reg [⟨.t 10, none, .mv, [.l 6]⟩, ⟨.t 11, none, (.bin .neq), [.t 10, .c (.i .i64 0)]⟩])
 (.cond (.t 11) (.seq (.reg [⟨.t 12, none, .mv, [.l 6]⟩, ⟨.l 4, none, .mv, [.c (.i .i64 0)]⟩, ⟨.l 5, none, .mv, [.t 12]⟩])
 .ret) .skip)))
 (.seq (.reg [⟨.t 13, none, .mv, [.l 0]⟩, ⟨.t 14, none, (.build [(.i .i64 0), (.b false), (.p none), (.i .i64 0), (.i .i64 0), (.i .i64 0), (.b false), (.b false), (.i .i64 0)] [(1, 1)]), [.c (.b true)]⟩, ⟨.t 15, none, .mv, [.l 0]⟩, ⟨.t 16, none, .nilchk, [.t 15]⟩, ⟨.t 17, none, (.fad 2), [.t 16]⟩, ⟨.t 18, none, (.ld none), [.t 17]⟩, ⟨.t 19, none, .mv, [.l 1]⟩, ⟨.t 20, none, (.iad 9), [.t 18, .t 19]⟩, ⟨.t 21, none, (.fad 0), [.t 20]⟩, ⟨.t 22, none, (.ld none), [.t 21]⟩, ⟨.t 23, none, (.call 33), [.t 13, .t 14, .t 22]⟩, ⟨.l 4, none, .mv, [.t 23]⟩, ⟨.l 5, none, .mv, [.c (.i .i64 0)]⟩])
 .ret))), [.tmp (.l 4), .tmp (.l 5)]⟩
/-- (*tarpaulin/ctx.Set).Cancels -/
def b15 : Nat := 1011
def a15 : AFn := ⟨(.seq (.reg [⟨.l 4, none, .mv, [.c (.i .i64 0)]⟩, ⟨.l 5, none, .mv, [.c (.sl none 0 0 0)]⟩, ⟨.l 6, none, .mv, [.c (.i .i64 0)]⟩])
 (.seq (.seq (.reg [⟨.t 10, none, .mv, [.l 0]⟩, ⟨.t 11, none, .mv, [.l 1]⟩, ⟨.t 12, none, (.call 35), [.t 10, .t 11]⟩, ⟨.l 7, none, .mv, [.t 12]⟩])
 (.seq (.reg [⟨.t 13, none, .mv, [.l 7]⟩, ⟨.t 14, none, (.bin .neq), [.t 13, .c (.i .i64 0)]⟩])
 (.cond (.t 14) (.seq (.reg [⟨.t 15, none, .mv, [.l 7]⟩, ⟨.l 4, none, .mv, [.c (.i .i64 0)]⟩, ⟨.l 5, none, .mv, [.c (.sl none 0 0 0)]⟩, ⟨.l 6, none, .mv, [.t 15]⟩])
 .ret) .skip)))
 (.seq (.reg [⟨.t 16, none, .mv, [.l 0]⟩, ⟨.t 17, none, .nilchk, [.t 16]⟩, ⟨.t 18, none, (.fad 2), [.t 17]⟩, ⟨.t 19, none, (.ld none), [.t 18]⟩, ⟨.t 20, none, .mv, [.l 1]⟩, ⟨.t 21, none, (.iad 9), [.t 19, .t 20]⟩, ⟨.t 22, none, (.ld (some 9)), [.t 21]⟩, ⟨.l 8, none, (.alloc [(.i .i64 0), (.b false), (.p none), (.i .i64 0), (.i .i64 0), (.i .i64 0), (.b false), (.b false), (.i .i64 0)]), []⟩, ⟨.no, none, (.st 9), [.l 8, .t 22]⟩])
 (.seq (.regD [⟨.t 23, none, .mv, [.l 0]⟩, ⟨.t 24, none, (.call 36), []⟩, ⟨.t 25, none, (.fad 5), [.l 8]⟩, ⟨.t 26, none, (.ld none), [.t 25]⟩, ⟨.t 27, none, (.fad 6), [.l 8]⟩, ⟨.t 28, none, (.ld none), [.t 27]⟩, ⟨.t 29, none, (.build [(.i .i64 0), (.b false), (.p none), (.i .i64 0), (.i .i64 0), (.i .i64 0), (.b false), (.b false), (.i .i64 0)] [(2, 1), (5, 1), (6, 1)]), [.t 24, .t 26, .t 28]⟩, ⟨.t 30, none, (.fad 0), [.l 8]⟩, ⟨.t 31, none, (.ld none), [.t 30]⟩, ⟨.t 32, none, (.call 33), [.t 23, .t 29, .t 31]⟩, ⟨.l 9, none, .mv, [.t 32]⟩] [(3, 0), (5, 0), (8, 0)])
 (.seq (.reg [⟨.t 33, none, .mv, [.l 9]⟩, ⟨.t 34, none, .mv, [.l 0]⟩, ⟨.t 35, none, .mv, [.l 9]⟩, ⟨.t 36, none, .mv, [.l 1]⟩, ⟨.t 37, none, (.call 37), [.t 34, .t 35, .t 36]⟩, ⟨.l 4, none, .mv, [.t 33]⟩, ⟨.l 5, none, .mv, [.t 37]⟩, ⟨.l 6, none, .mv, [.c (.i .i64 0)]⟩])
 .ret))))), [.tmp (.l 4), .tmp (.l 5), .tmp (.l 6)]⟩
/-- (*tarpaulin/ctx.Set).Cancel -/
def b16 : Nat := 1991
def a16 : AFn := ⟨(.seq (.reg [⟨.l 6, none, .mv, [.c (.sl none 0 0 0)]⟩, ⟨.l 7, none, .mv, [.c (.sl none 0 0 0)]⟩, ⟨.l 8, none, .mv, [.c (.i .i64 0)]⟩])
 (.seq (.block 0 (.seq (.reg [⟨.t 12, none, .mv, [.l 0]⟩, ⟨.t 13, none, .mv, [.l 1]⟩, ⟨.t 14, none, (.call 38), [.t 12, .t 13]⟩, ⟨.t 15, none, (.un .not), [.t 14]⟩, ⟨.t 11, none, .mv, [.t 15]⟩])
 (.cond (.t 11) (.seq (.reg [⟨.l 6, none, .mv, [.c (.sl none 0 0 0)]⟩, ⟨.l 7, none, .mv, [.c (.sl none 0 0 0)]⟩, ⟨.l 8, none, .mv, [.c (.i .i64 4)]⟩])
 .ret) (.seq (.reg [⟨.t 17, none, .mv, [.l 0]⟩, ⟨.t 18, none, .nilchk, [.t 17]⟩, ⟨.t 19, none, (.fad 2), [.t 18]⟩, ⟨.t 20, none, (.ld none), [.t 19]⟩, ⟨.t 21, none, .mv, [.l 1]⟩, ⟨.t 22, none, (.iad 9), [.t 20, .t 21]⟩, ⟨.t 23, none, (.fad 1), [.t 22]⟩, ⟨.t 24, none, (.ld none), [.t 23]⟩, ⟨.t 16, none, .mv, [.t 24]⟩])
 (.cond (.t 16) (.seq (.reg [⟨.l 6, none, .mv, [.c (.sl none 0 0 0)]⟩, ⟨.l 7, none, .mv, [.c (.sl none 0 0 0)]⟩, ⟨.l 8, none, .mv, [.c (.i .i64 1)]⟩])
 .ret) (.seq (.reg [⟨.t 26, none, .mv, [.l 2]⟩, ⟨.t 27, none, (.bin .lss), [.t 26, .c (.i .i64 1)]⟩, ⟨.t 25, none, .mv, [.t 27]⟩])
 (.cond (.t 25) (.reg [⟨.l 2, none, .mv, [.c (.i .i64 1)]⟩]) .skip)))))))
 (.seq (.reg [⟨.t 29, none, .mv, [.l 0]⟩, ⟨.t 30, none, .mv, [.l 1]⟩, ⟨.t 31, none, .mv, [.l 2]⟩, ⟨.t 32, none, (.call 39), [.t 29, .t 30, .c (.i .i64 1), .t 31]⟩, ⟨.t 28, none, .mv, [.t 32]⟩, ⟨.t 33, none, (.ext 0), [.t 28]⟩, ⟨.t 34, none, (.ext 1), [.t 28]⟩, ⟨.l 9, none, .mv, [.t 33]⟩, ⟨.l 10, none, .mv, [.t 34]⟩])
 (.seq (.reg [⟨.t 35, none, .mv, [.l 9]⟩, ⟨.t 36, none, .mv, [.l 10]⟩, ⟨.l 6, none, .mv, [.t 35]⟩, ⟨.l 7, none, .mv, [.t 36]⟩, ⟨.l 8, none, .mv, [.c (.i .i64 0)]⟩])
 .ret)))), [.tmp (.l 6), .tmp (.l 7), .tmp (.l 8)]⟩
/-- (*tarpaulin/ctx.Set).Err -/
def b17 : Nat := 51
def a17 : AFn := ⟨(.seq (.reg [⟨.l 4, none, .mv, [.c (.i .i64 0)]⟩, ⟨.l 5, none, .mv, [.c (.i .i64 0)]⟩])
 (.seq (.seq (.reg [⟨.t 6, none, .mv, [.l 0]⟩, ⟨.t 7, none, .mv, [.l 1]⟩, ⟨.t 8, none, (.call 38), [.t 6, .t 7]⟩, ⟨.t 9, none, (.un .not), [.t 8]⟩])
 (.cond (.t 9) (.seq (.reg [⟨.l 4, none, .mv, [.c (.i .i64 0)]⟩, ⟨.l 5, none, .mv, [.c (.i .i64 4)]⟩])
 .ret) .skip))
 (.seq (.reg [⟨.t 10, none, .mv, [.l 0]⟩, ⟨.t 11, none, .nilchk, [.t 10]⟩, ⟨.t 12, none, (.fad 2), [.t 11]⟩, ⟨.t 13, none, (.ld none), [.t 12]⟩, ⟨.t 14, none, .mv, [.l 1]⟩, ⟨.t 15, none, (.iad 9), [.t 13, .t 14]⟩, ⟨.t 16, none, (.fad 3), [.t 15]⟩, ⟨.t 17, none, (.ld none), [.t 16]⟩, ⟨.l 4, none, .mv, [.t 17]⟩, ⟨.l 5, none, .mv, [.c (.i .i64 0)]⟩])
 .ret))), [.tmp (.l 4), .tmp (.l 5)]⟩
/-- (*tarpaulin/ctx.Set).Cause -/
def b18 : Nat := 51
def a18 : AFn := ⟨(.seq (.reg [⟨.l 4, none, .mv, [.c (.i .i64 0)]⟩, ⟨.l 5, none, .mv, [.c (.i .i64 0)]⟩])
 (.seq (.seq (.reg [⟨.t 6, none, .mv, [.l 0]⟩, ⟨.t 7, none, .mv, [.l 1]⟩, ⟨.t 8, none, (.call 38), [.t 6, .t 7]⟩, ⟨.t 9, none, (.un .not), [.t 8]⟩])
 (.cond (.t 9) (.seq (.reg [⟨.l 4, none, .mv, [.c (.i .i64 0)]⟩, ⟨.l 5, none, .mv, [.c (.i .i64 4)]⟩])
 .ret) .skip))
 (.seq (.reg [⟨.t 10, none, .mv, [.l 0]⟩, ⟨.t 11, none, .nilchk, [.t 10]⟩, ⟨.t 12, none, (.fad 2), [.t 11]⟩, ⟨.t 13, none, (.ld none), [.t 12]⟩, ⟨.t 14, none, .mv, [.l 1]⟩, ⟨.t 15, none, (.iad 9), [.t 13, .t 14]⟩, ⟨.t 16, none, (.fad 4), [.t 15]⟩, ⟨.t 17, none, (.ld none), [.t 16]⟩, ⟨.l 4, none, .mv, [.t 17]⟩, ⟨.l 5, none, .mv, [.c (.i .i64 0)]⟩])
 .ret))), [.tmp (.l 4), .tmp (.l 5)]⟩
/-- (*tarpaulin/ctx.Set).After -/
def b19 : Nat := 3015
def a19 : AFn := ⟨(.seq (.reg [⟨.l 6, none, .mv, [.c (.i .i64 0)]⟩, ⟨.l 7, none, .mv, [.c (.sl none 0 0 0)]⟩, ⟨.l 8, none, .mv, [.c (.i .i64 0)]⟩])
 (.seq (.block 0 (.seq (.reg [⟨.t 13, none, .mv, [.l 0]⟩, ⟨.t 14, none, .mv, [.l 1]⟩, ⟨.t 15, none, (.call 38), [.t 13, .t 14]⟩, ⟨.t 16, none, (.un .not), [.t 15]⟩, ⟨.t 12, none, .mv, [.t 16]⟩])
 (.cond (.t 12) (.seq (.reg [⟨.l 6, none, .mv, [.c (.i .i64 0)]⟩, ⟨.l 7, none, .mv, [.c (.sl none 0 0 0)]⟩, ⟨.l 8, none, .mv, [.c (.i .i64 4)]⟩])
 .ret) (.seq (.reg [⟨.t 18, none, .mv, [.l 2]⟩, ⟨.t 19, none, (.bin .lss), [.t 18, .c (.i .i64 0)]⟩, ⟨.t 17, none, .mv, [.t 19]⟩])
 (.cond (.t 17) (.seq (.reg [⟨.l 6, none, .mv, [.c (.i .i64 0)]⟩, ⟨.l 7, none, .mv, [.c (.sl none 0 0 0)]⟩, ⟨.l 8, none, .mv, [.c (.i .i64 1)]⟩])
 .ret) (.seq (.reg [⟨.t 21, none, .mv, [.l 0]⟩, ⟨.t 22, none, .nilchk, [.t 21]⟩, ⟨.t 23, none, (.fad 3), [.t 22]⟩, ⟨.t 24, none, (.ld none), [.t 23]⟩, ⟨.t 25, none, .lenSl, [.t 24]⟩, ⟨.t 26, none, (.bin .geq), [.t 25, .c (.i .i64 64)]⟩, ⟨.t 20, none, .mv, [.t 26]⟩])
 (.cond (.t 20) (.seq (.reg [⟨.l 6, none, .mv, [.c (.i .i64 0)]⟩, ⟨.l 7, none, .mv, [.c (.sl none 0 0 0)]⟩, ⟨.l 8, none, .mv, [.c (.i .i64 3)]⟩])
 .ret) .skip)))))))
 (.seq (.reg [⟨.t 28, none, .mv, [.l 0]⟩, ⟨.t 29, none, .nilchk, [.t 28]⟩, ⟨.t 30, none, (.fad 1), [.t 29]⟩, ⟨.t 31, none, (.ld none), [.t 30]⟩, ⟨.t 32, none, .mv, [.l 0]⟩, ⟨.t 33, none, .nilchk, [.t 32]⟩, ⟨.t 34, none, (.fad 2), [.t 33]⟩, ⟨.t 35, none, (.ld none), [.t 34]⟩, ⟨.t 36, none, .mv, [.l 1]⟩, ⟨.t 37, none, (.iad 9), [.t 35, .t 36]⟩, ⟨.t 38, none, (.fad 0), [.t 37]⟩, ⟨.t 39, none, (.ld none), [.t 38]⟩, ⟨.t 40, none, (.call 40), [.t 31, .t 39, .c (.b true)]⟩, ⟨.t 27, none, .mv, [.t 40]⟩, ⟨.t 41, none, (.ext 0), [.t 27]⟩, ⟨.t 42, none, (.ext 1), [.t 27]⟩, ⟨.l 9, none, .mv, [.t 41]⟩, ⟨.t 10, none, .mv, [.t 42]⟩])
 (.seq (.reg [⟨.t 43, none, .mv, [.l 0]⟩, ⟨.t 44, none, .nilchk, [.t 43]⟩, ⟨.t 45, none, (.fad 3), [.t 44]⟩, ⟨.t 46, none, (.ld none), [.t 45]⟩, ⟨.t 47, none, .lenSl, [.t 46]⟩, ⟨.l 11, none, .mv, [.t 47]⟩])
 (.seq (.reg [⟨.t 48, none, .mv, [.l 0]⟩, ⟨.t 49, none, .nilchk, [.t 48]⟩, ⟨.t 50, none, (.fad 4), [.t 49]⟩, ⟨.t 51, none, (.ld none), [.t 50]⟩, ⟨.t 52, none, .mv, [.l 9]⟩, ⟨.t 53, none, .mv, [.l 11]⟩, ⟨.t 54, none, (.un .neg), [.t 53]⟩, ⟨.t 55, none, (.bin .sub), [.t 54, .c (.i .i64 1)]⟩, ⟨.no, none, .mset, [.t 51, .t 52, .t 55]⟩])
 (.seq (.reg [⟨.t 56, none, .mv, [.l 0]⟩, ⟨.t 57, none, .mv, [.l 0]⟩, ⟨.t 58, none, .nilchk, [.t 57]⟩, ⟨.t 59, none, (.fad 3), [.t 58]⟩, ⟨.t 60, none, (.ld none), [.t 59]⟩, ⟨.t 61, none, .mv, [.l 9]⟩, ⟨.t 62, none, .mv, [.l 2]⟩, ⟨.t 63, none, (.build [(.i .i64 0), (.i .i64 0), (.b false)] [(0, 1), (1, 1)]), [.t 61, .t 62]⟩, ⟨.t 64, none, (.bslice [(.i .i64 0), (.i .i64 0), (.b false)] 1 3 [0]), [.t 63]⟩, ⟨.t 65, none, (.app 3 24), [.t 60, .t 64]⟩, ⟨.t 66, none, .nilchk, [.t 56]⟩, ⟨.t 67, none, (.fad 3), [.t 66]⟩, ⟨.no, none, (.st 1), [.t 67, .t 65]⟩])
 (.seq (.seq (.reg [⟨.t 68, none, .mv, [.l 0]⟩, ⟨.t 69, none, .nilchk, [.t 68]⟩, ⟨.t 70, none, (.fad 2), [.t 69]⟩, ⟨.t 71, none, (.ld none), [.t 70]⟩, ⟨.t 72, none, .mv, [.l 1]⟩, ⟨.t 73, none, (.iad 9), [.t 71, .t 72]⟩, ⟨.t 74, none, (.fad 3), [.t 73]⟩, ⟨.t 75, none, (.ld none), [.t 74]⟩, ⟨.t 76, none, (.bin .neq), [.t 75, .c (.i .i64 0)]⟩])
 (.cond (.t 76) (.seq (.reg [⟨.t 77, none, .mv, [.l 11]⟩, ⟨.t 78, none, .mv, [.l 0]⟩, ⟨.t 79, none, .mv, [.l 11]⟩, ⟨.t 80, none, (.call 41), [.t 78, .t 79]⟩, ⟨.t 81, none, (.bslice [(.i .i64 0), (.i .i64 0)] 1 2 [0]), [.t 80]⟩, ⟨.l 6, none, .mv, [.t 77]⟩, ⟨.l 7, none, .mv, [.t 81]⟩, ⟨.l 8, none, .mv, [.c (.i .i64 0)]⟩])
 .ret) .skip))
 (.seq (.reg [⟨.t 82, none, .mv, [.l 11]⟩, ⟨.l 6, none, .mv, [.t 82]⟩, ⟨.l 7, none, .mv, [.c (.sl none 0 0 0)]⟩, ⟨.l 8, none, .mv, [.c (.i .i64 0)]⟩])
 .ret)))))))), [.tmp (.l 6), .tmp (.l 7), .tmp (.l 8)]⟩
/-- (*tarpaulin/ctx.Set).Unafter -/
def b20 : Nat := 243
def a20 : AFn := ⟨(.seq (.reg [⟨.l 4, none, .mv, [.c (.b false)]⟩, ⟨.l 5, none, .mv, [.c (.i .i64 0)]⟩])
 (.seq (.seq (.reg [⟨.t 8, none, .mv, [.l 0]⟩, ⟨.t 9, none, (.eq false .ptr), [.t 8, .c (.p none)]⟩, ⟨.t 10, none, .mv, [.t 9]⟩, ⟨.t 11, (some (.t 10, false)), .mv, [.l 1]⟩, ⟨.t 12, (some (.t 10, false)), (.bin .lss), [.t 11, .c (.i .i64 0)]⟩, ⟨.t 13, none, .pick, [.t 10, .c (.b true), .t 12]⟩, ⟨.t 14, none, .mv, [.t 13]⟩, ⟨.t 15, (some (.t 14, false)), .mv, [.l 1]⟩, ⟨.t 16, (some (.t 14, false)), .mv, [.l 0]⟩, ⟨.t 17, (some (.t 14, false)), .nilchk, [.t 16]⟩, ⟨.t 18, (some (.t 14, false)), (.fad 3), [.t 17]⟩, ⟨.t 19, (some (.t 14, false)), (.ld none), [.t 18]⟩, ⟨.t 20, (some (.t 14, false)), .lenSl, [.t 19]⟩, ⟨.t 21, (some (.t 14, false)), (.bin .geq), [.t 15, .t 20]⟩, ⟨.t 22, none, .pick, [.t 14, .c (.b true), .t 21]⟩])
 (.cond (.t 22) (.seq (.reg [⟨.l 4, none, .mv, [.c (.b false)]⟩, ⟨.l 5, none, .mv, [.c (.i .i64 4)]⟩])
 .ret) .skip))
 (.seq (.reg [⟨.t 23, none, .mv, [.l 0]⟩, ⟨.t 24, none, .nilchk, [.t 23]⟩, ⟨.t 25, none, (.fad 3), [.t 24]⟩, ⟨.t 26, none, (.ld none), [.t 25]⟩, ⟨.t 27, none, .mv, [.l 1]⟩, ⟨.t 28, none, (.iad 3), [.t 26, .t 27]⟩, ⟨.l 6, none, .mv, [.t 28]⟩])
 (.seq (.reg [⟨.t 29, none, .mv, [.l 6]⟩, ⟨.t 30, none, .nilchk, [.t 29]⟩, ⟨.t 31, none, (.fad 2), [.t 30]⟩, ⟨.t 32, none, (.ld none), [.t 31]⟩, ⟨.t 33, none, (.un .not), [.t 32]⟩, ⟨.l 7, none, .mv, [.t 33]⟩])
 (.seq (.reg [⟨.t 34, none, .mv, [.l 6]⟩, ⟨.t 35, none, .nilchk, [.t 34]⟩, ⟨.t 36, none, (.fad 2), [.t 35]⟩, ⟨.no, none, (.st 1), [.t 36, .c (.b true)]⟩])
 (.seq (.reg [⟨.t 37, none, .mv, [.l 0]⟩, ⟨.t 38, none, .nilchk, [.t 37]⟩, ⟨.t 39, none, (.fad 1), [.t 38]⟩, ⟨.t 40, none, (.ld none), [.t 39]⟩, ⟨.t 41, none, .mv, [.l 6]⟩, ⟨.t 42, none, .nilchk, [.t 41]⟩, ⟨.t 43, none, (.fad 0), [.t 42]⟩, ⟨.t 44, none, (.ld none), [.t 43]⟩, ⟨.t 45, none, (.call 42), [.t 40, .t 44]⟩])
 (.seq (.reg [⟨.t 46, none, .mv, [.l 7]⟩, ⟨.l 4, none, .mv, [.t 46]⟩, ⟨.l 5, none, .mv, [.c (.i .i64 0)]⟩])
 .ret))))))), [.tmp (.l 4), .tmp (.l 5)]⟩
/-- (*tarpaulin/ctx.Set).Deadline -/
def b21 : Nat := 130831
def a21 : AFn := ⟨(.seq (.reg [⟨.l 8, none, .mv, [.c (.i .i64 0)]⟩, ⟨.l 9, none, .mv, [.c (.sl none 0 0 0)]⟩, ⟨.l 10, none, .mv, [.c (.i .i64 0)]⟩])
 (.seq (.seq (.reg [⟨.t 17, none, .mv, [.l 0]⟩, ⟨.t 18, none, .mv, [.l 1]⟩, ⟨.t 19, none, (.call 35), [.t 17, .t 18]⟩, ⟨.l 11, none, .mv, [.t 19]⟩])
 (.seq (.reg [⟨.t 20, none, .mv, [.l 11]⟩, ⟨.t 21, none, (.bin .neq), [.t 20, .c (.i .i64 0)]⟩])
 (.cond (.t 21) (.seq (.reg [⟨.t 22, none, .mv, [.l 11]⟩, ⟨.l 8, none, .mv, [.c (.i .i64 0)]⟩, ⟨.l 9, none, .mv, [.c (.sl none 0 0 0)]⟩, ⟨.l 10, none, .mv, [.t 22]⟩])
 .ret) .skip)))
 (.seq (.reg [⟨.t 23, none, .mv, [.l 2]⟩, ⟨.t 24, none, (.call 43), [.t 23, .c (.i .i64 0)]⟩, ⟨.t 25, none, .max, [.t 24, .c (.i .i64 0)]⟩, ⟨.l 2, none, .mv, [.t 25]⟩])
 (.seq (.reg [⟨.t 26, none, .mv, [.l 0]⟩, ⟨.t 27, none, .nilchk, [.t 26]⟩, ⟨.t 28, none, (.fad 2), [.t 27]⟩, ⟨.t 29, none, (.ld none), [.t 28]⟩, ⟨.t 30, none, .mv, [.l 1]⟩, ⟨.t 31, none, (.iad 9), [.t 29, .t 30]⟩, ⟨.t 32, none, (.ld (some 9)), [.t 31]⟩, ⟨.l 12, none, (.alloc [(.i .i64 0), (.b false), (.p none), (.i .i64 0), (.i .i64 0), (.i .i64 0), (.b false), (.b false), (.i .i64 0)]), []⟩, ⟨.no, none, (.st 9), [.l 12, .t 32]⟩])
 (.seq (.seq (.reg [⟨.t 33, none, (.fad 6), [.l 12]⟩, ⟨.t 34, none, (.ld none), [.t 33]⟩, ⟨.t 35, none, .mv, [.t 34]⟩, ⟨.t 36, (some (.t 35, true)), (.fad 5), [.l 12]⟩, ⟨.t 37, (some (.t 35, true)), (.ld none), [.t 36]⟩, ⟨.t 38, (some (.t 35, true)), .mv, [.l 2]⟩, ⟨.t 39, (some (.t 35, true)), (.bin .leq), [.t 37, .t 38]⟩, ⟨.t 40, none, .pick, [.t 35, .t 39, .c (.b false)]⟩])
 (.cond (.t 40) (.seq (.reg [⟨.t 41, none, .mv, [.l 0]⟩, ⟨.t 42, none, .mv, [.l 1]⟩, ⟨.t 43, none, (.call 15), [.t 41, .t 42]⟩, ⟨.t 44, none, (.ext 0), [.t 43]⟩, ⟨.t 45, none, (.ext 1), [.t 43]⟩, ⟨.t 46, none, (.ext 2), [.t 43]⟩, ⟨.l 8, none, .mv, [.t 44]⟩, ⟨.l 9, none, .mv, [.t 45]⟩, ⟨.l 10, none, .mv, [.t 46]⟩])
 .ret) .skip))
 (.seq (.regD [⟨.t 47, none, .mv, [.l 0]⟩, ⟨.t 48, none, (.call 36), []⟩, ⟨.t 49, none, .mv, [.l 2]⟩, ⟨.t 50, none, (.build [(.i .i64 0), (.b false), (.p none), (.i .i64 0), (.i .i64 0), (.i .i64 0), (.b false), (.b false), (.i .i64 0)] [(2, 1), (5, 1), (6, 1), (7, 1)]), [.t 48, .t 49, .c (.b true), .c (.b true)]⟩, ⟨.t 51, none, (.fad 0), [.l 12]⟩, ⟨.t 52, none, (.ld none), [.t 51]⟩, ⟨.t 53, none, (.call 33), [.t 47, .t 50, .t 52]⟩, ⟨.l 13, none, .mv, [.t 53]⟩] [(5, 0)])
 (.seq (.seq (.reg [⟨.t 54, none, .mv, [.l 0]⟩, ⟨.t 55, none, .mv, [.l 13]⟩, ⟨.t 56, none, .mv, [.l 1]⟩, ⟨.t 57, none, (.call 37), [.t 54, .t 55, .t 56]⟩, ⟨.l 14, none, .mv, [.t 57]⟩])
 (.block 0 (.seq (.reg [⟨.t 59, none, .mv, [.l 14]⟩, ⟨.t 60, none, .lenSl, [.t 59]⟩, ⟨.t 61, none, (.bin .gtr), [.t 60, .c (.i .i64 0)]⟩, ⟨.t 58, none, .mv, [.t 61]⟩])
 (.cond (.t 58) (.seq (.reg [⟨.t 62, none, .mv, [.l 13]⟩, ⟨.t 63, none, .mv, [.l 14]⟩, ⟨.l 8, none, .mv, [.t 62]⟩, ⟨.l 9, none, .mv, [.t 63]⟩, ⟨.l 10, none, .mv, [.c (.i .i64 0)]⟩])
 .ret) (.seq (.reg [⟨.t 65, none, .mv, [.l 2]⟩, ⟨.t 66, none, .mv, [.l 3]⟩, ⟨.t 67, none, (.bin .leq), [.t 65, .t 66]⟩, ⟨.t 64, none, .mv, [.t 67]⟩])
 (.cond (.t 64) (.seq (.reg [⟨.t 69, none, .mv, [.l 0]⟩, ⟨.t 70, none, .mv, [.l 13]⟩, ⟨.t 71, none, (.call 39), [.t 69, .t 70, .c (.i .i64 2), .c (.i .i64 2)]⟩, ⟨.t 68, none, .mv, [.t 71]⟩, ⟨.t 72, none, (.ext 0), [.t 68]⟩, ⟨.t 73, none, (.ext 1), [.t 68]⟩, ⟨.l 14, none, .mv, [.t 72]⟩])
 (.seq (.reg [⟨.t 74, none, .mv, [.l 13]⟩, ⟨.t 75, none, .mv, [.l 14]⟩, ⟨.l 8, none, .mv, [.t 74]⟩, ⟨.l 9, none, .mv, [.t 75]⟩, ⟨.l 10, none, .mv, [.c (.i .i64 0)]⟩])
 .ret)) .skip))))))
 (.seq (.seq (.reg [⟨.t 77, none, .mv, [.l 0]⟩, ⟨.t 78, none, .nilchk, [.t 77]⟩, ⟨.t 79, none, (.fad 0), [.t 78]⟩, ⟨.t 80, none, (.ld none), [.t 79]⟩, ⟨.t 81, none, .mv, [.l 2]⟩, ⟨.t 82, none, .mv, [.l 13]⟩, ⟨.t 83, none, (.call 44), [.t 80, .t 81, .t 82]⟩, ⟨.t 76, none, .mv, [.t 83]⟩, ⟨.t 84, none, (.ext 0), [.t 76]⟩, ⟨.t 85, none, (.ext 1), [.t 76]⟩, ⟨.l 15, none, .mv, [.t 84]⟩, ⟨.l 16, none, .mv, [.t 85]⟩])
 (.seq (.reg [⟨.t 86, none, .mv, [.l 16]⟩, ⟨.t 87, none, (.bin .eql), [.t 86, .c (.i .i64 0)]⟩])
 (.cond (.t 87) (.reg [⟨.t 88, none, .mv, [.l 0]⟩, ⟨.t 89, none, .nilchk, [.t 88]⟩, ⟨.t 90, none, (.fad 2), [.t 89]⟩, ⟨.t 91, none, (.ld none), [.t 90]⟩, ⟨.t 92, none, .mv, [.l 13]⟩, ⟨.t 93, none, .mv, [.l 15]⟩, ⟨.t 94, none, (.iad 9), [.t 91, .t 92]⟩, ⟨.t 95, none, (.fad 8), [.t 94]⟩, ⟨.no, none, (.st 1), [.t 95, .t 93]⟩]) .skip)))
 (.seq (.reg [⟨.t 96, none, .mv, [.l 13]⟩, ⟨.l 8, none, .mv, [.t 96]⟩, ⟨.l 9, none, .mv, [.c (.sl none 0 0 0)]⟩, ⟨.l 10, none, .mv, [.c (.i .i64 0)]⟩])
 .ret))))))))), [.tmp (.l 8), .tmp (.l 9), .tmp (.l 10)]⟩
/-- (*tarpaulin/ctx.Set).Len -/
def b22 : Nat := 5
def a22 : AFn := ⟨(.seq (.reg [⟨.l 2, none, .mv, [.c (.i .i64 0)]⟩])
 (.seq (.seq (.reg [⟨.t 3, none, .mv, [.l 0]⟩, ⟨.t 4, none, (.eq false .ptr), [.t 3, .c (.p none)]⟩])
 (.cond (.t 4) (.seq (.reg [⟨.l 2, none, .mv, [.c (.i .i64 0)]⟩])
 .ret) .skip))
 (.seq (.reg [⟨.t 5, none, .mv, [.l 0]⟩, ⟨.t 6, none, .nilchk, [.t 5]⟩, ⟨.t 7, none, (.fad 2), [.t 6]⟩, ⟨.t 8, none, (.ld none), [.t 7]⟩, ⟨.t 9, none, .lenSl, [.t 8]⟩, ⟨.l 2, none, .mv, [.t 9]⟩])
 .ret))), [.tmp (.l 2)]⟩
/-- (*tarpaulin/ctx.Set).Done -/
def b23 : Nat := 51
def a23 : AFn := ⟨(.seq (.reg [⟨.l 4, none, .mv, [.c (.p none)]⟩, ⟨.l 5, none, .mv, [.c (.i .i64 0)]⟩])
 (.seq (.seq (.reg [⟨.t 6, none, .mv, [.l 0]⟩, ⟨.t 7, none, .mv, [.l 1]⟩, ⟨.t 8, none, (.call 38), [.t 6, .t 7]⟩, ⟨.t 9, none, (.un .not), [.t 8]⟩])
 (.cond (.t 9) (.seq (.reg [⟨.l 4, none, .mv, [.c (.p none)]⟩, ⟨.l 5, none, .mv, [.c (.i .i64 4)]⟩])
 .ret) .skip))
 (.seq (.reg [⟨.t 10, none, .mv, [.l 0]⟩, ⟨.t 11, none, .nilchk, [.t 10]⟩, ⟨.t 12, none, (.fad 2), [.t 11]⟩, ⟨.t 13, none, (.ld none), [.t 12]⟩, ⟨.t 14, none, .mv, [.l 1]⟩, ⟨.t 15, none, (.iad 9), [.t 13, .t 14]⟩, ⟨.t 16, none, (.fad 2), [.t 15]⟩, ⟨.t 17, none, (.ld none), [.t 16]⟩, ⟨.l 4, none, .mv, [.t 17]⟩, ⟨.l 5, none, .mv, [.c (.i .i64 0)]⟩])
 .ret))), [.tmp (.l 4), .tmp (.l 5)]⟩
/-- (*tarpaulin/chanq.Chan).Closed -/
def b24 : Nat := 5
def a24 : AFn := ⟨(.seq (.reg [⟨.l 2, none, .mv, [.c (.b false)]⟩])
 (.seq (.reg [⟨.t 3, none, .mv, [.l 0]⟩, ⟨.t 4, none, (.eq true .ptr), [.t 3, .c (.p none)]⟩, ⟨.t 5, none, .mv, [.t 4]⟩, ⟨.t 6, (some (.t 5, true)), .mv, [.l 0]⟩, ⟨.t 7, (some (.t 5, true)), .nilchk, [.t 6]⟩, ⟨.t 8, (some (.t 5, true)), (.fad 5), [.t 7]⟩, ⟨.t 9, (some (.t 5, true)), (.ld none), [.t 8]⟩, ⟨.t 10, none, .pick, [.t 5, .t 9, .c (.b false)]⟩, ⟨.l 2, none, .mv, [.t 10]⟩])
 .ret)), [.tmp (.l 2)]⟩
/-- (*tarpaulin/ctx.Set).Until -/
def b25 : Nat := 115
def a25 : AFn := ⟨(.seq (.reg [⟨.l 4, none, .mv, [.c (.i .i64 0)]⟩, ⟨.l 5, none, .mv, [.c (.b false)]⟩, ⟨.l 6, none, .mv, [.c (.i .i64 0)]⟩])
 (.seq (.seq (.reg [⟨.t 7, none, .mv, [.l 0]⟩, ⟨.t 8, none, .mv, [.l 1]⟩, ⟨.t 9, none, (.call 38), [.t 7, .t 8]⟩, ⟨.t 10, none, (.un .not), [.t 9]⟩])
 (.cond (.t 10) (.seq (.reg [⟨.l 4, none, .mv, [.c (.i .i64 0)]⟩, ⟨.l 5, none, .mv, [.c (.b false)]⟩, ⟨.l 6, none, .mv, [.c (.i .i64 4)]⟩])
 .ret) .skip))
 (.seq (.reg [⟨.t 11, none, .mv, [.l 0]⟩, ⟨.t 12, none, .nilchk, [.t 11]⟩, ⟨.t 13, none, (.fad 2), [.t 12]⟩, ⟨.t 14, none, (.ld none), [.t 13]⟩, ⟨.t 15, none, .mv, [.l 1]⟩, ⟨.t 16, none, (.iad 9), [.t 14, .t 15]⟩, ⟨.t 17, none, (.fad 5), [.t 16]⟩, ⟨.t 18, none, (.ld none), [.t 17]⟩, ⟨.t 19, none, .mv, [.l 0]⟩, ⟨.t 20, none, .nilchk, [.t 19]⟩, ⟨.t 21, none, (.fad 2), [.t 20]⟩, ⟨.t 22, none, (.ld none), [.t 21]⟩, ⟨.t 23, none, .mv, [.l 1]⟩, ⟨.t 24, none, (.iad 9), [.t 22, .t 23]⟩, ⟨.t 25, none, (.fad 6), [.t 24]⟩, ⟨.t 26, none, (.ld none), [.t 25]⟩, ⟨.l 4, none, .mv, [.t 18]⟩, ⟨.l 5, none, .mv, [.t 26]⟩, ⟨.l 6, none, .mv, [.c (.i .i64 0)]⟩])
 .ret))), [.tmp (.l 4), .tmp (.l 5), .tmp (.l 6)]⟩
/-- (*tarpaulin/chanq.Chan).Wait -/
def b26 : Nat := 215
def a26 : AFn := ⟨(.seq (.reg [⟨.l 4, none, .box, [.l 1]⟩, ⟨.l 6, none, .mv, [.c (.i .i64 0)]⟩])
 (.seq (.block 0 (.seq (.reg [⟨.t 9, none, .mv, [.l 0]⟩, ⟨.t 10, none, (.eq false .ptr), [.t 9, .c (.p none)]⟩, ⟨.t 8, none, .mv, [.t 10]⟩])
 (.cond (.t 8) (.seq (.reg [⟨.l 6, none, .mv, [.c (.i .i64 6)]⟩])
 .ret) (.seq (.reg [⟨.t 12, none, .mv, [.l 0]⟩, ⟨.t 13, none, (.call 45), [.t 12]⟩, ⟨.t 14, none, .mv, [.t 13]⟩, ⟨.t 15, (some (.t 14, true)), .mv, [.l 2]⟩, ⟨.t 16, none, .pick, [.t 14, .t 15, .c (.b false)]⟩, ⟨.t 11, none, .mv, [.t 16]⟩])
 (.cond (.t 11) (.seq (.reg [⟨.l 6, none, .mv, [.c (.i .i64 7)]⟩])
 .ret) (.seq (.reg [⟨.t 18, none, .mv, [.l 0]⟩, ⟨.t 19, none, .nilchk, [.t 18]⟩, ⟨.t 20, none, (.fad 5), [.t 19]⟩, ⟨.t 21, none, (.ld none), [.t 20]⟩, ⟨.t 17, none, .mv, [.t 21]⟩])
 (.cond (.t 17) (.seq (.reg [⟨.l 6, none, .mv, [.c (.i .i64 5)]⟩])
 .ret) .skip)))))))
 (.seq (.reg [⟨.t 22, none, (.mkfn 46 0), [.l 4]⟩, ⟨.l 7, none, .mv, [.t 22]⟩])
 (.seq (.seq (.reg [⟨.t 23, none, .mv, [.l 0]⟩, ⟨.t 24, none, .mv, [.l 2]⟩, ⟨.t 25, none, (.call 47), [.t 23, .t 24]⟩, ⟨.t 26, none, .mv, [.t 25]⟩, ⟨.t 27, (some (.t 26, false)), .mv, [.l 0]⟩, ⟨.t 28, (some (.t 26, false)), .mv, [.l 2]⟩, ⟨.t 29, (some (.t 26, false)), (.un .not), [.t 28]⟩, ⟨.t 30, (some (.t 26, false)), (.call 27), [.t 27, .t 29]⟩, ⟨.t 31, (some (.t 26, false)), .mv, [.l 7]⟩, ⟨.t 32, (some (.t 26, false)), (.call 48), [.t 30, .t 31]⟩, ⟨.t 33, none, .pick, [.t 26, .c (.b true), .t 32]⟩])
 (.cond (.t 33) (.seq (.reg [⟨.l 6, none, .mv, [.c (.i .i64 1)]⟩])
 .ret) .skip))
 (.seq (.regD [⟨.t 34, none, .mv, [.l 0]⟩, ⟨.t 35, none, .mv, [.l 2]⟩, ⟨.t 36, none, (.call 49), [.t 34, .t 35]⟩, ⟨.t 37, none, (.ld (some 3)), [.l 4]⟩, ⟨.t 38, none, (.call 50), [.t 36, .t 37]⟩] [(3, 0)])
 (.seq (.reg [⟨.l 6, none, .mv, [.c (.i .i64 0)]⟩])
 .ret)))))), [.tmp (.l 6)]⟩
/-- (*tarpaulin/chanq.Chan).Waiting -/
def b27 : Nat := 19
def a27 : AFn := ⟨(.seq (.reg [⟨.l 4, none, .mv, [.c (.sl none 0 0 0)]⟩])
 (.seq (.reg [⟨.t 5, none, .mv, [.l 0]⟩, ⟨.t 6, none, .mv, [.l 1]⟩, ⟨.t 7, none, (.call 49), [.t 5, .t 6]⟩, ⟨.t 8, none, (.call 51), [.t 7]⟩, ⟨.l 4, none, .mv, [.t 8]⟩])
 .ret)), [.tmp (.l 4)]⟩
/-- (*tarpaulin/timer.Set).Fire -/
def b28 : Nat := 1011
def a28 : AFn := ⟨(.seq (.reg [⟨.l 4, none, (.alloc [(.i .i64 0), (.i .i64 0), (.i .i64 0), (.i .i64 0), (.i .i64 0), (.sl none 0 0 0), (.b false)]), []⟩, ⟨.l 5, none, .mv, [.c (.b false)]⟩])
 (.seq (.seq (.reg [⟨.t 10, none, .mv, [.l 0]⟩, ⟨.t 11, none, (.eq false .ptr), [.t 10, .c (.p none)]⟩])
 (.cond (.t 11) (.seq (.reg [⟨.t 12, none, (.build [(.i .i64 0), (.i .i64 0), (.i .i64 0), (.i .i64 0), (.i .i64 0), (.sl none 0 0 0), (.b false)] []), []⟩, ⟨.no, none, (.st 7), [.l 4, .t 12]⟩, ⟨.l 5, none, .mv, [.c (.b false)]⟩])
 .ret) .skip))
 (.seq (.reg [⟨.t 14, none, .mv, [.l 0]⟩, ⟨.t 15, none, .nilchk, [.t 14]⟩, ⟨.t 16, none, (.fad 1), [.t 15]⟩, ⟨.t 17, none, (.ld none), [.t 16]⟩, ⟨.t 18, none, .mv, [.l 1]⟩, ⟨.t 19, none, (.call 52), [.t 17, .t 18]⟩, ⟨.t 13, none, .mv, [.t 19]⟩, ⟨.t 20, none, (.ext 0), [.t 13]⟩, ⟨.t 21, none, (.ext 1), [.t 13]⟩, ⟨.l 6, none, (.alloc [(.i .i64 0), (.i .i64 0), (.i .i64 0)]), []⟩, ⟨.no, none, (.st 3), [.l 6, .t 20]⟩, ⟨.l 7, none, .mv, [.t 21]⟩])
 (.seq (.seq (.reg [⟨.t 22, none, .mv, [.l 7]⟩, ⟨.t 23, none, (.un .not), [.t 22]⟩])
 (.cond (.t 23) (.seq (.reg [⟨.t 24, none, (.build [(.i .i64 0), (.i .i64 0), (.i .i64 0), (.i .i64 0), (.i .i64 0), (.sl none 0 0 0), (.b false)] []), []⟩, ⟨.no, none, (.st 7), [.l 4, .t 24]⟩, ⟨.l 5, none, .mv, [.c (.b false)]⟩])
 .ret) .skip))
 (.seq (.reg [⟨.t 25, none, .mv, [.l 0]⟩, ⟨.t 26, none, .nilchk, [.t 25]⟩, ⟨.t 27, none, (.fad 0), [.t 26]⟩, ⟨.t 28, none, (.ld none), [.t 27]⟩, ⟨.t 29, none, (.fad 0), [.l 6]⟩, ⟨.t 30, none, (.ld none), [.t 29]⟩, ⟨.t 31, none, (.iad 4), [.t 28, .t 30]⟩, ⟨.t 32, none, (.ld (some 4)), [.t 31]⟩, ⟨.l 8, none, (.alloc [(.i .i64 0), (.i .i64 0), (.p none), (.i .i64 0)]), []⟩, ⟨.no, none, (.st 4), [.l 8, .t 32]⟩])
 (.seq (.reg [⟨.t 33, none, (.fad 0), [.l 6]⟩, ⟨.t 34, none, (.ld none), [.t 33]⟩, ⟨.t 35, none, (.fad 0), [.l 8]⟩, ⟨.t 36, none, (.ld none), [.t 35]⟩, ⟨.t 37, none, (.fad 1), [.l 6]⟩, ⟨.t 38, none, (.ld none), [.t 37]⟩, ⟨.t 39, none, (.fad 2), [.l 6]⟩, ⟨.t 40, none, (.ld none), [.t 39]⟩, ⟨.t 41, none, (.fad 1), [.l 8]⟩, ⟨.t 42, none, (.ld none), [.t 41]⟩, ⟨.t 43, none, (.build [(.i .i64 0), (.i .i64 0), (.i .i64 0), (.i .i64 0), (.i .i64 0), (.sl none 0 0 0), (.b false)] [(0, 1), (1, 1), (2, 1), (3, 1), (4, 1)]), [.t 34, .t 36, .t 38, .t 40, .t 42]⟩, ⟨.l 9, none, (.alloc [(.i .i64 0), (.i .i64 0), (.i .i64 0), (.i .i64 0), (.i .i64 0), (.sl none 0 0 0), (.b false)]), []⟩, ⟨.no, none, (.st 7), [.l 9, .t 43]⟩])
 (.seq (.reg [⟨.t 45, none, (.fad 2), [.l 8]⟩, ⟨.t 46, none, (.ld none), [.t 45]⟩, ⟨.t 47, none, .mv, [.l 1]⟩, ⟨.t 48, none, (.call 53), [.t 46, .t 47]⟩, ⟨.t 44, none, .mv, [.t 48]⟩, ⟨.t 49, none, (.ext 0), [.t 44]⟩, ⟨.t 50, none, (.ext 1), [.t 44]⟩, ⟨.t 51, none, (.fad 5), [.l 9]⟩, ⟨.no, none, (.st 1), [.t 51, .t 49]⟩, ⟨.t 52, none, (.fad 6), [.l 9]⟩, ⟨.no, none, (.st 1), [.t 52, .t 50]⟩])
 (.seq (.reg [⟨.t 53, none, (.ld (some 7)), [.l 9]⟩, ⟨.no, none, (.st 7), [.l 4, .t 53]⟩, ⟨.l 5, none, .mv, [.c (.b true)]⟩])
 .ret)))))))), [.cell (.l 4) (some 7), .tmp (.l 5)]⟩
/-- (*tarpaulin/ctx.Set).Lapse -/
def b29 : Nat := 499
def a29 : AFn := ⟨(.seq (.reg [⟨.l 4, none, .mv, [.c (.sl none 0 0 0)]⟩, ⟨.l 5, none, .mv, [.c (.sl none 0 0 0)]⟩, ⟨.l 6, none, .mv, [.c (.i .i64 0)]⟩])
 (.seq (.block 0 (.seq (.reg [⟨.t 10, none, .mv, [.l 0]⟩, ⟨.t 11, none, .mv, [.l 1]⟩, ⟨.t 12, none, (.call 38), [.t 10, .t 11]⟩, ⟨.t 13, none, (.un .not), [.t 12]⟩, ⟨.t 9, none, .mv, [.t 13]⟩])
 (.cond (.t 9) (.seq (.reg [⟨.l 4, none, .mv, [.c (.sl none 0 0 0)]⟩, ⟨.l 5, none, .mv, [.c (.sl none 0 0 0)]⟩, ⟨.l 6, none, .mv, [.c (.i .i64 4)]⟩])
 .ret) (.seq (.reg [⟨.t 15, none, .mv, [.l 0]⟩, ⟨.t 16, none, .nilchk, [.t 15]⟩, ⟨.t 17, none, (.fad 2), [.t 16]⟩, ⟨.t 18, none, (.ld none), [.t 17]⟩, ⟨.t 19, none, .mv, [.l 1]⟩, ⟨.t 20, none, (.iad 9), [.t 18, .t 19]⟩, ⟨.t 21, none, (.fad 7), [.t 20]⟩, ⟨.t 22, none, (.ld none), [.t 21]⟩, ⟨.t 23, none, (.un .not), [.t 22]⟩, ⟨.t 14, none, .mv, [.t 23]⟩])
 (.cond (.t 14) (.seq (.reg [⟨.l 4, none, .mv, [.c (.sl none 0 0 0)]⟩, ⟨.l 5, none, .mv, [.c (.sl none 0 0 0)]⟩, ⟨.l 6, none, .mv, [.c (.i .i64 1)]⟩])
 .ret) .skip)))))
 (.seq (.reg [⟨.t 25, none, .mv, [.l 0]⟩, ⟨.t 26, none, .mv, [.l 1]⟩, ⟨.t 27, none, (.call 39), [.t 25, .t 26, .c (.i .i64 2), .c (.i .i64 2)]⟩, ⟨.t 24, none, .mv, [.t 27]⟩, ⟨.t 28, none, (.ext 0), [.t 24]⟩, ⟨.t 29, none, (.ext 1), [.t 24]⟩, ⟨.l 7, none, .mv, [.t 28]⟩, ⟨.l 8, none, .mv, [.t 29]⟩])
 (.seq (.reg [⟨.t 30, none, .mv, [.l 7]⟩, ⟨.t 31, none, .mv, [.l 8]⟩, ⟨.l 4, none, .mv, [.t 30]⟩, ⟨.l 5, none, .mv, [.t 31]⟩, ⟨.l 6, none, .mv, [.c (.i .i64 0)]⟩])
 .ret)))), [.tmp (.l 4), .tmp (.l 5), .tmp (.l 6)]⟩
/-- (*tarpaulin/timer.Set).Next -/
def b30 : Nat := 13
def a30 : AFn := ⟨(.seq (.reg [⟨.l 2, none, .mv, [.c (.i .i64 0)]⟩, ⟨.l 3, none, .mv, [.c (.b false)]⟩])
 (.seq (.seq (.reg [⟨.t 4, none, .mv, [.l 0]⟩, ⟨.t 5, none, (.eq false .ptr), [.t 4, .c (.p none)]⟩])
 (.cond (.t 5) (.seq (.reg [⟨.l 2, none, .mv, [.c (.i .i64 0)]⟩, ⟨.l 3, none, .mv, [.c (.b false)]⟩])
 .ret) .skip))
 (.seq (.reg [⟨.t 6, none, .mv, [.l 0]⟩, ⟨.t 7, none, .nilchk, [.t 6]⟩, ⟨.t 8, none, (.fad 1), [.t 7]⟩, ⟨.t 9, none, (.ld none), [.t 8]⟩, ⟨.t 10, none, (.call 54), [.t 9]⟩, ⟨.t 11, none, (.ext 0), [.t 10]⟩, ⟨.t 12, none, (.ext 1), [.t 10]⟩, ⟨.l 2, none, .mv, [.t 11]⟩, ⟨.l 3, none, .mv, [.t 12]⟩])
 .ret))), [.tmp (.l 2), .tmp (.l 3)]⟩
/-- tarpaulin/tarpaulinlaw15.fresh -/
def b31 : Nat := 31
def a31 : AFn := ⟨(.seq (.reg [⟨.l 0, none, .mv, [.c (.p none)]⟩, ⟨.l 1, none, .mv, [.c (.b false)]⟩])
 (.seq (.reg [⟨.t 5, none, (.call 12), []⟩, ⟨.l 2, none, .mv, [.t 5]⟩])
 (.seq (.reg [⟨.t 6, none, (.build [(.sl none 0 0 0), (.i .i64 0), (.sl none 0 0 0), (.sl none 0 0 0), (.i .i64 0)] []), []⟩, ⟨.t 7, none, .box, [.t 6]⟩, ⟨.l 3, none, .mv, [.t 7]⟩])
 (.seq (.reg [⟨.t 8, none, .mv, [.l 2]⟩, ⟨.t 9, none, .mv, [.l 2]⟩, ⟨.t 10, none, (.call 11), [.t 9]⟩, ⟨.t 11, none, .mv, [.l 3]⟩, ⟨.t 12, none, .mv, [.l 3]⟩, ⟨.t 13, none, (.call 55), [.t 12]⟩, ⟨.t 14, none, (.build [(.p none), (.p none), (.p none), (.p none), (.i .i64 0)] [(0, 1), (1, 1), (2, 1), (3, 1)]), [.t 8, .t 10, .t 11, .t 13]⟩, ⟨.t 15, none, .box, [.t 14]⟩, ⟨.l 4, none, .mv, [.t 15]⟩])
 (.seq (.reg [⟨.t 16, none, .mv, [.l 4]⟩, ⟨.t 17, none, .mv, [.l 4]⟩, ⟨.t 18, none, .nilchk, [.t 17]⟩, ⟨.t 19, none, (.fad 0), [.t 18]⟩, ⟨.t 20, none, (.ld none), [.t 19]⟩, ⟨.t 21, none, (.eq true .ptr), [.t 20, .c (.p none)]⟩, ⟨.t 22, none, .mv, [.t 21]⟩, ⟨.t 23, (some (.t 22, true)), .mv, [.l 4]⟩, ⟨.t 24, (some (.t 22, true)), .nilchk, [.t 23]⟩, ⟨.t 25, (some (.t 22, true)), (.fad 1), [.t 24]⟩, ⟨.t 26, (some (.t 22, true)), (.ld none), [.t 25]⟩, ⟨.t 27, (some (.t 22, true)), (.eq true .ptr), [.t 26, .c (.p none)]⟩, ⟨.t 28, none, .pick, [.t 22, .t 27, .c (.b false)]⟩, ⟨.l 0, none, .mv, [.t 16]⟩, ⟨.l 1, none, .mv, [.t 28]⟩])
 .ret))))), [.tmp (.l 0), .tmp (.l 1)]⟩
/-- tarpaulin/tree.New -/
def b32 : Nat := 1
def a32 : AFn := ⟨(.seq (.reg [⟨.l 0, none, .mv, [.c (.p none)]⟩])
 (.seq (.reg [⟨.t 1, none, (.build [(.sl none 0 0 0)] []), []⟩, ⟨.t 2, none, .box, [.t 1]⟩, ⟨.l 0, none, .mv, [.t 2]⟩])
 .ret)), [.tmp (.l 0)]⟩
/-- (*tarpaulin/ctx.Set).add -/
def b33 : Nat := 87
def a33 : AFn := ⟨(.seq (.reg [⟨.l 4, none, .box, [.l 1]⟩, ⟨.l 6, none, .mv, [.c (.i .i64 0)]⟩])
 (.seq (.reg [⟨.t 8, none, .mv, [.l 0]⟩, ⟨.t 9, none, .nilchk, [.t 8]⟩, ⟨.t 10, none, (.fad 1), [.t 9]⟩, ⟨.t 11, none, (.ld none), [.t 10]⟩, ⟨.t 12, none, .mv, [.l 2]⟩, ⟨.t 13, none, (.fad 1), [.l 4]⟩, ⟨.t 14, none, (.ld none), [.t 13]⟩, ⟨.t 15, none, (.un .not), [.t 14]⟩, ⟨.t 16, none, (.call 40), [.t 11, .t 12, .t 15]⟩, ⟨.t 7, none, .mv, [.t 16]⟩, ⟨.t 17, none, (.ext 0), [.t 7]⟩, ⟨.t 18, none, (.ext 1), [.t 7]⟩, ⟨.t 19, none, (.fad 0), [.l 4]⟩, ⟨.no, none, (.st 1), [.t 19, .t 17]⟩])
 (.seq (.reg [⟨.t 20, none, (.fad 8), [.l 4]⟩, ⟨.no, none, (.st 1), [.t 20, .c (.i .i64 (-1))]⟩])
 (.seq (.reg [⟨.t 21, none, .mv, [.l 0]⟩, ⟨.t 22, none, .nilchk, [.t 21]⟩, ⟨.t 23, none, (.fad 4), [.t 22]⟩, ⟨.t 24, none, (.ld none), [.t 23]⟩, ⟨.t 25, none, (.fad 0), [.l 4]⟩, ⟨.t 26, none, (.ld none), [.t 25]⟩, ⟨.t 27, none, .mv, [.l 0]⟩, ⟨.t 28, none, .nilchk, [.t 27]⟩, ⟨.t 29, none, (.fad 2), [.t 28]⟩, ⟨.t 30, none, (.ld none), [.t 29]⟩, ⟨.t 31, none, .lenSl, [.t 30]⟩, ⟨.no, none, .mset, [.t 24, .t 26, .t 31]⟩])
 (.seq (.reg [⟨.t 32, none, .mv, [.l 0]⟩, ⟨.t 33, none, .mv, [.l 0]⟩, ⟨.t 34, none, .nilchk, [.t 33]⟩, ⟨.t 35, none, (.fad 2), [.t 34]⟩, ⟨.t 36, none, (.ld none), [.t 35]⟩, ⟨.t 37, none, (.ld (some 9)), [.l 4]⟩, ⟨.t 38, none, (.bslice [(.i .i64 0), (.b false), (.p none), (.i .i64 0), (.i .i64 0), (.i .i64 0), (.b false), (.b false), (.i .i64 0)] 1 9 [0]), [.t 37]⟩, ⟨.t 39, none, (.app 9 64), [.t 36, .t 38]⟩, ⟨.t 40, none, .nilchk, [.t 32]⟩, ⟨.t 41, none, (.fad 2), [.t 40]⟩, ⟨.no, none, (.st 1), [.t 41, .t 39]⟩])
 (.seq (.reg [⟨.t 42, none, .mv, [.l 0]⟩, ⟨.t 43, none, .nilchk, [.t 42]⟩, ⟨.t 44, none, (.fad 2), [.t 43]⟩, ⟨.t 45, none, (.ld none), [.t 44]⟩, ⟨.t 46, none, .lenSl, [.t 45]⟩, ⟨.t 47, none, (.bin .sub), [.t 46, .c (.i .i64 1)]⟩, ⟨.l 6, none, .mv, [.t 47]⟩])
 .ret)))))), [.tmp (.l 6)]⟩
/-- tarpaulin/expire.New -/
def b34 : Nat := 1
def a34 : AFn := ⟨(.seq (.reg [⟨.l 0, none, .mv, [.c (.p none)]⟩])
 (.seq (.reg [⟨.t 1, none, (.call 56), []⟩, ⟨.t 2, none, .mkmap, []⟩, ⟨.t 3, none, (.build [(.p none), (.m none)] [(0, 1), (1, 1)]), [.t 1, .t 2]⟩, ⟨.t 4, none, .box, [.t 3]⟩, ⟨.l 0, none, .mv, [.t 4]⟩])
 .ret)), [.tmp (.l 0)]⟩
/-- (*tarpaulin/ctx.Set).room -/
def b35 : Nat := 19
def a35 : AFn := ⟨(.seq (.reg [⟨.l 4, none, .mv, [.c (.i .i64 0)]⟩])
 (.seq (.block 0 (.seq (.reg [⟨.t 6, none, .mv, [.l 0]⟩, ⟨.t 7, none, .mv, [.l 1]⟩, ⟨.t 8, none, (.call 38), [.t 6, .t 7]⟩, ⟨.t 9, none, (.un .not), [.t 8]⟩, ⟨.t 5, none, .mv, [.t 9]⟩])
 (.cond (.t 5) (.seq (.reg [⟨.l 4, none, .mv, [.c (.i .i64 4)]⟩])
 .ret) (.seq (.reg [⟨.t 11, none, .mv, [.l 0]⟩, ⟨.t 12, none, .nilchk, [.t 11]⟩, ⟨.t 13, none, (.fad 2), [.t 12]⟩, ⟨.t 14, none, (.ld none), [.t 13]⟩, ⟨.t 15, none, .lenSl, [.t 14]⟩, ⟨.t 16, none, (.bin .geq), [.t 15, .c (.i .i64 64)]⟩, ⟨.t 10, none, .mv, [.t 16]⟩])
 (.cond (.t 10) (.seq (.reg [⟨.l 4, none, .mv, [.c (.i .i64 3)]⟩])
 .ret) .skip)))))
 (.seq (.reg [⟨.l 4, none, .mv, [.c (.i .i64 0)]⟩])
 .ret))), [.tmp (.l 4)]⟩
/-- tarpaulin/chanq.Signal -/
def b36 : Nat := 3
def a36 : AFn := ⟨(.seq (.reg [⟨.l 0, none, .mv, [.c (.p none)]⟩])
 (.seq (.reg [⟨.t 4, none, (.call 57), [.c (.i .i64 0)]⟩, ⟨.t 3, none, .mv, [.t 4]⟩, ⟨.t 5, none, (.ext 0), [.t 3]⟩, ⟨.t 6, none, (.ext 1), [.t 3]⟩, ⟨.l 1, none, .mv, [.t 5]⟩, ⟨.t 2, none, .mv, [.t 6]⟩])
 (.seq (.reg [⟨.t 7, none, .mv, [.l 1]⟩, ⟨.t 8, none, .nilchk, [.t 7]⟩, ⟨.t 9, none, (.fad 4), [.t 8]⟩, ⟨.no, none, (.st 1), [.t 9, .c (.b true)]⟩])
 (.seq (.reg [⟨.t 10, none, .mv, [.l 1]⟩, ⟨.l 0, none, .mv, [.t 10]⟩])
 .ret)))), [.tmp (.l 0)]⟩
/-- (*tarpaulin/ctx.Set).begin -/
def b37 : Nat := 455
def a37 : AFn := ⟨(.seq (.reg [⟨.l 6, none, .mv, [.c (.sl none 0 0 0)]⟩])
 (.seq (.reg [⟨.t 10, none, .mv, [.l 0]⟩, ⟨.t 11, none, .nilchk, [.t 10]⟩, ⟨.t 12, none, (.fad 2), [.t 11]⟩, ⟨.t 13, none, (.ld none), [.t 12]⟩, ⟨.t 14, none, .mv, [.l 2]⟩, ⟨.t 15, none, (.iad 9), [.t 13, .t 14]⟩, ⟨.t 16, none, (.ld (some 9)), [.t 15]⟩, ⟨.l 7, none, (.alloc [(.i .i64 0), (.b false), (.p none), (.i .i64 0), (.i .i64 0), (.i .i64 0), (.b false), (.b false), (.i .i64 0)]), []⟩, ⟨.no, none, (.st 9), [.l 7, .t 16]⟩])
 (.seq (.seq (.reg [⟨.t 17, none, (.fad 3), [.l 7]⟩, ⟨.t 18, none, (.ld none), [.t 17]⟩, ⟨.t 19, none, (.bin .eql), [.t 18, .c (.i .i64 0)]⟩])
 (.cond (.t 19) (.seq (.reg [⟨.l 6, none, .mv, [.c (.sl none 0 0 0)]⟩])
 .ret) .skip))
 (.seq (.reg [⟨.t 21, none, .mv, [.l 0]⟩, ⟨.t 22, none, .mv, [.l 1]⟩, ⟨.t 23, none, (.fad 3), [.l 7]⟩, ⟨.t 24, none, (.ld none), [.t 23]⟩, ⟨.t 25, none, (.fad 4), [.l 7]⟩, ⟨.t 26, none, (.ld none), [.t 25]⟩, ⟨.t 27, none, (.call 39), [.t 21, .t 22, .t 24, .t 26]⟩, ⟨.t 20, none, .mv, [.t 27]⟩, ⟨.t 28, none, (.ext 0), [.t 20]⟩, ⟨.t 29, none, (.ext 1), [.t 20]⟩, ⟨.l 8, none, .mv, [.t 28]⟩, ⟨.t 9, none, .mv, [.t 29]⟩])
 (.seq (.reg [⟨.t 30, none, .mv, [.l 8]⟩, ⟨.l 6, none, .mv, [.t 30]⟩])
 .ret))))), [.tmp (.l 6)]⟩
/-- (*tarpaulin/ctx.Set).has -/
def b38 : Nat := 19
def a38 : AFn := ⟨(.seq (.reg [⟨.l 4, none, .mv, [.c (.b false)]⟩])
 (.seq (.reg [⟨.t 5, none, .mv, [.l 0]⟩, ⟨.t 6, none, (.eq true .ptr), [.t 5, .c (.p none)]⟩, ⟨.t 7, none, .mv, [.t 6]⟩, ⟨.t 8, (some (.t 7, true)), .mv, [.l 1]⟩, ⟨.t 9, (some (.t 7, true)), (.bin .geq), [.t 8, .c (.i .i64 0)]⟩, ⟨.t 10, none, .pick, [.t 7, .t 9, .c (.b false)]⟩, ⟨.t 11, none, .mv, [.t 10]⟩, ⟨.t 12, (some (.t 11, true)), .mv, [.l 1]⟩, ⟨.t 13, (some (.t 11, true)), .mv, [.l 0]⟩, ⟨.t 14, (some (.t 11, true)), .nilchk, [.t 13]⟩, ⟨.t 15, (some (.t 11, true)), (.fad 2), [.t 14]⟩, ⟨.t 16, (some (.t 11, true)), (.ld none), [.t 15]⟩, ⟨.t 17, (some (.t 11, true)), .lenSl, [.t 16]⟩, ⟨.t 18, (some (.t 11, true)), (.bin .lss), [.t 12, .t 17]⟩, ⟨.t 19, none, .pick, [.t 11, .t 18, .c (.b false)]⟩, ⟨.l 4, none, .mv, [.t 19]⟩])
 .ret)), [.tmp (.l 4)]⟩
/-- (*tarpaulin/ctx.Set).cancel -/
def b39 : Nat := 2066035336255469844239
def a39 : AFn := ⟨(.seq (.reg [⟨.l 8, none, .mv, [.c (.sl none 0 0 0)]⟩, ⟨.l 9, none, .mv, [.c (.sl none 0 0 0)]⟩])
 (.seq (.reg [⟨.t 16, none, .mv, [.l 0]⟩, ⟨.t 17, none, .nilchk, [.t 16]⟩, ⟨.t 18, none, (.fad 2), [.t 17]⟩, ⟨.t 19, none, (.ld none), [.t 18]⟩, ⟨.t 20, none, .mv, [.l 1]⟩, ⟨.t 21, none, (.iad 9), [.t 19, .t 20]⟩, ⟨.l 10, none, .mv, [.t 21]⟩])
 (.seq (.seq (.reg [⟨.t 22, none, .mv, [.l 10]⟩, ⟨.t 23, none, .nilchk, [.t 22]⟩, ⟨.t 24, none, (.fad 1), [.t 23]⟩, ⟨.t 25, none, (.ld none), [.t 24]⟩, ⟨.t 26, none, .mv, [.t 25]⟩, ⟨.t 27, (some (.t 26, false)), .mv, [.l 10]⟩, ⟨.t 28, (some (.t 26, false)), .nilchk, [.t 27]⟩, ⟨.t 29, (some (.t 26, false)), (.fad 3), [.t 28]⟩, ⟨.t 30, (some (.t 26, false)), (.ld none), [.t 29]⟩, ⟨.t 31, (some (.t 26, false)), (.bin .neq), [.t 30, .c (.i .i64 0)]⟩, ⟨.t 32, none, .pick, [.t 26, .c (.b true), .t 31]⟩])
 (.cond (.t 32) (.seq (.reg [⟨.l 8, none, .mv, [.c (.sl none 0 0 0)]⟩, ⟨.l 9, none, .mv, [.c (.sl none 0 0 0)]⟩])
 .ret) .skip))
 (.seq (.reg [⟨.t 33, none, .mv, [.l 10]⟩, ⟨.t 34, none, .mv, [.l 10]⟩, ⟨.t 35, none, .mv, [.l 2]⟩, ⟨.t 36, none, .mv, [.l 3]⟩, ⟨.t 37, none, .nilchk, [.t 33]⟩, ⟨.t 38, none, (.fad 3), [.t 37]⟩, ⟨.no, none, (.st 1), [.t 38, .t 35]⟩, ⟨.t 39, none, .nilchk, [.t 34]⟩, ⟨.t 40, none, (.fad 4), [.t 39]⟩, ⟨.no, none, (.st 1), [.t 40, .t 36]⟩])
 (.seq (.reg [⟨.t 41, none, .mv, [.l 1]⟩, ⟨.t 42, none, .mv, [.l 2]⟩, ⟨.t 43, none, .mv, [.l 3]⟩, ⟨.t 44, none, .mv, [.l 10]⟩, ⟨.t 45, none, .nilchk, [.t 44]⟩, ⟨.t 46, none, (.fad 2), [.t 45]⟩, ⟨.t 47, none, (.ld none), [.t 46]⟩, ⟨.t 48, none, (.call 58), [.t 47]⟩, ⟨.t 49, none, (.build [(.i .i64 0), (.i .i64 0), (.i .i64 0), (.sl none 0 0 0)] [(0, 1), (1, 1), (2, 1), (3, 1)]), [.t 41, .t 42, .t 43, .t 48]⟩, ⟨.t 50, none, (.bslice [(.i .i64 0), (.i .i64 0), (.i .i64 0), (.sl none 0 0 0)] 1 4 [0]), [.t 49]⟩, ⟨.l 8, none, .mv, [.t 50]⟩])
 (.seq (.reg [⟨.t 51, none, .mv, [.l 0]⟩, ⟨.t 52, none, .nilchk, [.t 51]⟩, ⟨.t 53, none, (.fad 0), [.t 52]⟩, ⟨.t 54, none, (.ld none), [.t 53]⟩, ⟨.t 55, none, .mv, [.l 10]⟩, ⟨.t 56, none, .nilchk, [.t 55]⟩, ⟨.t 57, none, (.fad 8), [.t 56]⟩, ⟨.t 58, none, (.ld none), [.t 57]⟩, ⟨.t 59, none, (.call 59), [.t 54, .t 58]⟩])
 (.seq (.seq (.reg [⟨.t 60, none, .mv, [.l 0]⟩, ⟨.t 61, none, .nilchk, [.t 60]⟩, ⟨.t 62, none, (.fad 1), [.t 61]⟩, ⟨.t 63, none, (.ld none), [.t 62]⟩, ⟨.t 64, none, .mv, [.l 10]⟩, ⟨.t 65, none, .nilchk, [.t 64]⟩, ⟨.t 66, none, (.fad 0), [.t 65]⟩, ⟨.t 67, none, (.ld none), [.t 66]⟩, ⟨.l 68, none, (.call 60), [.t 63, .t 67]⟩, ⟨.l 69, none, .lenSl, [.l 68]⟩, ⟨.l 70, none, .mv, [.c (.i .i64 0)]⟩])
 (.block 0 (.loop (.seq (.reg [⟨.t 71, none, (.bin .lss), [.l 70, .l 69]⟩])
 (.seq (.cond (.t 71) .skip (.exit 0))
 (.seq (.block 1 (.seq (.reg [⟨.t 72, none, (.iad 1), [.l 68, .l 70]⟩, ⟨.t 73, none, (.ld none), [.t 72]⟩, ⟨.l 12, none, .mv, [.t 73]⟩])
 (.seq (.reg [⟨.t 74, none, .mv, [.l 0]⟩, ⟨.t 75, none, .nilchk, [.t 74]⟩, ⟨.t 76, none, (.fad 4), [.t 75]⟩, ⟨.t 77, none, (.ld none), [.t 76]⟩, ⟨.t 78, none, .mv, [.l 12]⟩, ⟨.t 79, none, (.lkup (.i .i64 0) false), [.t 77, .t 78]⟩, ⟨.l 13, none, .mv, [.t 79]⟩])
 (.seq (.seq (.reg [⟨.t 80, none, .mv, [.l 13]⟩, ⟨.t 81, none, (.bin .lss), [.t 80, .c (.i .i64 0)]⟩])
 (.cond (.t 81) (.seq (.reg [⟨.t 82, none, .mv, [.l 9]⟩, ⟨.t 83, none, .mv, [.l 0]⟩, ⟨.t 84, none, .mv, [.l 13]⟩, ⟨.t 85, none, (.un .neg), [.t 84]⟩, ⟨.t 86, none, (.bin .sub), [.t 85, .c (.i .i64 1)]⟩, ⟨.t 87, none, (.call 41), [.t 83, .t 86]⟩, ⟨.t 88, none, (.bslice [(.i .i64 0), (.i .i64 0)] 1 2 [0]), [.t 87]⟩, ⟨.t 89, none, (.app 2 16), [.t 82, .t 88]⟩, ⟨.l 9, none, .mv, [.t 89]⟩])
 (.exit 1)) .skip))
 (.seq (.reg [⟨.t 91, none, .mv, [.l 0]⟩, ⟨.t 92, none, .mv, [.l 13]⟩, ⟨.t 93, none, .mv, [.l 2]⟩, ⟨.t 94, none, .mv, [.l 3]⟩, ⟨.t 95, none, (.call 39), [.t 91, .t 92, .t 93, .t 94]⟩, ⟨.t 90, none, .mv, [.t 95]⟩, ⟨.t 96, none, (.ext 0), [.t 90]⟩, ⟨.t 97, none, (.ext 1), [.t 90]⟩, ⟨.l 14, none, .mv, [.t 96]⟩, ⟨.l 15, none, .mv, [.t 97]⟩])
 (.reg [⟨.t 98, none, .mv, [.l 8]⟩, ⟨.t 99, none, .mv, [.l 14]⟩, ⟨.t 100, none, (.app 4 48), [.t 98, .t 99]⟩, ⟨.t 101, none, .mv, [.l 9]⟩, ⟨.t 102, none, .mv, [.l 15]⟩, ⟨.t 103, none, (.app 2 16), [.t 101, .t 102]⟩, ⟨.l 8, none, .mv, [.t 100]⟩, ⟨.l 9, none, .mv, [.t 103]⟩]))))))
 (.reg [⟨.t 104, none, (.bin .add), [.l 70, .c (.i .i64 1)]⟩, ⟨.l 70, none, .mv, [.t 104]⟩])))))))
 (.seq (.reg [⟨.t 105, none, .mv, [.l 0]⟩, ⟨.t 106, none, .nilchk, [.t 105]⟩, ⟨.t 107, none, (.fad 1), [.t 106]⟩, ⟨.t 108, none, (.ld none), [.t 107]⟩, ⟨.t 109, none, .mv, [.l 10]⟩, ⟨.t 110, none, .nilchk, [.t 109]⟩, ⟨.t 111, none, (.fad 0), [.t 110]⟩, ⟨.t 112, none, (.ld none), [.t 111]⟩, ⟨.t 113, none, (.call 42), [.t 108, .t 112]⟩])
 (.seq (.reg [⟨.t 114, none, .mv, [.l 8]⟩, ⟨.t 115, none, .mv, [.l 9]⟩, ⟨.l 8, none, .mv, [.t 114]⟩, ⟨.l 9, none, .mv, [.t 115]⟩])
 .ret))))))))), [.tmp (.l 8), .tmp (.l 9)]⟩
/-- (*tarpaulin/tree.Tree).Add -/
def b40 : Nat := 455
def a40 : AFn := ⟨(.seq (.reg [⟨.l 6, none, .mv, [.c (.i .i64 0)]⟩, ⟨.l 7, none, .mv, [.c (.i .i64 0)]⟩])
 (.seq (.block 0 (.seq (.seq (.reg [⟨.t 10, none, .mv, [.l 0]⟩, ⟨.t 11, none, (.eq false .ptr), [.t 10, .c (.p none)]⟩, ⟨.t 9, none, .mv, [.t 11]⟩])
 (.cond (.t 9) .skip (.reg [⟨.t 12, none, .mv, [.l 1]⟩, ⟨.t 13, none, (.bin .neq), [.t 12, .c (.i .i64 (-1))]⟩, ⟨.t 14, none, .mv, [.t 13]⟩, ⟨.t 15, (some (.t 14, true)), .mv, [.l 0]⟩, ⟨.t 16, (some (.t 14, true)), .mv, [.l 1]⟩, ⟨.t 17, (some (.t 14, true)), (.call 61), [.t 15, .t 16]⟩, ⟨.t 18, (some (.t 14, true)), (.un .not), [.t 17]⟩, ⟨.t 19, none, .pick, [.t 14, .t 18, .c (.b false)]⟩, ⟨.t 9, none, .mv, [.t 19]⟩])))
 (.cond (.t 9) (.seq (.reg [⟨.l 6, none, .mv, [.c (.i .i64 0)]⟩, ⟨.l 7, none, .mv, [.c (.i .i64 1)]⟩])
 .ret) (.seq (.reg [⟨.t 21, none, .mv, [.l 0]⟩, ⟨.t 22, none, .nilchk, [.t 21]⟩, ⟨.t 23, none, (.fad 0), [.t 22]⟩, ⟨.t 24, none, (.ld none), [.t 23]⟩, ⟨.t 25, none, .lenSl, [.t 24]⟩, ⟨.t 26, none, (.bin .geq), [.t 25, .c (.i .i64 1000)]⟩, ⟨.t 20, none, .mv, [.t 26]⟩])
 (.cond (.t 20) (.seq (.reg [⟨.l 6, none, .mv, [.c (.i .i64 0)]⟩, ⟨.l 7, none, .mv, [.c (.i .i64 3)]⟩])
 .ret) .skip)))))
 (.seq (.reg [⟨.t 27, none, .mv, [.l 0]⟩, ⟨.t 28, none, .nilchk, [.t 27]⟩, ⟨.t 29, none, (.fad 0), [.t 28]⟩, ⟨.t 30, none, (.ld none), [.t 29]⟩, ⟨.t 31, none, .lenSl, [.t 30]⟩, ⟨.l 8, none, .mv, [.t 31]⟩])
 (.seq (.reg [⟨.t 32, none, .mv, [.l 2]⟩, ⟨.t 33, none, .mv, [.t 32]⟩, ⟨.t 34, (some (.t 33, true)), .mv, [.l 1]⟩, ⟨.t 35, (some (.t 33, true)), (.bin .neq), [.t 34, .c (.i .i64 (-1))]⟩, ⟨.t 36, none, .pick, [.t 33, .t 35, .c (.b false)]⟩, ⟨.l 2, none, .mv, [.t 36]⟩])
 (.seq (.seq (.reg [⟨.t 37, none, .mv, [.l 2]⟩])
 (.cond (.t 37) (.regD [⟨.t 38, none, .mv, [.l 0]⟩, ⟨.t 39, none, .nilchk, [.t 38]⟩, ⟨.t 40, none, (.fad 0), [.t 39]⟩, ⟨.t 41, none, (.ld none), [.t 40]⟩, ⟨.t 42, none, .mv, [.l 1]⟩, ⟨.t 43, none, .mv, [.l 0]⟩, ⟨.t 44, none, .nilchk, [.t 43]⟩, ⟨.t 45, none, (.fad 0), [.t 44]⟩, ⟨.t 46, none, (.ld none), [.t 45]⟩, ⟨.t 47, none, .mv, [.l 1]⟩, ⟨.t 48, none, (.iad 3), [.t 46, .t 47]⟩, ⟨.t 49, none, (.fad 2), [.t 48]⟩, ⟨.t 50, none, (.ld none), [.t 49]⟩, ⟨.t 51, none, .mv, [.l 8]⟩, ⟨.t 52, none, (.bslice [(.i .i64 0)] 1 1 [0]), [.t 51]⟩, ⟨.t 53, none, (.app 1 8), [.t 50, .t 52]⟩, ⟨.t 54, none, (.iad 3), [.t 41, .t 42]⟩, ⟨.t 55, none, (.fad 2), [.t 54]⟩, ⟨.no, none, (.st 1), [.t 55, .t 53]⟩] [(3, 16)]) .skip))
 (.seq (.reg [⟨.t 56, none, .mv, [.l 0]⟩, ⟨.t 57, none, .mv, [.l 0]⟩, ⟨.t 58, none, .nilchk, [.t 57]⟩, ⟨.t 59, none, (.fad 0), [.t 58]⟩, ⟨.t 60, none, (.ld none), [.t 59]⟩, ⟨.t 61, none, .mv, [.l 1]⟩, ⟨.t 62, none, .mv, [.l 2]⟩, ⟨.t 63, none, (.build [(.i .i64 0), (.b false), (.sl none 0 0 0)] [(0, 1), (1, 1)]), [.t 61, .t 62]⟩, ⟨.t 64, none, (.bslice [(.i .i64 0), (.b false), (.sl none 0 0 0)] 1 3 [0]), [.t 63]⟩, ⟨.t 65, none, (.app 3 40), [.t 60, .t 64]⟩, ⟨.t 66, none, .nilchk, [.t 56]⟩, ⟨.t 67, none, (.fad 0), [.t 66]⟩, ⟨.no, none, (.st 1), [.t 67, .t 65]⟩])
 (.seq (.reg [⟨.t 68, none, .mv, [.l 8]⟩, ⟨.l 6, none, .mv, [.t 68]⟩, ⟨.l 7, none, .mv, [.c (.i .i64 0)]⟩])
 .ret))))))), [.tmp (.l 6), .tmp (.l 7)]⟩
/-- (*tarpaulin/ctx.Set).start -/
def b41 : Nat := 51
def a41 : AFn := ⟨(.seq (.reg [⟨.l 4, none, (.alloc [(.i .i64 0), (.i .i64 0)]), []⟩])
 (.seq (.reg [⟨.t 6, none, .mv, [.l 0]⟩, ⟨.t 7, none, .nilchk, [.t 6]⟩, ⟨.t 8, none, (.fad 3), [.t 7]⟩, ⟨.t 9, none, (.ld none), [.t 8]⟩, ⟨.t 10, none, .mv, [.l 1]⟩, ⟨.t 11, none, (.iad 3), [.t 9, .t 10]⟩, ⟨.l 5, none, .mv, [.t 11]⟩])
 (.seq (.reg [⟨.t 12, none, .mv, [.l 5]⟩, ⟨.t 13, none, .nilchk, [.t 12]⟩, ⟨.t 14, none, (.fad 2), [.t 13]⟩, ⟨.no, none, (.st 1), [.t 14, .c (.b true)]⟩])
 (.seq (.reg [⟨.t 15, none, .mv, [.l 0]⟩, ⟨.t 16, none, .nilchk, [.t 15]⟩, ⟨.t 17, none, (.fad 1), [.t 16]⟩, ⟨.t 18, none, (.ld none), [.t 17]⟩, ⟨.t 19, none, .mv, [.l 5]⟩, ⟨.t 20, none, .nilchk, [.t 19]⟩, ⟨.t 21, none, (.fad 0), [.t 20]⟩, ⟨.t 22, none, (.ld none), [.t 21]⟩, ⟨.t 23, none, (.call 42), [.t 18, .t 22]⟩])
 (.seq (.reg [⟨.t 24, none, .mv, [.l 1]⟩, ⟨.t 25, none, .mv, [.l 5]⟩, ⟨.t 26, none, .nilchk, [.t 25]⟩, ⟨.t 27, none, (.fad 1), [.t 26]⟩, ⟨.t 28, none, (.ld none), [.t 27]⟩, ⟨.t 29, none, (.build [(.i .i64 0), (.i .i64 0)] [(0, 1), (1, 1)]), [.t 24, .t 28]⟩, ⟨.no, none, (.st 2), [.l 4, .t 29]⟩])
 .ret))))), [.cell (.l 4) (some 2)]⟩
/-- (*tarpaulin/tree.Tree).Detach -/
def b42 : Nat := 115
def a42 : AFn := ⟨(.seq (.reg [⟨.l 4, none, .mv, [.c (.b false)]⟩])
 (.seq (.seq (.reg [⟨.t 7, none, .mv, [.l 0]⟩, ⟨.t 8, none, .mv, [.l 1]⟩, ⟨.t 9, none, (.call 61), [.t 7, .t 8]⟩, ⟨.t 10, none, (.un .not), [.t 9]⟩, ⟨.t 11, none, .mv, [.t 10]⟩, ⟨.t 12, (some (.t 11, false)), .mv, [.l 0]⟩, ⟨.t 13, (some (.t 11, false)), .nilchk, [.t 12]⟩, ⟨.t 14, (some (.t 11, false)), (.fad 0), [.t 13]⟩, ⟨.t 15, (some (.t 11, false)), (.ld none), [.t 14]⟩, ⟨.t 16, (some (.t 11, false)), .mv, [.l 1]⟩, ⟨.t 17, (some (.t 11, false)), (.iad 3), [.t 15, .t 16]⟩, ⟨.t 18, (some (.t 11, false)), (.fad 1), [.t 17]⟩, ⟨.t 19, (some (.t 11, false)), (.ld none), [.t 18]⟩, ⟨.t 20, (some (.t 11, false)), (.un .not), [.t 19]⟩, ⟨.t 21, none, .pick, [.t 11, .c (.b true), .t 20]⟩])
 (.cond (.t 21) (.seq (.reg [⟨.l 4, none, .mv, [.c (.b false)]⟩])
 .ret) .skip))
 (.seq (.reg [⟨.t 22, none, .mv, [.l 0]⟩, ⟨.t 23, none, .nilchk, [.t 22]⟩, ⟨.t 24, none, (.fad 0), [.t 23]⟩, ⟨.t 25, none, (.ld none), [.t 24]⟩, ⟨.t 26, none, .mv, [.l 1]⟩, ⟨.t 27, none, (.iad 3), [.t 25, .t 26]⟩, ⟨.t 28, none, (.fad 1), [.t 27]⟩, ⟨.no, none, (.st 1), [.t 28, .c (.b false)]⟩])
 (.seq (.reg [⟨.t 29, none, .mv, [.l 0]⟩, ⟨.t 30, none, .nilchk, [.t 29]⟩, ⟨.t 31, none, (.fad 0), [.t 30]⟩, ⟨.t 32, none, (.ld none), [.t 31]⟩, ⟨.t 33, none, .mv, [.l 0]⟩, ⟨.t 34, none, .nilchk, [.t 33]⟩, ⟨.t 35, none, (.fad 0), [.t 34]⟩, ⟨.t 36, none, (.ld none), [.t 35]⟩, ⟨.t 37, none, .mv, [.l 1]⟩, ⟨.t 38, none, (.iad 3), [.t 36, .t 37]⟩, ⟨.t 39, none, (.fad 0), [.t 38]⟩, ⟨.t 40, none, (.ld none), [.t 39]⟩, ⟨.t 41, none, (.iad 3), [.t 32, .t 40]⟩, ⟨.l 5, none, .mv, [.t 41]⟩])
 (.seq (.reg [⟨.t 42, none, .mv, [.l 5]⟩, ⟨.t 43, none, .nilchk, [.t 42]⟩, ⟨.t 44, none, (.fad 2), [.t 43]⟩, ⟨.t 45, none, (.ld none), [.t 44]⟩, ⟨.t 46, none, .mv, [.l 1]⟩, ⟨.t 47, none, (.call 62), [.t 45, .t 46]⟩, ⟨.l 6, none, .mv, [.t 47]⟩])
 (.seq (.reg [⟨.t 48, none, .mv, [.l 5]⟩, ⟨.t 49, none, .mv, [.l 5]⟩, ⟨.t 50, none, .nilchk, [.t 49]⟩, ⟨.t 51, none, (.fad 2), [.t 50]⟩, ⟨.t 52, none, (.ld none), [.t 51]⟩, ⟨.t 53, none, .mv, [.l 6]⟩, ⟨.t 54, none, .mv, [.l 6]⟩, ⟨.t 55, none, (.bin .add), [.t 54, .c (.i .i64 1)]⟩, ⟨.t 56, none, (.call 63), [.t 52, .t 53, .t 55]⟩, ⟨.t 57, none, .nilchk, [.t 48]⟩, ⟨.t 58, none, (.fad 2), [.t 57]⟩, ⟨.no, none, (.st 1), [.t 58, .t 56]⟩])
 (.seq (.reg [⟨.l 4, none, .mv, [.c (.b true)]⟩])
 .ret))))))), [.tmp (.l 4)]⟩
/-- tarpaulin/clock.Add -/
def b43 : Nat := 19
def a43 : AFn := ⟨(.seq (.reg [⟨.l 4, none, .mv, [.c (.i .i64 0)]⟩])
 (.seq (.reg [⟨.t 5, none, .mv, [.l 0]⟩, ⟨.t 6, none, (.call 64), [.t 5]⟩, ⟨.t 7, none, .mv, [.l 1]⟩, ⟨.t 8, none, (.call 64), [.t 7]⟩, ⟨.l 0, none, .mv, [.t 6]⟩, ⟨.l 1, none, .mv, [.t 8]⟩])
 (.seq (.block 0 (.seq (.reg [⟨.t 10, none, .mv, [.l 1]⟩, ⟨.t 11, none, (.bin .gtr), [.t 10, .c (.i .i64 0)]⟩, ⟨.t 12, none, .mv, [.t 11]⟩, ⟨.t 13, (some (.t 12, true)), .mv, [.l 0]⟩, ⟨.t 14, (some (.t 12, true)), .mv, [.l 1]⟩, ⟨.t 15, (some (.t 12, true)), (.bin .sub), [.c (.i .i64 4611686018427387904), .t 14]⟩, ⟨.t 16, (some (.t 12, true)), (.bin .gtr), [.t 13, .t 15]⟩, ⟨.t 17, none, .pick, [.t 12, .t 16, .c (.b false)]⟩, ⟨.t 9, none, .mv, [.t 17]⟩])
 (.cond (.t 9) (.seq (.reg [⟨.l 4, none, .mv, [.c (.i .i64 4611686018427387904)]⟩])
 .ret) (.seq (.reg [⟨.t 19, none, .mv, [.l 1]⟩, ⟨.t 20, none, (.bin .lss), [.t 19, .c (.i .i64 0)]⟩, ⟨.t 21, none, .mv, [.t 20]⟩, ⟨.t 22, (some (.t 21, true)), .mv, [.l 0]⟩, ⟨.t 23, (some (.t 21, true)), .mv, [.l 1]⟩, ⟨.t 24, (some (.t 21, true)), (.bin .sub), [.c (.i .i64 (-4611686018427387904)), .t 23]⟩, ⟨.t 25, (some (.t 21, true)), (.bin .lss), [.t 22, .t 24]⟩, ⟨.t 26, none, .pick, [.t 21, .t 25, .c (.b false)]⟩, ⟨.t 18, none, .mv, [.t 26]⟩])
 (.cond (.t 18) (.seq (.reg [⟨.l 4, none, .mv, [.c (.i .i64 (-4611686018427387904))]⟩])
 .ret) .skip)))))
 (.seq (.reg [⟨.t 27, none, .mv, [.l 0]⟩, ⟨.t 28, none, .mv, [.l 1]⟩, ⟨.t 29, none, (.bin .add), [.t 27, .t 28]⟩, ⟨.l 4, none, .mv, [.t 29]⟩])
 .ret)))), [.tmp (.l 4)]⟩
/-- (*tarpaulin/timer.Set).Lapse -/
def b44 : Nat := 199
def a44 : AFn := ⟨(.seq (.reg [⟨.l 6, none, .mv, [.c (.i .i64 0)]⟩, ⟨.l 7, none, .mv, [.c (.i .i64 0)]⟩])
 (.seq (.reg [⟨.t 8, none, .mv, [.l 0]⟩, ⟨.t 9, none, .mv, [.l 2]⟩, ⟨.t 10, none, (.build [(.i .i64 0), (.i .i64 0), (.p none), (.i .i64 0)] [(0, 1), (1, 1)]), [.c (.i .i64 4), .t 9]⟩, ⟨.t 11, none, .mv, [.l 1]⟩, ⟨.t 12, none, (.call 65), [.t 8, .t 10, .c (.i .i64 0), .t 11]⟩, ⟨.t 13, none, (.ext 0), [.t 12]⟩, ⟨.t 14, none, (.ext 1), [.t 12]⟩, ⟨.l 6, none, .mv, [.t 13]⟩, ⟨.l 7, none, .mv, [.t 14]⟩])
 .ret)), [.tmp (.l 6), .tmp (.l 7)]⟩
/-- (*tarpaulin/chanq.Chan).Mute -/
def b45 : Nat := 5
def a45 : AFn := ⟨(.seq (.reg [⟨.l 2, none, .mv, [.c (.b false)]⟩])
 (.seq (.reg [⟨.t 3, none, .mv, [.l 0]⟩, ⟨.t 4, none, (.eq true .ptr), [.t 3, .c (.p none)]⟩, ⟨.t 5, none, .mv, [.t 4]⟩, ⟨.t 6, (some (.t 5, true)), .mv, [.l 0]⟩, ⟨.t 7, (some (.t 5, true)), .nilchk, [.t 6]⟩, ⟨.t 8, (some (.t 5, true)), (.fad 3), [.t 7]⟩, ⟨.t 9, (some (.t 5, true)), (.ld none), [.t 8]⟩, ⟨.t 10, (some (.t 5, true)), .mv, [.t 9]⟩, ⟨.t 11, (some (.t 10, false)), .mv, [.l 0]⟩, ⟨.t 12, (some (.t 10, false)), .nilchk, [.t 11]⟩, ⟨.t 13, (some (.t 10, false)), (.fad 4), [.t 12]⟩, ⟨.t 14, (some (.t 10, false)), (.ld none), [.t 13]⟩, ⟨.t 15, (some (.t 5, true)), .pick, [.t 10, .c (.b true), .t 14]⟩, ⟨.t 16, none, .pick, [.t 5, .t 15, .c (.b false)]⟩, ⟨.l 2, none, .mv, [.t 16]⟩])
 .ret)), [.tmp (.l 2)]⟩
/-- (*tarpaulin/chanq.Chan).Wait$1 -/
def b46 : Nat := 15
def a46 : AFn := ⟨(.seq (.reg [⟨.l 2, none, .box, [.l 0]⟩, ⟨.l 3, none, .mv, [.c (.b false)]⟩])
 (.seq (.reg [⟨.t 4, none, (.fad 0), [.l 2]⟩, ⟨.t 5, none, (.ld none), [.t 4]⟩, ⟨.t 6, none, (.fad 0), [.l 1]⟩, ⟨.t 7, none, (.ld none), [.t 6]⟩, ⟨.t 8, none, (.bin .neq), [.t 5, .t 7]⟩, ⟨.l 3, none, .mv, [.t 8]⟩])
 .ret)), [.tmp (.l 3)]⟩
/-- (*tarpaulin/chanq.Chan).free -/
def b47 : Nat := 19
def a47 : AFn := ⟨(.seq (.reg [⟨.l 4, none, .mv, [.c (.b false)]⟩])
 (.seq (.seq (.reg [⟨.t 5, none, .mv, [.l 1]⟩])
 (.cond (.t 5) (.seq (.regD [⟨.t 6, none, .mv, [.l 0]⟩, ⟨.t 7, none, .nilchk, [.t 6]⟩, ⟨.t 8, none, (.fad 0), [.t 7]⟩, ⟨.t 9, none, (.ld none), [.t 8]⟩, ⟨.t 10, none, (.call 66), [.t 9]⟩, ⟨.t 11, none, .mv, [.l 0]⟩, ⟨.t 12, none, .nilchk, [.t 11]⟩, ⟨.t 13, none, (.fad 0), [.t 12]⟩, ⟨.t 14, none, (.ld none), [.t 13]⟩, ⟨.t 15, none, (.call 67), [.t 14]⟩, ⟨.t 16, none, (.bin .lss), [.t 10, .t 15]⟩, ⟨.l 4, none, .mv, [.t 16]⟩] [(8, 0)])
 .ret) .skip))
 (.seq (.reg [⟨.t 17, none, .mv, [.l 0]⟩, ⟨.t 18, none, .nilchk, [.t 17]⟩, ⟨.t 19, none, (.fad 0), [.t 18]⟩, ⟨.t 20, none, (.ld none), [.t 19]⟩, ⟨.t 21, none, (.call 66), [.t 20]⟩, ⟨.t 22, none, (.bin .gtr), [.t 21, .c (.i .i64 0)]⟩, ⟨.l 4, none, .mv, [.t 22]⟩])
 .ret))), [.tmp (.l 4)]⟩
/-- slices.ContainsFunc[[]tarpaulin/api.Wait,tarpaulin/api.Wait] -/
def b48 : Nat := 19
def a48 : AFn := ⟨(.seq (.reg [⟨.l 4, none, .mv, [.c (.b false)]⟩])
 (.seq (.reg [⟨.t 5, none, .mv, [.l 0]⟩, ⟨.t 6, none, .mv, [.l 1]⟩, ⟨.t 7, none, (.call 68), [.t 5, .t 6]⟩, ⟨.t 8, none, (.bin .geq), [.t 7, .c (.i .i64 0)]⟩, ⟨.l 4, none, .mv, [.t 8]⟩])
 .ret)), [.tmp (.l 4)]⟩
/-- (*tarpaulin/chanq.Chan).queue -/
def b49 : Nat := 19
def a49 : AFn := ⟨(.seq (.reg [⟨.l 4, none, .mv, [.c (.p none)]⟩])
 (.seq (.block 0 (.seq (.reg [⟨.t 6, none, .mv, [.l 0]⟩, ⟨.t 7, none, (.eq false .ptr), [.t 6, .c (.p none)]⟩, ⟨.t 5, none, .mv, [.t 7]⟩])
 (.cond (.t 5) (.seq (.reg [⟨.l 4, none, .mv, [.c (.p none)]⟩])
 .ret) (.seq (.reg [⟨.t 9, none, .mv, [.l 1]⟩, ⟨.t 8, none, .mv, [.t 9]⟩])
 (.cond (.t 8) (.seq (.reg [⟨.t 10, none, .mv, [.l 0]⟩, ⟨.t 11, none, .nilchk, [.t 10]⟩, ⟨.t 12, none, (.fad 2), [.t 11]⟩, ⟨.t 13, none, (.ld none), [.t 12]⟩, ⟨.l 4, none, .mv, [.t 13]⟩])
 .ret) .skip)))))
 (.seq (.reg [⟨.t 14, none, .mv, [.l 0]⟩, ⟨.t 15, none, .nilchk, [.t 14]⟩, ⟨.t 16, none, (.fad 1), [.t 15]⟩, ⟨.t 17, none, (.ld none), [.t 16]⟩, ⟨.l 4, none, .mv, [.t 17]⟩])
 .ret))), [.tmp (.l 4)]⟩
/-- (*tarpaulin/wait.Queue).Push -/
def b50 : Nat := 59
def a50 : AFn := ⟨(.seq (.reg [⟨.l 3, none, .box, [.l 1]⟩, ⟨.l 4, none, .mv, [.c (.i .i64 0)]⟩])
 (.seq (.seq (.reg [⟨.t 6, none, .mv, [.l 0]⟩, ⟨.t 7, none, (.eq false .ptr), [.t 6, .c (.p none)]⟩])
 (.cond (.t 7) (.seq (.reg [⟨.l 4, none, .mv, [.c (.i .i64 0)]⟩])
 .ret) .skip))
 (.seq (.reg [⟨.t 8, none, (.ld (some 3)), [.l 3]⟩, ⟨.t 9, none, .mv, [.l 0]⟩, ⟨.t 10, none, .nilchk, [.t 9]⟩, ⟨.t 11, none, (.fad 1), [.t 10]⟩, ⟨.t 12, none, (.ld none), [.t 11]⟩, ⟨.t 13, none, (.build [(.i .i64 0), (.i .i64 0), (.i .i64 0), (.p none), (.p none)] [(0, 3), (3, 1)]), [.t 8, .t 12]⟩, ⟨.t 14, none, .box, [.t 13]⟩, ⟨.l 5, none, .mv, [.t 14]⟩])
 (.seq (.seq (.reg [⟨.t 15, none, .mv, [.l 0]⟩, ⟨.t 16, none, .nilchk, [.t 15]⟩, ⟨.t 17, none, (.fad 1), [.t 16]⟩, ⟨.t 18, none, (.ld none), [.t 17]⟩, ⟨.t 19, none, (.eq false .ptr), [.t 18, .c (.p none)]⟩])
 (.cond (.t 19) (.reg [⟨.t 20, none, .mv, [.l 0]⟩, ⟨.t 21, none, .mv, [.l 5]⟩, ⟨.t 22, none, .nilchk, [.t 20]⟩, ⟨.t 23, none, (.fad 0), [.t 22]⟩, ⟨.no, none, (.st 1), [.t 23, .t 21]⟩]) (.reg [⟨.t 24, none, .mv, [.l 0]⟩, ⟨.t 25, none, .nilchk, [.t 24]⟩, ⟨.t 26, none, (.fad 1), [.t 25]⟩, ⟨.t 27, none, (.ld none), [.t 26]⟩, ⟨.t 28, none, .mv, [.l 5]⟩, ⟨.t 29, none, .nilchk, [.t 27]⟩, ⟨.t 30, none, (.fad 4), [.t 29]⟩, ⟨.no, none, (.st 1), [.t 30, .t 28]⟩])))
 (.seq (.reg [⟨.t 31, none, .mv, [.l 0]⟩, ⟨.t 32, none, .mv, [.l 5]⟩, ⟨.t 33, none, .nilchk, [.t 31]⟩, ⟨.t 34, none, (.fad 1), [.t 33]⟩, ⟨.no, none, (.st 1), [.t 34, .t 32]⟩])
 (.seq (.reg [⟨.t 35, none, .mv, [.l 0]⟩, ⟨.t 36, none, .nilchk, [.t 35]⟩, ⟨.t 37, none, (.fad 2), [.t 36]⟩, ⟨.t 38, none, (.ld none), [.t 37]⟩, ⟨.t 39, none, (.bin .add), [.t 38, .c (.i .i64 1)]⟩, ⟨.t 40, none, .nilchk, [.t 35]⟩, ⟨.t 41, none, (.fad 2), [.t 40]⟩, ⟨.no, none, (.st 1), [.t 41, .t 39]⟩])
 (.seq (.reg [⟨.t 42, none, .mv, [.l 0]⟩, ⟨.t 43, none, .nilchk, [.t 42]⟩, ⟨.t 44, none, (.fad 2), [.t 43]⟩, ⟨.t 45, none, (.ld none), [.t 44]⟩, ⟨.l 4, none, .mv, [.t 45]⟩])
 .ret))))))), [.tmp (.l 4)]⟩
/-- (*tarpaulin/wait.Queue).All -/
def b51 : Nat := 13
def a51 : AFn := ⟨(.seq (.reg [⟨.l 2, none, .mv, [.c (.sl none 0 0 0)]⟩])
 (.seq (.seq (.reg [⟨.t 4, none, .mv, [.l 0]⟩, ⟨.t 5, none, (.eq false .ptr), [.t 4, .c (.p none)]⟩])
 (.cond (.t 5) (.seq (.reg [⟨.l 2, none, .mv, [.c (.sl none 0 0 0)]⟩])
 .ret) .skip))
 (.seq (.seq (.reg [⟨.t 6, none, .mv, [.l 0]⟩, ⟨.t 7, none, .nilchk, [.t 6]⟩, ⟨.t 8, none, (.fad 0), [.t 7]⟩, ⟨.t 9, none, (.ld none), [.t 8]⟩, ⟨.l 3, none, .mv, [.t 9]⟩])
 (.block 0 (.loop (.seq (.seq (.reg [⟨.t 10, none, .mv, [.l 3]⟩, ⟨.t 11, none, (.eq true .ptr), [.t 10, .c (.p none)]⟩])
 (.cond (.t 11) .skip (.exit 0)))
 (.seq (.block 1 (.reg [⟨.t 16, none, .mv, [.l 2]⟩, ⟨.t 17, none, .mv, [.l 3]⟩, ⟨.t 18, none, .nilchk, [.t 17]⟩, ⟨.t 19, none, (.fad 0), [.t 18]⟩, ⟨.t 20, none, (.ld (some 3)), [.t 19]⟩, ⟨.t 21, none, (.bslice [(.i .i64 0), (.i .i64 0), (.i .i64 0)] 1 3 [0]), [.t 20]⟩, ⟨.t 22, none, (.app 3 24), [.t 16, .t 21]⟩, ⟨.l 2, none, .mv, [.t 22]⟩]))
 (.reg [⟨.t 12, none, .mv, [.l 3]⟩, ⟨.t 13, none, .nilchk, [.t 12]⟩, ⟨.t 14, none, (.fad 4), [.t 13]⟩, ⟨.t 15, none, (.ld none), [.t 14]⟩, ⟨.l 3, none, .mv, [.t 15]⟩]))))))
 (.seq (.reg [⟨.t 23, none, .mv, [.l 2]⟩, ⟨.l 2, none, .mv, [.t 23]⟩])
 .ret)))), [.tmp (.l 2)]⟩
/-- (*tarpaulin/expire.Timers).Take -/
def b52 : Nat := 7667
def a52 : AFn := ⟨(.seq (.reg [⟨.l 4, none, (.alloc [(.i .i64 0), (.i .i64 0), (.i .i64 0)]), []⟩, ⟨.l 5, none, .mv, [.c (.b false)]⟩])
 (.seq (.reg [⟨.t 14, none, .mv, [.l 0]⟩, ⟨.t 15, none, (.call 54), [.t 14]⟩, ⟨.t 13, none, .mv, [.t 15]⟩, ⟨.t 16, none, (.ext 0), [.t 13]⟩, ⟨.t 17, none, (.ext 1), [.t 13]⟩, ⟨.l 6, none, .mv, [.t 16]⟩, ⟨.l 7, none, .mv, [.t 17]⟩])
 (.seq (.seq (.reg [⟨.t 18, none, .mv, [.l 7]⟩, ⟨.t 19, none, (.un .not), [.t 18]⟩, ⟨.t 20, none, .mv, [.t 19]⟩, ⟨.t 21, (some (.t 20, false)), .mv, [.l 1]⟩, ⟨.t 22, (some (.t 20, false)), (.bin .lss), [.t 21, .c (.i .i64 0)]⟩, ⟨.t 23, none, .pick, [.t 20, .c (.b true), .t 22]⟩, ⟨.t 24, none, .mv, [.t 23]⟩, ⟨.t 25, (some (.t 24, false)), .mv, [.l 6]⟩, ⟨.t 26, (some (.t 24, false)), .mv, [.l 1]⟩, ⟨.t 27, (some (.t 24, false)), (.bin .gtr), [.t 25, .t 26]⟩, ⟨.t 28, none, .pick, [.t 24, .c (.b true), .t 27]⟩])
 (.cond (.t 28) (.seq (.reg [⟨.t 29, none, (.build [(.i .i64 0), (.i .i64 0), (.i .i64 0)] []), []⟩, ⟨.no, none, (.st 3), [.l 4, .t 29]⟩, ⟨.l 5, none, .mv, [.c (.b false)]⟩])
 .ret) .skip))
 (.seq (.reg [⟨.t 31, none, .mv, [.l 0]⟩, ⟨.t 32, none, .nilchk, [.t 31]⟩, ⟨.t 33, none, (.fad 0), [.t 32]⟩, ⟨.t 34, none, (.ld none), [.t 33]⟩, ⟨.t 35, none, (.call 69), [.t 34]⟩, ⟨.t 30, none, .mv, [.t 35]⟩, ⟨.t 36, none, (.ext 0), [.t 30]⟩, ⟨.t 37, none, (.ext 1), [.t 30]⟩, ⟨.l 8, none, (.alloc [(.i .i64 0), (.i .i64 0), (.i .i64 0)]), []⟩, ⟨.no, none, (.st 3), [.l 8, .t 36]⟩, ⟨.t 9, none, .mv, [.t 37]⟩])
 (.seq (.reg [⟨.t 38, none, .mv, [.l 0]⟩, ⟨.t 39, none, .nilchk, [.t 38]⟩, ⟨.t 40, none, (.fad 1), [.t 39]⟩, ⟨.t 41, none, (.ld none), [.t 40]⟩, ⟨.t 42, none, (.fad 0), [.l 8]⟩, ⟨.t 43, none, (.ld none), [.t 42]⟩, ⟨.t 44, none, (.lkup (.i .i64 0) false), [.t 41, .t 43]⟩, ⟨.l 10, none, .mv, [.t 44]⟩])
 (.seq (.reg [⟨.t 45, none, .mv, [.l 0]⟩, ⟨.t 46, none, .nilchk, [.t 45]⟩, ⟨.t 47, none, (.fad 1), [.t 46]⟩, ⟨.t 48, none, (.ld none), [.t 47]⟩, ⟨.t 49, none, (.fad 0), [.l 8]⟩, ⟨.t 50, none, (.ld none), [.t 49]⟩, ⟨.no, none, .mdel, [.t 48, .t 50]⟩])
 (.seq (.seq (.reg [⟨.t 52, none, .mv, [.l 6]⟩, ⟨.t 53, none, .mv, [.l 10]⟩, ⟨.t 54, none, .mv, [.l 1]⟩, ⟨.t 55, none, (.call 70), [.t 52, .t 53, .t 54]⟩, ⟨.t 51, none, .mv, [.t 55]⟩, ⟨.t 56, none, (.ext 0), [.t 51]⟩, ⟨.t 57, none, (.ext 1), [.t 51]⟩, ⟨.l 11, none, .mv, [.t 56]⟩, ⟨.l 12, none, .mv, [.t 57]⟩])
 (.seq (.reg [⟨.t 58, none, .mv, [.l 12]⟩, ⟨.t 59, none, (.bin .eql), [.t 58, .c (.i .i64 0)]⟩, ⟨.t 60, none, .mv, [.t 59]⟩, ⟨.t 61, (some (.t 60, true)), .mv, [.l 11]⟩, ⟨.t 62, (some (.t 60, true)), .mv, [.l 1]⟩, ⟨.t 63, (some (.t 60, true)), (.bin .gtr), [.t 61, .t 62]⟩, ⟨.t 64, none, .pick, [.t 60, .t 63, .c (.b false)]⟩])
 (.cond (.t 64) (.reg [⟨.t 65, none, .mv, [.l 0]⟩, ⟨.t 66, none, (.fad 0), [.l 8]⟩, ⟨.t 67, none, (.ld none), [.t 66]⟩, ⟨.t 68, none, .mv, [.l 11]⟩, ⟨.t 69, none, .mv, [.l 10]⟩, ⟨.t 70, none, (.call 71), [.t 65, .t 67, .t 68, .t 69]⟩]) .skip)))
 (.seq (.reg [⟨.t 71, none, (.fad 0), [.l 8]⟩, ⟨.t 72, none, (.ld none), [.t 71]⟩, ⟨.t 73, none, .mv, [.l 6]⟩, ⟨.t 74, none, .mv, [.l 1]⟩, ⟨.t 75, none, (.build [(.i .i64 0), (.i .i64 0), (.i .i64 0)] [(0, 1), (1, 1), (2, 1)]), [.t 72, .t 73, .t 74]⟩, ⟨.no, none, (.st 3), [.l 4, .t 75]⟩, ⟨.l 5, none, .mv, [.c (.b true)]⟩])
 .ret)))))))), [.cell (.l 4) (some 3), .tmp (.l 5)]⟩
/-- (*tarpaulin/chanq.Chan).Put -/
def b53 : Nat := 51
def a53 : AFn := ⟨(.seq (.reg [⟨.l 4, none, .mv, [.c (.sl none 0 0 0)]⟩, ⟨.l 5, none, .mv, [.c (.b false)]⟩])
 (.seq (.seq (.reg [⟨.t 6, none, .mv, [.l 0]⟩, ⟨.t 7, none, (.eq false .ptr), [.t 6, .c (.p none)]⟩, ⟨.t 8, none, .mv, [.t 7]⟩, ⟨.t 9, (some (.t 8, false)), .mv, [.l 0]⟩, ⟨.t 10, (some (.t 8, false)), .nilchk, [.t 9]⟩, ⟨.t 11, (some (.t 8, false)), (.fad 3), [.t 10]⟩, ⟨.t 12, (some (.t 8, false)), (.ld none), [.t 11]⟩, ⟨.t 13, (some (.t 8, false)), (.un .not), [.t 12]⟩, ⟨.t 14, none, .pick, [.t 8, .c (.b true), .t 13]⟩])
 (.cond (.t 14) (.seq (.reg [⟨.l 4, none, .mv, [.c (.sl none 0 0 0)]⟩, ⟨.l 5, none, .mv, [.c (.b false)]⟩])
 .ret) .skip))
 (.seq (.seq (.reg [⟨.t 15, none, .mv, [.l 0]⟩, ⟨.t 16, none, .mv, [.l 1]⟩, ⟨.t 17, none, (.call 72), [.t 15, .t 16]⟩, ⟨.l 4, none, .mv, [.t 17]⟩])
 (.seq (.reg [⟨.t 18, none, .mv, [.l 4]⟩, ⟨.t 19, none, .lenSl, [.t 18]⟩, ⟨.t 20, none, (.bin .gtr), [.t 19, .c (.i .i64 0)]⟩])
 (.cond (.t 20) (.seq (.reg [⟨.t 21, none, .mv, [.l 4]⟩, ⟨.l 4, none, .mv, [.t 21]⟩, ⟨.l 5, none, .mv, [.c (.b true)]⟩])
 .ret) .skip)))
 (.seq (.reg [⟨.t 22, none, .mv, [.l 0]⟩, ⟨.t 23, none, .nilchk, [.t 22]⟩, ⟨.t 24, none, (.fad 0), [.t 23]⟩, ⟨.t 25, none, (.ld none), [.t 24]⟩, ⟨.t 26, none, .mv, [.l 1]⟩, ⟨.t 27, none, (.call 73), [.t 25, .t 26]⟩, ⟨.l 4, none, .mv, [.c (.sl none 0 0 0)]⟩, ⟨.l 5, none, .mv, [.t 27]⟩])
 .ret)))), [.tmp (.l 4), .tmp (.l 5)]⟩
/-- (*tarpaulin/expire.Timers).Next -/
def b54 : Nat := 61
def a54 : AFn := ⟨(.seq (.reg [⟨.l 2, none, .mv, [.c (.i .i64 0)]⟩, ⟨.l 3, none, .mv, [.c (.b false)]⟩])
 (.seq (.seq (.reg [⟨.t 6, none, .mv, [.l 0]⟩, ⟨.t 7, none, (.eq false .ptr), [.t 6, .c (.p none)]⟩])
 (.cond (.t 7) (.seq (.reg [⟨.l 2, none, .mv, [.c (.i .i64 0)]⟩, ⟨.l 3, none, .mv, [.c (.b false)]⟩])
 .ret) .skip))
 (.seq (.reg [⟨.t 9, none, .mv, [.l 0]⟩, ⟨.t 10, none, .nilchk, [.t 9]⟩, ⟨.t 11, none, (.fad 0), [.t 10]⟩, ⟨.t 12, none, (.ld none), [.t 11]⟩, ⟨.t 13, none, (.call 74), [.t 12]⟩, ⟨.t 8, none, .mv, [.t 13]⟩, ⟨.t 14, none, (.ext 0), [.t 8]⟩, ⟨.t 15, none, (.ext 1), [.t 8]⟩, ⟨.l 4, none, (.alloc [(.i .i64 0), (.i .i64 0), (.i .i64 0)]), []⟩, ⟨.no, none, (.st 3), [.l 4, .t 14]⟩, ⟨.l 5, none, .mv, [.t 15]⟩])
 (.seq (.reg [⟨.t 16, none, (.fad 1), [.l 4]⟩, ⟨.t 17, none, (.ld none), [.t 16]⟩, ⟨.t 18, none, .mv, [.l 5]⟩, ⟨.l 2, none, .mv, [.t 17]⟩, ⟨.l 3, none, .mv, [.t 18]⟩])
 .ret)))), [.tmp (.l 2), .tmp (.l 3)]⟩
/-- tarpaulin/tarpaulinref9.NewCtx -/
def b55 : Nat := 13
def a55 : AFn := ⟨(.seq (.reg [⟨.l 2, none, .mv, [.c (.p none)]⟩])
 (.seq (.reg [⟨.t 4, none, .mv, [.l 0]⟩, ⟨.t 5, none, (.build [(.p none), (.sl none 0 0 0), (.sl none 0 0 0), (.sl none 0 0 0), (.sl none 0 0 0)] [(0, 1)]), [.t 4]⟩, ⟨.t 6, none, .box, [.t 5]⟩, ⟨.l 3, none, .mv, [.t 6]⟩])
 (.seq (.reg [⟨.t 7, none, .mv, [.l 3]⟩, ⟨.t 8, none, (.build [(.b false), (.i .i64 0), (.i .i64 0), (.b false), (.b false), (.i .i64 0), (.i .i64 0), (.i .i64 0), (.b false), (.b false), (.i .i64 0), (.p none)] [(4, 1), (10, 1)]), [.c (.b true), .c (.i .i64 (-1))]⟩, ⟨.t 9, none, (.call 75), [.t 7, .c (.i .i64 (-1)), .c (.b false), .t 8]⟩])
 (.seq (.reg [⟨.t 10, none, .mv, [.l 3]⟩, ⟨.l 2, none, .mv, [.t 10]⟩])
 .ret)))), [.tmp (.l 2)]⟩
/-- tarpaulin/heap.New -/
def b56 : Nat := 1
def a56 : AFn := ⟨(.seq (.reg [⟨.l 0, none, .mv, [.c (.p none)]⟩])
 (.seq (.reg [⟨.t 1, none, .mkmap, []⟩, ⟨.t 2, none, (.build [(.sl none 0 0 0), (.m none), (.i .i64 0)] [(1, 1)]), [.t 1]⟩, ⟨.t 3, none, .box, [.t 2]⟩, ⟨.l 0, none, .mv, [.t 3]⟩])
 .ret)), [.tmp (.l 0)]⟩
/-- tarpaulin/chanq.New -/
def b57 : Nat := 61
def a57 : AFn := ⟨(.seq (.reg [⟨.l 2, none, .mv, [.c (.p none)]⟩, ⟨.l 3, none, .mv, [.c (.i .i64 0)]⟩])
 (.seq (.reg [⟨.t 7, none, .mv, [.l 0]⟩, ⟨.t 8, none, (.call 76), [.t 7]⟩, ⟨.t 6, none, .mv, [.t 8]⟩, ⟨.t 9, none, (.ext 0), [.t 6]⟩, ⟨.t 10, none, (.ext 1), [.t 6]⟩, ⟨.l 4, none, .mv, [.t 9]⟩, ⟨.l 5, none, .mv, [.t 10]⟩])
 (.seq (.seq (.reg [⟨.t 11, none, .mv, [.l 5]⟩, ⟨.t 12, none, (.bin .neq), [.t 11, .c (.i .i64 0)]⟩])
 (.cond (.t 12) (.seq (.reg [⟨.t 13, none, .mv, [.l 5]⟩, ⟨.l 2, none, .mv, [.c (.p none)]⟩, ⟨.l 3, none, .mv, [.t 13]⟩])
 .ret) .skip))
 (.seq (.reg [⟨.t 14, none, .mv, [.l 4]⟩, ⟨.t 15, none, (.call 77), []⟩, ⟨.t 16, none, (.call 77), []⟩, ⟨.t 17, none, (.build [(.p none), (.p none), (.p none), (.b false), (.b false), (.b false)] [(0, 1), (1, 1), (2, 1)]), [.t 14, .t 15, .t 16]⟩, ⟨.t 18, none, .box, [.t 17]⟩, ⟨.l 2, none, .mv, [.t 18]⟩, ⟨.l 3, none, .mv, [.c (.i .i64 0)]⟩])
 .ret)))), [.tmp (.l 2), .tmp (.l 3)]⟩
/-- (*tarpaulin/chanq.Chan).End -/
def b58 : Nat := 5
def a58 : AFn := ⟨(.seq (.reg [⟨.l 2, none, .mv, [.c (.sl none 0 0 0)]⟩])
 (.seq (.seq (.reg [⟨.t 3, none, .mv, [.l 0]⟩, ⟨.t 4, none, (.eq false .ptr), [.t 3, .c (.p none)]⟩, ⟨.t 5, none, .mv, [.t 4]⟩, ⟨.t 6, (some (.t 5, false)), .mv, [.l 0]⟩, ⟨.t 7, (some (.t 5, false)), .nilchk, [.t 6]⟩, ⟨.t 8, (some (.t 5, false)), (.fad 4), [.t 7]⟩, ⟨.t 9, (some (.t 5, false)), (.ld none), [.t 8]⟩, ⟨.t 10, (some (.t 5, false)), (.un .not), [.t 9]⟩, ⟨.t 11, none, .pick, [.t 5, .c (.b true), .t 10]⟩, ⟨.t 12, none, .mv, [.t 11]⟩, ⟨.t 13, (some (.t 12, false)), .mv, [.l 0]⟩, ⟨.t 14, (some (.t 12, false)), .nilchk, [.t 13]⟩, ⟨.t 15, (some (.t 12, false)), (.fad 5), [.t 14]⟩, ⟨.t 16, (some (.t 12, false)), (.ld none), [.t 15]⟩, ⟨.t 17, none, .pick, [.t 12, .c (.b true), .t 16]⟩])
 (.cond (.t 17) (.seq (.reg [⟨.l 2, none, .mv, [.c (.sl none 0 0 0)]⟩])
 .ret) .skip))
 (.seq (.reg [⟨.t 18, none, .mv, [.l 0]⟩, ⟨.t 19, none, (.call 78), [.t 18]⟩, ⟨.l 2, none, .mv, [.t 19]⟩])
 .ret))), [.tmp (.l 2)]⟩
/-- (*tarpaulin/timer.Set).Stop -/
def b59 : Nat := 115
def a59 : AFn := ⟨(.seq (.reg [⟨.l 4, none, .mv, [.c (.b false)]⟩, ⟨.l 5, none, .mv, [.c (.i .i64 0)]⟩])
 (.seq (.seq (.reg [⟨.t 7, none, .mv, [.l 0]⟩, ⟨.t 8, none, .mv, [.l 1]⟩, ⟨.t 9, none, (.call 79), [.t 7, .t 8]⟩, ⟨.t 10, none, (.un .not), [.t 9]⟩])
 (.cond (.t 10) (.seq (.reg [⟨.l 4, none, .mv, [.c (.b false)]⟩, ⟨.l 5, none, .mv, [.c (.i .i64 4)]⟩])
 .ret) .skip))
 (.seq (.reg [⟨.t 11, none, .mv, [.l 0]⟩, ⟨.t 12, none, .nilchk, [.t 11]⟩, ⟨.t 13, none, (.fad 1), [.t 12]⟩, ⟨.t 14, none, (.ld none), [.t 13]⟩, ⟨.t 15, none, .mv, [.l 1]⟩, ⟨.t 16, none, (.call 80), [.t 14, .t 15]⟩, ⟨.l 6, none, .mv, [.t 16]⟩])
 (.seq (.reg [⟨.t 17, none, .mv, [.l 0]⟩, ⟨.t 18, none, .nilchk, [.t 17]⟩, ⟨.t 19, none, (.fad 0), [.t 18]⟩, ⟨.t 20, none, (.ld none), [.t 19]⟩, ⟨.t 21, none, .mv, [.l 1]⟩, ⟨.t 22, none, (.iad 4), [.t 20, .t 21]⟩, ⟨.t 23, none, (.fad 2), [.t 22]⟩, ⟨.t 24, none, (.ld none), [.t 23]⟩, ⟨.t 25, none, (.call 81), [.t 24]⟩, ⟨.t 26, none, .mv, [.t 25]⟩, ⟨.t 27, (some (.t 26, false)), .mv, [.l 6]⟩, ⟨.t 28, none, .pick, [.t 26, .c (.b true), .t 27]⟩, ⟨.l 4, none, .mv, [.t 28]⟩, ⟨.l 5, none, .mv, [.c (.i .i64 0)]⟩])
 .ret)))), [.tmp (.l 4), .tmp (.l 5)]⟩
/-- (*tarpaulin/tree.Tree).Kids -/
def b60 : Nat := 19
def a60 : AFn := ⟨(.seq (.reg [⟨.l 4, none, .mv, [.c (.sl none 0 0 0)]⟩])
 (.seq (.seq (.reg [⟨.t 5, none, .mv, [.l 0]⟩, ⟨.t 6, none, .mv, [.l 1]⟩, ⟨.t 7, none, (.call 61), [.t 5, .t 6]⟩, ⟨.t 8, none, (.un .not), [.t 7]⟩])
 (.cond (.t 8) (.seq (.reg [⟨.l 4, none, .mv, [.c (.sl none 0 0 0)]⟩])
 .ret) .skip))
 (.seq (.reg [⟨.t 9, none, .mv, [.l 0]⟩, ⟨.t 10, none, .nilchk, [.t 9]⟩, ⟨.t 11, none, (.fad 0), [.t 10]⟩, ⟨.t 12, none, (.ld none), [.t 11]⟩, ⟨.t 13, none, .mv, [.l 1]⟩, ⟨.t 14, none, (.iad 3), [.t 12, .t 13]⟩, ⟨.t 15, none, (.fad 2), [.t 14]⟩, ⟨.t 16, none, (.ld none), [.t 15]⟩, ⟨.t 17, none, (.call 82), [.t 16]⟩, ⟨.l 4, none, .mv, [.t 17]⟩])
 .ret))), [.tmp (.l 4)]⟩
/-- (*tarpaulin/tree.Tree).has -/
def b61 : Nat := 19
def a61 : AFn := ⟨(.seq (.reg [⟨.l 4, none, .mv, [.c (.b false)]⟩])
 (.seq (.reg [⟨.t 5, none, .mv, [.l 1]⟩, ⟨.t 6, none, (.bin .geq), [.t 5, .c (.i .i64 0)]⟩, ⟨.t 7, none, .mv, [.t 6]⟩, ⟨.t 8, (some (.t 7, true)), .mv, [.l 1]⟩, ⟨.t 9, (some (.t 7, true)), .mv, [.l 0]⟩, ⟨.t 10, (some (.t 7, true)), (.call 83), [.t 9]⟩, ⟨.t 11, (some (.t 7, true)), (.bin .lss), [.t 8, .t 10]⟩, ⟨.t 12, none, .pick, [.t 7, .t 11, .c (.b false)]⟩, ⟨.l 4, none, .mv, [.t 12]⟩])
 .ret)), [.tmp (.l 4)]⟩
/-- slices.Index[[]int,int] -/
def b62 : Nat := 435
def a62 : AFn := ⟨(.seq (.reg [⟨.l 4, none, .mv, [.c (.i .i64 0)]⟩])
 (.seq (.seq (.reg [⟨.t 6, none, .mv, [.l 0]⟩, ⟨.l 7, none, .lenSl, [.t 6]⟩, ⟨.l 8, none, .mv, [.c (.i .i64 0)]⟩])
 (.block 0 (.loop (.seq (.reg [⟨.t 9, none, (.bin .lss), [.l 8, .l 7]⟩])
 (.seq (.cond (.t 9) .skip (.exit 0))
 (.seq (.block 1 (.seq (.reg [⟨.t 10, none, .mv, [.l 8]⟩, ⟨.l 5, none, .mv, [.t 10]⟩])
 (.seq (.reg [⟨.t 11, none, .mv, [.l 1]⟩, ⟨.t 12, none, .mv, [.l 0]⟩, ⟨.t 13, none, .mv, [.l 5]⟩, ⟨.t 14, none, (.iad 1), [.t 12, .t 13]⟩, ⟨.t 15, none, (.ld none), [.t 14]⟩, ⟨.t 16, none, (.bin .eql), [.t 11, .t 15]⟩])
 (.cond (.t 16) (.seq (.reg [⟨.t 17, none, .mv, [.l 5]⟩, ⟨.l 4, none, .mv, [.t 17]⟩])
 .ret) .skip))))
 (.reg [⟨.t 18, none, (.bin .add), [.l 8, .c (.i .i64 1)]⟩, ⟨.l 8, none, .mv, [.t 18]⟩])))))))
 (.seq (.reg [⟨.l 4, none, .mv, [.c (.i .i64 (-1))]⟩])
 .ret))), [.tmp (.l 4)]⟩
/-- slices.Delete[[]int,int] -/
def b63 : Nat := 199
def a63 : AFn := ⟨(.seq (.reg [⟨.l 6, none, .mv, [.c (.sl none 0 0 0)]⟩])
 (.seq (.reg [⟨.t 8, none, .mv, [.l 0]⟩, ⟨.t 9, none, .mv, [.l 1]⟩, ⟨.t 10, none, .mv, [.l 2]⟩, ⟨.t 11, none, .mv, [.l 0]⟩, ⟨.t 12, none, .lenSl, [.t 11]⟩, ⟨.t 13, none, (.slc 1 true true true), [.t 8, .t 9, .t 10, .t 12]⟩])
 (.seq (.seq (.reg [⟨.t 14, none, .mv, [.l 1]⟩, ⟨.t 15, none, .mv, [.l 2]⟩, ⟨.t 16, none, (.bin .eql), [.t 14, .t 15]⟩])
 (.cond (.t 16) (.seq (.reg [⟨.t 17, none, .mv, [.l 0]⟩, ⟨.l 6, none, .mv, [.t 17]⟩])
 .ret) .skip))
 (.seq (.reg [⟨.t 18, none, .mv, [.l 0]⟩, ⟨.t 19, none, .lenSl, [.t 18]⟩, ⟨.l 7, none, .mv, [.t 19]⟩])
 (.seq (.reg [⟨.t 20, none, .mv, [.l 0]⟩, ⟨.t 21, none, .mv, [.l 1]⟩, ⟨.t 22, none, (.slc 1 false true false), [.t 20, .t 21]⟩, ⟨.t 23, none, .mv, [.l 0]⟩, ⟨.t 24, none, .mv, [.l 2]⟩, ⟨.t 25, none, (.slc 1 true false false), [.t 23, .t 24]⟩, ⟨.t 26, none, (.app 1 8), [.t 22, .t 25]⟩, ⟨.l 0, none, .mv, [.t 26]⟩])
 (.seq (.reg [⟨.t 27, none, .mv, [.l 0]⟩, ⟨.t 28, none, .mv, [.l 0]⟩, ⟨.t 29, none, .lenSl, [.t 28]⟩, ⟨.t 30, none, .mv, [.l 7]⟩, ⟨.t 31, none, (.slc 1 true true false), [.t 27, .t 29, .t 30]⟩, ⟨.no, none, (.clr [(.i .i64 0)]), [.t 31]⟩])
 (.seq (.reg [⟨.t 32, none, .mv, [.l 0]⟩, ⟨.l 6, none, .mv, [.t 32]⟩])
 .ret))))))), [.tmp (.l 6)]⟩
/-- tarpaulin/clock.held -/
def b64 : Nat := 5
def a64 : AFn := ⟨(.seq (.reg [⟨.l 2, none, .mv, [.c (.i .i64 0)]⟩])
 (.seq (.reg [⟨.t 3, none, .mv, [.l 0]⟩, ⟨.t 4, none, .max, [.t 3, .c (.i .i64 (-4611686018427387904))]⟩, ⟨.t 5, none, .min, [.t 4, .c (.i .i64 4611686018427387904)]⟩, ⟨.l 2, none, .mv, [.t 5]⟩])
 .ret)), [.tmp (.l 2)]⟩
/-- (*tarpaulin/timer.Set).make -/
def b65 : Nat := 815
def a65 : AFn := ⟨(.seq (.reg [⟨.l 5, none, .box, [.l 1]⟩, ⟨.l 8, none, .mv, [.c (.i .i64 0)]⟩, ⟨.l 9, none, .mv, [.c (.i .i64 0)]⟩])
 (.seq (.block 0 (.seq (.reg [⟨.t 11, none, .mv, [.l 2]⟩, ⟨.t 12, none, (.call 84), [.t 11]⟩, ⟨.t 13, none, .mv, [.t 12]⟩, ⟨.t 14, (some (.t 13, false)), (.fad 1), [.l 5]⟩, ⟨.t 15, (some (.t 13, false)), (.ld none), [.t 14]⟩, ⟨.t 16, (some (.t 13, false)), (.bin .lss), [.t 15, .c (.i .i64 0)]⟩, ⟨.t 17, none, .pick, [.t 13, .c (.b true), .t 16]⟩, ⟨.t 18, none, .mv, [.t 17]⟩, ⟨.t 19, (some (.t 18, false)), (.fad 0), [.l 5]⟩, ⟨.t 20, (some (.t 18, false)), (.ld none), [.t 19]⟩, ⟨.t 21, (some (.t 18, false)), (.bin .eql), [.t 20, .c (.i .i64 2)]⟩, ⟨.t 22, (some (.t 18, false)), .mv, [.t 21]⟩, ⟨.t 23, (some (.t 22, true)), .mv, [.l 3]⟩, ⟨.t 24, (some (.t 22, true)), (.bin .lss), [.t 23, .c (.i .i64 1)]⟩, ⟨.t 25, (some (.t 18, false)), .pick, [.t 22, .t 24, .c (.b false)]⟩, ⟨.t 26, none, .pick, [.t 18, .c (.b true), .t 25]⟩, ⟨.t 10, none, .mv, [.t 26]⟩])
 (.cond (.t 10) (.seq (.reg [⟨.l 8, none, .mv, [.c (.i .i64 0)]⟩, ⟨.l 9, none, .mv, [.c (.i .i64 1)]⟩])
 .ret) (.seq (.seq (.reg [⟨.t 28, none, .mv, [.l 0]⟩, ⟨.t 29, none, (.eq false .ptr), [.t 28, .c (.p none)]⟩, ⟨.t 27, none, .mv, [.t 29]⟩])
 (.cond (.t 27) .skip (.reg [⟨.t 30, none, (.fad 0), [.l 5]⟩, ⟨.t 31, none, (.ld none), [.t 30]⟩, ⟨.t 32, none, (.bin .neq), [.t 31, .c (.i .i64 4)]⟩, ⟨.t 33, none, .mv, [.t 32]⟩, ⟨.t 34, (some (.t 33, true)), .mv, [.l 0]⟩, ⟨.t 35, (some (.t 33, true)), .nilchk, [.t 34]⟩, ⟨.t 36, (some (.t 33, true)), (.fad 2), [.t 35]⟩, ⟨.t 37, (some (.t 33, true)), (.ld none), [.t 36]⟩, ⟨.t 38, (some (.t 33, true)), (.bin .geq), [.t 37, .c (.i .i64 64)]⟩, ⟨.t 39, none, .pick, [.t 33, .t 38, .c (.b false)]⟩, ⟨.t 27, none, .mv, [.t 39]⟩])))
 (.cond (.t 27) (.seq (.reg [⟨.l 8, none, .mv, [.c (.i .i64 0)]⟩, ⟨.l 9, none, .mv, [.c (.i .i64 3)]⟩])
 .ret) .skip)))))
 (.seq (.seq (.reg [⟨.t 40, none, (.fad 0), [.l 5]⟩, ⟨.t 41, none, (.ld none), [.t 40]⟩, ⟨.t 42, none, (.bin .neq), [.t 41, .c (.i .i64 4)]⟩])
 (.cond (.t 42) (.reg [⟨.t 43, none, .mv, [.l 0]⟩, ⟨.t 44, none, .nilchk, [.t 43]⟩, ⟨.t 45, none, (.fad 2), [.t 44]⟩, ⟨.t 46, none, (.ld none), [.t 45]⟩, ⟨.t 47, none, (.bin .add), [.t 46, .c (.i .i64 1)]⟩, ⟨.t 48, none, .nilchk, [.t 43]⟩, ⟨.t 49, none, (.fad 2), [.t 48]⟩, ⟨.no, none, (.st 1), [.t 49, .t 47]⟩]) .skip))
 (.seq (.reg [⟨.t 50, none, .mv, [.l 0]⟩, ⟨.t 51, none, .mv, [.l 0]⟩, ⟨.t 52, none, .nilchk, [.t 51]⟩, ⟨.t 53, none, (.fad 0), [.t 52]⟩, ⟨.t 54, none, (.ld none), [.t 53]⟩, ⟨.t 55, none, (.ld (some 4)), [.l 5]⟩, ⟨.t 56, none, (.bslice [(.i .i64 0), (.i .i64 0), (.p none), (.i .i64 0)] 1 4 [0]), [.t 55]⟩, ⟨.t 57, none, (.app 4 32), [.t 54, .t 56]⟩, ⟨.t 58, none, .nilchk, [.t 50]⟩, ⟨.t 59, none, (.fad 0), [.t 58]⟩, ⟨.no, none, (.st 1), [.t 59, .t 57]⟩])
 (.seq (.reg [⟨.t 60, none, .mv, [.l 0]⟩, ⟨.t 61, none, .mv, [.l 0]⟩, ⟨.t 62, none, .nilchk, [.t 61]⟩, ⟨.t 63, none, (.fad 0), [.t 62]⟩, ⟨.t 64, none, (.ld none), [.t 63]⟩, ⟨.t 65, none, .lenSl, [.t 64]⟩, ⟨.t 66, none, (.bin .sub), [.t 65, .c (.i .i64 1)]⟩, ⟨.t 67, none, .mv, [.l 2]⟩, ⟨.t 68, none, .mv, [.l 3]⟩, ⟨.t 69, none, (.call 85), [.t 60, .t 66, .t 67, .t 68]⟩])
 (.seq (.reg [⟨.t 70, none, .mv, [.l 0]⟩, ⟨.t 71, none, .nilchk, [.t 70]⟩, ⟨.t 72, none, (.fad 0), [.t 71]⟩, ⟨.t 73, none, (.ld none), [.t 72]⟩, ⟨.t 74, none, .lenSl, [.t 73]⟩, ⟨.t 75, none, (.bin .sub), [.t 74, .c (.i .i64 1)]⟩, ⟨.l 8, none, .mv, [.t 75]⟩, ⟨.l 9, none, .mv, [.c (.i .i64 0)]⟩])
 .ret)))))), [.tmp (.l 8), .tmp (.l 9)]⟩
/-- (*tarpaulin/ring.Ring).Len -/
def b66 : Nat := 5
def a66 : AFn := ⟨(.seq (.reg [⟨.l 2, none, .mv, [.c (.i .i64 0)]⟩])
 (.seq (.seq (.reg [⟨.t 3, none, .mv, [.l 0]⟩, ⟨.t 4, none, (.eq false .ptr), [.t 3, .c (.p none)]⟩])
 (.cond (.t 4) (.seq (.reg [⟨.l 2, none, .mv, [.c (.i .i64 0)]⟩])
 .ret) .skip))
 (.seq (.reg [⟨.t 5, none, .mv, [.l 0]⟩, ⟨.t 6, none, .nilchk, [.t 5]⟩, ⟨.t 7, none, (.fad 2), [.t 6]⟩, ⟨.t 8, none, (.ld none), [.t 7]⟩, ⟨.l 2, none, .mv, [.t 8]⟩])
 .ret))), [.tmp (.l 2)]⟩
/-- (*tarpaulin/ring.Ring).Size -/
def b67 : Nat := 5
def a67 : AFn := ⟨(.seq (.reg [⟨.l 2, none, .mv, [.c (.i .i64 0)]⟩])
 (.seq (.seq (.reg [⟨.t 3, none, .mv, [.l 0]⟩, ⟨.t 4, none, (.eq false .ptr), [.t 3, .c (.p none)]⟩])
 (.cond (.t 4) (.seq (.reg [⟨.l 2, none, .mv, [.c (.i .i64 0)]⟩])
 .ret) .skip))
 (.seq (.reg [⟨.t 5, none, .mv, [.l 0]⟩, ⟨.t 6, none, .nilchk, [.t 5]⟩, ⟨.t 7, none, (.fad 0), [.t 6]⟩, ⟨.t 8, none, (.ld none), [.t 7]⟩, ⟨.t 9, none, .lenSl, [.t 8]⟩, ⟨.l 2, none, .mv, [.t 9]⟩])
 .ret))), [.tmp (.l 2)]⟩
/-- slices.IndexFunc[[]tarpaulin/api.Wait,tarpaulin/api.Wait] -/
def b68 : Nat := 435
def a68 : AFn := ⟨(.seq (.reg [⟨.l 4, none, .mv, [.c (.i .i64 0)]⟩])
 (.seq (.seq (.reg [⟨.t 6, none, .mv, [.l 0]⟩, ⟨.l 7, none, .lenSl, [.t 6]⟩, ⟨.l 8, none, .mv, [.c (.i .i64 0)]⟩])
 (.block 0 (.loop (.seq (.reg [⟨.t 9, none, (.bin .lss), [.l 8, .l 7]⟩])
 (.seq (.cond (.t 9) .skip (.exit 0))
 (.seq (.block 1 (.seq (.reg [⟨.t 10, none, .mv, [.l 8]⟩, ⟨.l 5, none, .mv, [.t 10]⟩])
 (.seq (.reg [⟨.t 11, none, .mv, [.l 1]⟩, ⟨.t 12, none, .mv, [.l 0]⟩, ⟨.t 13, none, .mv, [.l 5]⟩, ⟨.t 14, none, (.iad 3), [.t 12, .t 13]⟩, ⟨.t 15, none, (.ld (some 3)), [.t 14]⟩, ⟨.t 16, none, .callv, [.t 11, .t 15]⟩])
 (.cond (.t 16) (.seq (.reg [⟨.t 17, none, .mv, [.l 5]⟩, ⟨.l 4, none, .mv, [.t 17]⟩])
 .ret) .skip))))
 (.reg [⟨.t 18, none, (.bin .add), [.l 8, .c (.i .i64 1)]⟩, ⟨.l 8, none, .mv, [.t 18]⟩])))))))
 (.seq (.reg [⟨.l 4, none, .mv, [.c (.i .i64 (-1))]⟩])
 .ret))), [.tmp (.l 4)]⟩
/-- (*tarpaulin/heap.Heap).Pop -/
def b69 : Nat := 61
def a69 : AFn := ⟨(.seq (.reg [⟨.l 2, none, (.alloc [(.i .i64 0), (.i .i64 0), (.i .i64 0)]), []⟩, ⟨.l 3, none, .mv, [.c (.b false)]⟩])
 (.seq (.reg [⟨.t 7, none, .mv, [.l 0]⟩, ⟨.t 8, none, (.call 74), [.t 7]⟩, ⟨.t 6, none, .mv, [.t 8]⟩, ⟨.t 9, none, (.ext 0), [.t 6]⟩, ⟨.t 10, none, (.ext 1), [.t 6]⟩, ⟨.l 4, none, (.alloc [(.i .i64 0), (.i .i64 0), (.i .i64 0)]), []⟩, ⟨.no, none, (.st 3), [.l 4, .t 9]⟩, ⟨.l 5, none, .mv, [.t 10]⟩])
 (.seq (.seq (.reg [⟨.t 11, none, .mv, [.l 5]⟩])
 (.cond (.t 11) (.reg [⟨.t 12, none, .mv, [.l 0]⟩, ⟨.t 13, none, (.fad 0), [.l 4]⟩, ⟨.t 14, none, (.ld none), [.t 13]⟩, ⟨.t 15, none, (.call 86), [.t 12, .t 14]⟩]) .skip))
 (.seq (.reg [⟨.t 16, none, (.ld (some 3)), [.l 4]⟩, ⟨.t 17, none, .mv, [.l 5]⟩, ⟨.no, none, (.st 3), [.l 2, .t 16]⟩, ⟨.l 3, none, .mv, [.t 17]⟩])
 .ret)))), [.cell (.l 2) (some 3), .tmp (.l 3)]⟩
/-- tarpaulin/clock.Next -/
def b70 : Nat := 199
def a70 : AFn := ⟨(.seq (.reg [⟨.l 6, none, .mv, [.c (.i .i64 0)]⟩, ⟨.l 7, none, .mv, [.c (.i .i64 0)]⟩])
 (.seq (.seq (.reg [⟨.t 8, none, .mv, [.l 1]⟩, ⟨.t 9, none, (.bin .lss), [.t 8, .c (.i .i64 1)]⟩, ⟨.t 10, none, .mv, [.t 9]⟩, ⟨.t 11, (some (.t 10, false)), .mv, [.l 0]⟩, ⟨.t 12, (some (.t 10, false)), .mv, [.l 2]⟩, ⟨.t 13, (some (.t 10, false)), .min, [.t 11, .t 12]⟩, ⟨.t 14, (some (.t 10, false)), (.bin .lss), [.t 13, .c (.i .i64 0)]⟩, ⟨.t 15, none, .pick, [.t 10, .c (.b true), .t 14]⟩, ⟨.t 16, none, .mv, [.t 15]⟩, ⟨.t 17, (some (.t 16, false)), .mv, [.l 0]⟩, ⟨.t 18, (some (.t 16, false)), .mv, [.l 1]⟩, ⟨.t 19, (some (.t 16, false)), .mv, [.l 2]⟩, ⟨.t 20, (some (.t 16, false)), .max, [.t 17, .t 18, .t 19]⟩, ⟨.t 21, (some (.t 16, false)), (.bin .gtr), [.t 20, .c (.i .i64 4611686018427387904)]⟩, ⟨.t 22, none, .pick, [.t 16, .c (.b true), .t 21]⟩])
 (.cond (.t 22) (.seq (.reg [⟨.l 6, none, .mv, [.c (.i .i64 0)]⟩, ⟨.l 7, none, .mv, [.c (.i .i64 1)]⟩])
 .ret) .skip))
 (.seq (.seq (.reg [⟨.t 23, none, .mv, [.l 0]⟩, ⟨.t 24, none, .mv, [.l 2]⟩, ⟨.t 25, none, (.bin .gtr), [.t 23, .t 24]⟩])
 (.cond (.t 25) (.seq (.reg [⟨.t 26, none, .mv, [.l 0]⟩, ⟨.l 6, none, .mv, [.t 26]⟩, ⟨.l 7, none, .mv, [.c (.i .i64 0)]⟩])
 .ret) .skip))
 (.seq (.reg [⟨.t 27, none, .mv, [.l 2]⟩, ⟨.t 28, none, .mv, [.l 1]⟩, ⟨.t 29, none, .mv, [.l 2]⟩, ⟨.t 30, none, .mv, [.l 0]⟩, ⟨.t 31, none, (.bin .sub), [.t 29, .t 30]⟩, ⟨.t 32, none, .mv, [.l 1]⟩, ⟨.t 33, none, (.bin .rem), [.t 31, .t 32]⟩, ⟨.t 34, none, (.bin .sub), [.t 28, .t 33]⟩, ⟨.t 35, none, (.call 43), [.t 27, .t 34]⟩, ⟨.l 6, none, .mv, [.t 35]⟩, ⟨.l 7, none, .mv, [.c (.i .i64 0)]⟩])
 .ret)))), [.tmp (.l 6), .tmp (.l 7)]⟩
/-- (*tarpaulin/expire.Timers).Arm -/
def b71 : Nat := 271
def a71 : AFn := ⟨(.seq (.reg [⟨.l 8, none, .mv, [.c (.i .i64 0)]⟩])
 (.seq (.seq (.reg [⟨.t 9, none, .mv, [.l 0]⟩, ⟨.t 10, none, (.eq false .ptr), [.t 9, .c (.p none)]⟩, ⟨.t 11, none, .mv, [.t 10]⟩, ⟨.t 12, (some (.t 11, false)), .mv, [.l 2]⟩, ⟨.t 13, (some (.t 11, false)), .mv, [.l 3]⟩, ⟨.t 14, (some (.t 11, false)), .min, [.t 12, .t 13]⟩, ⟨.t 15, (some (.t 11, false)), (.bin .lss), [.t 14, .c (.i .i64 0)]⟩, ⟨.t 16, none, .pick, [.t 11, .c (.b true), .t 15]⟩, ⟨.t 17, none, .mv, [.t 16]⟩, ⟨.t 18, (some (.t 17, false)), .mv, [.l 2]⟩, ⟨.t 19, (some (.t 17, false)), .mv, [.l 3]⟩, ⟨.t 20, (some (.t 17, false)), .max, [.t 18, .t 19]⟩, ⟨.t 21, (some (.t 17, false)), (.bin .gtr), [.t 20, .c (.i .i64 4611686018427387904)]⟩, ⟨.t 22, none, .pick, [.t 17, .c (.b true), .t 21]⟩])
 (.cond (.t 22) (.seq (.reg [⟨.l 8, none, .mv, [.c (.i .i64 1)]⟩])
 .ret) .skip))
 (.seq (.reg [⟨.t 23, none, .mv, [.l 0]⟩, ⟨.t 24, none, .mv, [.l 1]⟩, ⟨.t 25, none, (.call 80), [.t 23, .t 24]⟩])
 (.seq (.reg [⟨.t 26, none, .mv, [.l 0]⟩, ⟨.t 27, none, .nilchk, [.t 26]⟩, ⟨.t 28, none, (.fad 1), [.t 27]⟩, ⟨.t 29, none, (.ld none), [.t 28]⟩, ⟨.t 30, none, .mv, [.l 1]⟩, ⟨.t 31, none, .mv, [.l 3]⟩, ⟨.no, none, .mset, [.t 29, .t 30, .t 31]⟩])
 (.seq (.reg [⟨.t 32, none, .mv, [.l 0]⟩, ⟨.t 33, none, .nilchk, [.t 32]⟩, ⟨.t 34, none, (.fad 0), [.t 33]⟩, ⟨.t 35, none, (.ld none), [.t 34]⟩, ⟨.t 36, none, .mv, [.l 1]⟩, ⟨.t 37, none, .mv, [.l 2]⟩, ⟨.t 38, none, (.call 87), [.t 35, .t 36, .t 37]⟩, ⟨.l 8, none, .mv, [.t 38]⟩])
 .ret))))), [.tmp (.l 8)]⟩
/-- (*tarpaulin/chanq.Chan).deliver -/
def b72 : Nat := 115
def a72 : AFn := ⟨(.seq (.reg [⟨.l 4, none, .mv, [.c (.sl none 0 0 0)]⟩])
 (.seq (.reg [⟨.t 8, none, .mv, [.l 0]⟩, ⟨.t 9, none, .nilchk, [.t 8]⟩, ⟨.t 10, none, (.fad 1), [.t 9]⟩, ⟨.t 11, none, (.ld none), [.t 10]⟩, ⟨.t 12, none, (.call 88), [.t 11]⟩, ⟨.t 7, none, .mv, [.t 12]⟩, ⟨.t 13, none, (.ext 0), [.t 7]⟩, ⟨.t 14, none, (.ext 1), [.t 7]⟩, ⟨.l 5, none, (.alloc [(.i .i64 0), (.i .i64 0), (.i .i64 0)]), []⟩, ⟨.no, none, (.st 3), [.l 5, .t 13]⟩, ⟨.l 6, none, .mv, [.t 14]⟩])
 (.seq (.seq (.reg [⟨.t 15, none, .mv, [.l 6]⟩, ⟨.t 16, none, (.un .not), [.t 15]⟩])
 (.cond (.t 16) (.seq (.reg [⟨.l 4, none, .mv, [.c (.sl none 0 0 0)]⟩])
 .ret) .skip))
 (.seq (.reg [⟨.t 17, none, (.fad 0), [.l 5]⟩, ⟨.t 18, none, (.ld none), [.t 17]⟩, ⟨.t 19, none, (.fad 1), [.l 5]⟩, ⟨.t 20, none, (.ld none), [.t 19]⟩, ⟨.t 21, none, .mv, [.l 1]⟩, ⟨.t 22, none, (.build [(.i .i64 0), (.i .i64 0), (.i .i64 0), (.b false), (.b false)] [(0, 1), (1, 1), (2, 1), (3, 1)]), [.t 18, .t 20, .t 21, .c (.b true)]⟩, ⟨.t 23, none, (.bslice [(.i .i64 0), (.i .i64 0), (.i .i64 0), (.b false), (.b false)] 1 5 [0]), [.t 22]⟩, ⟨.l 4, none, .mv, [.t 23]⟩])
 .ret)))), [.tmp (.l 4)]⟩
/-- (*tarpaulin/ring.Ring).Push -/
def b73 : Nat := 19
def a73 : AFn := ⟨(.seq (.reg [⟨.l 4, none, .mv, [.c (.b false)]⟩])
 (.seq (.seq (.reg [⟨.t 5, none, .mv, [.l 0]⟩, ⟨.t 6, none, (.eq false .ptr), [.t 5, .c (.p none)]⟩, ⟨.t 7, none, .mv, [.t 6]⟩, ⟨.t 8, (some (.t 7, false)), .mv, [.l 0]⟩, ⟨.t 9, (some (.t 7, false)), .nilchk, [.t 8]⟩, ⟨.t 10, (some (.t 7, false)), (.fad 2), [.t 9]⟩, ⟨.t 11, (some (.t 7, false)), (.ld none), [.t 10]⟩, ⟨.t 12, (some (.t 7, false)), .mv, [.l 0]⟩, ⟨.t 13, (some (.t 7, false)), .nilchk, [.t 12]⟩, ⟨.t 14, (some (.t 7, false)), (.fad 0), [.t 13]⟩, ⟨.t 15, (some (.t 7, false)), (.ld none), [.t 14]⟩, ⟨.t 16, (some (.t 7, false)), .lenSl, [.t 15]⟩, ⟨.t 17, (some (.t 7, false)), (.bin .eql), [.t 11, .t 16]⟩, ⟨.t 18, none, .pick, [.t 7, .c (.b true), .t 17]⟩])
 (.cond (.t 18) (.seq (.reg [⟨.l 4, none, .mv, [.c (.b false)]⟩])
 .ret) .skip))
 (.seq (.reg [⟨.t 19, none, .mv, [.l 0]⟩, ⟨.t 20, none, .nilchk, [.t 19]⟩, ⟨.t 21, none, (.fad 0), [.t 20]⟩, ⟨.t 22, none, (.ld none), [.t 21]⟩, ⟨.t 23, none, .mv, [.l 0]⟩, ⟨.t 24, none, .nilchk, [.t 23]⟩, ⟨.t 25, none, (.fad 1), [.t 24]⟩, ⟨.t 26, none, (.ld none), [.t 25]⟩, ⟨.t 27, none, .mv, [.l 0]⟩, ⟨.t 28, none, .nilchk, [.t 27]⟩, ⟨.t 29, none, (.fad 2), [.t 28]⟩, ⟨.t 30, none, (.ld none), [.t 29]⟩, ⟨.t 31, none, (.bin .add), [.t 26, .t 30]⟩, ⟨.t 32, none, .mv, [.l 0]⟩, ⟨.t 33, none, .nilchk, [.t 32]⟩, ⟨.t 34, none, (.fad 0), [.t 33]⟩, ⟨.t 35, none, (.ld none), [.t 34]⟩, ⟨.t 36, none, .lenSl, [.t 35]⟩, ⟨.t 37, none, (.bin .rem), [.t 31, .t 36]⟩, ⟨.t 38, none, .mv, [.l 1]⟩, ⟨.t 39, none, (.iad 1), [.t 22, .t 37]⟩, ⟨.no, none, (.st 1), [.t 39, .t 38]⟩])
 (.seq (.reg [⟨.t 40, none, .mv, [.l 0]⟩, ⟨.t 41, none, .nilchk, [.t 40]⟩, ⟨.t 42, none, (.fad 2), [.t 41]⟩, ⟨.t 43, none, (.ld none), [.t 42]⟩, ⟨.t 44, none, (.bin .add), [.t 43, .c (.i .i64 1)]⟩, ⟨.t 45, none, .nilchk, [.t 40]⟩, ⟨.t 46, none, (.fad 2), [.t 45]⟩, ⟨.no, none, (.st 1), [.t 46, .t 44]⟩])
 (.seq (.reg [⟨.l 4, none, .mv, [.c (.b true)]⟩])
 .ret))))), [.tmp (.l 4)]⟩
/-- (*tarpaulin/heap.Heap).Min -/
def b74 : Nat := 13
def a74 : AFn := ⟨(.seq (.reg [⟨.l 2, none, (.alloc [(.i .i64 0), (.i .i64 0), (.i .i64 0)]), []⟩, ⟨.l 3, none, .mv, [.c (.b false)]⟩])
 (.seq (.seq (.reg [⟨.t 4, none, .mv, [.l 0]⟩, ⟨.t 5, none, (.call 89), [.t 4]⟩, ⟨.t 6, none, (.bin .eql), [.t 5, .c (.i .i64 0)]⟩])
 (.cond (.t 6) (.seq (.reg [⟨.t 7, none, (.build [(.i .i64 0), (.i .i64 0), (.i .i64 0)] []), []⟩, ⟨.no, none, (.st 3), [.l 2, .t 7]⟩, ⟨.l 3, none, .mv, [.c (.b false)]⟩])
 .ret) .skip))
 (.seq (.reg [⟨.t 8, none, .mv, [.l 0]⟩, ⟨.t 9, none, .nilchk, [.t 8]⟩, ⟨.t 10, none, (.fad 0), [.t 9]⟩, ⟨.t 11, none, (.ld none), [.t 10]⟩, ⟨.t 12, none, (.iad 3), [.t 11, .c (.i .i64 0)]⟩, ⟨.t 13, none, (.ld (some 3)), [.t 12]⟩, ⟨.no, none, (.st 3), [.l 2, .t 13]⟩, ⟨.l 3, none, .mv, [.c (.b true)]⟩])
 .ret))), [.cell (.l 2) (some 3), .tmp (.l 3)]⟩
/-- (*tarpaulin/tarpaulinref9.Ctx).add -/
def b75 : Nat := 911
def a75 : AFn := ⟨(.seq (.reg [⟨.l 7, none, .box, [.l 3]⟩, ⟨.l 8, none, .mv, [.c (.i .i64 0)]⟩])
 (.seq (.reg [⟨.t 12, none, .mv, [.l 0]⟩, ⟨.t 13, none, .nilchk, [.t 12]⟩, ⟨.t 14, none, (.fad 1), [.t 13]⟩, ⟨.t 15, none, .mv, [.l 1]⟩, ⟨.t 16, none, .mv, [.l 2]⟩, ⟨.t 17, none, (.call 90), [.t 14, .t 15, .t 16]⟩, ⟨.t 11, none, .mv, [.t 17]⟩, ⟨.t 18, none, (.ext 0), [.t 11]⟩, ⟨.t 19, none, (.ext 1), [.t 11]⟩, ⟨.l 9, none, .mv, [.t 18]⟩, ⟨.t 10, none, .mv, [.t 19]⟩])
 (.seq (.reg [⟨.t 20, none, .mv, [.l 0]⟩, ⟨.t 21, none, .nilchk, [.t 20]⟩, ⟨.t 22, none, (.fad 3), [.t 21]⟩, ⟨.t 23, none, (.ld none), [.t 22]⟩, ⟨.t 24, none, .lenSl, [.t 23]⟩, ⟨.t 25, none, (.fad 1), [.l 7]⟩, ⟨.no, none, (.st 1), [.t 25, .t 24]⟩])
 (.seq (.reg [⟨.t 26, none, .mv, [.l 0]⟩, ⟨.t 27, none, .mv, [.l 0]⟩, ⟨.t 28, none, .nilchk, [.t 27]⟩, ⟨.t 29, none, (.fad 2), [.t 28]⟩, ⟨.t 30, none, (.ld none), [.t 29]⟩, ⟨.t 31, none, (.ld (some 12)), [.l 7]⟩, ⟨.t 32, none, (.bslice [(.b false), (.i .i64 0), (.i .i64 0), (.b false), (.b false), (.i .i64 0), (.i .i64 0), (.i .i64 0), (.b false), (.b false), (.i .i64 0), (.p none)] 1 12 [0]), [.t 31]⟩, ⟨.t 33, none, (.app 12 80), [.t 30, .t 32]⟩, ⟨.t 34, none, .nilchk, [.t 26]⟩, ⟨.t 35, none, (.fad 2), [.t 34]⟩, ⟨.no, none, (.st 1), [.t 35, .t 33]⟩])
 (.seq (.reg [⟨.t 36, none, .mv, [.l 0]⟩, ⟨.t 37, none, .mv, [.l 0]⟩, ⟨.t 38, none, .nilchk, [.t 37]⟩, ⟨.t 39, none, (.fad 3), [.t 38]⟩, ⟨.t 40, none, (.ld none), [.t 39]⟩, ⟨.t 41, none, .mv, [.l 9]⟩, ⟨.t 42, none, (.bslice [(.i .i64 0)] 1 1 [0]), [.t 41]⟩, ⟨.t 43, none, (.app 1 8), [.t 40, .t 42]⟩, ⟨.t 44, none, .nilchk, [.t 36]⟩, ⟨.t 45, none, (.fad 3), [.t 44]⟩, ⟨.no, none, (.st 1), [.t 45, .t 43]⟩])
 (.seq (.reg [⟨.t 46, none, (.fad 1), [.l 7]⟩, ⟨.t 47, none, (.ld none), [.t 46]⟩, ⟨.l 8, none, .mv, [.t 47]⟩])
 .ret)))))), [.tmp (.l 8)]⟩
/-- tarpaulin/ring.New -/
def b76 : Nat := 13
def a76 : AFn := ⟨(.seq (.reg [⟨.l 2, none, .mv, [.c (.p none)]⟩, ⟨.l 3, none, .mv, [.c (.i .i64 0)]⟩])
 (.seq (.seq (.reg [⟨.t 4, none, .mv, [.l 0]⟩, ⟨.t 5, none, (.bin .lss), [.t 4, .c (.i .i64 0)]⟩, ⟨.t 6, none, .mv, [.t 5]⟩, ⟨.t 7, (some (.t 6, false)), .mv, [.l 0]⟩, ⟨.t 8, (some (.t 6, false)), (.bin .gtr), [.t 7, .c (.i .i64 64)]⟩, ⟨.t 9, none, .pick, [.t 6, .c (.b true), .t 8]⟩])
 (.cond (.t 9) (.seq (.reg [⟨.l 2, none, .mv, [.c (.p none)]⟩, ⟨.l 3, none, .mv, [.c (.i .i64 1)]⟩])
 .ret) .skip))
 (.seq (.reg [⟨.t 10, none, .mv, [.l 0]⟩, ⟨.t 11, none, (.mksl [(.i .i64 0)] 8), [.t 10, .t 10]⟩, ⟨.t 12, none, (.build [(.sl none 0 0 0), (.i .i64 0), (.i .i64 0)] [(0, 1)]), [.t 11]⟩, ⟨.t 13, none, .box, [.t 12]⟩, ⟨.l 2, none, .mv, [.t 13]⟩, ⟨.l 3, none, .mv, [.c (.i .i64 0)]⟩])
 .ret))), [.tmp (.l 2), .tmp (.l 3)]⟩
/-- tarpaulin/wait.New -/
def b77 : Nat := 1
def a77 : AFn := ⟨(.seq (.reg [⟨.l 0, none, .mv, [.c (.p none)]⟩])
 (.seq (.reg [⟨.t 1, none, (.build [(.p none), (.p none), (.i .i64 0)] []), []⟩, ⟨.t 2, none, .box, [.t 1]⟩, ⟨.l 0, none, .mv, [.t 2]⟩])
 .ret)), [.tmp (.l 0)]⟩
/-- (*tarpaulin/chanq.Chan).end -/
def b78 : Nat := 9007199256576117
def a78 : AFn := ⟨(.seq (.reg [⟨.l 2, none, .mv, [.c (.sl none 0 0 0)]⟩])
 (.seq (.reg [⟨.t 7, none, .mv, [.l 0]⟩, ⟨.t 8, none, .nilchk, [.t 7]⟩, ⟨.t 9, none, (.fad 5), [.t 8]⟩, ⟨.no, none, (.st 1), [.t 9, .c (.b true)]⟩])
 (.seq (.seq (.reg [⟨.t 10, none, .mv, [.l 0]⟩, ⟨.t 11, none, .nilchk, [.t 10]⟩, ⟨.t 12, none, (.fad 1), [.t 11]⟩, ⟨.t 13, none, (.ld none), [.t 12]⟩, ⟨.t 14, none, .mv, [.l 0]⟩, ⟨.t 15, none, .nilchk, [.t 14]⟩, ⟨.t 16, none, (.fad 2), [.t 15]⟩, ⟨.t 17, none, (.ld none), [.t 16]⟩, ⟨.l 18, none, (.bslice [(.p none)] 2 1 [0, 1]), [.t 13, .t 17]⟩, ⟨.l 19, none, .lenSl, [.l 18]⟩, ⟨.l 20, none, .mv, [.c (.i .i64 0)]⟩])
 (.block 0 (.loop (.seq (.reg [⟨.t 21, none, (.bin .lss), [.l 20, .l 19]⟩])
 (.seq (.cond (.t 21) .skip (.exit 0))
 (.seq (.block 1 (.seq (.reg [⟨.t 22, none, (.iad 1), [.l 18, .l 20]⟩, ⟨.t 23, none, (.ld none), [.t 22]⟩, ⟨.l 4, none, .mv, [.t 23]⟩])
 (.seq (.reg [⟨.t 25, none, .mv, [.l 4]⟩, ⟨.t 26, none, (.call 88), [.t 25]⟩, ⟨.t 24, none, .mv, [.t 26]⟩, ⟨.t 27, none, (.ext 0), [.t 24]⟩, ⟨.t 28, none, (.ext 1), [.t 24]⟩, ⟨.l 5, none, (.alloc [(.i .i64 0), (.i .i64 0), (.i .i64 0)]), []⟩, ⟨.no, none, (.st 3), [.l 5, .t 27]⟩, ⟨.l 6, none, .mv, [.t 28]⟩])
 (.block 2 (.loop (.seq (.seq (.reg [⟨.t 29, none, .mv, [.l 6]⟩])
 (.cond (.t 29) .skip (.exit 2)))
 (.seq (.block 3 (.seq (.reg [⟨.t 35, none, .mv, [.l 2]⟩, ⟨.t 36, none, (.mkfn 92 0), [.l 5]⟩, ⟨.t 37, none, (.call 91), [.t 35, .t 36]⟩, ⟨.t 38, none, (.un .not), [.t 37]⟩])
 (.cond (.t 38) (.reg [⟨.t 39, none, .mv, [.l 2]⟩, ⟨.t 40, none, (.fad 0), [.l 5]⟩, ⟨.t 41, none, (.ld none), [.t 40]⟩, ⟨.t 42, none, (.fad 1), [.l 5]⟩, ⟨.t 43, none, (.ld none), [.t 42]⟩, ⟨.t 44, none, .mv, [.l 4]⟩, ⟨.t 45, none, .mv, [.l 0]⟩, ⟨.t 46, none, .nilchk, [.t 45]⟩, ⟨.t 47, none, (.fad 2), [.t 46]⟩, ⟨.t 48, none, (.ld none), [.t 47]⟩, ⟨.t 49, none, (.eq false .ptr), [.t 44, .t 48]⟩, ⟨.t 50, none, (.build [(.i .i64 0), (.i .i64 0), (.i .i64 0), (.b false), (.b false)] [(0, 1), (1, 1), (4, 1)]), [.t 41, .t 43, .t 49]⟩, ⟨.t 51, none, (.bslice [(.i .i64 0), (.i .i64 0), (.i .i64 0), (.b false), (.b false)] 1 5 [0]), [.t 50]⟩, ⟨.t 52, none, (.app 5 32), [.t 39, .t 51]⟩, ⟨.l 2, none, .mv, [.t 52]⟩]) .skip)))
 (.seq (.seq (.reg [⟨.l 53, none, (.ld (some 3)), [.l 5]⟩])
 (.reg [⟨.l 5, none, (.alloc [(.i .i64 0), (.i .i64 0), (.i .i64 0)]), []⟩, ⟨.no, none, (.st 3), [.l 5, .l 53]⟩]))
 (.reg [⟨.t 31, none, .mv, [.l 4]⟩, ⟨.t 32, none, (.call 88), [.t 31]⟩, ⟨.t 30, none, .mv, [.t 32]⟩, ⟨.t 33, none, (.ext 0), [.t 30]⟩, ⟨.t 34, none, (.ext 1), [.t 30]⟩, ⟨.no, none, (.st 3), [.l 5, .t 33]⟩, ⟨.l 6, none, .mv, [.t 34]⟩])))))))))
 (.reg [⟨.t 54, none, (.bin .add), [.l 20, .c (.i .i64 1)]⟩, ⟨.l 20, none, .mv, [.t 54]⟩])))))))
 (.seq (.reg [⟨.t 55, none, .mv, [.l 2]⟩, ⟨.l 2, none, .mv, [.t 55]⟩])
 .ret)))), [.tmp (.l 2)]⟩
/-- (*tarpaulin/timer.Set).has -/
def b79 : Nat := 19
def a79 : AFn := ⟨(.seq (.reg [⟨.l 4, none, .mv, [.c (.b false)]⟩])
 (.seq (.reg [⟨.t 5, none, .mv, [.l 0]⟩, ⟨.t 6, none, (.eq true .ptr), [.t 5, .c (.p none)]⟩, ⟨.t 7, none, .mv, [.t 6]⟩, ⟨.t 8, (some (.t 7, true)), .mv, [.l 1]⟩, ⟨.t 9, (some (.t 7, true)), (.bin .geq), [.t 8, .c (.i .i64 0)]⟩, ⟨.t 10, none, .pick, [.t 7, .t 9, .c (.b false)]⟩, ⟨.t 11, none, .mv, [.t 10]⟩, ⟨.t 12, (some (.t 11, true)), .mv, [.l 1]⟩, ⟨.t 13, (some (.t 11, true)), .mv, [.l 0]⟩, ⟨.t 14, (some (.t 11, true)), .nilchk, [.t 13]⟩, ⟨.t 15, (some (.t 11, true)), (.fad 0), [.t 14]⟩, ⟨.t 16, (some (.t 11, true)), (.ld none), [.t 15]⟩, ⟨.t 17, (some (.t 11, true)), .lenSl, [.t 16]⟩, ⟨.t 18, (some (.t 11, true)), (.bin .lss), [.t 12, .t 17]⟩, ⟨.t 19, none, .pick, [.t 11, .t 18, .c (.b false)]⟩, ⟨.l 4, none, .mv, [.t 19]⟩])
 .ret)), [.tmp (.l 4)]⟩
/-- (*tarpaulin/expire.Timers).Stop -/
def b80 : Nat := 83
def a80 : AFn := ⟨(.seq (.reg [⟨.l 4, none, .mv, [.c (.b false)]⟩])
 (.seq (.seq (.reg [⟨.t 7, none, .mv, [.l 0]⟩, ⟨.t 8, none, (.eq false .ptr), [.t 7, .c (.p none)]⟩])
 (.cond (.t 8) (.seq (.reg [⟨.l 4, none, .mv, [.c (.b false)]⟩])
 .ret) .skip))
 (.seq (.reg [⟨.t 10, none, .mv, [.l 0]⟩, ⟨.t 11, none, .nilchk, [.t 10]⟩, ⟨.t 12, none, (.fad 0), [.t 11]⟩, ⟨.t 13, none, (.ld none), [.t 12]⟩, ⟨.t 14, none, .mv, [.l 1]⟩, ⟨.t 15, none, (.call 86), [.t 13, .t 14]⟩, ⟨.t 9, none, .mv, [.t 15]⟩, ⟨.t 16, none, (.ext 0), [.t 9]⟩, ⟨.t 17, none, (.ext 1), [.t 9]⟩, ⟨.t 5, none, (.alloc [(.i .i64 0), (.i .i64 0), (.i .i64 0)]), []⟩, ⟨.no, none, (.st 3), [.t 5, .t 16]⟩, ⟨.l 6, none, .mv, [.t 17]⟩])
 (.seq (.reg [⟨.t 18, none, .mv, [.l 0]⟩, ⟨.t 19, none, .nilchk, [.t 18]⟩, ⟨.t 20, none, (.fad 1), [.t 19]⟩, ⟨.t 21, none, (.ld none), [.t 20]⟩, ⟨.t 22, none, .mv, [.l 1]⟩, ⟨.no, none, .mdel, [.t 21, .t 22]⟩])
 (.seq (.reg [⟨.t 23, none, .mv, [.l 6]⟩, ⟨.l 4, none, .mv, [.t 23]⟩])
 .ret))))), [.tmp (.l 4)]⟩
/-- (*tarpaulin/chanq.Chan).Drop -/
def b81 : Nat := 5
def a81 : AFn := ⟨(.seq (.reg [⟨.l 2, none, .mv, [.c (.b false)]⟩])
 (.seq (.reg [⟨.t 3, none, .mv, [.l 0]⟩, ⟨.t 4, none, (.eq true .ptr), [.t 3, .c (.p none)]⟩, ⟨.t 5, none, .mv, [.t 4]⟩, ⟨.t 6, (some (.t 5, true)), .mv, [.l 0]⟩, ⟨.t 7, (some (.t 5, true)), .nilchk, [.t 6]⟩, ⟨.t 8, (some (.t 5, true)), (.fad 3), [.t 7]⟩, ⟨.t 9, (some (.t 5, true)), (.ld none), [.t 8]⟩, ⟨.t 10, none, .pick, [.t 5, .t 9, .c (.b false)]⟩, ⟨.t 11, none, .mv, [.t 10]⟩, ⟨.t 12, (some (.t 11, true)), .mv, [.l 0]⟩, ⟨.t 13, (some (.t 11, true)), .nilchk, [.t 12]⟩, ⟨.t 14, (some (.t 11, true)), (.fad 0), [.t 13]⟩, ⟨.t 15, (some (.t 11, true)), (.ld none), [.t 14]⟩, ⟨.t 16, (some (.t 11, true)), (.call 93), [.t 15]⟩, ⟨.t 17, (some (.t 11, true)), (.bin .gtr), [.t 16, .c (.i .i64 0)]⟩, ⟨.t 18, none, .pick, [.t 11, .t 17, .c (.b false)]⟩, ⟨.l 2, none, .mv, [.t 18]⟩])
 .ret)), [.tmp (.l 2)]⟩
/-- slices.Clone[[]int,int] -/
def b82 : Nat := 5
def a82 : AFn := ⟨(.seq (.reg [⟨.l 2, none, .mv, [.c (.sl none 0 0 0)]⟩])
 (.seq (.seq (.reg [⟨.t 3, none, .mv, [.l 0]⟩, ⟨.t 4, none, (.eq false .slnil), [.t 3, .c (.sl none 0 0 0)]⟩])
 (.cond (.t 4) (.seq (.reg [⟨.l 2, none, .mv, [.c (.sl none 0 0 0)]⟩])
 .ret) .skip))
 (.seq (.reg [⟨.t 5, none, (.bslice [(.i .i64 0)] 0 1 []), []⟩, ⟨.t 6, none, .mv, [.l 0]⟩, ⟨.t 7, none, (.app 1 8), [.t 5, .t 6]⟩, ⟨.l 2, none, .mv, [.t 7]⟩])
 .ret))), [.tmp (.l 2)]⟩
/-- (*tarpaulin/tree.Tree).Len -/
def b83 : Nat := 5
def a83 : AFn := ⟨(.seq (.reg [⟨.l 2, none, .mv, [.c (.i .i64 0)]⟩])
 (.seq (.seq (.reg [⟨.t 3, none, .mv, [.l 0]⟩, ⟨.t 4, none, (.eq false .ptr), [.t 3, .c (.p none)]⟩])
 (.cond (.t 4) (.seq (.reg [⟨.l 2, none, .mv, [.c (.i .i64 0)]⟩])
 .ret) .skip))
 (.seq (.reg [⟨.t 5, none, .mv, [.l 0]⟩, ⟨.t 6, none, .nilchk, [.t 5]⟩, ⟨.t 7, none, (.fad 0), [.t 6]⟩, ⟨.t 8, none, (.ld none), [.t 7]⟩, ⟨.t 9, none, .lenSl, [.t 8]⟩, ⟨.l 2, none, .mv, [.t 9]⟩])
 .ret))), [.tmp (.l 2)]⟩
/-- tarpaulin/timer.bad -/
def b84 : Nat := 5
def a84 : AFn := ⟨(.seq (.reg [⟨.l 2, none, .mv, [.c (.b false)]⟩])
 (.seq (.reg [⟨.t 3, none, .mv, [.l 0]⟩, ⟨.t 4, none, (.bin .lss), [.t 3, .c (.i .i64 0)]⟩, ⟨.t 5, none, .mv, [.t 4]⟩, ⟨.t 6, (some (.t 5, false)), .mv, [.l 0]⟩, ⟨.t 7, (some (.t 5, false)), (.bin .gtr), [.t 6, .c (.i .i64 4611686018427387904)]⟩, ⟨.t 8, none, .pick, [.t 5, .c (.b true), .t 7]⟩, ⟨.l 2, none, .mv, [.t 8]⟩])
 .ret)), [.tmp (.l 2)]⟩
/-- (*tarpaulin/timer.Set).arm -/
def b85 : Nat := 271
def a85 : AFn := ⟨(.seq (.reg [⟨.l 8, none, .mv, [.c (.i .i64 0)]⟩])
 (.seq (.seq (.reg [⟨.t 9, none, .mv, [.l 0]⟩, ⟨.t 10, none, .nilchk, [.t 9]⟩, ⟨.t 11, none, (.fad 0), [.t 10]⟩, ⟨.t 12, none, (.ld none), [.t 11]⟩, ⟨.t 13, none, .mv, [.l 1]⟩, ⟨.t 14, none, (.iad 4), [.t 12, .t 13]⟩, ⟨.t 15, none, (.fad 0), [.t 14]⟩, ⟨.t 16, none, (.ld none), [.t 15]⟩, ⟨.t 17, none, (.bin .eql), [.t 16, .c (.i .i64 2)]⟩])
 (.cond (.t 17) (.reg [⟨.t 18, none, .mv, [.l 3]⟩, ⟨.t 19, none, .min, [.t 18, .c (.i .i64 4611686018427387904)]⟩, ⟨.l 8, none, .mv, [.t 19]⟩]) .skip))
 (.seq (.regD [⟨.t 20, none, .mv, [.l 0]⟩, ⟨.t 21, none, .nilchk, [.t 20]⟩, ⟨.t 22, none, (.fad 1), [.t 21]⟩, ⟨.t 23, none, (.ld none), [.t 22]⟩, ⟨.t 24, none, .mv, [.l 1]⟩, ⟨.t 25, none, .mv, [.l 2]⟩, ⟨.t 26, none, .mv, [.l 3]⟩, ⟨.t 27, none, .max, [.t 26, .c (.i .i64 0)]⟩, ⟨.t 28, none, (.call 43), [.t 25, .t 27]⟩, ⟨.t 29, none, .mv, [.l 8]⟩, ⟨.t 30, none, (.call 71), [.t 23, .t 24, .t 28, .t 29]⟩] [(3, 9)])
 (.reg [⟨.t 31, none, .mv, [.l 0]⟩, ⟨.t 32, none, .nilchk, [.t 31]⟩, ⟨.t 33, none, (.fad 0), [.t 32]⟩, ⟨.t 34, none, (.ld none), [.t 33]⟩, ⟨.t 35, none, .mv, [.l 1]⟩, ⟨.t 36, none, (.iad 4), [.t 34, .t 35]⟩, ⟨.t 37, none, (.fad 3), [.t 36]⟩, ⟨.t 38, none, (.ld none), [.t 37]⟩, ⟨.t 39, none, (.bin .add), [.t 38, .c (.i .i64 1)]⟩, ⟨.t 40, none, (.iad 4), [.t 34, .t 35]⟩, ⟨.t 41, none, (.fad 3), [.t 40]⟩, ⟨.no, none, (.st 1), [.t 41, .t 39]⟩])))), []⟩
/-- (*tarpaulin/heap.Heap).Remove -/
def b86 : Nat := 2035
def a86 : AFn := ⟨(.seq (.reg [⟨.l 4, none, (.alloc [(.i .i64 0), (.i .i64 0), (.i .i64 0)]), []⟩, ⟨.l 5, none, .mv, [.c (.b false)]⟩])
 (.seq (.reg [⟨.t 12, none, .mv, [.l 0]⟩, ⟨.t 13, none, .mv, [.l 1]⟩, ⟨.t 14, none, (.call 94), [.t 12, .t 13]⟩, ⟨.t 11, none, .mv, [.t 14]⟩, ⟨.t 15, none, (.ext 0), [.t 11]⟩, ⟨.t 16, none, (.ext 1), [.t 11]⟩, ⟨.l 6, none, (.alloc [(.i .i64 0), (.i .i64 0), (.i .i64 0)]), []⟩, ⟨.no, none, (.st 3), [.l 6, .t 15]⟩, ⟨.l 7, none, .mv, [.t 16]⟩])
 (.seq (.seq (.reg [⟨.t 17, none, .mv, [.l 7]⟩, ⟨.t 18, none, (.un .not), [.t 17]⟩])
 (.cond (.t 18) (.seq (.reg [⟨.t 19, none, (.build [(.i .i64 0), (.i .i64 0), (.i .i64 0)] []), []⟩, ⟨.no, none, (.st 3), [.l 4, .t 19]⟩, ⟨.l 5, none, .mv, [.c (.b false)]⟩])
 .ret) .skip))
 (.seq (.reg [⟨.t 20, none, .mv, [.l 0]⟩, ⟨.t 21, none, .nilchk, [.t 20]⟩, ⟨.t 22, none, (.fad 1), [.t 21]⟩, ⟨.t 23, none, (.ld none), [.t 22]⟩, ⟨.t 24, none, .mv, [.l 1]⟩, ⟨.t 25, none, (.lkup (.i .i64 0) false), [.t 23, .t 24]⟩, ⟨.t 26, none, .mv, [.l 0]⟩, ⟨.t 27, none, .nilchk, [.t 26]⟩, ⟨.t 28, none, (.fad 0), [.t 27]⟩, ⟨.t 29, none, (.ld none), [.t 28]⟩, ⟨.t 30, none, .lenSl, [.t 29]⟩, ⟨.t 31, none, (.bin .sub), [.t 30, .c (.i .i64 1)]⟩, ⟨.l 8, none, .mv, [.t 25]⟩, ⟨.l 9, none, .mv, [.t 31]⟩])
 (.seq (.reg [⟨.t 32, none, .mv, [.l 0]⟩, ⟨.t 33, none, .nilchk, [.t 32]⟩, ⟨.t 34, none, (.fad 0), [.t 33]⟩, ⟨.t 35, none, (.ld none), [.t 34]⟩, ⟨.t 36, none, .mv, [.l 9]⟩, ⟨.t 37, none, (.iad 3), [.t 35, .t 36]⟩, ⟨.t 38, none, (.ld (some 3)), [.t 37]⟩, ⟨.l 10, none, (.alloc [(.i .i64 0), (.i .i64 0), (.i .i64 0)]), []⟩, ⟨.no, none, (.st 3), [.l 10, .t 38]⟩])
 (.seq (.reg [⟨.t 39, none, .mv, [.l 0]⟩, ⟨.t 40, none, .mv, [.l 0]⟩, ⟨.t 41, none, .nilchk, [.t 40]⟩, ⟨.t 42, none, (.fad 0), [.t 41]⟩, ⟨.t 43, none, (.ld none), [.t 42]⟩, ⟨.t 44, none, .mv, [.l 9]⟩, ⟨.t 45, none, (.slc 3 false true false), [.t 43, .t 44]⟩, ⟨.t 46, none, .nilchk, [.t 39]⟩, ⟨.t 47, none, (.fad 0), [.t 46]⟩, ⟨.no, none, (.st 1), [.t 47, .t 45]⟩])
 (.seq (.reg [⟨.t 48, none, .mv, [.l 0]⟩, ⟨.t 49, none, .nilchk, [.t 48]⟩, ⟨.t 50, none, (.fad 1), [.t 49]⟩, ⟨.t 51, none, (.ld none), [.t 50]⟩, ⟨.t 52, none, .mv, [.l 1]⟩, ⟨.no, none, .mdel, [.t 51, .t 52]⟩])
 (.seq (.seq (.reg [⟨.t 53, none, .mv, [.l 8]⟩, ⟨.t 54, none, .mv, [.l 9]⟩, ⟨.t 55, none, (.bin .lss), [.t 53, .t 54]⟩])
 (.cond (.t 55) (.seq (.reg [⟨.t 56, none, .mv, [.l 0]⟩, ⟨.t 57, none, .mv, [.l 8]⟩, ⟨.t 58, none, (.ld (some 3)), [.l 10]⟩, ⟨.t 59, none, (.call 95), [.t 56, .t 57, .t 58]⟩])
 (.seq (.reg [⟨.t 60, none, .mv, [.l 0]⟩, ⟨.t 61, none, .mv, [.l 8]⟩, ⟨.t 62, none, (.call 96), [.t 60, .t 61]⟩])
 (.reg [⟨.t 63, none, .mv, [.l 0]⟩, ⟨.t 64, none, .mv, [.l 0]⟩, ⟨.t 65, none, .nilchk, [.t 64]⟩, ⟨.t 66, none, (.fad 1), [.t 65]⟩, ⟨.t 67, none, (.ld none), [.t 66]⟩, ⟨.t 68, none, (.fad 0), [.l 10]⟩, ⟨.t 69, none, (.ld none), [.t 68]⟩, ⟨.t 70, none, (.lkup (.i .i64 0) false), [.t 67, .t 69]⟩, ⟨.t 71, none, (.call 97), [.t 63, .t 70]⟩]))) .skip))
 (.seq (.reg [⟨.t 72, none, (.ld (some 3)), [.l 6]⟩, ⟨.no, none, (.st 3), [.l 4, .t 72]⟩, ⟨.l 5, none, .mv, [.c (.b true)]⟩])
 .ret))))))))), [.cell (.l 4) (some 3), .tmp (.l 5)]⟩
/-- (*tarpaulin/heap.Heap).Add -/
def b87 : Nat := 327
def a87 : AFn := ⟨(.seq (.reg [⟨.l 6, none, .mv, [.c (.i .i64 0)]⟩])
 (.seq (.seq (.reg [⟨.t 9, none, .mv, [.l 0]⟩, ⟨.t 10, none, (.eq false .ptr), [.t 9, .c (.p none)]⟩])
 (.cond (.t 10) (.seq (.reg [⟨.l 6, none, .mv, [.c (.i .i64 1)]⟩])
 .ret) .skip))
 (.seq (.seq (.reg [⟨.t 12, none, .mv, [.l 0]⟩, ⟨.t 13, none, .nilchk, [.t 12]⟩, ⟨.t 14, none, (.fad 1), [.t 13]⟩, ⟨.t 15, none, (.ld none), [.t 14]⟩, ⟨.t 16, none, .mv, [.l 1]⟩, ⟨.t 17, none, (.lkup (.i .i64 0) true), [.t 15, .t 16]⟩, ⟨.t 11, none, .mv, [.t 17]⟩, ⟨.t 18, none, (.ext 0), [.t 11]⟩, ⟨.t 19, none, (.ext 1), [.t 11]⟩, ⟨.t 7, none, .mv, [.t 18]⟩, ⟨.l 8, none, .mv, [.t 19]⟩])
 (.seq (.reg [⟨.t 20, none, .mv, [.l 8]⟩])
 (.cond (.t 20) (.seq (.reg [⟨.l 6, none, .mv, [.c (.i .i64 1)]⟩])
 .ret) .skip)))
 (.seq (.reg [⟨.t 21, none, .mv, [.l 0]⟩, ⟨.t 22, none, .nilchk, [.t 21]⟩, ⟨.t 23, none, (.fad 2), [.t 22]⟩, ⟨.t 24, none, (.ld none), [.t 23]⟩, ⟨.t 25, none, (.bin .add), [.t 24, .c (.i .i64 1)]⟩, ⟨.t 26, none, .nilchk, [.t 21]⟩, ⟨.t 27, none, (.fad 2), [.t 26]⟩, ⟨.no, none, (.st 1), [.t 27, .t 25]⟩])
 (.seq (.reg [⟨.t 28, none, .mv, [.l 0]⟩, ⟨.t 29, none, .mv, [.l 0]⟩, ⟨.t 30, none, .nilchk, [.t 29]⟩, ⟨.t 31, none, (.fad 0), [.t 30]⟩, ⟨.t 32, none, (.ld none), [.t 31]⟩, ⟨.t 33, none, .mv, [.l 1]⟩, ⟨.t 34, none, .mv, [.l 2]⟩, ⟨.t 35, none, .mv, [.l 0]⟩, ⟨.t 36, none, .nilchk, [.t 35]⟩, ⟨.t 37, none, (.fad 2), [.t 36]⟩, ⟨.t 38, none, (.ld none), [.t 37]⟩, ⟨.t 39, none, (.build [(.i .i64 0), (.i .i64 0), (.i .i64 0)] [(0, 1), (1, 1), (2, 1)]), [.t 33, .t 34, .t 38]⟩, ⟨.t 40, none, (.bslice [(.i .i64 0), (.i .i64 0), (.i .i64 0)] 1 3 [0]), [.t 39]⟩, ⟨.t 41, none, (.app 3 24), [.t 32, .t 40]⟩, ⟨.t 42, none, .nilchk, [.t 28]⟩, ⟨.t 43, none, (.fad 0), [.t 42]⟩, ⟨.no, none, (.st 1), [.t 43, .t 41]⟩])
 (.seq (.reg [⟨.t 44, none, .mv, [.l 0]⟩, ⟨.t 45, none, .mv, [.l 0]⟩, ⟨.t 46, none, .nilchk, [.t 45]⟩, ⟨.t 47, none, (.fad 0), [.t 46]⟩, ⟨.t 48, none, (.ld none), [.t 47]⟩, ⟨.t 49, none, .lenSl, [.t 48]⟩, ⟨.t 50, none, (.bin .sub), [.t 49, .c (.i .i64 1)]⟩, ⟨.t 51, none, (.call 96), [.t 44, .t 50]⟩])
 (.seq (.reg [⟨.l 6, none, .mv, [.c (.i .i64 0)]⟩])
 .ret))))))), [.tmp (.l 6)]⟩
/-- (*tarpaulin/wait.Queue).Pop -/
def b88 : Nat := 13
def a88 : AFn := ⟨(.seq (.reg [⟨.l 2, none, (.alloc [(.i .i64 0), (.i .i64 0), (.i .i64 0)]), []⟩, ⟨.l 3, none, .mv, [.c (.b false)]⟩])
 (.seq (.reg [⟨.t 4, none, .mv, [.l 0]⟩, ⟨.t 5, none, (.call 98), [.t 4, .c (.fn 99 [] [])]⟩, ⟨.t 6, none, (.ext 0), [.t 5]⟩, ⟨.t 7, none, (.ext 1), [.t 5]⟩, ⟨.no, none, (.st 3), [.l 2, .t 6]⟩, ⟨.l 3, none, .mv, [.t 7]⟩])
 .ret)), [.cell (.l 2) (some 3), .tmp (.l 3)]⟩
/-- (*tarpaulin/heap.Heap).Len -/
def b89 : Nat := 5
def a89 : AFn := ⟨(.seq (.reg [⟨.l 2, none, .mv, [.c (.i .i64 0)]⟩])
 (.seq (.seq (.reg [⟨.t 3, none, .mv, [.l 0]⟩, ⟨.t 4, none, (.eq false .ptr), [.t 3, .c (.p none)]⟩])
 (.cond (.t 4) (.seq (.reg [⟨.l 2, none, .mv, [.c (.i .i64 0)]⟩])
 .ret) .skip))
 (.seq (.reg [⟨.t 5, none, .mv, [.l 0]⟩, ⟨.t 6, none, .nilchk, [.t 5]⟩, ⟨.t 7, none, (.fad 0), [.t 6]⟩, ⟨.t 8, none, (.ld none), [.t 7]⟩, ⟨.t 9, none, .lenSl, [.t 8]⟩, ⟨.l 2, none, .mv, [.t 9]⟩])
 .ret))), [.tmp (.l 2)]⟩
/-- (*tarpaulin/tarpaulinref1.Tree).Add -/
def b90 : Nat := 199
def a90 : AFn := ⟨(.seq (.reg [⟨.l 6, none, .mv, [.c (.i .i64 0)]⟩, ⟨.l 7, none, .mv, [.c (.i .i64 0)]⟩])
 (.seq (.seq (.reg [⟨.t 8, none, .mv, [.l 1]⟩, ⟨.t 9, none, (.bin .lss), [.t 8, .c (.i .i64 (-1))]⟩, ⟨.t 10, none, .mv, [.t 9]⟩, ⟨.t 11, (some (.t 10, false)), .mv, [.l 1]⟩, ⟨.t 12, (some (.t 10, false)), .mv, [.l 0]⟩, ⟨.t 13, (some (.t 10, false)), .nilchk, [.t 12]⟩, ⟨.t 14, (some (.t 10, false)), (.fad 0), [.t 13]⟩, ⟨.t 15, (some (.t 10, false)), (.ld none), [.t 14]⟩, ⟨.t 16, (some (.t 10, false)), .lenSl, [.t 15]⟩, ⟨.t 17, (some (.t 10, false)), (.bin .geq), [.t 11, .t 16]⟩, ⟨.t 18, none, .pick, [.t 10, .c (.b true), .t 17]⟩])
 (.cond (.t 18) (.seq (.reg [⟨.l 6, none, .mv, [.c (.i .i64 0)]⟩, ⟨.l 7, none, .mv, [.c (.i .i64 1)]⟩])
 .ret) .skip))
 (.seq (.seq (.reg [⟨.t 19, none, .mv, [.l 0]⟩, ⟨.t 20, none, .nilchk, [.t 19]⟩, ⟨.t 21, none, (.fad 0), [.t 20]⟩, ⟨.t 22, none, (.ld none), [.t 21]⟩, ⟨.t 23, none, .lenSl, [.t 22]⟩, ⟨.t 24, none, (.bin .geq), [.t 23, .c (.i .i64 1000)]⟩])
 (.cond (.t 24) (.seq (.reg [⟨.l 6, none, .mv, [.c (.i .i64 0)]⟩, ⟨.l 7, none, .mv, [.c (.i .i64 3)]⟩])
 .ret) .skip))
 (.seq (.reg [⟨.t 25, none, .mv, [.l 0]⟩, ⟨.t 26, none, .mv, [.l 0]⟩, ⟨.t 27, none, .nilchk, [.t 26]⟩, ⟨.t 28, none, (.fad 0), [.t 27]⟩, ⟨.t 29, none, (.ld none), [.t 28]⟩, ⟨.t 30, none, .mv, [.l 1]⟩, ⟨.t 31, none, .mv, [.l 2]⟩, ⟨.t 32, none, .mv, [.t 31]⟩, ⟨.t 33, (some (.t 32, true)), .mv, [.l 1]⟩, ⟨.t 34, (some (.t 32, true)), (.bin .geq), [.t 33, .c (.i .i64 0)]⟩, ⟨.t 35, none, .pick, [.t 32, .t 34, .c (.b false)]⟩, ⟨.t 36, none, (.build [(.i .i64 0), (.b false)] [(0, 1), (1, 1)]), [.t 30, .t 35]⟩, ⟨.t 37, none, (.bslice [(.i .i64 0), (.b false)] 1 2 [0]), [.t 36]⟩, ⟨.t 38, none, (.app 2 16), [.t 29, .t 37]⟩, ⟨.t 39, none, .nilchk, [.t 25]⟩, ⟨.t 40, none, (.fad 0), [.t 39]⟩, ⟨.no, none, (.st 1), [.t 40, .t 38]⟩])
 (.seq (.reg [⟨.t 41, none, .mv, [.l 0]⟩, ⟨.t 42, none, .nilchk, [.t 41]⟩, ⟨.t 43, none, (.fad 0), [.t 42]⟩, ⟨.t 44, none, (.ld none), [.t 43]⟩, ⟨.t 45, none, .lenSl, [.t 44]⟩, ⟨.t 46, none, (.bin .sub), [.t 45, .c (.i .i64 1)]⟩, ⟨.l 6, none, .mv, [.t 46]⟩, ⟨.l 7, none, .mv, [.c (.i .i64 0)]⟩])
 .ret))))), [.tmp (.l 6), .tmp (.l 7)]⟩
/-- slices.ContainsFunc[[]tarpaulin/api.Wake,tarpaulin/api.Wake] -/
def b91 : Nat := 19
def a91 : AFn := ⟨(.seq (.reg [⟨.l 4, none, .mv, [.c (.b false)]⟩])
 (.seq (.reg [⟨.t 5, none, .mv, [.l 0]⟩, ⟨.t 6, none, .mv, [.l 1]⟩, ⟨.t 7, none, (.call 100), [.t 5, .t 6]⟩, ⟨.t 8, none, (.bin .geq), [.t 7, .c (.i .i64 0)]⟩, ⟨.l 4, none, .mv, [.t 8]⟩])
 .ret)), [.tmp (.l 4)]⟩
/-- (*tarpaulin/chanq.Chan).end$1 -/
def b92 : Nat := 15
def a92 : AFn := ⟨(.seq (.reg [⟨.l 2, none, .box, [.l 0]⟩, ⟨.l 3, none, .mv, [.c (.b false)]⟩])
 (.seq (.reg [⟨.t 4, none, (.fad 0), [.l 2]⟩, ⟨.t 5, none, (.ld none), [.t 4]⟩, ⟨.t 6, none, (.fad 0), [.l 1]⟩, ⟨.t 7, none, (.ld none), [.t 6]⟩, ⟨.t 8, none, (.bin .eql), [.t 5, .t 7]⟩, ⟨.l 3, none, .mv, [.t 8]⟩])
 .ret)), [.tmp (.l 3)]⟩
/-- (*tarpaulin/ring.Ring).Clear -/
def b93 : Nat := 13
def a93 : AFn := ⟨(.seq (.reg [⟨.l 2, none, .mv, [.c (.i .i64 0)]⟩])
 (.seq (.reg [⟨.t 4, none, .mv, [.l 0]⟩, ⟨.t 5, none, (.call 66), [.t 4]⟩, ⟨.l 3, none, .mv, [.t 5]⟩])
 (.seq (.seq (.reg [⟨.t 6, none, .mv, [.l 3]⟩, ⟨.t 7, none, (.bin .gtr), [.t 6, .c (.i .i64 0)]⟩])
 (.cond (.t 7) (.reg [⟨.t 8, none, .mv, [.l 0]⟩, ⟨.t 9, none, .nilchk, [.t 8]⟩, ⟨.t 10, none, (.fad 2), [.t 9]⟩, ⟨.no, none, (.st 1), [.t 10, .c (.i .i64 0)]⟩]) .skip))
 (.seq (.reg [⟨.t 11, none, .mv, [.l 3]⟩, ⟨.l 2, none, .mv, [.t 11]⟩])
 .ret)))), [.tmp (.l 2)]⟩
/-- (*tarpaulin/heap.Heap).Find -/
def b94 : Nat := 243
def a94 : AFn := ⟨(.seq (.reg [⟨.l 4, none, (.alloc [(.i .i64 0), (.i .i64 0), (.i .i64 0)]), []⟩, ⟨.l 5, none, .mv, [.c (.b false)]⟩])
 (.seq (.seq (.reg [⟨.t 8, none, .mv, [.l 0]⟩, ⟨.t 9, none, (.eq false .ptr), [.t 8, .c (.p none)]⟩])
 (.cond (.t 9) (.seq (.reg [⟨.t 10, none, (.build [(.i .i64 0), (.i .i64 0), (.i .i64 0)] []), []⟩, ⟨.no, none, (.st 3), [.l 4, .t 10]⟩, ⟨.l 5, none, .mv, [.c (.b false)]⟩])
 .ret) .skip))
 (.seq (.reg [⟨.t 12, none, .mv, [.l 0]⟩, ⟨.t 13, none, .nilchk, [.t 12]⟩, ⟨.t 14, none, (.fad 1), [.t 13]⟩, ⟨.t 15, none, (.ld none), [.t 14]⟩, ⟨.t 16, none, .mv, [.l 1]⟩, ⟨.t 17, none, (.lkup (.i .i64 0) true), [.t 15, .t 16]⟩, ⟨.t 11, none, .mv, [.t 17]⟩, ⟨.t 18, none, (.ext 0), [.t 11]⟩, ⟨.t 19, none, (.ext 1), [.t 11]⟩, ⟨.l 6, none, .mv, [.t 18]⟩, ⟨.l 7, none, .mv, [.t 19]⟩])
 (.seq (.seq (.reg [⟨.t 20, none, .mv, [.l 7]⟩, ⟨.t 21, none, (.un .not), [.t 20]⟩])
 (.cond (.t 21) (.seq (.reg [⟨.t 22, none, (.build [(.i .i64 0), (.i .i64 0), (.i .i64 0)] []), []⟩, ⟨.no, none, (.st 3), [.l 4, .t 22]⟩, ⟨.l 5, none, .mv, [.c (.b false)]⟩])
 .ret) .skip))
 (.seq (.reg [⟨.t 23, none, .mv, [.l 0]⟩, ⟨.t 24, none, .nilchk, [.t 23]⟩, ⟨.t 25, none, (.fad 0), [.t 24]⟩, ⟨.t 26, none, (.ld none), [.t 25]⟩, ⟨.t 27, none, .mv, [.l 6]⟩, ⟨.t 28, none, (.iad 3), [.t 26, .t 27]⟩, ⟨.t 29, none, (.ld (some 3)), [.t 28]⟩, ⟨.no, none, (.st 3), [.l 4, .t 29]⟩, ⟨.l 5, none, .mv, [.c (.b true)]⟩])
 .ret))))), [.cell (.l 4) (some 3), .tmp (.l 5)]⟩
/-- (*tarpaulin/heap.Heap).put -/
def b95 : Nat := 39
def a95 : AFn := ⟨(.seq (.reg [⟨.l 5, none, .box, [.l 2]⟩])
 (.seq (.reg [⟨.t 6, none, .mv, [.l 0]⟩, ⟨.t 7, none, .nilchk, [.t 6]⟩, ⟨.t 8, none, (.fad 0), [.t 7]⟩, ⟨.t 9, none, (.ld none), [.t 8]⟩, ⟨.t 10, none, .mv, [.l 1]⟩, ⟨.t 11, none, (.ld (some 3)), [.l 5]⟩, ⟨.t 12, none, (.iad 3), [.t 9, .t 10]⟩, ⟨.no, none, (.st 3), [.t 12, .t 11]⟩])
 (.reg [⟨.t 13, none, .mv, [.l 0]⟩, ⟨.t 14, none, .nilchk, [.t 13]⟩, ⟨.t 15, none, (.fad 1), [.t 14]⟩, ⟨.t 16, none, (.ld none), [.t 15]⟩, ⟨.t 17, none, (.fad 0), [.l 5]⟩, ⟨.t 18, none, (.ld none), [.t 17]⟩, ⟨.t 19, none, .mv, [.l 1]⟩, ⟨.no, none, .mset, [.t 16, .t 18, .t 19]⟩]))), []⟩
/-- (*tarpaulin/heap.Heap).up -/
def b96 : Nat := 19
def a96 : AFn := ⟨(.seq (.reg [⟨.t 5, none, .mv, [.l 0]⟩, ⟨.t 6, none, .nilchk, [.t 5]⟩, ⟨.t 7, none, (.fad 0), [.t 6]⟩, ⟨.t 8, none, (.ld none), [.t 7]⟩, ⟨.t 9, none, .mv, [.l 1]⟩, ⟨.t 10, none, (.iad 3), [.t 8, .t 9]⟩, ⟨.t 11, none, (.ld (some 3)), [.t 10]⟩, ⟨.l 4, none, (.alloc [(.i .i64 0), (.i .i64 0), (.i .i64 0)]), []⟩, ⟨.no, none, (.st 3), [.l 4, .t 11]⟩])
 (.seq (.block 0 (.loop (.seq (.seq (.reg [⟨.t 12, none, .mv, [.l 1]⟩, ⟨.t 13, none, (.bin .gtr), [.t 12, .c (.i .i64 0)]⟩, ⟨.t 14, none, .mv, [.t 13]⟩, ⟨.t 15, (some (.t 14, true)), (.ld (some 3)), [.l 4]⟩, ⟨.t 16, (some (.t 14, true)), .mv, [.l 0]⟩, ⟨.t 17, (some (.t 14, true)), .nilchk, [.t 16]⟩, ⟨.t 18, (some (.t 14, true)), (.fad 0), [.t 17]⟩, ⟨.t 19, (some (.t 14, true)), (.ld none), [.t 18]⟩, ⟨.t 20, (some (.t 14, true)), .mv, [.l 1]⟩, ⟨.t 21, (some (.t 14, true)), (.bin .sub), [.t 20, .c (.i .i64 1)]⟩, ⟨.t 22, (some (.t 14, true)), (.bin .quo), [.t 21, .c (.i .i64 4)]⟩, ⟨.t 23, (some (.t 14, true)), (.iad 3), [.t 19, .t 22]⟩, ⟨.t 24, (some (.t 14, true)), (.ld (some 3)), [.t 23]⟩, ⟨.t 25, (some (.t 14, true)), (.call 101), [.t 15, .t 24]⟩, ⟨.t 26, (some (.t 14, true)), (.bin .lss), [.t 25, .c (.i .i64 0)]⟩, ⟨.t 27, none, .pick, [.t 14, .t 26, .c (.b false)]⟩])
 (.cond (.t 27) .skip (.exit 0)))
 (.block 1 (.seq (.reg [⟨.t 28, none, .mv, [.l 0]⟩, ⟨.t 29, none, .mv, [.l 1]⟩, ⟨.t 30, none, .mv, [.l 0]⟩, ⟨.t 31, none, .nilchk, [.t 30]⟩, ⟨.t 32, none, (.fad 0), [.t 31]⟩, ⟨.t 33, none, (.ld none), [.t 32]⟩, ⟨.t 34, none, .mv, [.l 1]⟩, ⟨.t 35, none, (.bin .sub), [.t 34, .c (.i .i64 1)]⟩, ⟨.t 36, none, (.bin .quo), [.t 35, .c (.i .i64 4)]⟩, ⟨.t 37, none, (.iad 3), [.t 33, .t 36]⟩, ⟨.t 38, none, (.ld (some 3)), [.t 37]⟩, ⟨.t 39, none, (.call 95), [.t 28, .t 29, .t 38]⟩])
 (.reg [⟨.t 40, none, .mv, [.l 1]⟩, ⟨.t 41, none, (.bin .sub), [.t 40, .c (.i .i64 1)]⟩, ⟨.t 42, none, (.bin .quo), [.t 41, .c (.i .i64 4)]⟩, ⟨.l 1, none, .mv, [.t 42]⟩]))))))
 (.reg [⟨.t 43, none, .mv, [.l 0]⟩, ⟨.t 44, none, .mv, [.l 1]⟩, ⟨.t 45, none, (.ld (some 3)), [.l 4]⟩, ⟨.t 46, none, (.call 95), [.t 43, .t 44, .t 45]⟩]))), []⟩
/-- (*tarpaulin/heap.Heap).down -/
def b97 : Nat := 243
def a97 : AFn := ⟨(.seq (.reg [⟨.t 8, none, .mv, [.l 0]⟩, ⟨.t 9, none, .nilchk, [.t 8]⟩, ⟨.t 10, none, (.fad 0), [.t 9]⟩, ⟨.t 11, none, (.ld none), [.t 10]⟩, ⟨.t 12, none, .mv, [.l 1]⟩, ⟨.t 13, none, (.iad 3), [.t 11, .t 12]⟩, ⟨.t 14, none, (.ld (some 3)), [.t 13]⟩, ⟨.l 4, none, (.alloc [(.i .i64 0), (.i .i64 0), (.i .i64 0)]), []⟩, ⟨.no, none, (.st 3), [.l 4, .t 14]⟩])
 (.seq (.block 0 (.loop (.block 1 (.seq (.reg [⟨.t 15, none, .mv, [.l 1]⟩, ⟨.t 16, none, (.bin .mul), [.c (.i .i64 4), .t 15]⟩, ⟨.t 17, none, (.bin .add), [.t 16, .c (.i .i64 1)]⟩, ⟨.l 5, none, .mv, [.t 17]⟩])
 (.seq (.seq (.reg [⟨.t 18, none, .mv, [.l 5]⟩, ⟨.t 19, none, .mv, [.l 0]⟩, ⟨.t 20, none, .nilchk, [.t 19]⟩, ⟨.t 21, none, (.fad 0), [.t 20]⟩, ⟨.t 22, none, (.ld none), [.t 21]⟩, ⟨.t 23, none, .lenSl, [.t 22]⟩, ⟨.t 24, none, (.bin .geq), [.t 18, .t 23]⟩])
 (.cond (.t 24) (.exit 0) .skip))
 (.seq (.reg [⟨.t 25, none, .mv, [.l 5]⟩, ⟨.l 6, none, .mv, [.t 25]⟩])
 (.seq (.seq (.reg [⟨.t 26, none, .mv, [.l 5]⟩, ⟨.t 27, none, (.bin .add), [.t 26, .c (.i .i64 1)]⟩, ⟨.l 7, none, .mv, [.t 27]⟩])
 (.block 2 (.loop (.seq (.seq (.reg [⟨.t 28, none, .mv, [.l 7]⟩, ⟨.t 29, none, .mv, [.l 5]⟩, ⟨.t 30, none, (.bin .add), [.t 29, .c (.i .i64 4)]⟩, ⟨.t 31, none, .mv, [.l 0]⟩, ⟨.t 32, none, .nilchk, [.t 31]⟩, ⟨.t 33, none, (.fad 0), [.t 32]⟩, ⟨.t 34, none, (.ld none), [.t 33]⟩, ⟨.t 35, none, .lenSl, [.t 34]⟩, ⟨.t 36, none, .min, [.t 30, .t 35]⟩, ⟨.t 37, none, (.bin .lss), [.t 28, .t 36]⟩])
 (.cond (.t 37) .skip (.exit 2)))
 (.seq (.block 3 (.seq (.reg [⟨.t 40, none, .mv, [.l 0]⟩, ⟨.t 41, none, .nilchk, [.t 40]⟩, ⟨.t 42, none, (.fad 0), [.t 41]⟩, ⟨.t 43, none, (.ld none), [.t 42]⟩, ⟨.t 44, none, .mv, [.l 7]⟩, ⟨.t 45, none, (.iad 3), [.t 43, .t 44]⟩, ⟨.t 46, none, (.ld (some 3)), [.t 45]⟩, ⟨.t 47, none, .mv, [.l 0]⟩, ⟨.t 48, none, .nilchk, [.t 47]⟩, ⟨.t 49, none, (.fad 0), [.t 48]⟩, ⟨.t 50, none, (.ld none), [.t 49]⟩, ⟨.t 51, none, .mv, [.l 6]⟩, ⟨.t 52, none, (.iad 3), [.t 50, .t 51]⟩, ⟨.t 53, none, (.ld (some 3)), [.t 52]⟩, ⟨.t 54, none, (.call 101), [.t 46, .t 53]⟩, ⟨.t 55, none, (.bin .lss), [.t 54, .c (.i .i64 0)]⟩])
 (.cond (.t 55) (.reg [⟨.t 56, none, .mv, [.l 7]⟩, ⟨.l 6, none, .mv, [.t 56]⟩]) .skip)))
 (.reg [⟨.t 38, none, .mv, [.l 7]⟩, ⟨.t 39, none, (.bin .add), [.t 38, .c (.i .i64 1)]⟩, ⟨.l 7, none, .mv, [.t 39]⟩]))))))
 (.seq (.seq (.reg [⟨.t 57, none, (.ld (some 3)), [.l 4]⟩, ⟨.t 58, none, .mv, [.l 0]⟩, ⟨.t 59, none, .nilchk, [.t 58]⟩, ⟨.t 60, none, (.fad 0), [.t 59]⟩, ⟨.t 61, none, (.ld none), [.t 60]⟩, ⟨.t 62, none, .mv, [.l 6]⟩, ⟨.t 63, none, (.iad 3), [.t 61, .t 62]⟩, ⟨.t 64, none, (.ld (some 3)), [.t 63]⟩, ⟨.t 65, none, (.call 101), [.t 57, .t 64]⟩, ⟨.t 66, none, (.bin .lss), [.t 65, .c (.i .i64 0)]⟩])
 (.cond (.t 66) (.exit 0) .skip))
 (.seq (.reg [⟨.t 67, none, .mv, [.l 0]⟩, ⟨.t 68, none, .mv, [.l 1]⟩, ⟨.t 69, none, .mv, [.l 0]⟩, ⟨.t 70, none, .nilchk, [.t 69]⟩, ⟨.t 71, none, (.fad 0), [.t 70]⟩, ⟨.t 72, none, (.ld none), [.t 71]⟩, ⟨.t 73, none, .mv, [.l 6]⟩, ⟨.t 74, none, (.iad 3), [.t 72, .t 73]⟩, ⟨.t 75, none, (.ld (some 3)), [.t 74]⟩, ⟨.t 76, none, (.call 95), [.t 67, .t 68, .t 75]⟩])
 (.reg [⟨.t 77, none, .mv, [.l 6]⟩, ⟨.l 1, none, .mv, [.t 77]⟩]))))))))))
 (.reg [⟨.t 78, none, .mv, [.l 0]⟩, ⟨.t 79, none, .mv, [.l 1]⟩, ⟨.t 80, none, (.ld (some 3)), [.l 4]⟩, ⟨.t 81, none, (.call 95), [.t 78, .t 79, .t 80]⟩]))), []⟩
/-- (*tarpaulin/wait.Queue).take -/
def b98 : Nat := 115
def a98 : AFn := ⟨(.seq (.reg [⟨.l 4, none, (.alloc [(.i .i64 0), (.i .i64 0), (.i .i64 0)]), []⟩, ⟨.l 5, none, .mv, [.c (.b false)]⟩])
 (.seq (.seq (.reg [⟨.t 7, none, .mv, [.l 0]⟩, ⟨.t 8, none, (.eq false .ptr), [.t 7, .c (.p none)]⟩])
 (.cond (.t 8) (.seq (.reg [⟨.t 9, none, (.build [(.i .i64 0), (.i .i64 0), (.i .i64 0)] []), []⟩, ⟨.no, none, (.st 3), [.l 4, .t 9]⟩, ⟨.l 5, none, .mv, [.c (.b false)]⟩])
 .ret) .skip))
 (.seq (.seq (.reg [⟨.t 10, none, .mv, [.l 0]⟩, ⟨.t 11, none, .nilchk, [.t 10]⟩, ⟨.t 12, none, (.fad 0), [.t 11]⟩, ⟨.t 13, none, (.ld none), [.t 12]⟩, ⟨.l 6, none, .mv, [.t 13]⟩])
 (.block 0 (.loop (.seq (.seq (.reg [⟨.t 14, none, .mv, [.l 6]⟩, ⟨.t 15, none, (.eq true .ptr), [.t 14, .c (.p none)]⟩])
 (.cond (.t 15) .skip (.exit 0)))
 (.seq (.block 1 (.seq (.reg [⟨.t 20, none, .mv, [.l 1]⟩, ⟨.t 21, none, .mv, [.l 6]⟩, ⟨.t 22, none, .nilchk, [.t 21]⟩, ⟨.t 23, none, (.fad 0), [.t 22]⟩, ⟨.t 24, none, (.ld (some 3)), [.t 23]⟩, ⟨.t 25, none, .callv, [.t 20, .t 24]⟩])
 (.cond (.t 25) (.seq (.reg [⟨.t 26, none, .mv, [.l 0]⟩, ⟨.t 27, none, .mv, [.l 6]⟩, ⟨.t 28, none, (.call 102), [.t 26, .t 27]⟩])
 (.seq (.reg [⟨.t 29, none, .mv, [.l 6]⟩, ⟨.t 30, none, .nilchk, [.t 29]⟩, ⟨.t 31, none, (.fad 0), [.t 30]⟩, ⟨.t 32, none, (.ld (some 3)), [.t 31]⟩, ⟨.no, none, (.st 3), [.l 4, .t 32]⟩, ⟨.l 5, none, .mv, [.c (.b true)]⟩])
 .ret)) .skip)))
 (.reg [⟨.t 16, none, .mv, [.l 6]⟩, ⟨.t 17, none, .nilchk, [.t 16]⟩, ⟨.t 18, none, (.fad 4), [.t 17]⟩, ⟨.t 19, none, (.ld none), [.t 18]⟩, ⟨.l 6, none, .mv, [.t 19]⟩]))))))
 (.seq (.reg [⟨.t 33, none, (.build [(.i .i64 0), (.i .i64 0), (.i .i64 0)] []), []⟩, ⟨.no, none, (.st 3), [.l 4, .t 33]⟩, ⟨.l 5, none, .mv, [.c (.b false)]⟩])
 .ret)))), [.cell (.l 4) (some 3), .tmp (.l 5)]⟩
/-- (*tarpaulin/wait.Queue).Pop$1 -/
def b99 : Nat := 5
def a99 : AFn := ⟨(.seq (.reg [⟨.t 1, none, .box, [.l 0]⟩, ⟨.l 2, none, .mv, [.c (.b false)]⟩])
 (.seq (.reg [⟨.l 2, none, .mv, [.c (.b true)]⟩])
 .ret)), [.tmp (.l 2)]⟩
/-- slices.IndexFunc[[]tarpaulin/api.Wake,tarpaulin/api.Wake] -/
def b100 : Nat := 435
def a100 : AFn := ⟨(.seq (.reg [⟨.l 4, none, .mv, [.c (.i .i64 0)]⟩])
 (.seq (.seq (.reg [⟨.t 6, none, .mv, [.l 0]⟩, ⟨.l 7, none, .lenSl, [.t 6]⟩, ⟨.l 8, none, .mv, [.c (.i .i64 0)]⟩])
 (.block 0 (.loop (.seq (.reg [⟨.t 9, none, (.bin .lss), [.l 8, .l 7]⟩])
 (.seq (.cond (.t 9) .skip (.exit 0))
 (.seq (.block 1 (.seq (.reg [⟨.t 10, none, .mv, [.l 8]⟩, ⟨.l 5, none, .mv, [.t 10]⟩])
 (.seq (.reg [⟨.t 11, none, .mv, [.l 1]⟩, ⟨.t 12, none, .mv, [.l 0]⟩, ⟨.t 13, none, .mv, [.l 5]⟩, ⟨.t 14, none, (.iad 5), [.t 12, .t 13]⟩, ⟨.t 15, none, (.ld (some 5)), [.t 14]⟩, ⟨.t 16, none, .callv, [.t 11, .t 15]⟩])
 (.cond (.t 16) (.seq (.reg [⟨.t 17, none, .mv, [.l 5]⟩, ⟨.l 4, none, .mv, [.t 17]⟩])
 .ret) .skip))))
 (.reg [⟨.t 18, none, (.bin .add), [.l 8, .c (.i .i64 1)]⟩, ⟨.l 8, none, .mv, [.t 18]⟩])))))))
 (.seq (.reg [⟨.l 4, none, .mv, [.c (.i .i64 (-1))]⟩])
 .ret))), [.tmp (.l 4)]⟩
/-- tarpaulin/heap.ahead -/
def b101 : Nat := 31
def a101 : AFn := ⟨(.seq (.reg [⟨.l 2, none, .box, [.l 0]⟩, ⟨.l 3, none, .box, [.l 1]⟩, ⟨.l 4, none, .mv, [.c (.i .i64 0)]⟩])
 (.seq (.regD [⟨.t 5, none, (.fad 1), [.l 2]⟩, ⟨.t 6, none, (.ld none), [.t 5]⟩, ⟨.t 7, none, (.fad 1), [.l 3]⟩, ⟨.t 8, none, (.ld none), [.t 7]⟩, ⟨.t 9, none, (.call 104), [.t 6, .t 8]⟩, ⟨.t 10, none, (.fad 2), [.l 2]⟩, ⟨.t 11, none, (.ld none), [.t 10]⟩, ⟨.t 12, none, (.fad 2), [.l 3]⟩, ⟨.t 13, none, (.ld none), [.t 12]⟩, ⟨.t 14, none, (.call 104), [.t 11, .t 13]⟩, ⟨.t 15, none, (.bslice [(.i .i64 0)] 2 1 [0, 1]), [.t 9, .t 14]⟩, ⟨.t 16, none, (.call 103), [.t 15]⟩, ⟨.l 4, none, .mv, [.t 16]⟩] [(6, 0), (8, 0)])
 .ret)), [.tmp (.l 4)]⟩
/-- (*tarpaulin/wait.Queue).drop -/
def b102 : Nat := 3
def a102 : AFn := ⟨(.seq (.seq (.reg [⟨.t 4, none, .mv, [.l 1]⟩, ⟨.t 5, none, .nilchk, [.t 4]⟩, ⟨.t 6, none, (.fad 3), [.t 5]⟩, ⟨.t 7, none, (.ld none), [.t 6]⟩, ⟨.t 8, none, (.eq false .ptr), [.t 7, .c (.p none)]⟩])
 (.cond (.t 8) (.reg [⟨.t 9, none, .mv, [.l 0]⟩, ⟨.t 10, none, .mv, [.l 1]⟩, ⟨.t 11, none, .nilchk, [.t 10]⟩, ⟨.t 12, none, (.fad 4), [.t 11]⟩, ⟨.t 13, none, (.ld none), [.t 12]⟩, ⟨.t 14, none, .nilchk, [.t 9]⟩, ⟨.t 15, none, (.fad 0), [.t 14]⟩, ⟨.no, none, (.st 1), [.t 15, .t 13]⟩]) (.reg [⟨.t 16, none, .mv, [.l 1]⟩, ⟨.t 17, none, .nilchk, [.t 16]⟩, ⟨.t 18, none, (.fad 3), [.t 17]⟩, ⟨.t 19, none, (.ld none), [.t 18]⟩, ⟨.t 20, none, .mv, [.l 1]⟩, ⟨.t 21, none, .nilchk, [.t 20]⟩, ⟨.t 22, none, (.fad 4), [.t 21]⟩, ⟨.t 23, none, (.ld none), [.t 22]⟩, ⟨.t 24, none, .nilchk, [.t 19]⟩, ⟨.t 25, none, (.fad 4), [.t 24]⟩, ⟨.no, none, (.st 1), [.t 25, .t 23]⟩])))
 (.seq (.seq (.reg [⟨.t 26, none, .mv, [.l 1]⟩, ⟨.t 27, none, .nilchk, [.t 26]⟩, ⟨.t 28, none, (.fad 4), [.t 27]⟩, ⟨.t 29, none, (.ld none), [.t 28]⟩, ⟨.t 30, none, (.eq false .ptr), [.t 29, .c (.p none)]⟩])
 (.cond (.t 30) (.reg [⟨.t 31, none, .mv, [.l 0]⟩, ⟨.t 32, none, .mv, [.l 1]⟩, ⟨.t 33, none, .nilchk, [.t 32]⟩, ⟨.t 34, none, (.fad 3), [.t 33]⟩, ⟨.t 35, none, (.ld none), [.t 34]⟩, ⟨.t 36, none, .nilchk, [.t 31]⟩, ⟨.t 37, none, (.fad 1), [.t 36]⟩, ⟨.no, none, (.st 1), [.t 37, .t 35]⟩]) (.reg [⟨.t 38, none, .mv, [.l 1]⟩, ⟨.t 39, none, .nilchk, [.t 38]⟩, ⟨.t 40, none, (.fad 4), [.t 39]⟩, ⟨.t 41, none, (.ld none), [.t 40]⟩, ⟨.t 42, none, .mv, [.l 1]⟩, ⟨.t 43, none, .nilchk, [.t 42]⟩, ⟨.t 44, none, (.fad 3), [.t 43]⟩, ⟨.t 45, none, (.ld none), [.t 44]⟩, ⟨.t 46, none, .nilchk, [.t 41]⟩, ⟨.t 47, none, (.fad 3), [.t 46]⟩, ⟨.no, none, (.st 1), [.t 47, .t 45]⟩])))
 (.reg [⟨.t 48, none, .mv, [.l 0]⟩, ⟨.t 49, none, .nilchk, [.t 48]⟩, ⟨.t 50, none, (.fad 2), [.t 49]⟩, ⟨.t 51, none, (.ld none), [.t 50]⟩, ⟨.t 52, none, (.bin .sub), [.t 51, .c (.i .i64 1)]⟩, ⟨.t 53, none, .nilchk, [.t 48]⟩, ⟨.t 54, none, (.fad 2), [.t 53]⟩, ⟨.no, none, (.st 1), [.t 54, .t 52]⟩]))), []⟩
/-- cmp.Or[int] -/
def b103 : Nat := 493
def a103 : AFn := ⟨(.seq (.reg [⟨.l 2, none, .mv, [.c (.i .i64 0)]⟩])
 (.seq (.reg [⟨.l 3, none, .mv, [.c (.i .i64 0)]⟩])
 (.seq (.seq (.reg [⟨.l 6, none, .mv, [.l 0]⟩, ⟨.l 7, none, .lenSl, [.l 6]⟩, ⟨.l 8, none, .mv, [.c (.i .i64 0)]⟩])
 (.block 0 (.loop (.seq (.reg [⟨.t 9, none, (.bin .lss), [.l 8, .l 7]⟩])
 (.seq (.cond (.t 9) .skip (.exit 0))
 (.seq (.block 1 (.seq (.reg [⟨.t 10, none, (.iad 1), [.l 6, .l 8]⟩, ⟨.t 11, none, (.ld none), [.t 10]⟩, ⟨.l 5, none, .mv, [.t 11]⟩])
 (.seq (.reg [⟨.t 12, none, .mv, [.l 5]⟩, ⟨.t 13, none, .mv, [.l 3]⟩, ⟨.t 14, none, (.bin .neq), [.t 12, .t 13]⟩])
 (.cond (.t 14) (.seq (.reg [⟨.t 15, none, .mv, [.l 5]⟩, ⟨.l 2, none, .mv, [.t 15]⟩])
 .ret) .skip))))
 (.reg [⟨.t 16, none, (.bin .add), [.l 8, .c (.i .i64 1)]⟩, ⟨.l 8, none, .mv, [.t 16]⟩])))))))
 (.seq (.reg [⟨.t 17, none, .mv, [.l 3]⟩, ⟨.l 2, none, .mv, [.t 17]⟩])
 .ret)))), [.tmp (.l 2)]⟩
/-- cmp.Compare[int] -/
def b104 : Nat := 115
def a104 : AFn := ⟨(.seq (.reg [⟨.l 4, none, .mv, [.c (.i .i64 0)]⟩])
 (.seq (.reg [⟨.t 7, none, .mv, [.l 0]⟩, ⟨.t 8, none, (.call 105), [.t 7]⟩, ⟨.l 5, none, .mv, [.t 8]⟩])
 (.seq (.reg [⟨.t 9, none, .mv, [.l 1]⟩, ⟨.t 10, none, (.call 105), [.t 9]⟩, ⟨.l 6, none, .mv, [.t 10]⟩])
 (.seq (.seq (.reg [⟨.t 11, none, .mv, [.l 5]⟩])
 (.cond (.t 11) (.seq (.seq (.reg [⟨.t 12, none, .mv, [.l 6]⟩])
 (.cond (.t 12) (.seq (.reg [⟨.l 4, none, .mv, [.c (.i .i64 0)]⟩])
 .ret) .skip))
 (.seq (.reg [⟨.l 4, none, .mv, [.c (.i .i64 (-1))]⟩])
 .ret)) .skip))
 (.seq (.seq (.reg [⟨.t 13, none, .mv, [.l 6]⟩])
 (.cond (.t 13) (.seq (.reg [⟨.l 4, none, .mv, [.c (.i .i64 1)]⟩])
 .ret) .skip))
 (.seq (.seq (.reg [⟨.t 14, none, .mv, [.l 0]⟩, ⟨.t 15, none, .mv, [.l 1]⟩, ⟨.t 16, none, (.bin .lss), [.t 14, .t 15]⟩])
 (.cond (.t 16) (.seq (.reg [⟨.l 4, none, .mv, [.c (.i .i64 (-1))]⟩])
 .ret) .skip))
 (.seq (.seq (.reg [⟨.t 17, none, .mv, [.l 0]⟩, ⟨.t 18, none, .mv, [.l 1]⟩, ⟨.t 19, none, (.bin .gtr), [.t 17, .t 18]⟩])
 (.cond (.t 19) (.seq (.reg [⟨.l 4, none, .mv, [.c (.i .i64 1)]⟩])
 .ret) .skip))
 (.seq (.reg [⟨.l 4, none, .mv, [.c (.i .i64 0)]⟩])
 .ret)))))))), [.tmp (.l 4)]⟩
/-- cmp.isNaN[int] -/
def b105 : Nat := 5
def a105 : AFn := ⟨(.seq (.reg [⟨.l 2, none, .mv, [.c (.b false)]⟩])
 (.seq (.reg [⟨.t 3, none, .mv, [.l 0]⟩, ⟨.t 4, none, .mv, [.l 0]⟩, ⟨.t 5, none, (.bin .neq), [.t 3, .t 4]⟩, ⟨.l 2, none, .mv, [.t 5]⟩])
 .ret)), [.tmp (.l 2)]⟩
def tbl : Nat → Option AFn
  | 2 => some a2
  | 3 => some a3
  | 4 => some a4
  | 5 => some a5
  | 6 => some a6
  | 7 => some a7
  | 8 => some a8
  | 9 => some a9
  | 10 => some a10
  | 11 => some a11
  | 12 => some a12
  | 13 => some a13
  | 14 => some a14
  | 15 => some a15
  | 16 => some a16
  | 17 => some a17
  | 18 => some a18
  | 19 => some a19
  | 20 => some a20
  | 21 => some a21
  | 22 => some a22
  | 23 => some a23
  | 24 => some a24
  | 25 => some a25
  | 26 => some a26
  | 27 => some a27
  | 28 => some a28
  | 29 => some a29
  | 30 => some a30
  | 31 => some a31
  | 32 => some a32
  | 33 => some a33
  | 34 => some a34
  | 35 => some a35
  | 36 => some a36
  | 37 => some a37
  | 38 => some a38
  | 39 => some a39
  | 40 => some a40
  | 41 => some a41
  | 42 => some a42
  | 43 => some a43
  | 44 => some a44
  | 45 => some a45
  | 46 => some a46
  | 47 => some a47
  | 48 => some a48
  | 49 => some a49
  | 50 => some a50
  | 51 => some a51
  | 52 => some a52
  | 53 => some a53
  | 54 => some a54
  | 55 => some a55
  | 56 => some a56
  | 57 => some a57
  | 58 => some a58
  | 59 => some a59
  | 60 => some a60
  | 61 => some a61
  | 62 => some a62
  | 63 => some a63
  | 64 => some a64
  | 65 => some a65
  | 66 => some a66
  | 67 => some a67
  | 68 => some a68
  | 69 => some a69
  | 70 => some a70
  | 71 => some a71
  | 72 => some a72
  | 73 => some a73
  | 74 => some a74
  | 75 => some a75
  | 76 => some a76
  | 77 => some a77
  | 78 => some a78
  | 79 => some a79
  | 80 => some a80
  | 81 => some a81
  | 82 => some a82
  | 83 => some a83
  | 84 => some a84
  | 85 => some a85
  | 86 => some a86
  | 87 => some a87
  | 88 => some a88
  | 89 => some a89
  | 90 => some a90
  | 91 => some a91
  | 92 => some a92
  | 93 => some a93
  | 94 => some a94
  | 95 => some a95
  | 96 => some a96
  | 97 => some a97
  | 98 => some a98
  | 99 => some a99
  | 100 => some a100
  | 101 => some a101
  | 102 => some a102
  | 103 => some a103
  | 104 => some a104
  | 105 => some a105
  | _ => none
theorem c2 : compFn Try.prog b2 Try.f2 = some a2 := by kernel_rfl
theorem c3 : compFn Try.prog b3 Try.f3 = some a3 := by kernel_rfl
theorem c4 : compFn Try.prog b4 Try.f4 = some a4 := by kernel_rfl
theorem c5 : compFn Try.prog b5 Try.f5 = some a5 := by kernel_rfl
theorem c6 : compFn Try.prog b6 Try.f6 = some a6 := by kernel_rfl
theorem c7 : compFn Try.prog b7 Try.f7 = some a7 := by kernel_rfl
theorem c8 : compFn Try.prog b8 Try.f8 = some a8 := by kernel_rfl
theorem c9 : compFn Try.prog b9 Try.f9 = some a9 := by kernel_rfl
theorem c10 : compFn Try.prog b10 Try.f10 = some a10 := by kernel_rfl
theorem c11 : compFn Try.prog b11 Try.f11 = some a11 := by kernel_rfl
theorem c12 : compFn Try.prog b12 Try.f12 = some a12 := by kernel_rfl
theorem c13 : compFn Try.prog b13 Try.f13 = some a13 := by kernel_rfl
theorem c14 : compFn Try.prog b14 Try.f14 = some a14 := by kernel_rfl
theorem c15 : compFn Try.prog b15 Try.f15 = some a15 := by kernel_rfl
theorem c16 : compFn Try.prog b16 Try.f16 = some a16 := by kernel_rfl
theorem c17 : compFn Try.prog b17 Try.f17 = some a17 := by kernel_rfl
theorem c18 : compFn Try.prog b18 Try.f18 = some a18 := by kernel_rfl
theorem c19 : compFn Try.prog b19 Try.f19 = some a19 := by kernel_rfl
theorem c20 : compFn Try.prog b20 Try.f20 = some a20 := by kernel_rfl
theorem c21 : compFn Try.prog b21 Try.f21 = some a21 := by kernel_rfl
theorem c22 : compFn Try.prog b22 Try.f22 = some a22 := by kernel_rfl
theorem c23 : compFn Try.prog b23 Try.f23 = some a23 := by kernel_rfl
theorem c24 : compFn Try.prog b24 Try.f24 = some a24 := by kernel_rfl
theorem c25 : compFn Try.prog b25 Try.f25 = some a25 := by kernel_rfl
theorem c26 : compFn Try.prog b26 Try.f26 = some a26 := by kernel_rfl
theorem c27 : compFn Try.prog b27 Try.f27 = some a27 := by kernel_rfl
theorem c28 : compFn Try.prog b28 Try.f28 = some a28 := by kernel_rfl
theorem c29 : compFn Try.prog b29 Try.f29 = some a29 := by kernel_rfl
theorem c30 : compFn Try.prog b30 Try.f30 = some a30 := by kernel_rfl
theorem c31 : compFn Try.prog b31 Try.f31 = some a31 := by kernel_rfl
theorem c32 : compFn Try.prog b32 Try.f32 = some a32 := by kernel_rfl
theorem c33 : compFn Try.prog b33 Try.f33 = some a33 := by kernel_rfl
theorem c34 : compFn Try.prog b34 Try.f34 = some a34 := by kernel_rfl
theorem c35 : compFn Try.prog b35 Try.f35 = some a35 := by kernel_rfl
theorem c36 : compFn Try.prog b36 Try.f36 = some a36 := by kernel_rfl
theorem c37 : compFn Try.prog b37 Try.f37 = some a37 := by kernel_rfl
theorem c38 : compFn Try.prog b38 Try.f38 = some a38 := by kernel_rfl
theorem c39 : compFn Try.prog b39 Try.f39 = some a39 := by kernel_rfl
theorem c40 : compFn Try.prog b40 Try.f40 = some a40 := by kernel_rfl
theorem c41 : compFn Try.prog b41 Try.f41 = some a41 := by kernel_rfl
theorem c42 : compFn Try.prog b42 Try.f42 = some a42 := by kernel_rfl
theorem c43 : compFn Try.prog b43 Try.f43 = some a43 := by kernel_rfl
theorem c44 : compFn Try.prog b44 Try.f44 = some a44 := by kernel_rfl
theorem c45 : compFn Try.prog b45 Try.f45 = some a45 := by kernel_rfl
theorem c46 : compFn Try.prog b46 Try.f46 = some a46 := by kernel_rfl
theorem c47 : compFn Try.prog b47 Try.f47 = some a47 := by kernel_rfl
theorem c48 : compFn Try.prog b48 Try.f48 = some a48 := by kernel_rfl
theorem c49 : compFn Try.prog b49 Try.f49 = some a49 := by kernel_rfl
theorem c50 : compFn Try.prog b50 Try.f50 = some a50 := by kernel_rfl
theorem c51 : compFn Try.prog b51 Try.f51 = some a51 := by kernel_rfl
theorem c52 : compFn Try.prog b52 Try.f52 = some a52 := by kernel_rfl
theorem c53 : compFn Try.prog b53 Try.f53 = some a53 := by kernel_rfl
theorem c54 : compFn Try.prog b54 Try.f54 = some a54 := by kernel_rfl
theorem c55 : compFn Try.prog b55 Try.f55 = some a55 := by kernel_rfl
theorem c56 : compFn Try.prog b56 Try.f56 = some a56 := by kernel_rfl
theorem c57 : compFn Try.prog b57 Try.f57 = some a57 := by kernel_rfl
theorem c58 : compFn Try.prog b58 Try.f58 = some a58 := by kernel_rfl
theorem c59 : compFn Try.prog b59 Try.f59 = some a59 := by kernel_rfl
theorem c60 : compFn Try.prog b60 Try.f60 = some a60 := by kernel_rfl
theorem c61 : compFn Try.prog b61 Try.f61 = some a61 := by kernel_rfl
theorem c62 : compFn Try.prog b62 Try.f62 = some a62 := by kernel_rfl
theorem c63 : compFn Try.prog b63 Try.f63 = some a63 := by kernel_rfl
theorem c64 : compFn Try.prog b64 Try.f64 = some a64 := by kernel_rfl
theorem c65 : compFn Try.prog b65 Try.f65 = some a65 := by kernel_rfl
theorem c66 : compFn Try.prog b66 Try.f66 = some a66 := by kernel_rfl
theorem c67 : compFn Try.prog b67 Try.f67 = some a67 := by kernel_rfl
theorem c68 : compFn Try.prog b68 Try.f68 = some a68 := by kernel_rfl
theorem c69 : compFn Try.prog b69 Try.f69 = some a69 := by kernel_rfl
theorem c70 : compFn Try.prog b70 Try.f70 = some a70 := by kernel_rfl
theorem c71 : compFn Try.prog b71 Try.f71 = some a71 := by kernel_rfl
theorem c72 : compFn Try.prog b72 Try.f72 = some a72 := by kernel_rfl
theorem c73 : compFn Try.prog b73 Try.f73 = some a73 := by kernel_rfl
theorem c74 : compFn Try.prog b74 Try.f74 = some a74 := by kernel_rfl
theorem c75 : compFn Try.prog b75 Try.f75 = some a75 := by kernel_rfl
theorem c76 : compFn Try.prog b76 Try.f76 = some a76 := by kernel_rfl
theorem c77 : compFn Try.prog b77 Try.f77 = some a77 := by kernel_rfl
theorem c78 : compFn Try.prog b78 Try.f78 = some a78 := by kernel_rfl
theorem c79 : compFn Try.prog b79 Try.f79 = some a79 := by kernel_rfl
theorem c80 : compFn Try.prog b80 Try.f80 = some a80 := by kernel_rfl
theorem c81 : compFn Try.prog b81 Try.f81 = some a81 := by kernel_rfl
theorem c82 : compFn Try.prog b82 Try.f82 = some a82 := by kernel_rfl
theorem c83 : compFn Try.prog b83 Try.f83 = some a83 := by kernel_rfl
theorem c84 : compFn Try.prog b84 Try.f84 = some a84 := by kernel_rfl
theorem c85 : compFn Try.prog b85 Try.f85 = some a85 := by kernel_rfl
theorem c86 : compFn Try.prog b86 Try.f86 = some a86 := by kernel_rfl
theorem c87 : compFn Try.prog b87 Try.f87 = some a87 := by kernel_rfl
theorem c88 : compFn Try.prog b88 Try.f88 = some a88 := by kernel_rfl
theorem c89 : compFn Try.prog b89 Try.f89 = some a89 := by kernel_rfl
theorem c90 : compFn Try.prog b90 Try.f90 = some a90 := by kernel_rfl
theorem c91 : compFn Try.prog b91 Try.f91 = some a91 := by kernel_rfl
theorem c92 : compFn Try.prog b92 Try.f92 = some a92 := by kernel_rfl
theorem c93 : compFn Try.prog b93 Try.f93 = some a93 := by kernel_rfl
theorem c94 : compFn Try.prog b94 Try.f94 = some a94 := by kernel_rfl
theorem c95 : compFn Try.prog b95 Try.f95 = some a95 := by kernel_rfl
theorem c96 : compFn Try.prog b96 Try.f96 = some a96 := by kernel_rfl
theorem c97 : compFn Try.prog b97 Try.f97 = some a97 := by kernel_rfl
theorem c98 : compFn Try.prog b98 Try.f98 = some a98 := by kernel_rfl
theorem c99 : compFn Try.prog b99 Try.f99 = some a99 := by kernel_rfl
theorem c100 : compFn Try.prog b100 Try.f100 = some a100 := by kernel_rfl
theorem c101 : compFn Try.prog b101 Try.f101 = some a101 := by kernel_rfl
theorem c102 : compFn Try.prog b102 Try.f102 = some a102 := by kernel_rfl
theorem c103 : compFn Try.prog b103 Try.f103 = some a103 := by kernel_rfl
theorem c104 : compFn Try.prog b104 Try.f104 = some a104 := by kernel_rfl
theorem c105 : compFn Try.prog b105 Try.f105 = some a105 := by kernel_rfl
theorem ok : TblOk Try.prog tbl := by
  intro f fn h
  unfold tbl at h
  split at h
  · cases h; exact .inl ⟨b2, _, Try.func2, c2⟩
  · cases h; exact .inl ⟨b3, _, Try.func3, c3⟩
  · cases h; exact .inl ⟨b4, _, Try.func4, c4⟩
  · cases h; exact .inl ⟨b5, _, Try.func5, c5⟩
  · cases h; exact .inl ⟨b6, _, Try.func6, c6⟩
  · cases h; exact .inl ⟨b7, _, Try.func7, c7⟩
  · cases h; exact .inl ⟨b8, _, Try.func8, c8⟩
  · cases h; exact .inl ⟨b9, _, Try.func9, c9⟩
  · cases h; exact .inl ⟨b10, _, Try.func10, c10⟩
  · cases h; exact .inl ⟨b11, _, Try.func11, c11⟩
  · cases h; exact .inl ⟨b12, _, Try.func12, c12⟩
  · cases h; exact .inl ⟨b13, _, Try.func13, c13⟩
  · cases h; exact .inl ⟨b14, _, Try.func14, c14⟩
  · cases h; exact .inl ⟨b15, _, Try.func15, c15⟩
  · cases h; exact .inl ⟨b16, _, Try.func16, c16⟩
  · cases h; exact .inl ⟨b17, _, Try.func17, c17⟩
  · cases h; exact .inl ⟨b18, _, Try.func18, c18⟩
  · cases h; exact .inl ⟨b19, _, Try.func19, c19⟩
  · cases h; exact .inl ⟨b20, _, Try.func20, c20⟩
  · cases h; exact .inl ⟨b21, _, Try.func21, c21⟩
  · cases h; exact .inl ⟨b22, _, Try.func22, c22⟩
  · cases h; exact .inl ⟨b23, _, Try.func23, c23⟩
  · cases h; exact .inl ⟨b24, _, Try.func24, c24⟩
  · cases h; exact .inl ⟨b25, _, Try.func25, c25⟩
  · cases h; exact .inl ⟨b26, _, Try.func26, c26⟩
  · cases h; exact .inl ⟨b27, _, Try.func27, c27⟩
  · cases h; exact .inl ⟨b28, _, Try.func28, c28⟩
  · cases h; exact .inl ⟨b29, _, Try.func29, c29⟩
  · cases h; exact .inl ⟨b30, _, Try.func30, c30⟩
  · cases h; exact .inl ⟨b31, _, Try.func31, c31⟩
  · cases h; exact .inl ⟨b32, _, Try.func32, c32⟩
  · cases h; exact .inl ⟨b33, _, Try.func33, c33⟩
  · cases h; exact .inl ⟨b34, _, Try.func34, c34⟩
  · cases h; exact .inl ⟨b35, _, Try.func35, c35⟩
  · cases h; exact .inl ⟨b36, _, Try.func36, c36⟩
  · cases h; exact .inl ⟨b37, _, Try.func37, c37⟩
  · cases h; exact .inl ⟨b38, _, Try.func38, c38⟩
  · cases h; exact .inl ⟨b39, _, Try.func39, c39⟩
  · cases h; exact .inl ⟨b40, _, Try.func40, c40⟩
  · cases h; exact .inl ⟨b41, _, Try.func41, c41⟩
  · cases h; exact .inl ⟨b42, _, Try.func42, c42⟩
  · cases h; exact .inl ⟨b43, _, Try.func43, c43⟩
  · cases h; exact .inl ⟨b44, _, Try.func44, c44⟩
  · cases h; exact .inl ⟨b45, _, Try.func45, c45⟩
  · cases h; exact .inl ⟨b46, _, Try.func46, c46⟩
  · cases h; exact .inl ⟨b47, _, Try.func47, c47⟩
  · cases h; exact .inl ⟨b48, _, Try.func48, c48⟩
  · cases h; exact .inl ⟨b49, _, Try.func49, c49⟩
  · cases h; exact .inl ⟨b50, _, Try.func50, c50⟩
  · cases h; exact .inl ⟨b51, _, Try.func51, c51⟩
  · cases h; exact .inl ⟨b52, _, Try.func52, c52⟩
  · cases h; exact .inl ⟨b53, _, Try.func53, c53⟩
  · cases h; exact .inl ⟨b54, _, Try.func54, c54⟩
  · cases h; exact .inl ⟨b55, _, Try.func55, c55⟩
  · cases h; exact .inl ⟨b56, _, Try.func56, c56⟩
  · cases h; exact .inl ⟨b57, _, Try.func57, c57⟩
  · cases h; exact .inl ⟨b58, _, Try.func58, c58⟩
  · cases h; exact .inl ⟨b59, _, Try.func59, c59⟩
  · cases h; exact .inl ⟨b60, _, Try.func60, c60⟩
  · cases h; exact .inl ⟨b61, _, Try.func61, c61⟩
  · cases h; exact .inl ⟨b62, _, Try.func62, c62⟩
  · cases h; exact .inl ⟨b63, _, Try.func63, c63⟩
  · cases h; exact .inl ⟨b64, _, Try.func64, c64⟩
  · cases h; exact .inl ⟨b65, _, Try.func65, c65⟩
  · cases h; exact .inl ⟨b66, _, Try.func66, c66⟩
  · cases h; exact .inl ⟨b67, _, Try.func67, c67⟩
  · cases h; exact .inl ⟨b68, _, Try.func68, c68⟩
  · cases h; exact .inl ⟨b69, _, Try.func69, c69⟩
  · cases h; exact .inl ⟨b70, _, Try.func70, c70⟩
  · cases h; exact .inl ⟨b71, _, Try.func71, c71⟩
  · cases h; exact .inl ⟨b72, _, Try.func72, c72⟩
  · cases h; exact .inl ⟨b73, _, Try.func73, c73⟩
  · cases h; exact .inl ⟨b74, _, Try.func74, c74⟩
  · cases h; exact .inl ⟨b75, _, Try.func75, c75⟩
  · cases h; exact .inl ⟨b76, _, Try.func76, c76⟩
  · cases h; exact .inl ⟨b77, _, Try.func77, c77⟩
  · cases h; exact .inl ⟨b78, _, Try.func78, c78⟩
  · cases h; exact .inl ⟨b79, _, Try.func79, c79⟩
  · cases h; exact .inl ⟨b80, _, Try.func80, c80⟩
  · cases h; exact .inl ⟨b81, _, Try.func81, c81⟩
  · cases h; exact .inl ⟨b82, _, Try.func82, c82⟩
  · cases h; exact .inl ⟨b83, _, Try.func83, c83⟩
  · cases h; exact .inl ⟨b84, _, Try.func84, c84⟩
  · cases h; exact .inl ⟨b85, _, Try.func85, c85⟩
  · cases h; exact .inl ⟨b86, _, Try.func86, c86⟩
  · cases h; exact .inl ⟨b87, _, Try.func87, c87⟩
  · cases h; exact .inl ⟨b88, _, Try.func88, c88⟩
  · cases h; exact .inl ⟨b89, _, Try.func89, c89⟩
  · cases h; exact .inl ⟨b90, _, Try.func90, c90⟩
  · cases h; exact .inl ⟨b91, _, Try.func91, c91⟩
  · cases h; exact .inl ⟨b92, _, Try.func92, c92⟩
  · cases h; exact .inl ⟨b93, _, Try.func93, c93⟩
  · cases h; exact .inl ⟨b94, _, Try.func94, c94⟩
  · cases h; exact .inl ⟨b95, _, Try.func95, c95⟩
  · cases h; exact .inl ⟨b96, _, Try.func96, c96⟩
  · cases h; exact .inl ⟨b97, _, Try.func97, c97⟩
  · cases h; exact .inl ⟨b98, _, Try.func98, c98⟩
  · cases h; exact .inl ⟨b99, _, Try.func99, c99⟩
  · cases h; exact .inl ⟨b100, _, Try.func100, c100⟩
  · cases h; exact .inl ⟨b101, _, Try.func101, c101⟩
  · cases h; exact .inl ⟨b102, _, Try.func102, c102⟩
  · cases h; exact .inl ⟨b103, _, Try.func103, c103⟩
  · cases h; exact .inl ⟨b104, _, Try.func104, c104⟩
  · cases h; exact .inl ⟨b105, _, Try.func105, c105⟩
  · cases h
theorem clean : ∀ f fn, tbl f = some fn → fn.clean = true := by
  intro f fn h
  unfold tbl at h
  split at h
  · cases h; kernel_rfl
  · cases h; kernel_rfl
  · cases h; kernel_rfl
  · cases h; kernel_rfl
  · cases h; kernel_rfl
  · cases h; kernel_rfl
  · cases h; kernel_rfl
  · cases h; kernel_rfl
  · cases h; kernel_rfl
  · cases h; kernel_rfl
  · cases h; kernel_rfl
  · cases h; kernel_rfl
  · cases h; kernel_rfl
  · cases h; kernel_rfl
  · cases h; kernel_rfl
  · cases h; kernel_rfl
  · cases h; kernel_rfl
  · cases h; kernel_rfl
  · cases h; kernel_rfl
  · cases h; kernel_rfl
  · cases h; kernel_rfl
  · cases h; kernel_rfl
  · cases h; kernel_rfl
  · cases h; kernel_rfl
  · cases h; kernel_rfl
  · cases h; kernel_rfl
  · cases h; kernel_rfl
  · cases h; kernel_rfl
  · cases h; kernel_rfl
  · cases h; kernel_rfl
  · cases h; kernel_rfl
  · cases h; kernel_rfl
  · cases h; kernel_rfl
  · cases h; kernel_rfl
  · cases h; kernel_rfl
  · cases h; kernel_rfl
  · cases h; kernel_rfl
  · cases h; kernel_rfl
  · cases h; kernel_rfl
  · cases h; kernel_rfl
  · cases h; kernel_rfl
  · cases h; kernel_rfl
  · cases h; kernel_rfl
  · cases h; kernel_rfl
  · cases h; kernel_rfl
  · cases h; kernel_rfl
  · cases h; kernel_rfl
  · cases h; kernel_rfl
  · cases h; kernel_rfl
  · cases h; kernel_rfl
  · cases h; kernel_rfl
  · cases h; kernel_rfl
  · cases h; kernel_rfl
  · cases h; kernel_rfl
  · cases h; kernel_rfl
  · cases h; kernel_rfl
  · cases h; kernel_rfl
  · cases h; kernel_rfl
  · cases h; kernel_rfl
  · cases h; kernel_rfl
  · cases h; kernel_rfl
  · cases h; kernel_rfl
  · cases h; kernel_rfl
  · cases h; kernel_rfl
  · cases h; kernel_rfl
  · cases h; kernel_rfl
  · cases h; kernel_rfl
  · cases h; kernel_rfl
  · cases h; kernel_rfl
  · cases h; kernel_rfl
  · cases h; kernel_rfl
  · cases h; kernel_rfl
  · cases h; kernel_rfl
  · cases h; kernel_rfl
  · cases h; kernel_rfl
  · cases h; kernel_rfl
  · cases h; kernel_rfl
  · cases h; kernel_rfl
  · cases h; kernel_rfl
  · cases h; kernel_rfl
  · cases h; kernel_rfl
  · cases h; kernel_rfl
  · cases h; kernel_rfl
  · cases h; kernel_rfl
  · cases h; kernel_rfl
  · cases h; kernel_rfl
  · cases h; kernel_rfl
  · cases h; kernel_rfl
  · cases h; kernel_rfl
  · cases h; kernel_rfl
  · cases h; kernel_rfl
  · cases h; kernel_rfl
  · cases h; kernel_rfl
  · cases h; kernel_rfl
  · cases h; kernel_rfl
  · cases h; kernel_rfl
  · cases h; kernel_rfl
  · cases h; kernel_rfl
  · cases h; kernel_rfl
  · cases h; kernel_rfl
  · cases h; kernel_rfl
  · cases h; kernel_rfl
  · cases h; kernel_rfl
  · cases h; kernel_rfl
  · cases h
theorem mixed : Try.prog.follows .mixedOrders = true := by kernel_rfl
theorem awake10 : KnownTrue Try.prog 10 := known mixed ok Try.func10 c10 (n := 100000) (by kernel_rfl)
/-- the table, with what is known -/
def tblK (f : Nat) : Option AFn := bif Nat.beq f 10 then some kTrue else tbl f
theorem okK : TblOk Try.prog tblK := by
  intro f fn h
  unfold tblK at h
  cases h10 : Nat.beq f 10
  case true =>
    rw [h10] at h
    cases h
    exact .inr ⟨rfl, by rw [beq_nat, decide_eq_true_eq] at h10; subst h10; exact awake10⟩
  rw [h10] at h
  exact ok f fn h
theorem cleanK : ∀ f fn, tblK f = some fn → fn.clean = true := by
  intro f fn h
  unfold tblK at h
  cases h10 : Nat.beq f 10
  case true =>
    rw [h10] at h
    cases h
    rfl
  rw [h10] at h
  exact clean f fn h
end Go.Proofs.Ytddabelahpdekaa.T
