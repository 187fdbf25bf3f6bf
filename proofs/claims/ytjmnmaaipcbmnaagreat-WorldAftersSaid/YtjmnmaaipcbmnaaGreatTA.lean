/- The abstract machine's code of functions of this seat's program, and that it is compiled from the program's; the first half. PRINTED by our glue3.py over our printam.lean. -/
import Derived.Test.YtjmnmaaipcbmnaaGreatChecked
import Derived.Test.YtjmnmaaipcbmnaaGreatAmW
import Derived.KernelRfl
set_option maxRecDepth 100000
set_option maxHeartbeats 4000000
set_option linter.unusedVariables false
namespace Go.Proofs.YtjmnmaaipcbmnaaGreat.T
open Go.AM

/-- tarpaulin/tarpaulinlaw20.WorldAfters -/
def b3 : Nat := 1048335
def a3 : AFn := ⟨(.seq (.reg [⟨.l 8, none, .mv, [.c (.b false)]⟩])
 (.seq (.seq (.reg [⟨.t 20, none, .mv, [.l 0]⟩, ⟨.t 21, none, (.bin .lss), [.t 20, .c (.i .i64 1)]⟩, ⟨.t 22, none, .mv, [.t 21]⟩, ⟨.t 23, (some (.t 22, false)), .mv, [.l 0]⟩, ⟨.t 24, (some (.t 22, false)), (.bin .gtr), [.t 23, .c (.i .i64 100)]⟩, ⟨.t 25, none, .pick, [.t 22, .c (.b true), .t 24]⟩, ⟨.t 26, none, .mv, [.t 25]⟩, ⟨.t 27, (some (.t 26, false)), .mv, [.l 3]⟩, ⟨.t 28, (some (.t 26, false)), (.bin .lss), [.t 27, .c (.i .i64 0)]⟩, ⟨.t 29, none, .pick, [.t 26, .c (.b true), .t 28]⟩, ⟨.t 30, none, .mv, [.t 29]⟩, ⟨.t 31, (some (.t 30, false)), .mv, [.l 3]⟩, ⟨.t 32, (some (.t 30, false)), (.bin .gtr), [.t 31, .c (.i .i64 200)]⟩, ⟨.t 33, none, .pick, [.t 30, .c (.b true), .t 32]⟩])
 (.cond (.t 33) (.seq (.reg [⟨.t 34, none, (.call 4), []⟩, ⟨.l 8, none, .mv, [.t 34]⟩])
 .ret) .skip))
 (.seq (.reg [⟨.t 35, none, .mv, [.l 0]⟩, ⟨.t 36, none, (.build [(.i .i64 0), (.i .i64 0), (.i .i64 0), (.i .i64 0), (.sl none 0 0 0), (.b false)] [(0, 1), (1, 1), (2, 1)]), [.c (.i .i64 1), .c (.i .i64 1), .t 35]⟩, ⟨.t 37, none, (.build [(.i .i64 0), (.i .i64 0), (.i .i64 0), (.i .i64 0), (.sl none 0 0 0), (.b false)] [(0, 1), (1, 1), (2, 1), (3, 1)]), [.c (.i .i64 19), .c (.i .i64 2), .c (.i .i64 1), .c (.i .i64 1)]⟩, ⟨.t 38, none, (.bslice [(.i .i64 0), (.i .i64 0), (.i .i64 0), (.i .i64 0), (.sl none 0 0 0), (.b false)] 2 6 [0, 1]), [.t 36, .t 37]⟩, ⟨.l 9, none, .mv, [.t 38]⟩])
 (.seq (.seq (.reg [⟨.t 39, none, .mv, [.l 2]⟩])
 (.cond (.t 39) (.reg [⟨.t 40, none, .mv, [.l 0]⟩, ⟨.t 41, none, (.build [(.i .i64 0), (.i .i64 0), (.i .i64 0), (.i .i64 0), (.sl none 0 0 0), (.b false)] [(0, 1), (1, 1), (2, 1)]), [.c (.i .i64 1), .c (.i .i64 1), .t 40]⟩, ⟨.t 42, none, (.build [(.i .i64 0), (.i .i64 0), (.i .i64 0), (.i .i64 0), (.sl none 0 0 0), (.b false)] [(0, 1), (1, 1), (2, 1), (3, 1)]), [.c (.i .i64 24), .c (.i .i64 3), .c (.i .i64 0), .c (.i .i64 1)]⟩, ⟨.t 43, none, (.build [(.i .i64 0), (.i .i64 0), (.i .i64 0), (.i .i64 0), (.sl none 0 0 0), (.b false)] [(0, 1), (1, 1), (2, 1), (3, 1)]), [.c (.i .i64 31), .c (.i .i64 2), .c (.i .i64 3), .c (.i .i64 1)]⟩, ⟨.t 44, none, (.bslice [(.i .i64 0), (.i .i64 0), (.i .i64 0), (.i .i64 0), (.sl none 0 0 0), (.b false)] 3 6 [0, 1, 2]), [.t 41, .t 42, .t 43]⟩, ⟨.l 9, none, .mv, [.t 44]⟩]) .skip))
 (.seq (.seq (.reg [⟨.t 45, none, .mv, [.l 1]⟩])
 (.cond (.t 45) (.seq (.reg [⟨.l 10, none, .mv, [.c (.i .i64 20)]⟩])
 (.seq (.seq (.reg [⟨.t 46, none, .mv, [.l 2]⟩])
 (.cond (.t 46) (.reg [⟨.l 10, none, .mv, [.c (.i .i64 32)]⟩]) .skip))
 (.reg [⟨.t 47, none, .mv, [.l 9]⟩, ⟨.t 48, none, .mv, [.l 10]⟩, ⟨.t 49, none, (.build [(.i .i64 0), (.i .i64 0), (.i .i64 0), (.i .i64 0), (.sl none 0 0 0), (.b false)] [(0, 1), (1, 1), (2, 1)]), [.t 48, .c (.i .i64 2), .c (.i .i64 4)]⟩, ⟨.t 50, none, (.build [(.i .i64 0), (.i .i64 0), (.i .i64 0), (.i .i64 0), (.sl none 0 0 0), (.b false)] [(0, 1), (1, 1)]), [.c (.i .i64 6), .c (.i .i64 4)]⟩, ⟨.t 51, none, (.bslice [(.i .i64 0), (.i .i64 0), (.i .i64 0), (.i .i64 0), (.sl none 0 0 0), (.b false)] 2 6 [0, 1]), [.t 49, .t 50]⟩, ⟨.t 52, none, (.app 6 64), [.t 47, .t 51]⟩, ⟨.l 9, none, .mv, [.t 52]⟩]))) .skip))
 (.seq (.reg [⟨.t 54, none, .mv, [.l 9]⟩, ⟨.t 55, none, (.build [(.i .i64 0), (.i .i64 0), (.i .i64 0), (.i .i64 0), (.sl none 0 0 0), (.b false)] [(0, 1), (1, 1)]), [.c (.i .i64 6), .c (.i .i64 1)]⟩, ⟨.t 56, none, (.bslice [(.i .i64 0), (.i .i64 0), (.i .i64 0), (.i .i64 0), (.sl none 0 0 0), (.b false)] 1 6 [0]), [.t 55]⟩, ⟨.t 57, none, (.bslice [(.sl none 0 0 0)] 2 1 [0, 1]), [.t 54, .t 56]⟩, ⟨.t 58, none, (.call 5), [.t 57]⟩, ⟨.t 53, none, .mv, [.t 58]⟩, ⟨.t 59, none, (.ext 0), [.t 53]⟩, ⟨.t 60, none, (.ext 1), [.t 53]⟩, ⟨.l 11, none, .mv, [.t 59]⟩, ⟨.l 12, none, .mv, [.t 60]⟩])
 (.seq (.seq (.reg [⟨.t 61, none, .mv, [.l 12]⟩, ⟨.t 62, none, (.un .not), [.t 61]⟩])
 (.cond (.t 62) (.seq (.reg [⟨.l 8, none, .mv, [.c (.b false)]⟩])
 .ret) .skip))
 (.seq (.reg [⟨.t 63, none, .mv, [.l 11]⟩, ⟨.t 64, none, .mv, [.l 9]⟩, ⟨.t 65, none, .lenSl, [.t 64]⟩, ⟨.t 66, none, (.bin .add), [.t 65, .c (.i .i64 1)]⟩, ⟨.t 67, none, (.call 6), [.t 63, .t 66]⟩, ⟨.l 13, none, .mv, [.t 67]⟩])
 (.seq (.seq (.reg [⟨.t 68, none, .mv, [.l 1]⟩, ⟨.t 69, none, .mv, [.t 68]⟩, ⟨.t 70, (some (.t 69, true)), .mv, [.l 13]⟩, ⟨.t 71, (some (.t 69, true)), .lenSl, [.t 70]⟩, ⟨.t 72, (some (.t 69, true)), (.bin .neq), [.t 71, .c (.i .i64 2)]⟩, ⟨.t 73, (some (.t 69, true)), .mv, [.t 72]⟩, ⟨.t 74, (some (.t 73, false)), .mv, [.l 13]⟩, ⟨.t 75, (some (.t 73, false)), (.iad 6), [.t 74, .c (.i .i64 0)]⟩, ⟨.t 76, (some (.t 73, false)), (.fad 1), [.t 75]⟩, ⟨.t 77, (some (.t 73, false)), (.ld none), [.t 76]⟩, ⟨.t 78, (some (.t 73, false)), (.bin .neq), [.t 77, .c (.i .i64 1)]⟩, ⟨.t 79, (some (.t 69, true)), .pick, [.t 73, .c (.b true), .t 78]⟩, ⟨.t 80, (some (.t 69, true)), .mv, [.t 79]⟩, ⟨.t 81, (some (.t 80, false)), .mv, [.l 13]⟩, ⟨.t 82, (some (.t 80, false)), (.iad 6), [.t 81, .c (.i .i64 0)]⟩, ⟨.t 83, (some (.t 80, false)), (.fad 3), [.t 82]⟩, ⟨.t 84, (some (.t 80, false)), (.ld none), [.t 83]⟩, ⟨.t 85, (some (.t 80, false)), (.bin .neq), [.t 84, .c (.i .i64 1)]⟩, ⟨.t 86, (some (.t 69, true)), .pick, [.t 80, .c (.b true), .t 85]⟩, ⟨.t 87, none, .pick, [.t 69, .t 86, .c (.b false)]⟩])
 (.cond (.t 87) (.seq (.reg [⟨.l 8, none, .mv, [.c (.b false)]⟩])
 .ret) .skip))
 (.seq (.reg [⟨.t 88, none, .mv, [.l 11]⟩, ⟨.t 89, none, .mv, [.l 3]⟩, ⟨.t 90, none, (.build [(.i .i64 0), (.i .i64 0), (.i .i64 0)] [(0, 1), (1, 1)]), [.c (.i .i64 2), .t 89]⟩, ⟨.t 91, none, (.call 7), [.t 88, .t 90]⟩, ⟨.l 14, none, .mv, [.t 91]⟩])
 (.seq (.reg [⟨.t 92, none, .mv, [.l 11]⟩, ⟨.t 93, none, (.build [(.i .i64 0), (.i .i64 0), (.i .i64 0)] [(0, 1), (1, 1)]), [.c (.i .i64 2), .c (.i .i64 300)]⟩, ⟨.t 94, none, (.call 7), [.t 92, .t 93]⟩, ⟨.l 15, none, .mv, [.t 94]⟩])
 (.seq (.reg [⟨.l 16, none, .mv, [.c (.i .i64 0)]⟩])
 (.seq (.seq (.reg [⟨.l 17, none, .mv, [.c (.i .i64 0)]⟩])
 (.block 0 (.loop (.seq (.seq (.reg [⟨.t 95, none, .mv, [.l 17]⟩, ⟨.t 96, none, .mv, [.l 14]⟩, ⟨.t 97, none, .lenSl, [.t 96]⟩, ⟨.t 98, none, .mv, [.l 15]⟩, ⟨.t 99, none, .lenSl, [.t 98]⟩, ⟨.t 100, none, (.bin .add), [.t 97, .t 99]⟩, ⟨.t 101, none, (.bin .lss), [.t 95, .t 100]⟩])
 (.cond (.t 101) .skip (.exit 0)))
 (.seq (.block 1 (.seq (.reg [⟨.t 104, none, (.build [(.i .i64 0), (.i .i64 0), (.i .i64 0), (.i .i64 0), (.i .i64 0), (.i .i64 0)] []), []⟩, ⟨.l 18, none, (.alloc [(.i .i64 0), (.i .i64 0), (.i .i64 0), (.i .i64 0), (.i .i64 0), (.i .i64 0)]), []⟩, ⟨.no, none, (.st 6), [.l 18, .t 104]⟩])
 (.seq (.seq (.reg [⟨.t 105, none, .mv, [.l 17]⟩, ⟨.t 106, none, .mv, [.l 14]⟩, ⟨.t 107, none, .lenSl, [.t 106]⟩, ⟨.t 108, none, (.bin .lss), [.t 105, .t 107]⟩])
 (.cond (.t 108) (.reg [⟨.t 109, none, .mv, [.l 14]⟩, ⟨.t 110, none, .mv, [.l 17]⟩, ⟨.t 111, none, (.iad 6), [.t 109, .t 110]⟩, ⟨.t 112, none, (.ld (some 6)), [.t 111]⟩, ⟨.no, none, (.st 6), [.l 18, .t 112]⟩]) (.reg [⟨.t 113, none, .mv, [.l 15]⟩, ⟨.t 114, none, .mv, [.l 17]⟩, ⟨.t 115, none, .mv, [.l 14]⟩, ⟨.t 116, none, .lenSl, [.t 115]⟩, ⟨.t 117, none, (.bin .sub), [.t 114, .t 116]⟩, ⟨.t 118, none, (.iad 6), [.t 113, .t 117]⟩, ⟨.t 119, none, (.ld (some 6)), [.t 118]⟩, ⟨.no, none, (.st 6), [.l 18, .t 119]⟩])))
 (.seq (.reg [⟨.t 120, none, (.fad 1), [.l 18]⟩, ⟨.t 121, none, (.ld none), [.t 120]⟩, ⟨.t 122, none, (.bin .eql), [.t 121, .c (.i .i64 5)]⟩])
 (.cond (.t 122) (.seq (.reg [⟨.t 123, none, .mv, [.l 16]⟩, ⟨.t 124, none, (.bin .add), [.t 123, .c (.i .i64 1)]⟩, ⟨.l 16, none, .mv, [.t 124]⟩])
 (.seq (.reg [⟨.t 125, none, (.fad 2), [.l 18]⟩, ⟨.t 126, none, (.ld none), [.t 125]⟩, ⟨.t 127, none, (.bin .neq), [.t 126, .c (.i .i64 1)]⟩, ⟨.t 128, none, .mv, [.t 127]⟩, ⟨.t 129, (some (.t 128, false)), (.fad 3), [.l 18]⟩, ⟨.t 130, (some (.t 128, false)), (.ld none), [.t 129]⟩, ⟨.t 131, (some (.t 128, false)), (.bin .neq), [.t 130, .c (.i .i64 1)]⟩, ⟨.t 132, none, .pick, [.t 128, .c (.b true), .t 131]⟩, ⟨.t 133, none, .mv, [.t 132]⟩, ⟨.t 134, (some (.t 133, false)), .mv, [.l 17]⟩, ⟨.t 135, (some (.t 133, false)), .mv, [.l 14]⟩, ⟨.t 136, (some (.t 133, false)), .lenSl, [.t 135]⟩, ⟨.t 137, (some (.t 133, false)), (.bin .lss), [.t 134, .t 136]⟩, ⟨.t 138, (some (.t 133, false)), .mv, [.l 0]⟩, ⟨.t 139, (some (.t 133, false)), .mv, [.l 3]⟩, ⟨.t 140, (some (.t 133, false)), (.bin .leq), [.t 138, .t 139]⟩, ⟨.t 141, (some (.t 133, false)), (.eq true .bool), [.t 137, .t 140]⟩, ⟨.t 142, none, .pick, [.t 133, .c (.b true), .t 141]⟩])
 (.cond (.t 142) (.seq (.reg [⟨.l 8, none, .mv, [.c (.b false)]⟩])
 .ret) .skip))) .skip)))))
 (.reg [⟨.t 102, none, .mv, [.l 17]⟩, ⟨.t 103, none, (.bin .add), [.t 102, .c (.i .i64 1)]⟩, ⟨.l 17, none, .mv, [.t 103]⟩]))))))
 (.seq (.seq (.reg [⟨.t 143, none, .mv, [.l 1]⟩])
 (.cond (.t 143) (.seq (.reg [⟨.t 144, none, .mv, [.l 16]⟩, ⟨.t 145, none, (.bin .eql), [.t 144, .c (.i .i64 0)]⟩, ⟨.t 146, none, .mv, [.t 145]⟩, ⟨.t 147, (some (.t 146, true)), .mv, [.l 11]⟩, ⟨.t 148, (some (.t 146, true)), (.call 8), [.t 147]⟩, ⟨.t 149, (some (.t 146, true)), (.bin .eql), [.t 148, .c (.i .i64 1)]⟩, ⟨.t 150, none, .pick, [.t 146, .t 149, .c (.b false)]⟩, ⟨.t 151, none, .mv, [.t 150]⟩, ⟨.t 152, (some (.t 151, true)), (.call 4), []⟩, ⟨.t 153, none, .pick, [.t 151, .t 152, .c (.b false)]⟩, ⟨.l 8, none, .mv, [.t 153]⟩])
 .ret) .skip))
 (.seq (.reg [⟨.t 154, none, .mv, [.l 11]⟩, ⟨.t 155, none, (.call 6), [.t 154, .c (.i .i64 2)]⟩, ⟨.l 19, none, .mv, [.t 155]⟩])
 (.seq (.reg [⟨.t 156, none, .mv, [.l 16]⟩, ⟨.t 157, none, (.bin .eql), [.t 156, .c (.i .i64 1)]⟩, ⟨.t 158, none, .mv, [.t 157]⟩, ⟨.t 159, (some (.t 158, true)), .mv, [.l 11]⟩, ⟨.t 160, (some (.t 158, true)), (.call 8), [.t 159]⟩, ⟨.t 161, (some (.t 158, true)), (.bin .eql), [.t 160, .c (.i .i64 2)]⟩, ⟨.t 162, none, .pick, [.t 158, .t 161, .c (.b false)]⟩, ⟨.t 163, none, .mv, [.t 162]⟩, ⟨.t 164, (some (.t 163, true)), .mv, [.l 19]⟩, ⟨.t 165, (some (.t 163, true)), .lenSl, [.t 164]⟩, ⟨.t 166, (some (.t 163, true)), (.bin .eql), [.t 165, .c (.i .i64 2)]⟩, ⟨.t 167, none, .pick, [.t 163, .t 166, .c (.b false)]⟩, ⟨.t 168, none, .mv, [.t 167]⟩, ⟨.t 169, (some (.t 168, true)), .mv, [.l 19]⟩, ⟨.t 170, (some (.t 168, true)), (.iad 6), [.t 169, .c (.i .i64 0)]⟩, ⟨.t 171, (some (.t 168, true)), (.ld (some 6)), [.t 170]⟩, ⟨.t 172, (some (.t 168, true)), .mv, [.l 9]⟩, ⟨.t 173, (some (.t 168, true)), .lenSl, [.t 172]⟩, ⟨.t 174, (some (.t 168, true)), (.bin .add), [.t 173, .c (.i .i64 3)]⟩, ⟨.t 175, (some (.t 168, true)), (.build [(.i .i64 0), (.i .i64 0), (.i .i64 0), (.i .i64 0), (.i .i64 0), (.i .i64 0)] [(0, 1), (1, 1), (2, 1)]), [.t 174, .c (.i .i64 1), .c (.i .i64 1)]⟩, ⟨.t 176, (some (.t 168, true)), (.eq false (.agg [(0, 1), (1, 1), (2, 1), (3, 1), (4, 1), (5, 1)])), [.t 171, .t 175]⟩, ⟨.t 177, none, .pick, [.t 168, .t 176, .c (.b false)]⟩, ⟨.t 178, none, .mv, [.t 177]⟩, ⟨.t 179, (some (.t 178, true)), .mv, [.l 19]⟩, ⟨.t 180, (some (.t 178, true)), (.iad 6), [.t 179, .c (.i .i64 1)]⟩, ⟨.t 181, (some (.t 178, true)), (.fad 1), [.t 180]⟩, ⟨.t 182, (some (.t 178, true)), (.ld none), [.t 181]⟩, ⟨.t 183, (some (.t 178, true)), (.bin .eql), [.t 182, .c (.i .i64 4)]⟩, ⟨.t 184, none, .pick, [.t 178, .t 183, .c (.b false)]⟩, ⟨.t 185, none, .mv, [.t 184]⟩, ⟨.t 186, (some (.t 185, true)), (.call 4), []⟩, ⟨.t 187, none, .pick, [.t 185, .t 186, .c (.b false)]⟩, ⟨.l 8, none, .mv, [.t 187]⟩])
 .ret)))))))))))))))), [.tmp (.l 8)]⟩
/-- tarpaulin/tarpaulinlaw20.awake -/
def b4 : Nat := 4087
def a4 : AFn := ⟨(.seq (.reg [⟨.l 0, none, .mv, [.c (.b false)]⟩])
 (.seq (.reg [⟨.t 13, none, (.build [(.i .i64 0), (.i .i64 0), (.i .i64 0), (.i .i64 0), (.sl none 0 0 0), (.b false)] [(0, 1), (1, 1)]), [.c (.i .i64 9), .c (.i .i64 0)]⟩, ⟨.t 14, none, (.build [(.i .i64 0), (.i .i64 0), (.i .i64 0), (.i .i64 0), (.sl none 0 0 0), (.b false)] [(0, 1), (1, 1), (2, 1)]), [.c (.i .i64 8), .c (.i .i64 1), .c (.i .i64 1)]⟩, ⟨.t 15, none, (.build [(.i .i64 0), (.i .i64 0), (.i .i64 0), (.i .i64 0), (.sl none 0 0 0), (.b false)] [(0, 1), (1, 1), (2, 1), (3, 1)]), [.c (.i .i64 11), .c (.i .i64 0), .c (.i .i64 2), .c (.i .i64 3)]⟩, ⟨.t 16, none, (.build [(.i .i64 0), (.i .i64 0), (.i .i64 0), (.i .i64 0), (.sl none 0 0 0), (.b false)] [(0, 1), (1, 1)]), [.c (.i .i64 6), .c (.i .i64 2)]⟩, ⟨.t 17, none, (.bslice [(.i .i64 0), (.i .i64 0), (.i .i64 0), (.i .i64 0), (.sl none 0 0 0), (.b false)] 4 6 [0, 1, 2, 3]), [.t 13, .t 14, .t 15, .t 16]⟩, ⟨.t 18, none, (.build [(.i .i64 0), (.i .i64 0), (.i .i64 0), (.i .i64 0), (.sl none 0 0 0), (.b false)] [(0, 1), (1, 1), (2, 1)]), [.c (.i .i64 1), .c (.i .i64 4), .c (.i .i64 7)]⟩, ⟨.t 19, none, (.build [(.i .i64 0), (.i .i64 0), (.i .i64 0), (.i .i64 0), (.sl none 0 0 0), (.b false)] [(0, 1), (1, 1), (2, 1)]), [.c (.i .i64 10), .c (.i .i64 0), .c (.i .i64 4)]⟩, ⟨.t 20, none, (.bslice [(.i .i64 0), (.i .i64 0), (.i .i64 0), (.i .i64 0), (.sl none 0 0 0), (.b false)] 2 6 [0, 1]), [.t 18, .t 19]⟩, ⟨.t 21, none, (.bslice [(.sl none 0 0 0)] 2 1 [0, 1]), [.t 17, .t 20]⟩, ⟨.t 22, none, (.call 9), [.t 21]⟩, ⟨.t 12, none, .mv, [.t 22]⟩, ⟨.t 23, none, (.ext 0), [.t 12]⟩, ⟨.t 24, none, (.ext 1), [.t 12]⟩, ⟨.l 1, none, .mv, [.t 23]⟩, ⟨.l 2, none, .mv, [.t 24]⟩])
 (.seq (.reg [⟨.t 26, none, (.call 9), [.c (.sl none 0 0 0)]⟩, ⟨.t 25, none, .mv, [.t 26]⟩, ⟨.t 27, none, (.ext 0), [.t 25]⟩, ⟨.t 28, none, (.ext 1), [.t 25]⟩, ⟨.t 3, none, .mv, [.t 27]⟩, ⟨.l 4, none, .mv, [.t 28]⟩])
 (.seq (.seq (.reg [⟨.t 29, none, .mv, [.l 2]⟩, ⟨.t 30, none, (.bin .neq), [.t 29, .c (.i .i64 0)]⟩, ⟨.t 31, none, .mv, [.t 30]⟩, ⟨.t 32, (some (.t 31, false)), .mv, [.l 1]⟩, ⟨.t 33, (some (.t 31, false)), (.eq false .ptr), [.t 32, .c (.p none)]⟩, ⟨.t 34, none, .pick, [.t 31, .c (.b true), .t 33]⟩, ⟨.t 35, none, .mv, [.t 34]⟩, ⟨.t 36, (some (.t 35, false)), .mv, [.l 4]⟩, ⟨.t 37, (some (.t 35, false)), (.bin .neq), [.t 36, .c (.i .i64 1)]⟩, ⟨.t 38, none, .pick, [.t 35, .c (.b true), .t 37]⟩])
 (.cond (.t 38) (.seq (.reg [⟨.l 0, none, .mv, [.c (.b false)]⟩])
 .ret) .skip))
 (.seq (.reg [⟨.t 39, none, .mv, [.l 1]⟩, ⟨.t 40, none, (.call 10), [.t 39, .c (.i .i64 0)]⟩])
 (.seq (.reg [⟨.t 41, none, .mv, [.l 1]⟩, ⟨.t 42, none, (.call 10), [.t 41, .c (.i .i64 0)]⟩, ⟨.l 5, none, .mv, [.t 42]⟩])
 (.seq (.reg [⟨.t 43, none, .mv, [.l 1]⟩, ⟨.t 44, none, (.call 10), [.t 43, .c (.i .i64 0)]⟩, ⟨.l 6, none, .mv, [.t 44]⟩])
 (.seq (.reg [⟨.t 45, none, .mv, [.l 1]⟩, ⟨.t 46, none, (.call 10), [.t 45, .c (.i .i64 0)]⟩])
 (.seq (.reg [⟨.t 47, none, .mv, [.l 1]⟩, ⟨.t 48, none, (.call 10), [.t 47, .c (.i .i64 0)]⟩, ⟨.l 7, none, .mv, [.t 48]⟩])
 (.seq (.reg [⟨.t 49, none, .mv, [.l 1]⟩, ⟨.t 50, none, (.call 10), [.t 49, .c (.i .i64 1)]⟩, ⟨.l 8, none, .mv, [.t 50]⟩])
 (.seq (.reg [⟨.t 51, none, .mv, [.l 1]⟩, ⟨.t 52, none, (.build [(.i .i64 0), (.i .i64 0), (.i .i64 0)] []), []⟩, ⟨.t 53, none, (.call 7), [.t 51, .t 52]⟩, ⟨.l 9, none, .mv, [.t 53]⟩])
 (.seq (.reg [⟨.t 54, none, .mv, [.l 1]⟩, ⟨.t 55, none, (.call 11), [.t 54]⟩, ⟨.l 10, none, .mv, [.t 55]⟩])
 (.seq (.reg [⟨.l 11, none, .mv, [.c (.p none)]⟩])
 (.seq (.reg [⟨.t 56, none, .mv, [.l 5]⟩, ⟨.t 57, none, (.build [(.i .i64 0), (.i .i64 0), (.i .i64 0), (.i .i64 0), (.i .i64 0), (.i .i64 0)] [(0, 1), (1, 1), (2, 1), (3, 1)]), [.c (.i .i64 1), .c (.i .i64 5), .c (.i .i64 1), .c (.i .i64 1)]⟩, ⟨.t 58, none, (.bslice [(.i .i64 0), (.i .i64 0), (.i .i64 0), (.i .i64 0), (.i .i64 0), (.i .i64 0)] 1 6 [0]), [.t 57]⟩, ⟨.t 59, none, (.call 12), [.t 56, .t 58]⟩, ⟨.t 60, none, .mv, [.t 59]⟩, ⟨.t 61, (some (.t 60, true)), .mv, [.l 6]⟩, ⟨.t 62, (some (.t 60, true)), (.build [(.i .i64 0), (.i .i64 0), (.i .i64 0), (.i .i64 0), (.i .i64 0), (.i .i64 0)] [(0, 1), (1, 1)]), [.c (.i .i64 2), .c (.i .i64 2)]⟩, ⟨.t 63, (some (.t 60, true)), (.bslice [(.i .i64 0), (.i .i64 0), (.i .i64 0), (.i .i64 0), (.i .i64 0), (.i .i64 0)] 1 6 [0]), [.t 62]⟩, ⟨.t 64, (some (.t 60, true)), (.call 12), [.t 61, .t 63]⟩, ⟨.t 65, none, .pick, [.t 60, .t 64, .c (.b false)]⟩, ⟨.t 66, none, .mv, [.t 65]⟩, ⟨.t 67, (some (.t 66, true)), .mv, [.l 7]⟩, ⟨.t 68, (some (.t 66, true)), (.build [(.i .i64 0), (.i .i64 0), (.i .i64 0), (.i .i64 0), (.i .i64 0), (.i .i64 0)] [(0, 1), (1, 1), (4, 1), (5, 1)]), [.c (.i .i64 4), .c (.i .i64 3), .c (.i .i64 7), .c (.i .i64 1)]⟩, ⟨.t 69, (some (.t 66, true)), (.bslice [(.i .i64 0), (.i .i64 0), (.i .i64 0), (.i .i64 0), (.i .i64 0), (.i .i64 0)] 1 6 [0]), [.t 68]⟩, ⟨.t 70, (some (.t 66, true)), (.call 12), [.t 67, .t 69]⟩, ⟨.t 71, none, .pick, [.t 66, .t 70, .c (.b false)]⟩, ⟨.t 72, none, .mv, [.t 71]⟩, ⟨.t 73, (some (.t 72, true)), .mv, [.l 8]⟩, ⟨.t 74, (some (.t 72, true)), (.build [(.i .i64 0), (.i .i64 0), (.i .i64 0), (.i .i64 0), (.i .i64 0), (.i .i64 0)] [(0, 1), (1, 1), (3, 1)]), [.c (.i .i64 5), .c (.i .i64 1), .c (.i .i64 7)]⟩, ⟨.t 75, (some (.t 72, true)), (.bslice [(.i .i64 0), (.i .i64 0), (.i .i64 0), (.i .i64 0), (.i .i64 0), (.i .i64 0)] 1 6 [0]), [.t 74]⟩, ⟨.t 76, (some (.t 72, true)), (.call 12), [.t 73, .t 75]⟩, ⟨.t 77, none, .pick, [.t 72, .t 76, .c (.b false)]⟩, ⟨.t 78, none, .mv, [.t 77]⟩, ⟨.t 79, (some (.t 78, true)), .mv, [.l 9]⟩, ⟨.t 80, (some (.t 78, true)), (.build [(.i .i64 0), (.i .i64 0), (.i .i64 0), (.i .i64 0), (.i .i64 0), (.i .i64 0)] [(0, 1), (1, 1)]), [.c (.i .i64 6), .c (.i .i64 8)]⟩, ⟨.t 81, (some (.t 78, true)), (.bslice [(.i .i64 0), (.i .i64 0), (.i .i64 0), (.i .i64 0), (.i .i64 0), (.i .i64 0)] 1 6 [0]), [.t 80]⟩, ⟨.t 82, (some (.t 78, true)), (.call 12), [.t 79, .t 81]⟩, ⟨.t 83, none, .pick, [.t 78, .t 82, .c (.b false)]⟩, ⟨.t 84, none, .mv, [.t 83]⟩, ⟨.t 85, (some (.t 84, true)), .mv, [.l 10]⟩, ⟨.t 86, (some (.t 84, true)), .lenSl, [.t 85]⟩, ⟨.t 87, (some (.t 84, true)), (.bin .eql), [.t 86, .c (.i .i64 2)]⟩, ⟨.t 88, none, .pick, [.t 84, .t 87, .c (.b false)]⟩, ⟨.t 89, none, .mv, [.t 88]⟩, ⟨.t 90, (some (.t 89, true)), .mv, [.l 10]⟩, ⟨.t 91, (some (.t 89, true)), (.iad 5), [.t 90, .c (.i .i64 0)]⟩, ⟨.t 92, (some (.t 89, true)), (.fad 3), [.t 91]⟩, ⟨.t 93, (some (.t 89, true)), (.ld none), [.t 92]⟩, ⟨.t 94, (some (.t 89, true)), (.un .not), [.t 93]⟩, ⟨.t 95, none, .pick, [.t 89, .t 94, .c (.b false)]⟩, ⟨.t 96, none, .mv, [.t 95]⟩, ⟨.t 97, (some (.t 96, true)), .mv, [.l 10]⟩, ⟨.t 98, (some (.t 96, true)), (.iad 5), [.t 97, .c (.i .i64 0)]⟩, ⟨.t 99, (some (.t 96, true)), (.fad 1), [.t 98]⟩, ⟨.t 100, (some (.t 96, true)), (.ld none), [.t 99]⟩, ⟨.t 101, (some (.t 96, true)), (.bin .eql), [.t 100, .c (.i .i64 1)]⟩, ⟨.t 102, none, .pick, [.t 96, .t 101, .c (.b false)]⟩, ⟨.t 103, none, .mv, [.t 102]⟩, ⟨.t 104, (some (.t 103, true)), .mv, [.l 10]⟩, ⟨.t 105, (some (.t 103, true)), (.iad 5), [.t 104, .c (.i .i64 1)]⟩, ⟨.t 106, (some (.t 103, true)), (.fad 3), [.t 105]⟩, ⟨.t 107, (some (.t 103, true)), (.ld none), [.t 106]⟩, ⟨.t 108, none, .pick, [.t 103, .t 107, .c (.b false)]⟩, ⟨.t 109, none, .mv, [.t 108]⟩, ⟨.t 110, (some (.t 109, true)), .mv, [.l 10]⟩, ⟨.t 111, (some (.t 109, true)), (.iad 5), [.t 110, .c (.i .i64 1)]⟩, ⟨.t 112, (some (.t 109, true)), (.fad 2), [.t 111]⟩, ⟨.t 113, (some (.t 109, true)), (.ld none), [.t 112]⟩, ⟨.t 114, (some (.t 109, true)), (.bin .eql), [.t 113, .c (.i .i64 7)]⟩, ⟨.t 115, none, .pick, [.t 109, .t 114, .c (.b false)]⟩, ⟨.t 116, none, .mv, [.t 115]⟩, ⟨.t 117, (some (.t 116, true)), .mv, [.l 1]⟩, ⟨.t 118, (some (.t 116, true)), (.call 13), [.t 117]⟩, ⟨.t 119, (some (.t 116, true)), .lenSl, [.t 118]⟩, ⟨.t 120, (some (.t 116, true)), (.bin .eql), [.t 119, .c (.i .i64 6)]⟩, ⟨.t 121, none, .pick, [.t 116, .t 120, .c (.b false)]⟩, ⟨.t 122, none, .mv, [.t 121]⟩, ⟨.t 123, (some (.t 122, true)), .mv, [.l 1]⟩, ⟨.t 124, (some (.t 122, true)), (.call 14), [.t 123]⟩, ⟨.t 125, (some (.t 122, true)), (.eq true .ptr), [.t 124, .c (.p none)]⟩, ⟨.t 126, none, .pick, [.t 122, .t 125, .c (.b false)]⟩, ⟨.t 127, none, .mv, [.t 126]⟩, ⟨.t 128, (some (.t 127, true)), .mv, [.l 11]⟩, ⟨.t 129, (some (.t 127, true)), (.call 15), [.t 128]⟩, ⟨.t 130, (some (.t 127, true)), (.bin .eql), [.t 129, .c (.i .i64 0)]⟩, ⟨.t 131, none, .pick, [.t 127, .t 130, .c (.b false)]⟩, ⟨.t 132, none, .mv, [.t 131]⟩, ⟨.t 133, (some (.t 132, true)), .mv, [.l 11]⟩, ⟨.t 134, (some (.t 132, true)), (.build [(.i .i64 0), (.i .i64 0), (.i .i64 0)] [(0, 1)]), [.c (.i .i64 1)]⟩, ⟨.t 135, (some (.t 132, true)), (.call 7), [.t 133, .t 134]⟩, ⟨.t 136, (some (.t 132, true)), .lenSl, [.t 135]⟩, ⟨.t 137, (some (.t 132, true)), (.bin .eql), [.t 136, .c (.i .i64 0)]⟩, ⟨.t 138, none, .pick, [.t 132, .t 137, .c (.b false)]⟩, ⟨.l 0, none, .mv, [.t 138]⟩])
 .ret)))))))))))))), [.tmp (.l 0)]⟩
/-- tarpaulin/tarpaulinlaw20.made -/
def b5 : Nat := 61
def a5 : AFn := ⟨(.seq (.reg [⟨.l 2, none, .mv, [.c (.p none)]⟩, ⟨.l 3, none, .mv, [.c (.b false)]⟩])
 (.seq (.reg [⟨.t 7, none, .mv, [.l 0]⟩, ⟨.t 8, none, (.call 9), [.t 7]⟩, ⟨.t 6, none, .mv, [.t 8]⟩, ⟨.t 9, none, (.ext 0), [.t 6]⟩, ⟨.t 10, none, (.ext 1), [.t 6]⟩, ⟨.l 4, none, .mv, [.t 9]⟩, ⟨.l 5, none, .mv, [.t 10]⟩])
 (.seq (.reg [⟨.t 11, none, .mv, [.l 4]⟩, ⟨.t 12, none, .mv, [.l 5]⟩, ⟨.t 13, none, (.bin .eql), [.t 12, .c (.i .i64 0)]⟩, ⟨.t 14, none, .mv, [.t 13]⟩, ⟨.t 15, (some (.t 14, true)), .mv, [.l 4]⟩, ⟨.t 16, (some (.t 14, true)), (.eq true .ptr), [.t 15, .c (.p none)]⟩, ⟨.t 17, none, .pick, [.t 14, .t 16, .c (.b false)]⟩, ⟨.l 2, none, .mv, [.t 11]⟩, ⟨.l 3, none, .mv, [.t 17]⟩])
 .ret))), [.tmp (.l 2), .tmp (.l 3)]⟩
/-- tarpaulin/tarpaulinlaw20.all -/
def b6 : Nat := 115
def a6 : AFn := ⟨(.seq (.reg [⟨.l 4, none, .mv, [.c (.sl none 0 0 0)]⟩])
 (.seq (.reg [⟨.l 5, none, .mv, [.c (.sl none 0 0 0)]⟩])
 (.seq (.seq (.reg [⟨.l 6, none, .mv, [.c (.i .i64 0)]⟩])
 (.block 0 (.loop (.seq (.seq (.reg [⟨.t 7, none, .mv, [.l 6]⟩, ⟨.t 8, none, .mv, [.l 1]⟩, ⟨.t 9, none, (.bin .lss), [.t 7, .t 8]⟩])
 (.cond (.t 9) .skip (.exit 0)))
 (.seq (.block 1 (.reg [⟨.t 12, none, .mv, [.l 5]⟩, ⟨.t 13, none, .mv, [.l 0]⟩, ⟨.t 14, none, (.call 10), [.t 13, .c (.i .i64 0)]⟩, ⟨.t 15, none, (.app 6 48), [.t 12, .t 14]⟩, ⟨.l 5, none, .mv, [.t 15]⟩]))
 (.reg [⟨.t 10, none, .mv, [.l 6]⟩, ⟨.t 11, none, (.bin .add), [.t 10, .c (.i .i64 1)]⟩, ⟨.l 6, none, .mv, [.t 11]⟩]))))))
 (.seq (.reg [⟨.t 16, none, .mv, [.l 5]⟩, ⟨.l 4, none, .mv, [.t 16]⟩])
 .ret)))), [.tmp (.l 4)]⟩
/-- (*tarpaulin/world.World).Step -/
def b7 : Nat := 27
def a7 : AFn := ⟨(.seq (.reg [⟨.l 3, none, .box, [.l 1]⟩, ⟨.l 4, none, .mv, [.c (.sl none 0 0 0)]⟩])
 (.seq (.seq (.reg [⟨.t 5, none, .mv, [.l 0]⟩, ⟨.t 6, none, (.eq false .ptr), [.t 5, .c (.p none)]⟩])
 (.cond (.t 6) (.seq (.reg [⟨.l 4, none, .mv, [.c (.sl none 0 0 0)]⟩])
 .ret) .skip))
 (.seq (.reg [⟨.t 7, none, .mv, [.l 0]⟩, ⟨.t 8, none, .nilchk, [.t 7]⟩, ⟨.t 9, none, (.fad 10), [.t 8]⟩, ⟨.no, none, (.st 1), [.t 9, .c (.sl none 0 0 0)]⟩])
 (.seq (.block 0 (.seq (.reg [⟨.t 17, none, (.ld (some 3)), [.l 3]⟩, ⟨.t 18, none, (.call 16), [.t 17]⟩, ⟨.t 19, none, (.bin .neq), [.t 18, .c (.i .i64 0)]⟩, ⟨.t 16, none, .mv, [.t 19]⟩])
 (.cond (.t 16) (.reg [⟨.t 20, none, .mv, [.l 0]⟩, ⟨.t 21, none, (.call 17), [.t 20, .c (.i .i64 8), .c (.i .i64 0), .c (.i .i64 0), .c (.i .i64 0), .c (.i .i64 0)]⟩]) (.seq (.reg [⟨.t 23, none, (.fad 0), [.l 3]⟩, ⟨.t 24, none, (.ld none), [.t 23]⟩, ⟨.t 25, none, (.bin .eql), [.t 24, .c (.i .i64 2)]⟩, ⟨.t 22, none, .mv, [.t 25]⟩])
 (.cond (.t 22) (.reg [⟨.t 26, none, .mv, [.l 0]⟩, ⟨.t 27, none, (.fad 1), [.l 3]⟩, ⟨.t 28, none, (.ld none), [.t 27]⟩, ⟨.t 29, none, (.call 18), [.t 26, .t 28]⟩]) (.reg [⟨.t 10, none, .mv, [.l 0]⟩, ⟨.t 11, none, (.fad 1), [.l 3]⟩, ⟨.t 12, none, (.ld none), [.t 11]⟩, ⟨.t 13, none, (.fad 2), [.l 3]⟩, ⟨.t 14, none, (.ld none), [.t 13]⟩, ⟨.t 15, none, (.call 19), [.t 10, .t 12, .t 14]⟩]))))))
 (.seq (.reg [⟨.t 30, none, .mv, [.l 0]⟩, ⟨.t 31, none, .nilchk, [.t 30]⟩, ⟨.t 32, none, (.fad 9), [.t 31]⟩, ⟨.t 33, none, (.ld none), [.t 32]⟩, ⟨.t 34, none, (.bin .add), [.t 33, .c (.i .i64 1)]⟩, ⟨.t 35, none, .nilchk, [.t 30]⟩, ⟨.t 36, none, (.fad 9), [.t 35]⟩, ⟨.no, none, (.st 1), [.t 36, .t 34]⟩])
 (.seq (.reg [⟨.t 37, none, .mv, [.l 0]⟩, ⟨.t 38, none, .nilchk, [.t 37]⟩, ⟨.t 39, none, (.fad 10), [.t 38]⟩, ⟨.t 40, none, (.ld none), [.t 39]⟩, ⟨.t 41, none, (.call 20), [.t 40]⟩, ⟨.l 4, none, .mv, [.t 41]⟩])
 .ret)))))), [.tmp (.l 4)]⟩
/-- (*tarpaulin/world.World).Tasks -/
def b8 : Nat := 5
def a8 : AFn := ⟨(.seq (.reg [⟨.l 2, none, .mv, [.c (.i .i64 0)]⟩])
 (.seq (.seq (.reg [⟨.t 3, none, .mv, [.l 0]⟩, ⟨.t 4, none, (.eq false .ptr), [.t 3, .c (.p none)]⟩])
 (.cond (.t 4) (.seq (.reg [⟨.l 2, none, .mv, [.c (.i .i64 0)]⟩])
 .ret) .skip))
 (.seq (.reg [⟨.t 5, none, .mv, [.l 0]⟩, ⟨.t 6, none, .nilchk, [.t 5]⟩, ⟨.t 7, none, (.fad 2), [.t 6]⟩, ⟨.t 8, none, (.ld none), [.t 7]⟩, ⟨.t 9, none, (.call 21), [.t 8]⟩, ⟨.l 2, none, .mv, [.t 9]⟩])
 .ret))), [.tmp (.l 2)]⟩
/-- tarpaulin/world.New -/
def b9 : Nat := 939524285
def a9 : AFn := ⟨(.seq (.reg [⟨.l 2, none, .mv, [.c (.p none)]⟩, ⟨.l 3, none, .mv, [.c (.i .i64 0)]⟩])
 (.seq (.seq (.reg [⟨.t 8, none, .mv, [.l 0]⟩, ⟨.t 9, none, (.call 22), [.t 8]⟩, ⟨.l 4, none, .mv, [.t 9]⟩])
 (.seq (.reg [⟨.t 10, none, .mv, [.l 4]⟩, ⟨.t 11, none, (.bin .neq), [.t 10, .c (.i .i64 0)]⟩])
 (.cond (.t 11) (.seq (.reg [⟨.t 12, none, .mv, [.l 4]⟩, ⟨.l 2, none, .mv, [.c (.p none)]⟩, ⟨.l 3, none, .mv, [.t 12]⟩])
 .ret) .skip)))
 (.seq (.reg [⟨.t 13, none, (.call 23), []⟩, ⟨.t 14, none, (.call 24), []⟩, ⟨.t 15, none, (.call 25), []⟩, ⟨.t 16, none, (.call 26), []⟩, ⟨.t 17, none, (.build [(.sl none 0 0 0), (.p none), (.p none), (.sl none 0 0 0), (.i .i64 0), (.p none), (.p none), (.p none), (.sl none 0 0 0), (.i .i64 0), (.sl none 0 0 0)] [(1, 1), (2, 1), (5, 1), (7, 1)]), [.t 13, .t 14, .t 15, .t 16]⟩, ⟨.t 18, none, .box, [.t 17]⟩, ⟨.l 5, none, .mv, [.t 18]⟩])
 (.seq (.reg [⟨.t 19, none, .mv, [.l 5]⟩, ⟨.t 20, none, .mv, [.l 5]⟩, ⟨.t 21, none, .nilchk, [.t 20]⟩, ⟨.t 22, none, (.fad 5), [.t 21]⟩, ⟨.t 23, none, (.ld none), [.t 22]⟩, ⟨.t 24, none, (.call 27), [.t 23]⟩, ⟨.t 25, none, .nilchk, [.t 19]⟩, ⟨.t 26, none, (.fad 6), [.t 25]⟩, ⟨.no, none, (.st 1), [.t 26, .t 24]⟩])
 (.seq (.seq (.reg [⟨.l 27, none, .mv, [.l 0]⟩, ⟨.l 28, none, .lenSl, [.l 27]⟩, ⟨.l 29, none, .mv, [.c (.i .i64 0)]⟩])
 (.block 0 (.loop (.seq (.reg [⟨.t 30, none, (.bin .lss), [.l 29, .l 28]⟩])
 (.seq (.cond (.t 30) .skip (.exit 0))
 (.seq (.block 1 (.seq (.reg [⟨.t 31, none, (.iad 1), [.l 27, .l 29]⟩, ⟨.t 32, none, (.ld none), [.t 31]⟩, ⟨.l 7, none, .mv, [.t 32]⟩])
 (.regD [⟨.t 33, none, .mv, [.l 5]⟩, ⟨.t 34, none, .mv, [.l 5]⟩, ⟨.t 35, none, .nilchk, [.t 34]⟩, ⟨.t 36, none, (.fad 0), [.t 35]⟩, ⟨.t 37, none, (.ld none), [.t 36]⟩, ⟨.t 38, none, .mv, [.l 7]⟩, ⟨.t 39, none, (.call 28), [.t 38]⟩, ⟨.t 40, none, (.bslice [(.sl none 0 0 0)] 1 1 [0]), [.t 39]⟩, ⟨.t 41, none, (.app 1 24), [.t 37, .t 40]⟩, ⟨.t 42, none, .nilchk, [.t 33]⟩, ⟨.t 43, none, (.fad 0), [.t 42]⟩, ⟨.no, none, (.st 1), [.t 43, .t 41]⟩] [(4, 7)])))
 (.reg [⟨.t 44, none, (.bin .add), [.l 29, .c (.i .i64 1)]⟩, ⟨.l 29, none, .mv, [.t 44]⟩])))))))
 (.seq (.reg [⟨.t 45, none, .mv, [.l 5]⟩, ⟨.t 46, none, .nilchk, [.t 45]⟩, ⟨.t 47, none, (.fad 2), [.t 46]⟩, ⟨.t 48, none, (.ld none), [.t 47]⟩, ⟨.t 49, none, (.build [(.i .i64 0), (.i .i64 0), (.i .i64 0), (.i .i64 0), (.i .i64 0), (.i .i64 0), (.i .i64 0), (.i .i64 0)] []), []⟩, ⟨.t 50, none, (.call 29), [.t 48, .c (.i .i64 0), .t 49]⟩])
 (.seq (.reg [⟨.t 51, none, .mv, [.l 5]⟩, ⟨.l 2, none, .mv, [.t 51]⟩, ⟨.l 3, none, .mv, [.c (.i .i64 0)]⟩])
 .ret))))))), [.tmp (.l 2), .tmp (.l 3)]⟩
/-- tarpaulin/tarpaulinlaw20.run -/
def b10 : Nat := 19
def a10 : AFn := ⟨(.seq (.reg [⟨.l 4, none, .mv, [.c (.sl none 0 0 0)]⟩])
 (.seq (.reg [⟨.t 5, none, .mv, [.l 0]⟩, ⟨.t 6, none, .mv, [.l 1]⟩, ⟨.t 7, none, (.build [(.i .i64 0), (.i .i64 0), (.i .i64 0)] [(0, 1), (1, 1)]), [.c (.i .i64 1), .t 6]⟩, ⟨.t 8, none, (.call 7), [.t 5, .t 7]⟩, ⟨.l 4, none, .mv, [.t 8]⟩])
 .ret)), [.tmp (.l 4)]⟩
/-- (*tarpaulin/world.World).Deals -/
def b11 : Nat := 5
def a11 : AFn := ⟨(.seq (.reg [⟨.l 2, none, .mv, [.c (.sl none 0 0 0)]⟩])
 (.seq (.seq (.reg [⟨.t 3, none, .mv, [.l 0]⟩, ⟨.t 4, none, (.eq false .ptr), [.t 3, .c (.p none)]⟩])
 (.cond (.t 4) (.seq (.reg [⟨.l 2, none, .mv, [.c (.sl none 0 0 0)]⟩])
 .ret) .skip))
 (.seq (.reg [⟨.t 5, none, .mv, [.l 0]⟩, ⟨.t 6, none, .nilchk, [.t 5]⟩, ⟨.t 7, none, (.fad 7), [.t 6]⟩, ⟨.t 8, none, (.ld none), [.t 7]⟩, ⟨.t 9, none, (.call 30), [.t 8]⟩, ⟨.l 2, none, .mv, [.t 9]⟩])
 .ret))), [.tmp (.l 2)]⟩
/-- tarpaulin/tarpaulinalike.Events -/
def b12 : Nat := 51
def a12 : AFn := ⟨(.seq (.reg [⟨.l 4, none, .mv, [.c (.b false)]⟩])
 (.seq (.seq (.reg [⟨.t 6, none, .mv, [.l 0]⟩, ⟨.t 7, none, .lenSl, [.t 6]⟩, ⟨.t 8, none, .mv, [.l 1]⟩, ⟨.t 9, none, .lenSl, [.t 8]⟩, ⟨.t 10, none, (.bin .neq), [.t 7, .t 9]⟩])
 (.cond (.t 10) (.seq (.reg [⟨.l 4, none, .mv, [.c (.b false)]⟩])
 .ret) .skip))
 (.seq (.seq (.reg [⟨.l 5, none, .mv, [.c (.i .i64 0)]⟩])
 (.block 0 (.loop (.seq (.seq (.reg [⟨.t 11, none, .mv, [.l 5]⟩, ⟨.t 12, none, .mv, [.l 0]⟩, ⟨.t 13, none, .lenSl, [.t 12]⟩, ⟨.t 14, none, (.bin .lss), [.t 11, .t 13]⟩])
 (.cond (.t 14) .skip (.exit 0)))
 (.seq (.block 1 (.seq (.reg [⟨.t 17, none, .mv, [.l 0]⟩, ⟨.t 18, none, .mv, [.l 5]⟩, ⟨.t 19, none, (.iad 6), [.t 17, .t 18]⟩, ⟨.t 20, none, (.ld (some 6)), [.t 19]⟩, ⟨.t 21, none, .mv, [.l 1]⟩, ⟨.t 22, none, .mv, [.l 5]⟩, ⟨.t 23, none, (.iad 6), [.t 21, .t 22]⟩, ⟨.t 24, none, (.ld (some 6)), [.t 23]⟩, ⟨.t 25, none, (.eq true (.agg [(0, 1), (1, 1), (2, 1), (3, 1), (4, 1), (5, 1)])), [.t 20, .t 24]⟩])
 (.cond (.t 25) (.seq (.reg [⟨.l 4, none, .mv, [.c (.b false)]⟩])
 .ret) .skip)))
 (.reg [⟨.t 15, none, .mv, [.l 5]⟩, ⟨.t 16, none, (.bin .add), [.t 15, .c (.i .i64 1)]⟩, ⟨.l 5, none, .mv, [.t 16]⟩]))))))
 (.seq (.reg [⟨.l 4, none, .mv, [.c (.b true)]⟩])
 .ret)))), [.tmp (.l 4)]⟩
/-- (*tarpaulin/world.World).Looks -/
def b13 : Nat := 7189
def a13 : AFn := ⟨(.seq (.reg [⟨.l 2, none, .mv, [.c (.sl none 0 0 0)]⟩])
 (.seq (.seq (.reg [⟨.t 5, none, .mv, [.l 0]⟩, ⟨.t 6, none, (.eq false .ptr), [.t 5, .c (.p none)]⟩])
 (.cond (.t 6) (.seq (.reg [⟨.l 2, none, .mv, [.c (.sl none 0 0 0)]⟩])
 .ret) .skip))
 (.seq (.seq (.reg [⟨.t 7, none, .mv, [.l 0]⟩, ⟨.t 8, none, .nilchk, [.t 7]⟩, ⟨.t 9, none, (.fad 8), [.t 8]⟩, ⟨.l 10, none, (.ld none), [.t 9]⟩, ⟨.l 11, none, .lenSl, [.l 10]⟩, ⟨.l 12, none, .mv, [.c (.i .i64 0)]⟩])
 (.block 0 (.loop (.seq (.reg [⟨.t 13, none, (.bin .lss), [.l 12, .l 11]⟩])
 (.seq (.cond (.t 13) .skip (.exit 0))
 (.seq (.block 1 (.seq (.reg [⟨.t 14, none, (.iad 2), [.l 10, .l 12]⟩, ⟨.t 15, none, (.ld (some 2)), [.t 14]⟩, ⟨.l 4, none, (.alloc [(.sl none 0 0 0), (.i .i64 0)]), []⟩, ⟨.no, none, (.st 2), [.l 4, .t 15]⟩])
 (.regD [⟨.t 16, none, .mv, [.l 2]⟩, ⟨.t 17, none, (.fad 0), [.l 4]⟩, ⟨.t 18, none, (.ld none), [.t 17]⟩, ⟨.t 19, none, (.call 31), [.t 18]⟩, ⟨.t 20, none, (.fad 1), [.l 4]⟩, ⟨.t 21, none, (.ld none), [.t 20]⟩, ⟨.t 22, none, (.build [(.sl none 0 0 0), (.i .i64 0)] [(0, 1), (1, 1)]), [.t 19, .t 21]⟩, ⟨.t 23, none, (.bslice [(.sl none 0 0 0), (.i .i64 0)] 1 2 [0]), [.t 22]⟩, ⟨.t 24, none, (.app 2 32), [.t 16, .t 23]⟩, ⟨.l 2, none, .mv, [.t 24]⟩] [(5, 0)])))
 (.reg [⟨.t 25, none, (.bin .add), [.l 12, .c (.i .i64 1)]⟩, ⟨.l 12, none, .mv, [.t 25]⟩])))))))
 (.seq (.reg [⟨.t 26, none, .mv, [.l 2]⟩, ⟨.l 2, none, .mv, [.t 26]⟩])
 .ret)))), [.tmp (.l 2)]⟩
/-- (*tarpaulin/world.World).Contexts -/
def b14 : Nat := 5
def a14 : AFn := ⟨(.seq (.reg [⟨.l 2, none, .mv, [.c (.p none)]⟩])
 (.seq (.seq (.reg [⟨.t 3, none, .mv, [.l 0]⟩, ⟨.t 4, none, (.eq false .ptr), [.t 3, .c (.p none)]⟩])
 (.cond (.t 4) (.seq (.reg [⟨.l 2, none, .mv, [.c (.p none)]⟩])
 .ret) .skip))
 (.seq (.reg [⟨.t 5, none, .mv, [.l 0]⟩, ⟨.t 6, none, .nilchk, [.t 5]⟩, ⟨.t 7, none, (.fad 6), [.t 6]⟩, ⟨.t 8, none, (.ld none), [.t 7]⟩, ⟨.l 2, none, .mv, [.t 8]⟩])
 .ret))), [.tmp (.l 2)]⟩
/-- (*tarpaulin/world.World).Now -/
def b15 : Nat := 5
def a15 : AFn := ⟨(.seq (.reg [⟨.l 2, none, .mv, [.c (.i .i64 0)]⟩])
 (.seq (.seq (.reg [⟨.t 3, none, .mv, [.l 0]⟩, ⟨.t 4, none, (.eq false .ptr), [.t 3, .c (.p none)]⟩])
 (.cond (.t 4) (.seq (.reg [⟨.l 2, none, .mv, [.c (.i .i64 0)]⟩])
 .ret) .skip))
 (.seq (.reg [⟨.t 5, none, .mv, [.l 0]⟩, ⟨.t 6, none, .nilchk, [.t 5]⟩, ⟨.t 7, none, (.fad 1), [.t 6]⟩, ⟨.t 8, none, (.ld none), [.t 7]⟩, ⟨.t 9, none, (.call 32), [.t 8]⟩, ⟨.l 2, none, .mv, [.t 9]⟩])
 .ret))), [.tmp (.l 2)]⟩
/-- tarpaulin/script.Check -/
def b16 : Nat := 7
def a16 : AFn := ⟨(.seq (.reg [⟨.l 1, none, .box, [.l 0]⟩, ⟨.l 2, none, .mv, [.c (.i .i64 0)]⟩])
 (.seq (.seq (.reg [⟨.t 3, none, (.fad 0), [.l 1]⟩, ⟨.t 4, none, (.ld none), [.t 3]⟩, ⟨.t 5, none, (.bin .eql), [.t 4, .c (.i .i64 1)]⟩, ⟨.t 6, none, .mv, [.t 5]⟩, ⟨.t 7, (some (.t 6, false)), (.fad 0), [.l 1]⟩, ⟨.t 8, (some (.t 6, false)), (.ld none), [.t 7]⟩, ⟨.t 9, (some (.t 6, false)), (.bin .eql), [.t 8, .c (.i .i64 2)]⟩, ⟨.t 10, (some (.t 6, false)), .mv, [.t 9]⟩, ⟨.t 11, (some (.t 10, true)), (.fad 1), [.l 1]⟩, ⟨.t 12, (some (.t 10, true)), (.ld none), [.t 11]⟩, ⟨.t 13, (some (.t 10, true)), (.bin .geq), [.t 12, .c (.i .i64 0)]⟩, ⟨.t 14, (some (.t 6, false)), .pick, [.t 10, .t 13, .c (.b false)]⟩, ⟨.t 15, (some (.t 6, false)), .mv, [.t 14]⟩, ⟨.t 16, (some (.t 15, true)), (.fad 2), [.l 1]⟩, ⟨.t 17, (some (.t 15, true)), (.ld none), [.t 16]⟩, ⟨.t 18, (some (.t 15, true)), (.bin .eql), [.t 17, .c (.i .i64 0)]⟩, ⟨.t 19, (some (.t 6, false)), .pick, [.t 15, .t 18, .c (.b false)]⟩, ⟨.t 20, none, .pick, [.t 6, .c (.b true), .t 19]⟩])
 (.cond (.t 20) (.seq (.reg [⟨.l 2, none, .mv, [.c (.i .i64 0)]⟩])
 .ret) .skip))
 (.seq (.reg [⟨.l 2, none, .mv, [.c (.i .i64 1)]⟩])
 .ret))), [.tmp (.l 2)]⟩
/-- (*tarpaulin/world.World).tell -/
def b17 : Nat := 63
def a17 : AFn := ⟨(.reg [⟨.t 12, none, .mv, [.l 0]⟩, ⟨.t 13, none, .mv, [.l 0]⟩, ⟨.t 14, none, .nilchk, [.t 13]⟩, ⟨.t 15, none, (.fad 10), [.t 14]⟩, ⟨.t 16, none, (.ld none), [.t 15]⟩, ⟨.t 17, none, .mv, [.l 0]⟩, ⟨.t 18, none, .nilchk, [.t 17]⟩, ⟨.t 19, none, (.fad 9), [.t 18]⟩, ⟨.t 20, none, (.ld none), [.t 19]⟩, ⟨.t 21, none, .mv, [.l 1]⟩, ⟨.t 22, none, .mv, [.l 2]⟩, ⟨.t 23, none, .mv, [.l 3]⟩, ⟨.t 24, none, .mv, [.l 4]⟩, ⟨.t 25, none, .mv, [.l 5]⟩, ⟨.t 26, none, (.build [(.i .i64 0), (.i .i64 0), (.i .i64 0), (.i .i64 0), (.i .i64 0), (.i .i64 0)] [(0, 1), (1, 1), (2, 1), (3, 1), (4, 1), (5, 1)]), [.t 20, .t 21, .t 22, .t 23, .t 24, .t 25]⟩, ⟨.t 27, none, (.bslice [(.i .i64 0), (.i .i64 0), (.i .i64 0), (.i .i64 0), (.i .i64 0), (.i .i64 0)] 1 6 [0]), [.t 26]⟩, ⟨.t 28, none, (.app 6 48), [.t 16, .t 27]⟩, ⟨.t 29, none, .nilchk, [.t 12]⟩, ⟨.t 30, none, (.fad 10), [.t 29]⟩, ⟨.no, none, (.st 1), [.t 30, .t 28]⟩]), []⟩
/-- (*tarpaulin/world.World).advance -/
def b18 : Nat := 68719476787
def a18 : AFn := ⟨(.seq (.reg [⟨.t 6, none, .mv, [.l 0]⟩, ⟨.t 7, none, .nilchk, [.t 6]⟩, ⟨.t 8, none, (.fad 1), [.t 7]⟩, ⟨.t 9, none, (.ld none), [.t 8]⟩, ⟨.t 10, none, .mv, [.l 1]⟩, ⟨.t 11, none, (.call 33), [.t 9, .t 10]⟩])
 (.seq (.regD [⟨.t 13, none, .mv, [.l 0]⟩, ⟨.t 14, none, .nilchk, [.t 13]⟩, ⟨.t 15, none, (.fad 5), [.t 14]⟩, ⟨.t 16, none, (.ld none), [.t 15]⟩, ⟨.t 17, none, .mv, [.l 0]⟩, ⟨.t 18, none, (.call 15), [.t 17]⟩, ⟨.t 19, none, (.call 34), [.t 16, .t 18]⟩, ⟨.t 12, none, .mv, [.t 19]⟩, ⟨.t 20, none, (.ext 0), [.t 12]⟩, ⟨.t 21, none, (.ext 1), [.t 12]⟩, ⟨.l 4, none, (.alloc [(.i .i64 0), (.i .i64 0), (.i .i64 0), (.i .i64 0), (.i .i64 0), (.sl none 0 0 0), (.b false)]), []⟩, ⟨.no, none, (.st 7), [.l 4, .t 20]⟩, ⟨.l 5, none, .mv, [.t 21]⟩] [(3, 6)])
 (.block 0 (.loop (.seq (.seq (.reg [⟨.t 22, none, .mv, [.l 5]⟩])
 (.cond (.t 22) .skip (.exit 0)))
 (.seq (.block 1 (.reg [⟨.t 33, none, .mv, [.l 0]⟩, ⟨.t 34, none, (.ld (some 7)), [.l 4]⟩, ⟨.t 35, none, (.call 35), [.t 33, .t 34]⟩]))
 (.seq (.seq (.reg [⟨.l 36, none, (.ld (some 7)), [.l 4]⟩])
 (.reg [⟨.l 4, none, (.alloc [(.i .i64 0), (.i .i64 0), (.i .i64 0), (.i .i64 0), (.i .i64 0), (.sl none 0 0 0), (.b false)]), []⟩, ⟨.no, none, (.st 7), [.l 4, .l 36]⟩]))
 (.regD [⟨.t 24, none, .mv, [.l 0]⟩, ⟨.t 25, none, .nilchk, [.t 24]⟩, ⟨.t 26, none, (.fad 5), [.t 25]⟩, ⟨.t 27, none, (.ld none), [.t 26]⟩, ⟨.t 28, none, .mv, [.l 0]⟩, ⟨.t 29, none, (.call 15), [.t 28]⟩, ⟨.t 30, none, (.call 34), [.t 27, .t 29]⟩, ⟨.t 23, none, .mv, [.t 30]⟩, ⟨.t 31, none, (.ext 0), [.t 23]⟩, ⟨.t 32, none, (.ext 1), [.t 23]⟩, ⟨.no, none, (.st 7), [.l 4, .t 31]⟩, ⟨.l 5, none, .mv, [.t 32]⟩] [(3, 6)])))))))), []⟩
/-- (*tarpaulin/world.World).run -/
def b19 : Nat := 31687
def a19 : AFn := ⟨(.seq (.reg [⟨.t 15, none, .mv, [.l 0]⟩, ⟨.t 16, none, .nilchk, [.t 15]⟩, ⟨.t 17, none, (.fad 2), [.t 16]⟩, ⟨.t 18, none, (.ld none), [.t 17]⟩, ⟨.t 19, none, (.call 36), [.t 18]⟩, ⟨.l 6, none, .mv, [.t 19]⟩])
 (.seq (.reg [⟨.t 21, none, .mv, [.l 0]⟩, ⟨.t 22, none, .nilchk, [.t 21]⟩, ⟨.t 23, none, (.fad 2), [.t 22]⟩, ⟨.t 24, none, (.ld none), [.t 23]⟩, ⟨.t 25, none, .mv, [.l 1]⟩, ⟨.t 26, none, (.call 37), [.t 24, .t 25]⟩, ⟨.t 20, none, .mv, [.t 26]⟩, ⟨.t 27, none, (.ext 0), [.t 20]⟩, ⟨.t 28, none, (.ext 1), [.t 20]⟩, ⟨.l 7, none, .mv, [.t 27]⟩, ⟨.l 8, none, .mv, [.t 28]⟩])
 (.seq (.seq (.reg [⟨.t 29, none, .mv, [.l 8]⟩, ⟨.t 30, none, (.un .not), [.t 29]⟩])
 (.cond (.t 30) (.seq (.reg [⟨.t 31, none, .mv, [.l 0]⟩, ⟨.t 32, none, .mv, [.l 0]⟩, ⟨.t 33, none, .nilchk, [.t 32]⟩, ⟨.t 34, none, (.fad 8), [.t 33]⟩, ⟨.t 35, none, (.ld none), [.t 34]⟩, ⟨.t 36, none, .mv, [.l 6]⟩, ⟨.t 37, none, (.build [(.sl none 0 0 0), (.i .i64 0)] [(0, 1), (1, 1)]), [.t 36, .c (.i .i64 (-1))]⟩, ⟨.t 38, none, (.bslice [(.sl none 0 0 0), (.i .i64 0)] 1 2 [0]), [.t 37]⟩, ⟨.t 39, none, (.app 2 32), [.t 35, .t 38]⟩, ⟨.t 40, none, .nilchk, [.t 31]⟩, ⟨.t 41, none, (.fad 8), [.t 40]⟩, ⟨.no, none, (.st 1), [.t 41, .t 39]⟩])
 .ret) .skip))
 (.seq (.reg [⟨.t 42, none, .mv, [.l 0]⟩, ⟨.t 43, none, .mv, [.l 0]⟩, ⟨.t 44, none, .nilchk, [.t 43]⟩, ⟨.t 45, none, (.fad 8), [.t 44]⟩, ⟨.t 46, none, (.ld none), [.t 45]⟩, ⟨.t 47, none, .mv, [.l 6]⟩, ⟨.t 48, none, .mv, [.l 7]⟩, ⟨.t 49, none, (.build [(.sl none 0 0 0), (.i .i64 0)] [(0, 1), (1, 1)]), [.t 47, .t 48]⟩, ⟨.t 50, none, (.bslice [(.sl none 0 0 0), (.i .i64 0)] 1 2 [0]), [.t 49]⟩, ⟨.t 51, none, (.app 2 32), [.t 46, .t 50]⟩, ⟨.t 52, none, .nilchk, [.t 42]⟩, ⟨.t 53, none, (.fad 8), [.t 52]⟩, ⟨.no, none, (.st 1), [.t 53, .t 51]⟩])
 (.seq (.reg [⟨.t 55, none, .mv, [.l 0]⟩, ⟨.t 56, none, .nilchk, [.t 55]⟩, ⟨.t 57, none, (.fad 2), [.t 56]⟩, ⟨.t 58, none, (.ld none), [.t 57]⟩, ⟨.t 59, none, .mv, [.l 7]⟩, ⟨.t 60, none, (.call 38), [.t 58, .t 59]⟩, ⟨.t 54, none, .mv, [.t 60]⟩, ⟨.t 61, none, (.ext 0), [.t 54]⟩, ⟨.t 62, none, (.ext 1), [.t 54]⟩, ⟨.l 9, none, (.alloc [(.i .i64 0), (.i .i64 0), (.i .i64 0), (.i .i64 0), (.i .i64 0), (.i .i64 0), (.i .i64 0), (.i .i64 0), (.i .i64 0), (.i .i64 0), (.i .i64 0), (.i .i64 0), (.i .i64 0), (.i .i64 0), (.i .i64 0), (.i .i64 0), (.sl none 0 0 0), (.b false)]), []⟩, ⟨.no, none, (.st 18), [.l 9, .t 61]⟩, ⟨.t 10, none, .mv, [.t 62]⟩])
 (.seq (.reg [⟨.t 63, none, .mv, [.l 0]⟩, ⟨.t 64, none, .nilchk, [.t 63]⟩, ⟨.t 65, none, (.fad 0), [.t 64]⟩, ⟨.t 66, none, (.ld none), [.t 65]⟩, ⟨.t 67, none, (.fad 0), [.l 9]⟩, ⟨.t 68, none, (.ld none), [.t 67]⟩, ⟨.t 69, none, (.iad 1), [.t 66, .t 68]⟩, ⟨.t 70, none, (.ld none), [.t 69]⟩, ⟨.l 11, none, .mv, [.t 70]⟩])
 (.seq (.seq (.regD [⟨.t 72, none, .mv, [.l 11]⟩, ⟨.t 73, none, (.fad 1), [.l 9]⟩, ⟨.t 74, none, (.ld none), [.t 73]⟩, ⟨.t 75, none, (.fad 4), [.l 9]⟩, ⟨.t 76, none, (.ld (some 8)), [.t 75]⟩, ⟨.t 77, none, .mv, [.l 0]⟩, ⟨.t 78, none, (.call 15), [.t 77]⟩, ⟨.t 79, none, (.call 39), [.t 72, .t 74, .t 76, .t 78]⟩, ⟨.t 71, none, .mv, [.t 79]⟩, ⟨.t 80, none, (.ext 0), [.t 71]⟩, ⟨.t 81, none, (.ext 1), [.t 71]⟩, ⟨.l 12, none, (.alloc [(.i .i64 0), (.i .i64 0), (.i .i64 0), (.i .i64 0), (.i .i64 0), (.i .i64 0), (.i .i64 0), (.i .i64 0), (.i .i64 0), (.b false), (.i .i64 0), (.b false)]), []⟩, ⟨.no, none, (.st 12), [.l 12, .t 80]⟩, ⟨.l 13, none, .mv, [.t 81]⟩] [(2, 7), (4, 7)])
 (.seq (.reg [⟨.t 82, none, .mv, [.l 13]⟩, ⟨.t 83, none, (.bin .eql), [.t 82, .c (.i .i64 0)]⟩])
 (.cond (.t 83) (.seq (.reg [⟨.t 84, none, .mv, [.l 0]⟩, ⟨.t 85, none, .mv, [.l 7]⟩, ⟨.t 86, none, (.ld (some 12)), [.l 12]⟩, ⟨.t 87, none, (.call 40), [.t 84, .t 85, .t 86]⟩])
 .ret) .skip)))
 (.seq (.reg [⟨.t 88, none, .mv, [.l 0]⟩, ⟨.t 89, none, .mv, [.l 7]⟩, ⟨.t 90, none, .mv, [.l 11]⟩, ⟨.t 91, none, (.fad 1), [.l 9]⟩, ⟨.t 92, none, (.ld none), [.t 91]⟩, ⟨.t 93, none, (.iad 6), [.t 90, .t 92]⟩, ⟨.t 94, none, (.ld (some 6)), [.t 93]⟩, ⟨.t 95, none, (.fad 4), [.l 9]⟩, ⟨.t 96, none, (.ld (some 8)), [.t 95]⟩, ⟨.t 97, none, (.fad 4), [.l 9]⟩, ⟨.t 98, none, (.ld (some 8)), [.t 97]⟩, ⟨.t 99, none, .mv, [.l 2]⟩, ⟨.t 100, none, (.build [(.p none), (.i .i64 0), (.i .i64 0), (.i .i64 0), (.i .i64 0), (.i .i64 0), (.sl none 0 0 0), (.b false), (.i .i64 0), (.i .i64 0), (.i .i64 0), (.i .i64 0), (.i .i64 0), (.i .i64 0), (.i .i64 0), (.i .i64 0), (.i .i64 0), (.i .i64 0), (.i .i64 0), (.i .i64 0), (.i .i64 0), (.i .i64 0), (.i .i64 0), (.i .i64 0), (.i .i64 0), (.i .i64 0), (.b false)] [(0, 1), (1, 1), (2, 6), (8, 8), (16, 8), (24, 1)]), [.t 88, .t 89, .t 94, .t 96, .t 98, .t 99]⟩, ⟨.t 101, none, .box, [.t 100]⟩, ⟨.l 14, none, .mv, [.t 101]⟩])
 (.seq (.reg [⟨.t 102, none, .mv, [.l 14]⟩, ⟨.t 103, none, (.call 41), [.t 102]⟩])
 (.block 0 (.seq (.reg [⟨.t 118, none, .mv, [.l 14]⟩, ⟨.t 119, none, .nilchk, [.t 118]⟩, ⟨.t 120, none, (.fad 25), [.t 119]⟩, ⟨.t 121, none, (.ld none), [.t 120]⟩, ⟨.t 122, none, (.bin .neq), [.t 121, .c (.i .i64 0)]⟩, ⟨.t 117, none, .mv, [.t 122]⟩])
 (.cond (.t 117) (.seq (.reg [⟨.t 123, none, .mv, [.l 0]⟩, ⟨.t 124, none, .nilchk, [.t 123]⟩, ⟨.t 125, none, (.fad 2), [.t 124]⟩, ⟨.t 126, none, (.ld none), [.t 125]⟩, ⟨.t 127, none, .mv, [.l 7]⟩, ⟨.t 128, none, .mv, [.l 14]⟩, ⟨.t 129, none, .nilchk, [.t 128]⟩, ⟨.t 130, none, (.fad 25), [.t 129]⟩, ⟨.t 131, none, (.ld none), [.t 130]⟩, ⟨.t 132, none, (.call 42), [.t 126, .t 127, .t 131]⟩])
 (.reg [⟨.t 133, none, .mv, [.l 0]⟩, ⟨.t 134, none, .mv, [.l 7]⟩, ⟨.t 135, none, .mv, [.l 14]⟩, ⟨.t 136, none, .nilchk, [.t 135]⟩, ⟨.t 137, none, (.fad 25), [.t 136]⟩, ⟨.t 138, none, (.ld none), [.t 137]⟩, ⟨.t 139, none, (.call 17), [.t 133, .c (.i .i64 4), .t 134, .t 138, .c (.i .i64 0), .c (.i .i64 0)]⟩])) (.seq (.reg [⟨.t 141, none, .mv, [.l 14]⟩, ⟨.t 142, none, .nilchk, [.t 141]⟩, ⟨.t 143, none, (.fad 26), [.t 142]⟩, ⟨.t 144, none, (.ld none), [.t 143]⟩, ⟨.t 140, none, .mv, [.t 144]⟩])
 (.cond (.t 140) (.seq (.reg [⟨.t 145, none, .mv, [.l 0]⟩, ⟨.t 146, none, .nilchk, [.t 145]⟩, ⟨.t 147, none, (.fad 2), [.t 146]⟩, ⟨.t 148, none, (.ld none), [.t 147]⟩, ⟨.t 149, none, .mv, [.l 7]⟩, ⟨.t 150, none, .mv, [.l 14]⟩, ⟨.t 151, none, .nilchk, [.t 150]⟩, ⟨.t 152, none, (.fad 2), [.t 151]⟩, ⟨.t 153, none, (.ld (some 6)), [.t 152]⟩, ⟨.t 154, none, (.call 43), [.t 148, .t 149, .t 153]⟩])
 (.reg [⟨.t 155, none, .mv, [.l 0]⟩, ⟨.t 156, none, .mv, [.l 7]⟩, ⟨.t 157, none, (.call 17), [.t 155, .c (.i .i64 2), .t 156, .c (.i .i64 0), .c (.i .i64 0), .c (.i .i64 0)]⟩])) (.reg [⟨.t 104, none, .mv, [.l 0]⟩, ⟨.t 105, none, .nilchk, [.t 104]⟩, ⟨.t 106, none, (.fad 2), [.t 105]⟩, ⟨.t 107, none, (.ld none), [.t 106]⟩, ⟨.t 108, none, .mv, [.l 7]⟩, ⟨.t 109, none, (.fad 1), [.l 9]⟩, ⟨.t 110, none, (.ld none), [.t 109]⟩, ⟨.t 111, none, (.bin .add), [.t 110, .c (.i .i64 1)]⟩, ⟨.t 112, none, .mv, [.l 14]⟩, ⟨.t 113, none, .nilchk, [.t 112]⟩, ⟨.t 114, none, (.fad 16), [.t 113]⟩, ⟨.t 115, none, (.ld (some 8)), [.t 114]⟩, ⟨.t 116, none, (.call 44), [.t 107, .t 108, .t 111, .t 115]⟩]))))))))))))))), []⟩
/-- slices.Clone[[]tarpaulin/api.Event,tarpaulin/api.Event] -/
def b20 : Nat := 5
def a20 : AFn := ⟨(.seq (.reg [⟨.l 2, none, .mv, [.c (.sl none 0 0 0)]⟩])
 (.seq (.seq (.reg [⟨.t 3, none, .mv, [.l 0]⟩, ⟨.t 4, none, (.eq false .slnil), [.t 3, .c (.sl none 0 0 0)]⟩])
 (.cond (.t 4) (.seq (.reg [⟨.l 2, none, .mv, [.c (.sl none 0 0 0)]⟩])
 .ret) .skip))
 (.seq (.reg [⟨.t 5, none, (.bslice [(.i .i64 0), (.i .i64 0), (.i .i64 0), (.i .i64 0), (.i .i64 0), (.i .i64 0)] 0 6 []), []⟩, ⟨.t 6, none, .mv, [.l 0]⟩, ⟨.t 7, none, (.app 6 48), [.t 5, .t 6]⟩, ⟨.l 2, none, .mv, [.t 7]⟩])
 .ret))), [.tmp (.l 2)]⟩
/-- (*tarpaulin/task.Table).Len -/
def b21 : Nat := 5
def a21 : AFn := ⟨(.seq (.reg [⟨.l 2, none, .mv, [.c (.i .i64 0)]⟩])
 (.seq (.seq (.reg [⟨.t 3, none, .mv, [.l 0]⟩, ⟨.t 4, none, (.eq false .ptr), [.t 3, .c (.p none)]⟩])
 (.cond (.t 4) (.seq (.reg [⟨.l 2, none, .mv, [.c (.i .i64 0)]⟩])
 .ret) .skip))
 (.seq (.reg [⟨.t 5, none, .mv, [.l 0]⟩, ⟨.t 6, none, .nilchk, [.t 5]⟩, ⟨.t 7, none, (.fad 0), [.t 6]⟩, ⟨.t 8, none, (.ld none), [.t 7]⟩, ⟨.t 9, none, (.call 45), [.t 8]⟩, ⟨.l 2, none, .mv, [.t 9]⟩])
 .ret))), [.tmp (.l 2)]⟩
/-- tarpaulin/prog.All -/
def b22 : Nat := 57367
def a22 : AFn := ⟨(.seq (.reg [⟨.l 1, none, .box, [.l 0]⟩, ⟨.l 2, none, .mv, [.c (.i .i64 0)]⟩])
 (.seq (.seq (.reg [⟨.t 5, none, (.ld none), [.l 1]⟩, ⟨.t 6, none, .lenSl, [.t 5]⟩, ⟨.t 7, none, (.bin .lss), [.t 6, .c (.i .i64 1)]⟩, ⟨.t 8, none, .mv, [.t 7]⟩, ⟨.t 9, (some (.t 8, false)), (.ld none), [.l 1]⟩, ⟨.t 10, (some (.t 8, false)), .lenSl, [.t 9]⟩, ⟨.t 11, (some (.t 8, false)), (.bin .gtr), [.t 10, .c (.i .i64 16)]⟩, ⟨.t 12, none, .pick, [.t 8, .c (.b true), .t 11]⟩])
 (.cond (.t 12) (.seq (.reg [⟨.l 2, none, .mv, [.c (.i .i64 1)]⟩])
 .ret) .skip))
 (.seq (.seq (.reg [⟨.l 13, none, (.ld none), [.l 1]⟩, ⟨.l 14, none, .lenSl, [.l 13]⟩, ⟨.l 15, none, .mv, [.c (.i .i64 0)]⟩])
 (.block 0 (.loop (.seq (.reg [⟨.t 16, none, (.bin .lss), [.l 15, .l 14]⟩])
 (.seq (.cond (.t 16) .skip (.exit 0))
 (.seq (.block 1 (.seq (.reg [⟨.t 17, none, (.iad 1), [.l 13, .l 15]⟩, ⟨.t 18, none, (.ld none), [.t 17]⟩, ⟨.l 4, none, .mv, [.t 18]⟩])
 (.seq (.reg [⟨.t 19, none, .mv, [.l 4]⟩, ⟨.t 20, none, (.call 46), [.t 19]⟩, ⟨.t 21, none, (.bin .neq), [.t 20, .c (.i .i64 0)]⟩, ⟨.t 22, none, .mv, [.t 21]⟩, ⟨.t 23, (some (.t 22, false)), .mv, [.l 4]⟩, ⟨.t 24, (some (.t 22, false)), (.mkfn 48 0), [.l 1]⟩, ⟨.t 25, (some (.t 22, false)), (.call 47), [.t 23, .t 24]⟩, ⟨.t 26, none, .pick, [.t 22, .c (.b true), .t 25]⟩])
 (.cond (.t 26) (.seq (.reg [⟨.l 2, none, .mv, [.c (.i .i64 1)]⟩])
 .ret) .skip))))
 (.reg [⟨.t 27, none, (.bin .add), [.l 15, .c (.i .i64 1)]⟩, ⟨.l 15, none, .mv, [.t 27]⟩])))))))
 (.seq (.reg [⟨.l 2, none, .mv, [.c (.i .i64 0)]⟩])
 .ret)))), [.tmp (.l 2)]⟩
/-- tarpaulin/clock.New -/
def b23 : Nat := 1
def a23 : AFn := ⟨(.seq (.reg [⟨.l 0, none, .mv, [.c (.p none)]⟩])
 (.seq (.reg [⟨.t 1, none, (.build [(.i .i64 0)] []), []⟩, ⟨.t 2, none, .box, [.t 1]⟩, ⟨.l 0, none, .mv, [.t 2]⟩])
 .ret)), [.tmp (.l 0)]⟩
/-- tarpaulin/task.New -/
def b24 : Nat := 3
def a24 : AFn := ⟨(.seq (.reg [⟨.l 0, none, .mv, [.c (.p none)]⟩])
 (.seq (.reg [⟨.t 4, none, (.call 50), [.c (.i .i64 64)]⟩, ⟨.t 3, none, .mv, [.t 4]⟩, ⟨.t 5, none, (.ext 0), [.t 3]⟩, ⟨.t 6, none, (.ext 1), [.t 3]⟩, ⟨.l 1, none, .mv, [.t 5]⟩, ⟨.t 2, none, .mv, [.t 6]⟩])
 (.seq (.reg [⟨.t 7, none, .mv, [.l 1]⟩, ⟨.t 8, none, (.call 51), []⟩, ⟨.t 9, none, (.build [(.p none), (.p none)] [(0, 1), (1, 1)]), [.t 7, .t 8]⟩, ⟨.t 10, none, .box, [.t 9]⟩, ⟨.l 0, none, .mv, [.t 10]⟩])
 .ret))), [.tmp (.l 0)]⟩
/-- tarpaulin/timer.New -/
def b25 : Nat := 1
def a25 : AFn := ⟨(.seq (.reg [⟨.l 0, none, .mv, [.c (.p none)]⟩])
 (.seq (.reg [⟨.t 1, none, (.call 52), []⟩, ⟨.t 2, none, (.build [(.sl none 0 0 0), (.p none), (.i .i64 0)] [(1, 1)]), [.t 1]⟩, ⟨.t 3, none, .box, [.t 2]⟩, ⟨.l 0, none, .mv, [.t 3]⟩])
 .ret)), [.tmp (.l 0)]⟩
/-- tarpaulin/deal.New -/
def b26 : Nat := 1
def a26 : AFn := ⟨(.seq (.reg [⟨.l 0, none, .mv, [.c (.p none)]⟩])
 (.seq (.reg [⟨.t 1, none, (.build [(.sl none 0 0 0)] []), []⟩, ⟨.t 2, none, .box, [.t 1]⟩, ⟨.l 0, none, .mv, [.t 2]⟩])
 .ret)), [.tmp (.l 0)]⟩
/-- tarpaulin/ctx.New -/
def b27 : Nat := 13
def a27 : AFn := ⟨(.seq (.reg [⟨.l 2, none, .mv, [.c (.p none)]⟩])
 (.seq (.reg [⟨.t 4, none, .mv, [.l 0]⟩, ⟨.t 5, none, (.call 53), []⟩, ⟨.t 6, none, .mkmap, []⟩, ⟨.t 7, none, (.build [(.p none), (.p none), (.sl none 0 0 0), (.sl none 0 0 0), (.m none)] [(0, 1), (1, 1), (4, 1)]), [.t 4, .t 5, .t 6]⟩, ⟨.t 8, none, .box, [.t 7]⟩, ⟨.l 3, none, .mv, [.t 8]⟩])
 (.seq (.reg [⟨.t 9, none, .mv, [.l 3]⟩, ⟨.t 10, none, (.build [(.i .i64 0), (.b false), (.p none), (.i .i64 0), (.i .i64 0), (.i .i64 0), (.b false), (.b false), (.i .i64 0)] [(1, 1)]), [.c (.b true)]⟩, ⟨.t 11, none, (.call 54), [.t 9, .t 10, .c (.i .i64 (-1))]⟩])
 (.seq (.reg [⟨.t 12, none, .mv, [.l 3]⟩, ⟨.l 2, none, .mv, [.t 12]⟩])
 .ret)))), [.tmp (.l 2)]⟩
/-- tarpaulin/world.own -/
def b28 : Nat := 397
def a28 : AFn := ⟨(.seq (.reg [⟨.l 2, none, .mv, [.c (.sl none 0 0 0)]⟩])
 (.seq (.reg [⟨.t 4, none, .mv, [.l 0]⟩, ⟨.t 5, none, (.call 55), [.t 4]⟩, ⟨.l 0, none, .mv, [.t 5]⟩])
 (.seq (.seq (.reg [⟨.t 6, none, .mv, [.l 0]⟩, ⟨.l 7, none, .lenSl, [.t 6]⟩, ⟨.l 8, none, .mv, [.c (.i .i64 0)]⟩])
 (.block 0 (.loop (.seq (.reg [⟨.t 9, none, (.bin .lss), [.l 8, .l 7]⟩])
 (.seq (.cond (.t 9) .skip (.exit 0))
 (.seq (.block 1 (.seq (.reg [⟨.t 10, none, .mv, [.l 8]⟩, ⟨.l 3, none, .mv, [.t 10]⟩])
 (.reg [⟨.t 11, none, .mv, [.l 0]⟩, ⟨.t 12, none, .mv, [.l 3]⟩, ⟨.t 13, none, .mv, [.l 0]⟩, ⟨.t 14, none, .mv, [.l 3]⟩, ⟨.t 15, none, (.iad 6), [.t 13, .t 14]⟩, ⟨.t 16, none, (.fad 4), [.t 15]⟩, ⟨.t 17, none, (.ld none), [.t 16]⟩, ⟨.t 18, none, (.call 56), [.t 17]⟩, ⟨.t 19, none, (.iad 6), [.t 11, .t 12]⟩, ⟨.t 20, none, (.fad 4), [.t 19]⟩, ⟨.no, none, (.st 1), [.t 20, .t 18]⟩])))
 (.reg [⟨.t 21, none, (.bin .add), [.l 8, .c (.i .i64 1)]⟩, ⟨.l 8, none, .mv, [.t 21]⟩])))))))
 (.seq (.reg [⟨.t 22, none, .mv, [.l 0]⟩, ⟨.l 2, none, .mv, [.t 22]⟩])
 .ret)))), [.tmp (.l 2)]⟩
/-- (*tarpaulin/task.Table).Start -/
def b29 : Nat := 999
def a29 : AFn := ⟨(.seq (.reg [⟨.l 5, none, .box, [.l 2]⟩, ⟨.l 6, none, .mv, [.c (.i .i64 0)]⟩, ⟨.l 7, none, .mv, [.c (.i .i64 0)]⟩])
 (.seq (.block 0 (.seq (.reg [⟨.t 11, none, .mv, [.l 0]⟩, ⟨.t 12, none, (.eq false .ptr), [.t 11, .c (.p none)]⟩, ⟨.t 10, none, .mv, [.t 12]⟩])
 (.cond (.t 10) (.seq (.reg [⟨.l 6, none, .mv, [.c (.i .i64 0)]⟩, ⟨.l 7, none, .mv, [.c (.i .i64 3)]⟩])
 .ret) (.seq (.reg [⟨.t 14, none, .mv, [.l 1]⟩, ⟨.t 15, none, (.bin .lss), [.t 14, .c (.i .i64 0)]⟩, ⟨.t 13, none, .mv, [.t 15]⟩])
 (.cond (.t 13) (.seq (.reg [⟨.l 6, none, .mv, [.c (.i .i64 0)]⟩, ⟨.l 7, none, .mv, [.c (.i .i64 1)]⟩])
 .ret) .skip)))))
 (.seq (.reg [⟨.t 17, none, .mv, [.l 0]⟩, ⟨.t 18, none, .nilchk, [.t 17]⟩, ⟨.t 19, none, (.fad 0), [.t 18]⟩, ⟨.t 20, none, (.ld none), [.t 19]⟩, ⟨.t 21, none, .mv, [.l 1]⟩, ⟨.t 22, none, (.ld (some 8)), [.l 5]⟩, ⟨.t 23, none, (.build [(.i .i64 0), (.i .i64 0), (.i .i64 0), (.i .i64 0), (.i .i64 0), (.i .i64 0), (.i .i64 0), (.i .i64 0), (.i .i64 0), (.i .i64 0), (.i .i64 0), (.i .i64 0), (.i .i64 0), (.i .i64 0), (.i .i64 0), (.i .i64 0), (.sl none 0 0 0), (.b false)] [(0, 1), (4, 8)]), [.t 21, .t 22]⟩, ⟨.t 24, none, (.call 57), [.t 20, .t 23]⟩, ⟨.t 16, none, .mv, [.t 24]⟩, ⟨.t 25, none, (.ext 0), [.t 16]⟩, ⟨.t 26, none, (.ext 1), [.t 16]⟩, ⟨.l 8, none, .mv, [.t 25]⟩, ⟨.l 9, none, .mv, [.t 26]⟩])
 (.seq (.seq (.reg [⟨.t 27, none, .mv, [.l 9]⟩, ⟨.t 28, none, (.bin .eql), [.t 27, .c (.i .i64 0)]⟩])
 (.cond (.t 28) (.reg [⟨.t 29, none, .mv, [.l 0]⟩, ⟨.t 30, none, .nilchk, [.t 29]⟩, ⟨.t 31, none, (.fad 1), [.t 30]⟩, ⟨.t 32, none, (.ld none), [.t 31]⟩, ⟨.t 33, none, .mv, [.l 8]⟩, ⟨.t 34, none, (.call 58), [.t 32, .t 33]⟩]) .skip))
 (.seq (.reg [⟨.t 35, none, .mv, [.l 8]⟩, ⟨.t 36, none, .mv, [.l 9]⟩, ⟨.l 6, none, .mv, [.t 35]⟩, ⟨.l 7, none, .mv, [.t 36]⟩])
 .ret))))), [.tmp (.l 6), .tmp (.l 7)]⟩
/-- (*tarpaulin/deal.Log).All -/
def b30 : Nat := 5
def a30 : AFn := ⟨(.seq (.reg [⟨.l 2, none, .mv, [.c (.sl none 0 0 0)]⟩])
 (.seq (.seq (.reg [⟨.t 3, none, .mv, [.l 0]⟩, ⟨.t 4, none, (.eq false .ptr), [.t 3, .c (.p none)]⟩])
 (.cond (.t 4) (.seq (.reg [⟨.l 2, none, .mv, [.c (.sl none 0 0 0)]⟩])
 .ret) .skip))
 (.seq (.reg [⟨.t 5, none, .mv, [.l 0]⟩, ⟨.t 6, none, .nilchk, [.t 5]⟩, ⟨.t 7, none, (.fad 0), [.t 6]⟩, ⟨.t 8, none, (.ld none), [.t 7]⟩, ⟨.t 9, none, (.call 59), [.t 8]⟩, ⟨.l 2, none, .mv, [.t 9]⟩])
 .ret))), [.tmp (.l 2)]⟩
/-- slices.Clone[[]int,int] -/
def b31 : Nat := 5
def a31 : AFn := ⟨(.seq (.reg [⟨.l 2, none, .mv, [.c (.sl none 0 0 0)]⟩])
 (.seq (.seq (.reg [⟨.t 3, none, .mv, [.l 0]⟩, ⟨.t 4, none, (.eq false .slnil), [.t 3, .c (.sl none 0 0 0)]⟩])
 (.cond (.t 4) (.seq (.reg [⟨.l 2, none, .mv, [.c (.sl none 0 0 0)]⟩])
 .ret) .skip))
 (.seq (.reg [⟨.t 5, none, (.bslice [(.i .i64 0)] 0 1 []), []⟩, ⟨.t 6, none, .mv, [.l 0]⟩, ⟨.t 7, none, (.app 1 8), [.t 5, .t 6]⟩, ⟨.l 2, none, .mv, [.t 7]⟩])
 .ret))), [.tmp (.l 2)]⟩
/-- (*tarpaulin/clock.Clock).Now -/
def b32 : Nat := 5
def a32 : AFn := ⟨(.seq (.reg [⟨.l 2, none, .mv, [.c (.i .i64 0)]⟩])
 (.seq (.seq (.reg [⟨.t 3, none, .mv, [.l 0]⟩, ⟨.t 4, none, (.eq false .ptr), [.t 3, .c (.p none)]⟩])
 (.cond (.t 4) (.seq (.reg [⟨.l 2, none, .mv, [.c (.i .i64 0)]⟩])
 .ret) .skip))
 (.seq (.reg [⟨.t 5, none, .mv, [.l 0]⟩, ⟨.t 6, none, .nilchk, [.t 5]⟩, ⟨.t 7, none, (.fad 0), [.t 6]⟩, ⟨.t 8, none, (.ld none), [.t 7]⟩, ⟨.l 2, none, .mv, [.t 8]⟩])
 .ret))), [.tmp (.l 2)]⟩
/-- (*tarpaulin/clock.Clock).Advance -/
def b33 : Nat := 19
def a33 : AFn := ⟨(.seq (.reg [⟨.l 4, none, .mv, [.c (.i .i64 0)]⟩])
 (.seq (.seq (.reg [⟨.t 5, none, .mv, [.l 0]⟩, ⟨.t 6, none, (.eq false .ptr), [.t 5, .c (.p none)]⟩, ⟨.t 7, none, .mv, [.t 6]⟩, ⟨.t 8, (some (.t 7, false)), .mv, [.l 1]⟩, ⟨.t 9, (some (.t 7, false)), (.bin .lss), [.t 8, .c (.i .i64 0)]⟩, ⟨.t 10, none, .pick, [.t 7, .c (.b true), .t 9]⟩])
 (.cond (.t 10) (.seq (.reg [⟨.l 4, none, .mv, [.c (.i .i64 1)]⟩])
 .ret) .skip))
 (.seq (.reg [⟨.t 11, none, .mv, [.l 0]⟩, ⟨.t 12, none, .mv, [.l 0]⟩, ⟨.t 13, none, .nilchk, [.t 12]⟩, ⟨.t 14, none, (.fad 0), [.t 13]⟩, ⟨.t 15, none, (.ld none), [.t 14]⟩, ⟨.t 16, none, .mv, [.l 1]⟩, ⟨.t 17, none, (.call 60), [.t 15, .t 16]⟩, ⟨.t 18, none, .nilchk, [.t 11]⟩, ⟨.t 19, none, (.fad 0), [.t 18]⟩, ⟨.no, none, (.st 1), [.t 19, .t 17]⟩])
 (.seq (.reg [⟨.l 4, none, .mv, [.c (.i .i64 0)]⟩])
 .ret)))), [.tmp (.l 4)]⟩
/-- (*tarpaulin/timer.Set).Fire -/
def b34 : Nat := 1011
def a34 : AFn := ⟨(.seq (.reg [⟨.l 4, none, (.alloc [(.i .i64 0), (.i .i64 0), (.i .i64 0), (.i .i64 0), (.i .i64 0), (.sl none 0 0 0), (.b false)]), []⟩, ⟨.l 5, none, .mv, [.c (.b false)]⟩])
 (.seq (.seq (.reg [⟨.t 10, none, .mv, [.l 0]⟩, ⟨.t 11, none, (.eq false .ptr), [.t 10, .c (.p none)]⟩])
 (.cond (.t 11) (.seq (.reg [⟨.t 12, none, (.build [(.i .i64 0), (.i .i64 0), (.i .i64 0), (.i .i64 0), (.i .i64 0), (.sl none 0 0 0), (.b false)] []), []⟩, ⟨.no, none, (.st 7), [.l 4, .t 12]⟩, ⟨.l 5, none, .mv, [.c (.b false)]⟩])
 .ret) .skip))
 (.seq (.reg [⟨.t 14, none, .mv, [.l 0]⟩, ⟨.t 15, none, .nilchk, [.t 14]⟩, ⟨.t 16, none, (.fad 1), [.t 15]⟩, ⟨.t 17, none, (.ld none), [.t 16]⟩, ⟨.t 18, none, .mv, [.l 1]⟩, ⟨.t 19, none, (.call 61), [.t 17, .t 18]⟩, ⟨.t 13, none, .mv, [.t 19]⟩, ⟨.t 20, none, (.ext 0), [.t 13]⟩, ⟨.t 21, none, (.ext 1), [.t 13]⟩, ⟨.l 6, none, (.alloc [(.i .i64 0), (.i .i64 0), (.i .i64 0)]), []⟩, ⟨.no, none, (.st 3), [.l 6, .t 20]⟩, ⟨.l 7, none, .mv, [.t 21]⟩])
 (.seq (.seq (.reg [⟨.t 22, none, .mv, [.l 7]⟩, ⟨.t 23, none, (.un .not), [.t 22]⟩])
 (.cond (.t 23) (.seq (.reg [⟨.t 24, none, (.build [(.i .i64 0), (.i .i64 0), (.i .i64 0), (.i .i64 0), (.i .i64 0), (.sl none 0 0 0), (.b false)] []), []⟩, ⟨.no, none, (.st 7), [.l 4, .t 24]⟩, ⟨.l 5, none, .mv, [.c (.b false)]⟩])
 .ret) .skip))
 (.seq (.reg [⟨.t 25, none, .mv, [.l 0]⟩, ⟨.t 26, none, .nilchk, [.t 25]⟩, ⟨.t 27, none, (.fad 0), [.t 26]⟩, ⟨.t 28, none, (.ld none), [.t 27]⟩, ⟨.t 29, none, (.fad 0), [.l 6]⟩, ⟨.t 30, none, (.ld none), [.t 29]⟩, ⟨.t 31, none, (.iad 4), [.t 28, .t 30]⟩, ⟨.t 32, none, (.ld (some 4)), [.t 31]⟩, ⟨.l 8, none, (.alloc [(.i .i64 0), (.i .i64 0), (.p none), (.i .i64 0)]), []⟩, ⟨.no, none, (.st 4), [.l 8, .t 32]⟩])
 (.seq (.reg [⟨.t 33, none, (.fad 0), [.l 6]⟩, ⟨.t 34, none, (.ld none), [.t 33]⟩, ⟨.t 35, none, (.fad 0), [.l 8]⟩, ⟨.t 36, none, (.ld none), [.t 35]⟩, ⟨.t 37, none, (.fad 1), [.l 6]⟩, ⟨.t 38, none, (.ld none), [.t 37]⟩, ⟨.t 39, none, (.fad 2), [.l 6]⟩, ⟨.t 40, none, (.ld none), [.t 39]⟩, ⟨.t 41, none, (.fad 1), [.l 8]⟩, ⟨.t 42, none, (.ld none), [.t 41]⟩, ⟨.t 43, none, (.build [(.i .i64 0), (.i .i64 0), (.i .i64 0), (.i .i64 0), (.i .i64 0), (.sl none 0 0 0), (.b false)] [(0, 1), (1, 1), (2, 1), (3, 1), (4, 1)]), [.t 34, .t 36, .t 38, .t 40, .t 42]⟩, ⟨.l 9, none, (.alloc [(.i .i64 0), (.i .i64 0), (.i .i64 0), (.i .i64 0), (.i .i64 0), (.sl none 0 0 0), (.b false)]), []⟩, ⟨.no, none, (.st 7), [.l 9, .t 43]⟩])
 (.seq (.reg [⟨.t 45, none, (.fad 2), [.l 8]⟩, ⟨.t 46, none, (.ld none), [.t 45]⟩, ⟨.t 47, none, .mv, [.l 1]⟩, ⟨.t 48, none, (.call 62), [.t 46, .t 47]⟩, ⟨.t 44, none, .mv, [.t 48]⟩, ⟨.t 49, none, (.ext 0), [.t 44]⟩, ⟨.t 50, none, (.ext 1), [.t 44]⟩, ⟨.t 51, none, (.fad 5), [.l 9]⟩, ⟨.no, none, (.st 1), [.t 51, .t 49]⟩, ⟨.t 52, none, (.fad 6), [.l 9]⟩, ⟨.no, none, (.st 1), [.t 52, .t 50]⟩])
 (.seq (.reg [⟨.t 53, none, (.ld (some 7)), [.l 9]⟩, ⟨.no, none, (.st 7), [.l 4, .t 53]⟩, ⟨.l 5, none, .mv, [.c (.b true)]⟩])
 .ret)))))))), [.cell (.l 4) (some 7), .tmp (.l 5)]⟩
/-- (*tarpaulin/world.World).fire -/
def b35 : Nat := 59
def a35 : AFn := ⟨(.seq (.reg [⟨.l 3, none, .box, [.l 1]⟩])
 (.seq (.seq (.reg [⟨.t 7, none, (.fad 1), [.l 3]⟩, ⟨.t 8, none, (.ld none), [.t 7]⟩, ⟨.t 9, none, (.bin .eql), [.t 8, .c (.i .i64 4)]⟩])
 (.cond (.t 9) (.seq (.reg [⟨.t 11, none, .mv, [.l 0]⟩, ⟨.t 12, none, .nilchk, [.t 11]⟩, ⟨.t 13, none, (.fad 6), [.t 12]⟩, ⟨.t 14, none, (.ld none), [.t 13]⟩, ⟨.t 15, none, (.fad 4), [.l 3]⟩, ⟨.t 16, none, (.ld none), [.t 15]⟩, ⟨.t 17, none, (.call 63), [.t 14, .t 16]⟩, ⟨.t 10, none, .mv, [.t 17]⟩, ⟨.t 18, none, (.ext 0), [.t 10]⟩, ⟨.t 19, none, (.ext 1), [.t 10]⟩, ⟨.t 20, none, (.ext 2), [.t 10]⟩, ⟨.l 4, none, .mv, [.t 18]⟩, ⟨.l 5, none, .mv, [.t 19]⟩, ⟨.t 6, none, .mv, [.t 20]⟩])
 (.seq (.reg [⟨.t 21, none, .mv, [.l 0]⟩, ⟨.t 22, none, .mv, [.l 4]⟩, ⟨.t 23, none, .mv, [.l 5]⟩, ⟨.t 24, none, (.call 64), [.t 21, .t 22, .t 23]⟩])
 .ret)) .skip))
 (.seq (.reg [⟨.t 25, none, .mv, [.l 0]⟩, ⟨.t 26, none, (.fad 0), [.l 3]⟩, ⟨.t 27, none, (.ld none), [.t 26]⟩, ⟨.t 28, none, (.fad 2), [.l 3]⟩, ⟨.t 29, none, (.ld none), [.t 28]⟩, ⟨.t 30, none, (.call 17), [.t 25, .c (.i .i64 6), .c (.i .i64 (-1)), .t 27, .t 29, .c (.i .i64 0)]⟩])
 (.seq (.seq (.reg [⟨.t 31, none, (.fad 1), [.l 3]⟩, ⟨.t 32, none, (.ld none), [.t 31]⟩, ⟨.t 33, none, (.bin .eql), [.t 32, .c (.i .i64 3)]⟩])
 (.cond (.t 33) (.seq (.reg [⟨.t 34, none, .mv, [.l 0]⟩, ⟨.t 35, none, (.fad 4), [.l 3]⟩, ⟨.t 36, none, (.ld none), [.t 35]⟩, ⟨.t 37, none, (.build [(.i .i64 0), (.i .i64 0), (.i .i64 0), (.i .i64 0), (.i .i64 0), (.i .i64 0), (.i .i64 0), (.i .i64 0)] []), []⟩, ⟨.t 38, none, (.call 65), [.t 34, .t 36, .t 37]⟩])
 .ret) .skip))
 (.seq (.seq (.reg [⟨.t 39, none, (.fad 6), [.l 3]⟩, ⟨.t 40, none, (.ld none), [.t 39]⟩])
 (.cond (.t 40) (.regD [⟨.t 41, none, .mv, [.l 0]⟩, ⟨.t 42, none, .mv, [.l 0]⟩, ⟨.t 43, none, .mv, [.l 0]⟩, ⟨.t 44, none, .nilchk, [.t 43]⟩, ⟨.t 45, none, (.fad 5), [.t 44]⟩, ⟨.t 46, none, (.ld none), [.t 45]⟩, ⟨.t 47, none, (.fad 0), [.l 3]⟩, ⟨.t 48, none, (.ld none), [.t 47]⟩, ⟨.t 49, none, (.call 68), [.t 46, .t 48]⟩, ⟨.t 50, none, (.call 67), [.t 42, .t 49]⟩, ⟨.t 51, none, (.fad 3), [.l 3]⟩, ⟨.t 52, none, (.ld none), [.t 51]⟩, ⟨.t 53, none, (.call 66), [.t 41, .t 50, .c (.i .i64 (-1)), .t 52, .c (.b false)]⟩] [(11, 0), (11, 9)]) .skip))
 (.reg [⟨.t 54, none, .mv, [.l 0]⟩, ⟨.t 55, none, (.fad 5), [.l 3]⟩, ⟨.t 56, none, (.ld none), [.t 55]⟩, ⟨.t 57, none, (.call 69), [.t 54, .t 56]⟩])))))), []⟩
/-- (*tarpaulin/task.Table).Ready -/
def b36 : Nat := 5
def a36 : AFn := ⟨(.seq (.reg [⟨.l 2, none, .mv, [.c (.sl none 0 0 0)]⟩])
 (.seq (.seq (.reg [⟨.t 3, none, .mv, [.l 0]⟩, ⟨.t 4, none, (.eq false .ptr), [.t 3, .c (.p none)]⟩])
 (.cond (.t 4) (.seq (.reg [⟨.l 2, none, .mv, [.c (.sl none 0 0 0)]⟩])
 .ret) .skip))
 (.seq (.reg [⟨.t 5, none, .mv, [.l 0]⟩, ⟨.t 6, none, .nilchk, [.t 5]⟩, ⟨.t 7, none, (.fad 1), [.t 6]⟩, ⟨.t 8, none, (.ld none), [.t 7]⟩, ⟨.t 9, none, (.call 70), [.t 8]⟩, ⟨.l 2, none, .mv, [.t 9]⟩])
 .ret))), [.tmp (.l 2)]⟩
/-- (*tarpaulin/task.Table).Pick -/
def b37 : Nat := 51
def a37 : AFn := ⟨(.seq (.reg [⟨.l 4, none, .mv, [.c (.i .i64 0)]⟩, ⟨.l 5, none, .mv, [.c (.b false)]⟩])
 (.seq (.seq (.reg [⟨.t 6, none, .mv, [.l 0]⟩, ⟨.t 7, none, (.eq false .ptr), [.t 6, .c (.p none)]⟩])
 (.cond (.t 7) (.seq (.reg [⟨.l 4, none, .mv, [.c (.i .i64 0)]⟩, ⟨.l 5, none, .mv, [.c (.b false)]⟩])
 .ret) .skip))
 (.seq (.reg [⟨.t 8, none, .mv, [.l 0]⟩, ⟨.t 9, none, .nilchk, [.t 8]⟩, ⟨.t 10, none, (.fad 1), [.t 9]⟩, ⟨.t 11, none, (.ld none), [.t 10]⟩, ⟨.t 12, none, .mv, [.l 1]⟩, ⟨.t 13, none, (.call 71), [.t 11, .t 12]⟩, ⟨.t 14, none, (.ext 0), [.t 13]⟩, ⟨.t 15, none, (.ext 1), [.t 13]⟩, ⟨.l 4, none, .mv, [.t 14]⟩, ⟨.l 5, none, .mv, [.t 15]⟩])
 .ret))), [.tmp (.l 4), .tmp (.l 5)]⟩
/-- (*tarpaulin/task.Table).Get -/
def b38 : Nat := 243
def a38 : AFn := ⟨(.seq (.reg [⟨.l 4, none, (.alloc [(.i .i64 0), (.i .i64 0), (.i .i64 0), (.i .i64 0), (.i .i64 0), (.i .i64 0), (.i .i64 0), (.i .i64 0), (.i .i64 0), (.i .i64 0), (.i .i64 0), (.i .i64 0), (.i .i64 0), (.i .i64 0), (.i .i64 0), (.i .i64 0), (.sl none 0 0 0), (.b false)]), []⟩, ⟨.l 5, none, .mv, [.c (.b false)]⟩])
 (.seq (.seq (.reg [⟨.t 8, none, .mv, [.l 0]⟩, ⟨.t 9, none, (.eq false .ptr), [.t 8, .c (.p none)]⟩])
 (.cond (.t 9) (.seq (.reg [⟨.t 10, none, (.build [(.i .i64 0), (.i .i64 0), (.i .i64 0), (.i .i64 0), (.i .i64 0), (.i .i64 0), (.i .i64 0), (.i .i64 0), (.i .i64 0), (.i .i64 0), (.i .i64 0), (.i .i64 0), (.i .i64 0), (.i .i64 0), (.i .i64 0), (.i .i64 0), (.sl none 0 0 0), (.b false)] []), []⟩, ⟨.no, none, (.st 18), [.l 4, .t 10]⟩, ⟨.l 5, none, .mv, [.c (.b false)]⟩])
 .ret) .skip))
 (.seq (.reg [⟨.t 12, none, .mv, [.l 0]⟩, ⟨.t 13, none, .nilchk, [.t 12]⟩, ⟨.t 14, none, (.fad 0), [.t 13]⟩, ⟨.t 15, none, (.ld none), [.t 14]⟩, ⟨.t 16, none, .mv, [.l 1]⟩, ⟨.t 17, none, (.call 72), [.t 15, .t 16]⟩, ⟨.t 11, none, .mv, [.t 17]⟩, ⟨.t 18, none, (.ext 0), [.t 11]⟩, ⟨.t 19, none, (.ext 1), [.t 11]⟩, ⟨.l 6, none, (.alloc [(.i .i64 0), (.i .i64 0), (.i .i64 0), (.i .i64 0), (.i .i64 0), (.i .i64 0), (.i .i64 0), (.i .i64 0), (.i .i64 0), (.i .i64 0), (.i .i64 0), (.i .i64 0), (.i .i64 0), (.i .i64 0), (.i .i64 0), (.i .i64 0), (.sl none 0 0 0), (.b false)]), []⟩, ⟨.no, none, (.st 18), [.l 6, .t 18]⟩, ⟨.l 7, none, .mv, [.t 19]⟩])
 (.seq (.reg [⟨.t 20, none, (.fad 12), [.l 6]⟩, ⟨.t 21, none, (.fad 4), [.t 20]⟩, ⟨.t 22, none, (.ld none), [.t 21]⟩, ⟨.t 23, none, (.call 56), [.t 22]⟩, ⟨.t 24, none, (.fad 12), [.l 6]⟩, ⟨.t 25, none, (.fad 4), [.t 24]⟩, ⟨.no, none, (.st 1), [.t 25, .t 23]⟩])
 (.seq (.reg [⟨.t 26, none, (.ld (some 18)), [.l 6]⟩, ⟨.t 27, none, .mv, [.l 7]⟩, ⟨.no, none, (.st 18), [.l 4, .t 26]⟩, ⟨.l 5, none, .mv, [.t 27]⟩])
 .ret))))), [.cell (.l 4) (some 18), .tmp (.l 5)]⟩
/-- tarpaulin/local.Do -/
def b39 : Nat := 9007199254744911
def a39 : AFn := ⟨(.seq (.reg [⟨.l 6, none, .box, [.l 2]⟩, ⟨.l 8, none, (.alloc [(.i .i64 0), (.i .i64 0), (.i .i64 0), (.i .i64 0), (.i .i64 0), (.i .i64 0), (.i .i64 0), (.i .i64 0), (.i .i64 0), (.b false), (.i .i64 0), (.b false)]), []⟩, ⟨.l 9, none, .mv, [.c (.i .i64 0)]⟩])
 (.seq (.block 0 (.seq (.reg [⟨.t 13, none, .mv, [.l 0]⟩, ⟨.t 14, none, (.call 46), [.t 13]⟩, ⟨.t 15, none, (.bin .neq), [.t 14, .c (.i .i64 0)]⟩, ⟨.t 16, none, .mv, [.t 15]⟩, ⟨.t 17, (some (.t 16, false)), .mv, [.l 1]⟩, ⟨.t 18, (some (.t 16, false)), (.bin .lss), [.t 17, .c (.i .i64 0)]⟩, ⟨.t 19, none, .pick, [.t 16, .c (.b true), .t 18]⟩, ⟨.t 20, none, .mv, [.t 19]⟩, ⟨.t 21, (some (.t 20, false)), .mv, [.l 1]⟩, ⟨.t 22, (some (.t 20, false)), .mv, [.l 0]⟩, ⟨.t 23, (some (.t 20, false)), .lenSl, [.t 22]⟩, ⟨.t 24, (some (.t 20, false)), (.bin .gtr), [.t 21, .t 23]⟩, ⟨.t 25, none, .pick, [.t 20, .c (.b true), .t 24]⟩, ⟨.t 12, none, .mv, [.t 25]⟩])
 (.cond (.t 12) (.seq (.reg [⟨.t 26, none, (.build [(.i .i64 0), (.i .i64 0), (.i .i64 0), (.i .i64 0), (.i .i64 0), (.i .i64 0), (.i .i64 0), (.i .i64 0), (.i .i64 0), (.b false), (.i .i64 0), (.b false)] []), []⟩, ⟨.no, none, (.st 12), [.l 8, .t 26]⟩, ⟨.l 9, none, .mv, [.c (.i .i64 1)]⟩])
 .ret) (.seq (.reg [⟨.t 28, none, .mv, [.l 1]⟩, ⟨.t 29, none, .mv, [.l 0]⟩, ⟨.t 30, none, .lenSl, [.t 29]⟩, ⟨.t 31, none, (.bin .eql), [.t 28, .t 30]⟩, ⟨.t 27, none, .mv, [.t 31]⟩])
 (.cond (.t 27) (.seq (.reg [⟨.t 32, none, .mv, [.l 1]⟩, ⟨.t 33, none, (.ld (some 8)), [.l 6]⟩, ⟨.t 34, none, (.build [(.i .i64 0), (.i .i64 0), (.i .i64 0), (.i .i64 0), (.i .i64 0), (.i .i64 0), (.i .i64 0), (.i .i64 0), (.i .i64 0), (.b false), (.i .i64 0), (.b false)] [(0, 1), (1, 8), (11, 1)]), [.t 32, .t 33, .c (.b true)]⟩, ⟨.no, none, (.st 12), [.l 8, .t 34]⟩, ⟨.l 9, none, .mv, [.c (.i .i64 0)]⟩])
 .ret) (.seq (.reg [⟨.t 36, none, .mv, [.l 0]⟩, ⟨.t 37, none, .mv, [.l 1]⟩, ⟨.t 38, none, (.iad 6), [.t 36, .t 37]⟩, ⟨.t 39, none, (.fad 0), [.t 38]⟩, ⟨.t 40, none, (.ld none), [.t 39]⟩, ⟨.t 41, none, (.call 73), [.t 40]⟩, ⟨.t 42, none, (.un .not), [.t 41]⟩, ⟨.t 35, none, .mv, [.t 42]⟩])
 (.cond (.t 35) (.seq (.reg [⟨.t 43, none, (.build [(.i .i64 0), (.i .i64 0), (.i .i64 0), (.i .i64 0), (.i .i64 0), (.i .i64 0), (.i .i64 0), (.i .i64 0), (.i .i64 0), (.b false), (.i .i64 0), (.b false)] []), []⟩, ⟨.no, none, (.st 12), [.l 8, .t 43]⟩, ⟨.l 9, none, .mv, [.c (.i .i64 7)]⟩])
 .ret) .skip)))))))
 (.seq (.reg [⟨.t 44, none, .mv, [.l 1]⟩, ⟨.t 45, none, (.bin .add), [.t 44, .c (.i .i64 1)]⟩, ⟨.t 46, none, (.ld (some 8)), [.l 6]⟩, ⟨.t 47, none, (.build [(.i .i64 0), (.i .i64 0), (.i .i64 0), (.i .i64 0), (.i .i64 0), (.i .i64 0), (.i .i64 0), (.i .i64 0), (.i .i64 0), (.b false), (.i .i64 0), (.b false)] [(0, 1), (1, 8)]), [.t 45, .t 46]⟩, ⟨.l 10, none, (.alloc [(.i .i64 0), (.i .i64 0), (.i .i64 0), (.i .i64 0), (.i .i64 0), (.i .i64 0), (.i .i64 0), (.i .i64 0), (.i .i64 0), (.b false), (.i .i64 0), (.b false)]), []⟩, ⟨.no, none, (.st 12), [.l 10, .t 47]⟩])
 (.seq (.reg [⟨.t 48, none, .mv, [.l 0]⟩, ⟨.t 49, none, .mv, [.l 1]⟩, ⟨.t 50, none, (.iad 6), [.t 48, .t 49]⟩, ⟨.t 51, none, (.ld (some 6)), [.t 50]⟩, ⟨.l 11, none, (.alloc [(.i .i64 0), (.i .i64 0), (.i .i64 0), (.i .i64 0), (.sl none 0 0 0), (.b false)]), []⟩, ⟨.no, none, (.st 6), [.l 11, .t 51]⟩])
 (.seq (.seq (.reg [⟨.t 52, none, (.fad 0), [.l 11]⟩, ⟨.l 53, none, (.ld none), [.t 52]⟩])
 (.block 1 (.seq (.block 9 (.seq (.block 8 (.seq (.block 7 (.seq (.block 6 (.seq (.block 5 (.seq (.block 4 (.seq (.block 3 (.seq (.block 2 (.seq (.seq (.seq (.reg [⟨.t 55, none, (.bin .eql), [.l 53, .c (.i .i64 1)]⟩, ⟨.t 54, none, .mv, [.t 55]⟩])
 (.cond (.t 54) (.exit 2) .skip))
 (.seq (.seq (.reg [⟨.t 57, none, (.bin .eql), [.l 53, .c (.i .i64 2)]⟩, ⟨.t 56, none, .mv, [.t 57]⟩])
 (.cond (.t 56) (.exit 3) .skip))
 (.seq (.seq (.reg [⟨.t 59, none, (.bin .eql), [.l 53, .c (.i .i64 3)]⟩, ⟨.t 58, none, .mv, [.t 59]⟩])
 (.cond (.t 58) (.exit 4) .skip))
 (.seq (.seq (.reg [⟨.t 61, none, (.bin .eql), [.l 53, .c (.i .i64 5)]⟩, ⟨.t 60, none, .mv, [.t 61]⟩])
 (.cond (.t 60) (.exit 5) .skip))
 (.seq (.seq (.reg [⟨.t 63, none, (.bin .eql), [.l 53, .c (.i .i64 4)]⟩, ⟨.t 62, none, .mv, [.t 63]⟩])
 (.cond (.t 62) (.exit 6) .skip))
 (.seq (.seq (.reg [⟨.t 65, none, (.bin .eql), [.l 53, .c (.i .i64 6)]⟩, ⟨.t 64, none, .mv, [.t 65]⟩])
 (.cond (.t 64) (.exit 7) .skip))
 (.seq (.reg [⟨.t 67, none, (.bin .eql), [.l 53, .c (.i .i64 7)]⟩, ⟨.t 66, none, .mv, [.t 67]⟩])
 (.cond (.t 66) (.exit 8) .skip))))))))
 (.exit 9)))
 (.seq (.reg [⟨.t 68, none, (.fad 1), [.l 11]⟩, ⟨.t 69, none, (.ld none), [.t 68]⟩, ⟨.t 70, none, (.fad 2), [.l 11]⟩, ⟨.t 71, none, (.ld none), [.t 70]⟩, ⟨.t 72, none, (.fad 1), [.l 10]⟩, ⟨.t 73, none, (.iadA 8 1), [.t 72, .t 69]⟩, ⟨.no, none, (.st 1), [.t 73, .t 71]⟩])
 (.exit 1))))
 (.seq (.reg [⟨.t 74, none, (.fad 1), [.l 11]⟩, ⟨.t 75, none, (.ld none), [.t 74]⟩, ⟨.t 76, none, (.fad 2), [.l 11]⟩, ⟨.t 77, none, (.ld none), [.t 76]⟩, ⟨.t 78, none, (.iadA 8 1), [.l 6, .t 77]⟩, ⟨.t 79, none, (.ld none), [.t 78]⟩, ⟨.t 80, none, (.fad 1), [.l 10]⟩, ⟨.t 81, none, (.iadA 8 1), [.t 80, .t 75]⟩, ⟨.no, none, (.st 1), [.t 81, .t 79]⟩])
 (.exit 1))))
 (.seq (.regD [⟨.t 82, none, (.fad 1), [.l 11]⟩, ⟨.t 83, none, (.ld none), [.t 82]⟩, ⟨.t 84, none, (.fad 1), [.l 11]⟩, ⟨.t 85, none, (.ld none), [.t 84]⟩, ⟨.t 86, none, (.iadA 8 1), [.l 6, .t 85]⟩, ⟨.t 87, none, (.ld none), [.t 86]⟩, ⟨.t 88, none, (.fad 2), [.l 11]⟩, ⟨.t 89, none, (.ld none), [.t 88]⟩, ⟨.t 90, none, (.call 60), [.t 87, .t 89]⟩, ⟨.t 91, none, (.fad 1), [.l 10]⟩, ⟨.t 92, none, (.iadA 8 1), [.t 91, .t 83]⟩, ⟨.no, none, (.st 1), [.t 92, .t 90]⟩] [(1, 9)])
 (.exit 1))))
 (.seq (.seq (.reg [⟨.t 93, none, (.fad 1), [.l 11]⟩, ⟨.t 94, none, (.ld none), [.t 93]⟩, ⟨.t 95, none, (.iadA 8 1), [.l 6, .t 94]⟩, ⟨.t 96, none, (.ld none), [.t 95]⟩, ⟨.t 97, none, (.bin .neq), [.t 96, .c (.i .i64 0)]⟩])
 (.cond (.t 97) (.exit 1) .skip))
 (.reg [⟨.t 98, none, (.fad 2), [.l 11]⟩, ⟨.t 99, none, (.ld none), [.t 98]⟩, ⟨.t 100, none, (.fad 1), [.l 11]⟩, ⟨.no, none, (.st 1), [.t 100, .t 99]⟩]))))
 (.seq (.reg [⟨.t 101, none, (.fad 1), [.l 11]⟩, ⟨.t 102, none, (.ld none), [.t 101]⟩, ⟨.t 103, none, (.fad 0), [.l 10]⟩, ⟨.no, none, (.st 1), [.t 103, .t 102]⟩])
 (.exit 1))))
 (.seq (.regD [⟨.t 104, none, (.fad 1), [.l 11]⟩, ⟨.t 105, none, (.ld none), [.t 104]⟩, ⟨.t 106, none, (.iadA 8 1), [.l 6, .t 105]⟩, ⟨.t 107, none, (.ld none), [.t 106]⟩, ⟨.t 108, none, (.fad 9), [.l 10]⟩, ⟨.no, none, (.st 1), [.t 108, .c (.b true)]⟩, ⟨.t 109, none, (.fad 10), [.l 10]⟩, ⟨.no, none, (.st 1), [.t 109, .t 107]⟩] [(1, 6), (3, 6)])
 (.exit 1))))
 (.seq (.reg [⟨.t 110, none, .mv, [.l 1]⟩, ⟨.t 111, none, (.fad 0), [.l 10]⟩, ⟨.no, none, (.st 1), [.t 111, .t 110]⟩, ⟨.t 112, none, (.fad 11), [.l 10]⟩, ⟨.no, none, (.st 1), [.t 112, .c (.b true)]⟩])
 (.exit 1))))
 (.seq (.reg [⟨.t 113, none, (.fad 1), [.l 11]⟩, ⟨.t 114, none, (.ld none), [.t 113]⟩, ⟨.t 115, none, .mv, [.l 3]⟩, ⟨.t 116, none, (.fad 1), [.l 10]⟩, ⟨.t 117, none, (.iadA 8 1), [.t 116, .t 114]⟩, ⟨.no, none, (.st 1), [.t 117, .t 115]⟩])
 (.exit 1)))))
 (.seq (.reg [⟨.t 118, none, (.ld (some 12)), [.l 10]⟩, ⟨.no, none, (.st 12), [.l 8, .t 118]⟩, ⟨.l 9, none, .mv, [.c (.i .i64 0)]⟩])
 .ret)))))), [.cell (.l 8) (some 12), .tmp (.l 9)]⟩
/-- (*tarpaulin/world.World).alone -/
def b40 : Nat := 39
def a40 : AFn := ⟨(.seq (.reg [⟨.l 5, none, .box, [.l 2]⟩])
 (.seq (.reg [⟨.t 6, none, .mv, [.l 0]⟩, ⟨.t 7, none, .nilchk, [.t 6]⟩, ⟨.t 8, none, (.fad 2), [.t 7]⟩, ⟨.t 9, none, (.ld none), [.t 8]⟩, ⟨.t 10, none, .mv, [.l 1]⟩, ⟨.t 11, none, (.fad 0), [.l 5]⟩, ⟨.t 12, none, (.ld none), [.t 11]⟩, ⟨.t 13, none, (.fad 1), [.l 5]⟩, ⟨.t 14, none, (.ld (some 8)), [.t 13]⟩, ⟨.t 15, none, (.call 44), [.t 9, .t 10, .t 12, .t 14]⟩])
 (.seq (.seq (.reg [⟨.t 16, none, (.fad 9), [.l 5]⟩, ⟨.t 17, none, (.ld none), [.t 16]⟩])
 (.cond (.t 17) (.reg [⟨.t 18, none, .mv, [.l 0]⟩, ⟨.t 19, none, .mv, [.l 1]⟩, ⟨.t 20, none, (.fad 10), [.l 5]⟩, ⟨.t 21, none, (.ld none), [.t 20]⟩, ⟨.t 22, none, (.call 17), [.t 18, .c (.i .i64 1), .t 19, .t 21, .c (.i .i64 0), .c (.i .i64 0)]⟩]) .skip))
 (.seq (.reg [⟨.t 23, none, (.fad 11), [.l 5]⟩, ⟨.t 24, none, (.ld none), [.t 23]⟩])
 (.cond (.t 24) (.seq (.reg [⟨.t 25, none, .mv, [.l 0]⟩, ⟨.t 26, none, .nilchk, [.t 25]⟩, ⟨.t 27, none, (.fad 2), [.t 26]⟩, ⟨.t 28, none, (.ld none), [.t 27]⟩, ⟨.t 29, none, .mv, [.l 1]⟩, ⟨.t 30, none, (.call 42), [.t 28, .t 29, .c (.i .i64 0)]⟩])
 (.reg [⟨.t 31, none, .mv, [.l 0]⟩, ⟨.t 32, none, .mv, [.l 1]⟩, ⟨.t 33, none, (.call 17), [.t 31, .c (.i .i64 4), .t 32, .c (.i .i64 0), .c (.i .i64 0), .c (.i .i64 0)]⟩])) .skip))))), []⟩
/-- (*tarpaulin/world.act).do -/
def b41 : Nat := 61
def a41 : AFn := ⟨(.seq (.reg [⟨.t 6, none, .mv, [.l 0]⟩, ⟨.t 7, none, .nilchk, [.t 6]⟩, ⟨.t 8, none, (.fad 2), [.t 7]⟩, ⟨.t 9, none, (.fad 0), [.t 8]⟩, ⟨.t 10, none, (.ld none), [.t 9]⟩, ⟨.l 2, none, .mv, [.t 10]⟩])
 (.block 0 (.seq (.reg [⟨.t 14, none, .mv, [.l 2]⟩, ⟨.t 15, none, (.bin .eql), [.t 14, .c (.i .i64 8)]⟩, ⟨.t 13, none, .mv, [.t 15]⟩])
 (.cond (.t 13) (.reg [⟨.t 16, none, .mv, [.l 0]⟩, ⟨.t 17, none, (.call 74), [.t 16]⟩]) (.seq (.reg [⟨.t 19, none, .mv, [.l 2]⟩, ⟨.t 20, none, (.bin .eql), [.t 19, .c (.i .i64 9)]⟩, ⟨.t 18, none, .mv, [.t 20]⟩])
 (.cond (.t 18) (.reg [⟨.t 21, none, .mv, [.l 0]⟩, ⟨.t 22, none, (.call 75), [.t 21]⟩]) (.seq (.reg [⟨.t 24, none, .mv, [.l 2]⟩, ⟨.t 25, none, (.bin .geq), [.t 24, .c (.i .i64 10)]⟩, ⟨.t 26, none, .mv, [.t 25]⟩, ⟨.t 27, (some (.t 26, true)), .mv, [.l 2]⟩, ⟨.t 28, (some (.t 26, true)), (.bin .leq), [.t 27, .c (.i .i64 14)]⟩, ⟨.t 29, none, .pick, [.t 26, .t 28, .c (.b false)]⟩, ⟨.t 23, none, .mv, [.t 29]⟩])
 (.cond (.t 23) (.reg [⟨.t 30, none, .mv, [.l 0]⟩, ⟨.t 31, none, (.call 76), [.t 30]⟩]) (.seq (.reg [⟨.t 33, none, .mv, [.l 2]⟩, ⟨.t 34, none, (.bin .eql), [.t 33, .c (.i .i64 15)]⟩, ⟨.t 32, none, .mv, [.t 34]⟩])
 (.cond (.t 32) (.reg [⟨.t 35, none, .mv, [.l 0]⟩, ⟨.t 36, none, (.call 77), [.t 35]⟩]) (.seq (.reg [⟨.t 38, none, .mv, [.l 2]⟩, ⟨.t 39, none, (.bin .geq), [.t 38, .c (.i .i64 17)]⟩, ⟨.t 40, none, .mv, [.t 39]⟩, ⟨.t 41, (some (.t 40, true)), .mv, [.l 2]⟩, ⟨.t 42, (some (.t 40, true)), (.bin .leq), [.t 41, .c (.i .i64 19)]⟩, ⟨.t 43, none, .pick, [.t 40, .t 42, .c (.b false)]⟩, ⟨.t 37, none, .mv, [.t 43]⟩])
 (.cond (.t 37) (.reg [⟨.t 44, none, .mv, [.l 0]⟩, ⟨.t 45, none, (.call 78), [.t 44]⟩]) (.seq (.reg [⟨.t 47, none, .mv, [.l 2]⟩, ⟨.t 48, none, (.bin .eql), [.t 47, .c (.i .i64 20)]⟩, ⟨.t 49, none, .mv, [.t 48]⟩, ⟨.t 50, (some (.t 49, false)), .mv, [.l 2]⟩, ⟨.t 51, (some (.t 49, false)), (.bin .eql), [.t 50, .c (.i .i64 21)]⟩, ⟨.t 52, none, .pick, [.t 49, .c (.b true), .t 51]⟩, ⟨.t 46, none, .mv, [.t 52]⟩])
 (.cond (.t 46) (.reg [⟨.t 53, none, .mv, [.l 0]⟩, ⟨.t 54, none, (.call 79), [.t 53]⟩]) (.seq (.reg [⟨.t 56, none, .mv, [.l 2]⟩, ⟨.t 57, none, (.bin .geq), [.t 56, .c (.i .i64 22)]⟩, ⟨.t 58, none, .mv, [.t 57]⟩, ⟨.t 59, (some (.t 58, true)), .mv, [.l 2]⟩, ⟨.t 60, (some (.t 58, true)), (.bin .leq), [.t 59, .c (.i .i64 25)]⟩, ⟨.t 61, none, .pick, [.t 58, .t 60, .c (.b false)]⟩, ⟨.t 55, none, .mv, [.t 61]⟩])
 (.cond (.t 55) (.reg [⟨.t 62, none, .mv, [.l 0]⟩, ⟨.t 63, none, (.call 80), [.t 62]⟩]) (.seq (.reg [⟨.t 65, none, .mv, [.l 2]⟩, ⟨.t 66, none, (.bin .eql), [.t 65, .c (.i .i64 26)]⟩, ⟨.t 64, none, .mv, [.t 66]⟩])
 (.cond (.t 64) (.seq (.regD [⟨.t 68, none, .mv, [.l 0]⟩, ⟨.t 69, none, .nilchk, [.t 68]⟩, ⟨.t 70, none, (.fad 0), [.t 69]⟩, ⟨.t 71, none, (.ld none), [.t 70]⟩, ⟨.t 72, none, .nilchk, [.t 71]⟩, ⟨.t 73, none, (.fad 6), [.t 72]⟩, ⟨.t 74, none, (.ld none), [.t 73]⟩, ⟨.t 75, none, .mv, [.l 0]⟩, ⟨.t 76, none, (.call 82), [.t 75]⟩, ⟨.t 77, none, .mv, [.l 0]⟩, ⟨.t 78, none, (.call 83), [.t 77]⟩, ⟨.t 79, none, (.call 81), [.t 74, .t 76, .t 78]⟩, ⟨.t 67, none, .mv, [.t 79]⟩, ⟨.t 80, none, (.ext 0), [.t 67]⟩, ⟨.t 81, none, (.ext 1), [.t 67]⟩, ⟨.t 82, none, (.ext 2), [.t 67]⟩, ⟨.l 3, none, .mv, [.t 80]⟩, ⟨.l 4, none, .mv, [.t 81]⟩, ⟨.l 5, none, .mv, [.t 82]⟩] [(3, 9), (3, 11), (6, 9), (6, 11)])
 (.seq (.reg [⟨.t 83, none, .mv, [.l 0]⟩, ⟨.t 84, none, .mv, [.l 5]⟩, ⟨.t 85, none, (.call 84), [.t 83, .t 84]⟩])
 (.reg [⟨.t 86, none, .mv, [.l 0]⟩, ⟨.t 87, none, .nilchk, [.t 86]⟩, ⟨.t 88, none, (.fad 0), [.t 87]⟩, ⟨.t 89, none, (.ld none), [.t 88]⟩, ⟨.t 90, none, .mv, [.l 3]⟩, ⟨.t 91, none, .mv, [.l 4]⟩, ⟨.t 92, none, (.call 64), [.t 89, .t 90, .t 91]⟩]))) (.seq (.reg [⟨.t 94, none, .mv, [.l 2]⟩, ⟨.t 95, none, (.bin .geq), [.t 94, .c (.i .i64 27)]⟩, ⟨.t 96, none, .mv, [.t 95]⟩, ⟨.t 97, (some (.t 96, true)), .mv, [.l 2]⟩, ⟨.t 98, (some (.t 96, true)), (.bin .leq), [.t 97, .c (.i .i64 30)]⟩, ⟨.t 99, none, .pick, [.t 96, .t 98, .c (.b false)]⟩, ⟨.t 93, none, .mv, [.t 99]⟩])
 (.cond (.t 93) (.reg [⟨.t 100, none, .mv, [.l 0]⟩, ⟨.t 101, none, (.call 85), [.t 100]⟩]) (.reg [⟨.t 11, none, .mv, [.l 0]⟩, ⟨.t 12, none, (.call 86), [.t 11]⟩]))))))))))))))))))))), []⟩
/-- (*tarpaulin/task.Table).End -/
def b42 : Nat := 455
def a42 : AFn := ⟨(.seq (.reg [⟨.l 6, none, .mv, [.c (.i .i64 0)]⟩])
 (.seq (.reg [⟨.t 10, none, .mv, [.l 0]⟩, ⟨.t 11, none, .mv, [.l 1]⟩, ⟨.t 12, none, (.call 87), [.t 10, .t 11, .c (.fn 88 [] [])]⟩, ⟨.t 9, none, .mv, [.t 12]⟩, ⟨.t 13, none, (.ext 0), [.t 9]⟩, ⟨.t 14, none, (.ext 1), [.t 9]⟩, ⟨.l 7, none, (.alloc [(.i .i64 0), (.i .i64 0), (.i .i64 0), (.i .i64 0), (.i .i64 0), (.i .i64 0), (.i .i64 0), (.i .i64 0), (.i .i64 0), (.i .i64 0), (.i .i64 0), (.i .i64 0), (.i .i64 0), (.i .i64 0), (.i .i64 0), (.i .i64 0), (.sl none 0 0 0), (.b false)]), []⟩, ⟨.no, none, (.st 18), [.l 7, .t 13]⟩, ⟨.l 8, none, .mv, [.t 14]⟩])
 (.seq (.seq (.reg [⟨.t 15, none, .mv, [.l 8]⟩, ⟨.t 16, none, (.bin .neq), [.t 15, .c (.i .i64 0)]⟩])
 (.cond (.t 16) (.seq (.reg [⟨.t 17, none, .mv, [.l 8]⟩, ⟨.l 6, none, .mv, [.t 17]⟩])
 .ret) .skip))
 (.seq (.reg [⟨.t 18, none, .mv, [.l 2]⟩, ⟨.t 19, none, (.build [(.i .i64 0), (.i .i64 0), (.i .i64 0), (.i .i64 0), (.sl none 0 0 0), (.b false)] []), []⟩, ⟨.t 20, none, (.fad 2), [.l 7]⟩, ⟨.no, none, (.st 1), [.t 20, .c (.i .i64 2)]⟩, ⟨.t 21, none, (.fad 3), [.l 7]⟩, ⟨.no, none, (.st 1), [.t 21, .t 18]⟩, ⟨.t 22, none, (.fad 12), [.l 7]⟩, ⟨.no, none, (.st 6), [.t 22, .t 19]⟩])
 (.seq (.reg [⟨.t 23, none, .mv, [.l 0]⟩, ⟨.t 24, none, .nilchk, [.t 23]⟩, ⟨.t 25, none, (.fad 0), [.t 24]⟩, ⟨.t 26, none, (.ld none), [.t 25]⟩, ⟨.t 27, none, .mv, [.l 1]⟩, ⟨.t 28, none, (.ld (some 18)), [.l 7]⟩, ⟨.t 29, none, (.call 89), [.t 26, .t 27, .t 28]⟩])
 (.seq (.reg [⟨.t 30, none, .mv, [.l 0]⟩, ⟨.t 31, none, .nilchk, [.t 30]⟩, ⟨.t 32, none, (.fad 1), [.t 31]⟩, ⟨.t 33, none, (.ld none), [.t 32]⟩, ⟨.t 34, none, .mv, [.l 1]⟩, ⟨.t 35, none, (.call 90), [.t 33, .t 34]⟩])
 (.seq (.reg [⟨.l 6, none, .mv, [.c (.i .i64 0)]⟩])
 .ret))))))), [.tmp (.l 6)]⟩
/-- (*tarpaulin/task.Table).Park -/
def b43 : Nat := 487
def a43 : AFn := ⟨(.seq (.reg [⟨.l 5, none, .box, [.l 2]⟩, ⟨.l 6, none, .mv, [.c (.i .i64 0)]⟩])
 (.seq (.reg [⟨.t 10, none, .mv, [.l 0]⟩, ⟨.t 11, none, .mv, [.l 1]⟩, ⟨.t 12, none, (.call 87), [.t 10, .t 11, .c (.fn 91 [] [])]⟩, ⟨.t 9, none, .mv, [.t 12]⟩, ⟨.t 13, none, (.ext 0), [.t 9]⟩, ⟨.t 14, none, (.ext 1), [.t 9]⟩, ⟨.l 7, none, (.alloc [(.i .i64 0), (.i .i64 0), (.i .i64 0), (.i .i64 0), (.i .i64 0), (.i .i64 0), (.i .i64 0), (.i .i64 0), (.i .i64 0), (.i .i64 0), (.i .i64 0), (.i .i64 0), (.i .i64 0), (.i .i64 0), (.i .i64 0), (.i .i64 0), (.sl none 0 0 0), (.b false)]), []⟩, ⟨.no, none, (.st 18), [.l 7, .t 13]⟩, ⟨.l 8, none, .mv, [.t 14]⟩])
 (.seq (.seq (.reg [⟨.t 15, none, .mv, [.l 8]⟩, ⟨.t 16, none, (.bin .neq), [.t 15, .c (.i .i64 0)]⟩])
 (.cond (.t 16) (.seq (.reg [⟨.t 17, none, .mv, [.l 8]⟩, ⟨.l 6, none, .mv, [.t 17]⟩])
 .ret) .skip))
 (.seq (.seq (.reg [⟨.t 18, none, (.fad 0), [.l 5]⟩, ⟨.t 19, none, (.ld none), [.t 18]⟩, ⟨.t 20, none, (.bin .neq), [.t 19, .c (.i .i64 10)]⟩, ⟨.t 21, none, .mv, [.t 20]⟩, ⟨.t 22, (some (.t 21, true)), (.fad 0), [.l 5]⟩, ⟨.t 23, (some (.t 21, true)), (.ld none), [.t 22]⟩, ⟨.t 24, (some (.t 21, true)), (.bin .neq), [.t 23, .c (.i .i64 11)]⟩, ⟨.t 25, none, .pick, [.t 21, .t 24, .c (.b false)]⟩, ⟨.t 26, none, .mv, [.t 25]⟩, ⟨.t 27, (some (.t 26, true)), (.fad 0), [.l 5]⟩, ⟨.t 28, (some (.t 26, true)), (.ld none), [.t 27]⟩, ⟨.t 29, (some (.t 26, true)), (.bin .neq), [.t 28, .c (.i .i64 15)]⟩, ⟨.t 30, none, .pick, [.t 26, .t 29, .c (.b false)]⟩, ⟨.t 31, none, .mv, [.t 30]⟩, ⟨.t 32, (some (.t 31, false)), (.ld (some 6)), [.l 5]⟩, ⟨.t 33, (some (.t 31, false)), (.bslice [(.i .i64 0), (.i .i64 0), (.i .i64 0), (.i .i64 0), (.sl none 0 0 0), (.b false)] 1 6 [0]), [.t 32]⟩, ⟨.t 34, (some (.t 31, false)), (.call 46), [.t 33]⟩, ⟨.t 35, (some (.t 31, false)), (.bin .neq), [.t 34, .c (.i .i64 0)]⟩, ⟨.t 36, none, .pick, [.t 31, .c (.b true), .t 35]⟩])
 (.cond (.t 36) (.seq (.reg [⟨.l 6, none, .mv, [.c (.i .i64 1)]⟩])
 .ret) .skip))
 (.seq (.reg [⟨.t 37, none, (.fad 4), [.l 5]⟩, ⟨.t 38, none, (.ld none), [.t 37]⟩, ⟨.t 39, none, (.call 56), [.t 38]⟩, ⟨.t 40, none, (.fad 4), [.l 5]⟩, ⟨.no, none, (.st 1), [.t 40, .t 39]⟩])
 (.seq (.regD [⟨.t 41, none, (.ld (some 6)), [.l 5]⟩, ⟨.t 42, none, (.fad 2), [.l 7]⟩, ⟨.no, none, (.st 1), [.t 42, .c (.i .i64 1)]⟩, ⟨.t 43, none, (.fad 12), [.l 7]⟩, ⟨.no, none, (.st 6), [.t 43, .t 41]⟩] [(0, 3)])
 (.seq (.reg [⟨.t 44, none, .mv, [.l 0]⟩, ⟨.t 45, none, .nilchk, [.t 44]⟩, ⟨.t 46, none, (.fad 0), [.t 45]⟩, ⟨.t 47, none, (.ld none), [.t 46]⟩, ⟨.t 48, none, .mv, [.l 1]⟩, ⟨.t 49, none, (.ld (some 18)), [.l 7]⟩, ⟨.t 50, none, (.call 89), [.t 47, .t 48, .t 49]⟩])
 (.seq (.reg [⟨.t 51, none, .mv, [.l 0]⟩, ⟨.t 52, none, .nilchk, [.t 51]⟩, ⟨.t 53, none, (.fad 1), [.t 52]⟩, ⟨.t 54, none, (.ld none), [.t 53]⟩, ⟨.t 55, none, .mv, [.l 1]⟩, ⟨.t 56, none, (.call 90), [.t 54, .t 55]⟩])
 (.seq (.reg [⟨.l 6, none, .mv, [.c (.i .i64 0)]⟩])
 .ret))))))))), [.tmp (.l 6)]⟩
/-- (*tarpaulin/task.Table).Put -/
def b44 : Nat := 1935
def a44 : AFn := ⟨(.seq (.reg [⟨.l 7, none, .box, [.l 3]⟩, ⟨.l 8, none, .mv, [.c (.i .i64 0)]⟩])
 (.seq (.reg [⟨.t 12, none, .mv, [.l 0]⟩, ⟨.t 13, none, .mv, [.l 1]⟩, ⟨.t 14, none, (.call 87), [.t 12, .t 13, .c (.fn 91 [] [])]⟩, ⟨.t 11, none, .mv, [.t 14]⟩, ⟨.t 15, none, (.ext 0), [.t 11]⟩, ⟨.t 16, none, (.ext 1), [.t 11]⟩, ⟨.l 9, none, (.alloc [(.i .i64 0), (.i .i64 0), (.i .i64 0), (.i .i64 0), (.i .i64 0), (.i .i64 0), (.i .i64 0), (.i .i64 0), (.i .i64 0), (.i .i64 0), (.i .i64 0), (.i .i64 0), (.i .i64 0), (.i .i64 0), (.i .i64 0), (.i .i64 0), (.sl none 0 0 0), (.b false)]), []⟩, ⟨.no, none, (.st 18), [.l 9, .t 15]⟩, ⟨.l 10, none, .mv, [.t 16]⟩])
 (.seq (.seq (.reg [⟨.t 17, none, .mv, [.l 10]⟩, ⟨.t 18, none, (.bin .eql), [.t 17, .c (.i .i64 0)]⟩])
 (.cond (.t 18) (.seq (.regD [⟨.t 19, none, .mv, [.l 2]⟩, ⟨.t 20, none, (.ld (some 8)), [.l 7]⟩, ⟨.t 21, none, (.fad 1), [.l 9]⟩, ⟨.no, none, (.st 1), [.t 21, .t 19]⟩, ⟨.t 22, none, (.fad 4), [.l 9]⟩, ⟨.no, none, (.st 8), [.t 22, .t 20]⟩] [(1, 4)])
 (.reg [⟨.t 23, none, .mv, [.l 0]⟩, ⟨.t 24, none, .nilchk, [.t 23]⟩, ⟨.t 25, none, (.fad 0), [.t 24]⟩, ⟨.t 26, none, (.ld none), [.t 25]⟩, ⟨.t 27, none, .mv, [.l 1]⟩, ⟨.t 28, none, (.ld (some 18)), [.l 9]⟩, ⟨.t 29, none, (.call 89), [.t 26, .t 27, .t 28]⟩])) .skip))
 (.seq (.reg [⟨.t 30, none, .mv, [.l 10]⟩, ⟨.l 8, none, .mv, [.t 30]⟩])
 .ret)))), [.tmp (.l 8)]⟩
/-- (*tarpaulin/arena.Arena[tarpaulin/task.Task]).Len -/
def b45 : Nat := 5
def a45 : AFn := ⟨(.seq (.reg [⟨.l 2, none, .mv, [.c (.i .i64 0)]⟩])
 (.seq (.seq (.reg [⟨.t 3, none, .mv, [.l 0]⟩, ⟨.t 4, none, (.eq false .ptr), [.t 3, .c (.p none)]⟩])
 (.cond (.t 4) (.seq (.reg [⟨.l 2, none, .mv, [.c (.i .i64 0)]⟩])
 .ret) .skip))
 (.seq (.reg [⟨.t 5, none, .mv, [.l 0]⟩, ⟨.t 6, none, .nilchk, [.t 5]⟩, ⟨.t 7, none, (.fad 0), [.t 6]⟩, ⟨.t 8, none, (.ld none), [.t 7]⟩, ⟨.t 9, none, .lenSl, [.t 8]⟩, ⟨.l 2, none, .mv, [.t 9]⟩])
 .ret))), [.tmp (.l 2)]⟩
/-- tarpaulin/prog.Check -/
def b46 : Nat := 7
def a46 : AFn := ⟨(.seq (.reg [⟨.l 1, none, .box, [.l 0]⟩, ⟨.l 2, none, .mv, [.c (.i .i64 0)]⟩])
 (.seq (.seq (.reg [⟨.t 3, none, (.ld none), [.l 1]⟩, ⟨.t 4, none, .lenSl, [.t 3]⟩, ⟨.t 5, none, (.bin .gtr), [.t 4, .c (.i .i64 100)]⟩, ⟨.t 6, none, .mv, [.t 5]⟩, ⟨.t 7, (some (.t 6, false)), (.ld none), [.l 1]⟩, ⟨.t 8, (some (.t 6, false)), (.mkfn 92 0), [.l 1]⟩, ⟨.t 9, (some (.t 6, false)), (.call 47), [.t 7, .t 8]⟩, ⟨.t 10, none, .pick, [.t 6, .c (.b true), .t 9]⟩])
 (.cond (.t 10) (.seq (.reg [⟨.l 2, none, .mv, [.c (.i .i64 1)]⟩])
 .ret) .skip))
 (.seq (.reg [⟨.l 2, none, .mv, [.c (.i .i64 0)]⟩])
 .ret))), [.tmp (.l 2)]⟩
/-- slices.ContainsFunc[[]tarpaulin/api.Instr,tarpaulin/api.Instr] -/
def b47 : Nat := 19
def a47 : AFn := ⟨(.seq (.reg [⟨.l 4, none, .mv, [.c (.b false)]⟩])
 (.seq (.reg [⟨.t 5, none, .mv, [.l 0]⟩, ⟨.t 6, none, .mv, [.l 1]⟩, ⟨.t 7, none, (.call 94), [.t 5, .t 6]⟩, ⟨.t 8, none, (.bin .geq), [.t 7, .c (.i .i64 0)]⟩, ⟨.l 4, none, .mv, [.t 8]⟩])
 .ret)), [.tmp (.l 4)]⟩
/-- tarpaulin/prog.All$1 -/
def b48 : Nat := 15
def a48 : AFn := ⟨(.seq (.reg [⟨.l 2, none, .box, [.l 0]⟩, ⟨.l 3, none, .mv, [.c (.b false)]⟩])
 (.seq (.regD [⟨.t 4, none, (.ld (some 6)), [.l 2]⟩, ⟨.t 5, none, (.call 49), [.t 4]⟩, ⟨.t 6, none, (.ld none), [.l 1]⟩, ⟨.t 7, none, .lenSl, [.t 6]⟩, ⟨.t 8, none, (.bin .geq), [.t 5, .t 7]⟩, ⟨.l 3, none, .mv, [.t 8]⟩] [(2, 0)])
 .ret)), [.tmp (.l 3)]⟩
/-- tarpaulin/prog.starts -/
def b49 : Nat := 23
def a49 : AFn := ⟨(.seq (.reg [⟨.l 1, none, .box, [.l 0]⟩, ⟨.l 2, none, .mv, [.c (.i .i64 0)]⟩])
 (.seq (.seq (.reg [⟨.t 3, none, (.fad 0), [.l 1]⟩, ⟨.l 4, none, (.ld none), [.t 3]⟩])
 (.block 0 (.seq (.reg [⟨.t 6, none, (.bin .eql), [.l 4, .c (.i .i64 8)]⟩, ⟨.t 5, none, .mv, [.t 6]⟩])
 (.cond (.t 5) (.seq (.reg [⟨.t 7, none, (.fad 2), [.l 1]⟩, ⟨.t 8, none, (.ld none), [.t 7]⟩, ⟨.l 2, none, .mv, [.t 8]⟩])
 .ret) (.seq (.seq (.reg [⟨.t 10, none, (.bin .eql), [.l 4, .c (.i .i64 19)]⟩, ⟨.t 9, none, .mv, [.t 10]⟩])
 (.cond (.t 9) .skip (.reg [⟨.t 11, none, (.bin .eql), [.l 4, .c (.i .i64 31)]⟩, ⟨.t 9, none, .mv, [.t 11]⟩])))
 (.cond (.t 9) (.seq (.reg [⟨.t 12, none, (.fad 3), [.l 1]⟩, ⟨.t 13, none, (.ld none), [.t 12]⟩, ⟨.l 2, none, .mv, [.t 13]⟩])
 .ret) .skip))))))
 (.seq (.reg [⟨.l 2, none, .mv, [.c (.i .i64 (-1))]⟩])
 .ret))), [.tmp (.l 2)]⟩
/-- tarpaulin/arena.New[tarpaulin/task.Task] -/
def b50 : Nat := 13
def a50 : AFn := ⟨(.seq (.reg [⟨.l 2, none, .mv, [.c (.p none)]⟩, ⟨.l 3, none, .mv, [.c (.i .i64 0)]⟩])
 (.seq (.seq (.reg [⟨.t 4, none, .mv, [.l 0]⟩, ⟨.t 5, none, (.bin .lss), [.t 4, .c (.i .i64 1)]⟩, ⟨.t 6, none, .mv, [.t 5]⟩, ⟨.t 7, (some (.t 6, false)), .mv, [.l 0]⟩, ⟨.t 8, (some (.t 6, false)), (.bin .gtr), [.t 7, .c (.i .i64 1000)]⟩, ⟨.t 9, none, .pick, [.t 6, .c (.b true), .t 8]⟩])
 (.cond (.t 9) (.seq (.reg [⟨.l 2, none, .mv, [.c (.p none)]⟩, ⟨.l 3, none, .mv, [.c (.i .i64 1)]⟩])
 .ret) .skip))
 (.seq (.reg [⟨.t 10, none, .mv, [.l 0]⟩, ⟨.t 11, none, (.build [(.sl none 0 0 0), (.i .i64 0)] [(1, 1)]), [.t 10]⟩, ⟨.t 12, none, .box, [.t 11]⟩, ⟨.l 2, none, .mv, [.t 12]⟩, ⟨.l 3, none, .mv, [.c (.i .i64 0)]⟩])
 .ret))), [.tmp (.l 2), .tmp (.l 3)]⟩
/-- tarpaulin/ready.New -/
def b51 : Nat := 1
def a51 : AFn := ⟨(.seq (.reg [⟨.l 0, none, .mv, [.c (.p none)]⟩])
 (.seq (.reg [⟨.t 1, none, (.build [(.sl none 0 0 0)] []), []⟩, ⟨.t 2, none, .box, [.t 1]⟩, ⟨.l 0, none, .mv, [.t 2]⟩])
 .ret)), [.tmp (.l 0)]⟩
/-- tarpaulin/expire.New -/
def b52 : Nat := 1
def a52 : AFn := ⟨(.seq (.reg [⟨.l 0, none, .mv, [.c (.p none)]⟩])
 (.seq (.reg [⟨.t 1, none, (.call 95), []⟩, ⟨.t 2, none, .mkmap, []⟩, ⟨.t 3, none, (.build [(.p none), (.m none)] [(0, 1), (1, 1)]), [.t 1, .t 2]⟩, ⟨.t 4, none, .box, [.t 3]⟩, ⟨.l 0, none, .mv, [.t 4]⟩])
 .ret)), [.tmp (.l 0)]⟩
/-- tarpaulin/tree.New -/
def b53 : Nat := 1
def a53 : AFn := ⟨(.seq (.reg [⟨.l 0, none, .mv, [.c (.p none)]⟩])
 (.seq (.reg [⟨.t 1, none, (.build [(.sl none 0 0 0)] []), []⟩, ⟨.t 2, none, .box, [.t 1]⟩, ⟨.l 0, none, .mv, [.t 2]⟩])
 .ret)), [.tmp (.l 0)]⟩
/-- (*tarpaulin/ctx.Set).add -/
def b54 : Nat := 87
def a54 : AFn := ⟨(.seq (.reg [⟨.l 4, none, .box, [.l 1]⟩, ⟨.l 6, none, .mv, [.c (.i .i64 0)]⟩])
 (.seq (.reg [⟨.t 8, none, .mv, [.l 0]⟩, ⟨.t 9, none, .nilchk, [.t 8]⟩, ⟨.t 10, none, (.fad 1), [.t 9]⟩, ⟨.t 11, none, (.ld none), [.t 10]⟩, ⟨.t 12, none, .mv, [.l 2]⟩, ⟨.t 13, none, (.fad 1), [.l 4]⟩, ⟨.t 14, none, (.ld none), [.t 13]⟩, ⟨.t 15, none, (.un .not), [.t 14]⟩, ⟨.t 16, none, (.call 96), [.t 11, .t 12, .t 15]⟩, ⟨.t 7, none, .mv, [.t 16]⟩, ⟨.t 17, none, (.ext 0), [.t 7]⟩, ⟨.t 18, none, (.ext 1), [.t 7]⟩, ⟨.t 19, none, (.fad 0), [.l 4]⟩, ⟨.no, none, (.st 1), [.t 19, .t 17]⟩])
 (.seq (.reg [⟨.t 20, none, (.fad 8), [.l 4]⟩, ⟨.no, none, (.st 1), [.t 20, .c (.i .i64 (-1))]⟩])
 (.seq (.reg [⟨.t 21, none, .mv, [.l 0]⟩, ⟨.t 22, none, .nilchk, [.t 21]⟩, ⟨.t 23, none, (.fad 4), [.t 22]⟩, ⟨.t 24, none, (.ld none), [.t 23]⟩, ⟨.t 25, none, (.fad 0), [.l 4]⟩, ⟨.t 26, none, (.ld none), [.t 25]⟩, ⟨.t 27, none, .mv, [.l 0]⟩, ⟨.t 28, none, .nilchk, [.t 27]⟩, ⟨.t 29, none, (.fad 2), [.t 28]⟩, ⟨.t 30, none, (.ld none), [.t 29]⟩, ⟨.t 31, none, .lenSl, [.t 30]⟩, ⟨.no, none, .mset, [.t 24, .t 26, .t 31]⟩])
 (.seq (.reg [⟨.t 32, none, .mv, [.l 0]⟩, ⟨.t 33, none, .mv, [.l 0]⟩, ⟨.t 34, none, .nilchk, [.t 33]⟩, ⟨.t 35, none, (.fad 2), [.t 34]⟩, ⟨.t 36, none, (.ld none), [.t 35]⟩, ⟨.t 37, none, (.ld (some 9)), [.l 4]⟩, ⟨.t 38, none, (.bslice [(.i .i64 0), (.b false), (.p none), (.i .i64 0), (.i .i64 0), (.i .i64 0), (.b false), (.b false), (.i .i64 0)] 1 9 [0]), [.t 37]⟩, ⟨.t 39, none, (.app 9 64), [.t 36, .t 38]⟩, ⟨.t 40, none, .nilchk, [.t 32]⟩, ⟨.t 41, none, (.fad 2), [.t 40]⟩, ⟨.no, none, (.st 1), [.t 41, .t 39]⟩])
 (.seq (.reg [⟨.t 42, none, .mv, [.l 0]⟩, ⟨.t 43, none, .nilchk, [.t 42]⟩, ⟨.t 44, none, (.fad 2), [.t 43]⟩, ⟨.t 45, none, (.ld none), [.t 44]⟩, ⟨.t 46, none, .lenSl, [.t 45]⟩, ⟨.t 47, none, (.bin .sub), [.t 46, .c (.i .i64 1)]⟩, ⟨.l 6, none, .mv, [.t 47]⟩])
 .ret)))))), [.tmp (.l 6)]⟩
/-- slices.Clone[[]tarpaulin/api.Instr,tarpaulin/api.Instr] -/
def b55 : Nat := 5
def a55 : AFn := ⟨(.seq (.reg [⟨.l 2, none, .mv, [.c (.sl none 0 0 0)]⟩])
 (.seq (.seq (.reg [⟨.t 3, none, .mv, [.l 0]⟩, ⟨.t 4, none, (.eq false .slnil), [.t 3, .c (.sl none 0 0 0)]⟩])
 (.cond (.t 4) (.seq (.reg [⟨.l 2, none, .mv, [.c (.sl none 0 0 0)]⟩])
 .ret) .skip))
 (.seq (.reg [⟨.t 5, none, (.bslice [(.i .i64 0), (.i .i64 0), (.i .i64 0), (.i .i64 0), (.sl none 0 0 0), (.b false)] 0 6 []), []⟩, ⟨.t 6, none, .mv, [.l 0]⟩, ⟨.t 7, none, (.app 6 64), [.t 5, .t 6]⟩, ⟨.l 2, none, .mv, [.t 7]⟩])
 .ret))), [.tmp (.l 2)]⟩
/-- slices.Clone[[]tarpaulin/api.Case,tarpaulin/api.Case] -/
def b56 : Nat := 5
def a56 : AFn := ⟨(.seq (.reg [⟨.l 2, none, .mv, [.c (.sl none 0 0 0)]⟩])
 (.seq (.seq (.reg [⟨.t 3, none, .mv, [.l 0]⟩, ⟨.t 4, none, (.eq false .slnil), [.t 3, .c (.sl none 0 0 0)]⟩])
 (.cond (.t 4) (.seq (.reg [⟨.l 2, none, .mv, [.c (.sl none 0 0 0)]⟩])
 .ret) .skip))
 (.seq (.reg [⟨.t 5, none, (.bslice [(.b false), (.i .i64 0), (.i .i64 0)] 0 3 []), []⟩, ⟨.t 6, none, .mv, [.l 0]⟩, ⟨.t 7, none, (.app 3 24), [.t 5, .t 6]⟩, ⟨.l 2, none, .mv, [.t 7]⟩])
 .ret))), [.tmp (.l 2)]⟩
/-- (*tarpaulin/arena.Arena[tarpaulin/task.Task]).Add -/
def b57 : Nat := 59
def a57 : AFn := ⟨(.seq (.reg [⟨.l 3, none, .box, [.l 1]⟩, ⟨.l 4, none, .mv, [.c (.i .i64 0)]⟩, ⟨.l 5, none, .mv, [.c (.i .i64 0)]⟩])
 (.seq (.seq (.reg [⟨.t 6, none, .mv, [.l 0]⟩, ⟨.t 7, none, (.call 97), [.t 6]⟩, ⟨.t 8, none, (.bin .eql), [.t 7, .c (.i .i64 0)]⟩])
 (.cond (.t 8) (.seq (.reg [⟨.l 4, none, .mv, [.c (.i .i64 0)]⟩, ⟨.l 5, none, .mv, [.c (.i .i64 3)]⟩])
 .ret) .skip))
 (.seq (.reg [⟨.t 9, none, .mv, [.l 0]⟩, ⟨.t 10, none, .mv, [.l 0]⟩, ⟨.t 11, none, .nilchk, [.t 10]⟩, ⟨.t 12, none, (.fad 0), [.t 11]⟩, ⟨.t 13, none, (.ld none), [.t 12]⟩, ⟨.t 14, none, (.ld (some 18)), [.l 3]⟩, ⟨.t 15, none, (.bslice [(.i .i64 0), (.i .i64 0), (.i .i64 0), (.i .i64 0), (.i .i64 0), (.i .i64 0), (.i .i64 0), (.i .i64 0), (.i .i64 0), (.i .i64 0), (.i .i64 0), (.i .i64 0), (.i .i64 0), (.i .i64 0), (.i .i64 0), (.i .i64 0), (.sl none 0 0 0), (.b false)] 1 18 [0]), [.t 14]⟩, ⟨.t 16, none, (.app 18 160), [.t 13, .t 15]⟩, ⟨.t 17, none, .nilchk, [.t 9]⟩, ⟨.t 18, none, (.fad 0), [.t 17]⟩, ⟨.no, none, (.st 1), [.t 18, .t 16]⟩])
 (.seq (.reg [⟨.t 19, none, .mv, [.l 0]⟩, ⟨.t 20, none, .nilchk, [.t 19]⟩, ⟨.t 21, none, (.fad 0), [.t 20]⟩, ⟨.t 22, none, (.ld none), [.t 21]⟩, ⟨.t 23, none, .lenSl, [.t 22]⟩, ⟨.t 24, none, (.bin .sub), [.t 23, .c (.i .i64 1)]⟩, ⟨.l 4, none, .mv, [.t 24]⟩, ⟨.l 5, none, .mv, [.c (.i .i64 0)]⟩])
 .ret)))), [.tmp (.l 4), .tmp (.l 5)]⟩
/-- (*tarpaulin/ready.List).Add -/
def b58 : Nat := 19
def a58 : AFn := ⟨(.seq (.reg [⟨.l 4, none, .mv, [.c (.i .i64 0)]⟩])
 (.seq (.seq (.reg [⟨.t 5, none, .mv, [.l 0]⟩, ⟨.t 6, none, (.eq false .ptr), [.t 5, .c (.p none)]⟩, ⟨.t 7, none, .mv, [.t 6]⟩, ⟨.t 8, (some (.t 7, false)), .mv, [.l 1]⟩, ⟨.t 9, (some (.t 7, false)), (.bin .lss), [.t 8, .c (.i .i64 0)]⟩, ⟨.t 10, none, .pick, [.t 7, .c (.b true), .t 9]⟩, ⟨.t 11, none, .mv, [.t 10]⟩, ⟨.t 12, (some (.t 11, false)), .mv, [.l 0]⟩, ⟨.t 13, (some (.t 11, false)), .nilchk, [.t 12]⟩, ⟨.t 14, (some (.t 11, false)), (.fad 0), [.t 13]⟩, ⟨.t 15, (some (.t 11, false)), (.ld none), [.t 14]⟩, ⟨.t 16, (some (.t 11, false)), .mv, [.l 1]⟩, ⟨.t 17, (some (.t 11, false)), (.call 98), [.t 15, .t 16]⟩, ⟨.t 18, none, .pick, [.t 11, .c (.b true), .t 17]⟩])
 (.cond (.t 18) (.seq (.reg [⟨.l 4, none, .mv, [.c (.i .i64 1)]⟩])
 .ret) .skip))
 (.seq (.reg [⟨.t 19, none, .mv, [.l 0]⟩, ⟨.t 20, none, .mv, [.l 0]⟩, ⟨.t 21, none, .nilchk, [.t 20]⟩, ⟨.t 22, none, (.fad 0), [.t 21]⟩, ⟨.t 23, none, (.ld none), [.t 22]⟩, ⟨.t 24, none, .mv, [.l 1]⟩, ⟨.t 25, none, (.bslice [(.i .i64 0)] 1 1 [0]), [.t 24]⟩, ⟨.t 26, none, (.app 1 8), [.t 23, .t 25]⟩, ⟨.t 27, none, .nilchk, [.t 19]⟩, ⟨.t 28, none, (.fad 0), [.t 27]⟩, ⟨.no, none, (.st 1), [.t 28, .t 26]⟩])
 (.seq (.reg [⟨.l 4, none, .mv, [.c (.i .i64 0)]⟩])
 .ret)))), [.tmp (.l 4)]⟩
/-- slices.Clone[[]tarpaulin/deal.Deal,tarpaulin/deal.Deal] -/
def b59 : Nat := 5
def a59 : AFn := ⟨(.seq (.reg [⟨.l 2, none, .mv, [.c (.sl none 0 0 0)]⟩])
 (.seq (.seq (.reg [⟨.t 3, none, .mv, [.l 0]⟩, ⟨.t 4, none, (.eq false .slnil), [.t 3, .c (.sl none 0 0 0)]⟩])
 (.cond (.t 4) (.seq (.reg [⟨.l 2, none, .mv, [.c (.sl none 0 0 0)]⟩])
 .ret) .skip))
 (.seq (.reg [⟨.t 5, none, (.bslice [(.i .i64 0), (.i .i64 0), (.i .i64 0), (.b false), (.i .i64 0)] 0 5 []), []⟩, ⟨.t 6, none, .mv, [.l 0]⟩, ⟨.t 7, none, (.app 5 40), [.t 5, .t 6]⟩, ⟨.l 2, none, .mv, [.t 7]⟩])
 .ret))), [.tmp (.l 2)]⟩
/-- tarpaulin/clock.Add -/
def b60 : Nat := 19
def a60 : AFn := ⟨(.seq (.reg [⟨.l 4, none, .mv, [.c (.i .i64 0)]⟩])
 (.seq (.reg [⟨.t 5, none, .mv, [.l 0]⟩, ⟨.t 6, none, (.call 99), [.t 5]⟩, ⟨.t 7, none, .mv, [.l 1]⟩, ⟨.t 8, none, (.call 99), [.t 7]⟩, ⟨.l 0, none, .mv, [.t 6]⟩, ⟨.l 1, none, .mv, [.t 8]⟩])
 (.seq (.block 0 (.seq (.reg [⟨.t 10, none, .mv, [.l 1]⟩, ⟨.t 11, none, (.bin .gtr), [.t 10, .c (.i .i64 0)]⟩, ⟨.t 12, none, .mv, [.t 11]⟩, ⟨.t 13, (some (.t 12, true)), .mv, [.l 0]⟩, ⟨.t 14, (some (.t 12, true)), .mv, [.l 1]⟩, ⟨.t 15, (some (.t 12, true)), (.bin .sub), [.c (.i .i64 4611686018427387904), .t 14]⟩, ⟨.t 16, (some (.t 12, true)), (.bin .gtr), [.t 13, .t 15]⟩, ⟨.t 17, none, .pick, [.t 12, .t 16, .c (.b false)]⟩, ⟨.t 9, none, .mv, [.t 17]⟩])
 (.cond (.t 9) (.seq (.reg [⟨.l 4, none, .mv, [.c (.i .i64 4611686018427387904)]⟩])
 .ret) (.seq (.reg [⟨.t 19, none, .mv, [.l 1]⟩, ⟨.t 20, none, (.bin .lss), [.t 19, .c (.i .i64 0)]⟩, ⟨.t 21, none, .mv, [.t 20]⟩, ⟨.t 22, (some (.t 21, true)), .mv, [.l 0]⟩, ⟨.t 23, (some (.t 21, true)), .mv, [.l 1]⟩, ⟨.t 24, (some (.t 21, true)), (.bin .sub), [.c (.i .i64 (-4611686018427387904)), .t 23]⟩, ⟨.t 25, (some (.t 21, true)), (.bin .lss), [.t 22, .t 24]⟩, ⟨.t 26, none, .pick, [.t 21, .t 25, .c (.b false)]⟩, ⟨.t 18, none, .mv, [.t 26]⟩])
 (.cond (.t 18) (.seq (.reg [⟨.l 4, none, .mv, [.c (.i .i64 (-4611686018427387904))]⟩])
 .ret) .skip)))))
 (.seq (.reg [⟨.t 27, none, .mv, [.l 0]⟩, ⟨.t 28, none, .mv, [.l 1]⟩, ⟨.t 29, none, (.bin .add), [.t 27, .t 28]⟩, ⟨.l 4, none, .mv, [.t 29]⟩])
 .ret)))), [.tmp (.l 4)]⟩
/-- (*tarpaulin/expire.Timers).Take -/
def b61 : Nat := 7667
def a61 : AFn := ⟨(.seq (.reg [⟨.l 4, none, (.alloc [(.i .i64 0), (.i .i64 0), (.i .i64 0)]), []⟩, ⟨.l 5, none, .mv, [.c (.b false)]⟩])
 (.seq (.reg [⟨.t 14, none, .mv, [.l 0]⟩, ⟨.t 15, none, (.call 100), [.t 14]⟩, ⟨.t 13, none, .mv, [.t 15]⟩, ⟨.t 16, none, (.ext 0), [.t 13]⟩, ⟨.t 17, none, (.ext 1), [.t 13]⟩, ⟨.l 6, none, .mv, [.t 16]⟩, ⟨.l 7, none, .mv, [.t 17]⟩])
 (.seq (.seq (.reg [⟨.t 18, none, .mv, [.l 7]⟩, ⟨.t 19, none, (.un .not), [.t 18]⟩, ⟨.t 20, none, .mv, [.t 19]⟩, ⟨.t 21, (some (.t 20, false)), .mv, [.l 1]⟩, ⟨.t 22, (some (.t 20, false)), (.bin .lss), [.t 21, .c (.i .i64 0)]⟩, ⟨.t 23, none, .pick, [.t 20, .c (.b true), .t 22]⟩, ⟨.t 24, none, .mv, [.t 23]⟩, ⟨.t 25, (some (.t 24, false)), .mv, [.l 6]⟩, ⟨.t 26, (some (.t 24, false)), .mv, [.l 1]⟩, ⟨.t 27, (some (.t 24, false)), (.bin .gtr), [.t 25, .t 26]⟩, ⟨.t 28, none, .pick, [.t 24, .c (.b true), .t 27]⟩])
 (.cond (.t 28) (.seq (.reg [⟨.t 29, none, (.build [(.i .i64 0), (.i .i64 0), (.i .i64 0)] []), []⟩, ⟨.no, none, (.st 3), [.l 4, .t 29]⟩, ⟨.l 5, none, .mv, [.c (.b false)]⟩])
 .ret) .skip))
 (.seq (.reg [⟨.t 31, none, .mv, [.l 0]⟩, ⟨.t 32, none, .nilchk, [.t 31]⟩, ⟨.t 33, none, (.fad 0), [.t 32]⟩, ⟨.t 34, none, (.ld none), [.t 33]⟩, ⟨.t 35, none, (.call 101), [.t 34]⟩, ⟨.t 30, none, .mv, [.t 35]⟩, ⟨.t 36, none, (.ext 0), [.t 30]⟩, ⟨.t 37, none, (.ext 1), [.t 30]⟩, ⟨.l 8, none, (.alloc [(.i .i64 0), (.i .i64 0), (.i .i64 0)]), []⟩, ⟨.no, none, (.st 3), [.l 8, .t 36]⟩, ⟨.t 9, none, .mv, [.t 37]⟩])
 (.seq (.reg [⟨.t 38, none, .mv, [.l 0]⟩, ⟨.t 39, none, .nilchk, [.t 38]⟩, ⟨.t 40, none, (.fad 1), [.t 39]⟩, ⟨.t 41, none, (.ld none), [.t 40]⟩, ⟨.t 42, none, (.fad 0), [.l 8]⟩, ⟨.t 43, none, (.ld none), [.t 42]⟩, ⟨.t 44, none, (.lkup (.i .i64 0) false), [.t 41, .t 43]⟩, ⟨.l 10, none, .mv, [.t 44]⟩])
 (.seq (.reg [⟨.t 45, none, .mv, [.l 0]⟩, ⟨.t 46, none, .nilchk, [.t 45]⟩, ⟨.t 47, none, (.fad 1), [.t 46]⟩, ⟨.t 48, none, (.ld none), [.t 47]⟩, ⟨.t 49, none, (.fad 0), [.l 8]⟩, ⟨.t 50, none, (.ld none), [.t 49]⟩, ⟨.no, none, .mdel, [.t 48, .t 50]⟩])
 (.seq (.seq (.reg [⟨.t 52, none, .mv, [.l 6]⟩, ⟨.t 53, none, .mv, [.l 10]⟩, ⟨.t 54, none, .mv, [.l 1]⟩, ⟨.t 55, none, (.call 102), [.t 52, .t 53, .t 54]⟩, ⟨.t 51, none, .mv, [.t 55]⟩, ⟨.t 56, none, (.ext 0), [.t 51]⟩, ⟨.t 57, none, (.ext 1), [.t 51]⟩, ⟨.l 11, none, .mv, [.t 56]⟩, ⟨.l 12, none, .mv, [.t 57]⟩])
 (.seq (.reg [⟨.t 58, none, .mv, [.l 12]⟩, ⟨.t 59, none, (.bin .eql), [.t 58, .c (.i .i64 0)]⟩, ⟨.t 60, none, .mv, [.t 59]⟩, ⟨.t 61, (some (.t 60, true)), .mv, [.l 11]⟩, ⟨.t 62, (some (.t 60, true)), .mv, [.l 1]⟩, ⟨.t 63, (some (.t 60, true)), (.bin .gtr), [.t 61, .t 62]⟩, ⟨.t 64, none, .pick, [.t 60, .t 63, .c (.b false)]⟩])
 (.cond (.t 64) (.reg [⟨.t 65, none, .mv, [.l 0]⟩, ⟨.t 66, none, (.fad 0), [.l 8]⟩, ⟨.t 67, none, (.ld none), [.t 66]⟩, ⟨.t 68, none, .mv, [.l 11]⟩, ⟨.t 69, none, .mv, [.l 10]⟩, ⟨.t 70, none, (.call 103), [.t 65, .t 67, .t 68, .t 69]⟩]) .skip)))
 (.seq (.reg [⟨.t 71, none, (.fad 0), [.l 8]⟩, ⟨.t 72, none, (.ld none), [.t 71]⟩, ⟨.t 73, none, .mv, [.l 6]⟩, ⟨.t 74, none, .mv, [.l 1]⟩, ⟨.t 75, none, (.build [(.i .i64 0), (.i .i64 0), (.i .i64 0)] [(0, 1), (1, 1), (2, 1)]), [.t 72, .t 73, .t 74]⟩, ⟨.no, none, (.st 3), [.l 4, .t 75]⟩, ⟨.l 5, none, .mv, [.c (.b true)]⟩])
 .ret)))))))), [.cell (.l 4) (some 3), .tmp (.l 5)]⟩
/-- (*tarpaulin/chanq.Chan).Put -/
def b62 : Nat := 51
def a62 : AFn := ⟨(.seq (.reg [⟨.l 4, none, .mv, [.c (.sl none 0 0 0)]⟩, ⟨.l 5, none, .mv, [.c (.b false)]⟩])
 (.seq (.seq (.reg [⟨.t 6, none, .mv, [.l 0]⟩, ⟨.t 7, none, (.eq false .ptr), [.t 6, .c (.p none)]⟩, ⟨.t 8, none, .mv, [.t 7]⟩, ⟨.t 9, (some (.t 8, false)), .mv, [.l 0]⟩, ⟨.t 10, (some (.t 8, false)), .nilchk, [.t 9]⟩, ⟨.t 11, (some (.t 8, false)), (.fad 3), [.t 10]⟩, ⟨.t 12, (some (.t 8, false)), (.ld none), [.t 11]⟩, ⟨.t 13, (some (.t 8, false)), (.un .not), [.t 12]⟩, ⟨.t 14, none, .pick, [.t 8, .c (.b true), .t 13]⟩])
 (.cond (.t 14) (.seq (.reg [⟨.l 4, none, .mv, [.c (.sl none 0 0 0)]⟩, ⟨.l 5, none, .mv, [.c (.b false)]⟩])
 .ret) .skip))
 (.seq (.seq (.reg [⟨.t 15, none, .mv, [.l 0]⟩, ⟨.t 16, none, .mv, [.l 1]⟩, ⟨.t 17, none, (.call 104), [.t 15, .t 16]⟩, ⟨.l 4, none, .mv, [.t 17]⟩])
 (.seq (.reg [⟨.t 18, none, .mv, [.l 4]⟩, ⟨.t 19, none, .lenSl, [.t 18]⟩, ⟨.t 20, none, (.bin .gtr), [.t 19, .c (.i .i64 0)]⟩])
 (.cond (.t 20) (.seq (.reg [⟨.t 21, none, .mv, [.l 4]⟩, ⟨.l 4, none, .mv, [.t 21]⟩, ⟨.l 5, none, .mv, [.c (.b true)]⟩])
 .ret) .skip)))
 (.seq (.reg [⟨.t 22, none, .mv, [.l 0]⟩, ⟨.t 23, none, .nilchk, [.t 22]⟩, ⟨.t 24, none, (.fad 0), [.t 23]⟩, ⟨.t 25, none, (.ld none), [.t 24]⟩, ⟨.t 26, none, .mv, [.l 1]⟩, ⟨.t 27, none, (.call 105), [.t 25, .t 26]⟩, ⟨.l 4, none, .mv, [.c (.sl none 0 0 0)]⟩, ⟨.l 5, none, .mv, [.t 27]⟩])
 .ret)))), [.tmp (.l 4), .tmp (.l 5)]⟩
/-- (*tarpaulin/ctx.Set).Lapse -/
def b63 : Nat := 499
def a63 : AFn := ⟨(.seq (.reg [⟨.l 4, none, .mv, [.c (.sl none 0 0 0)]⟩, ⟨.l 5, none, .mv, [.c (.sl none 0 0 0)]⟩, ⟨.l 6, none, .mv, [.c (.i .i64 0)]⟩])
 (.seq (.block 0 (.seq (.reg [⟨.t 10, none, .mv, [.l 0]⟩, ⟨.t 11, none, .mv, [.l 1]⟩, ⟨.t 12, none, (.call 106), [.t 10, .t 11]⟩, ⟨.t 13, none, (.un .not), [.t 12]⟩, ⟨.t 9, none, .mv, [.t 13]⟩])
 (.cond (.t 9) (.seq (.reg [⟨.l 4, none, .mv, [.c (.sl none 0 0 0)]⟩, ⟨.l 5, none, .mv, [.c (.sl none 0 0 0)]⟩, ⟨.l 6, none, .mv, [.c (.i .i64 4)]⟩])
 .ret) (.seq (.reg [⟨.t 15, none, .mv, [.l 0]⟩, ⟨.t 16, none, .nilchk, [.t 15]⟩, ⟨.t 17, none, (.fad 2), [.t 16]⟩, ⟨.t 18, none, (.ld none), [.t 17]⟩, ⟨.t 19, none, .mv, [.l 1]⟩, ⟨.t 20, none, (.iad 9), [.t 18, .t 19]⟩, ⟨.t 21, none, (.fad 7), [.t 20]⟩, ⟨.t 22, none, (.ld none), [.t 21]⟩, ⟨.t 23, none, (.un .not), [.t 22]⟩, ⟨.t 14, none, .mv, [.t 23]⟩])
 (.cond (.t 14) (.seq (.reg [⟨.l 4, none, .mv, [.c (.sl none 0 0 0)]⟩, ⟨.l 5, none, .mv, [.c (.sl none 0 0 0)]⟩, ⟨.l 6, none, .mv, [.c (.i .i64 1)]⟩])
 .ret) .skip)))))
 (.seq (.reg [⟨.t 25, none, .mv, [.l 0]⟩, ⟨.t 26, none, .mv, [.l 1]⟩, ⟨.t 27, none, (.call 107), [.t 25, .t 26, .c (.i .i64 2), .c (.i .i64 2)]⟩, ⟨.t 24, none, .mv, [.t 27]⟩, ⟨.t 28, none, (.ext 0), [.t 24]⟩, ⟨.t 29, none, (.ext 1), [.t 24]⟩, ⟨.l 7, none, .mv, [.t 28]⟩, ⟨.l 8, none, .mv, [.t 29]⟩])
 (.seq (.reg [⟨.t 30, none, .mv, [.l 7]⟩, ⟨.t 31, none, .mv, [.l 8]⟩, ⟨.l 4, none, .mv, [.t 30]⟩, ⟨.l 5, none, .mv, [.t 31]⟩, ⟨.l 6, none, .mv, [.c (.i .i64 0)]⟩])
 .ret)))), [.tmp (.l 4), .tmp (.l 5), .tmp (.l 6)]⟩
/-- (*tarpaulin/world.World).lapse -/
def b64 : Nat := 3758104199
def a64 : AFn := ⟨(.seq (.seq (.reg [⟨.l 10, none, .mv, [.l 1]⟩, ⟨.l 11, none, .lenSl, [.l 10]⟩, ⟨.l 12, none, .mv, [.c (.i .i64 0)]⟩])
 (.block 0 (.loop (.seq (.reg [⟨.t 13, none, (.bin .lss), [.l 12, .l 11]⟩])
 (.seq (.cond (.t 13) .skip (.exit 0))
 (.seq (.block 1 (.seq (.reg [⟨.t 14, none, (.iad 4), [.l 10, .l 12]⟩, ⟨.t 15, none, (.ld (some 4)), [.t 14]⟩, ⟨.l 7, none, (.alloc [(.i .i64 0), (.i .i64 0), (.i .i64 0), (.sl none 0 0 0)]), []⟩, ⟨.no, none, (.st 4), [.l 7, .t 15]⟩])
 (.seq (.reg [⟨.t 16, none, .mv, [.l 0]⟩, ⟨.t 17, none, (.fad 0), [.l 7]⟩, ⟨.t 18, none, (.ld none), [.t 17]⟩, ⟨.t 19, none, (.fad 1), [.l 7]⟩, ⟨.t 20, none, (.ld none), [.t 19]⟩, ⟨.t 21, none, (.fad 2), [.l 7]⟩, ⟨.t 22, none, (.ld none), [.t 21]⟩, ⟨.t 23, none, (.call 17), [.t 16, .c (.i .i64 7), .c (.i .i64 (-1)), .t 18, .t 20, .t 22]⟩])
 (.reg [⟨.t 24, none, .mv, [.l 0]⟩, ⟨.t 25, none, (.fad 3), [.l 7]⟩, ⟨.t 26, none, (.ld none), [.t 25]⟩, ⟨.t 27, none, (.call 69), [.t 24, .t 26]⟩]))))
 (.reg [⟨.t 28, none, (.bin .add), [.l 12, .c (.i .i64 1)]⟩, ⟨.l 12, none, .mv, [.t 28]⟩])))))))
 (.seq (.reg [⟨.l 29, none, .mv, [.l 2]⟩, ⟨.l 30, none, .lenSl, [.l 29]⟩, ⟨.l 31, none, .mv, [.c (.i .i64 0)]⟩])
 (.block 2 (.loop (.seq (.reg [⟨.t 32, none, (.bin .lss), [.l 31, .l 30]⟩])
 (.seq (.cond (.t 32) .skip (.exit 2))
 (.seq (.block 3 (.seq (.reg [⟨.t 33, none, (.iad 2), [.l 29, .l 31]⟩, ⟨.t 34, none, (.ld (some 2)), [.t 33]⟩, ⟨.l 9, none, (.alloc [(.i .i64 0), (.i .i64 0)]), []⟩, ⟨.no, none, (.st 2), [.l 9, .t 34]⟩])
 (.reg [⟨.t 35, none, .mv, [.l 0]⟩, ⟨.t 36, none, (.fad 1), [.l 9]⟩, ⟨.t 37, none, (.ld none), [.t 36]⟩, ⟨.t 38, none, (.build [(.i .i64 0), (.i .i64 0), (.i .i64 0), (.i .i64 0), (.i .i64 0), (.i .i64 0), (.i .i64 0), (.i .i64 0)] []), []⟩, ⟨.t 39, none, (.call 65), [.t 35, .t 37, .t 38]⟩])))
 (.reg [⟨.t 40, none, (.bin .add), [.l 31, .c (.i .i64 1)]⟩, ⟨.l 31, none, .mv, [.t 40]⟩])))))))), []⟩
/-- (*tarpaulin/world.World).start -/
def b65 : Nat := 999
def a65 : AFn := ⟨(.seq (.reg [⟨.l 5, none, .box, [.l 2]⟩, ⟨.l 6, none, .mv, [.c (.i .i64 0)]⟩, ⟨.l 7, none, .mv, [.c (.i .i64 0)]⟩])
 (.seq (.reg [⟨.t 11, none, .mv, [.l 0]⟩, ⟨.t 12, none, .nilchk, [.t 11]⟩, ⟨.t 13, none, (.fad 2), [.t 12]⟩, ⟨.t 14, none, (.ld none), [.t 13]⟩, ⟨.t 15, none, .mv, [.l 1]⟩, ⟨.t 16, none, (.ld (some 8)), [.l 5]⟩, ⟨.t 17, none, (.call 29), [.t 14, .t 15, .t 16]⟩, ⟨.t 10, none, .mv, [.t 17]⟩, ⟨.t 18, none, (.ext 0), [.t 10]⟩, ⟨.t 19, none, (.ext 1), [.t 10]⟩, ⟨.l 8, none, .mv, [.t 18]⟩, ⟨.l 9, none, .mv, [.t 19]⟩])
 (.seq (.seq (.reg [⟨.t 20, none, .mv, [.l 9]⟩, ⟨.t 21, none, (.bin .eql), [.t 20, .c (.i .i64 0)]⟩])
 (.cond (.t 21) (.reg [⟨.t 22, none, .mv, [.l 0]⟩, ⟨.t 23, none, .mv, [.l 8]⟩, ⟨.t 24, none, .mv, [.l 1]⟩, ⟨.t 25, none, (.call 17), [.t 22, .c (.i .i64 5), .t 23, .t 24, .c (.i .i64 0), .c (.i .i64 0)]⟩]) .skip))
 (.seq (.reg [⟨.t 26, none, .mv, [.l 8]⟩, ⟨.t 27, none, .mv, [.l 9]⟩, ⟨.l 6, none, .mv, [.t 26]⟩, ⟨.l 7, none, .mv, [.t 27]⟩])
 .ret)))), [.tmp (.l 6), .tmp (.l 7)]⟩
/-- (*tarpaulin/world.World).went -/
def b66 : Nat := 31
def a66 : AFn := ⟨(.reg [⟨.t 10, none, .mv, [.l 0]⟩, ⟨.t 11, none, .nilchk, [.t 10]⟩, ⟨.t 12, none, (.fad 7), [.t 11]⟩, ⟨.t 13, none, (.ld none), [.t 12]⟩, ⟨.t 14, none, .mv, [.l 1]⟩, ⟨.t 15, none, .mv, [.l 2]⟩, ⟨.t 16, none, .mv, [.l 3]⟩, ⟨.t 17, none, .mv, [.l 4]⟩, ⟨.t 18, none, .mv, [.l 0]⟩, ⟨.t 19, none, .nilchk, [.t 18]⟩, ⟨.t 20, none, (.fad 9), [.t 19]⟩, ⟨.t 21, none, (.ld none), [.t 20]⟩, ⟨.t 22, none, (.build [(.i .i64 0), (.i .i64 0), (.i .i64 0), (.b false), (.i .i64 0)] [(0, 1), (1, 1), (2, 1), (3, 1), (4, 1)]), [.t 14, .t 15, .t 16, .t 17, .t 21]⟩, ⟨.t 23, none, (.call 108), [.t 13, .t 22]⟩]), []⟩
/-- (*tarpaulin/world.World).handle -/
def b67 : Nat := 19
def a67 : AFn := ⟨(.seq (.reg [⟨.l 4, none, .mv, [.c (.i .i64 0)]⟩])
 (.seq (.reg [⟨.t 5, none, .mv, [.l 0]⟩, ⟨.t 6, none, .nilchk, [.t 5]⟩, ⟨.t 7, none, (.fad 3), [.t 6]⟩, ⟨.t 8, none, (.ld none), [.t 7]⟩, ⟨.t 9, none, .mv, [.l 1]⟩, ⟨.t 10, none, (.call 109), [.t 8, .t 9]⟩, ⟨.l 4, none, .mv, [.t 10]⟩])
 .ret)), [.tmp (.l 4)]⟩
/-- (*tarpaulin/timer.Set).Chan -/
def b68 : Nat := 19
def a68 : AFn := ⟨(.seq (.reg [⟨.l 4, none, .mv, [.c (.p none)]⟩])
 (.seq (.seq (.reg [⟨.t 5, none, .mv, [.l 0]⟩, ⟨.t 6, none, .mv, [.l 1]⟩, ⟨.t 7, none, (.call 110), [.t 5, .t 6]⟩, ⟨.t 8, none, (.un .not), [.t 7]⟩])
 (.cond (.t 8) (.seq (.reg [⟨.l 4, none, .mv, [.c (.p none)]⟩])
 .ret) .skip))
 (.seq (.reg [⟨.t 9, none, .mv, [.l 0]⟩, ⟨.t 10, none, .nilchk, [.t 9]⟩, ⟨.t 11, none, (.fad 0), [.t 10]⟩, ⟨.t 12, none, (.ld none), [.t 11]⟩, ⟨.t 13, none, .mv, [.l 1]⟩, ⟨.t 14, none, (.iad 4), [.t 12, .t 13]⟩, ⟨.t 15, none, (.fad 2), [.t 14]⟩, ⟨.t 16, none, (.ld none), [.t 15]⟩, ⟨.l 4, none, .mv, [.t 16]⟩])
 .ret))), [.tmp (.l 4)]⟩
/-- (*tarpaulin/world.World).wake -/
def b69 : Nat := 8035
def a69 : AFn := ⟨(.seq (.reg [⟨.l 10, none, .mv, [.l 1]⟩, ⟨.l 11, none, .lenSl, [.l 10]⟩, ⟨.l 12, none, .mv, [.c (.i .i64 0)]⟩])
 (.block 0 (.loop (.seq (.reg [⟨.t 13, none, (.bin .lss), [.l 12, .l 11]⟩])
 (.seq (.cond (.t 13) .skip (.exit 0))
 (.seq (.block 1 (.seq (.reg [⟨.t 14, none, (.iad 5), [.l 10, .l 12]⟩, ⟨.t 15, none, (.ld (some 5)), [.t 14]⟩, ⟨.l 5, none, (.alloc [(.i .i64 0), (.i .i64 0), (.i .i64 0), (.b false), (.b false)]), []⟩, ⟨.no, none, (.st 5), [.l 5, .t 15]⟩])
 (.seq (.reg [⟨.t 17, none, .mv, [.l 0]⟩, ⟨.t 18, none, .nilchk, [.t 17]⟩, ⟨.t 19, none, (.fad 2), [.t 18]⟩, ⟨.t 20, none, (.ld none), [.t 19]⟩, ⟨.t 21, none, (.fad 0), [.l 5]⟩, ⟨.t 22, none, (.ld none), [.t 21]⟩, ⟨.t 23, none, (.call 38), [.t 20, .t 22]⟩, ⟨.t 16, none, .mv, [.t 23]⟩, ⟨.t 24, none, (.ext 0), [.t 16]⟩, ⟨.t 25, none, (.ext 1), [.t 16]⟩, ⟨.l 6, none, (.alloc [(.i .i64 0), (.i .i64 0), (.i .i64 0), (.i .i64 0), (.i .i64 0), (.i .i64 0), (.i .i64 0), (.i .i64 0), (.i .i64 0), (.i .i64 0), (.i .i64 0), (.i .i64 0), (.i .i64 0), (.i .i64 0), (.i .i64 0), (.i .i64 0), (.sl none 0 0 0), (.b false)]), []⟩, ⟨.no, none, (.st 18), [.l 6, .t 24]⟩, ⟨.t 7, none, .mv, [.t 25]⟩])
 (.seq (.seq (.reg [⟨.t 26, none, (.fad 2), [.l 6]⟩, ⟨.t 27, none, (.ld none), [.t 26]⟩, ⟨.t 28, none, (.bin .neq), [.t 27, .c (.i .i64 1)]⟩])
 (.cond (.t 28) (.exit 1) .skip))
 (.seq (.reg [⟨.t 29, none, .mv, [.l 0]⟩, ⟨.t 30, none, (.ld (some 18)), [.l 6]⟩, ⟨.t 31, none, (.ld (some 5)), [.l 5]⟩, ⟨.t 32, none, (.call 111), [.t 29, .t 30, .t 31]⟩])
 (.seq (.seq (.reg [⟨.t 34, none, .mv, [.l 0]⟩, ⟨.t 35, none, (.fad 12), [.l 6]⟩, ⟨.t 36, none, (.ld (some 6)), [.t 35]⟩, ⟨.t 37, none, (.fad 4), [.l 6]⟩, ⟨.t 38, none, (.ld (some 8)), [.t 37]⟩, ⟨.t 39, none, (.call 112), [.t 34, .t 36, .t 38]⟩, ⟨.t 33, none, .mv, [.t 39]⟩, ⟨.t 40, none, (.ext 0), [.t 33]⟩, ⟨.t 41, none, (.ext 1), [.t 33]⟩, ⟨.l 8, none, .mv, [.t 40]⟩, ⟨.l 9, none, .mv, [.t 41]⟩])
 (.seq (.reg [⟨.t 42, none, .mv, [.l 9]⟩])
 (.cond (.t 42) (.reg [⟨.t 43, none, .mv, [.l 8]⟩, ⟨.t 44, none, (.fad 0), [.l 5]⟩, ⟨.t 45, none, (.ld none), [.t 44]⟩, ⟨.t 46, none, (.call 113), [.t 43, .t 45]⟩]) .skip)))
 (.seq (.reg [⟨.t 47, none, .mv, [.l 0]⟩, ⟨.t 48, none, .nilchk, [.t 47]⟩, ⟨.t 49, none, (.fad 2), [.t 48]⟩, ⟨.t 50, none, (.ld none), [.t 49]⟩, ⟨.t 51, none, (.ld (some 5)), [.l 5]⟩, ⟨.t 52, none, (.call 114), [.t 50, .t 51]⟩])
 (.seq (.seq (.reg [⟨.t 53, none, (.fad 4), [.l 5]⟩, ⟨.t 54, none, (.ld none), [.t 53]⟩])
 (.cond (.t 54) (.seq (.reg [⟨.t 55, none, .mv, [.l 0]⟩, ⟨.t 56, none, (.fad 0), [.l 5]⟩, ⟨.t 57, none, (.ld none), [.t 56]⟩, ⟨.t 58, none, (.call 17), [.t 55, .c (.i .i64 4), .t 57, .c (.i .i64 1), .c (.i .i64 0), .c (.i .i64 0)]⟩])
 (.exit 1)) .skip))
 (.regD [⟨.t 59, none, .mv, [.l 0]⟩, ⟨.t 60, none, (.fad 0), [.l 5]⟩, ⟨.t 61, none, (.ld none), [.t 60]⟩, ⟨.t 62, none, (.fad 1), [.l 5]⟩, ⟨.t 63, none, (.ld none), [.t 62]⟩, ⟨.t 64, none, (.fad 2), [.l 5]⟩, ⟨.t 65, none, (.ld none), [.t 64]⟩, ⟨.t 66, none, (.fad 3), [.l 5]⟩, ⟨.t 67, none, (.ld none), [.t 66]⟩, ⟨.t 68, none, (.call 115), [.t 67]⟩, ⟨.t 69, none, (.call 17), [.t 59, .c (.i .i64 3), .t 61, .t 63, .t 65, .t 68]⟩] [(2, 10), (4, 10), (6, 10)])))))))))
 (.reg [⟨.t 70, none, (.bin .add), [.l 12, .c (.i .i64 1)]⟩, ⟨.l 12, none, .mv, [.t 70]⟩]))))))), []⟩
/-- (*tarpaulin/ready.List).All -/
def b70 : Nat := 5
def a70 : AFn := ⟨(.seq (.reg [⟨.l 2, none, .mv, [.c (.sl none 0 0 0)]⟩])
 (.seq (.seq (.reg [⟨.t 3, none, .mv, [.l 0]⟩, ⟨.t 4, none, (.eq false .ptr), [.t 3, .c (.p none)]⟩])
 (.cond (.t 4) (.seq (.reg [⟨.l 2, none, .mv, [.c (.sl none 0 0 0)]⟩])
 .ret) .skip))
 (.seq (.reg [⟨.t 5, none, .mv, [.l 0]⟩, ⟨.t 6, none, .nilchk, [.t 5]⟩, ⟨.t 7, none, (.fad 0), [.t 6]⟩, ⟨.t 8, none, (.ld none), [.t 7]⟩, ⟨.t 9, none, (.call 31), [.t 8]⟩, ⟨.l 2, none, .mv, [.t 9]⟩])
 .ret))), [.tmp (.l 2)]⟩
/-- (*tarpaulin/ready.List).Pick -/
def b71 : Nat := 51
def a71 : AFn := ⟨(.seq (.reg [⟨.l 4, none, .mv, [.c (.i .i64 0)]⟩, ⟨.l 5, none, .mv, [.c (.b false)]⟩])
 (.seq (.seq (.reg [⟨.t 6, none, .mv, [.l 0]⟩, ⟨.t 7, none, (.call 116), [.t 6]⟩, ⟨.t 8, none, (.bin .eql), [.t 7, .c (.i .i64 0)]⟩])
 (.cond (.t 8) (.seq (.reg [⟨.l 4, none, .mv, [.c (.i .i64 0)]⟩, ⟨.l 5, none, .mv, [.c (.b false)]⟩])
 .ret) .skip))
 (.seq (.regD [⟨.t 9, none, .mv, [.l 0]⟩, ⟨.t 10, none, .nilchk, [.t 9]⟩, ⟨.t 11, none, (.fad 0), [.t 10]⟩, ⟨.t 12, none, (.ld none), [.t 11]⟩, ⟨.t 13, none, .mv, [.l 1]⟩, ⟨.t 14, none, .mv, [.l 0]⟩, ⟨.t 15, none, .nilchk, [.t 14]⟩, ⟨.t 16, none, (.fad 0), [.t 15]⟩, ⟨.t 17, none, (.ld none), [.t 16]⟩, ⟨.t 18, none, .lenSl, [.t 17]⟩, ⟨.t 19, none, (.call 117), [.t 13, .t 18]⟩, ⟨.t 20, none, (.iad 1), [.t 12, .t 19]⟩, ⟨.t 21, none, (.ld none), [.t 20]⟩, ⟨.l 4, none, .mv, [.t 21]⟩, ⟨.l 5, none, .mv, [.c (.b true)]⟩] [(3, 11)])
 .ret))), [.tmp (.l 4), .tmp (.l 5)]⟩
/-- (*tarpaulin/arena.Arena[tarpaulin/task.Task]).Get -/
def b72 : Nat := 115
def a72 : AFn := ⟨(.seq (.reg [⟨.l 4, none, (.alloc [(.i .i64 0), (.i .i64 0), (.i .i64 0), (.i .i64 0), (.i .i64 0), (.i .i64 0), (.i .i64 0), (.i .i64 0), (.i .i64 0), (.i .i64 0), (.i .i64 0), (.i .i64 0), (.i .i64 0), (.i .i64 0), (.i .i64 0), (.i .i64 0), (.sl none 0 0 0), (.b false)]), []⟩, ⟨.l 5, none, .mv, [.c (.b false)]⟩])
 (.seq (.seq (.reg [⟨.t 7, none, .mv, [.l 1]⟩, ⟨.t 8, none, (.bin .lss), [.t 7, .c (.i .i64 0)]⟩, ⟨.t 9, none, .mv, [.t 8]⟩, ⟨.t 10, (some (.t 9, false)), .mv, [.l 1]⟩, ⟨.t 11, (some (.t 9, false)), .mv, [.l 0]⟩, ⟨.t 12, (some (.t 9, false)), (.call 45), [.t 11]⟩, ⟨.t 13, (some (.t 9, false)), (.bin .geq), [.t 10, .t 12]⟩, ⟨.t 14, none, .pick, [.t 9, .c (.b true), .t 13]⟩])
 (.cond (.t 14) (.seq (.reg [⟨.l 6, none, (.alloc [(.i .i64 0), (.i .i64 0), (.i .i64 0), (.i .i64 0), (.i .i64 0), (.i .i64 0), (.i .i64 0), (.i .i64 0), (.i .i64 0), (.i .i64 0), (.i .i64 0), (.i .i64 0), (.i .i64 0), (.i .i64 0), (.i .i64 0), (.i .i64 0), (.sl none 0 0 0), (.b false)]), []⟩])
 (.seq (.reg [⟨.t 15, none, (.ld (some 18)), [.l 6]⟩, ⟨.no, none, (.st 18), [.l 4, .t 15]⟩, ⟨.l 5, none, .mv, [.c (.b false)]⟩])
 .ret)) .skip))
 (.seq (.reg [⟨.t 16, none, .mv, [.l 0]⟩, ⟨.t 17, none, .nilchk, [.t 16]⟩, ⟨.t 18, none, (.fad 0), [.t 17]⟩, ⟨.t 19, none, (.ld none), [.t 18]⟩, ⟨.t 20, none, .mv, [.l 1]⟩, ⟨.t 21, none, (.iad 18), [.t 19, .t 20]⟩, ⟨.t 22, none, (.ld (some 18)), [.t 21]⟩, ⟨.no, none, (.st 18), [.l 4, .t 22]⟩, ⟨.l 5, none, .mv, [.c (.b true)]⟩])
 .ret))), [.cell (.l 4) (some 18), .tmp (.l 5)]⟩
/-- tarpaulin/local.Mine -/
def b73 : Nat := 5
def a73 : AFn := ⟨(.seq (.reg [⟨.l 2, none, .mv, [.c (.b false)]⟩])
 (.seq (.reg [⟨.t 3, none, .mv, [.l 0]⟩, ⟨.t 4, none, (.bin .geq), [.t 3, .c (.i .i64 1)]⟩, ⟨.t 5, none, .mv, [.t 4]⟩, ⟨.t 6, (some (.t 5, true)), .mv, [.l 0]⟩, ⟨.t 7, (some (.t 5, true)), (.bin .leq), [.t 6, .c (.i .i64 7)]⟩, ⟨.t 8, none, .pick, [.t 5, .t 7, .c (.b false)]⟩, ⟨.t 9, none, .mv, [.t 8]⟩, ⟨.t 10, (some (.t 9, false)), .mv, [.l 0]⟩, ⟨.t 11, (some (.t 9, false)), (.bin .eql), [.t 10, .c (.i .i64 16)]⟩, ⟨.t 12, none, .pick, [.t 9, .c (.b true), .t 11]⟩, ⟨.l 2, none, .mv, [.t 12]⟩])
 .ret)), [.tmp (.l 2)]⟩
/-- (*tarpaulin/world.act).spawn -/
def b74 : Nat := 13
def a74 : AFn := ⟨(.seq (.reg [⟨.t 5, none, .mv, [.l 0]⟩, ⟨.t 6, none, .nilchk, [.t 5]⟩, ⟨.t 7, none, (.fad 0), [.t 6]⟩, ⟨.t 8, none, (.ld none), [.t 7]⟩, ⟨.t 9, none, .mv, [.l 0]⟩, ⟨.t 10, none, .nilchk, [.t 9]⟩, ⟨.t 11, none, (.fad 2), [.t 10]⟩, ⟨.t 12, none, (.fad 2), [.t 11]⟩, ⟨.t 13, none, (.ld none), [.t 12]⟩, ⟨.t 14, none, .mv, [.l 0]⟩, ⟨.t 15, none, .nilchk, [.t 14]⟩, ⟨.t 16, none, (.fad 8), [.t 15]⟩, ⟨.t 17, none, (.ld (some 8)), [.t 16]⟩, ⟨.t 18, none, (.call 65), [.t 8, .t 13, .t 17]⟩, ⟨.t 4, none, .mv, [.t 18]⟩, ⟨.t 19, none, (.ext 0), [.t 4]⟩, ⟨.t 20, none, (.ext 1), [.t 4]⟩, ⟨.l 2, none, .mv, [.t 19]⟩, ⟨.l 3, none, .mv, [.t 20]⟩])
 (.seq (.reg [⟨.t 21, none, .mv, [.l 0]⟩, ⟨.t 22, none, .mv, [.l 3]⟩, ⟨.t 23, none, (.call 84), [.t 21, .t 22]⟩, ⟨.t 24, none, (.un .not), [.t 23]⟩])
 (.cond (.t 24) (.reg [⟨.t 25, none, .mv, [.l 0]⟩, ⟨.t 26, none, .mv, [.l 0]⟩, ⟨.t 27, none, .nilchk, [.t 26]⟩, ⟨.t 28, none, (.fad 2), [.t 27]⟩, ⟨.t 29, none, (.fad 1), [.t 28]⟩, ⟨.t 30, none, (.ld none), [.t 29]⟩, ⟨.t 31, none, .mv, [.l 2]⟩, ⟨.t 32, none, .nilchk, [.t 25]⟩, ⟨.t 33, none, (.fad 16), [.t 32]⟩, ⟨.t 34, none, (.iadA 8 1), [.t 33, .t 30]⟩, ⟨.no, none, (.st 1), [.t 34, .t 31]⟩]) .skip))), []⟩
/-- (*tarpaulin/world.act).create -/
def b75 : Nat := 13
def a75 : AFn := ⟨(.seq (.reg [⟨.t 5, none, .mv, [.l 0]⟩, ⟨.t 6, none, .nilchk, [.t 5]⟩, ⟨.t 7, none, (.fad 2), [.t 6]⟩, ⟨.t 8, none, (.fad 2), [.t 7]⟩, ⟨.t 9, none, (.ld none), [.t 8]⟩, ⟨.t 10, none, (.call 118), [.t 9]⟩, ⟨.t 4, none, .mv, [.t 10]⟩, ⟨.t 11, none, (.ext 0), [.t 4]⟩, ⟨.t 12, none, (.ext 1), [.t 4]⟩, ⟨.l 2, none, .mv, [.t 11]⟩, ⟨.l 3, none, .mv, [.t 12]⟩])
 (.block 0 (.seq (.reg [⟨.t 39, none, .mv, [.l 3]⟩, ⟨.t 40, none, (.bin .neq), [.t 39, .c (.i .i64 0)]⟩, ⟨.t 38, none, .mv, [.t 40]⟩])
 (.cond (.t 38) (.reg [⟨.t 41, none, .mv, [.l 0]⟩, ⟨.t 42, none, .nilchk, [.t 41]⟩, ⟨.t 43, none, (.fad 25), [.t 42]⟩, ⟨.no, none, (.st 1), [.t 43, .c (.i .i64 4)]⟩]) (.seq (.reg [⟨.t 45, none, .mv, [.l 0]⟩, ⟨.t 46, none, .nilchk, [.t 45]⟩, ⟨.t 47, none, (.fad 0), [.t 46]⟩, ⟨.t 48, none, (.ld none), [.t 47]⟩, ⟨.t 49, none, .nilchk, [.t 48]⟩, ⟨.t 50, none, (.fad 4), [.t 49]⟩, ⟨.t 51, none, (.ld none), [.t 50]⟩, ⟨.t 52, none, (.bin .geq), [.t 51, .c (.i .i64 64)]⟩, ⟨.t 44, none, .mv, [.t 52]⟩])
 (.cond (.t 44) (.reg [⟨.t 53, none, .mv, [.l 0]⟩, ⟨.t 54, none, .nilchk, [.t 53]⟩, ⟨.t 55, none, (.fad 25), [.t 54]⟩, ⟨.no, none, (.st 1), [.t 55, .c (.i .i64 7)]⟩]) (.seq (.reg [⟨.t 13, none, .mv, [.l 0]⟩, ⟨.t 14, none, .nilchk, [.t 13]⟩, ⟨.t 15, none, (.fad 0), [.t 14]⟩, ⟨.t 16, none, (.ld none), [.t 15]⟩, ⟨.t 17, none, .nilchk, [.t 16]⟩, ⟨.t 18, none, (.fad 4), [.t 17]⟩, ⟨.t 19, none, (.ld none), [.t 18]⟩, ⟨.t 20, none, (.bin .add), [.t 19, .c (.i .i64 1)]⟩, ⟨.t 21, none, .nilchk, [.t 16]⟩, ⟨.t 22, none, (.fad 4), [.t 21]⟩, ⟨.no, none, (.st 1), [.t 22, .t 20]⟩])
 (.regD [⟨.t 23, none, .mv, [.l 0]⟩, ⟨.t 24, none, .mv, [.l 0]⟩, ⟨.t 25, none, .nilchk, [.t 24]⟩, ⟨.t 26, none, (.fad 2), [.t 25]⟩, ⟨.t 27, none, (.fad 1), [.t 26]⟩, ⟨.t 28, none, (.ld none), [.t 27]⟩, ⟨.t 29, none, .mv, [.l 0]⟩, ⟨.t 30, none, .nilchk, [.t 29]⟩, ⟨.t 31, none, (.fad 0), [.t 30]⟩, ⟨.t 32, none, (.ld none), [.t 31]⟩, ⟨.t 33, none, .mv, [.l 2]⟩, ⟨.t 34, none, (.call 119), [.t 32, .t 33]⟩, ⟨.t 35, none, .nilchk, [.t 23]⟩, ⟨.t 36, none, (.fad 16), [.t 35]⟩, ⟨.t 37, none, (.iadA 8 1), [.t 36, .t 28]⟩, ⟨.no, none, (.st 1), [.t 37, .t 34]⟩] [(5, 12)])))))))), []⟩
/-- (*tarpaulin/world.act).channel -/
def b76 : Nat := 8388621
def a76 : AFn := ⟨(.seq (.regD [⟨.t 5, none, .mv, [.l 0]⟩, ⟨.t 6, none, .nilchk, [.t 5]⟩, ⟨.t 7, none, (.fad 0), [.t 6]⟩, ⟨.t 8, none, (.ld none), [.t 7]⟩, ⟨.t 9, none, .mv, [.l 0]⟩, ⟨.t 10, none, (.call 82), [.t 9]⟩, ⟨.t 11, none, (.call 120), [.t 8, .t 10]⟩, ⟨.t 4, none, .mv, [.t 11]⟩, ⟨.t 12, none, (.ext 0), [.t 4]⟩, ⟨.t 13, none, (.ext 1), [.t 4]⟩, ⟨.l 2, none, .mv, [.t 12]⟩, ⟨.l 3, none, .mv, [.t 13]⟩] [(3, 6)])
 (.seq (.seq (.reg [⟨.t 14, none, .mv, [.l 3]⟩, ⟨.t 15, none, (.un .not), [.t 14]⟩])
 (.cond (.t 15) (.seq (.reg [⟨.t 16, none, .mv, [.l 0]⟩, ⟨.t 17, none, .nilchk, [.t 16]⟩, ⟨.t 18, none, (.fad 25), [.t 17]⟩, ⟨.no, none, (.st 1), [.t 18, .c (.i .i64 5)]⟩])
 .ret) .skip))
 (.seq (.reg [⟨.t 19, none, .mv, [.l 0]⟩, ⟨.t 20, none, .nilchk, [.t 19]⟩, ⟨.t 21, none, (.fad 2), [.t 20]⟩, ⟨.t 22, none, (.fad 0), [.t 21]⟩, ⟨.l 23, none, (.ld none), [.t 22]⟩])
 (.block 0 (.seq (.reg [⟨.t 36, none, (.bin .eql), [.l 23, .c (.i .i64 10)]⟩, ⟨.t 35, none, .mv, [.t 36]⟩])
 (.cond (.t 35) (.reg [⟨.t 37, none, .mv, [.l 0]⟩, ⟨.t 38, none, .mv, [.l 2]⟩, ⟨.t 39, none, (.call 121), [.t 37, .t 38]⟩]) (.seq (.reg [⟨.t 41, none, (.bin .eql), [.l 23, .c (.i .i64 11)]⟩, ⟨.t 40, none, .mv, [.t 41]⟩])
 (.cond (.t 40) (.reg [⟨.t 42, none, .mv, [.l 0]⟩, ⟨.t 43, none, .mv, [.l 2]⟩, ⟨.t 44, none, (.call 122), [.t 42, .t 43]⟩]) (.seq (.reg [⟨.t 46, none, (.bin .eql), [.l 23, .c (.i .i64 12)]⟩, ⟨.t 45, none, .mv, [.t 46]⟩])
 (.cond (.t 45) (.reg [⟨.t 47, none, .mv, [.l 0]⟩, ⟨.t 48, none, .mv, [.l 2]⟩, ⟨.t 49, none, (.call 123), [.t 47, .t 48]⟩]) (.seq (.reg [⟨.t 51, none, (.bin .eql), [.l 23, .c (.i .i64 13)]⟩, ⟨.t 50, none, .mv, [.t 51]⟩])
 (.cond (.t 50) (.regD [⟨.t 52, none, .mv, [.l 0]⟩, ⟨.t 53, none, .mv, [.l 0]⟩, ⟨.t 54, none, .nilchk, [.t 53]⟩, ⟨.t 55, none, (.fad 2), [.t 54]⟩, ⟨.t 56, none, (.fad 2), [.t 55]⟩, ⟨.t 57, none, (.ld none), [.t 56]⟩, ⟨.t 58, none, .mv, [.l 2]⟩, ⟨.t 59, none, (.call 124), [.t 58]⟩, ⟨.t 60, none, .nilchk, [.t 52]⟩, ⟨.t 61, none, (.fad 16), [.t 60]⟩, ⟨.t 62, none, (.iadA 8 1), [.t 61, .t 57]⟩, ⟨.no, none, (.st 1), [.t 62, .t 59]⟩] [(5, 8)]) (.regD [⟨.t 24, none, .mv, [.l 0]⟩, ⟨.t 25, none, .mv, [.l 0]⟩, ⟨.t 26, none, .nilchk, [.t 25]⟩, ⟨.t 27, none, (.fad 2), [.t 26]⟩, ⟨.t 28, none, (.fad 2), [.t 27]⟩, ⟨.t 29, none, (.ld none), [.t 28]⟩, ⟨.t 30, none, .mv, [.l 2]⟩, ⟨.t 31, none, (.call 125), [.t 30]⟩, ⟨.t 32, none, .nilchk, [.t 24]⟩, ⟨.t 33, none, (.fad 16), [.t 32]⟩, ⟨.t 34, none, (.iadA 8 1), [.t 33, .t 29]⟩, ⟨.no, none, (.st 1), [.t 34, .t 31]⟩] [(5, 8)]))))))))))))), []⟩
/-- (*tarpaulin/world.act).choose -/
def b77 : Nat := 61
def a77 : AFn := ⟨(.seq (.reg [⟨.t 8, none, .mv, [.l 0]⟩, ⟨.t 9, none, .nilchk, [.t 8]⟩, ⟨.t 10, none, (.fad 0), [.t 9]⟩, ⟨.t 11, none, (.ld none), [.t 10]⟩, ⟨.t 12, none, .mv, [.l 0]⟩, ⟨.t 13, none, .nilchk, [.t 12]⟩, ⟨.t 14, none, (.fad 2), [.t 13]⟩, ⟨.t 15, none, (.ld (some 6)), [.t 14]⟩, ⟨.t 16, none, .mv, [.l 0]⟩, ⟨.t 17, none, .nilchk, [.t 16]⟩, ⟨.t 18, none, (.fad 8), [.t 17]⟩, ⟨.t 19, none, (.ld (some 8)), [.t 18]⟩, ⟨.t 20, none, (.call 112), [.t 11, .t 15, .t 19]⟩, ⟨.t 7, none, .mv, [.t 20]⟩, ⟨.t 21, none, (.ext 0), [.t 7]⟩, ⟨.t 22, none, (.ext 1), [.t 7]⟩, ⟨.l 2, none, .mv, [.t 21]⟩, ⟨.l 3, none, .mv, [.t 22]⟩])
 (.seq (.seq (.reg [⟨.t 23, none, .mv, [.l 3]⟩, ⟨.t 24, none, (.un .not), [.t 23]⟩])
 (.cond (.t 24) (.seq (.reg [⟨.t 25, none, .mv, [.l 0]⟩, ⟨.t 26, none, .nilchk, [.t 25]⟩, ⟨.t 27, none, (.fad 25), [.t 26]⟩, ⟨.no, none, (.st 1), [.t 27, .c (.i .i64 5)]⟩])
 .ret) .skip))
 (.seq (.reg [⟨.t 29, none, .mv, [.l 2]⟩, ⟨.t 30, none, .mv, [.l 0]⟩, ⟨.t 31, none, .nilchk, [.t 30]⟩, ⟨.t 32, none, (.fad 2), [.t 31]⟩, ⟨.t 33, none, (.fad 5), [.t 32]⟩, ⟨.t 34, none, (.ld none), [.t 33]⟩, ⟨.t 35, none, .mv, [.l 0]⟩, ⟨.t 36, none, .nilchk, [.t 35]⟩, ⟨.t 37, none, (.fad 24), [.t 36]⟩, ⟨.t 38, none, (.ld none), [.t 37]⟩, ⟨.t 39, none, .mv, [.l 0]⟩, ⟨.t 40, none, .nilchk, [.t 39]⟩, ⟨.t 41, none, (.fad 1), [.t 40]⟩, ⟨.t 42, none, (.ld none), [.t 41]⟩, ⟨.t 43, none, (.call 126), [.t 29, .t 34, .t 38, .t 42]⟩, ⟨.t 28, none, .mv, [.t 43]⟩, ⟨.t 44, none, (.ext 0), [.t 28]⟩, ⟨.t 45, none, (.ext 1), [.t 28]⟩, ⟨.t 46, none, (.ext 2), [.t 28]⟩, ⟨.l 4, none, (.alloc [(.i .i64 0), (.i .i64 0), (.b false), (.b false), (.b false), (.b false)]), []⟩, ⟨.no, none, (.st 6), [.l 4, .t 44]⟩, ⟨.l 5, none, .mv, [.t 45]⟩, ⟨.t 6, none, .mv, [.t 46]⟩])
 (.seq (.block 0 (.seq (.reg [⟨.t 48, none, (.fad 5), [.l 4]⟩, ⟨.t 49, none, (.ld none), [.t 48]⟩, ⟨.t 47, none, .mv, [.t 49]⟩])
 (.cond (.t 47) (.seq (.reg [⟨.t 50, none, .mv, [.l 0]⟩, ⟨.t 51, none, .nilchk, [.t 50]⟩, ⟨.t 52, none, (.fad 25), [.t 51]⟩, ⟨.no, none, (.st 1), [.t 52, .c (.i .i64 8)]⟩])
 .ret) (.seq (.reg [⟨.t 54, none, (.fad 3), [.l 4]⟩, ⟨.t 55, none, (.ld none), [.t 54]⟩, ⟨.t 53, none, .mv, [.t 55]⟩])
 (.cond (.t 53) (.seq (.reg [⟨.t 56, none, .mv, [.l 0]⟩, ⟨.t 57, none, .nilchk, [.t 56]⟩, ⟨.t 58, none, (.fad 25), [.t 57]⟩, ⟨.no, none, (.st 1), [.t 58, .c (.i .i64 1)]⟩])
 .ret) (.seq (.reg [⟨.t 60, none, (.fad 4), [.l 4]⟩, ⟨.t 61, none, (.ld none), [.t 60]⟩, ⟨.t 59, none, .mv, [.t 61]⟩])
 (.cond (.t 59) (.seq (.reg [⟨.t 62, none, .mv, [.l 0]⟩, ⟨.t 63, none, .nilchk, [.t 62]⟩, ⟨.t 64, none, (.fad 26), [.t 63]⟩, ⟨.no, none, (.st 1), [.t 64, .c (.b true)]⟩])
 .ret) .skip)))))))
 (.seq (.reg [⟨.t 65, none, .mv, [.l 0]⟩, ⟨.t 66, none, .mv, [.l 0]⟩, ⟨.t 67, none, .nilchk, [.t 66]⟩, ⟨.t 68, none, (.fad 2), [.t 67]⟩, ⟨.t 69, none, (.fad 1), [.t 68]⟩, ⟨.t 70, none, (.ld none), [.t 69]⟩, ⟨.t 71, none, (.fad 0), [.l 4]⟩, ⟨.t 72, none, (.ld none), [.t 71]⟩, ⟨.t 73, none, .nilchk, [.t 65]⟩, ⟨.t 74, none, (.fad 16), [.t 73]⟩, ⟨.t 75, none, (.iadA 8 1), [.t 74, .t 70]⟩, ⟨.no, none, (.st 1), [.t 75, .t 72]⟩])
 (.block 1 (.seq (.reg [⟨.t 90, none, (.fad 0), [.l 4]⟩, ⟨.t 91, none, (.ld none), [.t 90]⟩, ⟨.t 92, none, (.bin .lss), [.t 91, .c (.i .i64 0)]⟩, ⟨.t 89, none, .mv, [.t 92]⟩])
 (.cond (.t 89) .skip (.seq (.reg [⟨.t 94, none, .mv, [.l 2]⟩, ⟨.t 95, none, (.fad 0), [.l 4]⟩, ⟨.t 96, none, (.ld none), [.t 95]⟩, ⟨.t 97, none, (.iad 3), [.t 94, .t 96]⟩, ⟨.t 98, none, (.fad 1), [.t 97]⟩, ⟨.t 99, none, (.ld none), [.t 98]⟩, ⟨.t 93, none, .mv, [.t 99]⟩])
 (.cond (.t 93) (.seq (.regD [⟨.t 100, none, .mv, [.l 0]⟩, ⟨.t 101, none, .nilchk, [.t 100]⟩, ⟨.t 102, none, (.fad 0), [.t 101]⟩, ⟨.t 103, none, (.ld none), [.t 102]⟩, ⟨.t 104, none, .mv, [.l 0]⟩, ⟨.t 105, none, .nilchk, [.t 104]⟩, ⟨.t 106, none, (.fad 0), [.t 105]⟩, ⟨.t 107, none, (.ld none), [.t 106]⟩, ⟨.t 108, none, .mv, [.l 2]⟩, ⟨.t 109, none, (.fad 0), [.l 4]⟩, ⟨.t 110, none, (.ld none), [.t 109]⟩, ⟨.t 111, none, (.iad 3), [.t 108, .t 110]⟩, ⟨.t 112, none, (.fad 0), [.t 111]⟩, ⟨.t 113, none, (.ld none), [.t 112]⟩, ⟨.t 114, none, (.call 67), [.t 107, .t 113]⟩, ⟨.t 115, none, .mv, [.l 0]⟩, ⟨.t 116, none, .nilchk, [.t 115]⟩, ⟨.t 117, none, (.fad 1), [.t 116]⟩, ⟨.t 118, none, (.ld none), [.t 117]⟩, ⟨.t 119, none, .mv, [.l 2]⟩, ⟨.t 120, none, (.fad 0), [.l 4]⟩, ⟨.t 121, none, (.ld none), [.t 120]⟩, ⟨.t 122, none, (.iad 3), [.t 119, .t 121]⟩, ⟨.t 123, none, (.fad 2), [.t 122]⟩, ⟨.t 124, none, (.ld none), [.t 123]⟩, ⟨.t 125, none, (.call 66), [.t 103, .t 114, .t 118, .t 124, .c (.b false)]⟩] [(3, 15), (18, 0), (21, 0), (24, 0)])
 (.reg [⟨.t 126, none, .mv, [.l 0]⟩, ⟨.t 127, none, .nilchk, [.t 126]⟩, ⟨.t 128, none, (.fad 0), [.t 127]⟩, ⟨.t 129, none, (.ld none), [.t 128]⟩, ⟨.t 130, none, .mv, [.l 5]⟩, ⟨.t 131, none, (.call 69), [.t 129, .t 130]⟩])) (.reg [⟨.t 76, none, .mv, [.l 0]⟩, ⟨.t 77, none, .mv, [.l 2]⟩, ⟨.t 78, none, (.fad 0), [.l 4]⟩, ⟨.t 79, none, (.ld none), [.t 78]⟩, ⟨.t 80, none, (.iad 3), [.t 77, .t 79]⟩, ⟨.t 81, none, (.fad 0), [.t 80]⟩, ⟨.t 82, none, (.ld none), [.t 81]⟩, ⟨.t 83, none, (.fad 1), [.l 4]⟩, ⟨.t 84, none, (.ld none), [.t 83]⟩, ⟨.t 85, none, (.fad 2), [.l 4]⟩, ⟨.t 86, none, (.ld none), [.t 85]⟩, ⟨.t 87, none, .mv, [.l 5]⟩, ⟨.t 88, none, (.call 127), [.t 76, .t 82, .t 84, .t 86, .t 87]⟩]))))))))))), []⟩
/-- (*tarpaulin/world.act).timer -/
def b78 : Nat := 576460752311812221
def a78 : AFn := ⟨(.seq (.reg [⟨.l 2, none, .mv, [.c (.i .i64 0)]⟩])
 (.seq (.reg [⟨.l 3, none, .mv, [.c (.p none)]⟩])
 (.seq (.reg [⟨.l 4, none, .mv, [.c (.i .i64 0)]⟩])
 (.seq (.regD [⟨.t 7, none, .mv, [.l 0]⟩, ⟨.t 8, none, .nilchk, [.t 7]⟩, ⟨.t 9, none, (.fad 0), [.t 8]⟩, ⟨.t 10, none, (.ld none), [.t 9]⟩, ⟨.t 11, none, .nilchk, [.t 10]⟩, ⟨.t 12, none, (.fad 5), [.t 11]⟩, ⟨.t 13, none, (.ld none), [.t 12]⟩, ⟨.t 14, none, .mv, [.l 0]⟩, ⟨.t 15, none, .nilchk, [.t 14]⟩, ⟨.t 16, none, (.fad 0), [.t 15]⟩, ⟨.t 17, none, (.ld none), [.t 16]⟩, ⟨.t 18, none, (.call 15), [.t 17]⟩, ⟨.l 5, none, .mv, [.t 13]⟩, ⟨.l 6, none, .mv, [.t 18]⟩] [(3, 12), (6, 12)])
 (.seq (.seq (.reg [⟨.t 19, none, .mv, [.l 0]⟩, ⟨.t 20, none, .nilchk, [.t 19]⟩, ⟨.t 21, none, (.fad 2), [.t 20]⟩, ⟨.t 22, none, (.fad 0), [.t 21]⟩, ⟨.l 23, none, (.ld none), [.t 22]⟩])
 (.block 0 (.seq (.reg [⟨.t 38, none, (.bin .eql), [.l 23, .c (.i .i64 17)]⟩, ⟨.t 37, none, .mv, [.t 38]⟩])
 (.cond (.t 37) (.reg [⟨.t 40, none, .mv, [.l 5]⟩, ⟨.t 41, none, .mv, [.l 6]⟩, ⟨.t 42, none, .mv, [.l 0]⟩, ⟨.t 43, none, (.call 83), [.t 42]⟩, ⟨.t 44, none, (.call 128), [.t 40, .t 41, .t 43]⟩, ⟨.t 39, none, .mv, [.t 44]⟩, ⟨.t 45, none, (.ext 0), [.t 39]⟩, ⟨.t 46, none, (.ext 1), [.t 39]⟩, ⟨.t 47, none, (.ext 2), [.t 39]⟩, ⟨.l 2, none, .mv, [.t 45]⟩, ⟨.l 3, none, .mv, [.t 46]⟩, ⟨.l 4, none, .mv, [.t 47]⟩]) (.seq (.reg [⟨.t 49, none, (.bin .eql), [.l 23, .c (.i .i64 18)]⟩, ⟨.t 48, none, .mv, [.t 49]⟩])
 (.cond (.t 48) (.reg [⟨.t 51, none, .mv, [.l 5]⟩, ⟨.t 52, none, .mv, [.l 6]⟩, ⟨.t 53, none, .mv, [.l 0]⟩, ⟨.t 54, none, (.call 83), [.t 53]⟩, ⟨.t 55, none, (.call 129), [.t 51, .t 52, .t 54]⟩, ⟨.t 50, none, .mv, [.t 55]⟩, ⟨.t 56, none, (.ext 0), [.t 50]⟩, ⟨.t 57, none, (.ext 1), [.t 50]⟩, ⟨.t 58, none, (.ext 2), [.t 50]⟩, ⟨.l 2, none, .mv, [.t 56]⟩, ⟨.l 3, none, .mv, [.t 57]⟩, ⟨.l 4, none, .mv, [.t 58]⟩]) (.regD [⟨.t 25, none, .mv, [.l 5]⟩, ⟨.t 26, none, .mv, [.l 6]⟩, ⟨.t 27, none, .mv, [.l 0]⟩, ⟨.t 28, none, (.call 83), [.t 27]⟩, ⟨.t 29, none, .mv, [.l 0]⟩, ⟨.t 30, none, .nilchk, [.t 29]⟩, ⟨.t 31, none, (.fad 2), [.t 30]⟩, ⟨.t 32, none, (.fad 3), [.t 31]⟩, ⟨.t 33, none, (.ld none), [.t 32]⟩, ⟨.t 34, none, (.call 130), [.t 25, .t 26, .t 28, .t 33]⟩, ⟨.t 24, none, .mv, [.t 34]⟩, ⟨.t 35, none, (.ext 0), [.t 24]⟩, ⟨.t 36, none, (.ext 1), [.t 24]⟩, ⟨.l 2, none, .mv, [.t 35]⟩, ⟨.l 4, none, .mv, [.t 36]⟩] [(8, 0)])))))))
 (.seq (.reg [⟨.l 59, none, .mv, [.l 4]⟩])
 (.block 1 (.seq (.reg [⟨.t 88, none, (.bin .eql), [.l 59, .c (.i .i64 1)]⟩, ⟨.t 87, none, .mv, [.t 88]⟩])
 (.cond (.t 87) (.reg [⟨.t 89, none, .mv, [.l 0]⟩, ⟨.t 90, none, .nilchk, [.t 89]⟩, ⟨.t 91, none, (.fad 25), [.t 90]⟩, ⟨.no, none, (.st 1), [.t 91, .c (.i .i64 6)]⟩]) (.seq (.reg [⟨.t 93, none, (.bin .eql), [.l 59, .c (.i .i64 3)]⟩, ⟨.t 92, none, .mv, [.t 93]⟩])
 (.cond (.t 92) (.reg [⟨.t 94, none, .mv, [.l 0]⟩, ⟨.t 95, none, .nilchk, [.t 94]⟩, ⟨.t 96, none, (.fad 25), [.t 95]⟩, ⟨.no, none, (.st 1), [.t 96, .c (.i .i64 7)]⟩]) (.seq (.reg [⟨.t 60, none, .mv, [.l 0]⟩, ⟨.t 61, none, .mv, [.l 0]⟩, ⟨.t 62, none, .nilchk, [.t 61]⟩, ⟨.t 63, none, (.fad 2), [.t 62]⟩, ⟨.t 64, none, (.fad 1), [.t 63]⟩, ⟨.t 65, none, (.ld none), [.t 64]⟩, ⟨.t 66, none, .mv, [.l 2]⟩, ⟨.t 67, none, .nilchk, [.t 60]⟩, ⟨.t 68, none, (.fad 16), [.t 67]⟩, ⟨.t 69, none, (.iadA 8 1), [.t 68, .t 65]⟩, ⟨.no, none, (.st 1), [.t 69, .t 66]⟩])
 (.seq (.reg [⟨.t 70, none, .mv, [.l 3]⟩, ⟨.t 71, none, (.eq true .ptr), [.t 70, .c (.p none)]⟩])
 (.cond (.t 71) (.regD [⟨.t 72, none, .mv, [.l 0]⟩, ⟨.t 73, none, .mv, [.l 0]⟩, ⟨.t 74, none, .nilchk, [.t 73]⟩, ⟨.t 75, none, (.fad 2), [.t 74]⟩, ⟨.t 76, none, (.fad 3), [.t 75]⟩, ⟨.t 77, none, (.ld none), [.t 76]⟩, ⟨.t 78, none, .mv, [.l 0]⟩, ⟨.t 79, none, .nilchk, [.t 78]⟩, ⟨.t 80, none, (.fad 0), [.t 79]⟩, ⟨.t 81, none, (.ld none), [.t 80]⟩, ⟨.t 82, none, .mv, [.l 3]⟩, ⟨.t 83, none, (.call 119), [.t 81, .t 82]⟩, ⟨.t 84, none, .nilchk, [.t 72]⟩, ⟨.t 85, none, (.fad 16), [.t 84]⟩, ⟨.t 86, none, (.iadA 8 1), [.t 85, .t 77]⟩, ⟨.no, none, (.st 1), [.t 86, .t 83]⟩] [(5, 12)]) .skip)))))))))))))), []⟩
/-- (*tarpaulin/world.act).set -/
def b79 : Nat := 221
def a79 : AFn := ⟨(.seq (.reg [⟨.t 8, none, .mv, [.l 0]⟩, ⟨.t 9, none, .nilchk, [.t 8]⟩, ⟨.t 10, none, (.fad 0), [.t 9]⟩, ⟨.t 11, none, (.ld none), [.t 10]⟩, ⟨.t 12, none, .nilchk, [.t 11]⟩, ⟨.t 13, none, (.fad 5), [.t 12]⟩, ⟨.t 14, none, (.ld none), [.t 13]⟩, ⟨.l 2, none, .mv, [.t 14]⟩])
 (.seq (.reg [⟨.t 15, none, .mv, [.l 2]⟩, ⟨.t 16, none, .mv, [.l 0]⟩, ⟨.t 17, none, (.call 82), [.t 16]⟩, ⟨.t 18, none, (.call 131), [.t 15, .t 17]⟩, ⟨.l 3, none, .mv, [.t 18]⟩])
 (.block 0 (.seq (.reg [⟨.t 50, none, .mv, [.l 3]⟩, ⟨.t 51, none, (.bin .eql), [.t 50, .c (.i .i64 0)]⟩, ⟨.t 52, none, .mv, [.t 51]⟩, ⟨.t 53, (some (.t 52, false)), .mv, [.l 3]⟩, ⟨.t 54, (some (.t 52, false)), (.bin .eql), [.t 53, .c (.i .i64 4)]⟩, ⟨.t 55, none, .pick, [.t 52, .c (.b true), .t 54]⟩, ⟨.t 49, none, .mv, [.t 55]⟩])
 (.cond (.t 49) (.reg [⟨.t 56, none, .mv, [.l 0]⟩, ⟨.t 57, none, .nilchk, [.t 56]⟩, ⟨.t 58, none, (.fad 25), [.t 57]⟩, ⟨.no, none, (.st 1), [.t 58, .c (.i .i64 5)]⟩]) (.seq (.reg [⟨.t 60, none, .mv, [.l 0]⟩, ⟨.t 61, none, .nilchk, [.t 60]⟩, ⟨.t 62, none, (.fad 2), [.t 61]⟩, ⟨.t 63, none, (.fad 0), [.t 62]⟩, ⟨.t 64, none, (.ld none), [.t 63]⟩, ⟨.t 65, none, (.bin .eql), [.t 64, .c (.i .i64 20)]⟩, ⟨.t 59, none, .mv, [.t 65]⟩])
 (.cond (.t 59) (.seq (.reg [⟨.t 67, none, .mv, [.l 2]⟩, ⟨.t 68, none, .mv, [.l 0]⟩, ⟨.t 69, none, (.call 82), [.t 68]⟩, ⟨.t 70, none, (.call 132), [.t 67, .t 69]⟩, ⟨.t 66, none, .mv, [.t 70]⟩, ⟨.t 71, none, (.ext 0), [.t 66]⟩, ⟨.t 72, none, (.ext 1), [.t 66]⟩, ⟨.l 4, none, .mv, [.t 71]⟩, ⟨.t 5, none, .mv, [.t 72]⟩])
 (.regD [⟨.t 73, none, .mv, [.l 0]⟩, ⟨.t 74, none, .mv, [.l 0]⟩, ⟨.t 75, none, .nilchk, [.t 74]⟩, ⟨.t 76, none, (.fad 2), [.t 75]⟩, ⟨.t 77, none, (.fad 2), [.t 76]⟩, ⟨.t 78, none, (.ld none), [.t 77]⟩, ⟨.t 79, none, .mv, [.l 4]⟩, ⟨.t 80, none, (.call 115), [.t 79]⟩, ⟨.t 81, none, .nilchk, [.t 73]⟩, ⟨.t 82, none, (.fad 16), [.t 81]⟩, ⟨.t 83, none, (.iadA 8 1), [.t 82, .t 78]⟩, ⟨.no, none, (.st 1), [.t 83, .t 80]⟩] [(5, 8)])) (.seq (.regD [⟨.t 20, none, .mv, [.l 2]⟩, ⟨.t 21, none, .mv, [.l 0]⟩, ⟨.t 22, none, (.call 82), [.t 21]⟩, ⟨.t 23, none, .mv, [.l 0]⟩, ⟨.t 24, none, .nilchk, [.t 23]⟩, ⟨.t 25, none, (.fad 0), [.t 24]⟩, ⟨.t 26, none, (.ld none), [.t 25]⟩, ⟨.t 27, none, (.call 15), [.t 26]⟩, ⟨.t 28, none, .mv, [.l 0]⟩, ⟨.t 29, none, (.call 83), [.t 28]⟩, ⟨.t 30, none, (.call 133), [.t 20, .t 22, .t 27, .t 29]⟩, ⟨.t 19, none, .mv, [.t 30]⟩, ⟨.t 31, none, (.ext 0), [.t 19]⟩, ⟨.t 32, none, (.ext 1), [.t 19]⟩, ⟨.l 6, none, .mv, [.t 31]⟩, ⟨.l 7, none, .mv, [.t 32]⟩] [(6, 0)])
 (.seq (.seq (.reg [⟨.t 33, none, .mv, [.l 7]⟩, ⟨.t 34, none, (.bin .neq), [.t 33, .c (.i .i64 0)]⟩])
 (.cond (.t 34) (.seq (.reg [⟨.t 35, none, .mv, [.l 0]⟩, ⟨.t 36, none, .nilchk, [.t 35]⟩, ⟨.t 37, none, (.fad 25), [.t 36]⟩, ⟨.no, none, (.st 1), [.t 37, .c (.i .i64 6)]⟩])
 .ret) .skip))
 (.regD [⟨.t 38, none, .mv, [.l 0]⟩, ⟨.t 39, none, .mv, [.l 0]⟩, ⟨.t 40, none, .nilchk, [.t 39]⟩, ⟨.t 41, none, (.fad 2), [.t 40]⟩, ⟨.t 42, none, (.fad 3), [.t 41]⟩, ⟨.t 43, none, (.ld none), [.t 42]⟩, ⟨.t 44, none, .mv, [.l 6]⟩, ⟨.t 45, none, (.call 115), [.t 44]⟩, ⟨.t 46, none, .nilchk, [.t 38]⟩, ⟨.t 47, none, (.fad 16), [.t 46]⟩, ⟨.t 48, none, (.iadA 8 1), [.t 47, .t 43]⟩, ⟨.no, none, (.st 1), [.t 48, .t 45]⟩] [(5, 8)])))))))))), []⟩
/-- (*tarpaulin/world.act).context -/
def b80 : Nat := 4194557
def a80 : AFn := ⟨(.seq (.reg [⟨.l 2, none, .mv, [.c (.i .i64 0)]⟩])
 (.seq (.reg [⟨.l 3, none, .mv, [.c (.sl none 0 0 0)]⟩])
 (.seq (.reg [⟨.l 4, none, .mv, [.c (.i .i64 0)]⟩])
 (.seq (.regD [⟨.t 9, none, .mv, [.l 0]⟩, ⟨.t 10, none, .nilchk, [.t 9]⟩, ⟨.t 11, none, (.fad 0), [.t 10]⟩, ⟨.t 12, none, (.ld none), [.t 11]⟩, ⟨.t 13, none, .nilchk, [.t 12]⟩, ⟨.t 14, none, (.fad 6), [.t 13]⟩, ⟨.t 15, none, (.ld none), [.t 14]⟩, ⟨.t 16, none, .mv, [.l 0]⟩, ⟨.t 17, none, (.call 134), [.t 16]⟩, ⟨.l 5, none, .mv, [.t 15]⟩, ⟨.l 6, none, .mv, [.t 17]⟩] [(3, 9), (6, 9)])
 (.seq (.seq (.reg [⟨.t 18, none, .mv, [.l 0]⟩, ⟨.t 19, none, .nilchk, [.t 18]⟩, ⟨.t 20, none, (.fad 2), [.t 19]⟩, ⟨.t 21, none, (.fad 0), [.t 20]⟩, ⟨.l 22, none, (.ld none), [.t 21]⟩])
 (.block 0 (.seq (.block 4 (.seq (.block 3 (.seq (.block 2 (.seq (.block 1 (.seq (.seq (.seq (.reg [⟨.t 24, none, (.bin .eql), [.l 22, .c (.i .i64 24)]⟩, ⟨.t 23, none, .mv, [.t 24]⟩])
 (.cond (.t 23) (.exit 1) .skip))
 (.seq (.seq (.reg [⟨.t 26, none, (.bin .eql), [.l 22, .c (.i .i64 23)]⟩, ⟨.t 25, none, .mv, [.t 26]⟩])
 (.cond (.t 25) (.exit 2) .skip))
 (.seq (.reg [⟨.t 28, none, (.bin .eql), [.l 22, .c (.i .i64 22)]⟩, ⟨.t 27, none, .mv, [.t 28]⟩])
 (.cond (.t 27) (.exit 3) .skip))))
 (.exit 4)))
 (.reg [⟨.t 29, none, .mv, [.l 0]⟩, ⟨.t 30, none, .nilchk, [.t 29]⟩, ⟨.t 31, none, (.fad 0), [.t 30]⟩, ⟨.t 32, none, (.ld none), [.t 31]⟩, ⟨.t 33, none, (.call 15), [.t 32]⟩, ⟨.t 34, none, .mv, [.l 6]⟩, ⟨.t 35, none, (.call 60), [.t 33, .t 34]⟩, ⟨.l 6, none, .mv, [.t 35]⟩])))
 (.seq (.regD [⟨.t 37, none, .mv, [.l 5]⟩, ⟨.t 38, none, .mv, [.l 0]⟩, ⟨.t 39, none, (.call 83), [.t 38]⟩, ⟨.t 40, none, .mv, [.l 6]⟩, ⟨.t 41, none, .mv, [.l 0]⟩, ⟨.t 42, none, .nilchk, [.t 41]⟩, ⟨.t 43, none, (.fad 0), [.t 42]⟩, ⟨.t 44, none, (.ld none), [.t 43]⟩, ⟨.t 45, none, (.call 15), [.t 44]⟩, ⟨.t 46, none, (.call 135), [.t 37, .t 39, .t 40, .t 45]⟩, ⟨.t 36, none, .mv, [.t 46]⟩, ⟨.t 47, none, (.ext 0), [.t 36]⟩, ⟨.t 48, none, (.ext 1), [.t 36]⟩, ⟨.t 49, none, (.ext 2), [.t 36]⟩, ⟨.l 2, none, .mv, [.t 47]⟩, ⟨.l 3, none, .mv, [.t 48]⟩, ⟨.l 4, none, .mv, [.t 49]⟩] [(7, 0)])
 (.exit 0))))
 (.seq (.reg [⟨.t 51, none, .mv, [.l 5]⟩, ⟨.t 52, none, .mv, [.l 0]⟩, ⟨.t 53, none, (.call 83), [.t 52]⟩, ⟨.t 54, none, (.call 136), [.t 51, .t 53]⟩, ⟨.t 50, none, .mv, [.t 54]⟩, ⟨.t 55, none, (.ext 0), [.t 50]⟩, ⟨.t 56, none, (.ext 1), [.t 50]⟩, ⟨.t 57, none, (.ext 2), [.t 50]⟩, ⟨.l 2, none, .mv, [.t 55]⟩, ⟨.l 3, none, .mv, [.t 56]⟩, ⟨.l 4, none, .mv, [.t 57]⟩])
 (.exit 0))))
 (.seq (.reg [⟨.t 59, none, .mv, [.l 5]⟩, ⟨.t 60, none, .mv, [.l 0]⟩, ⟨.t 61, none, (.call 83), [.t 60]⟩, ⟨.t 62, none, (.call 137), [.t 59, .t 61]⟩, ⟨.t 58, none, .mv, [.t 62]⟩, ⟨.t 63, none, (.ext 0), [.t 58]⟩, ⟨.t 64, none, (.ext 1), [.t 58]⟩, ⟨.l 2, none, .mv, [.t 63]⟩, ⟨.l 4, none, .mv, [.t 64]⟩])
 (.exit 0)))))
 (.seq (.seq (.reg [⟨.t 65, none, .mv, [.l 0]⟩, ⟨.t 66, none, .mv, [.l 4]⟩, ⟨.t 67, none, (.call 84), [.t 65, .t 66]⟩])
 (.cond (.t 67) .ret .skip))
 (.seq (.seq (.reg [⟨.t 69, none, .mv, [.l 5]⟩, ⟨.t 70, none, .mv, [.l 2]⟩, ⟨.t 71, none, (.call 138), [.t 69, .t 70]⟩, ⟨.t 68, none, .mv, [.t 71]⟩, ⟨.t 72, none, (.ext 0), [.t 68]⟩, ⟨.t 73, none, (.ext 1), [.t 68]⟩, ⟨.l 7, none, .mv, [.t 72]⟩, ⟨.t 8, none, .mv, [.t 73]⟩])
 (.seq (.reg [⟨.t 74, none, .mv, [.l 7]⟩, ⟨.t 75, none, (.eq true .ptr), [.t 74, .c (.p none)]⟩])
 (.cond (.t 75) (.reg [⟨.t 76, none, .mv, [.l 0]⟩, ⟨.t 77, none, .nilchk, [.t 76]⟩, ⟨.t 78, none, (.fad 0), [.t 77]⟩, ⟨.t 79, none, (.ld none), [.t 78]⟩, ⟨.t 80, none, .mv, [.l 7]⟩, ⟨.t 81, none, (.call 119), [.t 79, .t 80]⟩]) .skip)))
 (.seq (.reg [⟨.t 82, none, .mv, [.l 0]⟩, ⟨.t 83, none, .mv, [.l 0]⟩, ⟨.t 84, none, .nilchk, [.t 83]⟩, ⟨.t 85, none, (.fad 2), [.t 84]⟩, ⟨.t 86, none, (.fad 1), [.t 85]⟩, ⟨.t 87, none, (.ld none), [.t 86]⟩, ⟨.t 88, none, .mv, [.l 2]⟩, ⟨.t 89, none, .nilchk, [.t 82]⟩, ⟨.t 90, none, (.fad 16), [.t 89]⟩, ⟨.t 91, none, (.iadA 8 1), [.t 90, .t 87]⟩, ⟨.no, none, (.st 1), [.t 91, .t 88]⟩])
 (.reg [⟨.t 92, none, .mv, [.l 0]⟩, ⟨.t 93, none, .nilchk, [.t 92]⟩, ⟨.t 94, none, (.fad 0), [.t 93]⟩, ⟨.t 95, none, (.ld none), [.t 94]⟩, ⟨.t 96, none, .mv, [.l 3]⟩, ⟨.t 97, none, (.call 64), [.t 95, .t 96, .c (.sl none 0 0 0)]⟩]))))))))), []⟩
/-- (*tarpaulin/ctx.Set).Cancel -/
def b81 : Nat := 1991
def a81 : AFn := ⟨(.seq (.reg [⟨.l 6, none, .mv, [.c (.sl none 0 0 0)]⟩, ⟨.l 7, none, .mv, [.c (.sl none 0 0 0)]⟩, ⟨.l 8, none, .mv, [.c (.i .i64 0)]⟩])
 (.seq (.block 0 (.seq (.reg [⟨.t 12, none, .mv, [.l 0]⟩, ⟨.t 13, none, .mv, [.l 1]⟩, ⟨.t 14, none, (.call 106), [.t 12, .t 13]⟩, ⟨.t 15, none, (.un .not), [.t 14]⟩, ⟨.t 11, none, .mv, [.t 15]⟩])
 (.cond (.t 11) (.seq (.reg [⟨.l 6, none, .mv, [.c (.sl none 0 0 0)]⟩, ⟨.l 7, none, .mv, [.c (.sl none 0 0 0)]⟩, ⟨.l 8, none, .mv, [.c (.i .i64 4)]⟩])
 .ret) (.seq (.reg [⟨.t 17, none, .mv, [.l 0]⟩, ⟨.t 18, none, .nilchk, [.t 17]⟩, ⟨.t 19, none, (.fad 2), [.t 18]⟩, ⟨.t 20, none, (.ld none), [.t 19]⟩, ⟨.t 21, none, .mv, [.l 1]⟩, ⟨.t 22, none, (.iad 9), [.t 20, .t 21]⟩, ⟨.t 23, none, (.fad 1), [.t 22]⟩, ⟨.t 24, none, (.ld none), [.t 23]⟩, ⟨.t 16, none, .mv, [.t 24]⟩])
 (.cond (.t 16) (.seq (.reg [⟨.l 6, none, .mv, [.c (.sl none 0 0 0)]⟩, ⟨.l 7, none, .mv, [.c (.sl none 0 0 0)]⟩, ⟨.l 8, none, .mv, [.c (.i .i64 1)]⟩])
 .ret) (.seq (.reg [⟨.t 26, none, .mv, [.l 2]⟩, ⟨.t 27, none, (.bin .lss), [.t 26, .c (.i .i64 1)]⟩, ⟨.t 25, none, .mv, [.t 27]⟩])
 (.cond (.t 25) (.reg [⟨.l 2, none, .mv, [.c (.i .i64 1)]⟩]) .skip)))))))
 (.seq (.reg [⟨.t 29, none, .mv, [.l 0]⟩, ⟨.t 30, none, .mv, [.l 1]⟩, ⟨.t 31, none, .mv, [.l 2]⟩, ⟨.t 32, none, (.call 107), [.t 29, .t 30, .c (.i .i64 1), .t 31]⟩, ⟨.t 28, none, .mv, [.t 32]⟩, ⟨.t 33, none, (.ext 0), [.t 28]⟩, ⟨.t 34, none, (.ext 1), [.t 28]⟩, ⟨.l 9, none, .mv, [.t 33]⟩, ⟨.l 10, none, .mv, [.t 34]⟩])
 (.seq (.reg [⟨.t 35, none, .mv, [.l 9]⟩, ⟨.t 36, none, .mv, [.l 10]⟩, ⟨.l 6, none, .mv, [.t 35]⟩, ⟨.l 7, none, .mv, [.t 36]⟩, ⟨.l 8, none, .mv, [.c (.i .i64 0)]⟩])
 .ret)))), [.tmp (.l 6), .tmp (.l 7), .tmp (.l 8)]⟩
/-- (*tarpaulin/world.act).a -/
def b82 : Nat := 5
def a82 : AFn := ⟨(.seq (.reg [⟨.l 2, none, .mv, [.c (.i .i64 0)]⟩])
 (.seq (.reg [⟨.t 3, none, .mv, [.l 0]⟩, ⟨.t 4, none, .mv, [.l 0]⟩, ⟨.t 5, none, .nilchk, [.t 4]⟩, ⟨.t 6, none, (.fad 2), [.t 5]⟩, ⟨.t 7, none, (.fad 1), [.t 6]⟩, ⟨.t 8, none, (.ld none), [.t 7]⟩, ⟨.t 9, none, .nilchk, [.t 3]⟩, ⟨.t 10, none, (.fad 8), [.t 9]⟩, ⟨.t 11, none, (.iadA 8 1), [.t 10, .t 8]⟩, ⟨.t 12, none, (.ld none), [.t 11]⟩, ⟨.l 2, none, .mv, [.t 12]⟩])
 .ret)), [.tmp (.l 2)]⟩
/-- (*tarpaulin/world.act).b -/
def b83 : Nat := 5
def a83 : AFn := ⟨(.seq (.reg [⟨.l 2, none, .mv, [.c (.i .i64 0)]⟩])
 (.seq (.reg [⟨.t 3, none, .mv, [.l 0]⟩, ⟨.t 4, none, .mv, [.l 0]⟩, ⟨.t 5, none, .nilchk, [.t 4]⟩, ⟨.t 6, none, (.fad 2), [.t 5]⟩, ⟨.t 7, none, (.fad 2), [.t 6]⟩, ⟨.t 8, none, (.ld none), [.t 7]⟩, ⟨.t 9, none, .nilchk, [.t 3]⟩, ⟨.t 10, none, (.fad 8), [.t 9]⟩, ⟨.t 11, none, (.iadA 8 1), [.t 10, .t 8]⟩, ⟨.t 12, none, (.ld none), [.t 11]⟩, ⟨.l 2, none, .mv, [.t 12]⟩])
 .ret)), [.tmp (.l 2)]⟩
/-- (*tarpaulin/world.act).bad -/
def b84 : Nat := 51
def a84 : AFn := ⟨(.seq (.reg [⟨.l 4, none, .mv, [.c (.b false)]⟩])
 (.seq (.seq (.reg [⟨.l 5, none, .mv, [.l 1]⟩])
 (.block 0 (.seq (.reg [⟨.t 10, none, (.bin .eql), [.l 5, .c (.i .i64 0)]⟩, ⟨.t 9, none, .mv, [.t 10]⟩])
 (.cond (.t 9) (.seq (.reg [⟨.l 4, none, .mv, [.c (.b false)]⟩])
 .ret) (.seq (.reg [⟨.t 12, none, (.bin .eql), [.l 5, .c (.i .i64 3)]⟩, ⟨.t 11, none, .mv, [.t 12]⟩])
 (.cond (.t 11) (.reg [⟨.t 13, none, .mv, [.l 0]⟩, ⟨.t 14, none, .nilchk, [.t 13]⟩, ⟨.t 15, none, (.fad 25), [.t 14]⟩, ⟨.no, none, (.st 1), [.t 15, .c (.i .i64 7)]⟩]) (.reg [⟨.t 6, none, .mv, [.l 0]⟩, ⟨.t 7, none, .nilchk, [.t 6]⟩, ⟨.t 8, none, (.fad 25), [.t 7]⟩, ⟨.no, none, (.st 1), [.t 8, .c (.i .i64 5)]⟩])))))))
 (.seq (.reg [⟨.l 4, none, .mv, [.c (.b true)]⟩])
 .ret))), [.tmp (.l 4)]⟩
/-- (*tarpaulin/world.act).ask -/
def b85 : Nat := 16779261
def a85 : AFn := ⟨(.seq (.regD [⟨.t 11, none, .mv, [.l 0]⟩, ⟨.t 12, none, .nilchk, [.t 11]⟩, ⟨.t 13, none, (.fad 0), [.t 12]⟩, ⟨.t 14, none, (.ld none), [.t 13]⟩, ⟨.t 15, none, .nilchk, [.t 14]⟩, ⟨.t 16, none, (.fad 6), [.t 15]⟩, ⟨.t 17, none, (.ld none), [.t 16]⟩, ⟨.t 18, none, .mv, [.l 0]⟩, ⟨.t 19, none, (.call 82), [.t 18]⟩, ⟨.l 2, none, .mv, [.t 17]⟩, ⟨.l 3, none, .mv, [.t 19]⟩] [(3, 9), (6, 9)])
 (.seq (.reg [⟨.l 4, none, .mv, [.c (.i .i64 0)]⟩])
 (.seq (.reg [⟨.l 5, none, .mv, [.c (.i .i64 0)]⟩])
 (.seq (.seq (.reg [⟨.t 20, none, .mv, [.l 0]⟩, ⟨.t 21, none, .nilchk, [.t 20]⟩, ⟨.t 22, none, (.fad 2), [.t 21]⟩, ⟨.t 23, none, (.fad 0), [.t 22]⟩, ⟨.l 24, none, (.ld none), [.t 23]⟩])
 (.block 0 (.seq (.reg [⟨.t 59, none, (.bin .eql), [.l 24, .c (.i .i64 27)]⟩, ⟨.t 58, none, .mv, [.t 59]⟩])
 (.cond (.t 58) (.reg [⟨.t 61, none, .mv, [.l 2]⟩, ⟨.t 62, none, .mv, [.l 3]⟩, ⟨.t 63, none, (.call 139), [.t 61, .t 62]⟩, ⟨.t 60, none, .mv, [.t 63]⟩, ⟨.t 64, none, (.ext 0), [.t 60]⟩, ⟨.t 65, none, (.ext 1), [.t 60]⟩, ⟨.l 4, none, .mv, [.t 64]⟩, ⟨.l 5, none, .mv, [.t 65]⟩]) (.seq (.reg [⟨.t 67, none, (.bin .eql), [.l 24, .c (.i .i64 28)]⟩, ⟨.t 66, none, .mv, [.t 67]⟩])
 (.cond (.t 66) (.reg [⟨.t 69, none, .mv, [.l 2]⟩, ⟨.t 70, none, .mv, [.l 3]⟩, ⟨.t 71, none, (.call 140), [.t 69, .t 70]⟩, ⟨.t 68, none, .mv, [.t 71]⟩, ⟨.t 72, none, (.ext 0), [.t 68]⟩, ⟨.t 73, none, (.ext 1), [.t 68]⟩, ⟨.l 4, none, .mv, [.t 72]⟩, ⟨.l 5, none, .mv, [.t 73]⟩]) (.seq (.reg [⟨.t 75, none, (.bin .eql), [.l 24, .c (.i .i64 29)]⟩, ⟨.t 74, none, .mv, [.t 75]⟩])
 (.cond (.t 74) (.seq (.reg [⟨.t 77, none, .mv, [.l 2]⟩, ⟨.t 78, none, .mv, [.l 3]⟩, ⟨.t 79, none, (.call 138), [.t 77, .t 78]⟩, ⟨.t 76, none, .mv, [.t 79]⟩, ⟨.t 80, none, (.ext 0), [.t 76]⟩, ⟨.t 81, none, (.ext 1), [.t 76]⟩, ⟨.l 6, none, .mv, [.t 80]⟩, ⟨.l 7, none, .mv, [.t 81]⟩])
 (.reg [⟨.t 82, none, .mv, [.l 0]⟩, ⟨.t 83, none, .nilchk, [.t 82]⟩, ⟨.t 84, none, (.fad 0), [.t 83]⟩, ⟨.t 85, none, (.ld none), [.t 84]⟩, ⟨.t 86, none, .mv, [.l 6]⟩, ⟨.t 87, none, (.call 67), [.t 85, .t 86]⟩, ⟨.t 88, none, .mv, [.l 7]⟩, ⟨.l 4, none, .mv, [.t 87]⟩, ⟨.l 5, none, .mv, [.t 88]⟩])) (.seq (.reg [⟨.t 26, none, .mv, [.l 2]⟩, ⟨.t 27, none, .mv, [.l 3]⟩, ⟨.t 28, none, (.call 141), [.t 26, .t 27]⟩, ⟨.t 25, none, .mv, [.t 28]⟩, ⟨.t 29, none, (.ext 0), [.t 25]⟩, ⟨.t 30, none, (.ext 1), [.t 25]⟩, ⟨.t 31, none, (.ext 2), [.t 25]⟩, ⟨.l 8, none, .mv, [.t 29]⟩, ⟨.l 9, none, .mv, [.t 30]⟩, ⟨.l 10, none, .mv, [.t 31]⟩])
 (.seq (.reg [⟨.t 32, none, .mv, [.l 8]⟩, ⟨.t 33, none, .mv, [.l 10]⟩, ⟨.l 4, none, .mv, [.t 32]⟩, ⟨.l 5, none, .mv, [.t 33]⟩])
 (.seq (.reg [⟨.t 34, none, .mv, [.l 0]⟩, ⟨.t 35, none, .mv, [.l 0]⟩, ⟨.t 36, none, .nilchk, [.t 35]⟩, ⟨.t 37, none, (.fad 2), [.t 36]⟩, ⟨.t 38, none, (.fad 2), [.t 37]⟩, ⟨.t 39, none, (.ld none), [.t 38]⟩, ⟨.t 40, none, .mv, [.l 4]⟩, ⟨.t 41, none, .nilchk, [.t 34]⟩, ⟨.t 42, none, (.fad 16), [.t 41]⟩, ⟨.t 43, none, (.iadA 8 1), [.t 42, .t 39]⟩, ⟨.no, none, (.st 1), [.t 43, .t 40]⟩])
 (.seq (.regD [⟨.t 44, none, .mv, [.l 0]⟩, ⟨.t 45, none, .mv, [.l 0]⟩, ⟨.t 46, none, .nilchk, [.t 45]⟩, ⟨.t 47, none, (.fad 2), [.t 46]⟩, ⟨.t 48, none, (.fad 3), [.t 47]⟩, ⟨.t 49, none, (.ld none), [.t 48]⟩, ⟨.t 50, none, .mv, [.l 9]⟩, ⟨.t 51, none, (.call 115), [.t 50]⟩, ⟨.t 52, none, .nilchk, [.t 44]⟩, ⟨.t 53, none, (.fad 16), [.t 52]⟩, ⟨.t 54, none, (.iadA 8 1), [.t 53, .t 49]⟩, ⟨.no, none, (.st 1), [.t 54, .t 51]⟩] [(5, 8)])
 (.seq (.reg [⟨.t 55, none, .mv, [.l 0]⟩, ⟨.t 56, none, .mv, [.l 5]⟩, ⟨.t 57, none, (.call 84), [.t 55, .t 56]⟩])
 .ret)))))))))))))
 (.seq (.reg [⟨.t 89, none, .mv, [.l 0]⟩, ⟨.t 90, none, .mv, [.l 5]⟩, ⟨.t 91, none, (.call 84), [.t 89, .t 90]⟩, ⟨.t 92, none, (.un .not), [.t 91]⟩])
 (.cond (.t 92) (.reg [⟨.t 93, none, .mv, [.l 0]⟩, ⟨.t 94, none, .mv, [.l 0]⟩, ⟨.t 95, none, .nilchk, [.t 94]⟩, ⟨.t 96, none, (.fad 2), [.t 95]⟩, ⟨.t 97, none, (.fad 2), [.t 96]⟩, ⟨.t 98, none, (.ld none), [.t 97]⟩, ⟨.t 99, none, .mv, [.l 4]⟩, ⟨.t 100, none, .nilchk, [.t 93]⟩, ⟨.t 101, none, (.fad 16), [.t 100]⟩, ⟨.t 102, none, (.iadA 8 1), [.t 101, .t 98]⟩, ⟨.no, none, (.st 1), [.t 102, .t 99]⟩]) .skip)))))), []⟩
/-- (*tarpaulin/world.act).after -/
def b86 : Nat := 125
def a86 : AFn := ⟨(.seq (.seq (.reg [⟨.t 7, none, .mv, [.l 0]⟩, ⟨.t 8, none, .nilchk, [.t 7]⟩, ⟨.t 9, none, (.fad 2), [.t 8]⟩, ⟨.t 10, none, (.fad 0), [.t 9]⟩, ⟨.t 11, none, (.ld none), [.t 10]⟩, ⟨.t 12, none, (.bin .eql), [.t 11, .c (.i .i64 32)]⟩])
 (.cond (.t 12) (.seq (.regD [⟨.t 14, none, .mv, [.l 0]⟩, ⟨.t 15, none, .nilchk, [.t 14]⟩, ⟨.t 16, none, (.fad 0), [.t 15]⟩, ⟨.t 17, none, (.ld none), [.t 16]⟩, ⟨.t 18, none, .nilchk, [.t 17]⟩, ⟨.t 19, none, (.fad 6), [.t 18]⟩, ⟨.t 20, none, (.ld none), [.t 19]⟩, ⟨.t 21, none, .mv, [.l 0]⟩, ⟨.t 22, none, (.call 82), [.t 21]⟩, ⟨.t 23, none, (.call 142), [.t 20, .t 22]⟩, ⟨.t 13, none, .mv, [.t 23]⟩, ⟨.t 24, none, (.ext 0), [.t 13]⟩, ⟨.t 25, none, (.ext 1), [.t 13]⟩, ⟨.l 2, none, .mv, [.t 24]⟩, ⟨.l 3, none, .mv, [.t 25]⟩] [(3, 9), (6, 9)])
 (.seq (.reg [⟨.t 26, none, .mv, [.l 0]⟩, ⟨.t 27, none, .mv, [.l 3]⟩, ⟨.t 28, none, (.call 84), [.t 26, .t 27]⟩])
 (.seq (.regD [⟨.t 29, none, .mv, [.l 0]⟩, ⟨.t 30, none, .mv, [.l 0]⟩, ⟨.t 31, none, .nilchk, [.t 30]⟩, ⟨.t 32, none, (.fad 2), [.t 31]⟩, ⟨.t 33, none, (.fad 2), [.t 32]⟩, ⟨.t 34, none, (.ld none), [.t 33]⟩, ⟨.t 35, none, .mv, [.l 2]⟩, ⟨.t 36, none, (.call 115), [.t 35]⟩, ⟨.t 37, none, .nilchk, [.t 29]⟩, ⟨.t 38, none, (.fad 16), [.t 37]⟩, ⟨.t 39, none, (.iadA 8 1), [.t 38, .t 34]⟩, ⟨.no, none, (.st 1), [.t 39, .t 36]⟩] [(5, 8)])
 .ret))) .skip))
 (.seq (.regD [⟨.t 41, none, .mv, [.l 0]⟩, ⟨.t 42, none, .nilchk, [.t 41]⟩, ⟨.t 43, none, (.fad 0), [.t 42]⟩, ⟨.t 44, none, (.ld none), [.t 43]⟩, ⟨.t 45, none, .nilchk, [.t 44]⟩, ⟨.t 46, none, (.fad 6), [.t 45]⟩, ⟨.t 47, none, (.ld none), [.t 46]⟩, ⟨.t 48, none, .mv, [.l 0]⟩, ⟨.t 49, none, (.call 83), [.t 48]⟩, ⟨.t 50, none, .mv, [.l 0]⟩, ⟨.t 51, none, .nilchk, [.t 50]⟩, ⟨.t 52, none, (.fad 2), [.t 51]⟩, ⟨.t 53, none, (.fad 3), [.t 52]⟩, ⟨.t 54, none, (.ld none), [.t 53]⟩, ⟨.t 55, none, (.call 143), [.t 47, .t 49, .t 54]⟩, ⟨.t 40, none, .mv, [.t 55]⟩, ⟨.t 56, none, (.ext 0), [.t 40]⟩, ⟨.t 57, none, (.ext 1), [.t 40]⟩, ⟨.t 58, none, (.ext 2), [.t 40]⟩, ⟨.l 4, none, .mv, [.t 56]⟩, ⟨.l 5, none, .mv, [.t 57]⟩, ⟨.l 6, none, .mv, [.t 58]⟩] [(3, 9), (6, 9), (13, 0)])
 (.seq (.seq (.reg [⟨.t 59, none, .mv, [.l 0]⟩, ⟨.t 60, none, .mv, [.l 6]⟩, ⟨.t 61, none, (.call 84), [.t 59, .t 60]⟩])
 (.cond (.t 61) .ret .skip))
 (.seq (.reg [⟨.t 62, none, .mv, [.l 0]⟩, ⟨.t 63, none, .mv, [.l 0]⟩, ⟨.t 64, none, .nilchk, [.t 63]⟩, ⟨.t 65, none, (.fad 2), [.t 64]⟩, ⟨.t 66, none, (.fad 1), [.t 65]⟩, ⟨.t 67, none, (.ld none), [.t 66]⟩, ⟨.t 68, none, .mv, [.l 4]⟩, ⟨.t 69, none, .nilchk, [.t 62]⟩, ⟨.t 70, none, (.fad 16), [.t 69]⟩, ⟨.t 71, none, (.iadA 8 1), [.t 70, .t 67]⟩, ⟨.no, none, (.st 1), [.t 71, .t 68]⟩])
 (.reg [⟨.t 72, none, .mv, [.l 0]⟩, ⟨.t 73, none, .nilchk, [.t 72]⟩, ⟨.t 74, none, (.fad 0), [.t 73]⟩, ⟨.t 75, none, (.ld none), [.t 74]⟩, ⟨.t 76, none, .mv, [.l 5]⟩, ⟨.t 77, none, (.call 64), [.t 75, .c (.sl none 0 0 0), .t 76]⟩]))))), []⟩
/-- (*tarpaulin/task.Table).is -/
def b87 : Nat := 967
def a87 : AFn := ⟨(.seq (.reg [⟨.l 6, none, (.alloc [(.i .i64 0), (.i .i64 0), (.i .i64 0), (.i .i64 0), (.i .i64 0), (.i .i64 0), (.i .i64 0), (.i .i64 0), (.i .i64 0), (.i .i64 0), (.i .i64 0), (.i .i64 0), (.i .i64 0), (.i .i64 0), (.i .i64 0), (.i .i64 0), (.sl none 0 0 0), (.b false)]), []⟩, ⟨.l 7, none, .mv, [.c (.i .i64 0)]⟩])
 (.seq (.reg [⟨.t 11, none, .mv, [.l 0]⟩, ⟨.t 12, none, .mv, [.l 1]⟩, ⟨.t 13, none, (.call 38), [.t 11, .t 12]⟩, ⟨.t 10, none, .mv, [.t 13]⟩, ⟨.t 14, none, (.ext 0), [.t 10]⟩, ⟨.t 15, none, (.ext 1), [.t 10]⟩, ⟨.l 8, none, (.alloc [(.i .i64 0), (.i .i64 0), (.i .i64 0), (.i .i64 0), (.i .i64 0), (.i .i64 0), (.i .i64 0), (.i .i64 0), (.i .i64 0), (.i .i64 0), (.i .i64 0), (.i .i64 0), (.i .i64 0), (.i .i64 0), (.i .i64 0), (.i .i64 0), (.sl none 0 0 0), (.b false)]), []⟩, ⟨.no, none, (.st 18), [.l 8, .t 14]⟩, ⟨.l 9, none, .mv, [.t 15]⟩])
 (.seq (.block 0 (.seq (.reg [⟨.t 17, none, .mv, [.l 9]⟩, ⟨.t 18, none, (.un .not), [.t 17]⟩, ⟨.t 16, none, .mv, [.t 18]⟩])
 (.cond (.t 16) (.seq (.reg [⟨.t 19, none, (.ld (some 18)), [.l 8]⟩, ⟨.no, none, (.st 18), [.l 6, .t 19]⟩, ⟨.l 7, none, .mv, [.c (.i .i64 4)]⟩])
 .ret) (.seq (.reg [⟨.t 21, none, .mv, [.l 2]⟩, ⟨.t 22, none, (.fad 2), [.l 8]⟩, ⟨.t 23, none, (.ld none), [.t 22]⟩, ⟨.t 24, none, .callv, [.t 21, .t 23]⟩, ⟨.t 25, none, (.un .not), [.t 24]⟩, ⟨.t 20, none, .mv, [.t 25]⟩])
 (.cond (.t 20) (.seq (.reg [⟨.t 26, none, (.ld (some 18)), [.l 8]⟩, ⟨.no, none, (.st 18), [.l 6, .t 26]⟩, ⟨.l 7, none, .mv, [.c (.i .i64 8)]⟩])
 .ret) .skip)))))
 (.seq (.reg [⟨.t 27, none, (.ld (some 18)), [.l 8]⟩, ⟨.no, none, (.st 18), [.l 6, .t 27]⟩, ⟨.l 7, none, .mv, [.c (.i .i64 0)]⟩])
 .ret)))), [.cell (.l 6) (some 18), .tmp (.l 7)]⟩
/-- (*tarpaulin/task.Table).End$1 -/
def b88 : Nat := 5
def a88 : AFn := ⟨(.seq (.reg [⟨.l 2, none, .mv, [.c (.b false)]⟩])
 (.seq (.reg [⟨.t 3, none, .mv, [.l 0]⟩, ⟨.t 4, none, (.bin .neq), [.t 3, .c (.i .i64 2)]⟩, ⟨.l 2, none, .mv, [.t 4]⟩])
 .ret)), [.tmp (.l 2)]⟩
/-- (*tarpaulin/arena.Arena[tarpaulin/task.Task]).Set -/
def b89 : Nat := 103
def a89 : AFn := ⟨(.seq (.reg [⟨.l 5, none, .box, [.l 2]⟩, ⟨.l 6, none, .mv, [.c (.b false)]⟩])
 (.seq (.seq (.reg [⟨.t 7, none, .mv, [.l 1]⟩, ⟨.t 8, none, (.bin .lss), [.t 7, .c (.i .i64 0)]⟩, ⟨.t 9, none, .mv, [.t 8]⟩, ⟨.t 10, (some (.t 9, false)), .mv, [.l 1]⟩, ⟨.t 11, (some (.t 9, false)), .mv, [.l 0]⟩, ⟨.t 12, (some (.t 9, false)), (.call 45), [.t 11]⟩, ⟨.t 13, (some (.t 9, false)), (.bin .geq), [.t 10, .t 12]⟩, ⟨.t 14, none, .pick, [.t 9, .c (.b true), .t 13]⟩])
 (.cond (.t 14) (.seq (.reg [⟨.l 6, none, .mv, [.c (.b false)]⟩])
 .ret) .skip))
 (.seq (.reg [⟨.t 15, none, .mv, [.l 0]⟩, ⟨.t 16, none, .nilchk, [.t 15]⟩, ⟨.t 17, none, (.fad 0), [.t 16]⟩, ⟨.t 18, none, (.ld none), [.t 17]⟩, ⟨.t 19, none, .mv, [.l 1]⟩, ⟨.t 20, none, (.ld (some 18)), [.l 5]⟩, ⟨.t 21, none, (.iad 18), [.t 18, .t 19]⟩, ⟨.no, none, (.st 18), [.t 21, .t 20]⟩])
 (.seq (.reg [⟨.l 6, none, .mv, [.c (.b true)]⟩])
 .ret)))), [.tmp (.l 6)]⟩
/-- (*tarpaulin/ready.List).Remove -/
def b90 : Nat := 51
def a90 : AFn := ⟨(.seq (.reg [⟨.l 4, none, .mv, [.c (.b false)]⟩])
 (.seq (.reg [⟨.t 6, none, .mv, [.l 0]⟩, ⟨.t 7, none, (.call 70), [.t 6]⟩, ⟨.t 8, none, .mv, [.l 1]⟩, ⟨.t 9, none, (.call 144), [.t 7, .t 8]⟩, ⟨.l 5, none, .mv, [.t 9]⟩])
 (.seq (.seq (.reg [⟨.t 10, none, .mv, [.l 5]⟩, ⟨.t 11, none, (.bin .lss), [.t 10, .c (.i .i64 0)]⟩])
 (.cond (.t 11) (.seq (.reg [⟨.l 4, none, .mv, [.c (.b false)]⟩])
 .ret) .skip))
 (.seq (.reg [⟨.t 12, none, .mv, [.l 0]⟩, ⟨.t 13, none, .mv, [.l 0]⟩, ⟨.t 14, none, .nilchk, [.t 13]⟩, ⟨.t 15, none, (.fad 0), [.t 14]⟩, ⟨.t 16, none, (.ld none), [.t 15]⟩, ⟨.t 17, none, .mv, [.l 5]⟩, ⟨.t 18, none, .mv, [.l 5]⟩, ⟨.t 19, none, (.bin .add), [.t 18, .c (.i .i64 1)]⟩, ⟨.t 20, none, (.call 145), [.t 16, .t 17, .t 19]⟩, ⟨.t 21, none, .nilchk, [.t 12]⟩, ⟨.t 22, none, (.fad 0), [.t 21]⟩, ⟨.no, none, (.st 1), [.t 22, .t 20]⟩])
 (.seq (.reg [⟨.l 4, none, .mv, [.c (.b true)]⟩])
 .ret))))), [.tmp (.l 4)]⟩
/-- tarpaulin/task.runs -/
def b91 : Nat := 5
def a91 : AFn := ⟨(.seq (.reg [⟨.l 2, none, .mv, [.c (.b false)]⟩])
 (.seq (.reg [⟨.t 3, none, .mv, [.l 0]⟩, ⟨.t 4, none, (.bin .eql), [.t 3, .c (.i .i64 0)]⟩, ⟨.l 2, none, .mv, [.t 4]⟩])
 .ret)), [.tmp (.l 2)]⟩
/-- tarpaulin/prog.Check$1 -/
def b92 : Nat := 15
def a92 : AFn := ⟨(.seq (.reg [⟨.l 2, none, .box, [.l 0]⟩, ⟨.l 3, none, .mv, [.c (.b false)]⟩])
 (.seq (.reg [⟨.t 4, none, (.ld (some 6)), [.l 2]⟩, ⟨.t 5, none, (.ld none), [.l 1]⟩, ⟨.t 6, none, .lenSl, [.t 5]⟩, ⟨.t 7, none, (.call 93), [.t 4, .t 6]⟩, ⟨.t 8, none, (.un .not), [.t 7]⟩, ⟨.l 3, none, .mv, [.t 8]⟩])
 .ret)), [.tmp (.l 3)]⟩
/-- tarpaulin/prog.good -/
def b93 : Nat := 30786325577847
def a93 : AFn := ⟨(.seq (.reg [⟨.l 2, none, .box, [.l 0]⟩, ⟨.l 4, none, .mv, [.c (.b false)]⟩])
 (.seq (.seq (.reg [⟨.t 7, none, (.fad 0), [.l 2]⟩, ⟨.t 8, none, (.ld none), [.t 7]⟩, ⟨.t 9, none, (.bin .lss), [.t 8, .c (.i .i64 1)]⟩, ⟨.t 10, none, .mv, [.t 9]⟩, ⟨.t 11, (some (.t 10, false)), (.fad 0), [.l 2]⟩, ⟨.t 12, (some (.t 10, false)), (.ld none), [.t 11]⟩, ⟨.t 13, (some (.t 10, false)), (.bin .gtr), [.t 12, .c (.i .i64 32)]⟩, ⟨.t 14, none, .pick, [.t 10, .c (.b true), .t 13]⟩, ⟨.t 15, none, .mv, [.t 14]⟩, ⟨.t 16, (some (.t 15, false)), (.fad 0), [.l 2]⟩, ⟨.t 17, (some (.t 15, false)), (.ld none), [.t 16]⟩, ⟨.t 18, (some (.t 15, false)), (.bin .neq), [.t 17, .c (.i .i64 15)]⟩, ⟨.t 19, (some (.t 15, false)), .mv, [.t 18]⟩, ⟨.t 20, (some (.t 19, true)), (.fad 4), [.l 2]⟩, ⟨.t 21, (some (.t 19, true)), (.ld none), [.t 20]⟩, ⟨.t 22, (some (.t 19, true)), .lenSl, [.t 21]⟩, ⟨.t 23, (some (.t 19, true)), (.bin .gtr), [.t 22, .c (.i .i64 0)]⟩, ⟨.t 24, (some (.t 19, true)), .mv, [.t 23]⟩, ⟨.t 25, (some (.t 24, false)), (.fad 5), [.l 2]⟩, ⟨.t 26, (some (.t 24, false)), (.ld none), [.t 25]⟩, ⟨.t 27, (some (.t 19, true)), .pick, [.t 24, .c (.b true), .t 26]⟩, ⟨.t 28, (some (.t 15, false)), .pick, [.t 19, .t 27, .c (.b false)]⟩, ⟨.t 29, none, .pick, [.t 15, .c (.b true), .t 28]⟩, ⟨.t 30, none, .mv, [.t 29]⟩, ⟨.t 31, (some (.t 30, false)), (.fad 4), [.l 2]⟩, ⟨.t 32, (some (.t 30, false)), (.ld none), [.t 31]⟩, ⟨.t 33, (some (.t 30, false)), .lenSl, [.t 32]⟩, ⟨.t 34, (some (.t 30, false)), (.bin .gtr), [.t 33, .c (.i .i64 16)]⟩, ⟨.t 35, none, .pick, [.t 30, .c (.b true), .t 34]⟩])
 (.cond (.t 35) (.seq (.reg [⟨.l 4, none, .mv, [.c (.b false)]⟩])
 .ret) .skip))
 (.seq (.seq (.reg [⟨.t 36, none, (.fad 1), [.l 2]⟩, ⟨.t 37, none, (.ld none), [.t 36]⟩, ⟨.t 38, none, (.fad 2), [.l 2]⟩, ⟨.t 39, none, (.ld none), [.t 38]⟩, ⟨.t 40, none, (.fad 3), [.l 2]⟩, ⟨.t 41, none, (.ld none), [.t 40]⟩, ⟨.l 42, none, (.bslice [(.i .i64 0)] 3 1 [0, 1, 2]), [.t 37, .t 39, .t 41]⟩, ⟨.l 43, none, .lenSl, [.l 42]⟩, ⟨.l 44, none, .mv, [.c (.i .i64 0)]⟩])
 (.block 0 (.loop (.seq (.reg [⟨.t 45, none, (.bin .lss), [.l 44, .l 43]⟩])
 (.seq (.cond (.t 45) .skip (.exit 0))
 (.seq (.block 1 (.seq (.reg [⟨.t 46, none, .mv, [.l 44]⟩, ⟨.t 47, none, (.iad 1), [.l 42, .l 44]⟩, ⟨.t 48, none, (.ld none), [.t 47]⟩, ⟨.l 5, none, .mv, [.t 46]⟩, ⟨.l 6, none, .mv, [.t 48]⟩])
 (.seq (.reg [⟨.t 49, none, (.fad 0), [.l 2]⟩, ⟨.t 50, none, (.ld none), [.t 49]⟩, ⟨.t 51, none, (.bin .sub), [.t 50, .c (.i .i64 1)]⟩, ⟨.t 52, none, (.bin .mul), [.c (.i .i64 3), .t 51]⟩, ⟨.t 53, none, .mv, [.l 5]⟩, ⟨.t 54, none, (.bin .add), [.t 52, .t 53]⟩, ⟨.t 55, none, .ixS, [.c (.s [114, 110, 45, 114, 114, 45, 114, 110, 45, 112, 45, 45, 114, 112, 45, 114, 45, 45, 45, 45, 45, 114, 103, 45, 114, 110, 45, 114, 114, 45, 114, 114, 114, 114, 45, 45, 114, 114, 45, 114, 114, 45, 114, 114, 114, 114, 45, 45, 114, 114, 114, 114, 114, 114, 114, 114, 103, 114, 114, 45, 114, 114, 114, 114, 114, 45, 114, 114, 114, 114, 114, 114, 114, 114, 45, 114, 114, 45, 114, 114, 45, 114, 114, 45, 114, 114, 45, 114, 114, 114, 114, 114, 103, 114, 114, 45]), .t 54]⟩, ⟨.t 56, none, .mv, [.l 6]⟩, ⟨.t 57, none, .mv, [.l 1]⟩, ⟨.t 58, none, (.call 146), [.t 55, .t 56, .t 57]⟩, ⟨.t 59, none, (.un .not), [.t 58]⟩])
 (.cond (.t 59) (.seq (.reg [⟨.l 4, none, .mv, [.c (.b false)]⟩])
 .ret) .skip))))
 (.reg [⟨.t 60, none, (.bin .add), [.l 44, .c (.i .i64 1)]⟩, ⟨.l 44, none, .mv, [.t 60]⟩])))))))
 (.seq (.reg [⟨.t 61, none, (.fad 4), [.l 2]⟩, ⟨.t 62, none, (.ld none), [.t 61]⟩, ⟨.t 63, none, (.call 147), [.t 62, .c (.fn 148 [] [])]⟩, ⟨.t 64, none, (.un .not), [.t 63]⟩, ⟨.l 4, none, .mv, [.t 64]⟩])
 .ret)))), [.tmp (.l 4)]⟩
/-- slices.IndexFunc[[]tarpaulin/api.Instr,tarpaulin/api.Instr] -/
def b94 : Nat := 435
def a94 : AFn := ⟨(.seq (.reg [⟨.l 4, none, .mv, [.c (.i .i64 0)]⟩])
 (.seq (.seq (.reg [⟨.t 6, none, .mv, [.l 0]⟩, ⟨.l 7, none, .lenSl, [.t 6]⟩, ⟨.l 8, none, .mv, [.c (.i .i64 0)]⟩])
 (.block 0 (.loop (.seq (.reg [⟨.t 9, none, (.bin .lss), [.l 8, .l 7]⟩])
 (.seq (.cond (.t 9) .skip (.exit 0))
 (.seq (.block 1 (.seq (.reg [⟨.t 10, none, .mv, [.l 8]⟩, ⟨.l 5, none, .mv, [.t 10]⟩])
 (.seq (.reg [⟨.t 11, none, .mv, [.l 1]⟩, ⟨.t 12, none, .mv, [.l 0]⟩, ⟨.t 13, none, .mv, [.l 5]⟩, ⟨.t 14, none, (.iad 6), [.t 12, .t 13]⟩, ⟨.t 15, none, (.ld (some 6)), [.t 14]⟩, ⟨.t 16, none, .callv, [.t 11, .t 15]⟩])
 (.cond (.t 16) (.seq (.reg [⟨.t 17, none, .mv, [.l 5]⟩, ⟨.l 4, none, .mv, [.t 17]⟩])
 .ret) .skip))))
 (.reg [⟨.t 18, none, (.bin .add), [.l 8, .c (.i .i64 1)]⟩, ⟨.l 8, none, .mv, [.t 18]⟩])))))))
 (.seq (.reg [⟨.l 4, none, .mv, [.c (.i .i64 (-1))]⟩])
 .ret))), [.tmp (.l 4)]⟩
/-- tarpaulin/heap.New -/
def b95 : Nat := 1
def a95 : AFn := ⟨(.seq (.reg [⟨.l 0, none, .mv, [.c (.p none)]⟩])
 (.seq (.reg [⟨.t 1, none, .mkmap, []⟩, ⟨.t 2, none, (.build [(.sl none 0 0 0), (.m none), (.i .i64 0)] [(1, 1)]), [.t 1]⟩, ⟨.t 3, none, .box, [.t 2]⟩, ⟨.l 0, none, .mv, [.t 3]⟩])
 .ret)), [.tmp (.l 0)]⟩
/-- (*tarpaulin/tree.Tree).Add -/
def b96 : Nat := 455
def a96 : AFn := ⟨(.seq (.reg [⟨.l 6, none, .mv, [.c (.i .i64 0)]⟩, ⟨.l 7, none, .mv, [.c (.i .i64 0)]⟩])
 (.seq (.block 0 (.seq (.seq (.reg [⟨.t 10, none, .mv, [.l 0]⟩, ⟨.t 11, none, (.eq false .ptr), [.t 10, .c (.p none)]⟩, ⟨.t 9, none, .mv, [.t 11]⟩])
 (.cond (.t 9) .skip (.reg [⟨.t 12, none, .mv, [.l 1]⟩, ⟨.t 13, none, (.bin .neq), [.t 12, .c (.i .i64 (-1))]⟩, ⟨.t 14, none, .mv, [.t 13]⟩, ⟨.t 15, (some (.t 14, true)), .mv, [.l 0]⟩, ⟨.t 16, (some (.t 14, true)), .mv, [.l 1]⟩, ⟨.t 17, (some (.t 14, true)), (.call 150), [.t 15, .t 16]⟩, ⟨.t 18, (some (.t 14, true)), (.un .not), [.t 17]⟩, ⟨.t 19, none, .pick, [.t 14, .t 18, .c (.b false)]⟩, ⟨.t 9, none, .mv, [.t 19]⟩])))
 (.cond (.t 9) (.seq (.reg [⟨.l 6, none, .mv, [.c (.i .i64 0)]⟩, ⟨.l 7, none, .mv, [.c (.i .i64 1)]⟩])
 .ret) (.seq (.reg [⟨.t 21, none, .mv, [.l 0]⟩, ⟨.t 22, none, .nilchk, [.t 21]⟩, ⟨.t 23, none, (.fad 0), [.t 22]⟩, ⟨.t 24, none, (.ld none), [.t 23]⟩, ⟨.t 25, none, .lenSl, [.t 24]⟩, ⟨.t 26, none, (.bin .geq), [.t 25, .c (.i .i64 1000)]⟩, ⟨.t 20, none, .mv, [.t 26]⟩])
 (.cond (.t 20) (.seq (.reg [⟨.l 6, none, .mv, [.c (.i .i64 0)]⟩, ⟨.l 7, none, .mv, [.c (.i .i64 3)]⟩])
 .ret) .skip)))))
 (.seq (.reg [⟨.t 27, none, .mv, [.l 0]⟩, ⟨.t 28, none, .nilchk, [.t 27]⟩, ⟨.t 29, none, (.fad 0), [.t 28]⟩, ⟨.t 30, none, (.ld none), [.t 29]⟩, ⟨.t 31, none, .lenSl, [.t 30]⟩, ⟨.l 8, none, .mv, [.t 31]⟩])
 (.seq (.reg [⟨.t 32, none, .mv, [.l 2]⟩, ⟨.t 33, none, .mv, [.t 32]⟩, ⟨.t 34, (some (.t 33, true)), .mv, [.l 1]⟩, ⟨.t 35, (some (.t 33, true)), (.bin .neq), [.t 34, .c (.i .i64 (-1))]⟩, ⟨.t 36, none, .pick, [.t 33, .t 35, .c (.b false)]⟩, ⟨.l 2, none, .mv, [.t 36]⟩])
 (.seq (.seq (.reg [⟨.t 37, none, .mv, [.l 2]⟩])
 (.cond (.t 37) (.regD [⟨.t 38, none, .mv, [.l 0]⟩, ⟨.t 39, none, .nilchk, [.t 38]⟩, ⟨.t 40, none, (.fad 0), [.t 39]⟩, ⟨.t 41, none, (.ld none), [.t 40]⟩, ⟨.t 42, none, .mv, [.l 1]⟩, ⟨.t 43, none, .mv, [.l 0]⟩, ⟨.t 44, none, .nilchk, [.t 43]⟩, ⟨.t 45, none, (.fad 0), [.t 44]⟩, ⟨.t 46, none, (.ld none), [.t 45]⟩, ⟨.t 47, none, .mv, [.l 1]⟩, ⟨.t 48, none, (.iad 3), [.t 46, .t 47]⟩, ⟨.t 49, none, (.fad 2), [.t 48]⟩, ⟨.t 50, none, (.ld none), [.t 49]⟩, ⟨.t 51, none, .mv, [.l 8]⟩, ⟨.t 52, none, (.bslice [(.i .i64 0)] 1 1 [0]), [.t 51]⟩, ⟨.t 53, none, (.app 1 8), [.t 50, .t 52]⟩, ⟨.t 54, none, (.iad 3), [.t 41, .t 42]⟩, ⟨.t 55, none, (.fad 2), [.t 54]⟩, ⟨.no, none, (.st 1), [.t 55, .t 53]⟩] [(3, 16)]) .skip))
 (.seq (.reg [⟨.t 56, none, .mv, [.l 0]⟩, ⟨.t 57, none, .mv, [.l 0]⟩, ⟨.t 58, none, .nilchk, [.t 57]⟩, ⟨.t 59, none, (.fad 0), [.t 58]⟩, ⟨.t 60, none, (.ld none), [.t 59]⟩, ⟨.t 61, none, .mv, [.l 1]⟩, ⟨.t 62, none, .mv, [.l 2]⟩, ⟨.t 63, none, (.build [(.i .i64 0), (.b false), (.sl none 0 0 0)] [(0, 1), (1, 1)]), [.t 61, .t 62]⟩, ⟨.t 64, none, (.bslice [(.i .i64 0), (.b false), (.sl none 0 0 0)] 1 3 [0]), [.t 63]⟩, ⟨.t 65, none, (.app 3 40), [.t 60, .t 64]⟩, ⟨.t 66, none, .nilchk, [.t 56]⟩, ⟨.t 67, none, (.fad 0), [.t 66]⟩, ⟨.no, none, (.st 1), [.t 67, .t 65]⟩])
 (.seq (.reg [⟨.t 68, none, .mv, [.l 8]⟩, ⟨.l 6, none, .mv, [.t 68]⟩, ⟨.l 7, none, .mv, [.c (.i .i64 0)]⟩])
 .ret))))))), [.tmp (.l 6), .tmp (.l 7)]⟩
/-- (*tarpaulin/arena.Arena[tarpaulin/task.Task]).Left -/
def b97 : Nat := 5
def a97 : AFn := ⟨(.seq (.reg [⟨.l 2, none, .mv, [.c (.i .i64 0)]⟩])
 (.seq (.seq (.reg [⟨.t 3, none, .mv, [.l 0]⟩, ⟨.t 4, none, (.eq false .ptr), [.t 3, .c (.p none)]⟩])
 (.cond (.t 4) (.seq (.reg [⟨.l 2, none, .mv, [.c (.i .i64 0)]⟩])
 .ret) .skip))
 (.seq (.reg [⟨.t 5, none, .mv, [.l 0]⟩, ⟨.t 6, none, .nilchk, [.t 5]⟩, ⟨.t 7, none, (.fad 1), [.t 6]⟩, ⟨.t 8, none, (.ld none), [.t 7]⟩, ⟨.t 9, none, .mv, [.l 0]⟩, ⟨.t 10, none, .nilchk, [.t 9]⟩, ⟨.t 11, none, (.fad 0), [.t 10]⟩, ⟨.t 12, none, (.ld none), [.t 11]⟩, ⟨.t 13, none, .lenSl, [.t 12]⟩, ⟨.t 14, none, (.bin .sub), [.t 8, .t 13]⟩, ⟨.l 2, none, .mv, [.t 14]⟩])
 .ret))), [.tmp (.l 2)]⟩
/-- slices.Contains[[]int,int] -/
def b98 : Nat := 19
def a98 : AFn := ⟨(.seq (.reg [⟨.l 4, none, .mv, [.c (.b false)]⟩])
 (.seq (.reg [⟨.t 5, none, .mv, [.l 0]⟩, ⟨.t 6, none, .mv, [.l 1]⟩, ⟨.t 7, none, (.call 144), [.t 5, .t 6]⟩, ⟨.t 8, none, (.bin .geq), [.t 7, .c (.i .i64 0)]⟩, ⟨.l 4, none, .mv, [.t 8]⟩])
 .ret)), [.tmp (.l 4)]⟩
/-- tarpaulin/clock.held -/
def b99 : Nat := 5
def a99 : AFn := ⟨(.seq (.reg [⟨.l 2, none, .mv, [.c (.i .i64 0)]⟩])
 (.seq (.reg [⟨.t 3, none, .mv, [.l 0]⟩, ⟨.t 4, none, .max, [.t 3, .c (.i .i64 (-4611686018427387904))]⟩, ⟨.t 5, none, .min, [.t 4, .c (.i .i64 4611686018427387904)]⟩, ⟨.l 2, none, .mv, [.t 5]⟩])
 .ret)), [.tmp (.l 2)]⟩
/-- (*tarpaulin/expire.Timers).Next -/
def b100 : Nat := 61
def a100 : AFn := ⟨(.seq (.reg [⟨.l 2, none, .mv, [.c (.i .i64 0)]⟩, ⟨.l 3, none, .mv, [.c (.b false)]⟩])
 (.seq (.seq (.reg [⟨.t 6, none, .mv, [.l 0]⟩, ⟨.t 7, none, (.eq false .ptr), [.t 6, .c (.p none)]⟩])
 (.cond (.t 7) (.seq (.reg [⟨.l 2, none, .mv, [.c (.i .i64 0)]⟩, ⟨.l 3, none, .mv, [.c (.b false)]⟩])
 .ret) .skip))
 (.seq (.reg [⟨.t 9, none, .mv, [.l 0]⟩, ⟨.t 10, none, .nilchk, [.t 9]⟩, ⟨.t 11, none, (.fad 0), [.t 10]⟩, ⟨.t 12, none, (.ld none), [.t 11]⟩, ⟨.t 13, none, (.call 151), [.t 12]⟩, ⟨.t 8, none, .mv, [.t 13]⟩, ⟨.t 14, none, (.ext 0), [.t 8]⟩, ⟨.t 15, none, (.ext 1), [.t 8]⟩, ⟨.l 4, none, (.alloc [(.i .i64 0), (.i .i64 0), (.i .i64 0)]), []⟩, ⟨.no, none, (.st 3), [.l 4, .t 14]⟩, ⟨.l 5, none, .mv, [.t 15]⟩])
 (.seq (.reg [⟨.t 16, none, (.fad 1), [.l 4]⟩, ⟨.t 17, none, (.ld none), [.t 16]⟩, ⟨.t 18, none, .mv, [.l 5]⟩, ⟨.l 2, none, .mv, [.t 17]⟩, ⟨.l 3, none, .mv, [.t 18]⟩])
 .ret)))), [.tmp (.l 2), .tmp (.l 3)]⟩
/-- (*tarpaulin/heap.Heap).Pop -/
def b101 : Nat := 61
def a101 : AFn := ⟨(.seq (.reg [⟨.l 2, none, (.alloc [(.i .i64 0), (.i .i64 0), (.i .i64 0)]), []⟩, ⟨.l 3, none, .mv, [.c (.b false)]⟩])
 (.seq (.reg [⟨.t 7, none, .mv, [.l 0]⟩, ⟨.t 8, none, (.call 151), [.t 7]⟩, ⟨.t 6, none, .mv, [.t 8]⟩, ⟨.t 9, none, (.ext 0), [.t 6]⟩, ⟨.t 10, none, (.ext 1), [.t 6]⟩, ⟨.l 4, none, (.alloc [(.i .i64 0), (.i .i64 0), (.i .i64 0)]), []⟩, ⟨.no, none, (.st 3), [.l 4, .t 9]⟩, ⟨.l 5, none, .mv, [.t 10]⟩])
 (.seq (.seq (.reg [⟨.t 11, none, .mv, [.l 5]⟩])
 (.cond (.t 11) (.reg [⟨.t 12, none, .mv, [.l 0]⟩, ⟨.t 13, none, (.fad 0), [.l 4]⟩, ⟨.t 14, none, (.ld none), [.t 13]⟩, ⟨.t 15, none, (.call 152), [.t 12, .t 14]⟩]) .skip))
 (.seq (.reg [⟨.t 16, none, (.ld (some 3)), [.l 4]⟩, ⟨.t 17, none, .mv, [.l 5]⟩, ⟨.no, none, (.st 3), [.l 2, .t 16]⟩, ⟨.l 3, none, .mv, [.t 17]⟩])
 .ret)))), [.cell (.l 2) (some 3), .tmp (.l 3)]⟩
/-- tarpaulin/clock.Next -/
def b102 : Nat := 199
def a102 : AFn := ⟨(.seq (.reg [⟨.l 6, none, .mv, [.c (.i .i64 0)]⟩, ⟨.l 7, none, .mv, [.c (.i .i64 0)]⟩])
 (.seq (.seq (.reg [⟨.t 8, none, .mv, [.l 1]⟩, ⟨.t 9, none, (.bin .lss), [.t 8, .c (.i .i64 1)]⟩, ⟨.t 10, none, .mv, [.t 9]⟩, ⟨.t 11, (some (.t 10, false)), .mv, [.l 0]⟩, ⟨.t 12, (some (.t 10, false)), .mv, [.l 2]⟩, ⟨.t 13, (some (.t 10, false)), .min, [.t 11, .t 12]⟩, ⟨.t 14, (some (.t 10, false)), (.bin .lss), [.t 13, .c (.i .i64 0)]⟩, ⟨.t 15, none, .pick, [.t 10, .c (.b true), .t 14]⟩, ⟨.t 16, none, .mv, [.t 15]⟩, ⟨.t 17, (some (.t 16, false)), .mv, [.l 0]⟩, ⟨.t 18, (some (.t 16, false)), .mv, [.l 1]⟩, ⟨.t 19, (some (.t 16, false)), .mv, [.l 2]⟩, ⟨.t 20, (some (.t 16, false)), .max, [.t 17, .t 18, .t 19]⟩, ⟨.t 21, (some (.t 16, false)), (.bin .gtr), [.t 20, .c (.i .i64 4611686018427387904)]⟩, ⟨.t 22, none, .pick, [.t 16, .c (.b true), .t 21]⟩])
 (.cond (.t 22) (.seq (.reg [⟨.l 6, none, .mv, [.c (.i .i64 0)]⟩, ⟨.l 7, none, .mv, [.c (.i .i64 1)]⟩])
 .ret) .skip))
 (.seq (.seq (.reg [⟨.t 23, none, .mv, [.l 0]⟩, ⟨.t 24, none, .mv, [.l 2]⟩, ⟨.t 25, none, (.bin .gtr), [.t 23, .t 24]⟩])
 (.cond (.t 25) (.seq (.reg [⟨.t 26, none, .mv, [.l 0]⟩, ⟨.l 6, none, .mv, [.t 26]⟩, ⟨.l 7, none, .mv, [.c (.i .i64 0)]⟩])
 .ret) .skip))
 (.seq (.reg [⟨.t 27, none, .mv, [.l 2]⟩, ⟨.t 28, none, .mv, [.l 1]⟩, ⟨.t 29, none, .mv, [.l 2]⟩, ⟨.t 30, none, .mv, [.l 0]⟩, ⟨.t 31, none, (.bin .sub), [.t 29, .t 30]⟩, ⟨.t 32, none, .mv, [.l 1]⟩, ⟨.t 33, none, (.bin .rem), [.t 31, .t 32]⟩, ⟨.t 34, none, (.bin .sub), [.t 28, .t 33]⟩, ⟨.t 35, none, (.call 60), [.t 27, .t 34]⟩, ⟨.l 6, none, .mv, [.t 35]⟩, ⟨.l 7, none, .mv, [.c (.i .i64 0)]⟩])
 .ret)))), [.tmp (.l 6), .tmp (.l 7)]⟩
/-- (*tarpaulin/expire.Timers).Arm -/
def b103 : Nat := 271
def a103 : AFn := ⟨(.seq (.reg [⟨.l 8, none, .mv, [.c (.i .i64 0)]⟩])
 (.seq (.seq (.reg [⟨.t 9, none, .mv, [.l 0]⟩, ⟨.t 10, none, (.eq false .ptr), [.t 9, .c (.p none)]⟩, ⟨.t 11, none, .mv, [.t 10]⟩, ⟨.t 12, (some (.t 11, false)), .mv, [.l 2]⟩, ⟨.t 13, (some (.t 11, false)), .mv, [.l 3]⟩, ⟨.t 14, (some (.t 11, false)), .min, [.t 12, .t 13]⟩, ⟨.t 15, (some (.t 11, false)), (.bin .lss), [.t 14, .c (.i .i64 0)]⟩, ⟨.t 16, none, .pick, [.t 11, .c (.b true), .t 15]⟩, ⟨.t 17, none, .mv, [.t 16]⟩, ⟨.t 18, (some (.t 17, false)), .mv, [.l 2]⟩, ⟨.t 19, (some (.t 17, false)), .mv, [.l 3]⟩, ⟨.t 20, (some (.t 17, false)), .max, [.t 18, .t 19]⟩, ⟨.t 21, (some (.t 17, false)), (.bin .gtr), [.t 20, .c (.i .i64 4611686018427387904)]⟩, ⟨.t 22, none, .pick, [.t 17, .c (.b true), .t 21]⟩])
 (.cond (.t 22) (.seq (.reg [⟨.l 8, none, .mv, [.c (.i .i64 1)]⟩])
 .ret) .skip))
 (.seq (.reg [⟨.t 23, none, .mv, [.l 0]⟩, ⟨.t 24, none, .mv, [.l 1]⟩, ⟨.t 25, none, (.call 153), [.t 23, .t 24]⟩])
 (.seq (.reg [⟨.t 26, none, .mv, [.l 0]⟩, ⟨.t 27, none, .nilchk, [.t 26]⟩, ⟨.t 28, none, (.fad 1), [.t 27]⟩, ⟨.t 29, none, (.ld none), [.t 28]⟩, ⟨.t 30, none, .mv, [.l 1]⟩, ⟨.t 31, none, .mv, [.l 3]⟩, ⟨.no, none, .mset, [.t 29, .t 30, .t 31]⟩])
 (.seq (.reg [⟨.t 32, none, .mv, [.l 0]⟩, ⟨.t 33, none, .nilchk, [.t 32]⟩, ⟨.t 34, none, (.fad 0), [.t 33]⟩, ⟨.t 35, none, (.ld none), [.t 34]⟩, ⟨.t 36, none, .mv, [.l 1]⟩, ⟨.t 37, none, .mv, [.l 2]⟩, ⟨.t 38, none, (.call 154), [.t 35, .t 36, .t 37]⟩, ⟨.l 8, none, .mv, [.t 38]⟩])
 .ret))))), [.tmp (.l 8)]⟩
theorem c3 : compFn Tryz.prog b3 Tryz.f3 = some a3 := by kernel_rfl
theorem c4 : compFn Tryz.prog b4 Tryz.f4 = some a4 := by kernel_rfl
theorem c5 : compFn Tryz.prog b5 Tryz.f5 = some a5 := by kernel_rfl
theorem c6 : compFn Tryz.prog b6 Tryz.f6 = some a6 := by kernel_rfl
theorem c7 : compFn Tryz.prog b7 Tryz.f7 = some a7 := by kernel_rfl
theorem c8 : compFn Tryz.prog b8 Tryz.f8 = some a8 := by kernel_rfl
theorem c9 : compFn Tryz.prog b9 Tryz.f9 = some a9 := by kernel_rfl
theorem c10 : compFn Tryz.prog b10 Tryz.f10 = some a10 := by kernel_rfl
theorem c11 : compFn Tryz.prog b11 Tryz.f11 = some a11 := by kernel_rfl
theorem c12 : compFn Tryz.prog b12 Tryz.f12 = some a12 := by kernel_rfl
theorem c13 : compFn Tryz.prog b13 Tryz.f13 = some a13 := by kernel_rfl
theorem c14 : compFn Tryz.prog b14 Tryz.f14 = some a14 := by kernel_rfl
theorem c15 : compFn Tryz.prog b15 Tryz.f15 = some a15 := by kernel_rfl
theorem c16 : compFn Tryz.prog b16 Tryz.f16 = some a16 := by kernel_rfl
theorem c17 : compFn Tryz.prog b17 Tryz.f17 = some a17 := by kernel_rfl
theorem c18 : compFn Tryz.prog b18 Tryz.f18 = some a18 := by kernel_rfl
theorem c19 : compFn Tryz.prog b19 Tryz.f19 = some a19 := by kernel_rfl
theorem c20 : compFn Tryz.prog b20 Tryz.f20 = some a20 := by kernel_rfl
theorem c21 : compFn Tryz.prog b21 Tryz.f21 = some a21 := by kernel_rfl
theorem c22 : compFn Tryz.prog b22 Tryz.f22 = some a22 := by kernel_rfl
theorem c23 : compFn Tryz.prog b23 Tryz.f23 = some a23 := by kernel_rfl
theorem c24 : compFn Tryz.prog b24 Tryz.f24 = some a24 := by kernel_rfl
theorem c25 : compFn Tryz.prog b25 Tryz.f25 = some a25 := by kernel_rfl
theorem c26 : compFn Tryz.prog b26 Tryz.f26 = some a26 := by kernel_rfl
theorem c27 : compFn Tryz.prog b27 Tryz.f27 = some a27 := by kernel_rfl
theorem c28 : compFn Tryz.prog b28 Tryz.f28 = some a28 := by kernel_rfl
theorem c29 : compFn Tryz.prog b29 Tryz.f29 = some a29 := by kernel_rfl
theorem c30 : compFn Tryz.prog b30 Tryz.f30 = some a30 := by kernel_rfl
theorem c31 : compFn Tryz.prog b31 Tryz.f31 = some a31 := by kernel_rfl
theorem c32 : compFn Tryz.prog b32 Tryz.f32 = some a32 := by kernel_rfl
theorem c33 : compFn Tryz.prog b33 Tryz.f33 = some a33 := by kernel_rfl
theorem c34 : compFn Tryz.prog b34 Tryz.f34 = some a34 := by kernel_rfl
theorem c35 : compFn Tryz.prog b35 Tryz.f35 = some a35 := by kernel_rfl
theorem c36 : compFn Tryz.prog b36 Tryz.f36 = some a36 := by kernel_rfl
theorem c37 : compFn Tryz.prog b37 Tryz.f37 = some a37 := by kernel_rfl
theorem c38 : compFn Tryz.prog b38 Tryz.f38 = some a38 := by kernel_rfl
theorem c39 : compFn Tryz.prog b39 Tryz.f39 = some a39 := by kernel_rfl
theorem c40 : compFn Tryz.prog b40 Tryz.f40 = some a40 := by kernel_rfl
theorem c41 : compFn Tryz.prog b41 Tryz.f41 = some a41 := by kernel_rfl
theorem c42 : compFn Tryz.prog b42 Tryz.f42 = some a42 := by kernel_rfl
theorem c43 : compFn Tryz.prog b43 Tryz.f43 = some a43 := by kernel_rfl
theorem c44 : compFn Tryz.prog b44 Tryz.f44 = some a44 := by kernel_rfl
theorem c45 : compFn Tryz.prog b45 Tryz.f45 = some a45 := by kernel_rfl
theorem c46 : compFn Tryz.prog b46 Tryz.f46 = some a46 := by kernel_rfl
theorem c47 : compFn Tryz.prog b47 Tryz.f47 = some a47 := by kernel_rfl
theorem c48 : compFn Tryz.prog b48 Tryz.f48 = some a48 := by kernel_rfl
theorem c49 : compFn Tryz.prog b49 Tryz.f49 = some a49 := by kernel_rfl
theorem c50 : compFn Tryz.prog b50 Tryz.f50 = some a50 := by kernel_rfl
theorem c51 : compFn Tryz.prog b51 Tryz.f51 = some a51 := by kernel_rfl
theorem c52 : compFn Tryz.prog b52 Tryz.f52 = some a52 := by kernel_rfl
theorem c53 : compFn Tryz.prog b53 Tryz.f53 = some a53 := by kernel_rfl
theorem c54 : compFn Tryz.prog b54 Tryz.f54 = some a54 := by kernel_rfl
theorem c55 : compFn Tryz.prog b55 Tryz.f55 = some a55 := by kernel_rfl
theorem c56 : compFn Tryz.prog b56 Tryz.f56 = some a56 := by kernel_rfl
theorem c57 : compFn Tryz.prog b57 Tryz.f57 = some a57 := by kernel_rfl
theorem c58 : compFn Tryz.prog b58 Tryz.f58 = some a58 := by kernel_rfl
theorem c59 : compFn Tryz.prog b59 Tryz.f59 = some a59 := by kernel_rfl
theorem c60 : compFn Tryz.prog b60 Tryz.f60 = some a60 := by kernel_rfl
theorem c61 : compFn Tryz.prog b61 Tryz.f61 = some a61 := by kernel_rfl
theorem c62 : compFn Tryz.prog b62 Tryz.f62 = some a62 := by kernel_rfl
theorem c63 : compFn Tryz.prog b63 Tryz.f63 = some a63 := by kernel_rfl
theorem c64 : compFn Tryz.prog b64 Tryz.f64 = some a64 := by kernel_rfl
theorem c65 : compFn Tryz.prog b65 Tryz.f65 = some a65 := by kernel_rfl
theorem c66 : compFn Tryz.prog b66 Tryz.f66 = some a66 := by kernel_rfl
theorem c67 : compFn Tryz.prog b67 Tryz.f67 = some a67 := by kernel_rfl
theorem c68 : compFn Tryz.prog b68 Tryz.f68 = some a68 := by kernel_rfl
theorem c69 : compFn Tryz.prog b69 Tryz.f69 = some a69 := by kernel_rfl
theorem c70 : compFn Tryz.prog b70 Tryz.f70 = some a70 := by kernel_rfl
theorem c71 : compFn Tryz.prog b71 Tryz.f71 = some a71 := by kernel_rfl
theorem c72 : compFn Tryz.prog b72 Tryz.f72 = some a72 := by kernel_rfl
theorem c73 : compFn Tryz.prog b73 Tryz.f73 = some a73 := by kernel_rfl
theorem c74 : compFn Tryz.prog b74 Tryz.f74 = some a74 := by kernel_rfl
theorem c75 : compFn Tryz.prog b75 Tryz.f75 = some a75 := by kernel_rfl
theorem c76 : compFn Tryz.prog b76 Tryz.f76 = some a76 := by kernel_rfl
theorem c77 : compFn Tryz.prog b77 Tryz.f77 = some a77 := by kernel_rfl
theorem c78 : compFn Tryz.prog b78 Tryz.f78 = some a78 := by kernel_rfl
theorem c79 : compFn Tryz.prog b79 Tryz.f79 = some a79 := by kernel_rfl
theorem c80 : compFn Tryz.prog b80 Tryz.f80 = some a80 := by kernel_rfl
theorem c81 : compFn Tryz.prog b81 Tryz.f81 = some a81 := by kernel_rfl
theorem c82 : compFn Tryz.prog b82 Tryz.f82 = some a82 := by kernel_rfl
theorem c83 : compFn Tryz.prog b83 Tryz.f83 = some a83 := by kernel_rfl
theorem c84 : compFn Tryz.prog b84 Tryz.f84 = some a84 := by kernel_rfl
theorem c85 : compFn Tryz.prog b85 Tryz.f85 = some a85 := by kernel_rfl
theorem c86 : compFn Tryz.prog b86 Tryz.f86 = some a86 := by kernel_rfl
theorem c87 : compFn Tryz.prog b87 Tryz.f87 = some a87 := by kernel_rfl
theorem c88 : compFn Tryz.prog b88 Tryz.f88 = some a88 := by kernel_rfl
theorem c89 : compFn Tryz.prog b89 Tryz.f89 = some a89 := by kernel_rfl
theorem c90 : compFn Tryz.prog b90 Tryz.f90 = some a90 := by kernel_rfl
theorem c91 : compFn Tryz.prog b91 Tryz.f91 = some a91 := by kernel_rfl
theorem c92 : compFn Tryz.prog b92 Tryz.f92 = some a92 := by kernel_rfl
theorem c93 : compFn Tryz.prog b93 Tryz.f93 = some a93 := by kernel_rfl
theorem c94 : compFn Tryz.prog b94 Tryz.f94 = some a94 := by kernel_rfl
theorem c95 : compFn Tryz.prog b95 Tryz.f95 = some a95 := by kernel_rfl
theorem c96 : compFn Tryz.prog b96 Tryz.f96 = some a96 := by kernel_rfl
theorem c97 : compFn Tryz.prog b97 Tryz.f97 = some a97 := by kernel_rfl
theorem c98 : compFn Tryz.prog b98 Tryz.f98 = some a98 := by kernel_rfl
theorem c99 : compFn Tryz.prog b99 Tryz.f99 = some a99 := by kernel_rfl
theorem c100 : compFn Tryz.prog b100 Tryz.f100 = some a100 := by kernel_rfl
theorem c101 : compFn Tryz.prog b101 Tryz.f101 = some a101 := by kernel_rfl
theorem c102 : compFn Tryz.prog b102 Tryz.f102 = some a102 := by kernel_rfl
theorem c103 : compFn Tryz.prog b103 Tryz.f103 = some a103 := by kernel_rfl
end Go.Proofs.YtjmnmaaipcbmnaaGreat.T
