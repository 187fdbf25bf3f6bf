/- The abstract machine's code of functions of this seat's program, and that it is compiled from the program's; the other half. PRINTED by our glue3.py over our printam.lean. -/
import Derived.Test.YtjmnmaaipcbmnaaGreatChecked
import Derived.Test.YtjmnmaaipcbmnaaGreatAmW
import Derived.KernelRfl
set_option maxRecDepth 100000
set_option maxHeartbeats 4000000
set_option linter.unusedVariables false
namespace Go.Proofs.YtjmnmaaipcbmnaaGreat.T
open Go.AM

/-- (*tarpaulin/chanq.Chan).deliver -/
def b104 : Nat := 115
def a104 : AFn := ⟨(.seq (.reg [⟨.l 4, none, .mv, [.c (.sl none 0 0 0)]⟩])
 (.seq (.reg [⟨.t 8, none, .mv, [.l 0]⟩, ⟨.t 9, none, .nilchk, [.t 8]⟩, ⟨.t 10, none, (.fad 1), [.t 9]⟩, ⟨.t 11, none, (.ld none), [.t 10]⟩, ⟨.t 12, none, (.call 155), [.t 11]⟩, ⟨.t 7, none, .mv, [.t 12]⟩, ⟨.t 13, none, (.ext 0), [.t 7]⟩, ⟨.t 14, none, (.ext 1), [.t 7]⟩, ⟨.l 5, none, (.alloc [(.i .i64 0), (.i .i64 0), (.i .i64 0)]), []⟩, ⟨.no, none, (.st 3), [.l 5, .t 13]⟩, ⟨.l 6, none, .mv, [.t 14]⟩])
 (.seq (.seq (.reg [⟨.t 15, none, .mv, [.l 6]⟩, ⟨.t 16, none, (.un .not), [.t 15]⟩])
 (.cond (.t 16) (.seq (.reg [⟨.l 4, none, .mv, [.c (.sl none 0 0 0)]⟩])
 .ret) .skip))
 (.seq (.reg [⟨.t 17, none, (.fad 0), [.l 5]⟩, ⟨.t 18, none, (.ld none), [.t 17]⟩, ⟨.t 19, none, (.fad 1), [.l 5]⟩, ⟨.t 20, none, (.ld none), [.t 19]⟩, ⟨.t 21, none, .mv, [.l 1]⟩, ⟨.t 22, none, (.build [(.i .i64 0), (.i .i64 0), (.i .i64 0), (.b false), (.b false)] [(0, 1), (1, 1), (2, 1), (3, 1)]), [.t 18, .t 20, .t 21, .c (.b true)]⟩, ⟨.t 23, none, (.bslice [(.i .i64 0), (.i .i64 0), (.i .i64 0), (.b false), (.b false)] 1 5 [0]), [.t 22]⟩, ⟨.l 4, none, .mv, [.t 23]⟩])
 .ret)))), [.tmp (.l 4)]⟩
/-- (*tarpaulin/ring.Ring).Push -/
def b105 : Nat := 19
def a105 : AFn := ⟨(.seq (.reg [⟨.l 4, none, .mv, [.c (.b false)]⟩])
 (.seq (.seq (.reg [⟨.t 5, none, .mv, [.l 0]⟩, ⟨.t 6, none, (.eq false .ptr), [.t 5, .c (.p none)]⟩, ⟨.t 7, none, .mv, [.t 6]⟩, ⟨.t 8, (some (.t 7, false)), .mv, [.l 0]⟩, ⟨.t 9, (some (.t 7, false)), .nilchk, [.t 8]⟩, ⟨.t 10, (some (.t 7, false)), (.fad 2), [.t 9]⟩, ⟨.t 11, (some (.t 7, false)), (.ld none), [.t 10]⟩, ⟨.t 12, (some (.t 7, false)), .mv, [.l 0]⟩, ⟨.t 13, (some (.t 7, false)), .nilchk, [.t 12]⟩, ⟨.t 14, (some (.t 7, false)), (.fad 0), [.t 13]⟩, ⟨.t 15, (some (.t 7, false)), (.ld none), [.t 14]⟩, ⟨.t 16, (some (.t 7, false)), .lenSl, [.t 15]⟩, ⟨.t 17, (some (.t 7, false)), (.bin .eql), [.t 11, .t 16]⟩, ⟨.t 18, none, .pick, [.t 7, .c (.b true), .t 17]⟩])
 (.cond (.t 18) (.seq (.reg [⟨.l 4, none, .mv, [.c (.b false)]⟩])
 .ret) .skip))
 (.seq (.reg [⟨.t 19, none, .mv, [.l 0]⟩, ⟨.t 20, none, .nilchk, [.t 19]⟩, ⟨.t 21, none, (.fad 0), [.t 20]⟩, ⟨.t 22, none, (.ld none), [.t 21]⟩, ⟨.t 23, none, .mv, [.l 0]⟩, ⟨.t 24, none, .nilchk, [.t 23]⟩, ⟨.t 25, none, (.fad 1), [.t 24]⟩, ⟨.t 26, none, (.ld none), [.t 25]⟩, ⟨.t 27, none, .mv, [.l 0]⟩, ⟨.t 28, none, .nilchk, [.t 27]⟩, ⟨.t 29, none, (.fad 2), [.t 28]⟩, ⟨.t 30, none, (.ld none), [.t 29]⟩, ⟨.t 31, none, (.bin .add), [.t 26, .t 30]⟩, ⟨.t 32, none, .mv, [.l 0]⟩, ⟨.t 33, none, .nilchk, [.t 32]⟩, ⟨.t 34, none, (.fad 0), [.t 33]⟩, ⟨.t 35, none, (.ld none), [.t 34]⟩, ⟨.t 36, none, .lenSl, [.t 35]⟩, ⟨.t 37, none, (.bin .rem), [.t 31, .t 36]⟩, ⟨.t 38, none, .mv, [.l 1]⟩, ⟨.t 39, none, (.iad 1), [.t 22, .t 37]⟩, ⟨.no, none, (.st 1), [.t 39, .t 38]⟩])
 (.seq (.reg [⟨.t 40, none, .mv, [.l 0]⟩, ⟨.t 41, none, .nilchk, [.t 40]⟩, ⟨.t 42, none, (.fad 2), [.t 41]⟩, ⟨.t 43, none, (.ld none), [.t 42]⟩, ⟨.t 44, none, (.bin .add), [.t 43, .c (.i .i64 1)]⟩, ⟨.t 45, none, .nilchk, [.t 40]⟩, ⟨.t 46, none, (.fad 2), [.t 45]⟩, ⟨.no, none, (.st 1), [.t 46, .t 44]⟩])
 (.seq (.reg [⟨.l 4, none, .mv, [.c (.b true)]⟩])
 .ret))))), [.tmp (.l 4)]⟩
/-- (*tarpaulin/ctx.Set).has -/
def b106 : Nat := 19
def a106 : AFn := ⟨(.seq (.reg [⟨.l 4, none, .mv, [.c (.b false)]⟩])
 (.seq (.reg [⟨.t 5, none, .mv, [.l 0]⟩, ⟨.t 6, none, (.eq true .ptr), [.t 5, .c (.p none)]⟩, ⟨.t 7, none, .mv, [.t 6]⟩, ⟨.t 8, (some (.t 7, true)), .mv, [.l 1]⟩, ⟨.t 9, (some (.t 7, true)), (.bin .geq), [.t 8, .c (.i .i64 0)]⟩, ⟨.t 10, none, .pick, [.t 7, .t 9, .c (.b false)]⟩, ⟨.t 11, none, .mv, [.t 10]⟩, ⟨.t 12, (some (.t 11, true)), .mv, [.l 1]⟩, ⟨.t 13, (some (.t 11, true)), .mv, [.l 0]⟩, ⟨.t 14, (some (.t 11, true)), .nilchk, [.t 13]⟩, ⟨.t 15, (some (.t 11, true)), (.fad 2), [.t 14]⟩, ⟨.t 16, (some (.t 11, true)), (.ld none), [.t 15]⟩, ⟨.t 17, (some (.t 11, true)), .lenSl, [.t 16]⟩, ⟨.t 18, (some (.t 11, true)), (.bin .lss), [.t 12, .t 17]⟩, ⟨.t 19, none, .pick, [.t 11, .t 18, .c (.b false)]⟩, ⟨.l 4, none, .mv, [.t 19]⟩])
 .ret)), [.tmp (.l 4)]⟩
/-- (*tarpaulin/ctx.Set).cancel -/
def b107 : Nat := 2066035336255469844239
def a107 : AFn := ⟨(.seq (.reg [⟨.l 8, none, .mv, [.c (.sl none 0 0 0)]⟩, ⟨.l 9, none, .mv, [.c (.sl none 0 0 0)]⟩])
 (.seq (.reg [⟨.t 16, none, .mv, [.l 0]⟩, ⟨.t 17, none, .nilchk, [.t 16]⟩, ⟨.t 18, none, (.fad 2), [.t 17]⟩, ⟨.t 19, none, (.ld none), [.t 18]⟩, ⟨.t 20, none, .mv, [.l 1]⟩, ⟨.t 21, none, (.iad 9), [.t 19, .t 20]⟩, ⟨.l 10, none, .mv, [.t 21]⟩])
 (.seq (.seq (.reg [⟨.t 22, none, .mv, [.l 10]⟩, ⟨.t 23, none, .nilchk, [.t 22]⟩, ⟨.t 24, none, (.fad 1), [.t 23]⟩, ⟨.t 25, none, (.ld none), [.t 24]⟩, ⟨.t 26, none, .mv, [.t 25]⟩, ⟨.t 27, (some (.t 26, false)), .mv, [.l 10]⟩, ⟨.t 28, (some (.t 26, false)), .nilchk, [.t 27]⟩, ⟨.t 29, (some (.t 26, false)), (.fad 3), [.t 28]⟩, ⟨.t 30, (some (.t 26, false)), (.ld none), [.t 29]⟩, ⟨.t 31, (some (.t 26, false)), (.bin .neq), [.t 30, .c (.i .i64 0)]⟩, ⟨.t 32, none, .pick, [.t 26, .c (.b true), .t 31]⟩])
 (.cond (.t 32) (.seq (.reg [⟨.l 8, none, .mv, [.c (.sl none 0 0 0)]⟩, ⟨.l 9, none, .mv, [.c (.sl none 0 0 0)]⟩])
 .ret) .skip))
 (.seq (.reg [⟨.t 33, none, .mv, [.l 10]⟩, ⟨.t 34, none, .mv, [.l 10]⟩, ⟨.t 35, none, .mv, [.l 2]⟩, ⟨.t 36, none, .mv, [.l 3]⟩, ⟨.t 37, none, .nilchk, [.t 33]⟩, ⟨.t 38, none, (.fad 3), [.t 37]⟩, ⟨.no, none, (.st 1), [.t 38, .t 35]⟩, ⟨.t 39, none, .nilchk, [.t 34]⟩, ⟨.t 40, none, (.fad 4), [.t 39]⟩, ⟨.no, none, (.st 1), [.t 40, .t 36]⟩])
 (.seq (.reg [⟨.t 41, none, .mv, [.l 1]⟩, ⟨.t 42, none, .mv, [.l 2]⟩, ⟨.t 43, none, .mv, [.l 3]⟩, ⟨.t 44, none, .mv, [.l 10]⟩, ⟨.t 45, none, .nilchk, [.t 44]⟩, ⟨.t 46, none, (.fad 2), [.t 45]⟩, ⟨.t 47, none, (.ld none), [.t 46]⟩, ⟨.t 48, none, (.call 156), [.t 47]⟩, ⟨.t 49, none, (.build [(.i .i64 0), (.i .i64 0), (.i .i64 0), (.sl none 0 0 0)] [(0, 1), (1, 1), (2, 1), (3, 1)]), [.t 41, .t 42, .t 43, .t 48]⟩, ⟨.t 50, none, (.bslice [(.i .i64 0), (.i .i64 0), (.i .i64 0), (.sl none 0 0 0)] 1 4 [0]), [.t 49]⟩, ⟨.l 8, none, .mv, [.t 50]⟩])
 (.seq (.reg [⟨.t 51, none, .mv, [.l 0]⟩, ⟨.t 52, none, .nilchk, [.t 51]⟩, ⟨.t 53, none, (.fad 0), [.t 52]⟩, ⟨.t 54, none, (.ld none), [.t 53]⟩, ⟨.t 55, none, .mv, [.l 10]⟩, ⟨.t 56, none, .nilchk, [.t 55]⟩, ⟨.t 57, none, (.fad 8), [.t 56]⟩, ⟨.t 58, none, (.ld none), [.t 57]⟩, ⟨.t 59, none, (.call 132), [.t 54, .t 58]⟩])
 (.seq (.seq (.reg [⟨.t 60, none, .mv, [.l 0]⟩, ⟨.t 61, none, .nilchk, [.t 60]⟩, ⟨.t 62, none, (.fad 1), [.t 61]⟩, ⟨.t 63, none, (.ld none), [.t 62]⟩, ⟨.t 64, none, .mv, [.l 10]⟩, ⟨.t 65, none, .nilchk, [.t 64]⟩, ⟨.t 66, none, (.fad 0), [.t 65]⟩, ⟨.t 67, none, (.ld none), [.t 66]⟩, ⟨.l 68, none, (.call 157), [.t 63, .t 67]⟩, ⟨.l 69, none, .lenSl, [.l 68]⟩, ⟨.l 70, none, .mv, [.c (.i .i64 0)]⟩])
 (.block 0 (.loop (.seq (.reg [⟨.t 71, none, (.bin .lss), [.l 70, .l 69]⟩])
 (.seq (.cond (.t 71) .skip (.exit 0))
 (.seq (.block 1 (.seq (.reg [⟨.t 72, none, (.iad 1), [.l 68, .l 70]⟩, ⟨.t 73, none, (.ld none), [.t 72]⟩, ⟨.l 12, none, .mv, [.t 73]⟩])
 (.seq (.reg [⟨.t 74, none, .mv, [.l 0]⟩, ⟨.t 75, none, .nilchk, [.t 74]⟩, ⟨.t 76, none, (.fad 4), [.t 75]⟩, ⟨.t 77, none, (.ld none), [.t 76]⟩, ⟨.t 78, none, .mv, [.l 12]⟩, ⟨.t 79, none, (.lkup (.i .i64 0) false), [.t 77, .t 78]⟩, ⟨.l 13, none, .mv, [.t 79]⟩])
 (.seq (.seq (.reg [⟨.t 80, none, .mv, [.l 13]⟩, ⟨.t 81, none, (.bin .lss), [.t 80, .c (.i .i64 0)]⟩])
 (.cond (.t 81) (.seq (.reg [⟨.t 82, none, .mv, [.l 9]⟩, ⟨.t 83, none, .mv, [.l 0]⟩, ⟨.t 84, none, .mv, [.l 13]⟩, ⟨.t 85, none, (.un .neg), [.t 84]⟩, ⟨.t 86, none, (.bin .sub), [.t 85, .c (.i .i64 1)]⟩, ⟨.t 87, none, (.call 158), [.t 83, .t 86]⟩, ⟨.t 88, none, (.bslice [(.i .i64 0), (.i .i64 0)] 1 2 [0]), [.t 87]⟩, ⟨.t 89, none, (.app 2 16), [.t 82, .t 88]⟩, ⟨.l 9, none, .mv, [.t 89]⟩])
 (.exit 1)) .skip))
 (.seq (.reg [⟨.t 91, none, .mv, [.l 0]⟩, ⟨.t 92, none, .mv, [.l 13]⟩, ⟨.t 93, none, .mv, [.l 2]⟩, ⟨.t 94, none, .mv, [.l 3]⟩, ⟨.t 95, none, (.call 107), [.t 91, .t 92, .t 93, .t 94]⟩, ⟨.t 90, none, .mv, [.t 95]⟩, ⟨.t 96, none, (.ext 0), [.t 90]⟩, ⟨.t 97, none, (.ext 1), [.t 90]⟩, ⟨.l 14, none, .mv, [.t 96]⟩, ⟨.l 15, none, .mv, [.t 97]⟩])
 (.reg [⟨.t 98, none, .mv, [.l 8]⟩, ⟨.t 99, none, .mv, [.l 14]⟩, ⟨.t 100, none, (.app 4 48), [.t 98, .t 99]⟩, ⟨.t 101, none, .mv, [.l 9]⟩, ⟨.t 102, none, .mv, [.l 15]⟩, ⟨.t 103, none, (.app 2 16), [.t 101, .t 102]⟩, ⟨.l 8, none, .mv, [.t 100]⟩, ⟨.l 9, none, .mv, [.t 103]⟩]))))))
 (.reg [⟨.t 104, none, (.bin .add), [.l 70, .c (.i .i64 1)]⟩, ⟨.l 70, none, .mv, [.t 104]⟩])))))))
 (.seq (.reg [⟨.t 105, none, .mv, [.l 0]⟩, ⟨.t 106, none, .nilchk, [.t 105]⟩, ⟨.t 107, none, (.fad 1), [.t 106]⟩, ⟨.t 108, none, (.ld none), [.t 107]⟩, ⟨.t 109, none, .mv, [.l 10]⟩, ⟨.t 110, none, .nilchk, [.t 109]⟩, ⟨.t 111, none, (.fad 0), [.t 110]⟩, ⟨.t 112, none, (.ld none), [.t 111]⟩, ⟨.t 113, none, (.call 159), [.t 108, .t 112]⟩])
 (.seq (.reg [⟨.t 114, none, .mv, [.l 8]⟩, ⟨.t 115, none, .mv, [.l 9]⟩, ⟨.l 8, none, .mv, [.t 114]⟩, ⟨.l 9, none, .mv, [.t 115]⟩])
 .ret))))))))), [.tmp (.l 8), .tmp (.l 9)]⟩
/-- (*tarpaulin/deal.Log).Add -/
def b108 : Nat := 27
def a108 : AFn := ⟨(.seq (.reg [⟨.l 3, none, .box, [.l 1]⟩, ⟨.l 4, none, .mv, [.c (.i .i64 0)]⟩])
 (.seq (.seq (.reg [⟨.t 5, none, .mv, [.l 0]⟩, ⟨.t 6, none, (.eq false .ptr), [.t 5, .c (.p none)]⟩, ⟨.t 7, none, .mv, [.t 6]⟩, ⟨.t 8, (some (.t 7, false)), (.fad 0), [.l 3]⟩, ⟨.t 9, (some (.t 7, false)), (.ld none), [.t 8]⟩, ⟨.t 10, (some (.t 7, false)), (.bin .lss), [.t 9, .c (.i .i64 0)]⟩, ⟨.t 11, none, .pick, [.t 7, .c (.b true), .t 10]⟩, ⟨.t 12, none, .mv, [.t 11]⟩, ⟨.t 13, (some (.t 12, false)), (.fad 1), [.l 3]⟩, ⟨.t 14, (some (.t 12, false)), (.ld none), [.t 13]⟩, ⟨.t 15, (some (.t 12, false)), (.bin .lss), [.t 14, .c (.i .i64 (-1))]⟩, ⟨.t 16, none, .pick, [.t 12, .c (.b true), .t 15]⟩])
 (.cond (.t 16) (.seq (.reg [⟨.l 4, none, .mv, [.c (.i .i64 1)]⟩])
 .ret) .skip))
 (.seq (.reg [⟨.t 17, none, .mv, [.l 0]⟩, ⟨.t 18, none, .mv, [.l 0]⟩, ⟨.t 19, none, .nilchk, [.t 18]⟩, ⟨.t 20, none, (.fad 0), [.t 19]⟩, ⟨.t 21, none, (.ld none), [.t 20]⟩, ⟨.t 22, none, (.ld (some 5)), [.l 3]⟩, ⟨.t 23, none, (.bslice [(.i .i64 0), (.i .i64 0), (.i .i64 0), (.b false), (.i .i64 0)] 1 5 [0]), [.t 22]⟩, ⟨.t 24, none, (.app 5 40), [.t 21, .t 23]⟩, ⟨.t 25, none, .nilchk, [.t 17]⟩, ⟨.t 26, none, (.fad 0), [.t 25]⟩, ⟨.no, none, (.st 1), [.t 26, .t 24]⟩])
 (.seq (.reg [⟨.l 4, none, .mv, [.c (.i .i64 0)]⟩])
 .ret)))), [.tmp (.l 4)]⟩
/-- slices.Index[[]*tarpaulin/chanq.Chan,*tarpaulin/chanq.Chan] -/
def b109 : Nat := 435
def a109 : AFn := ⟨(.seq (.reg [⟨.l 4, none, .mv, [.c (.i .i64 0)]⟩])
 (.seq (.seq (.reg [⟨.t 6, none, .mv, [.l 0]⟩, ⟨.l 7, none, .lenSl, [.t 6]⟩, ⟨.l 8, none, .mv, [.c (.i .i64 0)]⟩])
 (.block 0 (.loop (.seq (.reg [⟨.t 9, none, (.bin .lss), [.l 8, .l 7]⟩])
 (.seq (.cond (.t 9) .skip (.exit 0))
 (.seq (.block 1 (.seq (.reg [⟨.t 10, none, .mv, [.l 8]⟩, ⟨.l 5, none, .mv, [.t 10]⟩])
 (.seq (.reg [⟨.t 11, none, .mv, [.l 1]⟩, ⟨.t 12, none, .mv, [.l 0]⟩, ⟨.t 13, none, .mv, [.l 5]⟩, ⟨.t 14, none, (.iad 1), [.t 12, .t 13]⟩, ⟨.t 15, none, (.ld none), [.t 14]⟩, ⟨.t 16, none, (.eq false .ptr), [.t 11, .t 15]⟩])
 (.cond (.t 16) (.seq (.reg [⟨.t 17, none, .mv, [.l 5]⟩, ⟨.l 4, none, .mv, [.t 17]⟩])
 .ret) .skip))))
 (.reg [⟨.t 18, none, (.bin .add), [.l 8, .c (.i .i64 1)]⟩, ⟨.l 8, none, .mv, [.t 18]⟩])))))))
 (.seq (.reg [⟨.l 4, none, .mv, [.c (.i .i64 (-1))]⟩])
 .ret))), [.tmp (.l 4)]⟩
/-- (*tarpaulin/timer.Set).has -/
def b110 : Nat := 19
def a110 : AFn := ⟨(.seq (.reg [⟨.l 4, none, .mv, [.c (.b false)]⟩])
 (.seq (.reg [⟨.t 5, none, .mv, [.l 0]⟩, ⟨.t 6, none, (.eq true .ptr), [.t 5, .c (.p none)]⟩, ⟨.t 7, none, .mv, [.t 6]⟩, ⟨.t 8, (some (.t 7, true)), .mv, [.l 1]⟩, ⟨.t 9, (some (.t 7, true)), (.bin .geq), [.t 8, .c (.i .i64 0)]⟩, ⟨.t 10, none, .pick, [.t 7, .t 9, .c (.b false)]⟩, ⟨.t 11, none, .mv, [.t 10]⟩, ⟨.t 12, (some (.t 11, true)), .mv, [.l 1]⟩, ⟨.t 13, (some (.t 11, true)), .mv, [.l 0]⟩, ⟨.t 14, (some (.t 11, true)), .nilchk, [.t 13]⟩, ⟨.t 15, (some (.t 11, true)), (.fad 0), [.t 14]⟩, ⟨.t 16, (some (.t 11, true)), (.ld none), [.t 15]⟩, ⟨.t 17, (some (.t 11, true)), .lenSl, [.t 16]⟩, ⟨.t 18, (some (.t 11, true)), (.bin .lss), [.t 12, .t 17]⟩, ⟨.t 19, none, .pick, [.t 11, .t 18, .c (.b false)]⟩, ⟨.l 4, none, .mv, [.t 19]⟩])
 .ret)), [.tmp (.l 4)]⟩
/-- (*tarpaulin/world.World).passed -/
def b111 : Nat := 119
def a111 : AFn := ⟨(.seq (.reg [⟨.l 4, none, .box, [.l 1]⟩, ⟨.l 5, none, .box, [.l 2]⟩])
 (.seq (.reg [⟨.t 7, none, (.fad 12), [.l 4]⟩, ⟨.t 8, none, (.ld (some 6)), [.t 7]⟩, ⟨.l 6, none, (.alloc [(.i .i64 0), (.i .i64 0), (.i .i64 0), (.i .i64 0), (.sl none 0 0 0), (.b false)]), []⟩, ⟨.no, none, (.st 6), [.l 6, .t 8]⟩])
 (.block 0 (.seq (.reg [⟨.t 10, none, (.fad 4), [.l 5]⟩, ⟨.t 11, none, (.ld none), [.t 10]⟩, ⟨.t 9, none, .mv, [.t 11]⟩])
 (.cond (.t 9) .skip (.seq (.reg [⟨.t 13, none, (.fad 0), [.l 6]⟩, ⟨.t 14, none, (.ld none), [.t 13]⟩, ⟨.t 15, none, (.bin .eql), [.t 14, .c (.i .i64 10)]⟩, ⟨.t 12, none, .mv, [.t 15]⟩])
 (.cond (.t 12) (.reg [⟨.t 16, none, .mv, [.l 0]⟩, ⟨.t 17, none, (.fad 1), [.l 6]⟩, ⟨.t 18, none, (.ld none), [.t 17]⟩, ⟨.t 19, none, (.fad 4), [.l 4]⟩, ⟨.t 20, none, (.iadA 8 1), [.t 19, .t 18]⟩, ⟨.t 21, none, (.ld none), [.t 20]⟩, ⟨.t 22, none, (.fad 0), [.l 5]⟩, ⟨.t 23, none, (.ld none), [.t 22]⟩, ⟨.t 24, none, (.fad 2), [.l 6]⟩, ⟨.t 25, none, (.ld none), [.t 24]⟩, ⟨.t 26, none, (.fad 4), [.l 4]⟩, ⟨.t 27, none, (.iadA 8 1), [.t 26, .t 25]⟩, ⟨.t 28, none, (.ld none), [.t 27]⟩, ⟨.t 29, none, (.call 66), [.t 16, .t 21, .t 23, .t 28, .c (.b false)]⟩]) (.seq (.reg [⟨.t 31, none, (.fad 0), [.l 6]⟩, ⟨.t 32, none, (.ld none), [.t 31]⟩, ⟨.t 33, none, (.bin .eql), [.t 32, .c (.i .i64 11)]⟩, ⟨.t 34, none, .mv, [.t 33]⟩, ⟨.t 35, (some (.t 34, true)), (.fad 3), [.l 5]⟩, ⟨.t 36, (some (.t 34, true)), (.ld none), [.t 35]⟩, ⟨.t 37, none, .pick, [.t 34, .t 36, .c (.b false)]⟩, ⟨.t 30, none, .mv, [.t 37]⟩])
 (.cond (.t 30) (.reg [⟨.t 38, none, .mv, [.l 0]⟩, ⟨.t 39, none, (.fad 1), [.l 6]⟩, ⟨.t 40, none, (.ld none), [.t 39]⟩, ⟨.t 41, none, (.fad 4), [.l 4]⟩, ⟨.t 42, none, (.iadA 8 1), [.t 41, .t 40]⟩, ⟨.t 43, none, (.ld none), [.t 42]⟩, ⟨.t 44, none, (.fad 0), [.l 5]⟩, ⟨.t 45, none, (.ld none), [.t 44]⟩, ⟨.t 46, none, (.fad 2), [.l 5]⟩, ⟨.t 47, none, (.ld none), [.t 46]⟩, ⟨.t 48, none, (.call 66), [.t 38, .t 43, .t 45, .t 47, .c (.b true)]⟩]) (.seq (.reg [⟨.t 50, none, (.fad 0), [.l 6]⟩, ⟨.t 51, none, (.ld none), [.t 50]⟩, ⟨.t 52, none, (.bin .eql), [.t 51, .c (.i .i64 15)]⟩, ⟨.t 53, none, .mv, [.t 52]⟩, ⟨.t 54, (some (.t 53, true)), (.fad 4), [.l 6]⟩, ⟨.t 55, (some (.t 53, true)), (.ld none), [.t 54]⟩, ⟨.t 56, (some (.t 53, true)), (.fad 1), [.l 5]⟩, ⟨.t 57, (some (.t 53, true)), (.ld none), [.t 56]⟩, ⟨.t 58, (some (.t 53, true)), (.iad 3), [.t 55, .t 57]⟩, ⟨.t 59, (some (.t 53, true)), (.fad 0), [.t 58]⟩, ⟨.t 60, (some (.t 53, true)), (.ld none), [.t 59]⟩, ⟨.t 61, none, .pick, [.t 53, .t 60, .c (.b false)]⟩, ⟨.t 49, none, .mv, [.t 61]⟩])
 (.cond (.t 49) (.reg [⟨.t 62, none, .mv, [.l 0]⟩, ⟨.t 63, none, (.fad 4), [.l 6]⟩, ⟨.t 64, none, (.ld none), [.t 63]⟩, ⟨.t 65, none, (.fad 1), [.l 5]⟩, ⟨.t 66, none, (.ld none), [.t 65]⟩, ⟨.t 67, none, (.iad 3), [.t 64, .t 66]⟩, ⟨.t 68, none, (.fad 1), [.t 67]⟩, ⟨.t 69, none, (.ld none), [.t 68]⟩, ⟨.t 70, none, (.fad 4), [.l 4]⟩, ⟨.t 71, none, (.iadA 8 1), [.t 70, .t 69]⟩, ⟨.t 72, none, (.ld none), [.t 71]⟩, ⟨.t 73, none, (.fad 0), [.l 5]⟩, ⟨.t 74, none, (.ld none), [.t 73]⟩, ⟨.t 75, none, (.fad 4), [.l 6]⟩, ⟨.t 76, none, (.ld none), [.t 75]⟩, ⟨.t 77, none, (.fad 1), [.l 5]⟩, ⟨.t 78, none, (.ld none), [.t 77]⟩, ⟨.t 79, none, (.iad 3), [.t 76, .t 78]⟩, ⟨.t 80, none, (.fad 2), [.t 79]⟩, ⟨.t 81, none, (.ld none), [.t 80]⟩, ⟨.t 82, none, (.fad 4), [.l 4]⟩, ⟨.t 83, none, (.iadA 8 1), [.t 82, .t 81]⟩, ⟨.t 84, none, (.ld none), [.t 83]⟩, ⟨.t 85, none, (.call 66), [.t 62, .t 72, .t 74, .t 84, .c (.b false)]⟩]) (.seq (.reg [⟨.t 87, none, (.fad 0), [.l 6]⟩, ⟨.t 88, none, (.ld none), [.t 87]⟩, ⟨.t 89, none, (.bin .eql), [.t 88, .c (.i .i64 15)]⟩, ⟨.t 90, none, .mv, [.t 89]⟩, ⟨.t 91, (some (.t 90, true)), (.fad 3), [.l 5]⟩, ⟨.t 92, (some (.t 90, true)), (.ld none), [.t 91]⟩, ⟨.t 93, none, .pick, [.t 90, .t 92, .c (.b false)]⟩, ⟨.t 86, none, .mv, [.t 93]⟩])
 (.cond (.t 86) (.reg [⟨.t 94, none, .mv, [.l 0]⟩, ⟨.t 95, none, (.fad 4), [.l 6]⟩, ⟨.t 96, none, (.ld none), [.t 95]⟩, ⟨.t 97, none, (.fad 1), [.l 5]⟩, ⟨.t 98, none, (.ld none), [.t 97]⟩, ⟨.t 99, none, (.iad 3), [.t 96, .t 98]⟩, ⟨.t 100, none, (.fad 1), [.t 99]⟩, ⟨.t 101, none, (.ld none), [.t 100]⟩, ⟨.t 102, none, (.fad 4), [.l 4]⟩, ⟨.t 103, none, (.iadA 8 1), [.t 102, .t 101]⟩, ⟨.t 104, none, (.ld none), [.t 103]⟩, ⟨.t 105, none, (.fad 0), [.l 5]⟩, ⟨.t 106, none, (.ld none), [.t 105]⟩, ⟨.t 107, none, (.fad 2), [.l 5]⟩, ⟨.t 108, none, (.ld none), [.t 107]⟩, ⟨.t 109, none, (.call 66), [.t 94, .t 104, .t 106, .t 108, .c (.b true)]⟩]) .skip))))))))))))), []⟩
/-- (*tarpaulin/world.World).cases -/
def b112 : Nat := 61175
def a112 : AFn := ⟨(.seq (.reg [⟨.l 4, none, .box, [.l 1]⟩, ⟨.l 5, none, .box, [.l 2]⟩, ⟨.l 6, none, .mv, [.c (.sl none 0 0 0)]⟩, ⟨.l 7, none, .mv, [.c (.b false)]⟩])
 (.seq (.seq (.reg [⟨.t 12, none, (.fad 4), [.l 4]⟩, ⟨.l 13, none, (.ld none), [.t 12]⟩, ⟨.l 14, none, .lenSl, [.l 13]⟩, ⟨.l 15, none, .mv, [.c (.i .i64 0)]⟩])
 (.block 0 (.loop (.seq (.reg [⟨.t 16, none, (.bin .lss), [.l 15, .l 14]⟩])
 (.seq (.cond (.t 16) .skip (.exit 0))
 (.seq (.block 1 (.seq (.reg [⟨.t 17, none, (.iad 3), [.l 13, .l 15]⟩, ⟨.t 18, none, (.ld (some 3)), [.t 17]⟩, ⟨.l 9, none, (.alloc [(.b false), (.i .i64 0), (.i .i64 0)]), []⟩, ⟨.no, none, (.st 3), [.l 9, .t 18]⟩])
 (.seq (.reg [⟨.t 20, none, .mv, [.l 0]⟩, ⟨.t 21, none, (.fad 1), [.l 9]⟩, ⟨.t 22, none, (.ld none), [.t 21]⟩, ⟨.t 23, none, (.iadA 8 1), [.l 5, .t 22]⟩, ⟨.t 24, none, (.ld none), [.t 23]⟩, ⟨.t 25, none, (.call 120), [.t 20, .t 24]⟩, ⟨.t 19, none, .mv, [.t 25]⟩, ⟨.t 26, none, (.ext 0), [.t 19]⟩, ⟨.t 27, none, (.ext 1), [.t 19]⟩, ⟨.l 10, none, .mv, [.t 26]⟩, ⟨.l 11, none, .mv, [.t 27]⟩])
 (.seq (.seq (.reg [⟨.t 28, none, .mv, [.l 11]⟩, ⟨.t 29, none, (.un .not), [.t 28]⟩])
 (.cond (.t 29) (.seq (.reg [⟨.l 6, none, .mv, [.c (.sl none 0 0 0)]⟩, ⟨.l 7, none, .mv, [.c (.b false)]⟩])
 .ret) .skip))
 (.reg [⟨.t 30, none, .mv, [.l 6]⟩, ⟨.t 31, none, .mv, [.l 10]⟩, ⟨.t 32, none, (.fad 0), [.l 9]⟩, ⟨.t 33, none, (.ld none), [.t 32]⟩, ⟨.t 34, none, (.fad 2), [.l 9]⟩, ⟨.t 35, none, (.ld none), [.t 34]⟩, ⟨.t 36, none, (.iadA 8 1), [.l 5, .t 35]⟩, ⟨.t 37, none, (.ld none), [.t 36]⟩, ⟨.t 38, none, (.build [(.p none), (.b false), (.i .i64 0)] [(0, 1), (1, 1), (2, 1)]), [.t 31, .t 33, .t 37]⟩, ⟨.t 39, none, (.bslice [(.p none), (.b false), (.i .i64 0)] 1 3 [0]), [.t 38]⟩, ⟨.t 40, none, (.app 3 24), [.t 30, .t 39]⟩, ⟨.l 6, none, .mv, [.t 40]⟩])))))
 (.reg [⟨.t 41, none, (.bin .add), [.l 15, .c (.i .i64 1)]⟩, ⟨.l 15, none, .mv, [.t 41]⟩])))))))
 (.seq (.reg [⟨.t 42, none, .mv, [.l 6]⟩, ⟨.l 6, none, .mv, [.t 42]⟩, ⟨.l 7, none, .mv, [.c (.b true)]⟩])
 .ret))), [.tmp (.l 6), .tmp (.l 7)]⟩
/-- tarpaulin/choose.Leave -/
def b113 : Nat := 979
def a113 : AFn := ⟨(.seq (.reg [⟨.l 4, none, .mv, [.c (.i .i64 0)]⟩])
 (.seq (.seq (.reg [⟨.l 7, none, .mv, [.l 0]⟩, ⟨.l 8, none, .lenSl, [.l 7]⟩, ⟨.l 9, none, .mv, [.c (.i .i64 0)]⟩])
 (.block 0 (.loop (.seq (.reg [⟨.t 10, none, (.bin .lss), [.l 9, .l 8]⟩])
 (.seq (.cond (.t 10) .skip (.exit 0))
 (.seq (.block 1 (.seq (.reg [⟨.t 11, none, (.iad 3), [.l 7, .l 9]⟩, ⟨.t 12, none, (.ld (some 3)), [.t 11]⟩, ⟨.l 6, none, (.alloc [(.p none), (.b false), (.i .i64 0)]), []⟩, ⟨.no, none, (.st 3), [.l 6, .t 12]⟩])
 (.reg [⟨.t 13, none, .mv, [.l 4]⟩, ⟨.t 14, none, (.fad 0), [.l 6]⟩, ⟨.t 15, none, (.ld none), [.t 14]⟩, ⟨.t 16, none, .mv, [.l 1]⟩, ⟨.t 17, none, (.call 160), [.t 15, .t 16]⟩, ⟨.t 18, none, (.bin .add), [.t 13, .t 17]⟩, ⟨.l 4, none, .mv, [.t 18]⟩])))
 (.reg [⟨.t 19, none, (.bin .add), [.l 9, .c (.i .i64 1)]⟩, ⟨.l 9, none, .mv, [.t 19]⟩])))))))
 (.seq (.reg [⟨.t 20, none, .mv, [.l 4]⟩, ⟨.l 4, none, .mv, [.t 20]⟩])
 .ret))), [.tmp (.l 4)]⟩
/-- (*tarpaulin/task.Table).Wake -/
def b114 : Nat := 123
def a114 : AFn := ⟨(.seq (.reg [⟨.l 3, none, .box, [.l 1]⟩, ⟨.l 4, none, .mv, [.c (.i .i64 0)]⟩])
 (.seq (.reg [⟨.t 8, none, .mv, [.l 0]⟩, ⟨.t 9, none, (.fad 0), [.l 3]⟩, ⟨.t 10, none, (.ld none), [.t 9]⟩, ⟨.t 11, none, (.call 87), [.t 8, .t 10, .c (.fn 161 [] [])]⟩, ⟨.t 7, none, .mv, [.t 11]⟩, ⟨.t 12, none, (.ext 0), [.t 7]⟩, ⟨.t 13, none, (.ext 1), [.t 7]⟩, ⟨.l 5, none, (.alloc [(.i .i64 0), (.i .i64 0), (.i .i64 0), (.i .i64 0), (.i .i64 0), (.i .i64 0), (.i .i64 0), (.i .i64 0), (.i .i64 0), (.i .i64 0), (.i .i64 0), (.i .i64 0), (.i .i64 0), (.i .i64 0), (.i .i64 0), (.i .i64 0), (.sl none 0 0 0), (.b false)]), []⟩, ⟨.no, none, (.st 18), [.l 5, .t 12]⟩, ⟨.l 6, none, .mv, [.t 13]⟩])
 (.seq (.seq (.reg [⟨.t 14, none, .mv, [.l 6]⟩, ⟨.t 15, none, (.bin .neq), [.t 14, .c (.i .i64 0)]⟩])
 (.cond (.t 15) (.seq (.reg [⟨.t 16, none, .mv, [.l 6]⟩, ⟨.l 4, none, .mv, [.t 16]⟩])
 .ret) .skip))
 (.seq (.seq (.reg [⟨.t 17, none, (.fad 4), [.l 3]⟩, ⟨.t 18, none, (.ld none), [.t 17]⟩])
 (.cond (.t 18) (.reg [⟨.t 19, none, (.fad 2), [.l 5]⟩, ⟨.no, none, (.st 1), [.t 19, .c (.i .i64 2)]⟩, ⟨.t 20, none, (.fad 3), [.l 5]⟩, ⟨.no, none, (.st 1), [.t 20, .c (.i .i64 1)]⟩]) (.seq (.reg [⟨.t 21, none, (.ld (some 5)), [.l 3]⟩, ⟨.t 22, none, (.call 162), [.l 5, .t 21]⟩])
 (.seq (.reg [⟨.t 23, none, (.fad 1), [.l 5]⟩, ⟨.t 24, none, (.ld none), [.t 23]⟩, ⟨.t 25, none, (.bin .add), [.t 24, .c (.i .i64 1)]⟩, ⟨.t 26, none, (.fad 1), [.l 5]⟩, ⟨.no, none, (.st 1), [.t 26, .t 25]⟩])
 (.seq (.reg [⟨.t 27, none, (.fad 2), [.l 5]⟩, ⟨.no, none, (.st 1), [.t 27, .c (.i .i64 0)]⟩])
 (.reg [⟨.t 28, none, .mv, [.l 0]⟩, ⟨.t 29, none, .nilchk, [.t 28]⟩, ⟨.t 30, none, (.fad 1), [.t 29]⟩, ⟨.t 31, none, (.ld none), [.t 30]⟩, ⟨.t 32, none, (.fad 0), [.l 3]⟩, ⟨.t 33, none, (.ld none), [.t 32]⟩, ⟨.t 34, none, (.call 58), [.t 31, .t 33]⟩]))))))
 (.seq (.reg [⟨.t 35, none, (.build [(.i .i64 0), (.i .i64 0), (.i .i64 0), (.i .i64 0), (.sl none 0 0 0), (.b false)] []), []⟩, ⟨.t 36, none, (.fad 12), [.l 5]⟩, ⟨.no, none, (.st 6), [.t 36, .t 35]⟩])
 (.seq (.reg [⟨.t 37, none, .mv, [.l 0]⟩, ⟨.t 38, none, .nilchk, [.t 37]⟩, ⟨.t 39, none, (.fad 0), [.t 38]⟩, ⟨.t 40, none, (.ld none), [.t 39]⟩, ⟨.t 41, none, (.fad 0), [.l 3]⟩, ⟨.t 42, none, (.ld none), [.t 41]⟩, ⟨.t 43, none, (.ld (some 18)), [.l 5]⟩, ⟨.t 44, none, (.call 89), [.t 40, .t 42, .t 43]⟩])
 (.seq (.reg [⟨.l 4, none, .mv, [.c (.i .i64 0)]⟩])
 .ret))))))), [.tmp (.l 4)]⟩
/-- tarpaulin/world.bit -/
def b115 : Nat := 5
def a115 : AFn := ⟨(.seq (.reg [⟨.l 2, none, .mv, [.c (.i .i64 0)]⟩])
 (.seq (.seq (.reg [⟨.t 3, none, .mv, [.l 0]⟩])
 (.cond (.t 3) (.seq (.reg [⟨.l 2, none, .mv, [.c (.i .i64 1)]⟩])
 .ret) .skip))
 (.seq (.reg [⟨.l 2, none, .mv, [.c (.i .i64 0)]⟩])
 .ret))), [.tmp (.l 2)]⟩
/-- (*tarpaulin/ready.List).Len -/
def b116 : Nat := 5
def a116 : AFn := ⟨(.seq (.reg [⟨.l 2, none, .mv, [.c (.i .i64 0)]⟩])
 (.seq (.seq (.reg [⟨.t 3, none, .mv, [.l 0]⟩, ⟨.t 4, none, (.eq false .ptr), [.t 3, .c (.p none)]⟩])
 (.cond (.t 4) (.seq (.reg [⟨.l 2, none, .mv, [.c (.i .i64 0)]⟩])
 .ret) .skip))
 (.seq (.reg [⟨.t 5, none, .mv, [.l 0]⟩, ⟨.t 6, none, .nilchk, [.t 5]⟩, ⟨.t 7, none, (.fad 0), [.t 6]⟩, ⟨.t 8, none, (.ld none), [.t 7]⟩, ⟨.t 9, none, .lenSl, [.t 8]⟩, ⟨.l 2, none, .mv, [.t 9]⟩])
 .ret))), [.tmp (.l 2)]⟩
/-- tarpaulin/script.Pick -/
def b117 : Nat := 19
def a117 : AFn := ⟨(.seq (.reg [⟨.l 4, none, .mv, [.c (.i .i64 0)]⟩])
 (.seq (.seq (.reg [⟨.t 5, none, .mv, [.l 1]⟩, ⟨.t 6, none, (.bin .lss), [.t 5, .c (.i .i64 1)]⟩])
 (.cond (.t 6) (.seq (.reg [⟨.l 4, none, .mv, [.c (.i .i64 0)]⟩])
 .ret) .skip))
 (.seq (.reg [⟨.t 7, none, .mv, [.l 0]⟩, ⟨.t 8, none, .mv, [.l 1]⟩, ⟨.t 9, none, (.bin .rem), [.t 7, .t 8]⟩, ⟨.l 0, none, .mv, [.t 9]⟩])
 (.seq (.seq (.reg [⟨.t 10, none, .mv, [.l 0]⟩, ⟨.t 11, none, (.bin .lss), [.t 10, .c (.i .i64 0)]⟩])
 (.cond (.t 11) (.reg [⟨.t 12, none, .mv, [.l 0]⟩, ⟨.t 13, none, .mv, [.l 1]⟩, ⟨.t 14, none, (.bin .add), [.t 12, .t 13]⟩, ⟨.l 0, none, .mv, [.t 14]⟩]) .skip))
 (.seq (.reg [⟨.t 15, none, .mv, [.l 0]⟩, ⟨.l 4, none, .mv, [.t 15]⟩])
 .ret))))), [.tmp (.l 4)]⟩
/-- tarpaulin/chanq.New -/
def b118 : Nat := 61
def a118 : AFn := ⟨(.seq (.reg [⟨.l 2, none, .mv, [.c (.p none)]⟩, ⟨.l 3, none, .mv, [.c (.i .i64 0)]⟩])
 (.seq (.reg [⟨.t 7, none, .mv, [.l 0]⟩, ⟨.t 8, none, (.call 163), [.t 7]⟩, ⟨.t 6, none, .mv, [.t 8]⟩, ⟨.t 9, none, (.ext 0), [.t 6]⟩, ⟨.t 10, none, (.ext 1), [.t 6]⟩, ⟨.l 4, none, .mv, [.t 9]⟩, ⟨.l 5, none, .mv, [.t 10]⟩])
 (.seq (.seq (.reg [⟨.t 11, none, .mv, [.l 5]⟩, ⟨.t 12, none, (.bin .neq), [.t 11, .c (.i .i64 0)]⟩])
 (.cond (.t 12) (.seq (.reg [⟨.t 13, none, .mv, [.l 5]⟩, ⟨.l 2, none, .mv, [.c (.p none)]⟩, ⟨.l 3, none, .mv, [.t 13]⟩])
 .ret) .skip))
 (.seq (.reg [⟨.t 14, none, .mv, [.l 4]⟩, ⟨.t 15, none, (.call 164), []⟩, ⟨.t 16, none, (.call 164), []⟩, ⟨.t 17, none, (.build [(.p none), (.p none), (.p none), (.b false), (.b false), (.b false)] [(0, 1), (1, 1), (2, 1)]), [.t 14, .t 15, .t 16]⟩, ⟨.t 18, none, .box, [.t 17]⟩, ⟨.l 2, none, .mv, [.t 18]⟩, ⟨.l 3, none, .mv, [.c (.i .i64 0)]⟩])
 .ret)))), [.tmp (.l 2), .tmp (.l 3)]⟩
/-- (*tarpaulin/world.World).open -/
def b119 : Nat := 19
def a119 : AFn := ⟨(.seq (.reg [⟨.l 4, none, .mv, [.c (.i .i64 0)]⟩])
 (.seq (.reg [⟨.t 5, none, .mv, [.l 0]⟩, ⟨.t 6, none, .mv, [.l 0]⟩, ⟨.t 7, none, .nilchk, [.t 6]⟩, ⟨.t 8, none, (.fad 3), [.t 7]⟩, ⟨.t 9, none, (.ld none), [.t 8]⟩, ⟨.t 10, none, .mv, [.l 1]⟩, ⟨.t 11, none, (.bslice [(.p none)] 1 1 [0]), [.t 10]⟩, ⟨.t 12, none, (.app 1 8), [.t 9, .t 11]⟩, ⟨.t 13, none, .nilchk, [.t 5]⟩, ⟨.t 14, none, (.fad 3), [.t 13]⟩, ⟨.no, none, (.st 1), [.t 14, .t 12]⟩])
 (.seq (.reg [⟨.t 15, none, .mv, [.l 0]⟩, ⟨.t 16, none, .nilchk, [.t 15]⟩, ⟨.t 17, none, (.fad 3), [.t 16]⟩, ⟨.t 18, none, (.ld none), [.t 17]⟩, ⟨.t 19, none, .lenSl, [.t 18]⟩, ⟨.t 20, none, (.bin .sub), [.t 19, .c (.i .i64 1)]⟩, ⟨.l 4, none, .mv, [.t 20]⟩])
 .ret))), [.tmp (.l 4)]⟩
/-- (*tarpaulin/world.World).channel -/
def b120 : Nat := 51
def a120 : AFn := ⟨(.seq (.reg [⟨.l 4, none, .mv, [.c (.p none)]⟩, ⟨.l 5, none, .mv, [.c (.b false)]⟩])
 (.seq (.seq (.reg [⟨.t 6, none, .mv, [.l 1]⟩, ⟨.t 7, none, (.bin .lss), [.t 6, .c (.i .i64 0)]⟩, ⟨.t 8, none, .mv, [.t 7]⟩, ⟨.t 9, (some (.t 8, false)), .mv, [.l 1]⟩, ⟨.t 10, (some (.t 8, false)), .mv, [.l 0]⟩, ⟨.t 11, (some (.t 8, false)), .nilchk, [.t 10]⟩, ⟨.t 12, (some (.t 8, false)), (.fad 3), [.t 11]⟩, ⟨.t 13, (some (.t 8, false)), (.ld none), [.t 12]⟩, ⟨.t 14, (some (.t 8, false)), .lenSl, [.t 13]⟩, ⟨.t 15, (some (.t 8, false)), (.bin .geq), [.t 9, .t 14]⟩, ⟨.t 16, none, .pick, [.t 8, .c (.b true), .t 15]⟩])
 (.cond (.t 16) (.seq (.reg [⟨.t 17, none, .mv, [.l 1]⟩, ⟨.t 18, none, (.bin .eql), [.t 17, .c (.i .i64 (-1))]⟩, ⟨.l 4, none, .mv, [.c (.p none)]⟩, ⟨.l 5, none, .mv, [.t 18]⟩])
 .ret) .skip))
 (.seq (.reg [⟨.t 19, none, .mv, [.l 0]⟩, ⟨.t 20, none, .nilchk, [.t 19]⟩, ⟨.t 21, none, (.fad 3), [.t 20]⟩, ⟨.t 22, none, (.ld none), [.t 21]⟩, ⟨.t 23, none, .mv, [.l 1]⟩, ⟨.t 24, none, (.iad 1), [.t 22, .t 23]⟩, ⟨.t 25, none, (.ld none), [.t 24]⟩, ⟨.l 4, none, .mv, [.t 25]⟩, ⟨.l 5, none, .mv, [.c (.b true)]⟩])
 .ret))), [.tmp (.l 4), .tmp (.l 5)]⟩
/-- (*tarpaulin/world.act).send -/
def b121 : Nat := 115
def a121 : AFn := ⟨(.seq (.reg [⟨.t 8, none, .mv, [.l 1]⟩, ⟨.t 9, none, .mv, [.l 0]⟩, ⟨.t 10, none, (.call 83), [.t 9]⟩, ⟨.t 11, none, (.call 165), [.t 8, .t 10]⟩, ⟨.t 7, none, .mv, [.t 11]⟩, ⟨.t 12, none, (.ext 0), [.t 7]⟩, ⟨.t 13, none, (.ext 1), [.t 7]⟩, ⟨.t 14, none, (.ext 2), [.t 7]⟩, ⟨.l 4, none, .mv, [.t 12]⟩, ⟨.l 5, none, .mv, [.t 13]⟩, ⟨.l 6, none, .mv, [.t 14]⟩])
 (.block 0 (.seq (.reg [⟨.t 28, none, .mv, [.l 6]⟩, ⟨.t 29, none, (.bin .eql), [.t 28, .c (.i .i64 7)]⟩, ⟨.t 27, none, .mv, [.t 29]⟩])
 (.cond (.t 27) (.reg [⟨.t 30, none, .mv, [.l 0]⟩, ⟨.t 31, none, .nilchk, [.t 30]⟩, ⟨.t 32, none, (.fad 25), [.t 31]⟩, ⟨.no, none, (.st 1), [.t 32, .c (.i .i64 8)]⟩]) (.seq (.reg [⟨.t 34, none, .mv, [.l 6]⟩, ⟨.t 35, none, (.bin .eql), [.t 34, .c (.i .i64 5)]⟩, ⟨.t 33, none, .mv, [.t 35]⟩])
 (.cond (.t 33) (.reg [⟨.t 36, none, .mv, [.l 0]⟩, ⟨.t 37, none, .nilchk, [.t 36]⟩, ⟨.t 38, none, (.fad 25), [.t 37]⟩, ⟨.no, none, (.st 1), [.t 38, .c (.i .i64 1)]⟩]) (.seq (.reg [⟨.t 40, none, .mv, [.l 4]⟩, ⟨.t 39, none, .mv, [.t 40]⟩])
 (.cond (.t 39) (.seq (.regD [⟨.t 41, none, .mv, [.l 0]⟩, ⟨.t 42, none, .nilchk, [.t 41]⟩, ⟨.t 43, none, (.fad 0), [.t 42]⟩, ⟨.t 44, none, (.ld none), [.t 43]⟩, ⟨.t 45, none, .mv, [.l 0]⟩, ⟨.t 46, none, (.call 82), [.t 45]⟩, ⟨.t 47, none, .mv, [.l 0]⟩, ⟨.t 48, none, .nilchk, [.t 47]⟩, ⟨.t 49, none, (.fad 1), [.t 48]⟩, ⟨.t 50, none, (.ld none), [.t 49]⟩, ⟨.t 51, none, .mv, [.l 0]⟩, ⟨.t 52, none, (.call 83), [.t 51]⟩, ⟨.t 53, none, (.call 66), [.t 44, .t 46, .t 50, .t 52, .c (.b false)]⟩] [(3, 6), (3, 12), (9, 0), (9, 12)])
 (.reg [⟨.t 54, none, .mv, [.l 0]⟩, ⟨.t 55, none, .nilchk, [.t 54]⟩, ⟨.t 56, none, (.fad 0), [.t 55]⟩, ⟨.t 57, none, (.ld none), [.t 56]⟩, ⟨.t 58, none, .mv, [.l 5]⟩, ⟨.t 59, none, (.call 69), [.t 57, .t 58]⟩])) (.seq (.reg [⟨.t 15, none, .mv, [.l 0]⟩, ⟨.t 16, none, .nilchk, [.t 15]⟩, ⟨.t 17, none, (.fad 26), [.t 16]⟩, ⟨.no, none, (.st 1), [.t 17, .c (.b true)]⟩])
 (.regD [⟨.t 18, none, .mv, [.l 1]⟩, ⟨.t 19, none, .mv, [.l 0]⟩, ⟨.t 20, none, .nilchk, [.t 19]⟩, ⟨.t 21, none, (.fad 1), [.t 20]⟩, ⟨.t 22, none, (.ld none), [.t 21]⟩, ⟨.t 23, none, .mv, [.l 0]⟩, ⟨.t 24, none, (.call 83), [.t 23]⟩, ⟨.t 25, none, (.build [(.i .i64 0), (.i .i64 0), (.i .i64 0)] [(0, 1), (2, 1)]), [.t 22, .t 24]⟩, ⟨.t 26, none, (.call 166), [.t 18, .t 25, .c (.b true)]⟩] [(4, 7)])))))))))), []⟩
/-- (*tarpaulin/world.act).recv -/
def b122 : Nat := 243
def a122 : AFn := ⟨(.seq (.reg [⟨.t 9, none, .mv, [.l 1]⟩, ⟨.t 10, none, (.call 167), [.t 9]⟩, ⟨.t 8, none, .mv, [.t 10]⟩, ⟨.t 11, none, (.ext 0), [.t 8]⟩, ⟨.t 12, none, (.ext 1), [.t 8]⟩, ⟨.t 13, none, (.ext 2), [.t 8]⟩, ⟨.t 14, none, (.ext 3), [.t 8]⟩, ⟨.l 4, none, .mv, [.t 11]⟩, ⟨.l 5, none, .mv, [.t 12]⟩, ⟨.l 6, none, .mv, [.t 13]⟩, ⟨.l 7, none, .mv, [.t 14]⟩])
 (.seq (.seq (.reg [⟨.t 15, none, .mv, [.l 6]⟩])
 (.cond (.t 15) (.seq (.reg [⟨.t 16, none, .mv, [.l 0]⟩, ⟨.t 17, none, .mv, [.l 1]⟩, ⟨.t 18, none, .mv, [.l 4]⟩, ⟨.t 19, none, .mv, [.l 5]⟩, ⟨.t 20, none, .mv, [.l 7]⟩, ⟨.t 21, none, (.call 127), [.t 16, .t 17, .t 18, .t 19, .t 20]⟩])
 .ret) .skip))
 (.seq (.reg [⟨.t 22, none, .mv, [.l 0]⟩, ⟨.t 23, none, .nilchk, [.t 22]⟩, ⟨.t 24, none, (.fad 26), [.t 23]⟩, ⟨.no, none, (.st 1), [.t 24, .c (.b true)]⟩])
 (.reg [⟨.t 25, none, .mv, [.l 1]⟩, ⟨.t 26, none, .mv, [.l 0]⟩, ⟨.t 27, none, .nilchk, [.t 26]⟩, ⟨.t 28, none, (.fad 1), [.t 27]⟩, ⟨.t 29, none, (.ld none), [.t 28]⟩, ⟨.t 30, none, (.build [(.i .i64 0), (.i .i64 0), (.i .i64 0)] [(0, 1)]), [.t 29]⟩, ⟨.t 31, none, (.call 166), [.t 25, .t 30, .c (.b false)]⟩])))), []⟩
/-- (*tarpaulin/world.act).close -/
def b123 : Nat := 2099
def a123 : AFn := ⟨(.seq (.reg [⟨.t 7, none, .mv, [.l 1]⟩, ⟨.t 8, none, (.call 168), [.t 7]⟩, ⟨.t 6, none, .mv, [.t 8]⟩, ⟨.t 9, none, (.ext 0), [.t 6]⟩, ⟨.t 10, none, (.ext 1), [.t 6]⟩, ⟨.l 4, none, .mv, [.t 9]⟩, ⟨.l 5, none, .mv, [.t 10]⟩])
 (.seq (.seq (.reg [⟨.l 11, none, .mv, [.l 5]⟩])
 (.block 0 (.seq (.reg [⟨.t 13, none, (.bin .eql), [.l 11, .c (.i .i64 6)]⟩, ⟨.t 12, none, .mv, [.t 13]⟩])
 (.cond (.t 12) (.reg [⟨.t 14, none, .mv, [.l 0]⟩, ⟨.t 15, none, .nilchk, [.t 14]⟩, ⟨.t 16, none, (.fad 25), [.t 15]⟩, ⟨.no, none, (.st 1), [.t 16, .c (.i .i64 3)]⟩]) (.seq (.reg [⟨.t 18, none, (.bin .eql), [.l 11, .c (.i .i64 7)]⟩, ⟨.t 17, none, .mv, [.t 18]⟩])
 (.cond (.t 17) (.reg [⟨.t 19, none, .mv, [.l 0]⟩, ⟨.t 20, none, .nilchk, [.t 19]⟩, ⟨.t 21, none, (.fad 25), [.t 20]⟩, ⟨.no, none, (.st 1), [.t 21, .c (.i .i64 8)]⟩]) (.seq (.reg [⟨.t 23, none, (.bin .eql), [.l 11, .c (.i .i64 5)]⟩, ⟨.t 22, none, .mv, [.t 23]⟩])
 (.cond (.t 22) (.reg [⟨.t 24, none, .mv, [.l 0]⟩, ⟨.t 25, none, .nilchk, [.t 24]⟩, ⟨.t 26, none, (.fad 25), [.t 25]⟩, ⟨.no, none, (.st 1), [.t 26, .c (.i .i64 2)]⟩]) .skip))))))))
 (.reg [⟨.t 27, none, .mv, [.l 0]⟩, ⟨.t 28, none, .nilchk, [.t 27]⟩, ⟨.t 29, none, (.fad 0), [.t 28]⟩, ⟨.t 30, none, (.ld none), [.t 29]⟩, ⟨.t 31, none, .mv, [.l 4]⟩, ⟨.t 32, none, (.call 69), [.t 30, .t 31]⟩]))), []⟩
/-- (*tarpaulin/chanq.Chan).Len -/
def b124 : Nat := 5
def a124 : AFn := ⟨(.seq (.reg [⟨.l 2, none, .mv, [.c (.i .i64 0)]⟩])
 (.seq (.seq (.reg [⟨.t 3, none, .mv, [.l 0]⟩, ⟨.t 4, none, (.eq false .ptr), [.t 3, .c (.p none)]⟩, ⟨.t 5, none, .mv, [.t 4]⟩, ⟨.t 6, (some (.t 5, false)), .mv, [.l 0]⟩, ⟨.t 7, (some (.t 5, false)), .nilchk, [.t 6]⟩, ⟨.t 8, (some (.t 5, false)), (.fad 3), [.t 7]⟩, ⟨.t 9, (some (.t 5, false)), (.ld none), [.t 8]⟩, ⟨.t 10, none, .pick, [.t 5, .c (.b true), .t 9]⟩])
 (.cond (.t 10) (.seq (.reg [⟨.l 2, none, .mv, [.c (.i .i64 0)]⟩])
 .ret) .skip))
 (.seq (.reg [⟨.t 11, none, .mv, [.l 0]⟩, ⟨.t 12, none, .nilchk, [.t 11]⟩, ⟨.t 13, none, (.fad 0), [.t 12]⟩, ⟨.t 14, none, (.ld none), [.t 13]⟩, ⟨.t 15, none, (.call 169), [.t 14]⟩, ⟨.l 2, none, .mv, [.t 15]⟩])
 .ret))), [.tmp (.l 2)]⟩
/-- (*tarpaulin/chanq.Chan).Cap -/
def b125 : Nat := 5
def a125 : AFn := ⟨(.seq (.reg [⟨.l 2, none, .mv, [.c (.i .i64 0)]⟩])
 (.seq (.seq (.reg [⟨.t 3, none, .mv, [.l 0]⟩, ⟨.t 4, none, (.eq false .ptr), [.t 3, .c (.p none)]⟩, ⟨.t 5, none, .mv, [.t 4]⟩, ⟨.t 6, (some (.t 5, false)), .mv, [.l 0]⟩, ⟨.t 7, (some (.t 5, false)), .nilchk, [.t 6]⟩, ⟨.t 8, (some (.t 5, false)), (.fad 3), [.t 7]⟩, ⟨.t 9, (some (.t 5, false)), (.ld none), [.t 8]⟩, ⟨.t 10, none, .pick, [.t 5, .c (.b true), .t 9]⟩])
 (.cond (.t 10) (.seq (.reg [⟨.l 2, none, .mv, [.c (.i .i64 0)]⟩])
 .ret) .skip))
 (.seq (.reg [⟨.t 11, none, .mv, [.l 0]⟩, ⟨.t 12, none, .nilchk, [.t 11]⟩, ⟨.t 13, none, (.fad 0), [.t 12]⟩, ⟨.t 14, none, (.ld none), [.t 13]⟩, ⟨.t 15, none, (.call 170), [.t 14]⟩, ⟨.l 2, none, .mv, [.t 15]⟩])
 .ret))), [.tmp (.l 2)]⟩
/-- tarpaulin/choose.Do -/
def b126 : Nat := 2017612633062506255
def a126 : AFn := ⟨(.seq (.reg [⟨.l 8, none, (.alloc [(.i .i64 0), (.i .i64 0), (.b false), (.b false), (.b false), (.b false)]), []⟩, ⟨.l 9, none, .mv, [.c (.sl none 0 0 0)]⟩, ⟨.l 10, none, .mv, [.c (.i .i64 0)]⟩])
 (.seq (.seq (.reg [⟨.t 19, none, .mv, [.l 0]⟩, ⟨.t 20, none, .lenSl, [.t 19]⟩, ⟨.t 21, none, (.bin .gtr), [.t 20, .c (.i .i64 16)]⟩, ⟨.t 22, none, .mv, [.t 21]⟩, ⟨.t 23, (some (.t 22, false)), .mv, [.l 3]⟩, ⟨.t 24, (some (.t 22, false)), (.bin .lss), [.t 23, .c (.i .i64 0)]⟩, ⟨.t 25, none, .pick, [.t 22, .c (.b true), .t 24]⟩])
 (.cond (.t 25) (.seq (.reg [⟨.t 26, none, (.build [(.i .i64 0), (.i .i64 0), (.b false), (.b false), (.b false), (.b false)] []), []⟩, ⟨.no, none, (.st 6), [.l 8, .t 26]⟩, ⟨.l 9, none, .mv, [.c (.sl none 0 0 0)]⟩, ⟨.l 10, none, .mv, [.c (.i .i64 1)]⟩])
 .ret) .skip))
 (.seq (.seq (.reg [⟨.t 27, none, .mv, [.l 0]⟩, ⟨.t 28, none, (.call 171), [.t 27, .c (.fn 172 [] [])]⟩, ⟨.l 11, none, .mv, [.t 28]⟩])
 (.seq (.reg [⟨.t 29, none, .mv, [.l 11]⟩, ⟨.t 30, none, (.bin .geq), [.t 29, .c (.i .i64 0)]⟩])
 (.cond (.t 30) (.seq (.reg [⟨.t 31, none, .mv, [.l 11]⟩, ⟨.t 32, none, (.build [(.i .i64 0), (.i .i64 0), (.b false), (.b false), (.b false), (.b false)] [(0, 1), (5, 1)]), [.t 31, .c (.b true)]⟩, ⟨.no, none, (.st 6), [.l 8, .t 32]⟩, ⟨.l 9, none, .mv, [.c (.sl none 0 0 0)]⟩, ⟨.l 10, none, .mv, [.c (.i .i64 0)]⟩])
 .ret) .skip)))
 (.seq (.seq (.reg [⟨.t 33, none, .mv, [.l 0]⟩, ⟨.t 34, none, (.call 174), [.t 33]⟩, ⟨.l 12, none, .mv, [.t 34]⟩])
 (.seq (.reg [⟨.t 35, none, .mv, [.l 12]⟩, ⟨.t 36, none, .lenSl, [.t 35]⟩, ⟨.t 37, none, (.bin .gtr), [.t 36, .c (.i .i64 0)]⟩])
 (.cond (.t 37) (.seq (.reg [⟨.t 38, none, .mv, [.l 12]⟩, ⟨.t 39, none, .mv, [.l 2]⟩, ⟨.t 40, none, .mv, [.l 12]⟩, ⟨.t 41, none, .lenSl, [.t 40]⟩, ⟨.t 42, none, (.call 117), [.t 39, .t 41]⟩, ⟨.t 43, none, (.iad 1), [.t 38, .t 42]⟩, ⟨.t 44, none, (.ld none), [.t 43]⟩, ⟨.l 13, none, .mv, [.t 44]⟩])
 (.seq (.reg [⟨.t 46, none, .mv, [.l 0]⟩, ⟨.t 47, none, .mv, [.l 13]⟩, ⟨.t 48, none, (.iad 3), [.t 46, .t 47]⟩, ⟨.t 49, none, (.ld (some 3)), [.t 48]⟩, ⟨.t 50, none, .mv, [.l 13]⟩, ⟨.t 51, none, (.call 175), [.t 49, .t 50]⟩, ⟨.t 45, none, .mv, [.t 51]⟩, ⟨.t 52, none, (.ext 0), [.t 45]⟩, ⟨.t 53, none, (.ext 1), [.t 45]⟩, ⟨.l 14, none, (.alloc [(.i .i64 0), (.i .i64 0), (.b false), (.b false), (.b false), (.b false)]), []⟩, ⟨.no, none, (.st 6), [.l 14, .t 52]⟩, ⟨.l 15, none, .mv, [.t 53]⟩])
 (.seq (.reg [⟨.t 54, none, (.ld (some 6)), [.l 14]⟩, ⟨.t 55, none, .mv, [.l 15]⟩, ⟨.no, none, (.st 6), [.l 8, .t 54]⟩, ⟨.l 9, none, .mv, [.t 55]⟩, ⟨.l 10, none, .mv, [.c (.i .i64 0)]⟩])
 .ret))) .skip)))
 (.seq (.seq (.reg [⟨.t 56, none, .mv, [.l 1]⟩])
 (.cond (.t 56) (.seq (.reg [⟨.t 57, none, (.build [(.i .i64 0), (.i .i64 0), (.b false), (.b false), (.b false), (.b false)] [(0, 1)]), [.c (.i .i64 (-1))]⟩, ⟨.no, none, (.st 6), [.l 8, .t 57]⟩, ⟨.l 9, none, .mv, [.c (.sl none 0 0 0)]⟩, ⟨.l 10, none, .mv, [.c (.i .i64 0)]⟩])
 .ret) .skip))
 (.seq (.seq (.reg [⟨.l 58, none, .mv, [.l 0]⟩, ⟨.l 59, none, .lenSl, [.l 58]⟩, ⟨.l 60, none, .mv, [.c (.i .i64 0)]⟩])
 (.block 0 (.loop (.seq (.reg [⟨.t 61, none, (.bin .lss), [.l 60, .l 59]⟩])
 (.seq (.cond (.t 61) .skip (.exit 0))
 (.seq (.block 1 (.seq (.reg [⟨.t 62, none, .mv, [.l 60]⟩, ⟨.t 63, none, (.iad 3), [.l 58, .l 60]⟩, ⟨.t 64, none, (.ld (some 3)), [.t 63]⟩, ⟨.l 17, none, (.alloc [(.p none), (.b false), (.i .i64 0)]), []⟩, ⟨.l 16, none, .mv, [.t 62]⟩, ⟨.no, none, (.st 3), [.l 17, .t 64]⟩])
 (.seq (.reg [⟨.t 65, none, .mv, [.l 3]⟩, ⟨.t 66, none, .mv, [.l 16]⟩, ⟨.t 67, none, (.build [(.i .i64 0), (.i .i64 0), (.i .i64 0)] [(0, 1), (1, 1)]), [.t 65, .t 66]⟩, ⟨.l 18, none, (.alloc [(.i .i64 0), (.i .i64 0), (.i .i64 0)]), []⟩, ⟨.no, none, (.st 3), [.l 18, .t 67]⟩])
 (.seq (.seq (.reg [⟨.t 68, none, (.fad 1), [.l 17]⟩, ⟨.t 69, none, (.ld none), [.t 68]⟩])
 (.cond (.t 69) (.reg [⟨.t 70, none, (.fad 2), [.l 17]⟩, ⟨.t 71, none, (.ld none), [.t 70]⟩, ⟨.t 72, none, (.fad 2), [.l 18]⟩, ⟨.no, none, (.st 1), [.t 72, .t 71]⟩]) .skip))
 (.reg [⟨.t 73, none, (.fad 0), [.l 17]⟩, ⟨.t 74, none, (.ld none), [.t 73]⟩, ⟨.t 75, none, (.ld (some 3)), [.l 18]⟩, ⟨.t 76, none, (.fad 1), [.l 17]⟩, ⟨.t 77, none, (.ld none), [.t 76]⟩, ⟨.t 78, none, (.call 166), [.t 74, .t 75, .t 77]⟩])))))
 (.reg [⟨.t 79, none, (.bin .add), [.l 60, .c (.i .i64 1)]⟩, ⟨.l 60, none, .mv, [.t 79]⟩])))))))
 (.seq (.reg [⟨.t 80, none, (.build [(.i .i64 0), (.i .i64 0), (.b false), (.b false), (.b false), (.b false)] [(0, 1), (4, 1)]), [.c (.i .i64 (-1)), .c (.b true)]⟩, ⟨.no, none, (.st 6), [.l 8, .t 80]⟩, ⟨.l 9, none, .mv, [.c (.sl none 0 0 0)]⟩, ⟨.l 10, none, .mv, [.c (.i .i64 0)]⟩])
 .ret))))))), [.cell (.l 8) (some 6), .tmp (.l 9), .tmp (.l 10)]⟩
/-- (*tarpaulin/world.act).take -/
def b127 : Nat := 31
def a127 : AFn := ⟨(.seq (.seq (.reg [⟨.t 10, none, .mv, [.l 1]⟩, ⟨.t 11, none, (.call 125), [.t 10]⟩, ⟨.t 12, none, (.bin .eql), [.t 11, .c (.i .i64 0)]⟩])
 (.cond (.t 12) (.seq (.reg [⟨.t 13, none, .mv, [.l 0]⟩, ⟨.t 14, none, .nilchk, [.t 13]⟩, ⟨.t 15, none, (.fad 0), [.t 14]⟩, ⟨.t 16, none, (.ld none), [.t 15]⟩, ⟨.t 17, none, .mv, [.l 4]⟩, ⟨.t 18, none, (.call 69), [.t 16, .t 17]⟩])
 (.reg [⟨.l 4, none, .mv, [.c (.sl none 0 0 0)]⟩])) .skip))
 (.seq (.seq (.reg [⟨.t 19, none, .mv, [.l 3]⟩])
 (.cond (.t 19) (.regD [⟨.t 20, none, .mv, [.l 0]⟩, ⟨.t 21, none, .nilchk, [.t 20]⟩, ⟨.t 22, none, (.fad 0), [.t 21]⟩, ⟨.t 23, none, (.ld none), [.t 22]⟩, ⟨.t 24, none, .mv, [.l 0]⟩, ⟨.t 25, none, .nilchk, [.t 24]⟩, ⟨.t 26, none, (.fad 0), [.t 25]⟩, ⟨.t 27, none, (.ld none), [.t 26]⟩, ⟨.t 28, none, .mv, [.l 1]⟩, ⟨.t 29, none, (.call 67), [.t 27, .t 28]⟩, ⟨.t 30, none, .mv, [.l 0]⟩, ⟨.t 31, none, .nilchk, [.t 30]⟩, ⟨.t 32, none, (.fad 1), [.t 31]⟩, ⟨.t 33, none, (.ld none), [.t 32]⟩, ⟨.t 34, none, .mv, [.l 2]⟩, ⟨.t 35, none, (.call 66), [.t 23, .t 29, .t 33, .t 34, .c (.b true)]⟩] [(3, 10), (13, 0)]) .skip))
 (.seq (.reg [⟨.t 36, none, .mv, [.l 0]⟩, ⟨.t 37, none, .nilchk, [.t 36]⟩, ⟨.t 38, none, (.fad 0), [.t 37]⟩, ⟨.t 39, none, (.ld none), [.t 38]⟩, ⟨.t 40, none, .mv, [.l 4]⟩, ⟨.t 41, none, (.call 69), [.t 39, .t 40]⟩])
 (.seq (.reg [⟨.t 42, none, .mv, [.l 0]⟩, ⟨.t 43, none, .mv, [.l 0]⟩, ⟨.t 44, none, .nilchk, [.t 43]⟩, ⟨.t 45, none, (.fad 2), [.t 44]⟩, ⟨.t 46, none, (.fad 2), [.t 45]⟩, ⟨.t 47, none, (.ld none), [.t 46]⟩, ⟨.t 48, none, .mv, [.l 0]⟩, ⟨.t 49, none, .mv, [.l 0]⟩, ⟨.t 50, none, .nilchk, [.t 49]⟩, ⟨.t 51, none, (.fad 2), [.t 50]⟩, ⟨.t 52, none, (.fad 3), [.t 51]⟩, ⟨.t 53, none, (.ld none), [.t 52]⟩, ⟨.t 54, none, .mv, [.l 2]⟩, ⟨.t 55, none, .nilchk, [.t 42]⟩, ⟨.t 56, none, (.fad 16), [.t 55]⟩, ⟨.t 57, none, (.iadA 8 1), [.t 56, .t 47]⟩, ⟨.no, none, (.st 1), [.t 57, .t 54]⟩, ⟨.t 58, none, .nilchk, [.t 48]⟩, ⟨.t 59, none, (.fad 16), [.t 58]⟩, ⟨.t 60, none, (.iadA 8 1), [.t 59, .t 53]⟩, ⟨.no, none, (.st 1), [.t 60, .c (.i .i64 0)]⟩])
 (.regD [⟨.t 61, none, .mv, [.l 0]⟩, ⟨.t 62, none, .mv, [.l 0]⟩, ⟨.t 63, none, .nilchk, [.t 62]⟩, ⟨.t 64, none, (.fad 2), [.t 63]⟩, ⟨.t 65, none, (.fad 3), [.t 64]⟩, ⟨.t 66, none, (.ld none), [.t 65]⟩, ⟨.t 67, none, .mv, [.l 3]⟩, ⟨.t 68, none, (.call 115), [.t 67]⟩, ⟨.t 69, none, .nilchk, [.t 61]⟩, ⟨.t 70, none, (.fad 16), [.t 69]⟩, ⟨.t 71, none, (.iadA 8 1), [.t 70, .t 66]⟩, ⟨.no, none, (.st 1), [.t 71, .t 68]⟩] [(5, 8)]))))), []⟩
/-- (*tarpaulin/timer.Set).Timer -/
def b128 : Nat := 455
def a128 : AFn := ⟨(.seq (.reg [⟨.l 6, none, .mv, [.c (.i .i64 0)]⟩, ⟨.l 7, none, .mv, [.c (.p none)]⟩, ⟨.l 8, none, .mv, [.c (.i .i64 0)]⟩])
 (.seq (.reg [⟨.t 9, none, .mv, [.l 0]⟩, ⟨.t 10, none, .mv, [.l 1]⟩, ⟨.t 11, none, .mv, [.l 2]⟩, ⟨.t 12, none, (.call 176), [.t 9, .c (.i .i64 1), .t 10, .t 11]⟩, ⟨.t 13, none, (.ext 0), [.t 12]⟩, ⟨.t 14, none, (.ext 1), [.t 12]⟩, ⟨.t 15, none, (.ext 2), [.t 12]⟩, ⟨.l 6, none, .mv, [.t 13]⟩, ⟨.l 7, none, .mv, [.t 14]⟩, ⟨.l 8, none, .mv, [.t 15]⟩])
 .ret)), [.tmp (.l 6), .tmp (.l 7), .tmp (.l 8)]⟩
/-- (*tarpaulin/timer.Set).Ticker -/
def b129 : Nat := 455
def a129 : AFn := ⟨(.seq (.reg [⟨.l 6, none, .mv, [.c (.i .i64 0)]⟩, ⟨.l 7, none, .mv, [.c (.p none)]⟩, ⟨.l 8, none, .mv, [.c (.i .i64 0)]⟩])
 (.seq (.reg [⟨.t 9, none, .mv, [.l 0]⟩, ⟨.t 10, none, .mv, [.l 1]⟩, ⟨.t 11, none, .mv, [.l 2]⟩, ⟨.t 12, none, (.call 176), [.t 9, .c (.i .i64 2), .t 10, .t 11]⟩, ⟨.t 13, none, (.ext 0), [.t 12]⟩, ⟨.t 14, none, (.ext 1), [.t 12]⟩, ⟨.t 15, none, (.ext 2), [.t 12]⟩, ⟨.l 6, none, .mv, [.t 13]⟩, ⟨.l 7, none, .mv, [.t 14]⟩, ⟨.l 8, none, .mv, [.t 15]⟩])
 .ret)), [.tmp (.l 6), .tmp (.l 7), .tmp (.l 8)]⟩
/-- (*tarpaulin/timer.Set).Func -/
def b130 : Nat := 783
def a130 : AFn := ⟨(.seq (.reg [⟨.l 8, none, .mv, [.c (.i .i64 0)]⟩, ⟨.l 9, none, .mv, [.c (.i .i64 0)]⟩])
 (.seq (.reg [⟨.t 10, none, .mv, [.l 0]⟩, ⟨.t 11, none, .mv, [.l 3]⟩, ⟨.t 12, none, (.build [(.i .i64 0), (.i .i64 0), (.p none), (.i .i64 0)] [(0, 1), (1, 1)]), [.c (.i .i64 3), .t 11]⟩, ⟨.t 13, none, .mv, [.l 1]⟩, ⟨.t 14, none, .mv, [.l 2]⟩, ⟨.t 15, none, (.call 177), [.t 10, .t 12, .t 13, .t 14]⟩, ⟨.t 16, none, (.ext 0), [.t 15]⟩, ⟨.t 17, none, (.ext 1), [.t 15]⟩, ⟨.l 8, none, .mv, [.t 16]⟩, ⟨.l 9, none, .mv, [.t 17]⟩])
 .ret)), [.tmp (.l 8), .tmp (.l 9)]⟩
/-- (*tarpaulin/timer.Set).Kind -/
def b131 : Nat := 19
def a131 : AFn := ⟨(.seq (.reg [⟨.l 4, none, .mv, [.c (.i .i64 0)]⟩])
 (.seq (.seq (.reg [⟨.t 5, none, .mv, [.l 0]⟩, ⟨.t 6, none, .mv, [.l 1]⟩, ⟨.t 7, none, (.call 110), [.t 5, .t 6]⟩, ⟨.t 8, none, (.un .not), [.t 7]⟩])
 (.cond (.t 8) (.seq (.reg [⟨.l 4, none, .mv, [.c (.i .i64 0)]⟩])
 .ret) .skip))
 (.seq (.reg [⟨.t 9, none, .mv, [.l 0]⟩, ⟨.t 10, none, .nilchk, [.t 9]⟩, ⟨.t 11, none, (.fad 0), [.t 10]⟩, ⟨.t 12, none, (.ld none), [.t 11]⟩, ⟨.t 13, none, .mv, [.l 1]⟩, ⟨.t 14, none, (.iad 4), [.t 12, .t 13]⟩, ⟨.t 15, none, (.fad 0), [.t 14]⟩, ⟨.t 16, none, (.ld none), [.t 15]⟩, ⟨.l 4, none, .mv, [.t 16]⟩])
 .ret))), [.tmp (.l 4)]⟩
/-- (*tarpaulin/timer.Set).Stop -/
def b132 : Nat := 115
def a132 : AFn := ⟨(.seq (.reg [⟨.l 4, none, .mv, [.c (.b false)]⟩, ⟨.l 5, none, .mv, [.c (.i .i64 0)]⟩])
 (.seq (.seq (.reg [⟨.t 7, none, .mv, [.l 0]⟩, ⟨.t 8, none, .mv, [.l 1]⟩, ⟨.t 9, none, (.call 110), [.t 7, .t 8]⟩, ⟨.t 10, none, (.un .not), [.t 9]⟩])
 (.cond (.t 10) (.seq (.reg [⟨.l 4, none, .mv, [.c (.b false)]⟩, ⟨.l 5, none, .mv, [.c (.i .i64 4)]⟩])
 .ret) .skip))
 (.seq (.reg [⟨.t 11, none, .mv, [.l 0]⟩, ⟨.t 12, none, .nilchk, [.t 11]⟩, ⟨.t 13, none, (.fad 1), [.t 12]⟩, ⟨.t 14, none, (.ld none), [.t 13]⟩, ⟨.t 15, none, .mv, [.l 1]⟩, ⟨.t 16, none, (.call 153), [.t 14, .t 15]⟩, ⟨.l 6, none, .mv, [.t 16]⟩])
 (.seq (.reg [⟨.t 17, none, .mv, [.l 0]⟩, ⟨.t 18, none, .nilchk, [.t 17]⟩, ⟨.t 19, none, (.fad 0), [.t 18]⟩, ⟨.t 20, none, (.ld none), [.t 19]⟩, ⟨.t 21, none, .mv, [.l 1]⟩, ⟨.t 22, none, (.iad 4), [.t 20, .t 21]⟩, ⟨.t 23, none, (.fad 2), [.t 22]⟩, ⟨.t 24, none, (.ld none), [.t 23]⟩, ⟨.t 25, none, (.call 178), [.t 24]⟩, ⟨.t 26, none, .mv, [.t 25]⟩, ⟨.t 27, (some (.t 26, false)), .mv, [.l 6]⟩, ⟨.t 28, none, .pick, [.t 26, .c (.b true), .t 27]⟩, ⟨.l 4, none, .mv, [.t 28]⟩, ⟨.l 5, none, .mv, [.c (.i .i64 0)]⟩])
 .ret)))), [.tmp (.l 4), .tmp (.l 5)]⟩
/-- (*tarpaulin/timer.Set).Reset -/
def b133 : Nat := 1807
def a133 : AFn := ⟨(.seq (.reg [⟨.l 8, none, .mv, [.c (.b false)]⟩, ⟨.l 9, none, .mv, [.c (.i .i64 0)]⟩])
 (.seq (.block 0 (.seq (.reg [⟨.t 13, none, .mv, [.l 0]⟩, ⟨.t 14, none, .mv, [.l 1]⟩, ⟨.t 15, none, (.call 110), [.t 13, .t 14]⟩, ⟨.t 16, none, (.un .not), [.t 15]⟩, ⟨.t 12, none, .mv, [.t 16]⟩])
 (.cond (.t 12) (.seq (.reg [⟨.l 8, none, .mv, [.c (.b false)]⟩, ⟨.l 9, none, .mv, [.c (.i .i64 4)]⟩])
 .ret) (.seq (.reg [⟨.t 18, none, .mv, [.l 2]⟩, ⟨.t 19, none, (.call 179), [.t 18]⟩, ⟨.t 20, none, .mv, [.t 19]⟩, ⟨.t 21, (some (.t 20, false)), .mv, [.l 0]⟩, ⟨.t 22, (some (.t 20, false)), .nilchk, [.t 21]⟩, ⟨.t 23, (some (.t 20, false)), (.fad 0), [.t 22]⟩, ⟨.t 24, (some (.t 20, false)), (.ld none), [.t 23]⟩, ⟨.t 25, (some (.t 20, false)), .mv, [.l 1]⟩, ⟨.t 26, (some (.t 20, false)), (.iad 4), [.t 24, .t 25]⟩, ⟨.t 27, (some (.t 20, false)), (.fad 0), [.t 26]⟩, ⟨.t 28, (some (.t 20, false)), (.ld none), [.t 27]⟩, ⟨.t 29, (some (.t 20, false)), (.bin .eql), [.t 28, .c (.i .i64 2)]⟩, ⟨.t 30, (some (.t 20, false)), .mv, [.t 29]⟩, ⟨.t 31, (some (.t 30, true)), .mv, [.l 3]⟩, ⟨.t 32, (some (.t 30, true)), (.bin .lss), [.t 31, .c (.i .i64 1)]⟩, ⟨.t 33, (some (.t 20, false)), .pick, [.t 30, .t 32, .c (.b false)]⟩, ⟨.t 34, none, .pick, [.t 20, .c (.b true), .t 33]⟩, ⟨.t 17, none, .mv, [.t 34]⟩])
 (.cond (.t 17) (.seq (.reg [⟨.l 8, none, .mv, [.c (.b false)]⟩, ⟨.l 9, none, .mv, [.c (.i .i64 1)]⟩])
 .ret) (.seq (.reg [⟨.t 36, none, .mv, [.l 0]⟩, ⟨.t 37, none, .nilchk, [.t 36]⟩, ⟨.t 38, none, (.fad 0), [.t 37]⟩, ⟨.t 39, none, (.ld none), [.t 38]⟩, ⟨.t 40, none, .mv, [.l 1]⟩, ⟨.t 41, none, (.iad 4), [.t 39, .t 40]⟩, ⟨.t 42, none, (.fad 0), [.t 41]⟩, ⟨.t 43, none, (.ld none), [.t 42]⟩, ⟨.t 44, none, (.bin .eql), [.t 43, .c (.i .i64 4)]⟩, ⟨.t 35, none, .mv, [.t 44]⟩])
 (.cond (.t 35) (.seq (.reg [⟨.l 8, none, .mv, [.c (.b false)]⟩, ⟨.l 9, none, .mv, [.c (.i .i64 7)]⟩])
 .ret) .skip)))))))
 (.seq (.reg [⟨.t 46, none, .mv, [.l 0]⟩, ⟨.t 47, none, .mv, [.l 1]⟩, ⟨.t 48, none, (.call 132), [.t 46, .t 47]⟩, ⟨.t 45, none, .mv, [.t 48]⟩, ⟨.t 49, none, (.ext 0), [.t 45]⟩, ⟨.t 50, none, (.ext 1), [.t 45]⟩, ⟨.l 10, none, .mv, [.t 49]⟩, ⟨.t 11, none, .mv, [.t 50]⟩])
 (.seq (.reg [⟨.t 51, none, .mv, [.l 0]⟩, ⟨.t 52, none, .mv, [.l 1]⟩, ⟨.t 53, none, .mv, [.l 2]⟩, ⟨.t 54, none, .mv, [.l 3]⟩, ⟨.t 55, none, (.call 180), [.t 51, .t 52, .t 53, .t 54]⟩])
 (.seq (.reg [⟨.t 56, none, .mv, [.l 10]⟩, ⟨.l 8, none, .mv, [.t 56]⟩, ⟨.l 9, none, .mv, [.c (.i .i64 0)]⟩])
 .ret))))), [.tmp (.l 8), .tmp (.l 9)]⟩
/-- (*tarpaulin/world.act).c -/
def b134 : Nat := 5
def a134 : AFn := ⟨(.seq (.reg [⟨.l 2, none, .mv, [.c (.i .i64 0)]⟩])
 (.seq (.reg [⟨.t 3, none, .mv, [.l 0]⟩, ⟨.t 4, none, .mv, [.l 0]⟩, ⟨.t 5, none, .nilchk, [.t 4]⟩, ⟨.t 6, none, (.fad 2), [.t 5]⟩, ⟨.t 7, none, (.fad 3), [.t 6]⟩, ⟨.t 8, none, (.ld none), [.t 7]⟩, ⟨.t 9, none, .nilchk, [.t 3]⟩, ⟨.t 10, none, (.fad 8), [.t 9]⟩, ⟨.t 11, none, (.iadA 8 1), [.t 10, .t 8]⟩, ⟨.t 12, none, (.ld none), [.t 11]⟩, ⟨.l 2, none, .mv, [.t 12]⟩])
 .ret)), [.tmp (.l 2)]⟩
/-- (*tarpaulin/ctx.Set).Deadline -/
def b135 : Nat := 130831
def a135 : AFn := ⟨(.seq (.reg [⟨.l 8, none, .mv, [.c (.i .i64 0)]⟩, ⟨.l 9, none, .mv, [.c (.sl none 0 0 0)]⟩, ⟨.l 10, none, .mv, [.c (.i .i64 0)]⟩])
 (.seq (.seq (.reg [⟨.t 17, none, .mv, [.l 0]⟩, ⟨.t 18, none, .mv, [.l 1]⟩, ⟨.t 19, none, (.call 181), [.t 17, .t 18]⟩, ⟨.l 11, none, .mv, [.t 19]⟩])
 (.seq (.reg [⟨.t 20, none, .mv, [.l 11]⟩, ⟨.t 21, none, (.bin .neq), [.t 20, .c (.i .i64 0)]⟩])
 (.cond (.t 21) (.seq (.reg [⟨.t 22, none, .mv, [.l 11]⟩, ⟨.l 8, none, .mv, [.c (.i .i64 0)]⟩, ⟨.l 9, none, .mv, [.c (.sl none 0 0 0)]⟩, ⟨.l 10, none, .mv, [.t 22]⟩])
 .ret) .skip)))
 (.seq (.reg [⟨.t 23, none, .mv, [.l 2]⟩, ⟨.t 24, none, (.call 60), [.t 23, .c (.i .i64 0)]⟩, ⟨.t 25, none, .max, [.t 24, .c (.i .i64 0)]⟩, ⟨.l 2, none, .mv, [.t 25]⟩])
 (.seq (.reg [⟨.t 26, none, .mv, [.l 0]⟩, ⟨.t 27, none, .nilchk, [.t 26]⟩, ⟨.t 28, none, (.fad 2), [.t 27]⟩, ⟨.t 29, none, (.ld none), [.t 28]⟩, ⟨.t 30, none, .mv, [.l 1]⟩, ⟨.t 31, none, (.iad 9), [.t 29, .t 30]⟩, ⟨.t 32, none, (.ld (some 9)), [.t 31]⟩, ⟨.l 12, none, (.alloc [(.i .i64 0), (.b false), (.p none), (.i .i64 0), (.i .i64 0), (.i .i64 0), (.b false), (.b false), (.i .i64 0)]), []⟩, ⟨.no, none, (.st 9), [.l 12, .t 32]⟩])
 (.seq (.seq (.reg [⟨.t 33, none, (.fad 6), [.l 12]⟩, ⟨.t 34, none, (.ld none), [.t 33]⟩, ⟨.t 35, none, .mv, [.t 34]⟩, ⟨.t 36, (some (.t 35, true)), (.fad 5), [.l 12]⟩, ⟨.t 37, (some (.t 35, true)), (.ld none), [.t 36]⟩, ⟨.t 38, (some (.t 35, true)), .mv, [.l 2]⟩, ⟨.t 39, (some (.t 35, true)), (.bin .leq), [.t 37, .t 38]⟩, ⟨.t 40, none, .pick, [.t 35, .t 39, .c (.b false)]⟩])
 (.cond (.t 40) (.seq (.reg [⟨.t 41, none, .mv, [.l 0]⟩, ⟨.t 42, none, .mv, [.l 1]⟩, ⟨.t 43, none, (.call 136), [.t 41, .t 42]⟩, ⟨.t 44, none, (.ext 0), [.t 43]⟩, ⟨.t 45, none, (.ext 1), [.t 43]⟩, ⟨.t 46, none, (.ext 2), [.t 43]⟩, ⟨.l 8, none, .mv, [.t 44]⟩, ⟨.l 9, none, .mv, [.t 45]⟩, ⟨.l 10, none, .mv, [.t 46]⟩])
 .ret) .skip))
 (.seq (.regD [⟨.t 47, none, .mv, [.l 0]⟩, ⟨.t 48, none, (.call 182), []⟩, ⟨.t 49, none, .mv, [.l 2]⟩, ⟨.t 50, none, (.build [(.i .i64 0), (.b false), (.p none), (.i .i64 0), (.i .i64 0), (.i .i64 0), (.b false), (.b false), (.i .i64 0)] [(2, 1), (5, 1), (6, 1), (7, 1)]), [.t 48, .t 49, .c (.b true), .c (.b true)]⟩, ⟨.t 51, none, (.fad 0), [.l 12]⟩, ⟨.t 52, none, (.ld none), [.t 51]⟩, ⟨.t 53, none, (.call 54), [.t 47, .t 50, .t 52]⟩, ⟨.l 13, none, .mv, [.t 53]⟩] [(5, 0)])
 (.seq (.seq (.reg [⟨.t 54, none, .mv, [.l 0]⟩, ⟨.t 55, none, .mv, [.l 13]⟩, ⟨.t 56, none, .mv, [.l 1]⟩, ⟨.t 57, none, (.call 183), [.t 54, .t 55, .t 56]⟩, ⟨.l 14, none, .mv, [.t 57]⟩])
 (.block 0 (.seq (.reg [⟨.t 59, none, .mv, [.l 14]⟩, ⟨.t 60, none, .lenSl, [.t 59]⟩, ⟨.t 61, none, (.bin .gtr), [.t 60, .c (.i .i64 0)]⟩, ⟨.t 58, none, .mv, [.t 61]⟩])
 (.cond (.t 58) (.seq (.reg [⟨.t 62, none, .mv, [.l 13]⟩, ⟨.t 63, none, .mv, [.l 14]⟩, ⟨.l 8, none, .mv, [.t 62]⟩, ⟨.l 9, none, .mv, [.t 63]⟩, ⟨.l 10, none, .mv, [.c (.i .i64 0)]⟩])
 .ret) (.seq (.reg [⟨.t 65, none, .mv, [.l 2]⟩, ⟨.t 66, none, .mv, [.l 3]⟩, ⟨.t 67, none, (.bin .leq), [.t 65, .t 66]⟩, ⟨.t 64, none, .mv, [.t 67]⟩])
 (.cond (.t 64) (.seq (.reg [⟨.t 69, none, .mv, [.l 0]⟩, ⟨.t 70, none, .mv, [.l 13]⟩, ⟨.t 71, none, (.call 107), [.t 69, .t 70, .c (.i .i64 2), .c (.i .i64 2)]⟩, ⟨.t 68, none, .mv, [.t 71]⟩, ⟨.t 72, none, (.ext 0), [.t 68]⟩, ⟨.t 73, none, (.ext 1), [.t 68]⟩, ⟨.l 14, none, .mv, [.t 72]⟩])
 (.seq (.reg [⟨.t 74, none, .mv, [.l 13]⟩, ⟨.t 75, none, .mv, [.l 14]⟩, ⟨.l 8, none, .mv, [.t 74]⟩, ⟨.l 9, none, .mv, [.t 75]⟩, ⟨.l 10, none, .mv, [.c (.i .i64 0)]⟩])
 .ret)) .skip))))))
 (.seq (.seq (.reg [⟨.t 77, none, .mv, [.l 0]⟩, ⟨.t 78, none, .nilchk, [.t 77]⟩, ⟨.t 79, none, (.fad 0), [.t 78]⟩, ⟨.t 80, none, (.ld none), [.t 79]⟩, ⟨.t 81, none, .mv, [.l 2]⟩, ⟨.t 82, none, .mv, [.l 13]⟩, ⟨.t 83, none, (.call 184), [.t 80, .t 81, .t 82]⟩, ⟨.t 76, none, .mv, [.t 83]⟩, ⟨.t 84, none, (.ext 0), [.t 76]⟩, ⟨.t 85, none, (.ext 1), [.t 76]⟩, ⟨.l 15, none, .mv, [.t 84]⟩, ⟨.l 16, none, .mv, [.t 85]⟩])
 (.seq (.reg [⟨.t 86, none, .mv, [.l 16]⟩, ⟨.t 87, none, (.bin .eql), [.t 86, .c (.i .i64 0)]⟩])
 (.cond (.t 87) (.reg [⟨.t 88, none, .mv, [.l 0]⟩, ⟨.t 89, none, .nilchk, [.t 88]⟩, ⟨.t 90, none, (.fad 2), [.t 89]⟩, ⟨.t 91, none, (.ld none), [.t 90]⟩, ⟨.t 92, none, .mv, [.l 13]⟩, ⟨.t 93, none, .mv, [.l 15]⟩, ⟨.t 94, none, (.iad 9), [.t 91, .t 92]⟩, ⟨.t 95, none, (.fad 8), [.t 94]⟩, ⟨.no, none, (.st 1), [.t 95, .t 93]⟩]) .skip)))
 (.seq (.reg [⟨.t 96, none, .mv, [.l 13]⟩, ⟨.l 8, none, .mv, [.t 96]⟩, ⟨.l 9, none, .mv, [.c (.sl none 0 0 0)]⟩, ⟨.l 10, none, .mv, [.c (.i .i64 0)]⟩])
 .ret))))))))), [.tmp (.l 8), .tmp (.l 9), .tmp (.l 10)]⟩
/-- (*tarpaulin/ctx.Set).Cancels -/
def b136 : Nat := 1011
def a136 : AFn := ⟨(.seq (.reg [⟨.l 4, none, .mv, [.c (.i .i64 0)]⟩, ⟨.l 5, none, .mv, [.c (.sl none 0 0 0)]⟩, ⟨.l 6, none, .mv, [.c (.i .i64 0)]⟩])
 (.seq (.seq (.reg [⟨.t 10, none, .mv, [.l 0]⟩, ⟨.t 11, none, .mv, [.l 1]⟩, ⟨.t 12, none, (.call 181), [.t 10, .t 11]⟩, ⟨.l 7, none, .mv, [.t 12]⟩])
 (.seq (.reg [⟨.t 13, none, .mv, [.l 7]⟩, ⟨.t 14, none, (.bin .neq), [.t 13, .c (.i .i64 0)]⟩])
 (.cond (.t 14) (.seq (.reg [⟨.t 15, none, .mv, [.l 7]⟩, ⟨.l 4, none, .mv, [.c (.i .i64 0)]⟩, ⟨.l 5, none, .mv, [.c (.sl none 0 0 0)]⟩, ⟨.l 6, none, .mv, [.t 15]⟩])
 .ret) .skip)))
 (.seq (.reg [⟨.t 16, none, .mv, [.l 0]⟩, ⟨.t 17, none, .nilchk, [.t 16]⟩, ⟨.t 18, none, (.fad 2), [.t 17]⟩, ⟨.t 19, none, (.ld none), [.t 18]⟩, ⟨.t 20, none, .mv, [.l 1]⟩, ⟨.t 21, none, (.iad 9), [.t 19, .t 20]⟩, ⟨.t 22, none, (.ld (some 9)), [.t 21]⟩, ⟨.l 8, none, (.alloc [(.i .i64 0), (.b false), (.p none), (.i .i64 0), (.i .i64 0), (.i .i64 0), (.b false), (.b false), (.i .i64 0)]), []⟩, ⟨.no, none, (.st 9), [.l 8, .t 22]⟩])
 (.seq (.regD [⟨.t 23, none, .mv, [.l 0]⟩, ⟨.t 24, none, (.call 182), []⟩, ⟨.t 25, none, (.fad 5), [.l 8]⟩, ⟨.t 26, none, (.ld none), [.t 25]⟩, ⟨.t 27, none, (.fad 6), [.l 8]⟩, ⟨.t 28, none, (.ld none), [.t 27]⟩, ⟨.t 29, none, (.build [(.i .i64 0), (.b false), (.p none), (.i .i64 0), (.i .i64 0), (.i .i64 0), (.b false), (.b false), (.i .i64 0)] [(2, 1), (5, 1), (6, 1)]), [.t 24, .t 26, .t 28]⟩, ⟨.t 30, none, (.fad 0), [.l 8]⟩, ⟨.t 31, none, (.ld none), [.t 30]⟩, ⟨.t 32, none, (.call 54), [.t 23, .t 29, .t 31]⟩, ⟨.l 9, none, .mv, [.t 32]⟩] [(3, 0), (5, 0), (8, 0)])
 (.seq (.reg [⟨.t 33, none, .mv, [.l 9]⟩, ⟨.t 34, none, .mv, [.l 0]⟩, ⟨.t 35, none, .mv, [.l 9]⟩, ⟨.t 36, none, .mv, [.l 1]⟩, ⟨.t 37, none, (.call 183), [.t 34, .t 35, .t 36]⟩, ⟨.l 4, none, .mv, [.t 33]⟩, ⟨.l 5, none, .mv, [.t 37]⟩, ⟨.l 6, none, .mv, [.c (.i .i64 0)]⟩])
 .ret))))), [.tmp (.l 4), .tmp (.l 5), .tmp (.l 6)]⟩
/-- (*tarpaulin/ctx.Set).Without -/
def b137 : Nat := 115
def a137 : AFn := ⟨(.seq (.reg [⟨.l 4, none, .mv, [.c (.i .i64 0)]⟩, ⟨.l 5, none, .mv, [.c (.i .i64 0)]⟩])
 (.seq (.seq (.reg [⟨.t 7, none, .mv, [.l 0]⟩, ⟨.t 8, none, .mv, [.l 1]⟩, ⟨.t 9, none, (.call 181), [.t 7, .t 8]⟩, ⟨.l 6, none, .mv, [.t 9]⟩])
 (.seq (.reg [⟨.t 10, none, .mv, [.l 6]⟩, ⟨.t 11, none, (.bin .neq), [.t 10, .c (.i .i64 0)]⟩])
 (.cond (.t 11) (.seq (.reg [⟨.t 12, none, .mv, [.l 6]⟩, ⟨.l 4, none, .mv, [.c (.i .i64 0)]⟩, ⟨.l 5, none, .mv, [.t 12]⟩])
 .ret) .skip)))
 (.seq (.reg [⟨.t 13, none, .mv, [.l 0]⟩, ⟨.t 14, none, (.build [(.i .i64 0), (.b false), (.p none), (.i .i64 0), (.i .i64 0), (.i .i64 0), (.b false), (.b false), (.i .i64 0)] [(1, 1)]), [.c (.b true)]⟩, ⟨.t 15, none, .mv, [.l 0]⟩, ⟨.t 16, none, .nilchk, [.t 15]⟩, ⟨.t 17, none, (.fad 2), [.t 16]⟩, ⟨.t 18, none, (.ld none), [.t 17]⟩, ⟨.t 19, none, .mv, [.l 1]⟩, ⟨.t 20, none, (.iad 9), [.t 18, .t 19]⟩, ⟨.t 21, none, (.fad 0), [.t 20]⟩, ⟨.t 22, none, (.ld none), [.t 21]⟩, ⟨.t 23, none, (.call 54), [.t 13, .t 14, .t 22]⟩, ⟨.l 4, none, .mv, [.t 23]⟩, ⟨.l 5, none, .mv, [.c (.i .i64 0)]⟩])
 .ret))), [.tmp (.l 4), .tmp (.l 5)]⟩
/-- (*tarpaulin/ctx.Set).Done -/
def b138 : Nat := 51
def a138 : AFn := ⟨(.seq (.reg [⟨.l 4, none, .mv, [.c (.p none)]⟩, ⟨.l 5, none, .mv, [.c (.i .i64 0)]⟩])
 (.seq (.seq (.reg [⟨.t 6, none, .mv, [.l 0]⟩, ⟨.t 7, none, .mv, [.l 1]⟩, ⟨.t 8, none, (.call 106), [.t 6, .t 7]⟩, ⟨.t 9, none, (.un .not), [.t 8]⟩])
 (.cond (.t 9) (.seq (.reg [⟨.l 4, none, .mv, [.c (.p none)]⟩, ⟨.l 5, none, .mv, [.c (.i .i64 4)]⟩])
 .ret) .skip))
 (.seq (.reg [⟨.t 10, none, .mv, [.l 0]⟩, ⟨.t 11, none, .nilchk, [.t 10]⟩, ⟨.t 12, none, (.fad 2), [.t 11]⟩, ⟨.t 13, none, (.ld none), [.t 12]⟩, ⟨.t 14, none, .mv, [.l 1]⟩, ⟨.t 15, none, (.iad 9), [.t 13, .t 14]⟩, ⟨.t 16, none, (.fad 2), [.t 15]⟩, ⟨.t 17, none, (.ld none), [.t 16]⟩, ⟨.l 4, none, .mv, [.t 17]⟩, ⟨.l 5, none, .mv, [.c (.i .i64 0)]⟩])
 .ret))), [.tmp (.l 4), .tmp (.l 5)]⟩
/-- (*tarpaulin/ctx.Set).Err -/
def b139 : Nat := 51
def a139 : AFn := ⟨(.seq (.reg [⟨.l 4, none, .mv, [.c (.i .i64 0)]⟩, ⟨.l 5, none, .mv, [.c (.i .i64 0)]⟩])
 (.seq (.seq (.reg [⟨.t 6, none, .mv, [.l 0]⟩, ⟨.t 7, none, .mv, [.l 1]⟩, ⟨.t 8, none, (.call 106), [.t 6, .t 7]⟩, ⟨.t 9, none, (.un .not), [.t 8]⟩])
 (.cond (.t 9) (.seq (.reg [⟨.l 4, none, .mv, [.c (.i .i64 0)]⟩, ⟨.l 5, none, .mv, [.c (.i .i64 4)]⟩])
 .ret) .skip))
 (.seq (.reg [⟨.t 10, none, .mv, [.l 0]⟩, ⟨.t 11, none, .nilchk, [.t 10]⟩, ⟨.t 12, none, (.fad 2), [.t 11]⟩, ⟨.t 13, none, (.ld none), [.t 12]⟩, ⟨.t 14, none, .mv, [.l 1]⟩, ⟨.t 15, none, (.iad 9), [.t 13, .t 14]⟩, ⟨.t 16, none, (.fad 3), [.t 15]⟩, ⟨.t 17, none, (.ld none), [.t 16]⟩, ⟨.l 4, none, .mv, [.t 17]⟩, ⟨.l 5, none, .mv, [.c (.i .i64 0)]⟩])
 .ret))), [.tmp (.l 4), .tmp (.l 5)]⟩
/-- (*tarpaulin/ctx.Set).Cause -/
def b140 : Nat := 51
def a140 : AFn := ⟨(.seq (.reg [⟨.l 4, none, .mv, [.c (.i .i64 0)]⟩, ⟨.l 5, none, .mv, [.c (.i .i64 0)]⟩])
 (.seq (.seq (.reg [⟨.t 6, none, .mv, [.l 0]⟩, ⟨.t 7, none, .mv, [.l 1]⟩, ⟨.t 8, none, (.call 106), [.t 6, .t 7]⟩, ⟨.t 9, none, (.un .not), [.t 8]⟩])
 (.cond (.t 9) (.seq (.reg [⟨.l 4, none, .mv, [.c (.i .i64 0)]⟩, ⟨.l 5, none, .mv, [.c (.i .i64 4)]⟩])
 .ret) .skip))
 (.seq (.reg [⟨.t 10, none, .mv, [.l 0]⟩, ⟨.t 11, none, .nilchk, [.t 10]⟩, ⟨.t 12, none, (.fad 2), [.t 11]⟩, ⟨.t 13, none, (.ld none), [.t 12]⟩, ⟨.t 14, none, .mv, [.l 1]⟩, ⟨.t 15, none, (.iad 9), [.t 13, .t 14]⟩, ⟨.t 16, none, (.fad 4), [.t 15]⟩, ⟨.t 17, none, (.ld none), [.t 16]⟩, ⟨.l 4, none, .mv, [.t 17]⟩, ⟨.l 5, none, .mv, [.c (.i .i64 0)]⟩])
 .ret))), [.tmp (.l 4), .tmp (.l 5)]⟩
/-- (*tarpaulin/ctx.Set).Until -/
def b141 : Nat := 115
def a141 : AFn := ⟨(.seq (.reg [⟨.l 4, none, .mv, [.c (.i .i64 0)]⟩, ⟨.l 5, none, .mv, [.c (.b false)]⟩, ⟨.l 6, none, .mv, [.c (.i .i64 0)]⟩])
 (.seq (.seq (.reg [⟨.t 7, none, .mv, [.l 0]⟩, ⟨.t 8, none, .mv, [.l 1]⟩, ⟨.t 9, none, (.call 106), [.t 7, .t 8]⟩, ⟨.t 10, none, (.un .not), [.t 9]⟩])
 (.cond (.t 10) (.seq (.reg [⟨.l 4, none, .mv, [.c (.i .i64 0)]⟩, ⟨.l 5, none, .mv, [.c (.b false)]⟩, ⟨.l 6, none, .mv, [.c (.i .i64 4)]⟩])
 .ret) .skip))
 (.seq (.reg [⟨.t 11, none, .mv, [.l 0]⟩, ⟨.t 12, none, .nilchk, [.t 11]⟩, ⟨.t 13, none, (.fad 2), [.t 12]⟩, ⟨.t 14, none, (.ld none), [.t 13]⟩, ⟨.t 15, none, .mv, [.l 1]⟩, ⟨.t 16, none, (.iad 9), [.t 14, .t 15]⟩, ⟨.t 17, none, (.fad 5), [.t 16]⟩, ⟨.t 18, none, (.ld none), [.t 17]⟩, ⟨.t 19, none, .mv, [.l 0]⟩, ⟨.t 20, none, .nilchk, [.t 19]⟩, ⟨.t 21, none, (.fad 2), [.t 20]⟩, ⟨.t 22, none, (.ld none), [.t 21]⟩, ⟨.t 23, none, .mv, [.l 1]⟩, ⟨.t 24, none, (.iad 9), [.t 22, .t 23]⟩, ⟨.t 25, none, (.fad 6), [.t 24]⟩, ⟨.t 26, none, (.ld none), [.t 25]⟩, ⟨.l 4, none, .mv, [.t 18]⟩, ⟨.l 5, none, .mv, [.t 26]⟩, ⟨.l 6, none, .mv, [.c (.i .i64 0)]⟩])
 .ret))), [.tmp (.l 4), .tmp (.l 5), .tmp (.l 6)]⟩
/-- (*tarpaulin/ctx.Set).Unafter -/
def b142 : Nat := 243
def a142 : AFn := ⟨(.seq (.reg [⟨.l 4, none, .mv, [.c (.b false)]⟩, ⟨.l 5, none, .mv, [.c (.i .i64 0)]⟩])
 (.seq (.seq (.reg [⟨.t 8, none, .mv, [.l 0]⟩, ⟨.t 9, none, (.eq false .ptr), [.t 8, .c (.p none)]⟩, ⟨.t 10, none, .mv, [.t 9]⟩, ⟨.t 11, (some (.t 10, false)), .mv, [.l 1]⟩, ⟨.t 12, (some (.t 10, false)), (.bin .lss), [.t 11, .c (.i .i64 0)]⟩, ⟨.t 13, none, .pick, [.t 10, .c (.b true), .t 12]⟩, ⟨.t 14, none, .mv, [.t 13]⟩, ⟨.t 15, (some (.t 14, false)), .mv, [.l 1]⟩, ⟨.t 16, (some (.t 14, false)), .mv, [.l 0]⟩, ⟨.t 17, (some (.t 14, false)), .nilchk, [.t 16]⟩, ⟨.t 18, (some (.t 14, false)), (.fad 3), [.t 17]⟩, ⟨.t 19, (some (.t 14, false)), (.ld none), [.t 18]⟩, ⟨.t 20, (some (.t 14, false)), .lenSl, [.t 19]⟩, ⟨.t 21, (some (.t 14, false)), (.bin .geq), [.t 15, .t 20]⟩, ⟨.t 22, none, .pick, [.t 14, .c (.b true), .t 21]⟩])
 (.cond (.t 22) (.seq (.reg [⟨.l 4, none, .mv, [.c (.b false)]⟩, ⟨.l 5, none, .mv, [.c (.i .i64 4)]⟩])
 .ret) .skip))
 (.seq (.reg [⟨.t 23, none, .mv, [.l 0]⟩, ⟨.t 24, none, .nilchk, [.t 23]⟩, ⟨.t 25, none, (.fad 3), [.t 24]⟩, ⟨.t 26, none, (.ld none), [.t 25]⟩, ⟨.t 27, none, .mv, [.l 1]⟩, ⟨.t 28, none, (.iad 3), [.t 26, .t 27]⟩, ⟨.l 6, none, .mv, [.t 28]⟩])
 (.seq (.reg [⟨.t 29, none, .mv, [.l 6]⟩, ⟨.t 30, none, .nilchk, [.t 29]⟩, ⟨.t 31, none, (.fad 2), [.t 30]⟩, ⟨.t 32, none, (.ld none), [.t 31]⟩, ⟨.t 33, none, (.un .not), [.t 32]⟩, ⟨.l 7, none, .mv, [.t 33]⟩])
 (.seq (.reg [⟨.t 34, none, .mv, [.l 6]⟩, ⟨.t 35, none, .nilchk, [.t 34]⟩, ⟨.t 36, none, (.fad 2), [.t 35]⟩, ⟨.no, none, (.st 1), [.t 36, .c (.b true)]⟩])
 (.seq (.reg [⟨.t 37, none, .mv, [.l 0]⟩, ⟨.t 38, none, .nilchk, [.t 37]⟩, ⟨.t 39, none, (.fad 1), [.t 38]⟩, ⟨.t 40, none, (.ld none), [.t 39]⟩, ⟨.t 41, none, .mv, [.l 6]⟩, ⟨.t 42, none, .nilchk, [.t 41]⟩, ⟨.t 43, none, (.fad 0), [.t 42]⟩, ⟨.t 44, none, (.ld none), [.t 43]⟩, ⟨.t 45, none, (.call 159), [.t 40, .t 44]⟩])
 (.seq (.reg [⟨.t 46, none, .mv, [.l 7]⟩, ⟨.l 4, none, .mv, [.t 46]⟩, ⟨.l 5, none, .mv, [.c (.i .i64 0)]⟩])
 .ret))))))), [.tmp (.l 4), .tmp (.l 5)]⟩
/-- (*tarpaulin/ctx.Set).After -/
def b143 : Nat := 3015
def a143 : AFn := ⟨(.seq (.reg [⟨.l 6, none, .mv, [.c (.i .i64 0)]⟩, ⟨.l 7, none, .mv, [.c (.sl none 0 0 0)]⟩, ⟨.l 8, none, .mv, [.c (.i .i64 0)]⟩])
 (.seq (.block 0 (.seq (.reg [⟨.t 13, none, .mv, [.l 0]⟩, ⟨.t 14, none, .mv, [.l 1]⟩, ⟨.t 15, none, (.call 106), [.t 13, .t 14]⟩, ⟨.t 16, none, (.un .not), [.t 15]⟩, ⟨.t 12, none, .mv, [.t 16]⟩])
 (.cond (.t 12) (.seq (.reg [⟨.l 6, none, .mv, [.c (.i .i64 0)]⟩, ⟨.l 7, none, .mv, [.c (.sl none 0 0 0)]⟩, ⟨.l 8, none, .mv, [.c (.i .i64 4)]⟩])
 .ret) (.seq (.reg [⟨.t 18, none, .mv, [.l 2]⟩, ⟨.t 19, none, (.bin .lss), [.t 18, .c (.i .i64 0)]⟩, ⟨.t 17, none, .mv, [.t 19]⟩])
 (.cond (.t 17) (.seq (.reg [⟨.l 6, none, .mv, [.c (.i .i64 0)]⟩, ⟨.l 7, none, .mv, [.c (.sl none 0 0 0)]⟩, ⟨.l 8, none, .mv, [.c (.i .i64 1)]⟩])
 .ret) (.seq (.reg [⟨.t 21, none, .mv, [.l 0]⟩, ⟨.t 22, none, .nilchk, [.t 21]⟩, ⟨.t 23, none, (.fad 3), [.t 22]⟩, ⟨.t 24, none, (.ld none), [.t 23]⟩, ⟨.t 25, none, .lenSl, [.t 24]⟩, ⟨.t 26, none, (.bin .geq), [.t 25, .c (.i .i64 64)]⟩, ⟨.t 20, none, .mv, [.t 26]⟩])
 (.cond (.t 20) (.seq (.reg [⟨.l 6, none, .mv, [.c (.i .i64 0)]⟩, ⟨.l 7, none, .mv, [.c (.sl none 0 0 0)]⟩, ⟨.l 8, none, .mv, [.c (.i .i64 3)]⟩])
 .ret) .skip)))))))
 (.seq (.reg [⟨.t 28, none, .mv, [.l 0]⟩, ⟨.t 29, none, .nilchk, [.t 28]⟩, ⟨.t 30, none, (.fad 1), [.t 29]⟩, ⟨.t 31, none, (.ld none), [.t 30]⟩, ⟨.t 32, none, .mv, [.l 0]⟩, ⟨.t 33, none, .nilchk, [.t 32]⟩, ⟨.t 34, none, (.fad 2), [.t 33]⟩, ⟨.t 35, none, (.ld none), [.t 34]⟩, ⟨.t 36, none, .mv, [.l 1]⟩, ⟨.t 37, none, (.iad 9), [.t 35, .t 36]⟩, ⟨.t 38, none, (.fad 0), [.t 37]⟩, ⟨.t 39, none, (.ld none), [.t 38]⟩, ⟨.t 40, none, (.call 96), [.t 31, .t 39, .c (.b true)]⟩, ⟨.t 27, none, .mv, [.t 40]⟩, ⟨.t 41, none, (.ext 0), [.t 27]⟩, ⟨.t 42, none, (.ext 1), [.t 27]⟩, ⟨.l 9, none, .mv, [.t 41]⟩, ⟨.t 10, none, .mv, [.t 42]⟩])
 (.seq (.reg [⟨.t 43, none, .mv, [.l 0]⟩, ⟨.t 44, none, .nilchk, [.t 43]⟩, ⟨.t 45, none, (.fad 3), [.t 44]⟩, ⟨.t 46, none, (.ld none), [.t 45]⟩, ⟨.t 47, none, .lenSl, [.t 46]⟩, ⟨.l 11, none, .mv, [.t 47]⟩])
 (.seq (.reg [⟨.t 48, none, .mv, [.l 0]⟩, ⟨.t 49, none, .nilchk, [.t 48]⟩, ⟨.t 50, none, (.fad 4), [.t 49]⟩, ⟨.t 51, none, (.ld none), [.t 50]⟩, ⟨.t 52, none, .mv, [.l 9]⟩, ⟨.t 53, none, .mv, [.l 11]⟩, ⟨.t 54, none, (.un .neg), [.t 53]⟩, ⟨.t 55, none, (.bin .sub), [.t 54, .c (.i .i64 1)]⟩, ⟨.no, none, .mset, [.t 51, .t 52, .t 55]⟩])
 (.seq (.reg [⟨.t 56, none, .mv, [.l 0]⟩, ⟨.t 57, none, .mv, [.l 0]⟩, ⟨.t 58, none, .nilchk, [.t 57]⟩, ⟨.t 59, none, (.fad 3), [.t 58]⟩, ⟨.t 60, none, (.ld none), [.t 59]⟩, ⟨.t 61, none, .mv, [.l 9]⟩, ⟨.t 62, none, .mv, [.l 2]⟩, ⟨.t 63, none, (.build [(.i .i64 0), (.i .i64 0), (.b false)] [(0, 1), (1, 1)]), [.t 61, .t 62]⟩, ⟨.t 64, none, (.bslice [(.i .i64 0), (.i .i64 0), (.b false)] 1 3 [0]), [.t 63]⟩, ⟨.t 65, none, (.app 3 24), [.t 60, .t 64]⟩, ⟨.t 66, none, .nilchk, [.t 56]⟩, ⟨.t 67, none, (.fad 3), [.t 66]⟩, ⟨.no, none, (.st 1), [.t 67, .t 65]⟩])
 (.seq (.seq (.reg [⟨.t 68, none, .mv, [.l 0]⟩, ⟨.t 69, none, .nilchk, [.t 68]⟩, ⟨.t 70, none, (.fad 2), [.t 69]⟩, ⟨.t 71, none, (.ld none), [.t 70]⟩, ⟨.t 72, none, .mv, [.l 1]⟩, ⟨.t 73, none, (.iad 9), [.t 71, .t 72]⟩, ⟨.t 74, none, (.fad 3), [.t 73]⟩, ⟨.t 75, none, (.ld none), [.t 74]⟩, ⟨.t 76, none, (.bin .neq), [.t 75, .c (.i .i64 0)]⟩])
 (.cond (.t 76) (.seq (.reg [⟨.t 77, none, .mv, [.l 11]⟩, ⟨.t 78, none, .mv, [.l 0]⟩, ⟨.t 79, none, .mv, [.l 11]⟩, ⟨.t 80, none, (.call 158), [.t 78, .t 79]⟩, ⟨.t 81, none, (.bslice [(.i .i64 0), (.i .i64 0)] 1 2 [0]), [.t 80]⟩, ⟨.l 6, none, .mv, [.t 77]⟩, ⟨.l 7, none, .mv, [.t 81]⟩, ⟨.l 8, none, .mv, [.c (.i .i64 0)]⟩])
 .ret) .skip))
 (.seq (.reg [⟨.t 82, none, .mv, [.l 11]⟩, ⟨.l 6, none, .mv, [.t 82]⟩, ⟨.l 7, none, .mv, [.c (.sl none 0 0 0)]⟩, ⟨.l 8, none, .mv, [.c (.i .i64 0)]⟩])
 .ret)))))))), [.tmp (.l 6), .tmp (.l 7), .tmp (.l 8)]⟩
/-- slices.Index[[]int,int] -/
def b144 : Nat := 435
def a144 : AFn := ⟨(.seq (.reg [⟨.l 4, none, .mv, [.c (.i .i64 0)]⟩])
 (.seq (.seq (.reg [⟨.t 6, none, .mv, [.l 0]⟩, ⟨.l 7, none, .lenSl, [.t 6]⟩, ⟨.l 8, none, .mv, [.c (.i .i64 0)]⟩])
 (.block 0 (.loop (.seq (.reg [⟨.t 9, none, (.bin .lss), [.l 8, .l 7]⟩])
 (.seq (.cond (.t 9) .skip (.exit 0))
 (.seq (.block 1 (.seq (.reg [⟨.t 10, none, .mv, [.l 8]⟩, ⟨.l 5, none, .mv, [.t 10]⟩])
 (.seq (.reg [⟨.t 11, none, .mv, [.l 1]⟩, ⟨.t 12, none, .mv, [.l 0]⟩, ⟨.t 13, none, .mv, [.l 5]⟩, ⟨.t 14, none, (.iad 1), [.t 12, .t 13]⟩, ⟨.t 15, none, (.ld none), [.t 14]⟩, ⟨.t 16, none, (.bin .eql), [.t 11, .t 15]⟩])
 (.cond (.t 16) (.seq (.reg [⟨.t 17, none, .mv, [.l 5]⟩, ⟨.l 4, none, .mv, [.t 17]⟩])
 .ret) .skip))))
 (.reg [⟨.t 18, none, (.bin .add), [.l 8, .c (.i .i64 1)]⟩, ⟨.l 8, none, .mv, [.t 18]⟩])))))))
 (.seq (.reg [⟨.l 4, none, .mv, [.c (.i .i64 (-1))]⟩])
 .ret))), [.tmp (.l 4)]⟩
/-- slices.Delete[[]int,int] -/
def b145 : Nat := 199
def a145 : AFn := ⟨(.seq (.reg [⟨.l 6, none, .mv, [.c (.sl none 0 0 0)]⟩])
 (.seq (.reg [⟨.t 8, none, .mv, [.l 0]⟩, ⟨.t 9, none, .mv, [.l 1]⟩, ⟨.t 10, none, .mv, [.l 2]⟩, ⟨.t 11, none, .mv, [.l 0]⟩, ⟨.t 12, none, .lenSl, [.t 11]⟩, ⟨.t 13, none, (.slc 1 true true true), [.t 8, .t 9, .t 10, .t 12]⟩])
 (.seq (.seq (.reg [⟨.t 14, none, .mv, [.l 1]⟩, ⟨.t 15, none, .mv, [.l 2]⟩, ⟨.t 16, none, (.bin .eql), [.t 14, .t 15]⟩])
 (.cond (.t 16) (.seq (.reg [⟨.t 17, none, .mv, [.l 0]⟩, ⟨.l 6, none, .mv, [.t 17]⟩])
 .ret) .skip))
 (.seq (.reg [⟨.t 18, none, .mv, [.l 0]⟩, ⟨.t 19, none, .lenSl, [.t 18]⟩, ⟨.l 7, none, .mv, [.t 19]⟩])
 (.seq (.reg [⟨.t 20, none, .mv, [.l 0]⟩, ⟨.t 21, none, .mv, [.l 1]⟩, ⟨.t 22, none, (.slc 1 false true false), [.t 20, .t 21]⟩, ⟨.t 23, none, .mv, [.l 0]⟩, ⟨.t 24, none, .mv, [.l 2]⟩, ⟨.t 25, none, (.slc 1 true false false), [.t 23, .t 24]⟩, ⟨.t 26, none, (.app 1 8), [.t 22, .t 25]⟩, ⟨.l 0, none, .mv, [.t 26]⟩])
 (.seq (.reg [⟨.t 27, none, .mv, [.l 0]⟩, ⟨.t 28, none, .mv, [.l 0]⟩, ⟨.t 29, none, .lenSl, [.t 28]⟩, ⟨.t 30, none, .mv, [.l 7]⟩, ⟨.t 31, none, (.slc 1 true true false), [.t 27, .t 29, .t 30]⟩, ⟨.no, none, (.clr [(.i .i64 0)]), [.t 31]⟩])
 (.seq (.reg [⟨.t 32, none, .mv, [.l 0]⟩, ⟨.l 6, none, .mv, [.t 32]⟩])
 .ret))))))), [.tmp (.l 6)]⟩
/-- tarpaulin/prog.may -/
def b146 : Nat := 199
def a146 : AFn := ⟨(.seq (.reg [⟨.l 6, none, .mv, [.c (.b false)]⟩])
 (.seq (.seq (.reg [⟨.l 7, none, .mv, [.l 0]⟩])
 (.block 0 (.seq (.reg [⟨.t 9, none, (.bin .eql), [.l 7, .c (.i .u8 114)]⟩, ⟨.t 8, none, .mv, [.t 9]⟩])
 (.cond (.t 8) (.seq (.reg [⟨.t 10, none, .mv, [.l 1]⟩, ⟨.t 11, none, (.call 149), [.t 10]⟩, ⟨.l 6, none, .mv, [.t 11]⟩])
 .ret) (.seq (.reg [⟨.t 13, none, (.bin .eql), [.l 7, .c (.i .u8 112)]⟩, ⟨.t 12, none, .mv, [.t 13]⟩])
 (.cond (.t 12) (.seq (.reg [⟨.t 14, none, .mv, [.l 1]⟩, ⟨.t 15, none, (.bin .geq), [.t 14, .c (.i .i64 0)]⟩, ⟨.t 16, none, .mv, [.t 15]⟩, ⟨.t 17, (some (.t 16, true)), .mv, [.l 1]⟩, ⟨.t 18, (some (.t 16, true)), .mv, [.l 2]⟩, ⟨.t 19, (some (.t 16, true)), (.bin .leq), [.t 17, .t 18]⟩, ⟨.t 20, none, .pick, [.t 16, .t 19, .c (.b false)]⟩, ⟨.l 6, none, .mv, [.t 20]⟩])
 .ret) (.seq (.reg [⟨.t 22, none, (.bin .eql), [.l 7, .c (.i .u8 103)]⟩, ⟨.t 21, none, .mv, [.t 22]⟩])
 (.cond (.t 21) (.seq (.reg [⟨.t 23, none, .mv, [.l 1]⟩, ⟨.t 24, none, (.bin .geq), [.t 23, .c (.i .i64 0)]⟩, ⟨.t 25, none, .mv, [.t 24]⟩, ⟨.t 26, (some (.t 25, true)), .mv, [.l 1]⟩, ⟨.t 27, (some (.t 25, true)), (.bin .lss), [.t 26, .c (.i .i64 16)]⟩, ⟨.t 28, none, .pick, [.t 25, .t 27, .c (.b false)]⟩, ⟨.l 6, none, .mv, [.t 28]⟩])
 .ret) (.seq (.reg [⟨.t 30, none, (.bin .eql), [.l 7, .c (.i .u8 45)]⟩, ⟨.t 29, none, .mv, [.t 30]⟩])
 (.cond (.t 29) (.seq (.reg [⟨.t 31, none, .mv, [.l 1]⟩, ⟨.t 32, none, (.bin .eql), [.t 31, .c (.i .i64 0)]⟩, ⟨.l 6, none, .mv, [.t 32]⟩])
 .ret) .skip))))))))))
 (.seq (.reg [⟨.l 6, none, .mv, [.c (.b true)]⟩])
 .ret))), [.tmp (.l 6)]⟩
/-- slices.ContainsFunc[[]tarpaulin/api.Case,tarpaulin/api.Case] -/
def b147 : Nat := 19
def a147 : AFn := ⟨(.seq (.reg [⟨.l 4, none, .mv, [.c (.b false)]⟩])
 (.seq (.reg [⟨.t 5, none, .mv, [.l 0]⟩, ⟨.t 6, none, .mv, [.l 1]⟩, ⟨.t 7, none, (.call 185), [.t 5, .t 6]⟩, ⟨.t 8, none, (.bin .geq), [.t 7, .c (.i .i64 0)]⟩, ⟨.l 4, none, .mv, [.t 8]⟩])
 .ret)), [.tmp (.l 4)]⟩
/-- tarpaulin/prog.good$1 -/
def b148 : Nat := 7
def a148 : AFn := ⟨(.seq (.reg [⟨.l 1, none, .box, [.l 0]⟩, ⟨.l 2, none, .mv, [.c (.b false)]⟩])
 (.seq (.reg [⟨.t 3, none, (.fad 1), [.l 1]⟩, ⟨.t 4, none, (.ld none), [.t 3]⟩, ⟨.t 5, none, (.call 149), [.t 4]⟩, ⟨.t 6, none, (.un .not), [.t 5]⟩, ⟨.t 7, none, .mv, [.t 6]⟩, ⟨.t 8, (some (.t 7, false)), (.fad 2), [.l 1]⟩, ⟨.t 9, (some (.t 7, false)), (.ld none), [.t 8]⟩, ⟨.t 10, (some (.t 7, false)), (.call 149), [.t 9]⟩, ⟨.t 11, (some (.t 7, false)), (.un .not), [.t 10]⟩, ⟨.t 12, none, .pick, [.t 7, .c (.b true), .t 11]⟩, ⟨.t 13, none, .mv, [.t 12]⟩, ⟨.t 14, (some (.t 13, false)), (.fad 0), [.l 1]⟩, ⟨.t 15, (some (.t 13, false)), (.ld none), [.t 14]⟩, ⟨.t 16, (some (.t 13, false)), (.un .not), [.t 15]⟩, ⟨.t 17, (some (.t 13, false)), .mv, [.t 16]⟩, ⟨.t 18, (some (.t 17, true)), (.fad 2), [.l 1]⟩, ⟨.t 19, (some (.t 17, true)), (.ld none), [.t 18]⟩, ⟨.t 20, (some (.t 17, true)), (.bin .neq), [.t 19, .c (.i .i64 0)]⟩, ⟨.t 21, (some (.t 13, false)), .pick, [.t 17, .t 20, .c (.b false)]⟩, ⟨.t 22, none, .pick, [.t 13, .c (.b true), .t 21]⟩, ⟨.l 2, none, .mv, [.t 22]⟩])
 .ret)), [.tmp (.l 2)]⟩
/-- tarpaulin/prog.register -/
def b149 : Nat := 5
def a149 : AFn := ⟨(.seq (.reg [⟨.l 2, none, .mv, [.c (.b false)]⟩])
 (.seq (.reg [⟨.t 3, none, .mv, [.l 0]⟩, ⟨.t 4, none, (.bin .geq), [.t 3, .c (.i .i64 0)]⟩, ⟨.t 5, none, .mv, [.t 4]⟩, ⟨.t 6, (some (.t 5, true)), .mv, [.l 0]⟩, ⟨.t 7, (some (.t 5, true)), (.bin .lss), [.t 6, .c (.i .i64 8)]⟩, ⟨.t 8, none, .pick, [.t 5, .t 7, .c (.b false)]⟩, ⟨.l 2, none, .mv, [.t 8]⟩])
 .ret)), [.tmp (.l 2)]⟩
/-- (*tarpaulin/tree.Tree).has -/
def b150 : Nat := 19
def a150 : AFn := ⟨(.seq (.reg [⟨.l 4, none, .mv, [.c (.b false)]⟩])
 (.seq (.reg [⟨.t 5, none, .mv, [.l 1]⟩, ⟨.t 6, none, (.bin .geq), [.t 5, .c (.i .i64 0)]⟩, ⟨.t 7, none, .mv, [.t 6]⟩, ⟨.t 8, (some (.t 7, true)), .mv, [.l 1]⟩, ⟨.t 9, (some (.t 7, true)), .mv, [.l 0]⟩, ⟨.t 10, (some (.t 7, true)), (.call 186), [.t 9]⟩, ⟨.t 11, (some (.t 7, true)), (.bin .lss), [.t 8, .t 10]⟩, ⟨.t 12, none, .pick, [.t 7, .t 11, .c (.b false)]⟩, ⟨.l 4, none, .mv, [.t 12]⟩])
 .ret)), [.tmp (.l 4)]⟩
/-- (*tarpaulin/heap.Heap).Min -/
def b151 : Nat := 13
def a151 : AFn := ⟨(.seq (.reg [⟨.l 2, none, (.alloc [(.i .i64 0), (.i .i64 0), (.i .i64 0)]), []⟩, ⟨.l 3, none, .mv, [.c (.b false)]⟩])
 (.seq (.seq (.reg [⟨.t 4, none, .mv, [.l 0]⟩, ⟨.t 5, none, (.call 187), [.t 4]⟩, ⟨.t 6, none, (.bin .eql), [.t 5, .c (.i .i64 0)]⟩])
 (.cond (.t 6) (.seq (.reg [⟨.t 7, none, (.build [(.i .i64 0), (.i .i64 0), (.i .i64 0)] []), []⟩, ⟨.no, none, (.st 3), [.l 2, .t 7]⟩, ⟨.l 3, none, .mv, [.c (.b false)]⟩])
 .ret) .skip))
 (.seq (.reg [⟨.t 8, none, .mv, [.l 0]⟩, ⟨.t 9, none, .nilchk, [.t 8]⟩, ⟨.t 10, none, (.fad 0), [.t 9]⟩, ⟨.t 11, none, (.ld none), [.t 10]⟩, ⟨.t 12, none, (.iad 3), [.t 11, .c (.i .i64 0)]⟩, ⟨.t 13, none, (.ld (some 3)), [.t 12]⟩, ⟨.no, none, (.st 3), [.l 2, .t 13]⟩, ⟨.l 3, none, .mv, [.c (.b true)]⟩])
 .ret))), [.cell (.l 2) (some 3), .tmp (.l 3)]⟩
/-- (*tarpaulin/heap.Heap).Remove -/
def b152 : Nat := 2035
def a152 : AFn := ⟨(.seq (.reg [⟨.l 4, none, (.alloc [(.i .i64 0), (.i .i64 0), (.i .i64 0)]), []⟩, ⟨.l 5, none, .mv, [.c (.b false)]⟩])
 (.seq (.reg [⟨.t 12, none, .mv, [.l 0]⟩, ⟨.t 13, none, .mv, [.l 1]⟩, ⟨.t 14, none, (.call 188), [.t 12, .t 13]⟩, ⟨.t 11, none, .mv, [.t 14]⟩, ⟨.t 15, none, (.ext 0), [.t 11]⟩, ⟨.t 16, none, (.ext 1), [.t 11]⟩, ⟨.l 6, none, (.alloc [(.i .i64 0), (.i .i64 0), (.i .i64 0)]), []⟩, ⟨.no, none, (.st 3), [.l 6, .t 15]⟩, ⟨.l 7, none, .mv, [.t 16]⟩])
 (.seq (.seq (.reg [⟨.t 17, none, .mv, [.l 7]⟩, ⟨.t 18, none, (.un .not), [.t 17]⟩])
 (.cond (.t 18) (.seq (.reg [⟨.t 19, none, (.build [(.i .i64 0), (.i .i64 0), (.i .i64 0)] []), []⟩, ⟨.no, none, (.st 3), [.l 4, .t 19]⟩, ⟨.l 5, none, .mv, [.c (.b false)]⟩])
 .ret) .skip))
 (.seq (.reg [⟨.t 20, none, .mv, [.l 0]⟩, ⟨.t 21, none, .nilchk, [.t 20]⟩, ⟨.t 22, none, (.fad 1), [.t 21]⟩, ⟨.t 23, none, (.ld none), [.t 22]⟩, ⟨.t 24, none, .mv, [.l 1]⟩, ⟨.t 25, none, (.lkup (.i .i64 0) false), [.t 23, .t 24]⟩, ⟨.t 26, none, .mv, [.l 0]⟩, ⟨.t 27, none, .nilchk, [.t 26]⟩, ⟨.t 28, none, (.fad 0), [.t 27]⟩, ⟨.t 29, none, (.ld none), [.t 28]⟩, ⟨.t 30, none, .lenSl, [.t 29]⟩, ⟨.t 31, none, (.bin .sub), [.t 30, .c (.i .i64 1)]⟩, ⟨.l 8, none, .mv, [.t 25]⟩, ⟨.l 9, none, .mv, [.t 31]⟩])
 (.seq (.reg [⟨.t 32, none, .mv, [.l 0]⟩, ⟨.t 33, none, .nilchk, [.t 32]⟩, ⟨.t 34, none, (.fad 0), [.t 33]⟩, ⟨.t 35, none, (.ld none), [.t 34]⟩, ⟨.t 36, none, .mv, [.l 9]⟩, ⟨.t 37, none, (.iad 3), [.t 35, .t 36]⟩, ⟨.t 38, none, (.ld (some 3)), [.t 37]⟩, ⟨.l 10, none, (.alloc [(.i .i64 0), (.i .i64 0), (.i .i64 0)]), []⟩, ⟨.no, none, (.st 3), [.l 10, .t 38]⟩])
 (.seq (.reg [⟨.t 39, none, .mv, [.l 0]⟩, ⟨.t 40, none, .mv, [.l 0]⟩, ⟨.t 41, none, .nilchk, [.t 40]⟩, ⟨.t 42, none, (.fad 0), [.t 41]⟩, ⟨.t 43, none, (.ld none), [.t 42]⟩, ⟨.t 44, none, .mv, [.l 9]⟩, ⟨.t 45, none, (.slc 3 false true false), [.t 43, .t 44]⟩, ⟨.t 46, none, .nilchk, [.t 39]⟩, ⟨.t 47, none, (.fad 0), [.t 46]⟩, ⟨.no, none, (.st 1), [.t 47, .t 45]⟩])
 (.seq (.reg [⟨.t 48, none, .mv, [.l 0]⟩, ⟨.t 49, none, .nilchk, [.t 48]⟩, ⟨.t 50, none, (.fad 1), [.t 49]⟩, ⟨.t 51, none, (.ld none), [.t 50]⟩, ⟨.t 52, none, .mv, [.l 1]⟩, ⟨.no, none, .mdel, [.t 51, .t 52]⟩])
 (.seq (.seq (.reg [⟨.t 53, none, .mv, [.l 8]⟩, ⟨.t 54, none, .mv, [.l 9]⟩, ⟨.t 55, none, (.bin .lss), [.t 53, .t 54]⟩])
 (.cond (.t 55) (.seq (.reg [⟨.t 56, none, .mv, [.l 0]⟩, ⟨.t 57, none, .mv, [.l 8]⟩, ⟨.t 58, none, (.ld (some 3)), [.l 10]⟩, ⟨.t 59, none, (.call 189), [.t 56, .t 57, .t 58]⟩])
 (.seq (.reg [⟨.t 60, none, .mv, [.l 0]⟩, ⟨.t 61, none, .mv, [.l 8]⟩, ⟨.t 62, none, (.call 190), [.t 60, .t 61]⟩])
 (.reg [⟨.t 63, none, .mv, [.l 0]⟩, ⟨.t 64, none, .mv, [.l 0]⟩, ⟨.t 65, none, .nilchk, [.t 64]⟩, ⟨.t 66, none, (.fad 1), [.t 65]⟩, ⟨.t 67, none, (.ld none), [.t 66]⟩, ⟨.t 68, none, (.fad 0), [.l 10]⟩, ⟨.t 69, none, (.ld none), [.t 68]⟩, ⟨.t 70, none, (.lkup (.i .i64 0) false), [.t 67, .t 69]⟩, ⟨.t 71, none, (.call 191), [.t 63, .t 70]⟩]))) .skip))
 (.seq (.reg [⟨.t 72, none, (.ld (some 3)), [.l 6]⟩, ⟨.no, none, (.st 3), [.l 4, .t 72]⟩, ⟨.l 5, none, .mv, [.c (.b true)]⟩])
 .ret))))))))), [.cell (.l 4) (some 3), .tmp (.l 5)]⟩
/-- (*tarpaulin/expire.Timers).Stop -/
def b153 : Nat := 83
def a153 : AFn := ⟨(.seq (.reg [⟨.l 4, none, .mv, [.c (.b false)]⟩])
 (.seq (.seq (.reg [⟨.t 7, none, .mv, [.l 0]⟩, ⟨.t 8, none, (.eq false .ptr), [.t 7, .c (.p none)]⟩])
 (.cond (.t 8) (.seq (.reg [⟨.l 4, none, .mv, [.c (.b false)]⟩])
 .ret) .skip))
 (.seq (.reg [⟨.t 10, none, .mv, [.l 0]⟩, ⟨.t 11, none, .nilchk, [.t 10]⟩, ⟨.t 12, none, (.fad 0), [.t 11]⟩, ⟨.t 13, none, (.ld none), [.t 12]⟩, ⟨.t 14, none, .mv, [.l 1]⟩, ⟨.t 15, none, (.call 152), [.t 13, .t 14]⟩, ⟨.t 9, none, .mv, [.t 15]⟩, ⟨.t 16, none, (.ext 0), [.t 9]⟩, ⟨.t 17, none, (.ext 1), [.t 9]⟩, ⟨.t 5, none, (.alloc [(.i .i64 0), (.i .i64 0), (.i .i64 0)]), []⟩, ⟨.no, none, (.st 3), [.t 5, .t 16]⟩, ⟨.l 6, none, .mv, [.t 17]⟩])
 (.seq (.reg [⟨.t 18, none, .mv, [.l 0]⟩, ⟨.t 19, none, .nilchk, [.t 18]⟩, ⟨.t 20, none, (.fad 1), [.t 19]⟩, ⟨.t 21, none, (.ld none), [.t 20]⟩, ⟨.t 22, none, .mv, [.l 1]⟩, ⟨.no, none, .mdel, [.t 21, .t 22]⟩])
 (.seq (.reg [⟨.t 23, none, .mv, [.l 6]⟩, ⟨.l 4, none, .mv, [.t 23]⟩])
 .ret))))), [.tmp (.l 4)]⟩
/-- (*tarpaulin/heap.Heap).Add -/
def b154 : Nat := 327
def a154 : AFn := ⟨(.seq (.reg [⟨.l 6, none, .mv, [.c (.i .i64 0)]⟩])
 (.seq (.seq (.reg [⟨.t 9, none, .mv, [.l 0]⟩, ⟨.t 10, none, (.eq false .ptr), [.t 9, .c (.p none)]⟩])
 (.cond (.t 10) (.seq (.reg [⟨.l 6, none, .mv, [.c (.i .i64 1)]⟩])
 .ret) .skip))
 (.seq (.seq (.reg [⟨.t 12, none, .mv, [.l 0]⟩, ⟨.t 13, none, .nilchk, [.t 12]⟩, ⟨.t 14, none, (.fad 1), [.t 13]⟩, ⟨.t 15, none, (.ld none), [.t 14]⟩, ⟨.t 16, none, .mv, [.l 1]⟩, ⟨.t 17, none, (.lkup (.i .i64 0) true), [.t 15, .t 16]⟩, ⟨.t 11, none, .mv, [.t 17]⟩, ⟨.t 18, none, (.ext 0), [.t 11]⟩, ⟨.t 19, none, (.ext 1), [.t 11]⟩, ⟨.t 7, none, .mv, [.t 18]⟩, ⟨.l 8, none, .mv, [.t 19]⟩])
 (.seq (.reg [⟨.t 20, none, .mv, [.l 8]⟩])
 (.cond (.t 20) (.seq (.reg [⟨.l 6, none, .mv, [.c (.i .i64 1)]⟩])
 .ret) .skip)))
 (.seq (.reg [⟨.t 21, none, .mv, [.l 0]⟩, ⟨.t 22, none, .nilchk, [.t 21]⟩, ⟨.t 23, none, (.fad 2), [.t 22]⟩, ⟨.t 24, none, (.ld none), [.t 23]⟩, ⟨.t 25, none, (.bin .add), [.t 24, .c (.i .i64 1)]⟩, ⟨.t 26, none, .nilchk, [.t 21]⟩, ⟨.t 27, none, (.fad 2), [.t 26]⟩, ⟨.no, none, (.st 1), [.t 27, .t 25]⟩])
 (.seq (.reg [⟨.t 28, none, .mv, [.l 0]⟩, ⟨.t 29, none, .mv, [.l 0]⟩, ⟨.t 30, none, .nilchk, [.t 29]⟩, ⟨.t 31, none, (.fad 0), [.t 30]⟩, ⟨.t 32, none, (.ld none), [.t 31]⟩, ⟨.t 33, none, .mv, [.l 1]⟩, ⟨.t 34, none, .mv, [.l 2]⟩, ⟨.t 35, none, .mv, [.l 0]⟩, ⟨.t 36, none, .nilchk, [.t 35]⟩, ⟨.t 37, none, (.fad 2), [.t 36]⟩, ⟨.t 38, none, (.ld none), [.t 37]⟩, ⟨.t 39, none, (.build [(.i .i64 0), (.i .i64 0), (.i .i64 0)] [(0, 1), (1, 1), (2, 1)]), [.t 33, .t 34, .t 38]⟩, ⟨.t 40, none, (.bslice [(.i .i64 0), (.i .i64 0), (.i .i64 0)] 1 3 [0]), [.t 39]⟩, ⟨.t 41, none, (.app 3 24), [.t 32, .t 40]⟩, ⟨.t 42, none, .nilchk, [.t 28]⟩, ⟨.t 43, none, (.fad 0), [.t 42]⟩, ⟨.no, none, (.st 1), [.t 43, .t 41]⟩])
 (.seq (.reg [⟨.t 44, none, .mv, [.l 0]⟩, ⟨.t 45, none, .mv, [.l 0]⟩, ⟨.t 46, none, .nilchk, [.t 45]⟩, ⟨.t 47, none, (.fad 0), [.t 46]⟩, ⟨.t 48, none, (.ld none), [.t 47]⟩, ⟨.t 49, none, .lenSl, [.t 48]⟩, ⟨.t 50, none, (.bin .sub), [.t 49, .c (.i .i64 1)]⟩, ⟨.t 51, none, (.call 190), [.t 44, .t 50]⟩])
 (.seq (.reg [⟨.l 6, none, .mv, [.c (.i .i64 0)]⟩])
 .ret))))))), [.tmp (.l 6)]⟩
/-- (*tarpaulin/wait.Queue).Pop -/
def b155 : Nat := 13
def a155 : AFn := ⟨(.seq (.reg [⟨.l 2, none, (.alloc [(.i .i64 0), (.i .i64 0), (.i .i64 0)]), []⟩, ⟨.l 3, none, .mv, [.c (.b false)]⟩])
 (.seq (.reg [⟨.t 4, none, .mv, [.l 0]⟩, ⟨.t 5, none, (.call 192), [.t 4, .c (.fn 193 [] [])]⟩, ⟨.t 6, none, (.ext 0), [.t 5]⟩, ⟨.t 7, none, (.ext 1), [.t 5]⟩, ⟨.no, none, (.st 3), [.l 2, .t 6]⟩, ⟨.l 3, none, .mv, [.t 7]⟩])
 .ret)), [.cell (.l 2) (some 3), .tmp (.l 3)]⟩
/-- (*tarpaulin/chanq.Chan).End -/
def b156 : Nat := 5
def a156 : AFn := ⟨(.seq (.reg [⟨.l 2, none, .mv, [.c (.sl none 0 0 0)]⟩])
 (.seq (.seq (.reg [⟨.t 3, none, .mv, [.l 0]⟩, ⟨.t 4, none, (.eq false .ptr), [.t 3, .c (.p none)]⟩, ⟨.t 5, none, .mv, [.t 4]⟩, ⟨.t 6, (some (.t 5, false)), .mv, [.l 0]⟩, ⟨.t 7, (some (.t 5, false)), .nilchk, [.t 6]⟩, ⟨.t 8, (some (.t 5, false)), (.fad 4), [.t 7]⟩, ⟨.t 9, (some (.t 5, false)), (.ld none), [.t 8]⟩, ⟨.t 10, (some (.t 5, false)), (.un .not), [.t 9]⟩, ⟨.t 11, none, .pick, [.t 5, .c (.b true), .t 10]⟩, ⟨.t 12, none, .mv, [.t 11]⟩, ⟨.t 13, (some (.t 12, false)), .mv, [.l 0]⟩, ⟨.t 14, (some (.t 12, false)), .nilchk, [.t 13]⟩, ⟨.t 15, (some (.t 12, false)), (.fad 5), [.t 14]⟩, ⟨.t 16, (some (.t 12, false)), (.ld none), [.t 15]⟩, ⟨.t 17, none, .pick, [.t 12, .c (.b true), .t 16]⟩])
 (.cond (.t 17) (.seq (.reg [⟨.l 2, none, .mv, [.c (.sl none 0 0 0)]⟩])
 .ret) .skip))
 (.seq (.reg [⟨.t 18, none, .mv, [.l 0]⟩, ⟨.t 19, none, (.call 194), [.t 18]⟩, ⟨.l 2, none, .mv, [.t 19]⟩])
 .ret))), [.tmp (.l 2)]⟩
/-- (*tarpaulin/tree.Tree).Kids -/
def b157 : Nat := 19
def a157 : AFn := ⟨(.seq (.reg [⟨.l 4, none, .mv, [.c (.sl none 0 0 0)]⟩])
 (.seq (.seq (.reg [⟨.t 5, none, .mv, [.l 0]⟩, ⟨.t 6, none, .mv, [.l 1]⟩, ⟨.t 7, none, (.call 150), [.t 5, .t 6]⟩, ⟨.t 8, none, (.un .not), [.t 7]⟩])
 (.cond (.t 8) (.seq (.reg [⟨.l 4, none, .mv, [.c (.sl none 0 0 0)]⟩])
 .ret) .skip))
 (.seq (.reg [⟨.t 9, none, .mv, [.l 0]⟩, ⟨.t 10, none, .nilchk, [.t 9]⟩, ⟨.t 11, none, (.fad 0), [.t 10]⟩, ⟨.t 12, none, (.ld none), [.t 11]⟩, ⟨.t 13, none, .mv, [.l 1]⟩, ⟨.t 14, none, (.iad 3), [.t 12, .t 13]⟩, ⟨.t 15, none, (.fad 2), [.t 14]⟩, ⟨.t 16, none, (.ld none), [.t 15]⟩, ⟨.t 17, none, (.call 31), [.t 16]⟩, ⟨.l 4, none, .mv, [.t 17]⟩])
 .ret))), [.tmp (.l 4)]⟩
/-- (*tarpaulin/ctx.Set).start -/
def b158 : Nat := 51
def a158 : AFn := ⟨(.seq (.reg [⟨.l 4, none, (.alloc [(.i .i64 0), (.i .i64 0)]), []⟩])
 (.seq (.reg [⟨.t 6, none, .mv, [.l 0]⟩, ⟨.t 7, none, .nilchk, [.t 6]⟩, ⟨.t 8, none, (.fad 3), [.t 7]⟩, ⟨.t 9, none, (.ld none), [.t 8]⟩, ⟨.t 10, none, .mv, [.l 1]⟩, ⟨.t 11, none, (.iad 3), [.t 9, .t 10]⟩, ⟨.l 5, none, .mv, [.t 11]⟩])
 (.seq (.reg [⟨.t 12, none, .mv, [.l 5]⟩, ⟨.t 13, none, .nilchk, [.t 12]⟩, ⟨.t 14, none, (.fad 2), [.t 13]⟩, ⟨.no, none, (.st 1), [.t 14, .c (.b true)]⟩])
 (.seq (.reg [⟨.t 15, none, .mv, [.l 0]⟩, ⟨.t 16, none, .nilchk, [.t 15]⟩, ⟨.t 17, none, (.fad 1), [.t 16]⟩, ⟨.t 18, none, (.ld none), [.t 17]⟩, ⟨.t 19, none, .mv, [.l 5]⟩, ⟨.t 20, none, .nilchk, [.t 19]⟩, ⟨.t 21, none, (.fad 0), [.t 20]⟩, ⟨.t 22, none, (.ld none), [.t 21]⟩, ⟨.t 23, none, (.call 159), [.t 18, .t 22]⟩])
 (.seq (.reg [⟨.t 24, none, .mv, [.l 1]⟩, ⟨.t 25, none, .mv, [.l 5]⟩, ⟨.t 26, none, .nilchk, [.t 25]⟩, ⟨.t 27, none, (.fad 1), [.t 26]⟩, ⟨.t 28, none, (.ld none), [.t 27]⟩, ⟨.t 29, none, (.build [(.i .i64 0), (.i .i64 0)] [(0, 1), (1, 1)]), [.t 24, .t 28]⟩, ⟨.no, none, (.st 2), [.l 4, .t 29]⟩])
 .ret))))), [.cell (.l 4) (some 2)]⟩
/-- (*tarpaulin/tree.Tree).Detach -/
def b159 : Nat := 115
def a159 : AFn := ⟨(.seq (.reg [⟨.l 4, none, .mv, [.c (.b false)]⟩])
 (.seq (.seq (.reg [⟨.t 7, none, .mv, [.l 0]⟩, ⟨.t 8, none, .mv, [.l 1]⟩, ⟨.t 9, none, (.call 150), [.t 7, .t 8]⟩, ⟨.t 10, none, (.un .not), [.t 9]⟩, ⟨.t 11, none, .mv, [.t 10]⟩, ⟨.t 12, (some (.t 11, false)), .mv, [.l 0]⟩, ⟨.t 13, (some (.t 11, false)), .nilchk, [.t 12]⟩, ⟨.t 14, (some (.t 11, false)), (.fad 0), [.t 13]⟩, ⟨.t 15, (some (.t 11, false)), (.ld none), [.t 14]⟩, ⟨.t 16, (some (.t 11, false)), .mv, [.l 1]⟩, ⟨.t 17, (some (.t 11, false)), (.iad 3), [.t 15, .t 16]⟩, ⟨.t 18, (some (.t 11, false)), (.fad 1), [.t 17]⟩, ⟨.t 19, (some (.t 11, false)), (.ld none), [.t 18]⟩, ⟨.t 20, (some (.t 11, false)), (.un .not), [.t 19]⟩, ⟨.t 21, none, .pick, [.t 11, .c (.b true), .t 20]⟩])
 (.cond (.t 21) (.seq (.reg [⟨.l 4, none, .mv, [.c (.b false)]⟩])
 .ret) .skip))
 (.seq (.reg [⟨.t 22, none, .mv, [.l 0]⟩, ⟨.t 23, none, .nilchk, [.t 22]⟩, ⟨.t 24, none, (.fad 0), [.t 23]⟩, ⟨.t 25, none, (.ld none), [.t 24]⟩, ⟨.t 26, none, .mv, [.l 1]⟩, ⟨.t 27, none, (.iad 3), [.t 25, .t 26]⟩, ⟨.t 28, none, (.fad 1), [.t 27]⟩, ⟨.no, none, (.st 1), [.t 28, .c (.b false)]⟩])
 (.seq (.reg [⟨.t 29, none, .mv, [.l 0]⟩, ⟨.t 30, none, .nilchk, [.t 29]⟩, ⟨.t 31, none, (.fad 0), [.t 30]⟩, ⟨.t 32, none, (.ld none), [.t 31]⟩, ⟨.t 33, none, .mv, [.l 0]⟩, ⟨.t 34, none, .nilchk, [.t 33]⟩, ⟨.t 35, none, (.fad 0), [.t 34]⟩, ⟨.t 36, none, (.ld none), [.t 35]⟩, ⟨.t 37, none, .mv, [.l 1]⟩, ⟨.t 38, none, (.iad 3), [.t 36, .t 37]⟩, ⟨.t 39, none, (.fad 0), [.t 38]⟩, ⟨.t 40, none, (.ld none), [.t 39]⟩, ⟨.t 41, none, (.iad 3), [.t 32, .t 40]⟩, ⟨.l 5, none, .mv, [.t 41]⟩])
 (.seq (.reg [⟨.t 42, none, .mv, [.l 5]⟩, ⟨.t 43, none, .nilchk, [.t 42]⟩, ⟨.t 44, none, (.fad 2), [.t 43]⟩, ⟨.t 45, none, (.ld none), [.t 44]⟩, ⟨.t 46, none, .mv, [.l 1]⟩, ⟨.t 47, none, (.call 144), [.t 45, .t 46]⟩, ⟨.l 6, none, .mv, [.t 47]⟩])
 (.seq (.reg [⟨.t 48, none, .mv, [.l 5]⟩, ⟨.t 49, none, .mv, [.l 5]⟩, ⟨.t 50, none, .nilchk, [.t 49]⟩, ⟨.t 51, none, (.fad 2), [.t 50]⟩, ⟨.t 52, none, (.ld none), [.t 51]⟩, ⟨.t 53, none, .mv, [.l 6]⟩, ⟨.t 54, none, .mv, [.l 6]⟩, ⟨.t 55, none, (.bin .add), [.t 54, .c (.i .i64 1)]⟩, ⟨.t 56, none, (.call 145), [.t 52, .t 53, .t 55]⟩, ⟨.t 57, none, .nilchk, [.t 48]⟩, ⟨.t 58, none, (.fad 2), [.t 57]⟩, ⟨.no, none, (.st 1), [.t 58, .t 56]⟩])
 (.seq (.reg [⟨.l 4, none, .mv, [.c (.b true)]⟩])
 .ret))))))), [.tmp (.l 4)]⟩
/-- (*tarpaulin/chanq.Chan).Remove -/
def b160 : Nat := 19
def a160 : AFn := ⟨(.seq (.reg [⟨.l 4, none, .mv, [.c (.i .i64 0)]⟩])
 (.seq (.reg [⟨.t 5, none, .mv, [.l 0]⟩, ⟨.t 6, none, (.call 195), [.t 5, .c (.b false)]⟩, ⟨.t 7, none, .mv, [.l 1]⟩, ⟨.t 8, none, (.call 196), [.t 6, .t 7]⟩, ⟨.t 9, none, .mv, [.l 0]⟩, ⟨.t 10, none, (.call 195), [.t 9, .c (.b true)]⟩, ⟨.t 11, none, .mv, [.l 1]⟩, ⟨.t 12, none, (.call 196), [.t 10, .t 11]⟩, ⟨.t 13, none, (.bin .add), [.t 8, .t 12]⟩, ⟨.l 4, none, .mv, [.t 13]⟩])
 .ret)), [.tmp (.l 4)]⟩
/-- (*tarpaulin/task.Table).Wake$1 -/
def b161 : Nat := 5
def a161 : AFn := ⟨(.seq (.reg [⟨.l 2, none, .mv, [.c (.b false)]⟩])
 (.seq (.reg [⟨.t 3, none, .mv, [.l 0]⟩, ⟨.t 4, none, (.bin .eql), [.t 3, .c (.i .i64 1)]⟩, ⟨.l 2, none, .mv, [.t 4]⟩])
 .ret)), [.tmp (.l 2)]⟩
/-- (*tarpaulin/task.Task).told -/
def b162 : Nat := 1051
def a162 : AFn := ⟨(.seq (.reg [⟨.l 3, none, .box, [.l 1]⟩])
 (.seq (.reg [⟨.t 5, none, .mv, [.l 0]⟩, ⟨.t 6, none, .nilchk, [.t 5]⟩, ⟨.t 7, none, (.fad 12), [.t 6]⟩, ⟨.t 8, none, (.ld (some 6)), [.t 7]⟩, ⟨.l 4, none, (.alloc [(.i .i64 0), (.i .i64 0), (.i .i64 0), (.i .i64 0), (.sl none 0 0 0), (.b false)]), []⟩, ⟨.no, none, (.st 6), [.l 4, .t 8]⟩])
 (.seq (.reg [⟨.t 9, none, (.fad 0), [.l 4]⟩, ⟨.l 10, none, (.ld none), [.t 9]⟩])
 (.block 0 (.seq (.block 2 (.seq (.block 1 (.seq (.seq (.seq (.reg [⟨.t 12, none, (.bin .eql), [.l 10, .c (.i .i64 15)]⟩, ⟨.t 11, none, .mv, [.t 12]⟩])
 (.cond (.t 11) (.exit 1) .skip))
 (.seq (.reg [⟨.t 14, none, (.bin .eql), [.l 10, .c (.i .i64 11)]⟩, ⟨.t 13, none, .mv, [.t 14]⟩])
 (.cond (.t 13) (.exit 2) .skip)))
 (.exit 0)))
 (.seq (.reg [⟨.t 15, none, .mv, [.l 0]⟩, ⟨.t 16, none, (.fad 1), [.l 4]⟩, ⟨.t 17, none, (.ld none), [.t 16]⟩, ⟨.t 18, none, (.fad 1), [.l 3]⟩, ⟨.t 19, none, (.ld none), [.t 18]⟩, ⟨.t 20, none, .nilchk, [.t 15]⟩, ⟨.t 21, none, (.fad 4), [.t 20]⟩, ⟨.t 22, none, (.iadA 8 1), [.t 21, .t 17]⟩, ⟨.no, none, (.st 1), [.t 22, .t 19]⟩])
 (.seq (.reg [⟨.t 23, none, (.ld (some 6)), [.l 4]⟩, ⟨.t 24, none, (.fad 1), [.l 3]⟩, ⟨.t 25, none, (.ld none), [.t 24]⟩, ⟨.t 26, none, (.call 197), [.t 23, .t 25]⟩, ⟨.t 27, none, (.un .not), [.t 26]⟩])
 (.cond (.t 27) .ret .skip)))))
 (.seq (.seq (.regD [⟨.t 28, none, .mv, [.l 0]⟩, ⟨.t 29, none, (.fad 2), [.l 4]⟩, ⟨.t 30, none, (.ld none), [.t 29]⟩, ⟨.t 31, none, .mv, [.l 0]⟩, ⟨.t 32, none, (.fad 3), [.l 4]⟩, ⟨.t 33, none, (.ld none), [.t 32]⟩, ⟨.t 34, none, (.fad 2), [.l 3]⟩, ⟨.t 35, none, (.ld none), [.t 34]⟩, ⟨.t 36, none, .nilchk, [.t 28]⟩, ⟨.t 37, none, (.fad 4), [.t 36]⟩, ⟨.t 38, none, (.iadA 8 1), [.t 37, .t 30]⟩, ⟨.no, none, (.st 1), [.t 38, .t 35]⟩, ⟨.t 39, none, .nilchk, [.t 31]⟩, ⟨.t 40, none, (.fad 4), [.t 39]⟩, ⟨.t 41, none, (.iadA 8 1), [.t 40, .t 33]⟩, ⟨.no, none, (.st 1), [.t 41, .c (.i .i64 0)]⟩] [(5, 12)])
 (.seq (.reg [⟨.t 42, none, (.fad 3), [.l 3]⟩, ⟨.t 43, none, (.ld none), [.t 42]⟩])
 (.cond (.t 43) (.reg [⟨.t 44, none, .mv, [.l 0]⟩, ⟨.t 45, none, (.fad 3), [.l 4]⟩, ⟨.t 46, none, (.ld none), [.t 45]⟩, ⟨.t 47, none, .nilchk, [.t 44]⟩, ⟨.t 48, none, (.fad 4), [.t 47]⟩, ⟨.t 49, none, (.iadA 8 1), [.t 48, .t 46]⟩, ⟨.no, none, (.st 1), [.t 49, .c (.i .i64 1)]⟩]) .skip)))
 (.exit 0))))))), []⟩
/-- tarpaulin/ring.New -/
def b163 : Nat := 13
def a163 : AFn := ⟨(.seq (.reg [⟨.l 2, none, .mv, [.c (.p none)]⟩, ⟨.l 3, none, .mv, [.c (.i .i64 0)]⟩])
 (.seq (.seq (.reg [⟨.t 4, none, .mv, [.l 0]⟩, ⟨.t 5, none, (.bin .lss), [.t 4, .c (.i .i64 0)]⟩, ⟨.t 6, none, .mv, [.t 5]⟩, ⟨.t 7, (some (.t 6, false)), .mv, [.l 0]⟩, ⟨.t 8, (some (.t 6, false)), (.bin .gtr), [.t 7, .c (.i .i64 64)]⟩, ⟨.t 9, none, .pick, [.t 6, .c (.b true), .t 8]⟩])
 (.cond (.t 9) (.seq (.reg [⟨.l 2, none, .mv, [.c (.p none)]⟩, ⟨.l 3, none, .mv, [.c (.i .i64 1)]⟩])
 .ret) .skip))
 (.seq (.reg [⟨.t 10, none, .mv, [.l 0]⟩, ⟨.t 11, none, (.mksl [(.i .i64 0)] 8), [.t 10, .t 10]⟩, ⟨.t 12, none, (.build [(.sl none 0 0 0), (.i .i64 0), (.i .i64 0)] [(0, 1)]), [.t 11]⟩, ⟨.t 13, none, .box, [.t 12]⟩, ⟨.l 2, none, .mv, [.t 13]⟩, ⟨.l 3, none, .mv, [.c (.i .i64 0)]⟩])
 .ret))), [.tmp (.l 2), .tmp (.l 3)]⟩
/-- tarpaulin/wait.New -/
def b164 : Nat := 1
def a164 : AFn := ⟨(.seq (.reg [⟨.l 0, none, .mv, [.c (.p none)]⟩])
 (.seq (.reg [⟨.t 1, none, (.build [(.p none), (.p none), (.i .i64 0)] []), []⟩, ⟨.t 2, none, .box, [.t 1]⟩, ⟨.l 0, none, .mv, [.t 2]⟩])
 .ret)), [.tmp (.l 0)]⟩
/-- (*tarpaulin/chanq.Chan).Send -/
def b165 : Nat := 115
def a165 : AFn := ⟨(.seq (.reg [⟨.l 4, none, .mv, [.c (.b false)]⟩, ⟨.l 5, none, .mv, [.c (.sl none 0 0 0)]⟩, ⟨.l 6, none, .mv, [.c (.i .i64 0)]⟩])
 (.seq (.block 0 (.seq (.reg [⟨.t 8, none, .mv, [.l 0]⟩, ⟨.t 9, none, (.eq false .ptr), [.t 8, .c (.p none)]⟩, ⟨.t 7, none, .mv, [.t 9]⟩])
 (.cond (.t 7) (.seq (.reg [⟨.l 4, none, .mv, [.c (.b false)]⟩, ⟨.l 5, none, .mv, [.c (.sl none 0 0 0)]⟩, ⟨.l 6, none, .mv, [.c (.i .i64 0)]⟩])
 .ret) (.seq (.reg [⟨.t 11, none, .mv, [.l 0]⟩, ⟨.t 12, none, (.call 173), [.t 11]⟩, ⟨.t 10, none, .mv, [.t 12]⟩])
 (.cond (.t 10) (.seq (.reg [⟨.l 4, none, .mv, [.c (.b false)]⟩, ⟨.l 5, none, .mv, [.c (.sl none 0 0 0)]⟩, ⟨.l 6, none, .mv, [.c (.i .i64 7)]⟩])
 .ret) (.seq (.reg [⟨.t 14, none, .mv, [.l 0]⟩, ⟨.t 15, none, .nilchk, [.t 14]⟩, ⟨.t 16, none, (.fad 5), [.t 15]⟩, ⟨.t 17, none, (.ld none), [.t 16]⟩, ⟨.t 13, none, .mv, [.t 17]⟩])
 (.cond (.t 13) (.seq (.reg [⟨.l 4, none, .mv, [.c (.b false)]⟩, ⟨.l 5, none, .mv, [.c (.sl none 0 0 0)]⟩, ⟨.l 6, none, .mv, [.c (.i .i64 5)]⟩])
 .ret) .skip)))))))
 (.seq (.seq (.reg [⟨.t 18, none, .mv, [.l 0]⟩, ⟨.t 19, none, .mv, [.l 1]⟩, ⟨.t 20, none, (.call 104), [.t 18, .t 19]⟩, ⟨.l 5, none, .mv, [.t 20]⟩])
 (.seq (.reg [⟨.t 21, none, .mv, [.l 5]⟩, ⟨.t 22, none, .lenSl, [.t 21]⟩, ⟨.t 23, none, (.bin .gtr), [.t 22, .c (.i .i64 0)]⟩])
 (.cond (.t 23) (.seq (.reg [⟨.t 24, none, .mv, [.l 5]⟩, ⟨.l 4, none, .mv, [.c (.b true)]⟩, ⟨.l 5, none, .mv, [.t 24]⟩, ⟨.l 6, none, .mv, [.c (.i .i64 0)]⟩])
 .ret) .skip)))
 (.seq (.reg [⟨.t 25, none, .mv, [.l 0]⟩, ⟨.t 26, none, .nilchk, [.t 25]⟩, ⟨.t 27, none, (.fad 0), [.t 26]⟩, ⟨.t 28, none, (.ld none), [.t 27]⟩, ⟨.t 29, none, .mv, [.l 1]⟩, ⟨.t 30, none, (.call 105), [.t 28, .t 29]⟩, ⟨.l 4, none, .mv, [.t 30]⟩, ⟨.l 5, none, .mv, [.c (.sl none 0 0 0)]⟩, ⟨.l 6, none, .mv, [.c (.i .i64 0)]⟩])
 .ret)))), [.tmp (.l 4), .tmp (.l 5), .tmp (.l 6)]⟩
/-- (*tarpaulin/chanq.Chan).Wait -/
def b166 : Nat := 215
def a166 : AFn := ⟨(.seq (.reg [⟨.l 4, none, .box, [.l 1]⟩, ⟨.l 6, none, .mv, [.c (.i .i64 0)]⟩])
 (.seq (.block 0 (.seq (.reg [⟨.t 9, none, .mv, [.l 0]⟩, ⟨.t 10, none, (.eq false .ptr), [.t 9, .c (.p none)]⟩, ⟨.t 8, none, .mv, [.t 10]⟩])
 (.cond (.t 8) (.seq (.reg [⟨.l 6, none, .mv, [.c (.i .i64 6)]⟩])
 .ret) (.seq (.reg [⟨.t 12, none, .mv, [.l 0]⟩, ⟨.t 13, none, (.call 173), [.t 12]⟩, ⟨.t 14, none, .mv, [.t 13]⟩, ⟨.t 15, (some (.t 14, true)), .mv, [.l 2]⟩, ⟨.t 16, none, .pick, [.t 14, .t 15, .c (.b false)]⟩, ⟨.t 11, none, .mv, [.t 16]⟩])
 (.cond (.t 11) (.seq (.reg [⟨.l 6, none, .mv, [.c (.i .i64 7)]⟩])
 .ret) (.seq (.reg [⟨.t 18, none, .mv, [.l 0]⟩, ⟨.t 19, none, .nilchk, [.t 18]⟩, ⟨.t 20, none, (.fad 5), [.t 19]⟩, ⟨.t 21, none, (.ld none), [.t 20]⟩, ⟨.t 17, none, .mv, [.t 21]⟩])
 (.cond (.t 17) (.seq (.reg [⟨.l 6, none, .mv, [.c (.i .i64 5)]⟩])
 .ret) .skip)))))))
 (.seq (.reg [⟨.t 22, none, (.mkfn 198 0), [.l 4]⟩, ⟨.l 7, none, .mv, [.t 22]⟩])
 (.seq (.seq (.reg [⟨.t 23, none, .mv, [.l 0]⟩, ⟨.t 24, none, .mv, [.l 2]⟩, ⟨.t 25, none, (.call 199), [.t 23, .t 24]⟩, ⟨.t 26, none, .mv, [.t 25]⟩, ⟨.t 27, (some (.t 26, false)), .mv, [.l 0]⟩, ⟨.t 28, (some (.t 26, false)), .mv, [.l 2]⟩, ⟨.t 29, (some (.t 26, false)), (.un .not), [.t 28]⟩, ⟨.t 30, (some (.t 26, false)), (.call 201), [.t 27, .t 29]⟩, ⟨.t 31, (some (.t 26, false)), .mv, [.l 7]⟩, ⟨.t 32, (some (.t 26, false)), (.call 200), [.t 30, .t 31]⟩, ⟨.t 33, none, .pick, [.t 26, .c (.b true), .t 32]⟩])
 (.cond (.t 33) (.seq (.reg [⟨.l 6, none, .mv, [.c (.i .i64 1)]⟩])
 .ret) .skip))
 (.seq (.regD [⟨.t 34, none, .mv, [.l 0]⟩, ⟨.t 35, none, .mv, [.l 2]⟩, ⟨.t 36, none, (.call 195), [.t 34, .t 35]⟩, ⟨.t 37, none, (.ld (some 3)), [.l 4]⟩, ⟨.t 38, none, (.call 202), [.t 36, .t 37]⟩] [(3, 0)])
 (.seq (.reg [⟨.l 6, none, .mv, [.c (.i .i64 0)]⟩])
 .ret)))))), [.tmp (.l 6)]⟩
/-- (*tarpaulin/chanq.Chan).Recv -/
def b167 : Nat := 509
def a167 : AFn := ⟨(.seq (.reg [⟨.l 2, none, .mv, [.c (.i .i64 0)]⟩, ⟨.l 3, none, .mv, [.c (.b false)]⟩, ⟨.l 4, none, .mv, [.c (.b false)]⟩, ⟨.l 5, none, .mv, [.c (.sl none 0 0 0)]⟩])
 (.seq (.seq (.reg [⟨.t 9, none, .mv, [.l 0]⟩, ⟨.t 10, none, (.eq false .ptr), [.t 9, .c (.p none)]⟩])
 (.cond (.t 10) (.seq (.reg [⟨.l 2, none, .mv, [.c (.i .i64 0)]⟩, ⟨.l 3, none, .mv, [.c (.b false)]⟩, ⟨.l 4, none, .mv, [.c (.b false)]⟩, ⟨.l 5, none, .mv, [.c (.sl none 0 0 0)]⟩])
 .ret) .skip))
 (.seq (.reg [⟨.t 12, none, .mv, [.l 0]⟩, ⟨.t 13, none, .nilchk, [.t 12]⟩, ⟨.t 14, none, (.fad 0), [.t 13]⟩, ⟨.t 15, none, (.ld none), [.t 14]⟩, ⟨.t 16, none, (.call 203), [.t 15]⟩, ⟨.t 11, none, .mv, [.t 16]⟩, ⟨.t 17, none, (.ext 0), [.t 11]⟩, ⟨.t 18, none, (.ext 1), [.t 11]⟩, ⟨.l 2, none, .mv, [.t 17]⟩, ⟨.l 6, none, .mv, [.t 18]⟩])
 (.seq (.reg [⟨.t 20, none, .mv, [.l 0]⟩, ⟨.t 21, none, .nilchk, [.t 20]⟩, ⟨.t 22, none, (.fad 2), [.t 21]⟩, ⟨.t 23, none, (.ld none), [.t 22]⟩, ⟨.t 24, none, (.call 155), [.t 23]⟩, ⟨.t 19, none, .mv, [.t 24]⟩, ⟨.t 25, none, (.ext 0), [.t 19]⟩, ⟨.t 26, none, (.ext 1), [.t 19]⟩, ⟨.l 7, none, (.alloc [(.i .i64 0), (.i .i64 0), (.i .i64 0)]), []⟩, ⟨.no, none, (.st 3), [.l 7, .t 25]⟩, ⟨.l 8, none, .mv, [.t 26]⟩])
 (.seq (.seq (.reg [⟨.t 27, none, .mv, [.l 8]⟩])
 (.cond (.t 27) (.reg [⟨.t 28, none, (.fad 0), [.l 7]⟩, ⟨.t 29, none, (.ld none), [.t 28]⟩, ⟨.t 30, none, (.fad 1), [.l 7]⟩, ⟨.t 31, none, (.ld none), [.t 30]⟩, ⟨.t 32, none, (.build [(.i .i64 0), (.i .i64 0), (.i .i64 0), (.b false), (.b false)] [(0, 1), (1, 1), (3, 1)]), [.t 29, .t 31, .c (.b true)]⟩, ⟨.t 33, none, (.bslice [(.i .i64 0), (.i .i64 0), (.i .i64 0), (.b false), (.b false)] 1 5 [0]), [.t 32]⟩, ⟨.l 5, none, .mv, [.t 33]⟩]) .skip))
 (.seq (.block 0 (.seq (.reg [⟨.t 35, none, .mv, [.l 6]⟩, ⟨.t 36, none, .mv, [.t 35]⟩, ⟨.t 37, (some (.t 36, true)), .mv, [.l 8]⟩, ⟨.t 38, none, .pick, [.t 36, .t 37, .c (.b false)]⟩, ⟨.t 34, none, .mv, [.t 38]⟩])
 (.cond (.t 34) (.reg [⟨.t 39, none, .mv, [.l 0]⟩, ⟨.t 40, none, .nilchk, [.t 39]⟩, ⟨.t 41, none, (.fad 0), [.t 40]⟩, ⟨.t 42, none, (.ld none), [.t 41]⟩, ⟨.t 43, none, (.fad 2), [.l 7]⟩, ⟨.t 44, none, (.ld none), [.t 43]⟩, ⟨.t 45, none, (.call 105), [.t 42, .t 44]⟩]) (.seq (.reg [⟨.t 47, none, .mv, [.l 8]⟩, ⟨.t 46, none, .mv, [.t 47]⟩])
 (.cond (.t 46) (.reg [⟨.t 48, none, (.fad 2), [.l 7]⟩, ⟨.t 49, none, (.ld none), [.t 48]⟩, ⟨.l 2, none, .mv, [.t 49]⟩]) (.seq (.reg [⟨.t 51, none, .mv, [.l 6]⟩, ⟨.t 52, none, (.un .not), [.t 51]⟩, ⟨.t 50, none, .mv, [.t 52]⟩])
 (.cond (.t 50) (.seq (.reg [⟨.t 53, none, .mv, [.l 0]⟩, ⟨.t 54, none, .nilchk, [.t 53]⟩, ⟨.t 55, none, (.fad 5), [.t 54]⟩, ⟨.t 56, none, (.ld none), [.t 55]⟩, ⟨.l 2, none, .mv, [.c (.i .i64 0)]⟩, ⟨.l 3, none, .mv, [.c (.b false)]⟩, ⟨.l 4, none, .mv, [.t 56]⟩, ⟨.l 5, none, .mv, [.c (.sl none 0 0 0)]⟩])
 .ret) .skip)))))))
 (.seq (.reg [⟨.t 57, none, .mv, [.l 2]⟩, ⟨.t 58, none, .mv, [.l 5]⟩, ⟨.l 2, none, .mv, [.t 57]⟩, ⟨.l 3, none, .mv, [.c (.b true)]⟩, ⟨.l 4, none, .mv, [.c (.b true)]⟩, ⟨.l 5, none, .mv, [.t 58]⟩])
 .ret))))))), [.tmp (.l 2), .tmp (.l 3), .tmp (.l 4), .tmp (.l 5)]⟩
/-- (*tarpaulin/chanq.Chan).Close -/
def b168 : Nat := 13
def a168 : AFn := ⟨(.seq (.reg [⟨.l 2, none, .mv, [.c (.sl none 0 0 0)]⟩, ⟨.l 3, none, .mv, [.c (.i .i64 0)]⟩])
 (.seq (.block 0 (.seq (.reg [⟨.t 5, none, .mv, [.l 0]⟩, ⟨.t 6, none, (.eq false .ptr), [.t 5, .c (.p none)]⟩, ⟨.t 4, none, .mv, [.t 6]⟩])
 (.cond (.t 4) (.seq (.reg [⟨.l 2, none, .mv, [.c (.sl none 0 0 0)]⟩, ⟨.l 3, none, .mv, [.c (.i .i64 6)]⟩])
 .ret) (.seq (.reg [⟨.t 8, none, .mv, [.l 0]⟩, ⟨.t 9, none, (.call 173), [.t 8]⟩, ⟨.t 7, none, .mv, [.t 9]⟩])
 (.cond (.t 7) (.seq (.reg [⟨.l 2, none, .mv, [.c (.sl none 0 0 0)]⟩, ⟨.l 3, none, .mv, [.c (.i .i64 7)]⟩])
 .ret) (.seq (.reg [⟨.t 11, none, .mv, [.l 0]⟩, ⟨.t 12, none, .nilchk, [.t 11]⟩, ⟨.t 13, none, (.fad 5), [.t 12]⟩, ⟨.t 14, none, (.ld none), [.t 13]⟩, ⟨.t 10, none, .mv, [.t 14]⟩])
 (.cond (.t 10) (.seq (.reg [⟨.l 2, none, .mv, [.c (.sl none 0 0 0)]⟩, ⟨.l 3, none, .mv, [.c (.i .i64 5)]⟩])
 .ret) .skip)))))))
 (.seq (.reg [⟨.t 15, none, .mv, [.l 0]⟩, ⟨.t 16, none, (.call 194), [.t 15]⟩, ⟨.l 2, none, .mv, [.t 16]⟩, ⟨.l 3, none, .mv, [.c (.i .i64 0)]⟩])
 .ret))), [.tmp (.l 2), .tmp (.l 3)]⟩
/-- (*tarpaulin/ring.Ring).Len -/
def b169 : Nat := 5
def a169 : AFn := ⟨(.seq (.reg [⟨.l 2, none, .mv, [.c (.i .i64 0)]⟩])
 (.seq (.seq (.reg [⟨.t 3, none, .mv, [.l 0]⟩, ⟨.t 4, none, (.eq false .ptr), [.t 3, .c (.p none)]⟩])
 (.cond (.t 4) (.seq (.reg [⟨.l 2, none, .mv, [.c (.i .i64 0)]⟩])
 .ret) .skip))
 (.seq (.reg [⟨.t 5, none, .mv, [.l 0]⟩, ⟨.t 6, none, .nilchk, [.t 5]⟩, ⟨.t 7, none, (.fad 2), [.t 6]⟩, ⟨.t 8, none, (.ld none), [.t 7]⟩, ⟨.l 2, none, .mv, [.t 8]⟩])
 .ret))), [.tmp (.l 2)]⟩
/-- (*tarpaulin/ring.Ring).Size -/
def b170 : Nat := 5
def a170 : AFn := ⟨(.seq (.reg [⟨.l 2, none, .mv, [.c (.i .i64 0)]⟩])
 (.seq (.seq (.reg [⟨.t 3, none, .mv, [.l 0]⟩, ⟨.t 4, none, (.eq false .ptr), [.t 3, .c (.p none)]⟩])
 (.cond (.t 4) (.seq (.reg [⟨.l 2, none, .mv, [.c (.i .i64 0)]⟩])
 .ret) .skip))
 (.seq (.reg [⟨.t 5, none, .mv, [.l 0]⟩, ⟨.t 6, none, .nilchk, [.t 5]⟩, ⟨.t 7, none, (.fad 0), [.t 6]⟩, ⟨.t 8, none, (.ld none), [.t 7]⟩, ⟨.t 9, none, .lenSl, [.t 8]⟩, ⟨.l 2, none, .mv, [.t 9]⟩])
 .ret))), [.tmp (.l 2)]⟩
/-- slices.IndexFunc[[]tarpaulin/choose.Case,tarpaulin/choose.Case] -/
def b171 : Nat := 435
def a171 : AFn := ⟨(.seq (.reg [⟨.l 4, none, .mv, [.c (.i .i64 0)]⟩])
 (.seq (.seq (.reg [⟨.t 6, none, .mv, [.l 0]⟩, ⟨.l 7, none, .lenSl, [.t 6]⟩, ⟨.l 8, none, .mv, [.c (.i .i64 0)]⟩])
 (.block 0 (.loop (.seq (.reg [⟨.t 9, none, (.bin .lss), [.l 8, .l 7]⟩])
 (.seq (.cond (.t 9) .skip (.exit 0))
 (.seq (.block 1 (.seq (.reg [⟨.t 10, none, .mv, [.l 8]⟩, ⟨.l 5, none, .mv, [.t 10]⟩])
 (.seq (.reg [⟨.t 11, none, .mv, [.l 1]⟩, ⟨.t 12, none, .mv, [.l 0]⟩, ⟨.t 13, none, .mv, [.l 5]⟩, ⟨.t 14, none, (.iad 3), [.t 12, .t 13]⟩, ⟨.t 15, none, (.ld (some 3)), [.t 14]⟩, ⟨.t 16, none, .callv, [.t 11, .t 15]⟩])
 (.cond (.t 16) (.seq (.reg [⟨.t 17, none, .mv, [.l 5]⟩, ⟨.l 4, none, .mv, [.t 17]⟩])
 .ret) .skip))))
 (.reg [⟨.t 18, none, (.bin .add), [.l 8, .c (.i .i64 1)]⟩, ⟨.l 8, none, .mv, [.t 18]⟩])))))))
 (.seq (.reg [⟨.l 4, none, .mv, [.c (.i .i64 (-1))]⟩])
 .ret))), [.tmp (.l 4)]⟩
/-- tarpaulin/choose.Do$1 -/
def b172 : Nat := 7
def a172 : AFn := ⟨(.seq (.reg [⟨.l 1, none, .box, [.l 0]⟩, ⟨.l 2, none, .mv, [.c (.b false)]⟩])
 (.seq (.reg [⟨.t 3, none, (.fad 1), [.l 1]⟩, ⟨.t 4, none, (.ld none), [.t 3]⟩, ⟨.t 5, none, .mv, [.t 4]⟩, ⟨.t 6, (some (.t 5, true)), (.fad 0), [.l 1]⟩, ⟨.t 7, (some (.t 5, true)), (.ld none), [.t 6]⟩, ⟨.t 8, (some (.t 5, true)), (.call 173), [.t 7]⟩, ⟨.t 9, none, .pick, [.t 5, .t 8, .c (.b false)]⟩, ⟨.l 2, none, .mv, [.t 9]⟩])
 .ret)), [.tmp (.l 2)]⟩
/-- (*tarpaulin/chanq.Chan).Mute -/
def b173 : Nat := 5
def a173 : AFn := ⟨(.seq (.reg [⟨.l 2, none, .mv, [.c (.b false)]⟩])
 (.seq (.reg [⟨.t 3, none, .mv, [.l 0]⟩, ⟨.t 4, none, (.eq true .ptr), [.t 3, .c (.p none)]⟩, ⟨.t 5, none, .mv, [.t 4]⟩, ⟨.t 6, (some (.t 5, true)), .mv, [.l 0]⟩, ⟨.t 7, (some (.t 5, true)), .nilchk, [.t 6]⟩, ⟨.t 8, (some (.t 5, true)), (.fad 3), [.t 7]⟩, ⟨.t 9, (some (.t 5, true)), (.ld none), [.t 8]⟩, ⟨.t 10, (some (.t 5, true)), .mv, [.t 9]⟩, ⟨.t 11, (some (.t 10, false)), .mv, [.l 0]⟩, ⟨.t 12, (some (.t 10, false)), .nilchk, [.t 11]⟩, ⟨.t 13, (some (.t 10, false)), (.fad 4), [.t 12]⟩, ⟨.t 14, (some (.t 10, false)), (.ld none), [.t 13]⟩, ⟨.t 15, (some (.t 5, true)), .pick, [.t 10, .c (.b true), .t 14]⟩, ⟨.t 16, none, .pick, [.t 5, .t 15, .c (.b false)]⟩, ⟨.l 2, none, .mv, [.t 16]⟩])
 .ret)), [.tmp (.l 2)]⟩
/-- tarpaulin/choose.Ready -/
def b174 : Nat := 253
def a174 : AFn := ⟨(.seq (.reg [⟨.l 2, none, .mv, [.c (.sl none 0 0 0)]⟩])
 (.seq (.seq (.reg [⟨.l 5, none, .mv, [.l 0]⟩, ⟨.l 6, none, .lenSl, [.l 5]⟩, ⟨.l 7, none, .mv, [.c (.i .i64 0)]⟩])
 (.block 0 (.loop (.seq (.reg [⟨.t 8, none, (.bin .lss), [.l 7, .l 6]⟩])
 (.seq (.cond (.t 8) .skip (.exit 0))
 (.seq (.block 1 (.seq (.reg [⟨.t 9, none, .mv, [.l 7]⟩, ⟨.t 10, none, (.iad 3), [.l 5, .l 7]⟩, ⟨.t 11, none, (.ld (some 3)), [.t 10]⟩, ⟨.l 4, none, (.alloc [(.p none), (.b false), (.i .i64 0)]), []⟩, ⟨.l 3, none, .mv, [.t 9]⟩, ⟨.no, none, (.st 3), [.l 4, .t 11]⟩])
 (.seq (.reg [⟨.t 12, none, (.fad 0), [.l 4]⟩, ⟨.t 13, none, (.ld none), [.t 12]⟩, ⟨.t 14, none, (.fad 1), [.l 4]⟩, ⟨.t 15, none, (.ld none), [.t 14]⟩, ⟨.t 16, none, (.call 204), [.t 13, .t 15]⟩])
 (.cond (.t 16) (.reg [⟨.t 17, none, .mv, [.l 2]⟩, ⟨.t 18, none, .mv, [.l 3]⟩, ⟨.t 19, none, (.bslice [(.i .i64 0)] 1 1 [0]), [.t 18]⟩, ⟨.t 20, none, (.app 1 8), [.t 17, .t 19]⟩, ⟨.l 2, none, .mv, [.t 20]⟩]) .skip))))
 (.reg [⟨.t 21, none, (.bin .add), [.l 7, .c (.i .i64 1)]⟩, ⟨.l 7, none, .mv, [.t 21]⟩])))))))
 (.seq (.reg [⟨.t 22, none, .mv, [.l 2]⟩, ⟨.l 2, none, .mv, [.t 22]⟩])
 .ret))), [.tmp (.l 2)]⟩
/-- tarpaulin/choose.one -/
def b175 : Nat := 183
def a175 : AFn := ⟨(.seq (.reg [⟨.l 2, none, .box, [.l 0]⟩, ⟨.l 4, none, (.alloc [(.i .i64 0), (.i .i64 0), (.b false), (.b false), (.b false), (.b false)]), []⟩, ⟨.l 5, none, .mv, [.c (.sl none 0 0 0)]⟩])
 (.seq (.reg [⟨.t 8, none, .mv, [.l 1]⟩, ⟨.t 9, none, (.fad 0), [.l 4]⟩, ⟨.no, none, (.st 1), [.t 9, .t 8]⟩])
 (.seq (.seq (.reg [⟨.t 10, none, (.fad 1), [.l 2]⟩, ⟨.t 11, none, (.ld none), [.t 10]⟩, ⟨.t 12, none, (.un .not), [.t 11]⟩])
 (.cond (.t 12) (.seq (.reg [⟨.t 14, none, (.fad 0), [.l 2]⟩, ⟨.t 15, none, (.ld none), [.t 14]⟩, ⟨.t 16, none, (.call 167), [.t 15]⟩, ⟨.t 13, none, .mv, [.t 16]⟩, ⟨.t 17, none, (.ext 0), [.t 13]⟩, ⟨.t 18, none, (.ext 1), [.t 13]⟩, ⟨.t 19, none, (.ext 2), [.t 13]⟩, ⟨.t 20, none, (.ext 3), [.t 13]⟩, ⟨.t 21, none, (.fad 1), [.l 4]⟩, ⟨.no, none, (.st 1), [.t 21, .t 17]⟩, ⟨.t 22, none, (.fad 2), [.l 4]⟩, ⟨.no, none, (.st 1), [.t 22, .t 18]⟩, ⟨.l 5, none, .mv, [.t 20]⟩])
 (.seq (.reg [⟨.t 23, none, (.ld (some 6)), [.l 4]⟩, ⟨.t 24, none, .mv, [.l 5]⟩, ⟨.no, none, (.st 6), [.l 4, .t 23]⟩, ⟨.l 5, none, .mv, [.t 24]⟩])
 .ret)) .skip))
 (.seq (.reg [⟨.t 26, none, (.fad 0), [.l 2]⟩, ⟨.t 27, none, (.ld none), [.t 26]⟩, ⟨.t 28, none, (.fad 2), [.l 2]⟩, ⟨.t 29, none, (.ld none), [.t 28]⟩, ⟨.t 30, none, (.call 165), [.t 27, .t 29]⟩, ⟨.t 25, none, .mv, [.t 30]⟩, ⟨.t 31, none, (.ext 0), [.t 25]⟩, ⟨.t 32, none, (.ext 1), [.t 25]⟩, ⟨.t 33, none, (.ext 2), [.t 25]⟩, ⟨.t 6, none, .mv, [.t 31]⟩, ⟨.l 5, none, .mv, [.t 32]⟩, ⟨.l 7, none, .mv, [.t 33]⟩])
 (.seq (.reg [⟨.t 34, none, .mv, [.l 7]⟩, ⟨.t 35, none, (.bin .eql), [.t 34, .c (.i .i64 0)]⟩, ⟨.t 36, none, .mv, [.l 7]⟩, ⟨.t 37, none, (.bin .eql), [.t 36, .c (.i .i64 5)]⟩, ⟨.t 38, none, (.fad 2), [.l 4]⟩, ⟨.no, none, (.st 1), [.t 38, .t 35]⟩, ⟨.t 39, none, (.fad 3), [.l 4]⟩, ⟨.no, none, (.st 1), [.t 39, .t 37]⟩])
 (.seq (.reg [⟨.t 40, none, (.ld (some 6)), [.l 4]⟩, ⟨.t 41, none, .mv, [.l 5]⟩, ⟨.no, none, (.st 6), [.l 4, .t 40]⟩, ⟨.l 5, none, .mv, [.t 41]⟩])
 .ret)))))), [.cell (.l 4) (some 6), .tmp (.l 5)]⟩
/-- (*tarpaulin/timer.Set).channel -/
def b176 : Nat := 16143
def a176 : AFn := ⟨(.seq (.reg [⟨.l 8, none, .mv, [.c (.i .i64 0)]⟩, ⟨.l 9, none, .mv, [.c (.p none)]⟩, ⟨.l 10, none, .mv, [.c (.i .i64 0)]⟩])
 (.seq (.reg [⟨.t 14, none, (.call 205), []⟩, ⟨.l 11, none, .mv, [.t 14]⟩])
 (.seq (.reg [⟨.t 16, none, .mv, [.l 0]⟩, ⟨.t 17, none, .mv, [.l 1]⟩, ⟨.t 18, none, .mv, [.l 11]⟩, ⟨.t 19, none, (.build [(.i .i64 0), (.i .i64 0), (.p none), (.i .i64 0)] [(0, 1), (2, 1)]), [.t 17, .t 18]⟩, ⟨.t 20, none, .mv, [.l 2]⟩, ⟨.t 21, none, .mv, [.l 3]⟩, ⟨.t 22, none, (.call 177), [.t 16, .t 19, .t 20, .t 21]⟩, ⟨.t 15, none, .mv, [.t 22]⟩, ⟨.t 23, none, (.ext 0), [.t 15]⟩, ⟨.t 24, none, (.ext 1), [.t 15]⟩, ⟨.l 12, none, .mv, [.t 23]⟩, ⟨.l 13, none, .mv, [.t 24]⟩])
 (.seq (.seq (.reg [⟨.t 25, none, .mv, [.l 13]⟩, ⟨.t 26, none, (.bin .neq), [.t 25, .c (.i .i64 0)]⟩])
 (.cond (.t 26) (.seq (.reg [⟨.t 27, none, .mv, [.l 13]⟩, ⟨.l 8, none, .mv, [.c (.i .i64 0)]⟩, ⟨.l 9, none, .mv, [.c (.p none)]⟩, ⟨.l 10, none, .mv, [.t 27]⟩])
 .ret) .skip))
 (.seq (.reg [⟨.t 28, none, .mv, [.l 12]⟩, ⟨.t 29, none, .mv, [.l 11]⟩, ⟨.l 8, none, .mv, [.t 28]⟩, ⟨.l 9, none, .mv, [.t 29]⟩, ⟨.l 10, none, .mv, [.c (.i .i64 0)]⟩])
 .ret))))), [.tmp (.l 8), .tmp (.l 9), .tmp (.l 10)]⟩
/-- (*tarpaulin/timer.Set).make -/
def b177 : Nat := 815
def a177 : AFn := ⟨(.seq (.reg [⟨.l 5, none, .box, [.l 1]⟩, ⟨.l 8, none, .mv, [.c (.i .i64 0)]⟩, ⟨.l 9, none, .mv, [.c (.i .i64 0)]⟩])
 (.seq (.block 0 (.seq (.reg [⟨.t 11, none, .mv, [.l 2]⟩, ⟨.t 12, none, (.call 179), [.t 11]⟩, ⟨.t 13, none, .mv, [.t 12]⟩, ⟨.t 14, (some (.t 13, false)), (.fad 1), [.l 5]⟩, ⟨.t 15, (some (.t 13, false)), (.ld none), [.t 14]⟩, ⟨.t 16, (some (.t 13, false)), (.bin .lss), [.t 15, .c (.i .i64 0)]⟩, ⟨.t 17, none, .pick, [.t 13, .c (.b true), .t 16]⟩, ⟨.t 18, none, .mv, [.t 17]⟩, ⟨.t 19, (some (.t 18, false)), (.fad 0), [.l 5]⟩, ⟨.t 20, (some (.t 18, false)), (.ld none), [.t 19]⟩, ⟨.t 21, (some (.t 18, false)), (.bin .eql), [.t 20, .c (.i .i64 2)]⟩, ⟨.t 22, (some (.t 18, false)), .mv, [.t 21]⟩, ⟨.t 23, (some (.t 22, true)), .mv, [.l 3]⟩, ⟨.t 24, (some (.t 22, true)), (.bin .lss), [.t 23, .c (.i .i64 1)]⟩, ⟨.t 25, (some (.t 18, false)), .pick, [.t 22, .t 24, .c (.b false)]⟩, ⟨.t 26, none, .pick, [.t 18, .c (.b true), .t 25]⟩, ⟨.t 10, none, .mv, [.t 26]⟩])
 (.cond (.t 10) (.seq (.reg [⟨.l 8, none, .mv, [.c (.i .i64 0)]⟩, ⟨.l 9, none, .mv, [.c (.i .i64 1)]⟩])
 .ret) (.seq (.seq (.reg [⟨.t 28, none, .mv, [.l 0]⟩, ⟨.t 29, none, (.eq false .ptr), [.t 28, .c (.p none)]⟩, ⟨.t 27, none, .mv, [.t 29]⟩])
 (.cond (.t 27) .skip (.reg [⟨.t 30, none, (.fad 0), [.l 5]⟩, ⟨.t 31, none, (.ld none), [.t 30]⟩, ⟨.t 32, none, (.bin .neq), [.t 31, .c (.i .i64 4)]⟩, ⟨.t 33, none, .mv, [.t 32]⟩, ⟨.t 34, (some (.t 33, true)), .mv, [.l 0]⟩, ⟨.t 35, (some (.t 33, true)), .nilchk, [.t 34]⟩, ⟨.t 36, (some (.t 33, true)), (.fad 2), [.t 35]⟩, ⟨.t 37, (some (.t 33, true)), (.ld none), [.t 36]⟩, ⟨.t 38, (some (.t 33, true)), (.bin .geq), [.t 37, .c (.i .i64 64)]⟩, ⟨.t 39, none, .pick, [.t 33, .t 38, .c (.b false)]⟩, ⟨.t 27, none, .mv, [.t 39]⟩])))
 (.cond (.t 27) (.seq (.reg [⟨.l 8, none, .mv, [.c (.i .i64 0)]⟩, ⟨.l 9, none, .mv, [.c (.i .i64 3)]⟩])
 .ret) .skip)))))
 (.seq (.seq (.reg [⟨.t 40, none, (.fad 0), [.l 5]⟩, ⟨.t 41, none, (.ld none), [.t 40]⟩, ⟨.t 42, none, (.bin .neq), [.t 41, .c (.i .i64 4)]⟩])
 (.cond (.t 42) (.reg [⟨.t 43, none, .mv, [.l 0]⟩, ⟨.t 44, none, .nilchk, [.t 43]⟩, ⟨.t 45, none, (.fad 2), [.t 44]⟩, ⟨.t 46, none, (.ld none), [.t 45]⟩, ⟨.t 47, none, (.bin .add), [.t 46, .c (.i .i64 1)]⟩, ⟨.t 48, none, .nilchk, [.t 43]⟩, ⟨.t 49, none, (.fad 2), [.t 48]⟩, ⟨.no, none, (.st 1), [.t 49, .t 47]⟩]) .skip))
 (.seq (.reg [⟨.t 50, none, .mv, [.l 0]⟩, ⟨.t 51, none, .mv, [.l 0]⟩, ⟨.t 52, none, .nilchk, [.t 51]⟩, ⟨.t 53, none, (.fad 0), [.t 52]⟩, ⟨.t 54, none, (.ld none), [.t 53]⟩, ⟨.t 55, none, (.ld (some 4)), [.l 5]⟩, ⟨.t 56, none, (.bslice [(.i .i64 0), (.i .i64 0), (.p none), (.i .i64 0)] 1 4 [0]), [.t 55]⟩, ⟨.t 57, none, (.app 4 32), [.t 54, .t 56]⟩, ⟨.t 58, none, .nilchk, [.t 50]⟩, ⟨.t 59, none, (.fad 0), [.t 58]⟩, ⟨.no, none, (.st 1), [.t 59, .t 57]⟩])
 (.seq (.reg [⟨.t 60, none, .mv, [.l 0]⟩, ⟨.t 61, none, .mv, [.l 0]⟩, ⟨.t 62, none, .nilchk, [.t 61]⟩, ⟨.t 63, none, (.fad 0), [.t 62]⟩, ⟨.t 64, none, (.ld none), [.t 63]⟩, ⟨.t 65, none, .lenSl, [.t 64]⟩, ⟨.t 66, none, (.bin .sub), [.t 65, .c (.i .i64 1)]⟩, ⟨.t 67, none, .mv, [.l 2]⟩, ⟨.t 68, none, .mv, [.l 3]⟩, ⟨.t 69, none, (.call 180), [.t 60, .t 66, .t 67, .t 68]⟩])
 (.seq (.reg [⟨.t 70, none, .mv, [.l 0]⟩, ⟨.t 71, none, .nilchk, [.t 70]⟩, ⟨.t 72, none, (.fad 0), [.t 71]⟩, ⟨.t 73, none, (.ld none), [.t 72]⟩, ⟨.t 74, none, .lenSl, [.t 73]⟩, ⟨.t 75, none, (.bin .sub), [.t 74, .c (.i .i64 1)]⟩, ⟨.l 8, none, .mv, [.t 75]⟩, ⟨.l 9, none, .mv, [.c (.i .i64 0)]⟩])
 .ret)))))), [.tmp (.l 8), .tmp (.l 9)]⟩
/-- (*tarpaulin/chanq.Chan).Drop -/
def b178 : Nat := 5
def a178 : AFn := ⟨(.seq (.reg [⟨.l 2, none, .mv, [.c (.b false)]⟩])
 (.seq (.reg [⟨.t 3, none, .mv, [.l 0]⟩, ⟨.t 4, none, (.eq true .ptr), [.t 3, .c (.p none)]⟩, ⟨.t 5, none, .mv, [.t 4]⟩, ⟨.t 6, (some (.t 5, true)), .mv, [.l 0]⟩, ⟨.t 7, (some (.t 5, true)), .nilchk, [.t 6]⟩, ⟨.t 8, (some (.t 5, true)), (.fad 3), [.t 7]⟩, ⟨.t 9, (some (.t 5, true)), (.ld none), [.t 8]⟩, ⟨.t 10, none, .pick, [.t 5, .t 9, .c (.b false)]⟩, ⟨.t 11, none, .mv, [.t 10]⟩, ⟨.t 12, (some (.t 11, true)), .mv, [.l 0]⟩, ⟨.t 13, (some (.t 11, true)), .nilchk, [.t 12]⟩, ⟨.t 14, (some (.t 11, true)), (.fad 0), [.t 13]⟩, ⟨.t 15, (some (.t 11, true)), (.ld none), [.t 14]⟩, ⟨.t 16, (some (.t 11, true)), (.call 206), [.t 15]⟩, ⟨.t 17, (some (.t 11, true)), (.bin .gtr), [.t 16, .c (.i .i64 0)]⟩, ⟨.t 18, none, .pick, [.t 11, .t 17, .c (.b false)]⟩, ⟨.l 2, none, .mv, [.t 18]⟩])
 .ret)), [.tmp (.l 2)]⟩
/-- tarpaulin/timer.bad -/
def b179 : Nat := 5
def a179 : AFn := ⟨(.seq (.reg [⟨.l 2, none, .mv, [.c (.b false)]⟩])
 (.seq (.reg [⟨.t 3, none, .mv, [.l 0]⟩, ⟨.t 4, none, (.bin .lss), [.t 3, .c (.i .i64 0)]⟩, ⟨.t 5, none, .mv, [.t 4]⟩, ⟨.t 6, (some (.t 5, false)), .mv, [.l 0]⟩, ⟨.t 7, (some (.t 5, false)), (.bin .gtr), [.t 6, .c (.i .i64 4611686018427387904)]⟩, ⟨.t 8, none, .pick, [.t 5, .c (.b true), .t 7]⟩, ⟨.l 2, none, .mv, [.t 8]⟩])
 .ret)), [.tmp (.l 2)]⟩
/-- (*tarpaulin/timer.Set).arm -/
def b180 : Nat := 271
def a180 : AFn := ⟨(.seq (.reg [⟨.l 8, none, .mv, [.c (.i .i64 0)]⟩])
 (.seq (.seq (.reg [⟨.t 9, none, .mv, [.l 0]⟩, ⟨.t 10, none, .nilchk, [.t 9]⟩, ⟨.t 11, none, (.fad 0), [.t 10]⟩, ⟨.t 12, none, (.ld none), [.t 11]⟩, ⟨.t 13, none, .mv, [.l 1]⟩, ⟨.t 14, none, (.iad 4), [.t 12, .t 13]⟩, ⟨.t 15, none, (.fad 0), [.t 14]⟩, ⟨.t 16, none, (.ld none), [.t 15]⟩, ⟨.t 17, none, (.bin .eql), [.t 16, .c (.i .i64 2)]⟩])
 (.cond (.t 17) (.reg [⟨.t 18, none, .mv, [.l 3]⟩, ⟨.t 19, none, .min, [.t 18, .c (.i .i64 4611686018427387904)]⟩, ⟨.l 8, none, .mv, [.t 19]⟩]) .skip))
 (.seq (.regD [⟨.t 20, none, .mv, [.l 0]⟩, ⟨.t 21, none, .nilchk, [.t 20]⟩, ⟨.t 22, none, (.fad 1), [.t 21]⟩, ⟨.t 23, none, (.ld none), [.t 22]⟩, ⟨.t 24, none, .mv, [.l 1]⟩, ⟨.t 25, none, .mv, [.l 2]⟩, ⟨.t 26, none, .mv, [.l 3]⟩, ⟨.t 27, none, .max, [.t 26, .c (.i .i64 0)]⟩, ⟨.t 28, none, (.call 60), [.t 25, .t 27]⟩, ⟨.t 29, none, .mv, [.l 8]⟩, ⟨.t 30, none, (.call 103), [.t 23, .t 24, .t 28, .t 29]⟩] [(3, 9)])
 (.reg [⟨.t 31, none, .mv, [.l 0]⟩, ⟨.t 32, none, .nilchk, [.t 31]⟩, ⟨.t 33, none, (.fad 0), [.t 32]⟩, ⟨.t 34, none, (.ld none), [.t 33]⟩, ⟨.t 35, none, .mv, [.l 1]⟩, ⟨.t 36, none, (.iad 4), [.t 34, .t 35]⟩, ⟨.t 37, none, (.fad 3), [.t 36]⟩, ⟨.t 38, none, (.ld none), [.t 37]⟩, ⟨.t 39, none, (.bin .add), [.t 38, .c (.i .i64 1)]⟩, ⟨.t 40, none, (.iad 4), [.t 34, .t 35]⟩, ⟨.t 41, none, (.fad 3), [.t 40]⟩, ⟨.no, none, (.st 1), [.t 41, .t 39]⟩])))), []⟩
/-- (*tarpaulin/ctx.Set).room -/
def b181 : Nat := 19
def a181 : AFn := ⟨(.seq (.reg [⟨.l 4, none, .mv, [.c (.i .i64 0)]⟩])
 (.seq (.block 0 (.seq (.reg [⟨.t 6, none, .mv, [.l 0]⟩, ⟨.t 7, none, .mv, [.l 1]⟩, ⟨.t 8, none, (.call 106), [.t 6, .t 7]⟩, ⟨.t 9, none, (.un .not), [.t 8]⟩, ⟨.t 5, none, .mv, [.t 9]⟩])
 (.cond (.t 5) (.seq (.reg [⟨.l 4, none, .mv, [.c (.i .i64 4)]⟩])
 .ret) (.seq (.reg [⟨.t 11, none, .mv, [.l 0]⟩, ⟨.t 12, none, .nilchk, [.t 11]⟩, ⟨.t 13, none, (.fad 2), [.t 12]⟩, ⟨.t 14, none, (.ld none), [.t 13]⟩, ⟨.t 15, none, .lenSl, [.t 14]⟩, ⟨.t 16, none, (.bin .geq), [.t 15, .c (.i .i64 64)]⟩, ⟨.t 10, none, .mv, [.t 16]⟩])
 (.cond (.t 10) (.seq (.reg [⟨.l 4, none, .mv, [.c (.i .i64 3)]⟩])
 .ret) .skip)))))
 (.seq (.reg [⟨.l 4, none, .mv, [.c (.i .i64 0)]⟩])
 .ret))), [.tmp (.l 4)]⟩
/-- tarpaulin/chanq.Signal -/
def b182 : Nat := 3
def a182 : AFn := ⟨(.seq (.reg [⟨.l 0, none, .mv, [.c (.p none)]⟩])
 (.seq (.reg [⟨.t 4, none, (.call 118), [.c (.i .i64 0)]⟩, ⟨.t 3, none, .mv, [.t 4]⟩, ⟨.t 5, none, (.ext 0), [.t 3]⟩, ⟨.t 6, none, (.ext 1), [.t 3]⟩, ⟨.l 1, none, .mv, [.t 5]⟩, ⟨.t 2, none, .mv, [.t 6]⟩])
 (.seq (.reg [⟨.t 7, none, .mv, [.l 1]⟩, ⟨.t 8, none, .nilchk, [.t 7]⟩, ⟨.t 9, none, (.fad 4), [.t 8]⟩, ⟨.no, none, (.st 1), [.t 9, .c (.b true)]⟩])
 (.seq (.reg [⟨.t 10, none, .mv, [.l 1]⟩, ⟨.l 0, none, .mv, [.t 10]⟩])
 .ret)))), [.tmp (.l 0)]⟩
/-- (*tarpaulin/ctx.Set).begin -/
def b183 : Nat := 455
def a183 : AFn := ⟨(.seq (.reg [⟨.l 6, none, .mv, [.c (.sl none 0 0 0)]⟩])
 (.seq (.reg [⟨.t 10, none, .mv, [.l 0]⟩, ⟨.t 11, none, .nilchk, [.t 10]⟩, ⟨.t 12, none, (.fad 2), [.t 11]⟩, ⟨.t 13, none, (.ld none), [.t 12]⟩, ⟨.t 14, none, .mv, [.l 2]⟩, ⟨.t 15, none, (.iad 9), [.t 13, .t 14]⟩, ⟨.t 16, none, (.ld (some 9)), [.t 15]⟩, ⟨.l 7, none, (.alloc [(.i .i64 0), (.b false), (.p none), (.i .i64 0), (.i .i64 0), (.i .i64 0), (.b false), (.b false), (.i .i64 0)]), []⟩, ⟨.no, none, (.st 9), [.l 7, .t 16]⟩])
 (.seq (.seq (.reg [⟨.t 17, none, (.fad 3), [.l 7]⟩, ⟨.t 18, none, (.ld none), [.t 17]⟩, ⟨.t 19, none, (.bin .eql), [.t 18, .c (.i .i64 0)]⟩])
 (.cond (.t 19) (.seq (.reg [⟨.l 6, none, .mv, [.c (.sl none 0 0 0)]⟩])
 .ret) .skip))
 (.seq (.reg [⟨.t 21, none, .mv, [.l 0]⟩, ⟨.t 22, none, .mv, [.l 1]⟩, ⟨.t 23, none, (.fad 3), [.l 7]⟩, ⟨.t 24, none, (.ld none), [.t 23]⟩, ⟨.t 25, none, (.fad 4), [.l 7]⟩, ⟨.t 26, none, (.ld none), [.t 25]⟩, ⟨.t 27, none, (.call 107), [.t 21, .t 22, .t 24, .t 26]⟩, ⟨.t 20, none, .mv, [.t 27]⟩, ⟨.t 28, none, (.ext 0), [.t 20]⟩, ⟨.t 29, none, (.ext 1), [.t 20]⟩, ⟨.l 8, none, .mv, [.t 28]⟩, ⟨.t 9, none, .mv, [.t 29]⟩])
 (.seq (.reg [⟨.t 30, none, .mv, [.l 8]⟩, ⟨.l 6, none, .mv, [.t 30]⟩])
 .ret))))), [.tmp (.l 6)]⟩
/-- (*tarpaulin/timer.Set).Lapse -/
def b184 : Nat := 199
def a184 : AFn := ⟨(.seq (.reg [⟨.l 6, none, .mv, [.c (.i .i64 0)]⟩, ⟨.l 7, none, .mv, [.c (.i .i64 0)]⟩])
 (.seq (.reg [⟨.t 8, none, .mv, [.l 0]⟩, ⟨.t 9, none, .mv, [.l 2]⟩, ⟨.t 10, none, (.build [(.i .i64 0), (.i .i64 0), (.p none), (.i .i64 0)] [(0, 1), (1, 1)]), [.c (.i .i64 4), .t 9]⟩, ⟨.t 11, none, .mv, [.l 1]⟩, ⟨.t 12, none, (.call 177), [.t 8, .t 10, .c (.i .i64 0), .t 11]⟩, ⟨.t 13, none, (.ext 0), [.t 12]⟩, ⟨.t 14, none, (.ext 1), [.t 12]⟩, ⟨.l 6, none, .mv, [.t 13]⟩, ⟨.l 7, none, .mv, [.t 14]⟩])
 .ret)), [.tmp (.l 6), .tmp (.l 7)]⟩
/-- slices.IndexFunc[[]tarpaulin/api.Case,tarpaulin/api.Case] -/
def b185 : Nat := 435
def a185 : AFn := ⟨(.seq (.reg [⟨.l 4, none, .mv, [.c (.i .i64 0)]⟩])
 (.seq (.seq (.reg [⟨.t 6, none, .mv, [.l 0]⟩, ⟨.l 7, none, .lenSl, [.t 6]⟩, ⟨.l 8, none, .mv, [.c (.i .i64 0)]⟩])
 (.block 0 (.loop (.seq (.reg [⟨.t 9, none, (.bin .lss), [.l 8, .l 7]⟩])
 (.seq (.cond (.t 9) .skip (.exit 0))
 (.seq (.block 1 (.seq (.reg [⟨.t 10, none, .mv, [.l 8]⟩, ⟨.l 5, none, .mv, [.t 10]⟩])
 (.seq (.reg [⟨.t 11, none, .mv, [.l 1]⟩, ⟨.t 12, none, .mv, [.l 0]⟩, ⟨.t 13, none, .mv, [.l 5]⟩, ⟨.t 14, none, (.iad 3), [.t 12, .t 13]⟩, ⟨.t 15, none, (.ld (some 3)), [.t 14]⟩, ⟨.t 16, none, .callv, [.t 11, .t 15]⟩])
 (.cond (.t 16) (.seq (.reg [⟨.t 17, none, .mv, [.l 5]⟩, ⟨.l 4, none, .mv, [.t 17]⟩])
 .ret) .skip))))
 (.reg [⟨.t 18, none, (.bin .add), [.l 8, .c (.i .i64 1)]⟩, ⟨.l 8, none, .mv, [.t 18]⟩])))))))
 (.seq (.reg [⟨.l 4, none, .mv, [.c (.i .i64 (-1))]⟩])
 .ret))), [.tmp (.l 4)]⟩
/-- (*tarpaulin/tree.Tree).Len -/
def b186 : Nat := 5
def a186 : AFn := ⟨(.seq (.reg [⟨.l 2, none, .mv, [.c (.i .i64 0)]⟩])
 (.seq (.seq (.reg [⟨.t 3, none, .mv, [.l 0]⟩, ⟨.t 4, none, (.eq false .ptr), [.t 3, .c (.p none)]⟩])
 (.cond (.t 4) (.seq (.reg [⟨.l 2, none, .mv, [.c (.i .i64 0)]⟩])
 .ret) .skip))
 (.seq (.reg [⟨.t 5, none, .mv, [.l 0]⟩, ⟨.t 6, none, .nilchk, [.t 5]⟩, ⟨.t 7, none, (.fad 0), [.t 6]⟩, ⟨.t 8, none, (.ld none), [.t 7]⟩, ⟨.t 9, none, .lenSl, [.t 8]⟩, ⟨.l 2, none, .mv, [.t 9]⟩])
 .ret))), [.tmp (.l 2)]⟩
/-- (*tarpaulin/heap.Heap).Len -/
def b187 : Nat := 5
def a187 : AFn := ⟨(.seq (.reg [⟨.l 2, none, .mv, [.c (.i .i64 0)]⟩])
 (.seq (.seq (.reg [⟨.t 3, none, .mv, [.l 0]⟩, ⟨.t 4, none, (.eq false .ptr), [.t 3, .c (.p none)]⟩])
 (.cond (.t 4) (.seq (.reg [⟨.l 2, none, .mv, [.c (.i .i64 0)]⟩])
 .ret) .skip))
 (.seq (.reg [⟨.t 5, none, .mv, [.l 0]⟩, ⟨.t 6, none, .nilchk, [.t 5]⟩, ⟨.t 7, none, (.fad 0), [.t 6]⟩, ⟨.t 8, none, (.ld none), [.t 7]⟩, ⟨.t 9, none, .lenSl, [.t 8]⟩, ⟨.l 2, none, .mv, [.t 9]⟩])
 .ret))), [.tmp (.l 2)]⟩
/-- (*tarpaulin/heap.Heap).Find -/
def b188 : Nat := 243
def a188 : AFn := ⟨(.seq (.reg [⟨.l 4, none, (.alloc [(.i .i64 0), (.i .i64 0), (.i .i64 0)]), []⟩, ⟨.l 5, none, .mv, [.c (.b false)]⟩])
 (.seq (.seq (.reg [⟨.t 8, none, .mv, [.l 0]⟩, ⟨.t 9, none, (.eq false .ptr), [.t 8, .c (.p none)]⟩])
 (.cond (.t 9) (.seq (.reg [⟨.t 10, none, (.build [(.i .i64 0), (.i .i64 0), (.i .i64 0)] []), []⟩, ⟨.no, none, (.st 3), [.l 4, .t 10]⟩, ⟨.l 5, none, .mv, [.c (.b false)]⟩])
 .ret) .skip))
 (.seq (.reg [⟨.t 12, none, .mv, [.l 0]⟩, ⟨.t 13, none, .nilchk, [.t 12]⟩, ⟨.t 14, none, (.fad 1), [.t 13]⟩, ⟨.t 15, none, (.ld none), [.t 14]⟩, ⟨.t 16, none, .mv, [.l 1]⟩, ⟨.t 17, none, (.lkup (.i .i64 0) true), [.t 15, .t 16]⟩, ⟨.t 11, none, .mv, [.t 17]⟩, ⟨.t 18, none, (.ext 0), [.t 11]⟩, ⟨.t 19, none, (.ext 1), [.t 11]⟩, ⟨.l 6, none, .mv, [.t 18]⟩, ⟨.l 7, none, .mv, [.t 19]⟩])
 (.seq (.seq (.reg [⟨.t 20, none, .mv, [.l 7]⟩, ⟨.t 21, none, (.un .not), [.t 20]⟩])
 (.cond (.t 21) (.seq (.reg [⟨.t 22, none, (.build [(.i .i64 0), (.i .i64 0), (.i .i64 0)] []), []⟩, ⟨.no, none, (.st 3), [.l 4, .t 22]⟩, ⟨.l 5, none, .mv, [.c (.b false)]⟩])
 .ret) .skip))
 (.seq (.reg [⟨.t 23, none, .mv, [.l 0]⟩, ⟨.t 24, none, .nilchk, [.t 23]⟩, ⟨.t 25, none, (.fad 0), [.t 24]⟩, ⟨.t 26, none, (.ld none), [.t 25]⟩, ⟨.t 27, none, .mv, [.l 6]⟩, ⟨.t 28, none, (.iad 3), [.t 26, .t 27]⟩, ⟨.t 29, none, (.ld (some 3)), [.t 28]⟩, ⟨.no, none, (.st 3), [.l 4, .t 29]⟩, ⟨.l 5, none, .mv, [.c (.b true)]⟩])
 .ret))))), [.cell (.l 4) (some 3), .tmp (.l 5)]⟩
/-- (*tarpaulin/heap.Heap).put -/
def b189 : Nat := 39
def a189 : AFn := ⟨(.seq (.reg [⟨.l 5, none, .box, [.l 2]⟩])
 (.seq (.reg [⟨.t 6, none, .mv, [.l 0]⟩, ⟨.t 7, none, .nilchk, [.t 6]⟩, ⟨.t 8, none, (.fad 0), [.t 7]⟩, ⟨.t 9, none, (.ld none), [.t 8]⟩, ⟨.t 10, none, .mv, [.l 1]⟩, ⟨.t 11, none, (.ld (some 3)), [.l 5]⟩, ⟨.t 12, none, (.iad 3), [.t 9, .t 10]⟩, ⟨.no, none, (.st 3), [.t 12, .t 11]⟩])
 (.reg [⟨.t 13, none, .mv, [.l 0]⟩, ⟨.t 14, none, .nilchk, [.t 13]⟩, ⟨.t 15, none, (.fad 1), [.t 14]⟩, ⟨.t 16, none, (.ld none), [.t 15]⟩, ⟨.t 17, none, (.fad 0), [.l 5]⟩, ⟨.t 18, none, (.ld none), [.t 17]⟩, ⟨.t 19, none, .mv, [.l 1]⟩, ⟨.no, none, .mset, [.t 16, .t 18, .t 19]⟩]))), []⟩
/-- (*tarpaulin/heap.Heap).up -/
def b190 : Nat := 19
def a190 : AFn := ⟨(.seq (.reg [⟨.t 5, none, .mv, [.l 0]⟩, ⟨.t 6, none, .nilchk, [.t 5]⟩, ⟨.t 7, none, (.fad 0), [.t 6]⟩, ⟨.t 8, none, (.ld none), [.t 7]⟩, ⟨.t 9, none, .mv, [.l 1]⟩, ⟨.t 10, none, (.iad 3), [.t 8, .t 9]⟩, ⟨.t 11, none, (.ld (some 3)), [.t 10]⟩, ⟨.l 4, none, (.alloc [(.i .i64 0), (.i .i64 0), (.i .i64 0)]), []⟩, ⟨.no, none, (.st 3), [.l 4, .t 11]⟩])
 (.seq (.block 0 (.loop (.seq (.seq (.reg [⟨.t 12, none, .mv, [.l 1]⟩, ⟨.t 13, none, (.bin .gtr), [.t 12, .c (.i .i64 0)]⟩, ⟨.t 14, none, .mv, [.t 13]⟩, ⟨.t 15, (some (.t 14, true)), (.ld (some 3)), [.l 4]⟩, ⟨.t 16, (some (.t 14, true)), .mv, [.l 0]⟩, ⟨.t 17, (some (.t 14, true)), .nilchk, [.t 16]⟩, ⟨.t 18, (some (.t 14, true)), (.fad 0), [.t 17]⟩, ⟨.t 19, (some (.t 14, true)), (.ld none), [.t 18]⟩, ⟨.t 20, (some (.t 14, true)), .mv, [.l 1]⟩, ⟨.t 21, (some (.t 14, true)), (.bin .sub), [.t 20, .c (.i .i64 1)]⟩, ⟨.t 22, (some (.t 14, true)), (.bin .quo), [.t 21, .c (.i .i64 4)]⟩, ⟨.t 23, (some (.t 14, true)), (.iad 3), [.t 19, .t 22]⟩, ⟨.t 24, (some (.t 14, true)), (.ld (some 3)), [.t 23]⟩, ⟨.t 25, (some (.t 14, true)), (.call 207), [.t 15, .t 24]⟩, ⟨.t 26, (some (.t 14, true)), (.bin .lss), [.t 25, .c (.i .i64 0)]⟩, ⟨.t 27, none, .pick, [.t 14, .t 26, .c (.b false)]⟩])
 (.cond (.t 27) .skip (.exit 0)))
 (.block 1 (.seq (.reg [⟨.t 28, none, .mv, [.l 0]⟩, ⟨.t 29, none, .mv, [.l 1]⟩, ⟨.t 30, none, .mv, [.l 0]⟩, ⟨.t 31, none, .nilchk, [.t 30]⟩, ⟨.t 32, none, (.fad 0), [.t 31]⟩, ⟨.t 33, none, (.ld none), [.t 32]⟩, ⟨.t 34, none, .mv, [.l 1]⟩, ⟨.t 35, none, (.bin .sub), [.t 34, .c (.i .i64 1)]⟩, ⟨.t 36, none, (.bin .quo), [.t 35, .c (.i .i64 4)]⟩, ⟨.t 37, none, (.iad 3), [.t 33, .t 36]⟩, ⟨.t 38, none, (.ld (some 3)), [.t 37]⟩, ⟨.t 39, none, (.call 189), [.t 28, .t 29, .t 38]⟩])
 (.reg [⟨.t 40, none, .mv, [.l 1]⟩, ⟨.t 41, none, (.bin .sub), [.t 40, .c (.i .i64 1)]⟩, ⟨.t 42, none, (.bin .quo), [.t 41, .c (.i .i64 4)]⟩, ⟨.l 1, none, .mv, [.t 42]⟩]))))))
 (.reg [⟨.t 43, none, .mv, [.l 0]⟩, ⟨.t 44, none, .mv, [.l 1]⟩, ⟨.t 45, none, (.ld (some 3)), [.l 4]⟩, ⟨.t 46, none, (.call 189), [.t 43, .t 44, .t 45]⟩]))), []⟩
/-- (*tarpaulin/heap.Heap).down -/
def b191 : Nat := 243
def a191 : AFn := ⟨(.seq (.reg [⟨.t 8, none, .mv, [.l 0]⟩, ⟨.t 9, none, .nilchk, [.t 8]⟩, ⟨.t 10, none, (.fad 0), [.t 9]⟩, ⟨.t 11, none, (.ld none), [.t 10]⟩, ⟨.t 12, none, .mv, [.l 1]⟩, ⟨.t 13, none, (.iad 3), [.t 11, .t 12]⟩, ⟨.t 14, none, (.ld (some 3)), [.t 13]⟩, ⟨.l 4, none, (.alloc [(.i .i64 0), (.i .i64 0), (.i .i64 0)]), []⟩, ⟨.no, none, (.st 3), [.l 4, .t 14]⟩])
 (.seq (.block 0 (.loop (.block 1 (.seq (.reg [⟨.t 15, none, .mv, [.l 1]⟩, ⟨.t 16, none, (.bin .mul), [.c (.i .i64 4), .t 15]⟩, ⟨.t 17, none, (.bin .add), [.t 16, .c (.i .i64 1)]⟩, ⟨.l 5, none, .mv, [.t 17]⟩])
 (.seq (.seq (.reg [⟨.t 18, none, .mv, [.l 5]⟩, ⟨.t 19, none, .mv, [.l 0]⟩, ⟨.t 20, none, .nilchk, [.t 19]⟩, ⟨.t 21, none, (.fad 0), [.t 20]⟩, ⟨.t 22, none, (.ld none), [.t 21]⟩, ⟨.t 23, none, .lenSl, [.t 22]⟩, ⟨.t 24, none, (.bin .geq), [.t 18, .t 23]⟩])
 (.cond (.t 24) (.exit 0) .skip))
 (.seq (.reg [⟨.t 25, none, .mv, [.l 5]⟩, ⟨.l 6, none, .mv, [.t 25]⟩])
 (.seq (.seq (.reg [⟨.t 26, none, .mv, [.l 5]⟩, ⟨.t 27, none, (.bin .add), [.t 26, .c (.i .i64 1)]⟩, ⟨.l 7, none, .mv, [.t 27]⟩])
 (.block 2 (.loop (.seq (.seq (.reg [⟨.t 28, none, .mv, [.l 7]⟩, ⟨.t 29, none, .mv, [.l 5]⟩, ⟨.t 30, none, (.bin .add), [.t 29, .c (.i .i64 4)]⟩, ⟨.t 31, none, .mv, [.l 0]⟩, ⟨.t 32, none, .nilchk, [.t 31]⟩, ⟨.t 33, none, (.fad 0), [.t 32]⟩, ⟨.t 34, none, (.ld none), [.t 33]⟩, ⟨.t 35, none, .lenSl, [.t 34]⟩, ⟨.t 36, none, .min, [.t 30, .t 35]⟩, ⟨.t 37, none, (.bin .lss), [.t 28, .t 36]⟩])
 (.cond (.t 37) .skip (.exit 2)))
 (.seq (.block 3 (.seq (.reg [⟨.t 40, none, .mv, [.l 0]⟩, ⟨.t 41, none, .nilchk, [.t 40]⟩, ⟨.t 42, none, (.fad 0), [.t 41]⟩, ⟨.t 43, none, (.ld none), [.t 42]⟩, ⟨.t 44, none, .mv, [.l 7]⟩, ⟨.t 45, none, (.iad 3), [.t 43, .t 44]⟩, ⟨.t 46, none, (.ld (some 3)), [.t 45]⟩, ⟨.t 47, none, .mv, [.l 0]⟩, ⟨.t 48, none, .nilchk, [.t 47]⟩, ⟨.t 49, none, (.fad 0), [.t 48]⟩, ⟨.t 50, none, (.ld none), [.t 49]⟩, ⟨.t 51, none, .mv, [.l 6]⟩, ⟨.t 52, none, (.iad 3), [.t 50, .t 51]⟩, ⟨.t 53, none, (.ld (some 3)), [.t 52]⟩, ⟨.t 54, none, (.call 207), [.t 46, .t 53]⟩, ⟨.t 55, none, (.bin .lss), [.t 54, .c (.i .i64 0)]⟩])
 (.cond (.t 55) (.reg [⟨.t 56, none, .mv, [.l 7]⟩, ⟨.l 6, none, .mv, [.t 56]⟩]) .skip)))
 (.reg [⟨.t 38, none, .mv, [.l 7]⟩, ⟨.t 39, none, (.bin .add), [.t 38, .c (.i .i64 1)]⟩, ⟨.l 7, none, .mv, [.t 39]⟩]))))))
 (.seq (.seq (.reg [⟨.t 57, none, (.ld (some 3)), [.l 4]⟩, ⟨.t 58, none, .mv, [.l 0]⟩, ⟨.t 59, none, .nilchk, [.t 58]⟩, ⟨.t 60, none, (.fad 0), [.t 59]⟩, ⟨.t 61, none, (.ld none), [.t 60]⟩, ⟨.t 62, none, .mv, [.l 6]⟩, ⟨.t 63, none, (.iad 3), [.t 61, .t 62]⟩, ⟨.t 64, none, (.ld (some 3)), [.t 63]⟩, ⟨.t 65, none, (.call 207), [.t 57, .t 64]⟩, ⟨.t 66, none, (.bin .lss), [.t 65, .c (.i .i64 0)]⟩])
 (.cond (.t 66) (.exit 0) .skip))
 (.seq (.reg [⟨.t 67, none, .mv, [.l 0]⟩, ⟨.t 68, none, .mv, [.l 1]⟩, ⟨.t 69, none, .mv, [.l 0]⟩, ⟨.t 70, none, .nilchk, [.t 69]⟩, ⟨.t 71, none, (.fad 0), [.t 70]⟩, ⟨.t 72, none, (.ld none), [.t 71]⟩, ⟨.t 73, none, .mv, [.l 6]⟩, ⟨.t 74, none, (.iad 3), [.t 72, .t 73]⟩, ⟨.t 75, none, (.ld (some 3)), [.t 74]⟩, ⟨.t 76, none, (.call 189), [.t 67, .t 68, .t 75]⟩])
 (.reg [⟨.t 77, none, .mv, [.l 6]⟩, ⟨.l 1, none, .mv, [.t 77]⟩]))))))))))
 (.reg [⟨.t 78, none, .mv, [.l 0]⟩, ⟨.t 79, none, .mv, [.l 1]⟩, ⟨.t 80, none, (.ld (some 3)), [.l 4]⟩, ⟨.t 81, none, (.call 189), [.t 78, .t 79, .t 80]⟩]))), []⟩
/-- (*tarpaulin/wait.Queue).take -/
def b192 : Nat := 115
def a192 : AFn := ⟨(.seq (.reg [⟨.l 4, none, (.alloc [(.i .i64 0), (.i .i64 0), (.i .i64 0)]), []⟩, ⟨.l 5, none, .mv, [.c (.b false)]⟩])
 (.seq (.seq (.reg [⟨.t 7, none, .mv, [.l 0]⟩, ⟨.t 8, none, (.eq false .ptr), [.t 7, .c (.p none)]⟩])
 (.cond (.t 8) (.seq (.reg [⟨.t 9, none, (.build [(.i .i64 0), (.i .i64 0), (.i .i64 0)] []), []⟩, ⟨.no, none, (.st 3), [.l 4, .t 9]⟩, ⟨.l 5, none, .mv, [.c (.b false)]⟩])
 .ret) .skip))
 (.seq (.seq (.reg [⟨.t 10, none, .mv, [.l 0]⟩, ⟨.t 11, none, .nilchk, [.t 10]⟩, ⟨.t 12, none, (.fad 0), [.t 11]⟩, ⟨.t 13, none, (.ld none), [.t 12]⟩, ⟨.l 6, none, .mv, [.t 13]⟩])
 (.block 0 (.loop (.seq (.seq (.reg [⟨.t 14, none, .mv, [.l 6]⟩, ⟨.t 15, none, (.eq true .ptr), [.t 14, .c (.p none)]⟩])
 (.cond (.t 15) .skip (.exit 0)))
 (.seq (.block 1 (.seq (.reg [⟨.t 20, none, .mv, [.l 1]⟩, ⟨.t 21, none, .mv, [.l 6]⟩, ⟨.t 22, none, .nilchk, [.t 21]⟩, ⟨.t 23, none, (.fad 0), [.t 22]⟩, ⟨.t 24, none, (.ld (some 3)), [.t 23]⟩, ⟨.t 25, none, .callv, [.t 20, .t 24]⟩])
 (.cond (.t 25) (.seq (.reg [⟨.t 26, none, .mv, [.l 0]⟩, ⟨.t 27, none, .mv, [.l 6]⟩, ⟨.t 28, none, (.call 208), [.t 26, .t 27]⟩])
 (.seq (.reg [⟨.t 29, none, .mv, [.l 6]⟩, ⟨.t 30, none, .nilchk, [.t 29]⟩, ⟨.t 31, none, (.fad 0), [.t 30]⟩, ⟨.t 32, none, (.ld (some 3)), [.t 31]⟩, ⟨.no, none, (.st 3), [.l 4, .t 32]⟩, ⟨.l 5, none, .mv, [.c (.b true)]⟩])
 .ret)) .skip)))
 (.reg [⟨.t 16, none, .mv, [.l 6]⟩, ⟨.t 17, none, .nilchk, [.t 16]⟩, ⟨.t 18, none, (.fad 4), [.t 17]⟩, ⟨.t 19, none, (.ld none), [.t 18]⟩, ⟨.l 6, none, .mv, [.t 19]⟩]))))))
 (.seq (.reg [⟨.t 33, none, (.build [(.i .i64 0), (.i .i64 0), (.i .i64 0)] []), []⟩, ⟨.no, none, (.st 3), [.l 4, .t 33]⟩, ⟨.l 5, none, .mv, [.c (.b false)]⟩])
 .ret)))), [.cell (.l 4) (some 3), .tmp (.l 5)]⟩
/-- (*tarpaulin/wait.Queue).Pop$1 -/
def b193 : Nat := 5
def a193 : AFn := ⟨(.seq (.reg [⟨.t 1, none, .box, [.l 0]⟩, ⟨.l 2, none, .mv, [.c (.b false)]⟩])
 (.seq (.reg [⟨.l 2, none, .mv, [.c (.b true)]⟩])
 .ret)), [.tmp (.l 2)]⟩
/-- (*tarpaulin/chanq.Chan).end -/
def b194 : Nat := 9007199256576117
def a194 : AFn := ⟨(.seq (.reg [⟨.l 2, none, .mv, [.c (.sl none 0 0 0)]⟩])
 (.seq (.reg [⟨.t 7, none, .mv, [.l 0]⟩, ⟨.t 8, none, .nilchk, [.t 7]⟩, ⟨.t 9, none, (.fad 5), [.t 8]⟩, ⟨.no, none, (.st 1), [.t 9, .c (.b true)]⟩])
 (.seq (.seq (.reg [⟨.t 10, none, .mv, [.l 0]⟩, ⟨.t 11, none, .nilchk, [.t 10]⟩, ⟨.t 12, none, (.fad 1), [.t 11]⟩, ⟨.t 13, none, (.ld none), [.t 12]⟩, ⟨.t 14, none, .mv, [.l 0]⟩, ⟨.t 15, none, .nilchk, [.t 14]⟩, ⟨.t 16, none, (.fad 2), [.t 15]⟩, ⟨.t 17, none, (.ld none), [.t 16]⟩, ⟨.l 18, none, (.bslice [(.p none)] 2 1 [0, 1]), [.t 13, .t 17]⟩, ⟨.l 19, none, .lenSl, [.l 18]⟩, ⟨.l 20, none, .mv, [.c (.i .i64 0)]⟩])
 (.block 0 (.loop (.seq (.reg [⟨.t 21, none, (.bin .lss), [.l 20, .l 19]⟩])
 (.seq (.cond (.t 21) .skip (.exit 0))
 (.seq (.block 1 (.seq (.reg [⟨.t 22, none, (.iad 1), [.l 18, .l 20]⟩, ⟨.t 23, none, (.ld none), [.t 22]⟩, ⟨.l 4, none, .mv, [.t 23]⟩])
 (.seq (.reg [⟨.t 25, none, .mv, [.l 4]⟩, ⟨.t 26, none, (.call 155), [.t 25]⟩, ⟨.t 24, none, .mv, [.t 26]⟩, ⟨.t 27, none, (.ext 0), [.t 24]⟩, ⟨.t 28, none, (.ext 1), [.t 24]⟩, ⟨.l 5, none, (.alloc [(.i .i64 0), (.i .i64 0), (.i .i64 0)]), []⟩, ⟨.no, none, (.st 3), [.l 5, .t 27]⟩, ⟨.l 6, none, .mv, [.t 28]⟩])
 (.block 2 (.loop (.seq (.seq (.reg [⟨.t 29, none, .mv, [.l 6]⟩])
 (.cond (.t 29) .skip (.exit 2)))
 (.seq (.block 3 (.seq (.reg [⟨.t 35, none, .mv, [.l 2]⟩, ⟨.t 36, none, (.mkfn 210 0), [.l 5]⟩, ⟨.t 37, none, (.call 209), [.t 35, .t 36]⟩, ⟨.t 38, none, (.un .not), [.t 37]⟩])
 (.cond (.t 38) (.reg [⟨.t 39, none, .mv, [.l 2]⟩, ⟨.t 40, none, (.fad 0), [.l 5]⟩, ⟨.t 41, none, (.ld none), [.t 40]⟩, ⟨.t 42, none, (.fad 1), [.l 5]⟩, ⟨.t 43, none, (.ld none), [.t 42]⟩, ⟨.t 44, none, .mv, [.l 4]⟩, ⟨.t 45, none, .mv, [.l 0]⟩, ⟨.t 46, none, .nilchk, [.t 45]⟩, ⟨.t 47, none, (.fad 2), [.t 46]⟩, ⟨.t 48, none, (.ld none), [.t 47]⟩, ⟨.t 49, none, (.eq false .ptr), [.t 44, .t 48]⟩, ⟨.t 50, none, (.build [(.i .i64 0), (.i .i64 0), (.i .i64 0), (.b false), (.b false)] [(0, 1), (1, 1), (4, 1)]), [.t 41, .t 43, .t 49]⟩, ⟨.t 51, none, (.bslice [(.i .i64 0), (.i .i64 0), (.i .i64 0), (.b false), (.b false)] 1 5 [0]), [.t 50]⟩, ⟨.t 52, none, (.app 5 32), [.t 39, .t 51]⟩, ⟨.l 2, none, .mv, [.t 52]⟩]) .skip)))
 (.seq (.seq (.reg [⟨.l 53, none, (.ld (some 3)), [.l 5]⟩])
 (.reg [⟨.l 5, none, (.alloc [(.i .i64 0), (.i .i64 0), (.i .i64 0)]), []⟩, ⟨.no, none, (.st 3), [.l 5, .l 53]⟩]))
 (.reg [⟨.t 31, none, .mv, [.l 4]⟩, ⟨.t 32, none, (.call 155), [.t 31]⟩, ⟨.t 30, none, .mv, [.t 32]⟩, ⟨.t 33, none, (.ext 0), [.t 30]⟩, ⟨.t 34, none, (.ext 1), [.t 30]⟩, ⟨.no, none, (.st 3), [.l 5, .t 33]⟩, ⟨.l 6, none, .mv, [.t 34]⟩])))))))))
 (.reg [⟨.t 54, none, (.bin .add), [.l 20, .c (.i .i64 1)]⟩, ⟨.l 20, none, .mv, [.t 54]⟩])))))))
 (.seq (.reg [⟨.t 55, none, .mv, [.l 2]⟩, ⟨.l 2, none, .mv, [.t 55]⟩])
 .ret)))), [.tmp (.l 2)]⟩
/-- (*tarpaulin/chanq.Chan).queue -/
def b195 : Nat := 19
def a195 : AFn := ⟨(.seq (.reg [⟨.l 4, none, .mv, [.c (.p none)]⟩])
 (.seq (.block 0 (.seq (.reg [⟨.t 6, none, .mv, [.l 0]⟩, ⟨.t 7, none, (.eq false .ptr), [.t 6, .c (.p none)]⟩, ⟨.t 5, none, .mv, [.t 7]⟩])
 (.cond (.t 5) (.seq (.reg [⟨.l 4, none, .mv, [.c (.p none)]⟩])
 .ret) (.seq (.reg [⟨.t 9, none, .mv, [.l 1]⟩, ⟨.t 8, none, .mv, [.t 9]⟩])
 (.cond (.t 8) (.seq (.reg [⟨.t 10, none, .mv, [.l 0]⟩, ⟨.t 11, none, .nilchk, [.t 10]⟩, ⟨.t 12, none, (.fad 2), [.t 11]⟩, ⟨.t 13, none, (.ld none), [.t 12]⟩, ⟨.l 4, none, .mv, [.t 13]⟩])
 .ret) .skip)))))
 (.seq (.reg [⟨.t 14, none, .mv, [.l 0]⟩, ⟨.t 15, none, .nilchk, [.t 14]⟩, ⟨.t 16, none, (.fad 1), [.t 15]⟩, ⟨.t 17, none, (.ld none), [.t 16]⟩, ⟨.l 4, none, .mv, [.t 17]⟩])
 .ret))), [.tmp (.l 4)]⟩
/-- (*tarpaulin/wait.Queue).Remove -/
def b196 : Nat := 91
def a196 : AFn := ⟨(.seq (.reg [⟨.l 3, none, .box, [.l 1]⟩, ⟨.l 4, none, .mv, [.c (.i .i64 0)]⟩])
 (.block 0 (.loop (.block 1 (.seq (.seq (.reg [⟨.t 8, none, .mv, [.l 0]⟩, ⟨.t 9, none, (.mkfn 211 0), [.l 3]⟩, ⟨.t 10, none, (.call 192), [.t 8, .t 9]⟩, ⟨.t 7, none, .mv, [.t 10]⟩, ⟨.t 11, none, (.ext 0), [.t 7]⟩, ⟨.t 12, none, (.ext 1), [.t 7]⟩, ⟨.t 5, none, (.alloc [(.i .i64 0), (.i .i64 0), (.i .i64 0)]), []⟩, ⟨.no, none, (.st 3), [.t 5, .t 11]⟩, ⟨.l 6, none, .mv, [.t 12]⟩])
 (.seq (.reg [⟨.t 13, none, .mv, [.l 6]⟩, ⟨.t 14, none, (.un .not), [.t 13]⟩])
 (.cond (.t 14) (.seq (.reg [⟨.t 15, none, .mv, [.l 4]⟩, ⟨.l 4, none, .mv, [.t 15]⟩])
 .ret) .skip)))
 (.reg [⟨.t 16, none, .mv, [.l 4]⟩, ⟨.t 17, none, (.bin .add), [.t 16, .c (.i .i64 1)]⟩, ⟨.l 4, none, .mv, [.t 17]⟩])))))), [.tmp (.l 4)]⟩
/-- tarpaulin/task.receives -/
def b197 : Nat := 23
def a197 : AFn := ⟨(.seq (.reg [⟨.l 2, none, .box, [.l 0]⟩, ⟨.l 4, none, .mv, [.c (.b false)]⟩])
 (.seq (.reg [⟨.t 5, none, .mv, [.l 1]⟩, ⟨.t 6, none, (.bin .geq), [.t 5, .c (.i .i64 0)]⟩, ⟨.t 7, none, .mv, [.t 6]⟩, ⟨.t 8, (some (.t 7, true)), .mv, [.l 1]⟩, ⟨.t 9, (some (.t 7, true)), (.fad 4), [.l 2]⟩, ⟨.t 10, (some (.t 7, true)), (.ld none), [.t 9]⟩, ⟨.t 11, (some (.t 7, true)), .lenSl, [.t 10]⟩, ⟨.t 12, (some (.t 7, true)), (.bin .lss), [.t 8, .t 11]⟩, ⟨.t 13, none, .pick, [.t 7, .t 12, .c (.b false)]⟩, ⟨.t 14, none, .mv, [.t 13]⟩, ⟨.t 15, (some (.t 14, true)), (.fad 4), [.l 2]⟩, ⟨.t 16, (some (.t 14, true)), (.ld none), [.t 15]⟩, ⟨.t 17, (some (.t 14, true)), .mv, [.l 1]⟩, ⟨.t 18, (some (.t 14, true)), (.iad 3), [.t 16, .t 17]⟩, ⟨.t 19, (some (.t 14, true)), (.fad 0), [.t 18]⟩, ⟨.t 20, (some (.t 14, true)), (.ld none), [.t 19]⟩, ⟨.t 21, (some (.t 14, true)), (.un .not), [.t 20]⟩, ⟨.t 22, none, .pick, [.t 14, .t 21, .c (.b false)]⟩, ⟨.l 4, none, .mv, [.t 22]⟩])
 .ret)), [.tmp (.l 4)]⟩
/-- (*tarpaulin/chanq.Chan).Wait$1 -/
def b198 : Nat := 15
def a198 : AFn := ⟨(.seq (.reg [⟨.l 2, none, .box, [.l 0]⟩, ⟨.l 3, none, .mv, [.c (.b false)]⟩])
 (.seq (.reg [⟨.t 4, none, (.fad 0), [.l 2]⟩, ⟨.t 5, none, (.ld none), [.t 4]⟩, ⟨.t 6, none, (.fad 0), [.l 1]⟩, ⟨.t 7, none, (.ld none), [.t 6]⟩, ⟨.t 8, none, (.bin .neq), [.t 5, .t 7]⟩, ⟨.l 3, none, .mv, [.t 8]⟩])
 .ret)), [.tmp (.l 3)]⟩
/-- (*tarpaulin/chanq.Chan).free -/
def b199 : Nat := 19
def a199 : AFn := ⟨(.seq (.reg [⟨.l 4, none, .mv, [.c (.b false)]⟩])
 (.seq (.seq (.reg [⟨.t 5, none, .mv, [.l 1]⟩])
 (.cond (.t 5) (.seq (.regD [⟨.t 6, none, .mv, [.l 0]⟩, ⟨.t 7, none, .nilchk, [.t 6]⟩, ⟨.t 8, none, (.fad 0), [.t 7]⟩, ⟨.t 9, none, (.ld none), [.t 8]⟩, ⟨.t 10, none, (.call 169), [.t 9]⟩, ⟨.t 11, none, .mv, [.l 0]⟩, ⟨.t 12, none, .nilchk, [.t 11]⟩, ⟨.t 13, none, (.fad 0), [.t 12]⟩, ⟨.t 14, none, (.ld none), [.t 13]⟩, ⟨.t 15, none, (.call 170), [.t 14]⟩, ⟨.t 16, none, (.bin .lss), [.t 10, .t 15]⟩, ⟨.l 4, none, .mv, [.t 16]⟩] [(8, 0)])
 .ret) .skip))
 (.seq (.reg [⟨.t 17, none, .mv, [.l 0]⟩, ⟨.t 18, none, .nilchk, [.t 17]⟩, ⟨.t 19, none, (.fad 0), [.t 18]⟩, ⟨.t 20, none, (.ld none), [.t 19]⟩, ⟨.t 21, none, (.call 169), [.t 20]⟩, ⟨.t 22, none, (.bin .gtr), [.t 21, .c (.i .i64 0)]⟩, ⟨.l 4, none, .mv, [.t 22]⟩])
 .ret))), [.tmp (.l 4)]⟩
/-- slices.ContainsFunc[[]tarpaulin/api.Wait,tarpaulin/api.Wait] -/
def b200 : Nat := 19
def a200 : AFn := ⟨(.seq (.reg [⟨.l 4, none, .mv, [.c (.b false)]⟩])
 (.seq (.reg [⟨.t 5, none, .mv, [.l 0]⟩, ⟨.t 6, none, .mv, [.l 1]⟩, ⟨.t 7, none, (.call 212), [.t 5, .t 6]⟩, ⟨.t 8, none, (.bin .geq), [.t 7, .c (.i .i64 0)]⟩, ⟨.l 4, none, .mv, [.t 8]⟩])
 .ret)), [.tmp (.l 4)]⟩
/-- (*tarpaulin/chanq.Chan).Waiting -/
def b201 : Nat := 19
def a201 : AFn := ⟨(.seq (.reg [⟨.l 4, none, .mv, [.c (.sl none 0 0 0)]⟩])
 (.seq (.reg [⟨.t 5, none, .mv, [.l 0]⟩, ⟨.t 6, none, .mv, [.l 1]⟩, ⟨.t 7, none, (.call 195), [.t 5, .t 6]⟩, ⟨.t 8, none, (.call 213), [.t 7]⟩, ⟨.l 4, none, .mv, [.t 8]⟩])
 .ret)), [.tmp (.l 4)]⟩
/-- (*tarpaulin/wait.Queue).Push -/
def b202 : Nat := 59
def a202 : AFn := ⟨(.seq (.reg [⟨.l 3, none, .box, [.l 1]⟩, ⟨.l 4, none, .mv, [.c (.i .i64 0)]⟩])
 (.seq (.seq (.reg [⟨.t 6, none, .mv, [.l 0]⟩, ⟨.t 7, none, (.eq false .ptr), [.t 6, .c (.p none)]⟩])
 (.cond (.t 7) (.seq (.reg [⟨.l 4, none, .mv, [.c (.i .i64 0)]⟩])
 .ret) .skip))
 (.seq (.reg [⟨.t 8, none, (.ld (some 3)), [.l 3]⟩, ⟨.t 9, none, .mv, [.l 0]⟩, ⟨.t 10, none, .nilchk, [.t 9]⟩, ⟨.t 11, none, (.fad 1), [.t 10]⟩, ⟨.t 12, none, (.ld none), [.t 11]⟩, ⟨.t 13, none, (.build [(.i .i64 0), (.i .i64 0), (.i .i64 0), (.p none), (.p none)] [(0, 3), (3, 1)]), [.t 8, .t 12]⟩, ⟨.t 14, none, .box, [.t 13]⟩, ⟨.l 5, none, .mv, [.t 14]⟩])
 (.seq (.seq (.reg [⟨.t 15, none, .mv, [.l 0]⟩, ⟨.t 16, none, .nilchk, [.t 15]⟩, ⟨.t 17, none, (.fad 1), [.t 16]⟩, ⟨.t 18, none, (.ld none), [.t 17]⟩, ⟨.t 19, none, (.eq false .ptr), [.t 18, .c (.p none)]⟩])
 (.cond (.t 19) (.reg [⟨.t 20, none, .mv, [.l 0]⟩, ⟨.t 21, none, .mv, [.l 5]⟩, ⟨.t 22, none, .nilchk, [.t 20]⟩, ⟨.t 23, none, (.fad 0), [.t 22]⟩, ⟨.no, none, (.st 1), [.t 23, .t 21]⟩]) (.reg [⟨.t 24, none, .mv, [.l 0]⟩, ⟨.t 25, none, .nilchk, [.t 24]⟩, ⟨.t 26, none, (.fad 1), [.t 25]⟩, ⟨.t 27, none, (.ld none), [.t 26]⟩, ⟨.t 28, none, .mv, [.l 5]⟩, ⟨.t 29, none, .nilchk, [.t 27]⟩, ⟨.t 30, none, (.fad 4), [.t 29]⟩, ⟨.no, none, (.st 1), [.t 30, .t 28]⟩])))
 (.seq (.reg [⟨.t 31, none, .mv, [.l 0]⟩, ⟨.t 32, none, .mv, [.l 5]⟩, ⟨.t 33, none, .nilchk, [.t 31]⟩, ⟨.t 34, none, (.fad 1), [.t 33]⟩, ⟨.no, none, (.st 1), [.t 34, .t 32]⟩])
 (.seq (.reg [⟨.t 35, none, .mv, [.l 0]⟩, ⟨.t 36, none, .nilchk, [.t 35]⟩, ⟨.t 37, none, (.fad 2), [.t 36]⟩, ⟨.t 38, none, (.ld none), [.t 37]⟩, ⟨.t 39, none, (.bin .add), [.t 38, .c (.i .i64 1)]⟩, ⟨.t 40, none, .nilchk, [.t 35]⟩, ⟨.t 41, none, (.fad 2), [.t 40]⟩, ⟨.no, none, (.st 1), [.t 41, .t 39]⟩])
 (.seq (.reg [⟨.t 42, none, .mv, [.l 0]⟩, ⟨.t 43, none, .nilchk, [.t 42]⟩, ⟨.t 44, none, (.fad 2), [.t 43]⟩, ⟨.t 45, none, (.ld none), [.t 44]⟩, ⟨.l 4, none, .mv, [.t 45]⟩])
 .ret))))))), [.tmp (.l 4)]⟩
/-- (*tarpaulin/ring.Ring).Pop -/
def b203 : Nat := 29
def a203 : AFn := ⟨(.seq (.reg [⟨.l 2, none, .mv, [.c (.i .i64 0)]⟩, ⟨.l 3, none, .mv, [.c (.b false)]⟩])
 (.seq (.seq (.reg [⟨.t 5, none, .mv, [.l 0]⟩, ⟨.t 6, none, (.eq false .ptr), [.t 5, .c (.p none)]⟩, ⟨.t 7, none, .mv, [.t 6]⟩, ⟨.t 8, (some (.t 7, false)), .mv, [.l 0]⟩, ⟨.t 9, (some (.t 7, false)), .nilchk, [.t 8]⟩, ⟨.t 10, (some (.t 7, false)), (.fad 2), [.t 9]⟩, ⟨.t 11, (some (.t 7, false)), (.ld none), [.t 10]⟩, ⟨.t 12, (some (.t 7, false)), (.bin .eql), [.t 11, .c (.i .i64 0)]⟩, ⟨.t 13, none, .pick, [.t 7, .c (.b true), .t 12]⟩])
 (.cond (.t 13) (.seq (.reg [⟨.l 2, none, .mv, [.c (.i .i64 0)]⟩, ⟨.l 3, none, .mv, [.c (.b false)]⟩])
 .ret) .skip))
 (.seq (.reg [⟨.t 14, none, .mv, [.l 0]⟩, ⟨.t 15, none, .nilchk, [.t 14]⟩, ⟨.t 16, none, (.fad 0), [.t 15]⟩, ⟨.t 17, none, (.ld none), [.t 16]⟩, ⟨.t 18, none, .mv, [.l 0]⟩, ⟨.t 19, none, .nilchk, [.t 18]⟩, ⟨.t 20, none, (.fad 1), [.t 19]⟩, ⟨.t 21, none, (.ld none), [.t 20]⟩, ⟨.t 22, none, (.iad 1), [.t 17, .t 21]⟩, ⟨.t 23, none, (.ld none), [.t 22]⟩, ⟨.l 4, none, .mv, [.t 23]⟩])
 (.seq (.reg [⟨.t 24, none, .mv, [.l 0]⟩, ⟨.t 25, none, .mv, [.l 0]⟩, ⟨.t 26, none, .nilchk, [.t 25]⟩, ⟨.t 27, none, (.fad 1), [.t 26]⟩, ⟨.t 28, none, (.ld none), [.t 27]⟩, ⟨.t 29, none, (.bin .add), [.t 28, .c (.i .i64 1)]⟩, ⟨.t 30, none, .mv, [.l 0]⟩, ⟨.t 31, none, .nilchk, [.t 30]⟩, ⟨.t 32, none, (.fad 0), [.t 31]⟩, ⟨.t 33, none, (.ld none), [.t 32]⟩, ⟨.t 34, none, .lenSl, [.t 33]⟩, ⟨.t 35, none, (.bin .rem), [.t 29, .t 34]⟩, ⟨.t 36, none, .nilchk, [.t 24]⟩, ⟨.t 37, none, (.fad 1), [.t 36]⟩, ⟨.no, none, (.st 1), [.t 37, .t 35]⟩])
 (.seq (.reg [⟨.t 38, none, .mv, [.l 0]⟩, ⟨.t 39, none, .nilchk, [.t 38]⟩, ⟨.t 40, none, (.fad 2), [.t 39]⟩, ⟨.t 41, none, (.ld none), [.t 40]⟩, ⟨.t 42, none, (.bin .sub), [.t 41, .c (.i .i64 1)]⟩, ⟨.t 43, none, .nilchk, [.t 38]⟩, ⟨.t 44, none, (.fad 2), [.t 43]⟩, ⟨.no, none, (.st 1), [.t 44, .t 42]⟩])
 (.seq (.reg [⟨.t 45, none, .mv, [.l 4]⟩, ⟨.l 2, none, .mv, [.t 45]⟩, ⟨.l 3, none, .mv, [.c (.b true)]⟩])
 .ret)))))), [.tmp (.l 2), .tmp (.l 3)]⟩
/-- (*tarpaulin/chanq.Chan).Can -/
def b204 : Nat := 19
def a204 : AFn := ⟨(.seq (.reg [⟨.l 4, none, .mv, [.c (.b false)]⟩])
 (.seq (.block 0 (.seq (.seq (.reg [⟨.t 6, none, .mv, [.l 0]⟩, ⟨.t 7, none, (.eq false .ptr), [.t 6, .c (.p none)]⟩, ⟨.t 5, none, .mv, [.t 7]⟩])
 (.cond (.t 5) .skip (.reg [⟨.t 8, none, .mv, [.l 0]⟩, ⟨.t 9, none, (.call 173), [.t 8]⟩, ⟨.t 10, none, .mv, [.t 9]⟩, ⟨.t 11, (some (.t 10, true)), .mv, [.l 1]⟩, ⟨.t 12, none, .pick, [.t 10, .t 11, .c (.b false)]⟩, ⟨.t 5, none, .mv, [.t 12]⟩])))
 (.cond (.t 5) (.seq (.reg [⟨.l 4, none, .mv, [.c (.b false)]⟩])
 .ret) .skip)))
 (.seq (.reg [⟨.t 13, none, .mv, [.l 0]⟩, ⟨.t 14, none, .nilchk, [.t 13]⟩, ⟨.t 15, none, (.fad 5), [.t 14]⟩, ⟨.t 16, none, (.ld none), [.t 15]⟩, ⟨.t 17, none, .mv, [.t 16]⟩, ⟨.t 18, (some (.t 17, false)), .mv, [.l 0]⟩, ⟨.t 19, (some (.t 17, false)), .mv, [.l 1]⟩, ⟨.t 20, (some (.t 17, false)), (.call 199), [.t 18, .t 19]⟩, ⟨.t 21, none, .pick, [.t 17, .c (.b true), .t 20]⟩, ⟨.t 22, none, .mv, [.t 21]⟩, ⟨.t 23, (some (.t 22, false)), .mv, [.l 0]⟩, ⟨.t 24, (some (.t 22, false)), .mv, [.l 1]⟩, ⟨.t 25, (some (.t 22, false)), (.un .not), [.t 24]⟩, ⟨.t 26, (some (.t 22, false)), (.call 195), [.t 23, .t 25]⟩, ⟨.t 27, (some (.t 22, false)), (.call 214), [.t 26]⟩, ⟨.t 28, (some (.t 22, false)), (.bin .gtr), [.t 27, .c (.i .i64 0)]⟩, ⟨.t 29, none, .pick, [.t 22, .c (.b true), .t 28]⟩, ⟨.l 4, none, .mv, [.t 29]⟩])
 .ret))), [.tmp (.l 4)]⟩
/-- tarpaulin/chanq.Timed -/
def b205 : Nat := 3
def a205 : AFn := ⟨(.seq (.reg [⟨.l 0, none, .mv, [.c (.p none)]⟩])
 (.seq (.reg [⟨.t 4, none, (.call 118), [.c (.i .i64 1)]⟩, ⟨.t 3, none, .mv, [.t 4]⟩, ⟨.t 5, none, (.ext 0), [.t 3]⟩, ⟨.t 6, none, (.ext 1), [.t 3]⟩, ⟨.l 1, none, .mv, [.t 5]⟩, ⟨.t 2, none, .mv, [.t 6]⟩])
 (.seq (.reg [⟨.t 7, none, .mv, [.l 1]⟩, ⟨.t 8, none, .nilchk, [.t 7]⟩, ⟨.t 9, none, (.fad 3), [.t 8]⟩, ⟨.no, none, (.st 1), [.t 9, .c (.b true)]⟩])
 (.seq (.reg [⟨.t 10, none, .mv, [.l 1]⟩, ⟨.l 0, none, .mv, [.t 10]⟩])
 .ret)))), [.tmp (.l 0)]⟩
/-- (*tarpaulin/ring.Ring).Clear -/
def b206 : Nat := 13
def a206 : AFn := ⟨(.seq (.reg [⟨.l 2, none, .mv, [.c (.i .i64 0)]⟩])
 (.seq (.reg [⟨.t 4, none, .mv, [.l 0]⟩, ⟨.t 5, none, (.call 169), [.t 4]⟩, ⟨.l 3, none, .mv, [.t 5]⟩])
 (.seq (.seq (.reg [⟨.t 6, none, .mv, [.l 3]⟩, ⟨.t 7, none, (.bin .gtr), [.t 6, .c (.i .i64 0)]⟩])
 (.cond (.t 7) (.reg [⟨.t 8, none, .mv, [.l 0]⟩, ⟨.t 9, none, .nilchk, [.t 8]⟩, ⟨.t 10, none, (.fad 2), [.t 9]⟩, ⟨.no, none, (.st 1), [.t 10, .c (.i .i64 0)]⟩]) .skip))
 (.seq (.reg [⟨.t 11, none, .mv, [.l 3]⟩, ⟨.l 2, none, .mv, [.t 11]⟩])
 .ret)))), [.tmp (.l 2)]⟩
/-- tarpaulin/heap.ahead -/
def b207 : Nat := 31
def a207 : AFn := ⟨(.seq (.reg [⟨.l 2, none, .box, [.l 0]⟩, ⟨.l 3, none, .box, [.l 1]⟩, ⟨.l 4, none, .mv, [.c (.i .i64 0)]⟩])
 (.seq (.regD [⟨.t 5, none, (.fad 1), [.l 2]⟩, ⟨.t 6, none, (.ld none), [.t 5]⟩, ⟨.t 7, none, (.fad 1), [.l 3]⟩, ⟨.t 8, none, (.ld none), [.t 7]⟩, ⟨.t 9, none, (.call 216), [.t 6, .t 8]⟩, ⟨.t 10, none, (.fad 2), [.l 2]⟩, ⟨.t 11, none, (.ld none), [.t 10]⟩, ⟨.t 12, none, (.fad 2), [.l 3]⟩, ⟨.t 13, none, (.ld none), [.t 12]⟩, ⟨.t 14, none, (.call 216), [.t 11, .t 13]⟩, ⟨.t 15, none, (.bslice [(.i .i64 0)] 2 1 [0, 1]), [.t 9, .t 14]⟩, ⟨.t 16, none, (.call 215), [.t 15]⟩, ⟨.l 4, none, .mv, [.t 16]⟩] [(6, 0), (8, 0)])
 .ret)), [.tmp (.l 4)]⟩
/-- (*tarpaulin/wait.Queue).drop -/
def b208 : Nat := 3
def a208 : AFn := ⟨(.seq (.seq (.reg [⟨.t 4, none, .mv, [.l 1]⟩, ⟨.t 5, none, .nilchk, [.t 4]⟩, ⟨.t 6, none, (.fad 3), [.t 5]⟩, ⟨.t 7, none, (.ld none), [.t 6]⟩, ⟨.t 8, none, (.eq false .ptr), [.t 7, .c (.p none)]⟩])
 (.cond (.t 8) (.reg [⟨.t 9, none, .mv, [.l 0]⟩, ⟨.t 10, none, .mv, [.l 1]⟩, ⟨.t 11, none, .nilchk, [.t 10]⟩, ⟨.t 12, none, (.fad 4), [.t 11]⟩, ⟨.t 13, none, (.ld none), [.t 12]⟩, ⟨.t 14, none, .nilchk, [.t 9]⟩, ⟨.t 15, none, (.fad 0), [.t 14]⟩, ⟨.no, none, (.st 1), [.t 15, .t 13]⟩]) (.reg [⟨.t 16, none, .mv, [.l 1]⟩, ⟨.t 17, none, .nilchk, [.t 16]⟩, ⟨.t 18, none, (.fad 3), [.t 17]⟩, ⟨.t 19, none, (.ld none), [.t 18]⟩, ⟨.t 20, none, .mv, [.l 1]⟩, ⟨.t 21, none, .nilchk, [.t 20]⟩, ⟨.t 22, none, (.fad 4), [.t 21]⟩, ⟨.t 23, none, (.ld none), [.t 22]⟩, ⟨.t 24, none, .nilchk, [.t 19]⟩, ⟨.t 25, none, (.fad 4), [.t 24]⟩, ⟨.no, none, (.st 1), [.t 25, .t 23]⟩])))
 (.seq (.seq (.reg [⟨.t 26, none, .mv, [.l 1]⟩, ⟨.t 27, none, .nilchk, [.t 26]⟩, ⟨.t 28, none, (.fad 4), [.t 27]⟩, ⟨.t 29, none, (.ld none), [.t 28]⟩, ⟨.t 30, none, (.eq false .ptr), [.t 29, .c (.p none)]⟩])
 (.cond (.t 30) (.reg [⟨.t 31, none, .mv, [.l 0]⟩, ⟨.t 32, none, .mv, [.l 1]⟩, ⟨.t 33, none, .nilchk, [.t 32]⟩, ⟨.t 34, none, (.fad 3), [.t 33]⟩, ⟨.t 35, none, (.ld none), [.t 34]⟩, ⟨.t 36, none, .nilchk, [.t 31]⟩, ⟨.t 37, none, (.fad 1), [.t 36]⟩, ⟨.no, none, (.st 1), [.t 37, .t 35]⟩]) (.reg [⟨.t 38, none, .mv, [.l 1]⟩, ⟨.t 39, none, .nilchk, [.t 38]⟩, ⟨.t 40, none, (.fad 4), [.t 39]⟩, ⟨.t 41, none, (.ld none), [.t 40]⟩, ⟨.t 42, none, .mv, [.l 1]⟩, ⟨.t 43, none, .nilchk, [.t 42]⟩, ⟨.t 44, none, (.fad 3), [.t 43]⟩, ⟨.t 45, none, (.ld none), [.t 44]⟩, ⟨.t 46, none, .nilchk, [.t 41]⟩, ⟨.t 47, none, (.fad 3), [.t 46]⟩, ⟨.no, none, (.st 1), [.t 47, .t 45]⟩])))
 (.reg [⟨.t 48, none, .mv, [.l 0]⟩, ⟨.t 49, none, .nilchk, [.t 48]⟩, ⟨.t 50, none, (.fad 2), [.t 49]⟩, ⟨.t 51, none, (.ld none), [.t 50]⟩, ⟨.t 52, none, (.bin .sub), [.t 51, .c (.i .i64 1)]⟩, ⟨.t 53, none, .nilchk, [.t 48]⟩, ⟨.t 54, none, (.fad 2), [.t 53]⟩, ⟨.no, none, (.st 1), [.t 54, .t 52]⟩]))), []⟩
/-- slices.ContainsFunc[[]tarpaulin/api.Wake,tarpaulin/api.Wake] -/
def b209 : Nat := 19
def a209 : AFn := ⟨(.seq (.reg [⟨.l 4, none, .mv, [.c (.b false)]⟩])
 (.seq (.reg [⟨.t 5, none, .mv, [.l 0]⟩, ⟨.t 6, none, .mv, [.l 1]⟩, ⟨.t 7, none, (.call 217), [.t 5, .t 6]⟩, ⟨.t 8, none, (.bin .geq), [.t 7, .c (.i .i64 0)]⟩, ⟨.l 4, none, .mv, [.t 8]⟩])
 .ret)), [.tmp (.l 4)]⟩
/-- (*tarpaulin/chanq.Chan).end$1 -/
def b210 : Nat := 15
def a210 : AFn := ⟨(.seq (.reg [⟨.l 2, none, .box, [.l 0]⟩, ⟨.l 3, none, .mv, [.c (.b false)]⟩])
 (.seq (.reg [⟨.t 4, none, (.fad 0), [.l 2]⟩, ⟨.t 5, none, (.ld none), [.t 4]⟩, ⟨.t 6, none, (.fad 0), [.l 1]⟩, ⟨.t 7, none, (.ld none), [.t 6]⟩, ⟨.t 8, none, (.bin .eql), [.t 5, .t 7]⟩, ⟨.l 3, none, .mv, [.t 8]⟩])
 .ret)), [.tmp (.l 3)]⟩
/-- (*tarpaulin/wait.Queue).Remove$1 -/
def b211 : Nat := 15
def a211 : AFn := ⟨(.seq (.reg [⟨.l 2, none, .box, [.l 0]⟩, ⟨.l 3, none, .mv, [.c (.b false)]⟩])
 (.seq (.reg [⟨.t 4, none, (.fad 0), [.l 2]⟩, ⟨.t 5, none, (.ld none), [.t 4]⟩, ⟨.t 6, none, (.ld none), [.l 1]⟩, ⟨.t 7, none, (.bin .eql), [.t 5, .t 6]⟩, ⟨.l 3, none, .mv, [.t 7]⟩])
 .ret)), [.tmp (.l 3)]⟩
/-- slices.IndexFunc[[]tarpaulin/api.Wait,tarpaulin/api.Wait] -/
def b212 : Nat := 435
def a212 : AFn := ⟨(.seq (.reg [⟨.l 4, none, .mv, [.c (.i .i64 0)]⟩])
 (.seq (.seq (.reg [⟨.t 6, none, .mv, [.l 0]⟩, ⟨.l 7, none, .lenSl, [.t 6]⟩, ⟨.l 8, none, .mv, [.c (.i .i64 0)]⟩])
 (.block 0 (.loop (.seq (.reg [⟨.t 9, none, (.bin .lss), [.l 8, .l 7]⟩])
 (.seq (.cond (.t 9) .skip (.exit 0))
 (.seq (.block 1 (.seq (.reg [⟨.t 10, none, .mv, [.l 8]⟩, ⟨.l 5, none, .mv, [.t 10]⟩])
 (.seq (.reg [⟨.t 11, none, .mv, [.l 1]⟩, ⟨.t 12, none, .mv, [.l 0]⟩, ⟨.t 13, none, .mv, [.l 5]⟩, ⟨.t 14, none, (.iad 3), [.t 12, .t 13]⟩, ⟨.t 15, none, (.ld (some 3)), [.t 14]⟩, ⟨.t 16, none, .callv, [.t 11, .t 15]⟩])
 (.cond (.t 16) (.seq (.reg [⟨.t 17, none, .mv, [.l 5]⟩, ⟨.l 4, none, .mv, [.t 17]⟩])
 .ret) .skip))))
 (.reg [⟨.t 18, none, (.bin .add), [.l 8, .c (.i .i64 1)]⟩, ⟨.l 8, none, .mv, [.t 18]⟩])))))))
 (.seq (.reg [⟨.l 4, none, .mv, [.c (.i .i64 (-1))]⟩])
 .ret))), [.tmp (.l 4)]⟩
/-- (*tarpaulin/wait.Queue).All -/
def b213 : Nat := 13
def a213 : AFn := ⟨(.seq (.reg [⟨.l 2, none, .mv, [.c (.sl none 0 0 0)]⟩])
 (.seq (.seq (.reg [⟨.t 4, none, .mv, [.l 0]⟩, ⟨.t 5, none, (.eq false .ptr), [.t 4, .c (.p none)]⟩])
 (.cond (.t 5) (.seq (.reg [⟨.l 2, none, .mv, [.c (.sl none 0 0 0)]⟩])
 .ret) .skip))
 (.seq (.seq (.reg [⟨.t 6, none, .mv, [.l 0]⟩, ⟨.t 7, none, .nilchk, [.t 6]⟩, ⟨.t 8, none, (.fad 0), [.t 7]⟩, ⟨.t 9, none, (.ld none), [.t 8]⟩, ⟨.l 3, none, .mv, [.t 9]⟩])
 (.block 0 (.loop (.seq (.seq (.reg [⟨.t 10, none, .mv, [.l 3]⟩, ⟨.t 11, none, (.eq true .ptr), [.t 10, .c (.p none)]⟩])
 (.cond (.t 11) .skip (.exit 0)))
 (.seq (.block 1 (.reg [⟨.t 16, none, .mv, [.l 2]⟩, ⟨.t 17, none, .mv, [.l 3]⟩, ⟨.t 18, none, .nilchk, [.t 17]⟩, ⟨.t 19, none, (.fad 0), [.t 18]⟩, ⟨.t 20, none, (.ld (some 3)), [.t 19]⟩, ⟨.t 21, none, (.bslice [(.i .i64 0), (.i .i64 0), (.i .i64 0)] 1 3 [0]), [.t 20]⟩, ⟨.t 22, none, (.app 3 24), [.t 16, .t 21]⟩, ⟨.l 2, none, .mv, [.t 22]⟩]))
 (.reg [⟨.t 12, none, .mv, [.l 3]⟩, ⟨.t 13, none, .nilchk, [.t 12]⟩, ⟨.t 14, none, (.fad 4), [.t 13]⟩, ⟨.t 15, none, (.ld none), [.t 14]⟩, ⟨.l 3, none, .mv, [.t 15]⟩]))))))
 (.seq (.reg [⟨.t 23, none, .mv, [.l 2]⟩, ⟨.l 2, none, .mv, [.t 23]⟩])
 .ret)))), [.tmp (.l 2)]⟩
/-- (*tarpaulin/wait.Queue).Len -/
def b214 : Nat := 5
def a214 : AFn := ⟨(.seq (.reg [⟨.l 2, none, .mv, [.c (.i .i64 0)]⟩])
 (.seq (.seq (.reg [⟨.t 3, none, .mv, [.l 0]⟩, ⟨.t 4, none, (.eq false .ptr), [.t 3, .c (.p none)]⟩])
 (.cond (.t 4) (.seq (.reg [⟨.l 2, none, .mv, [.c (.i .i64 0)]⟩])
 .ret) .skip))
 (.seq (.reg [⟨.t 5, none, .mv, [.l 0]⟩, ⟨.t 6, none, .nilchk, [.t 5]⟩, ⟨.t 7, none, (.fad 2), [.t 6]⟩, ⟨.t 8, none, (.ld none), [.t 7]⟩, ⟨.l 2, none, .mv, [.t 8]⟩])
 .ret))), [.tmp (.l 2)]⟩
/-- cmp.Or[int] -/
def b215 : Nat := 493
def a215 : AFn := ⟨(.seq (.reg [⟨.l 2, none, .mv, [.c (.i .i64 0)]⟩])
 (.seq (.reg [⟨.l 3, none, .mv, [.c (.i .i64 0)]⟩])
 (.seq (.seq (.reg [⟨.l 6, none, .mv, [.l 0]⟩, ⟨.l 7, none, .lenSl, [.l 6]⟩, ⟨.l 8, none, .mv, [.c (.i .i64 0)]⟩])
 (.block 0 (.loop (.seq (.reg [⟨.t 9, none, (.bin .lss), [.l 8, .l 7]⟩])
 (.seq (.cond (.t 9) .skip (.exit 0))
 (.seq (.block 1 (.seq (.reg [⟨.t 10, none, (.iad 1), [.l 6, .l 8]⟩, ⟨.t 11, none, (.ld none), [.t 10]⟩, ⟨.l 5, none, .mv, [.t 11]⟩])
 (.seq (.reg [⟨.t 12, none, .mv, [.l 5]⟩, ⟨.t 13, none, .mv, [.l 3]⟩, ⟨.t 14, none, (.bin .neq), [.t 12, .t 13]⟩])
 (.cond (.t 14) (.seq (.reg [⟨.t 15, none, .mv, [.l 5]⟩, ⟨.l 2, none, .mv, [.t 15]⟩])
 .ret) .skip))))
 (.reg [⟨.t 16, none, (.bin .add), [.l 8, .c (.i .i64 1)]⟩, ⟨.l 8, none, .mv, [.t 16]⟩])))))))
 (.seq (.reg [⟨.t 17, none, .mv, [.l 3]⟩, ⟨.l 2, none, .mv, [.t 17]⟩])
 .ret)))), [.tmp (.l 2)]⟩
/-- cmp.Compare[int] -/
def b216 : Nat := 115
def a216 : AFn := ⟨(.seq (.reg [⟨.l 4, none, .mv, [.c (.i .i64 0)]⟩])
 (.seq (.reg [⟨.t 7, none, .mv, [.l 0]⟩, ⟨.t 8, none, (.call 218), [.t 7]⟩, ⟨.l 5, none, .mv, [.t 8]⟩])
 (.seq (.reg [⟨.t 9, none, .mv, [.l 1]⟩, ⟨.t 10, none, (.call 218), [.t 9]⟩, ⟨.l 6, none, .mv, [.t 10]⟩])
 (.seq (.seq (.reg [⟨.t 11, none, .mv, [.l 5]⟩])
 (.cond (.t 11) (.seq (.seq (.reg [⟨.t 12, none, .mv, [.l 6]⟩])
 (.cond (.t 12) (.seq (.reg [⟨.l 4, none, .mv, [.c (.i .i64 0)]⟩])
 .ret) .skip))
 (.seq (.reg [⟨.l 4, none, .mv, [.c (.i .i64 (-1))]⟩])
 .ret)) .skip))
 (.seq (.seq (.reg [⟨.t 13, none, .mv, [.l 6]⟩])
 (.cond (.t 13) (.seq (.reg [⟨.l 4, none, .mv, [.c (.i .i64 1)]⟩])
 .ret) .skip))
 (.seq (.seq (.reg [⟨.t 14, none, .mv, [.l 0]⟩, ⟨.t 15, none, .mv, [.l 1]⟩, ⟨.t 16, none, (.bin .lss), [.t 14, .t 15]⟩])
 (.cond (.t 16) (.seq (.reg [⟨.l 4, none, .mv, [.c (.i .i64 (-1))]⟩])
 .ret) .skip))
 (.seq (.seq (.reg [⟨.t 17, none, .mv, [.l 0]⟩, ⟨.t 18, none, .mv, [.l 1]⟩, ⟨.t 19, none, (.bin .gtr), [.t 17, .t 18]⟩])
 (.cond (.t 19) (.seq (.reg [⟨.l 4, none, .mv, [.c (.i .i64 1)]⟩])
 .ret) .skip))
 (.seq (.reg [⟨.l 4, none, .mv, [.c (.i .i64 0)]⟩])
 .ret)))))))), [.tmp (.l 4)]⟩
/-- slices.IndexFunc[[]tarpaulin/api.Wake,tarpaulin/api.Wake] -/
def b217 : Nat := 435
def a217 : AFn := ⟨(.seq (.reg [⟨.l 4, none, .mv, [.c (.i .i64 0)]⟩])
 (.seq (.seq (.reg [⟨.t 6, none, .mv, [.l 0]⟩, ⟨.l 7, none, .lenSl, [.t 6]⟩, ⟨.l 8, none, .mv, [.c (.i .i64 0)]⟩])
 (.block 0 (.loop (.seq (.reg [⟨.t 9, none, (.bin .lss), [.l 8, .l 7]⟩])
 (.seq (.cond (.t 9) .skip (.exit 0))
 (.seq (.block 1 (.seq (.reg [⟨.t 10, none, .mv, [.l 8]⟩, ⟨.l 5, none, .mv, [.t 10]⟩])
 (.seq (.reg [⟨.t 11, none, .mv, [.l 1]⟩, ⟨.t 12, none, .mv, [.l 0]⟩, ⟨.t 13, none, .mv, [.l 5]⟩, ⟨.t 14, none, (.iad 5), [.t 12, .t 13]⟩, ⟨.t 15, none, (.ld (some 5)), [.t 14]⟩, ⟨.t 16, none, .callv, [.t 11, .t 15]⟩])
 (.cond (.t 16) (.seq (.reg [⟨.t 17, none, .mv, [.l 5]⟩, ⟨.l 4, none, .mv, [.t 17]⟩])
 .ret) .skip))))
 (.reg [⟨.t 18, none, (.bin .add), [.l 8, .c (.i .i64 1)]⟩, ⟨.l 8, none, .mv, [.t 18]⟩])))))))
 (.seq (.reg [⟨.l 4, none, .mv, [.c (.i .i64 (-1))]⟩])
 .ret))), [.tmp (.l 4)]⟩
/-- cmp.isNaN[int] -/
def b218 : Nat := 5
def a218 : AFn := ⟨(.seq (.reg [⟨.l 2, none, .mv, [.c (.b false)]⟩])
 (.seq (.reg [⟨.t 3, none, .mv, [.l 0]⟩, ⟨.t 4, none, .mv, [.l 0]⟩, ⟨.t 5, none, (.bin .neq), [.t 3, .t 4]⟩, ⟨.l 2, none, .mv, [.t 5]⟩])
 .ret)), [.tmp (.l 2)]⟩
theorem c104 : compFn Tryz.prog b104 Tryz.f104 = some a104 := by kernel_rfl
theorem c105 : compFn Tryz.prog b105 Tryz.f105 = some a105 := by kernel_rfl
theorem c106 : compFn Tryz.prog b106 Tryz.f106 = some a106 := by kernel_rfl
theorem c107 : compFn Tryz.prog b107 Tryz.f107 = some a107 := by kernel_rfl
theorem c108 : compFn Tryz.prog b108 Tryz.f108 = some a108 := by kernel_rfl
theorem c109 : compFn Tryz.prog b109 Tryz.f109 = some a109 := by kernel_rfl
theorem c110 : compFn Tryz.prog b110 Tryz.f110 = some a110 := by kernel_rfl
theorem c111 : compFn Tryz.prog b111 Tryz.f111 = some a111 := by kernel_rfl
theorem c112 : compFn Tryz.prog b112 Tryz.f112 = some a112 := by kernel_rfl
theorem c113 : compFn Tryz.prog b113 Tryz.f113 = some a113 := by kernel_rfl
theorem c114 : compFn Tryz.prog b114 Tryz.f114 = some a114 := by kernel_rfl
theorem c115 : compFn Tryz.prog b115 Tryz.f115 = some a115 := by kernel_rfl
theorem c116 : compFn Tryz.prog b116 Tryz.f116 = some a116 := by kernel_rfl
theorem c117 : compFn Tryz.prog b117 Tryz.f117 = some a117 := by kernel_rfl
theorem c118 : compFn Tryz.prog b118 Tryz.f118 = some a118 := by kernel_rfl
theorem c119 : compFn Tryz.prog b119 Tryz.f119 = some a119 := by kernel_rfl
theorem c120 : compFn Tryz.prog b120 Tryz.f120 = some a120 := by kernel_rfl
theorem c121 : compFn Tryz.prog b121 Tryz.f121 = some a121 := by kernel_rfl
theorem c122 : compFn Tryz.prog b122 Tryz.f122 = some a122 := by kernel_rfl
theorem c123 : compFn Tryz.prog b123 Tryz.f123 = some a123 := by kernel_rfl
theorem c124 : compFn Tryz.prog b124 Tryz.f124 = some a124 := by kernel_rfl
theorem c125 : compFn Tryz.prog b125 Tryz.f125 = some a125 := by kernel_rfl
theorem c126 : compFn Tryz.prog b126 Tryz.f126 = some a126 := by kernel_rfl
theorem c127 : compFn Tryz.prog b127 Tryz.f127 = some a127 := by kernel_rfl
theorem c128 : compFn Tryz.prog b128 Tryz.f128 = some a128 := by kernel_rfl
theorem c129 : compFn Tryz.prog b129 Tryz.f129 = some a129 := by kernel_rfl
theorem c130 : compFn Tryz.prog b130 Tryz.f130 = some a130 := by kernel_rfl
theorem c131 : compFn Tryz.prog b131 Tryz.f131 = some a131 := by kernel_rfl
theorem c132 : compFn Tryz.prog b132 Tryz.f132 = some a132 := by kernel_rfl
theorem c133 : compFn Tryz.prog b133 Tryz.f133 = some a133 := by kernel_rfl
theorem c134 : compFn Tryz.prog b134 Tryz.f134 = some a134 := by kernel_rfl
theorem c135 : compFn Tryz.prog b135 Tryz.f135 = some a135 := by kernel_rfl
theorem c136 : compFn Tryz.prog b136 Tryz.f136 = some a136 := by kernel_rfl
theorem c137 : compFn Tryz.prog b137 Tryz.f137 = some a137 := by kernel_rfl
theorem c138 : compFn Tryz.prog b138 Tryz.f138 = some a138 := by kernel_rfl
theorem c139 : compFn Tryz.prog b139 Tryz.f139 = some a139 := by kernel_rfl
theorem c140 : compFn Tryz.prog b140 Tryz.f140 = some a140 := by kernel_rfl
theorem c141 : compFn Tryz.prog b141 Tryz.f141 = some a141 := by kernel_rfl
theorem c142 : compFn Tryz.prog b142 Tryz.f142 = some a142 := by kernel_rfl
theorem c143 : compFn Tryz.prog b143 Tryz.f143 = some a143 := by kernel_rfl
theorem c144 : compFn Tryz.prog b144 Tryz.f144 = some a144 := by kernel_rfl
theorem c145 : compFn Tryz.prog b145 Tryz.f145 = some a145 := by kernel_rfl
theorem c146 : compFn Tryz.prog b146 Tryz.f146 = some a146 := by kernel_rfl
theorem c147 : compFn Tryz.prog b147 Tryz.f147 = some a147 := by kernel_rfl
theorem c148 : compFn Tryz.prog b148 Tryz.f148 = some a148 := by kernel_rfl
theorem c149 : compFn Tryz.prog b149 Tryz.f149 = some a149 := by kernel_rfl
theorem c150 : compFn Tryz.prog b150 Tryz.f150 = some a150 := by kernel_rfl
theorem c151 : compFn Tryz.prog b151 Tryz.f151 = some a151 := by kernel_rfl
theorem c152 : compFn Tryz.prog b152 Tryz.f152 = some a152 := by kernel_rfl
theorem c153 : compFn Tryz.prog b153 Tryz.f153 = some a153 := by kernel_rfl
theorem c154 : compFn Tryz.prog b154 Tryz.f154 = some a154 := by kernel_rfl
theorem c155 : compFn Tryz.prog b155 Tryz.f155 = some a155 := by kernel_rfl
theorem c156 : compFn Tryz.prog b156 Tryz.f156 = some a156 := by kernel_rfl
theorem c157 : compFn Tryz.prog b157 Tryz.f157 = some a157 := by kernel_rfl
theorem c158 : compFn Tryz.prog b158 Tryz.f158 = some a158 := by kernel_rfl
theorem c159 : compFn Tryz.prog b159 Tryz.f159 = some a159 := by kernel_rfl
theorem c160 : compFn Tryz.prog b160 Tryz.f160 = some a160 := by kernel_rfl
theorem c161 : compFn Tryz.prog b161 Tryz.f161 = some a161 := by kernel_rfl
theorem c162 : compFn Tryz.prog b162 Tryz.f162 = some a162 := by kernel_rfl
theorem c163 : compFn Tryz.prog b163 Tryz.f163 = some a163 := by kernel_rfl
theorem c164 : compFn Tryz.prog b164 Tryz.f164 = some a164 := by kernel_rfl
theorem c165 : compFn Tryz.prog b165 Tryz.f165 = some a165 := by kernel_rfl
theorem c166 : compFn Tryz.prog b166 Tryz.f166 = some a166 := by kernel_rfl
theorem c167 : compFn Tryz.prog b167 Tryz.f167 = some a167 := by kernel_rfl
theorem c168 : compFn Tryz.prog b168 Tryz.f168 = some a168 := by kernel_rfl
theorem c169 : compFn Tryz.prog b169 Tryz.f169 = some a169 := by kernel_rfl
theorem c170 : compFn Tryz.prog b170 Tryz.f170 = some a170 := by kernel_rfl
theorem c171 : compFn Tryz.prog b171 Tryz.f171 = some a171 := by kernel_rfl
theorem c172 : compFn Tryz.prog b172 Tryz.f172 = some a172 := by kernel_rfl
theorem c173 : compFn Tryz.prog b173 Tryz.f173 = some a173 := by kernel_rfl
theorem c174 : compFn Tryz.prog b174 Tryz.f174 = some a174 := by kernel_rfl
theorem c175 : compFn Tryz.prog b175 Tryz.f175 = some a175 := by kernel_rfl
theorem c176 : compFn Tryz.prog b176 Tryz.f176 = some a176 := by kernel_rfl
theorem c177 : compFn Tryz.prog b177 Tryz.f177 = some a177 := by kernel_rfl
theorem c178 : compFn Tryz.prog b178 Tryz.f178 = some a178 := by kernel_rfl
theorem c179 : compFn Tryz.prog b179 Tryz.f179 = some a179 := by kernel_rfl
theorem c180 : compFn Tryz.prog b180 Tryz.f180 = some a180 := by kernel_rfl
theorem c181 : compFn Tryz.prog b181 Tryz.f181 = some a181 := by kernel_rfl
theorem c182 : compFn Tryz.prog b182 Tryz.f182 = some a182 := by kernel_rfl
theorem c183 : compFn Tryz.prog b183 Tryz.f183 = some a183 := by kernel_rfl
theorem c184 : compFn Tryz.prog b184 Tryz.f184 = some a184 := by kernel_rfl
theorem c185 : compFn Tryz.prog b185 Tryz.f185 = some a185 := by kernel_rfl
theorem c186 : compFn Tryz.prog b186 Tryz.f186 = some a186 := by kernel_rfl
theorem c187 : compFn Tryz.prog b187 Tryz.f187 = some a187 := by kernel_rfl
theorem c188 : compFn Tryz.prog b188 Tryz.f188 = some a188 := by kernel_rfl
theorem c189 : compFn Tryz.prog b189 Tryz.f189 = some a189 := by kernel_rfl
theorem c190 : compFn Tryz.prog b190 Tryz.f190 = some a190 := by kernel_rfl
theorem c191 : compFn Tryz.prog b191 Tryz.f191 = some a191 := by kernel_rfl
theorem c192 : compFn Tryz.prog b192 Tryz.f192 = some a192 := by kernel_rfl
theorem c193 : compFn Tryz.prog b193 Tryz.f193 = some a193 := by kernel_rfl
theorem c194 : compFn Tryz.prog b194 Tryz.f194 = some a194 := by kernel_rfl
theorem c195 : compFn Tryz.prog b195 Tryz.f195 = some a195 := by kernel_rfl
theorem c196 : compFn Tryz.prog b196 Tryz.f196 = some a196 := by kernel_rfl
theorem c197 : compFn Tryz.prog b197 Tryz.f197 = some a197 := by kernel_rfl
theorem c198 : compFn Tryz.prog b198 Tryz.f198 = some a198 := by kernel_rfl
theorem c199 : compFn Tryz.prog b199 Tryz.f199 = some a199 := by kernel_rfl
theorem c200 : compFn Tryz.prog b200 Tryz.f200 = some a200 := by kernel_rfl
theorem c201 : compFn Tryz.prog b201 Tryz.f201 = some a201 := by kernel_rfl
theorem c202 : compFn Tryz.prog b202 Tryz.f202 = some a202 := by kernel_rfl
theorem c203 : compFn Tryz.prog b203 Tryz.f203 = some a203 := by kernel_rfl
theorem c204 : compFn Tryz.prog b204 Tryz.f204 = some a204 := by kernel_rfl
theorem c205 : compFn Tryz.prog b205 Tryz.f205 = some a205 := by kernel_rfl
theorem c206 : compFn Tryz.prog b206 Tryz.f206 = some a206 := by kernel_rfl
theorem c207 : compFn Tryz.prog b207 Tryz.f207 = some a207 := by kernel_rfl
theorem c208 : compFn Tryz.prog b208 Tryz.f208 = some a208 := by kernel_rfl
theorem c209 : compFn Tryz.prog b209 Tryz.f209 = some a209 := by kernel_rfl
theorem c210 : compFn Tryz.prog b210 Tryz.f210 = some a210 := by kernel_rfl
theorem c211 : compFn Tryz.prog b211 Tryz.f211 = some a211 := by kernel_rfl
theorem c212 : compFn Tryz.prog b212 Tryz.f212 = some a212 := by kernel_rfl
theorem c213 : compFn Tryz.prog b213 Tryz.f213 = some a213 := by kernel_rfl
theorem c214 : compFn Tryz.prog b214 Tryz.f214 = some a214 := by kernel_rfl
theorem c215 : compFn Tryz.prog b215 Tryz.f215 = some a215 := by kernel_rfl
theorem c216 : compFn Tryz.prog b216 Tryz.f216 = some a216 := by kernel_rfl
theorem c217 : compFn Tryz.prog b217 Tryz.f217 = some a217 := by kernel_rfl
theorem c218 : compFn Tryz.prog b218 Tryz.f218 = some a218 := by kernel_rfl
end Go.Proofs.YtjmnmaaipcbmnaaGreat.T
