/- The code of the functions that CtxAfters reaches, and that it is compiled from the seat's program. PRINTED by our claimlib.py over our printam.lean. -/
import Derived.Test.YtddabelahpdekaaChecked
import Derived.Test.YtddabelahpdekaaCtxAftersG5
import Derived.KernelRfl
set_option maxRecDepth 100000
set_option linter.unusedVariables false
namespace Go.Proofs.Ytddabelahpdekaa.T
open Go.AM
/-- which of the program's functions a name stands for -/
def Nn (k : Nat) : Nat := bif Nat.beq k 6 then 66 else bif Nat.beq k 8 then 93 else bif Nat.beq k 9 then 76 else bif Nat.beq k 10 then 13 else bif Nat.beq k 11 then 102 else bif Nat.beq k 12 then 98 else bif Nat.beq k 13 then 99 else bif Nat.beq k 14 then 88 else bif Nat.beq k 18 then 77 else bif Nat.beq k 22 then 57 else bif Nat.beq k 25 then 94 else bif Nat.beq k 26 then 95 else bif Nat.beq k 27 then 105 else bif Nat.beq k 28 then 104 else bif Nat.beq k 29 then 103 else bif Nat.beq k 30 then 101 else bif Nat.beq k 31 then 96 else bif Nat.beq k 32 then 97 else bif Nat.beq k 33 then 86 else bif Nat.beq k 34 then 80 else bif Nat.beq k 49 then 79 else bif Nat.beq k 50 then 81 else bif Nat.beq k 51 then 59 else bif Nat.beq k 117 then 32 else bif Nat.beq k 118 then 83 else bif Nat.beq k 119 then 61 else bif Nat.beq k 120 then 40 else bif Nat.beq k 121 then 33 else bif Nat.beq k 122 then 11 else bif Nat.beq k 127 then 38 else bif Nat.beq k 128 then 35 else bif Nat.beq k 129 then 36 else bif Nat.beq k 130 then 92 else bif Nat.beq k 131 then 100 else bif Nat.beq k 132 then 91 else bif Nat.beq k 133 then 78 else bif Nat.beq k 134 then 58 else bif Nat.beq k 135 then 82 else bif Nat.beq k 136 then 60 else bif Nat.beq k 137 then 62 else bif Nat.beq k 138 then 63 else bif Nat.beq k 139 then 42 else bif Nat.beq k 140 then 41 else bif Nat.beq k 141 then 39 else bif Nat.beq k 142 then 37 else bif Nat.beq k 143 then 15 else bif Nat.beq k 146 then 19 else bif Nat.beq k 148 then 16 else bif Nat.beq k 151 then 20 else bif Nat.beq k 152 then 10 else bif Nat.beq k 154 then 4 else 0
/-- tarpaulin/tarpaulinlaw15.CtxAfters -/
def b4 : Nat := 132003130823
theorem c4 : compFn Try.prog b4 Try.f4 = some (c_tarpaulinlaw15_CtxAfters Nn) := by kernel_rfl
/-- tarpaulin/tarpaulinlaw15.awake -/
def b10 : Nat := 41724327718767
def a10 : AFn := ⟨(.seq (.reg [⟨.l 0, none, .mv, [.c (.b false)]⟩])
 (.seq (.reg [⟨.t 47, none, (.call 31), []⟩, ⟨.t 46, none, .mv, [.t 47]⟩, ⟨.t 48, none, (.ext 0), [.t 46]⟩, ⟨.t 49, none, (.ext 1), [.t 46]⟩, ⟨.l 1, none, .mv, [.t 48]⟩, ⟨.l 2, none, .mv, [.t 49]⟩])
 (.seq (.seq (.reg [⟨.t 50, none, .mv, [.l 2]⟩, ⟨.t 51, none, (.un .not), [.t 50]⟩])
 (.cond (.t 51) (.seq (.reg [⟨.l 0, none, .mv, [.c (.b false)]⟩])
 .ret) .skip))
 (.seq (.reg [⟨.t 53, none, .mv, [.l 1]⟩, ⟨.t 54, none, .nilchk, [.t 53]⟩, ⟨.t 55, none, (.fad 1), [.t 54]⟩, ⟨.t 56, none, (.ld none), [.t 55]⟩, ⟨.t 57, none, (.call 15), [.t 56, .c (.i .i64 0)]⟩, ⟨.t 52, none, .mv, [.t 57]⟩, ⟨.t 58, none, (.ext 0), [.t 52]⟩, ⟨.t 59, none, (.ext 1), [.t 52]⟩, ⟨.t 60, none, (.ext 2), [.t 52]⟩, ⟨.l 3, none, .mv, [.t 58]⟩, ⟨.t 4, none, .mv, [.t 59]⟩, ⟨.l 5, none, .mv, [.t 60]⟩])
 (.seq (.reg [⟨.t 62, none, .mv, [.l 1]⟩, ⟨.t 63, none, .nilchk, [.t 62]⟩, ⟨.t 64, none, (.fad 1), [.t 63]⟩, ⟨.t 65, none, (.ld none), [.t 64]⟩, ⟨.t 66, none, .mv, [.l 3]⟩, ⟨.t 67, none, (.call 21), [.t 65, .t 66, .c (.i .i64 20), .c (.i .i64 5)]⟩, ⟨.t 61, none, .mv, [.t 67]⟩, ⟨.t 68, none, (.ext 0), [.t 61]⟩, ⟨.t 69, none, (.ext 1), [.t 61]⟩, ⟨.t 70, none, (.ext 2), [.t 61]⟩, ⟨.l 6, none, .mv, [.t 68]⟩, ⟨.t 7, none, .mv, [.t 69]⟩, ⟨.l 8, none, .mv, [.t 70]⟩])
 (.seq (.reg [⟨.t 72, none, .mv, [.l 1]⟩, ⟨.t 73, none, .nilchk, [.t 72]⟩, ⟨.t 74, none, (.fad 1), [.t 73]⟩, ⟨.t 75, none, (.ld none), [.t 74]⟩, ⟨.t 76, none, .mv, [.l 6]⟩, ⟨.t 77, none, (.call 14), [.t 75, .t 76]⟩, ⟨.t 71, none, .mv, [.t 77]⟩, ⟨.t 78, none, (.ext 0), [.t 71]⟩, ⟨.t 79, none, (.ext 1), [.t 71]⟩, ⟨.l 9, none, .mv, [.t 78]⟩, ⟨.l 10, none, .mv, [.t 79]⟩])
 (.seq (.reg [⟨.t 81, none, .mv, [.l 1]⟩, ⟨.t 82, none, .nilchk, [.t 81]⟩, ⟨.t 83, none, (.fad 1), [.t 82]⟩, ⟨.t 84, none, (.ld none), [.t 83]⟩, ⟨.t 85, none, .mv, [.l 9]⟩, ⟨.t 86, none, (.call 15), [.t 84, .t 85]⟩, ⟨.t 80, none, .mv, [.t 86]⟩, ⟨.t 87, none, (.ext 0), [.t 80]⟩, ⟨.t 88, none, (.ext 1), [.t 80]⟩, ⟨.t 89, none, (.ext 2), [.t 80]⟩, ⟨.l 11, none, .mv, [.t 87]⟩, ⟨.t 12, none, .mv, [.t 88]⟩, ⟨.l 13, none, .mv, [.t 89]⟩])
 (.seq (.reg [⟨.t 91, none, .mv, [.l 1]⟩, ⟨.t 92, none, .nilchk, [.t 91]⟩, ⟨.t 93, none, (.fad 1), [.t 92]⟩, ⟨.t 94, none, (.ld none), [.t 93]⟩, ⟨.t 95, none, .mv, [.l 6]⟩, ⟨.t 96, none, (.call 19), [.t 94, .t 95, .c (.i .i64 3)]⟩, ⟨.t 90, none, .mv, [.t 96]⟩, ⟨.t 97, none, (.ext 0), [.t 90]⟩, ⟨.t 98, none, (.ext 1), [.t 90]⟩, ⟨.t 99, none, (.ext 2), [.t 90]⟩, ⟨.l 14, none, .mv, [.t 97]⟩, ⟨.t 15, none, .mv, [.t 98]⟩, ⟨.l 16, none, .mv, [.t 99]⟩])
 (.seq (.reg [⟨.t 101, none, .mv, [.l 1]⟩, ⟨.t 102, none, .nilchk, [.t 101]⟩, ⟨.t 103, none, (.fad 1), [.t 102]⟩, ⟨.t 104, none, (.ld none), [.t 103]⟩, ⟨.t 105, none, .mv, [.l 6]⟩, ⟨.t 106, none, (.call 21), [.t 104, .t 105, .c (.i .i64 50), .c (.i .i64 5)]⟩, ⟨.t 100, none, .mv, [.t 106]⟩, ⟨.t 107, none, (.ext 0), [.t 100]⟩, ⟨.t 108, none, (.ext 1), [.t 100]⟩, ⟨.t 109, none, (.ext 2), [.t 100]⟩, ⟨.l 17, none, .mv, [.t 107]⟩, ⟨.t 18, none, .mv, [.t 108]⟩, ⟨.l 19, none, .mv, [.t 109]⟩])
 (.seq (.reg [⟨.t 111, none, .mv, [.l 1]⟩, ⟨.t 112, none, .nilchk, [.t 111]⟩, ⟨.t 113, none, (.fad 1), [.t 112]⟩, ⟨.t 114, none, (.ld none), [.t 113]⟩, ⟨.t 115, none, .mv, [.l 17]⟩, ⟨.t 116, none, (.call 25), [.t 114, .t 115]⟩, ⟨.t 110, none, .mv, [.t 116]⟩, ⟨.t 117, none, (.ext 0), [.t 110]⟩, ⟨.t 118, none, (.ext 1), [.t 110]⟩, ⟨.t 119, none, (.ext 2), [.t 110]⟩, ⟨.l 20, none, .mv, [.t 117]⟩, ⟨.l 21, none, .mv, [.t 118]⟩, ⟨.t 22, none, .mv, [.t 119]⟩])
 (.seq (.reg [⟨.t 121, none, .mv, [.l 1]⟩, ⟨.t 122, none, .nilchk, [.t 121]⟩, ⟨.t 123, none, (.fad 1), [.t 122]⟩, ⟨.t 124, none, (.ld none), [.t 123]⟩, ⟨.t 125, none, .mv, [.l 3]⟩, ⟨.t 126, none, (.call 16), [.t 124, .t 125, .c (.i .i64 9)]⟩, ⟨.t 120, none, .mv, [.t 126]⟩, ⟨.t 127, none, (.ext 0), [.t 120]⟩, ⟨.t 128, none, (.ext 1), [.t 120]⟩, ⟨.t 129, none, (.ext 2), [.t 120]⟩, ⟨.l 23, none, .mv, [.t 127]⟩, ⟨.l 24, none, .mv, [.t 128]⟩, ⟨.l 25, none, .mv, [.t 129]⟩])
 (.seq (.reg [⟨.t 131, none, .mv, [.l 1]⟩, ⟨.t 132, none, .nilchk, [.t 131]⟩, ⟨.t 133, none, (.fad 1), [.t 132]⟩, ⟨.t 134, none, (.ld none), [.t 133]⟩, ⟨.t 135, none, (.call 16), [.t 134, .c (.i .i64 0), .c (.i .i64 1)]⟩, ⟨.t 130, none, .mv, [.t 135]⟩, ⟨.t 136, none, (.ext 0), [.t 130]⟩, ⟨.t 137, none, (.ext 1), [.t 130]⟩, ⟨.t 138, none, (.ext 2), [.t 130]⟩, ⟨.t 26, none, .mv, [.t 136]⟩, ⟨.t 27, none, .mv, [.t 137]⟩, ⟨.l 28, none, .mv, [.t 138]⟩])
 (.seq (.reg [⟨.t 140, none, .mv, [.l 1]⟩, ⟨.t 141, none, .nilchk, [.t 140]⟩, ⟨.t 142, none, (.fad 1), [.t 141]⟩, ⟨.t 143, none, (.ld none), [.t 142]⟩, ⟨.t 144, none, .mv, [.l 11]⟩, ⟨.t 145, none, (.call 17), [.t 143, .t 144]⟩, ⟨.t 139, none, .mv, [.t 145]⟩, ⟨.t 146, none, (.ext 0), [.t 139]⟩, ⟨.t 147, none, (.ext 1), [.t 139]⟩, ⟨.l 29, none, .mv, [.t 146]⟩, ⟨.t 30, none, .mv, [.t 147]⟩])
 (.seq (.reg [⟨.t 149, none, .mv, [.l 1]⟩, ⟨.t 150, none, .nilchk, [.t 149]⟩, ⟨.t 151, none, (.fad 1), [.t 150]⟩, ⟨.t 152, none, (.ld none), [.t 151]⟩, ⟨.t 153, none, .mv, [.l 6]⟩, ⟨.t 154, none, (.call 18), [.t 152, .t 153]⟩, ⟨.t 148, none, .mv, [.t 154]⟩, ⟨.t 155, none, (.ext 0), [.t 148]⟩, ⟨.t 156, none, (.ext 1), [.t 148]⟩, ⟨.l 31, none, .mv, [.t 155]⟩, ⟨.t 32, none, .mv, [.t 156]⟩])
 (.seq (.reg [⟨.t 158, none, .mv, [.l 1]⟩, ⟨.t 159, none, .nilchk, [.t 158]⟩, ⟨.t 160, none, (.fad 1), [.t 159]⟩, ⟨.t 161, none, (.ld none), [.t 160]⟩, ⟨.t 162, none, .mv, [.l 14]⟩, ⟨.t 163, none, (.call 20), [.t 161, .t 162]⟩, ⟨.t 157, none, .mv, [.t 163]⟩, ⟨.t 164, none, (.ext 0), [.t 157]⟩, ⟨.t 165, none, (.ext 1), [.t 157]⟩, ⟨.l 33, none, .mv, [.t 164]⟩, ⟨.t 34, none, .mv, [.t 165]⟩])
 (.seq (.reg [⟨.t 167, none, .mv, [.l 1]⟩, ⟨.t 168, none, .nilchk, [.t 167]⟩, ⟨.t 169, none, (.fad 0), [.t 168]⟩, ⟨.t 170, none, (.ld none), [.t 169]⟩, ⟨.t 171, none, (.call 30), [.t 170]⟩, ⟨.t 166, none, .mv, [.t 171]⟩, ⟨.t 172, none, (.ext 0), [.t 166]⟩, ⟨.t 173, none, (.ext 1), [.t 166]⟩, ⟨.t 35, none, .mv, [.t 172]⟩, ⟨.l 36, none, .mv, [.t 173]⟩])
 (.seq (.reg [⟨.t 175, none, .mv, [.l 1]⟩, ⟨.t 176, none, .nilchk, [.t 175]⟩, ⟨.t 177, none, (.fad 1), [.t 176]⟩, ⟨.t 178, none, (.ld none), [.t 177]⟩, ⟨.t 179, none, (.call 21), [.t 178, .c (.i .i64 0), .c (.i .i64 3), .c (.i .i64 5)]⟩, ⟨.t 174, none, .mv, [.t 179]⟩, ⟨.t 180, none, (.ext 0), [.t 174]⟩, ⟨.t 181, none, (.ext 1), [.t 174]⟩, ⟨.t 182, none, (.ext 2), [.t 174]⟩, ⟨.l 37, none, .mv, [.t 180]⟩, ⟨.l 38, none, .mv, [.t 181]⟩, ⟨.l 39, none, .mv, [.t 182]⟩])
 (.seq (.reg [⟨.t 184, none, .mv, [.l 1]⟩, ⟨.t 185, none, .nilchk, [.t 184]⟩, ⟨.t 186, none, (.fad 1), [.t 185]⟩, ⟨.t 187, none, (.ld none), [.t 186]⟩, ⟨.t 188, none, .mv, [.l 37]⟩, ⟨.t 189, none, (.call 17), [.t 187, .t 188]⟩, ⟨.t 183, none, .mv, [.t 189]⟩, ⟨.t 190, none, (.ext 0), [.t 183]⟩, ⟨.t 191, none, (.ext 1), [.t 183]⟩, ⟨.l 40, none, .mv, [.t 190]⟩, ⟨.t 41, none, .mv, [.t 191]⟩])
 (.seq (.reg [⟨.l 42, none, .mv, [.c (.p none)]⟩])
 (.seq (.reg [⟨.t 193, none, .mv, [.l 42]⟩, ⟨.t 194, none, (.call 15), [.t 193, .c (.i .i64 0)]⟩, ⟨.t 192, none, .mv, [.t 194]⟩, ⟨.t 195, none, (.ext 0), [.t 192]⟩, ⟨.t 196, none, (.ext 1), [.t 192]⟩, ⟨.t 197, none, (.ext 2), [.t 192]⟩, ⟨.t 43, none, .mv, [.t 195]⟩, ⟨.t 44, none, .mv, [.t 196]⟩, ⟨.l 45, none, .mv, [.t 197]⟩])
 (.seq (.reg [⟨.t 198, none, .mv, [.l 5]⟩, ⟨.t 199, none, (.bin .eql), [.t 198, .c (.i .i64 0)]⟩, ⟨.t 200, none, .mv, [.t 199]⟩, ⟨.t 201, (some (.t 200, true)), .mv, [.l 3]⟩, ⟨.t 202, (some (.t 200, true)), (.bin .eql), [.t 201, .c (.i .i64 1)]⟩, ⟨.t 203, none, .pick, [.t 200, .t 202, .c (.b false)]⟩, ⟨.t 204, none, .mv, [.t 203]⟩, ⟨.t 205, (some (.t 204, true)), .mv, [.l 8]⟩, ⟨.t 206, (some (.t 204, true)), (.bin .eql), [.t 205, .c (.i .i64 0)]⟩, ⟨.t 207, none, .pick, [.t 204, .t 206, .c (.b false)]⟩, ⟨.t 208, none, .mv, [.t 207]⟩, ⟨.t 209, (some (.t 208, true)), .mv, [.l 6]⟩, ⟨.t 210, (some (.t 208, true)), (.bin .eql), [.t 209, .c (.i .i64 2)]⟩, ⟨.t 211, none, .pick, [.t 208, .t 210, .c (.b false)]⟩, ⟨.t 212, none, .mv, [.t 211]⟩, ⟨.t 213, (some (.t 212, true)), .mv, [.l 10]⟩, ⟨.t 214, (some (.t 212, true)), (.bin .eql), [.t 213, .c (.i .i64 0)]⟩, ⟨.t 215, none, .pick, [.t 212, .t 214, .c (.b false)]⟩, ⟨.t 216, none, .mv, [.t 215]⟩, ⟨.t 217, (some (.t 216, true)), .mv, [.l 13]⟩, ⟨.t 218, (some (.t 216, true)), (.bin .eql), [.t 217, .c (.i .i64 0)]⟩, ⟨.t 219, none, .pick, [.t 216, .t 218, .c (.b false)]⟩, ⟨.t 220, none, .mv, [.t 219]⟩, ⟨.t 221, (some (.t 220, true)), .mv, [.l 16]⟩, ⟨.t 222, (some (.t 220, true)), (.bin .eql), [.t 221, .c (.i .i64 0)]⟩, ⟨.t 223, none, .pick, [.t 220, .t 222, .c (.b false)]⟩, ⟨.t 224, none, .mv, [.t 223]⟩, ⟨.t 225, (some (.t 224, true)), .mv, [.l 19]⟩, ⟨.t 226, (some (.t 224, true)), (.bin .eql), [.t 225, .c (.i .i64 0)]⟩, ⟨.t 227, none, .pick, [.t 224, .t 226, .c (.b false)]⟩, ⟨.t 228, none, .mv, [.t 227]⟩, ⟨.t 229, (some (.t 228, true)), .mv, [.l 20]⟩, ⟨.t 230, (some (.t 228, true)), (.bin .eql), [.t 229, .c (.i .i64 20)]⟩, ⟨.t 231, none, .pick, [.t 228, .t 230, .c (.b false)]⟩, ⟨.t 232, none, .mv, [.t 231]⟩, ⟨.t 233, (some (.t 232, true)), .mv, [.l 21]⟩, ⟨.t 234, none, .pick, [.t 232, .t 233, .c (.b false)]⟩, ⟨.t 235, none, .mv, [.t 234]⟩, ⟨.t 236, (some (.t 235, true)), .mv, [.l 25]⟩, ⟨.t 237, (some (.t 235, true)), (.bin .eql), [.t 236, .c (.i .i64 0)]⟩, ⟨.t 238, none, .pick, [.t 235, .t 237, .c (.b false)]⟩, ⟨.t 239, none, .mv, [.t 238]⟩, ⟨.t 240, (some (.t 239, true)), .mv, [.l 23]⟩, ⟨.t 241, (some (.t 239, true)), .lenSl, [.t 240]⟩, ⟨.t 242, (some (.t 239, true)), (.bin .eql), [.t 241, .c (.i .i64 3)]⟩, ⟨.t 243, none, .pick, [.t 239, .t 242, .c (.b false)]⟩, ⟨.t 244, none, .mv, [.t 243]⟩, ⟨.t 245, (some (.t 244, true)), .mv, [.l 23]⟩, ⟨.t 246, (some (.t 244, true)), (.iad 4), [.t 245, .c (.i .i64 0)]⟩, ⟨.t 247, (some (.t 244, true)), (.fad 0), [.t 246]⟩, ⟨.t 248, (some (.t 244, true)), (.ld none), [.t 247]⟩, ⟨.t 249, (some (.t 244, true)), .mv, [.l 3]⟩, ⟨.t 250, (some (.t 244, true)), (.bin .eql), [.t 248, .t 249]⟩, ⟨.t 251, none, .pick, [.t 244, .t 250, .c (.b false)]⟩, ⟨.t 252, none, .mv, [.t 251]⟩, ⟨.t 253, (some (.t 252, true)), .mv, [.l 23]⟩, ⟨.t 254, (some (.t 252, true)), (.iad 4), [.t 253, .c (.i .i64 1)]⟩, ⟨.t 255, (some (.t 252, true)), (.fad 0), [.t 254]⟩, ⟨.t 256, (some (.t 252, true)), (.ld none), [.t 255]⟩, ⟨.t 257, (some (.t 252, true)), .mv, [.l 6]⟩, ⟨.t 258, (some (.t 252, true)), (.bin .eql), [.t 256, .t 257]⟩, ⟨.t 259, none, .pick, [.t 252, .t 258, .c (.b false)]⟩, ⟨.t 260, none, .mv, [.t 259]⟩, ⟨.t 261, (some (.t 260, true)), .mv, [.l 23]⟩, ⟨.t 262, (some (.t 260, true)), (.iad 4), [.t 261, .c (.i .i64 2)]⟩, ⟨.t 263, (some (.t 260, true)), (.fad 0), [.t 262]⟩, ⟨.t 264, (some (.t 260, true)), (.ld none), [.t 263]⟩, ⟨.t 265, (some (.t 260, true)), .mv, [.l 17]⟩, ⟨.t 266, (some (.t 260, true)), (.bin .eql), [.t 264, .t 265]⟩, ⟨.t 267, none, .pick, [.t 260, .t 266, .c (.b false)]⟩, ⟨.t 268, none, .mv, [.t 267]⟩, ⟨.t 269, (some (.t 268, true)), .mv, [.l 23]⟩, ⟨.t 270, (some (.t 268, true)), (.iad 4), [.t 269, .c (.i .i64 2)]⟩, ⟨.t 271, (some (.t 268, true)), (.fad 2), [.t 270]⟩, ⟨.t 272, (some (.t 268, true)), (.ld none), [.t 271]⟩, ⟨.t 273, (some (.t 268, true)), (.bin .eql), [.t 272, .c (.i .i64 9)]⟩, ⟨.t 274, none, .pick, [.t 268, .t 273, .c (.b false)]⟩, ⟨.t 275, none, .mv, [.t 274]⟩, ⟨.t 276, (some (.t 275, true)), .mv, [.l 24]⟩, ⟨.t 277, (some (.t 275, true)), .lenSl, [.t 276]⟩, ⟨.t 278, (some (.t 275, true)), (.bin .eql), [.t 277, .c (.i .i64 1)]⟩, ⟨.t 279, none, .pick, [.t 275, .t 278, .c (.b false)]⟩, ⟨.t 280, none, .mv, [.t 279]⟩, ⟨.t 281, (some (.t 280, true)), .mv, [.l 24]⟩, ⟨.t 282, (some (.t 280, true)), (.iad 2), [.t 281, .c (.i .i64 0)]⟩, ⟨.t 283, (some (.t 280, true)), (.ld (some 2)), [.t 282]⟩, ⟨.t 284, (some (.t 280, true)), .mv, [.l 14]⟩, ⟨.t 285, (some (.t 280, true)), (.build [(.i .i64 0), (.i .i64 0)] [(0, 1), (1, 1)]), [.t 284, .c (.i .i64 3)]⟩, ⟨.t 286, (some (.t 280, true)), (.eq false (.agg [(0, 1), (1, 1)])), [.t 283, .t 285]⟩, ⟨.t 287, none, .pick, [.t 280, .t 286, .c (.b false)]⟩, ⟨.t 288, none, .mv, [.t 287]⟩, ⟨.t 289, (some (.t 288, true)), .mv, [.l 28]⟩, ⟨.t 290, (some (.t 288, true)), (.bin .eql), [.t 289, .c (.i .i64 1)]⟩, ⟨.t 291, none, .pick, [.t 288, .t 290, .c (.b false)]⟩, ⟨.t 292, none, .mv, [.t 291]⟩, ⟨.t 293, (some (.t 292, true)), .mv, [.l 29]⟩, ⟨.t 294, (some (.t 292, true)), (.bin .eql), [.t 293, .c (.i .i64 0)]⟩, ⟨.t 295, none, .pick, [.t 292, .t 294, .c (.b false)]⟩, ⟨.t 296, none, .mv, [.t 295]⟩, ⟨.t 297, (some (.t 296, true)), .mv, [.l 31]⟩, ⟨.t 298, (some (.t 296, true)), (.bin .eql), [.t 297, .c (.i .i64 9)]⟩, ⟨.t 299, none, .pick, [.t 296, .t 298, .c (.b false)]⟩, ⟨.t 300, none, .mv, [.t 299]⟩, ⟨.t 301, (some (.t 300, true)), .mv, [.l 33]⟩, ⟨.t 302, (some (.t 300, true)), (.un .not), [.t 301]⟩, ⟨.t 303, none, .pick, [.t 300, .t 302, .c (.b false)]⟩, ⟨.t 304, none, .mv, [.t 303]⟩, ⟨.t 305, (some (.t 304, true)), .mv, [.l 36]⟩, ⟨.t 306, (some (.t 304, true)), (.un .not), [.t 305]⟩, ⟨.t 307, none, .pick, [.t 304, .t 306, .c (.b false)]⟩, ⟨.t 308, none, .mv, [.t 307]⟩, ⟨.t 309, (some (.t 308, true)), .mv, [.l 39]⟩, ⟨.t 310, (some (.t 308, true)), (.bin .eql), [.t 309, .c (.i .i64 0)]⟩, ⟨.t 311, none, .pick, [.t 308, .t 310, .c (.b false)]⟩, ⟨.t 312, none, .mv, [.t 311]⟩, ⟨.t 313, (some (.t 312, true)), .mv, [.l 38]⟩, ⟨.t 314, (some (.t 312, true)), .lenSl, [.t 313]⟩, ⟨.t 315, (some (.t 312, true)), (.bin .eql), [.t 314, .c (.i .i64 1)]⟩, ⟨.t 316, none, .pick, [.t 312, .t 315, .c (.b false)]⟩, ⟨.t 317, none, .mv, [.t 316]⟩, ⟨.t 318, (some (.t 317, true)), .mv, [.l 40]⟩, ⟨.t 319, (some (.t 317, true)), (.bin .eql), [.t 318, .c (.i .i64 2)]⟩, ⟨.t 320, none, .pick, [.t 317, .t 319, .c (.b false)]⟩, ⟨.t 321, none, .mv, [.t 320]⟩, ⟨.t 322, (some (.t 321, true)), .mv, [.l 45]⟩, ⟨.t 323, (some (.t 321, true)), (.bin .eql), [.t 322, .c (.i .i64 4)]⟩, ⟨.t 324, none, .pick, [.t 321, .t 323, .c (.b false)]⟩, ⟨.l 0, none, .mv, [.t 324]⟩])
 .ret))))))))))))))))))))), [.tmp (.l 0)]⟩
theorem c10 : compFn Try.prog b10 Try.f10 = some a10 := by kernel_rfl
/-- tarpaulin/ctx.New -/
def b11 : Nat := 13
theorem c11 : compFn Try.prog b11 Try.f11 = some (c_ctx_New Nn) := by kernel_rfl
/-- tarpaulin/timer.New -/
def b12 : Nat := 1
def a12 : AFn := ⟨(.seq (.reg [⟨.l 0, none, .mv, [.c (.p none)]⟩])
 (.seq (.reg [⟨.t 1, none, (.call 34), []⟩, ⟨.t 2, none, (.build [(.sl none 0 0 0), (.p none), (.i .i64 0)] [(1, 1)]), [.t 1]⟩, ⟨.t 3, none, .box, [.t 2]⟩, ⟨.l 0, none, .mv, [.t 3]⟩])
 .ret)), [.tmp (.l 0)]⟩
theorem c12 : compFn Try.prog b12 Try.f12 = some a12 := by kernel_rfl
/-- tarpaulin/tarpaulinalike.Round -/
def b13 : Nat := 19
theorem c13 : compFn Try.prog b13 Try.f13 = some (c_tarpaulinalike_Round Nn) := by kernel_rfl
/-- (*tarpaulin/ctx.Set).Without -/
def b14 : Nat := 115
def a14 : AFn := ⟨(.seq (.reg [⟨.l 4, none, .mv, [.c (.i .i64 0)]⟩, ⟨.l 5, none, .mv, [.c (.i .i64 0)]⟩])
 (.seq (.seq (.reg [⟨.t 7, none, .mv, [.l 0]⟩, ⟨.t 8, none, .mv, [.l 1]⟩, ⟨.t 9, none, (.call 35), [.t 7, .t 8]⟩, ⟨.l 6, none, .mv, [.t 9]⟩])
 (.seq (.reg [⟨.t 10, none, .mv, [.l 6]⟩, ⟨.t 11, none, (.bin .neq), [.t 10, .c (.i .i64 0)]⟩])
 (.cond (.t 11) (.seq (.reg [⟨.t 12, none, .mv, [.l 6]⟩, ⟨.l 4, none, .mv, [.c (.i .i64 0)]⟩, ⟨.l 5, none, .mv, [.t 12]⟩])
 .ret) .skip)))
 (.seq (.reg [⟨.t 13, none, .mv, [.l 0]⟩, ⟨.t 14, none, (.build [(.i .i64 0), (.b false), (.p none), (.i .i64 0), (.i .i64 0), (.i .i64 0), (.b false), (.b false), (.i .i64 0)] [(1, 1)]), [.c (.b true)]⟩, ⟨.t 15, none, .mv, [.l 0]⟩, ⟨.t 16, none, .nilchk, [.t 15]⟩, ⟨.t 17, none, (.fad 2), [.t 16]⟩, ⟨.t 18, none, (.ld none), [.t 17]⟩, ⟨.t 19, none, .mv, [.l 1]⟩, ⟨.t 20, none, (.iad 9), [.t 18, .t 19]⟩, ⟨.t 21, none, (.fad 0), [.t 20]⟩, ⟨.t 22, none, (.ld none), [.t 21]⟩, ⟨.t 23, none, (.call 33), [.t 13, .t 14, .t 22]⟩, ⟨.l 4, none, .mv, [.t 23]⟩, ⟨.l 5, none, .mv, [.c (.i .i64 0)]⟩])
 .ret))), [.tmp (.l 4), .tmp (.l 5)]⟩
theorem c14 : compFn Try.prog b14 Try.f14 = some a14 := by kernel_rfl
/-- (*tarpaulin/ctx.Set).Cancels -/
def b15 : Nat := 1011
theorem c15 : compFn Try.prog b15 Try.f15 = some (c_ctx_Set_Cancels Nn) := by kernel_rfl
/-- (*tarpaulin/ctx.Set).Cancel -/
def b16 : Nat := 1991
theorem c16 : compFn Try.prog b16 Try.f16 = some (c_ctx_Set_Cancel Nn) := by kernel_rfl
/-- (*tarpaulin/ctx.Set).Err -/
def b17 : Nat := 51
def a17 : AFn := ⟨(.seq (.reg [⟨.l 4, none, .mv, [.c (.i .i64 0)]⟩, ⟨.l 5, none, .mv, [.c (.i .i64 0)]⟩])
 (.seq (.seq (.reg [⟨.t 6, none, .mv, [.l 0]⟩, ⟨.t 7, none, .mv, [.l 1]⟩, ⟨.t 8, none, (.call 38), [.t 6, .t 7]⟩, ⟨.t 9, none, (.un .not), [.t 8]⟩])
 (.cond (.t 9) (.seq (.reg [⟨.l 4, none, .mv, [.c (.i .i64 0)]⟩, ⟨.l 5, none, .mv, [.c (.i .i64 4)]⟩])
 .ret) .skip))
 (.seq (.reg [⟨.t 10, none, .mv, [.l 0]⟩, ⟨.t 11, none, .nilchk, [.t 10]⟩, ⟨.t 12, none, (.fad 2), [.t 11]⟩, ⟨.t 13, none, (.ld none), [.t 12]⟩, ⟨.t 14, none, .mv, [.l 1]⟩, ⟨.t 15, none, (.iad 9), [.t 13, .t 14]⟩, ⟨.t 16, none, (.fad 3), [.t 15]⟩, ⟨.t 17, none, (.ld none), [.t 16]⟩, ⟨.l 4, none, .mv, [.t 17]⟩, ⟨.l 5, none, .mv, [.c (.i .i64 0)]⟩])
 .ret))), [.tmp (.l 4), .tmp (.l 5)]⟩
theorem c17 : compFn Try.prog b17 Try.f17 = some a17 := by kernel_rfl
/-- (*tarpaulin/ctx.Set).Cause -/
def b18 : Nat := 51
def a18 : AFn := ⟨(.seq (.reg [⟨.l 4, none, .mv, [.c (.i .i64 0)]⟩, ⟨.l 5, none, .mv, [.c (.i .i64 0)]⟩])
 (.seq (.seq (.reg [⟨.t 6, none, .mv, [.l 0]⟩, ⟨.t 7, none, .mv, [.l 1]⟩, ⟨.t 8, none, (.call 38), [.t 6, .t 7]⟩, ⟨.t 9, none, (.un .not), [.t 8]⟩])
 (.cond (.t 9) (.seq (.reg [⟨.l 4, none, .mv, [.c (.i .i64 0)]⟩, ⟨.l 5, none, .mv, [.c (.i .i64 4)]⟩])
 .ret) .skip))
 (.seq (.reg [⟨.t 10, none, .mv, [.l 0]⟩, ⟨.t 11, none, .nilchk, [.t 10]⟩, ⟨.t 12, none, (.fad 2), [.t 11]⟩, ⟨.t 13, none, (.ld none), [.t 12]⟩, ⟨.t 14, none, .mv, [.l 1]⟩, ⟨.t 15, none, (.iad 9), [.t 13, .t 14]⟩, ⟨.t 16, none, (.fad 4), [.t 15]⟩, ⟨.t 17, none, (.ld none), [.t 16]⟩, ⟨.l 4, none, .mv, [.t 17]⟩, ⟨.l 5, none, .mv, [.c (.i .i64 0)]⟩])
 .ret))), [.tmp (.l 4), .tmp (.l 5)]⟩
theorem c18 : compFn Try.prog b18 Try.f18 = some a18 := by kernel_rfl
/-- (*tarpaulin/ctx.Set).After -/
def b19 : Nat := 3015
theorem c19 : compFn Try.prog b19 Try.f19 = some (c_ctx_Set_After Nn) := by kernel_rfl
/-- (*tarpaulin/ctx.Set).Unafter -/
def b20 : Nat := 243
theorem c20 : compFn Try.prog b20 Try.f20 = some (c_ctx_Set_Unafter Nn) := by kernel_rfl
/-- (*tarpaulin/ctx.Set).Deadline -/
def b21 : Nat := 130831
def a21 : AFn := ⟨(.seq (.reg [⟨.l 8, none, .mv, [.c (.i .i64 0)]⟩, ⟨.l 9, none, .mv, [.c (.sl none 0 0 0)]⟩, ⟨.l 10, none, .mv, [.c (.i .i64 0)]⟩])
 (.seq (.seq (.reg [⟨.t 17, none, .mv, [.l 0]⟩, ⟨.t 18, none, .mv, [.l 1]⟩, ⟨.t 19, none, (.call 35), [.t 17, .t 18]⟩, ⟨.l 11, none, .mv, [.t 19]⟩])
 (.seq (.reg [⟨.t 20, none, .mv, [.l 11]⟩, ⟨.t 21, none, (.bin .neq), [.t 20, .c (.i .i64 0)]⟩])
 (.cond (.t 21) (.seq (.reg [⟨.t 22, none, .mv, [.l 11]⟩, ⟨.l 8, none, .mv, [.c (.i .i64 0)]⟩, ⟨.l 9, none, .mv, [.c (.sl none 0 0 0)]⟩, ⟨.l 10, none, .mv, [.t 22]⟩])
 .ret) .skip)))
 (.seq (.reg [⟨.t 23, none, .mv, [.l 2]⟩, ⟨.t 24, none, (.call 43), [.t 23, .c (.i .i64 0)]⟩, ⟨.t 25, none, .max, [.t 24, .c (.i .i64 0)]⟩, ⟨.l 2, none, .mv, [.t 25]⟩])
 (.seq (.reg [⟨.t 26, none, .mv, [.l 0]⟩, ⟨.t 27, none, .nilchk, [.t 26]⟩, ⟨.t 28, none, (.fad 2), [.t 27]⟩, ⟨.t 29, none, (.ld none), [.t 28]⟩, ⟨.t 30, none, .mv, [.l 1]⟩, ⟨.t 31, none, (.iad 9), [.t 29, .t 30]⟩, ⟨.t 32, none, (.ld (some 9)), [.t 31]⟩, ⟨.l 12, none, (.alloc [(.i .i64 0), (.b false), (.p none), (.i .i64 0), (.i .i64 0), (.i .i64 0), (.b false), (.b false), (.i .i64 0)]), []⟩, ⟨.no, none, (.st 9), [.l 12, .t 32]⟩])
 (.seq (.seq (.reg [⟨.t 33, none, (.fad 6), [.l 12]⟩, ⟨.t 34, none, (.ld none), [.t 33]⟩, ⟨.t 35, none, .mv, [.t 34]⟩, ⟨.t 36, (some (.t 35, true)), (.fad 5), [.l 12]⟩, ⟨.t 37, (some (.t 35, true)), (.ld none), [.t 36]⟩, ⟨.t 38, (some (.t 35, true)), .mv, [.l 2]⟩, ⟨.t 39, (some (.t 35, true)), (.bin .leq), [.t 37, .t 38]⟩, ⟨.t 40, none, .pick, [.t 35, .t 39, .c (.b false)]⟩])
 (.cond (.t 40) (.seq (.reg [⟨.t 41, none, .mv, [.l 0]⟩, ⟨.t 42, none, .mv, [.l 1]⟩, ⟨.t 43, none, (.call 15), [.t 41, .t 42]⟩, ⟨.t 44, none, (.ext 0), [.t 43]⟩, ⟨.t 45, none, (.ext 1), [.t 43]⟩, ⟨.t 46, none, (.ext 2), [.t 43]⟩, ⟨.l 8, none, .mv, [.t 44]⟩, ⟨.l 9, none, .mv, [.t 45]⟩, ⟨.l 10, none, .mv, [.t 46]⟩])
 .ret) .skip))
 (.seq (.regD [⟨.t 47, none, .mv, [.l 0]⟩, ⟨.t 48, none, (.call 36), []⟩, ⟨.t 49, none, .mv, [.l 2]⟩, ⟨.t 50, none, (.build [(.i .i64 0), (.b false), (.p none), (.i .i64 0), (.i .i64 0), (.i .i64 0), (.b false), (.b false), (.i .i64 0)] [(2, 1), (5, 1), (6, 1), (7, 1)]), [.t 48, .t 49, .c (.b true), .c (.b true)]⟩, ⟨.t 51, none, (.fad 0), [.l 12]⟩, ⟨.t 52, none, (.ld none), [.t 51]⟩, ⟨.t 53, none, (.call 33), [.t 47, .t 50, .t 52]⟩, ⟨.l 13, none, .mv, [.t 53]⟩] [(5, 0)])
 (.seq (.seq (.reg [⟨.t 54, none, .mv, [.l 0]⟩, ⟨.t 55, none, .mv, [.l 13]⟩, ⟨.t 56, none, .mv, [.l 1]⟩, ⟨.t 57, none, (.call 37), [.t 54, .t 55, .t 56]⟩, ⟨.l 14, none, .mv, [.t 57]⟩])
 (.block 0 (.seq (.reg [⟨.t 59, none, .mv, [.l 14]⟩, ⟨.t 60, none, .lenSl, [.t 59]⟩, ⟨.t 61, none, (.bin .gtr), [.t 60, .c (.i .i64 0)]⟩, ⟨.t 58, none, .mv, [.t 61]⟩])
 (.cond (.t 58) (.seq (.reg [⟨.t 62, none, .mv, [.l 13]⟩, ⟨.t 63, none, .mv, [.l 14]⟩, ⟨.l 8, none, .mv, [.t 62]⟩, ⟨.l 9, none, .mv, [.t 63]⟩, ⟨.l 10, none, .mv, [.c (.i .i64 0)]⟩])
 .ret) (.seq (.reg [⟨.t 65, none, .mv, [.l 2]⟩, ⟨.t 66, none, .mv, [.l 3]⟩, ⟨.t 67, none, (.bin .leq), [.t 65, .t 66]⟩, ⟨.t 64, none, .mv, [.t 67]⟩])
 (.cond (.t 64) (.seq (.reg [⟨.t 69, none, .mv, [.l 0]⟩, ⟨.t 70, none, .mv, [.l 13]⟩, ⟨.t 71, none, (.call 39), [.t 69, .t 70, .c (.i .i64 2), .c (.i .i64 2)]⟩, ⟨.t 68, none, .mv, [.t 71]⟩, ⟨.t 72, none, (.ext 0), [.t 68]⟩, ⟨.t 73, none, (.ext 1), [.t 68]⟩, ⟨.l 14, none, .mv, [.t 72]⟩])
 (.seq (.reg [⟨.t 74, none, .mv, [.l 13]⟩, ⟨.t 75, none, .mv, [.l 14]⟩, ⟨.l 8, none, .mv, [.t 74]⟩, ⟨.l 9, none, .mv, [.t 75]⟩, ⟨.l 10, none, .mv, [.c (.i .i64 0)]⟩])
 .ret)) .skip))))))
 (.seq (.seq (.reg [⟨.t 77, none, .mv, [.l 0]⟩, ⟨.t 78, none, .nilchk, [.t 77]⟩, ⟨.t 79, none, (.fad 0), [.t 78]⟩, ⟨.t 80, none, (.ld none), [.t 79]⟩, ⟨.t 81, none, .mv, [.l 2]⟩, ⟨.t 82, none, .mv, [.l 13]⟩, ⟨.t 83, none, (.call 44), [.t 80, .t 81, .t 82]⟩, ⟨.t 76, none, .mv, [.t 83]⟩, ⟨.t 84, none, (.ext 0), [.t 76]⟩, ⟨.t 85, none, (.ext 1), [.t 76]⟩, ⟨.l 15, none, .mv, [.t 84]⟩, ⟨.l 16, none, .mv, [.t 85]⟩])
 (.seq (.reg [⟨.t 86, none, .mv, [.l 16]⟩, ⟨.t 87, none, (.bin .eql), [.t 86, .c (.i .i64 0)]⟩])
 (.cond (.t 87) (.reg [⟨.t 88, none, .mv, [.l 0]⟩, ⟨.t 89, none, .nilchk, [.t 88]⟩, ⟨.t 90, none, (.fad 2), [.t 89]⟩, ⟨.t 91, none, (.ld none), [.t 90]⟩, ⟨.t 92, none, .mv, [.l 13]⟩, ⟨.t 93, none, .mv, [.l 15]⟩, ⟨.t 94, none, (.iad 9), [.t 91, .t 92]⟩, ⟨.t 95, none, (.fad 8), [.t 94]⟩, ⟨.no, none, (.st 1), [.t 95, .t 93]⟩]) .skip)))
 (.seq (.reg [⟨.t 96, none, .mv, [.l 13]⟩, ⟨.l 8, none, .mv, [.t 96]⟩, ⟨.l 9, none, .mv, [.c (.sl none 0 0 0)]⟩, ⟨.l 10, none, .mv, [.c (.i .i64 0)]⟩])
 .ret))))))))), [.tmp (.l 8), .tmp (.l 9), .tmp (.l 10)]⟩
theorem c21 : compFn Try.prog b21 Try.f21 = some a21 := by kernel_rfl
/-- (*tarpaulin/ctx.Set).Until -/
def b25 : Nat := 115
def a25 : AFn := ⟨(.seq (.reg [⟨.l 4, none, .mv, [.c (.i .i64 0)]⟩, ⟨.l 5, none, .mv, [.c (.b false)]⟩, ⟨.l 6, none, .mv, [.c (.i .i64 0)]⟩])
 (.seq (.seq (.reg [⟨.t 7, none, .mv, [.l 0]⟩, ⟨.t 8, none, .mv, [.l 1]⟩, ⟨.t 9, none, (.call 38), [.t 7, .t 8]⟩, ⟨.t 10, none, (.un .not), [.t 9]⟩])
 (.cond (.t 10) (.seq (.reg [⟨.l 4, none, .mv, [.c (.i .i64 0)]⟩, ⟨.l 5, none, .mv, [.c (.b false)]⟩, ⟨.l 6, none, .mv, [.c (.i .i64 4)]⟩])
 .ret) .skip))
 (.seq (.reg [⟨.t 11, none, .mv, [.l 0]⟩, ⟨.t 12, none, .nilchk, [.t 11]⟩, ⟨.t 13, none, (.fad 2), [.t 12]⟩, ⟨.t 14, none, (.ld none), [.t 13]⟩, ⟨.t 15, none, .mv, [.l 1]⟩, ⟨.t 16, none, (.iad 9), [.t 14, .t 15]⟩, ⟨.t 17, none, (.fad 5), [.t 16]⟩, ⟨.t 18, none, (.ld none), [.t 17]⟩, ⟨.t 19, none, .mv, [.l 0]⟩, ⟨.t 20, none, .nilchk, [.t 19]⟩, ⟨.t 21, none, (.fad 2), [.t 20]⟩, ⟨.t 22, none, (.ld none), [.t 21]⟩, ⟨.t 23, none, .mv, [.l 1]⟩, ⟨.t 24, none, (.iad 9), [.t 22, .t 23]⟩, ⟨.t 25, none, (.fad 6), [.t 24]⟩, ⟨.t 26, none, (.ld none), [.t 25]⟩, ⟨.l 4, none, .mv, [.t 18]⟩, ⟨.l 5, none, .mv, [.t 26]⟩, ⟨.l 6, none, .mv, [.c (.i .i64 0)]⟩])
 .ret))), [.tmp (.l 4), .tmp (.l 5), .tmp (.l 6)]⟩
theorem c25 : compFn Try.prog b25 Try.f25 = some a25 := by kernel_rfl
/-- (*tarpaulin/timer.Set).Next -/
def b30 : Nat := 13
def a30 : AFn := ⟨(.seq (.reg [⟨.l 2, none, .mv, [.c (.i .i64 0)]⟩, ⟨.l 3, none, .mv, [.c (.b false)]⟩])
 (.seq (.seq (.reg [⟨.t 4, none, .mv, [.l 0]⟩, ⟨.t 5, none, (.eq false .ptr), [.t 4, .c (.p none)]⟩])
 (.cond (.t 5) (.seq (.reg [⟨.l 2, none, .mv, [.c (.i .i64 0)]⟩, ⟨.l 3, none, .mv, [.c (.b false)]⟩])
 .ret) .skip))
 (.seq (.reg [⟨.t 6, none, .mv, [.l 0]⟩, ⟨.t 7, none, .nilchk, [.t 6]⟩, ⟨.t 8, none, (.fad 1), [.t 7]⟩, ⟨.t 9, none, (.ld none), [.t 8]⟩, ⟨.t 10, none, (.call 54), [.t 9]⟩, ⟨.t 11, none, (.ext 0), [.t 10]⟩, ⟨.t 12, none, (.ext 1), [.t 10]⟩, ⟨.l 2, none, .mv, [.t 11]⟩, ⟨.l 3, none, .mv, [.t 12]⟩])
 .ret))), [.tmp (.l 2), .tmp (.l 3)]⟩
theorem c30 : compFn Try.prog b30 Try.f30 = some a30 := by kernel_rfl
/-- tarpaulin/tarpaulinlaw15.fresh -/
def b31 : Nat := 31
def a31 : AFn := ⟨(.seq (.reg [⟨.l 0, none, .mv, [.c (.p none)]⟩, ⟨.l 1, none, .mv, [.c (.b false)]⟩])
 (.seq (.reg [⟨.t 5, none, (.call 12), []⟩, ⟨.l 2, none, .mv, [.t 5]⟩])
 (.seq (.reg [⟨.t 6, none, (.build [(.sl none 0 0 0), (.i .i64 0), (.sl none 0 0 0), (.sl none 0 0 0), (.i .i64 0)] []), []⟩, ⟨.t 7, none, .box, [.t 6]⟩, ⟨.l 3, none, .mv, [.t 7]⟩])
 (.seq (.reg [⟨.t 8, none, .mv, [.l 2]⟩, ⟨.t 9, none, .mv, [.l 2]⟩, ⟨.t 10, none, (.call 11), [.t 9]⟩, ⟨.t 11, none, .mv, [.l 3]⟩, ⟨.t 12, none, .mv, [.l 3]⟩, ⟨.t 13, none, (.call 55), [.t 12]⟩, ⟨.t 14, none, (.build [(.p none), (.p none), (.p none), (.p none), (.i .i64 0)] [(0, 1), (1, 1), (2, 1), (3, 1)]), [.t 8, .t 10, .t 11, .t 13]⟩, ⟨.t 15, none, .box, [.t 14]⟩, ⟨.l 4, none, .mv, [.t 15]⟩])
 (.seq (.reg [⟨.t 16, none, .mv, [.l 4]⟩, ⟨.t 17, none, .mv, [.l 4]⟩, ⟨.t 18, none, .nilchk, [.t 17]⟩, ⟨.t 19, none, (.fad 0), [.t 18]⟩, ⟨.t 20, none, (.ld none), [.t 19]⟩, ⟨.t 21, none, (.eq true .ptr), [.t 20, .c (.p none)]⟩, ⟨.t 22, none, .mv, [.t 21]⟩, ⟨.t 23, (some (.t 22, true)), .mv, [.l 4]⟩, ⟨.t 24, (some (.t 22, true)), .nilchk, [.t 23]⟩, ⟨.t 25, (some (.t 22, true)), (.fad 1), [.t 24]⟩, ⟨.t 26, (some (.t 22, true)), (.ld none), [.t 25]⟩, ⟨.t 27, (some (.t 22, true)), (.eq true .ptr), [.t 26, .c (.p none)]⟩, ⟨.t 28, none, .pick, [.t 22, .t 27, .c (.b false)]⟩, ⟨.l 0, none, .mv, [.t 16]⟩, ⟨.l 1, none, .mv, [.t 28]⟩])
 .ret))))), [.tmp (.l 0), .tmp (.l 1)]⟩
theorem c31 : compFn Try.prog b31 Try.f31 = some a31 := by kernel_rfl
/-- tarpaulin/tree.New -/
def b32 : Nat := 1
theorem c32 : compFn Try.prog b32 Try.f32 = some (c_tree_New Nn) := by kernel_rfl
/-- (*tarpaulin/ctx.Set).add -/
def b33 : Nat := 87
theorem c33 : compFn Try.prog b33 Try.f33 = some (c_ctx_Set_add Nn) := by kernel_rfl
/-- tarpaulin/expire.New -/
def b34 : Nat := 1
def a34 : AFn := ⟨(.seq (.reg [⟨.l 0, none, .mv, [.c (.p none)]⟩])
 (.seq (.reg [⟨.t 1, none, (.call 56), []⟩, ⟨.t 2, none, .mkmap, []⟩, ⟨.t 3, none, (.build [(.p none), (.m none)] [(0, 1), (1, 1)]), [.t 1, .t 2]⟩, ⟨.t 4, none, .box, [.t 3]⟩, ⟨.l 0, none, .mv, [.t 4]⟩])
 .ret)), [.tmp (.l 0)]⟩
theorem c34 : compFn Try.prog b34 Try.f34 = some a34 := by kernel_rfl
/-- (*tarpaulin/ctx.Set).room -/
def b35 : Nat := 19
theorem c35 : compFn Try.prog b35 Try.f35 = some (c_ctx_Set_room Nn) := by kernel_rfl
/-- tarpaulin/chanq.Signal -/
def b36 : Nat := 3
theorem c36 : compFn Try.prog b36 Try.f36 = some (c_chanq_Signal Nn) := by kernel_rfl
/-- (*tarpaulin/ctx.Set).begin -/
def b37 : Nat := 455
theorem c37 : compFn Try.prog b37 Try.f37 = some (c_ctx_Set_begin Nn) := by kernel_rfl
/-- (*tarpaulin/ctx.Set).has -/
def b38 : Nat := 19
theorem c38 : compFn Try.prog b38 Try.f38 = some (c_ctx_Set_has Nn) := by kernel_rfl
/-- (*tarpaulin/ctx.Set).cancel -/
def b39 : Nat := 2066035336255469844239
theorem c39 : compFn Try.prog b39 Try.f39 = some (c_ctx_Set_cancel Nn) := by kernel_rfl
/-- (*tarpaulin/tree.Tree).Add -/
def b40 : Nat := 455
theorem c40 : compFn Try.prog b40 Try.f40 = some (c_tree_Tree_Add Nn) := by kernel_rfl
/-- (*tarpaulin/ctx.Set).start -/
def b41 : Nat := 51
theorem c41 : compFn Try.prog b41 Try.f41 = some (c_ctx_Set_start Nn) := by kernel_rfl
/-- (*tarpaulin/tree.Tree).Detach -/
def b42 : Nat := 115
theorem c42 : compFn Try.prog b42 Try.f42 = some (c_tree_Tree_Detach Nn) := by kernel_rfl
/-- tarpaulin/clock.Add -/
def b43 : Nat := 19
def a43 : AFn := ⟨(.seq (.reg [⟨.l 4, none, .mv, [.c (.i .i64 0)]⟩])
 (.seq (.reg [⟨.t 5, none, .mv, [.l 0]⟩, ⟨.t 6, none, (.call 64), [.t 5]⟩, ⟨.t 7, none, .mv, [.l 1]⟩, ⟨.t 8, none, (.call 64), [.t 7]⟩, ⟨.l 0, none, .mv, [.t 6]⟩, ⟨.l 1, none, .mv, [.t 8]⟩])
 (.seq (.block 0 (.seq (.reg [⟨.t 10, none, .mv, [.l 1]⟩, ⟨.t 11, none, (.bin .gtr), [.t 10, .c (.i .i64 0)]⟩, ⟨.t 12, none, .mv, [.t 11]⟩, ⟨.t 13, (some (.t 12, true)), .mv, [.l 0]⟩, ⟨.t 14, (some (.t 12, true)), .mv, [.l 1]⟩, ⟨.t 15, (some (.t 12, true)), (.bin .sub), [.c (.i .i64 4611686018427387904), .t 14]⟩, ⟨.t 16, (some (.t 12, true)), (.bin .gtr), [.t 13, .t 15]⟩, ⟨.t 17, none, .pick, [.t 12, .t 16, .c (.b false)]⟩, ⟨.t 9, none, .mv, [.t 17]⟩])
 (.cond (.t 9) (.seq (.reg [⟨.l 4, none, .mv, [.c (.i .i64 4611686018427387904)]⟩])
 .ret) (.seq (.reg [⟨.t 19, none, .mv, [.l 1]⟩, ⟨.t 20, none, (.bin .lss), [.t 19, .c (.i .i64 0)]⟩, ⟨.t 21, none, .mv, [.t 20]⟩, ⟨.t 22, (some (.t 21, true)), .mv, [.l 0]⟩, ⟨.t 23, (some (.t 21, true)), .mv, [.l 1]⟩, ⟨.t 24, (some (.t 21, true)), (.bin .sub), [.c (.i .i64 (-4611686018427387904)), .t 23]⟩, ⟨.t 25, (some (.t 21, true)), (.bin .lss), [.t 22, .t 24]⟩, ⟨.t 26, none, .pick, [.t 21, .t 25, .c (.b false)]⟩, ⟨.t 18, none, .mv, [.t 26]⟩])
 (.cond (.t 18) (.seq (.reg [⟨.l 4, none, .mv, [.c (.i .i64 (-4611686018427387904))]⟩])
 .ret) .skip)))))
 (.seq (.reg [⟨.t 27, none, .mv, [.l 0]⟩, ⟨.t 28, none, .mv, [.l 1]⟩, ⟨.t 29, none, (.bin .add), [.t 27, .t 28]⟩, ⟨.l 4, none, .mv, [.t 29]⟩])
 .ret)))), [.tmp (.l 4)]⟩
theorem c43 : compFn Try.prog b43 Try.f43 = some a43 := by kernel_rfl
/-- (*tarpaulin/timer.Set).Lapse -/
def b44 : Nat := 199
def a44 : AFn := ⟨(.seq (.reg [⟨.l 6, none, .mv, [.c (.i .i64 0)]⟩, ⟨.l 7, none, .mv, [.c (.i .i64 0)]⟩])
 (.seq (.reg [⟨.t 8, none, .mv, [.l 0]⟩, ⟨.t 9, none, .mv, [.l 2]⟩, ⟨.t 10, none, (.build [(.i .i64 0), (.i .i64 0), (.p none), (.i .i64 0)] [(0, 1), (1, 1)]), [.c (.i .i64 4), .t 9]⟩, ⟨.t 11, none, .mv, [.l 1]⟩, ⟨.t 12, none, (.call 65), [.t 8, .t 10, .c (.i .i64 0), .t 11]⟩, ⟨.t 13, none, (.ext 0), [.t 12]⟩, ⟨.t 14, none, (.ext 1), [.t 12]⟩, ⟨.l 6, none, .mv, [.t 13]⟩, ⟨.l 7, none, .mv, [.t 14]⟩])
 .ret)), [.tmp (.l 6), .tmp (.l 7)]⟩
theorem c44 : compFn Try.prog b44 Try.f44 = some a44 := by kernel_rfl
/-- (*tarpaulin/expire.Timers).Next -/
def b54 : Nat := 61
def a54 : AFn := ⟨(.seq (.reg [⟨.l 2, none, .mv, [.c (.i .i64 0)]⟩, ⟨.l 3, none, .mv, [.c (.b false)]⟩])
 (.seq (.seq (.reg [⟨.t 6, none, .mv, [.l 0]⟩, ⟨.t 7, none, (.eq false .ptr), [.t 6, .c (.p none)]⟩])
 (.cond (.t 7) (.seq (.reg [⟨.l 2, none, .mv, [.c (.i .i64 0)]⟩, ⟨.l 3, none, .mv, [.c (.b false)]⟩])
 .ret) .skip))
 (.seq (.reg [⟨.t 9, none, .mv, [.l 0]⟩, ⟨.t 10, none, .nilchk, [.t 9]⟩, ⟨.t 11, none, (.fad 0), [.t 10]⟩, ⟨.t 12, none, (.ld none), [.t 11]⟩, ⟨.t 13, none, (.call 74), [.t 12]⟩, ⟨.t 8, none, .mv, [.t 13]⟩, ⟨.t 14, none, (.ext 0), [.t 8]⟩, ⟨.t 15, none, (.ext 1), [.t 8]⟩, ⟨.l 4, none, (.alloc [(.i .i64 0), (.i .i64 0), (.i .i64 0)]), []⟩, ⟨.no, none, (.st 3), [.l 4, .t 14]⟩, ⟨.l 5, none, .mv, [.t 15]⟩])
 (.seq (.reg [⟨.t 16, none, (.fad 1), [.l 4]⟩, ⟨.t 17, none, (.ld none), [.t 16]⟩, ⟨.t 18, none, .mv, [.l 5]⟩, ⟨.l 2, none, .mv, [.t 17]⟩, ⟨.l 3, none, .mv, [.t 18]⟩])
 .ret)))), [.tmp (.l 2), .tmp (.l 3)]⟩
theorem c54 : compFn Try.prog b54 Try.f54 = some a54 := by kernel_rfl
/-- tarpaulin/tarpaulinref9.NewCtx -/
def b55 : Nat := 13
def a55 : AFn := ⟨(.seq (.reg [⟨.l 2, none, .mv, [.c (.p none)]⟩])
 (.seq (.reg [⟨.t 4, none, .mv, [.l 0]⟩, ⟨.t 5, none, (.build [(.p none), (.sl none 0 0 0), (.sl none 0 0 0), (.sl none 0 0 0), (.sl none 0 0 0)] [(0, 1)]), [.t 4]⟩, ⟨.t 6, none, .box, [.t 5]⟩, ⟨.l 3, none, .mv, [.t 6]⟩])
 (.seq (.reg [⟨.t 7, none, .mv, [.l 3]⟩, ⟨.t 8, none, (.build [(.b false), (.i .i64 0), (.i .i64 0), (.b false), (.b false), (.i .i64 0), (.i .i64 0), (.i .i64 0), (.b false), (.b false), (.i .i64 0), (.p none)] [(4, 1), (10, 1)]), [.c (.b true), .c (.i .i64 (-1))]⟩, ⟨.t 9, none, (.call 75), [.t 7, .c (.i .i64 (-1)), .c (.b false), .t 8]⟩])
 (.seq (.reg [⟨.t 10, none, .mv, [.l 3]⟩, ⟨.l 2, none, .mv, [.t 10]⟩])
 .ret)))), [.tmp (.l 2)]⟩
theorem c55 : compFn Try.prog b55 Try.f55 = some a55 := by kernel_rfl
/-- tarpaulin/heap.New -/
def b56 : Nat := 1
def a56 : AFn := ⟨(.seq (.reg [⟨.l 0, none, .mv, [.c (.p none)]⟩])
 (.seq (.reg [⟨.t 1, none, .mkmap, []⟩, ⟨.t 2, none, (.build [(.sl none 0 0 0), (.m none), (.i .i64 0)] [(1, 1)]), [.t 1]⟩, ⟨.t 3, none, .box, [.t 2]⟩, ⟨.l 0, none, .mv, [.t 3]⟩])
 .ret)), [.tmp (.l 0)]⟩
theorem c56 : compFn Try.prog b56 Try.f56 = some a56 := by kernel_rfl
/-- tarpaulin/chanq.New -/
def b57 : Nat := 61
theorem c57 : compFn Try.prog b57 Try.f57 = some (c_chanq_New Nn) := by kernel_rfl
/-- (*tarpaulin/chanq.Chan).End -/
def b58 : Nat := 5
theorem c58 : compFn Try.prog b58 Try.f58 = some (c_chanq_Chan_End Nn) := by kernel_rfl
/-- (*tarpaulin/timer.Set).Stop -/
def b59 : Nat := 115
theorem c59 : compFn Try.prog b59 Try.f59 = some (c_timer_Set_Stop Nn) := by kernel_rfl
/-- (*tarpaulin/tree.Tree).Kids -/
def b60 : Nat := 19
theorem c60 : compFn Try.prog b60 Try.f60 = some (c_tree_Tree_Kids Nn) := by kernel_rfl
/-- (*tarpaulin/tree.Tree).has -/
def b61 : Nat := 19
theorem c61 : compFn Try.prog b61 Try.f61 = some (c_tree_Tree_has Nn) := by kernel_rfl
/-- slices.Index[[]int,int] -/
def b62 : Nat := 435
theorem c62 : compFn Try.prog b62 Try.f62 = some (c_slices_Index_intint Nn) := by kernel_rfl
/-- slices.Delete[[]int,int] -/
def b63 : Nat := 199
theorem c63 : compFn Try.prog b63 Try.f63 = some (c_slices_Delete_intint Nn) := by kernel_rfl
/-- tarpaulin/clock.held -/
def b64 : Nat := 5
def a64 : AFn := ⟨(.seq (.reg [⟨.l 2, none, .mv, [.c (.i .i64 0)]⟩])
 (.seq (.reg [⟨.t 3, none, .mv, [.l 0]⟩, ⟨.t 4, none, .max, [.t 3, .c (.i .i64 (-4611686018427387904))]⟩, ⟨.t 5, none, .min, [.t 4, .c (.i .i64 4611686018427387904)]⟩, ⟨.l 2, none, .mv, [.t 5]⟩])
 .ret)), [.tmp (.l 2)]⟩
theorem c64 : compFn Try.prog b64 Try.f64 = some a64 := by kernel_rfl
/-- (*tarpaulin/timer.Set).make -/
def b65 : Nat := 815
def a65 : AFn := ⟨(.seq (.reg [⟨.l 5, none, .box, [.l 1]⟩, ⟨.l 8, none, .mv, [.c (.i .i64 0)]⟩, ⟨.l 9, none, .mv, [.c (.i .i64 0)]⟩])
 (.seq (.block 0 (.seq (.reg [⟨.t 11, none, .mv, [.l 2]⟩, ⟨.t 12, none, (.call 84), [.t 11]⟩, ⟨.t 13, none, .mv, [.t 12]⟩, ⟨.t 14, (some (.t 13, false)), (.fad 1), [.l 5]⟩, ⟨.t 15, (some (.t 13, false)), (.ld none), [.t 14]⟩, ⟨.t 16, (some (.t 13, false)), (.bin .lss), [.t 15, .c (.i .i64 0)]⟩, ⟨.t 17, none, .pick, [.t 13, .c (.b true), .t 16]⟩, ⟨.t 18, none, .mv, [.t 17]⟩, ⟨.t 19, (some (.t 18, false)), (.fad 0), [.l 5]⟩, ⟨.t 20, (some (.t 18, false)), (.ld none), [.t 19]⟩, ⟨.t 21, (some (.t 18, false)), (.bin .eql), [.t 20, .c (.i .i64 2)]⟩, ⟨.t 22, (some (.t 18, false)), .mv, [.t 21]⟩, ⟨.t 23, (some (.t 22, true)), .mv, [.l 3]⟩, ⟨.t 24, (some (.t 22, true)), (.bin .lss), [.t 23, .c (.i .i64 1)]⟩, ⟨.t 25, (some (.t 18, false)), .pick, [.t 22, .t 24, .c (.b false)]⟩, ⟨.t 26, none, .pick, [.t 18, .c (.b true), .t 25]⟩, ⟨.t 10, none, .mv, [.t 26]⟩])
 (.cond (.t 10) (.seq (.reg [⟨.l 8, none, .mv, [.c (.i .i64 0)]⟩, ⟨.l 9, none, .mv, [.c (.i .i64 1)]⟩])
 .ret) (.seq (.seq (.reg [⟨.t 28, none, .mv, [.l 0]⟩, ⟨.t 29, none, (.eq false .ptr), [.t 28, .c (.p none)]⟩, ⟨.t 27, none, .mv, [.t 29]⟩])
 (.cond (.t 27) .skip (.reg [⟨.t 30, none, (.fad 0), [.l 5]⟩, ⟨.t 31, none, (.ld none), [.t 30]⟩, ⟨.t 32, none, (.bin .neq), [.t 31, .c (.i .i64 4)]⟩, ⟨.t 33, none, .mv, [.t 32]⟩, ⟨.t 34, (some (.t 33, true)), .mv, [.l 0]⟩, ⟨.t 35, (some (.t 33, true)), .nilchk, [.t 34]⟩, ⟨.t 36, (some (.t 33, true)), (.fad 2), [.t 35]⟩, ⟨.t 37, (some (.t 33, true)), (.ld none), [.t 36]⟩, ⟨.t 38, (some (.t 33, true)), (.bin .geq), [.t 37, .c (.i .i64 64)]⟩, ⟨.t 39, none, .pick, [.t 33, .t 38, .c (.b false)]⟩, ⟨.t 27, none, .mv, [.t 39]⟩])))
 (.cond (.t 27) (.seq (.reg [⟨.l 8, none, .mv, [.c (.i .i64 0)]⟩, ⟨.l 9, none, .mv, [.c (.i .i64 3)]⟩])
 .ret) .skip)))))
 (.seq (.seq (.reg [⟨.t 40, none, (.fad 0), [.l 5]⟩, ⟨.t 41, none, (.ld none), [.t 40]⟩, ⟨.t 42, none, (.bin .neq), [.t 41, .c (.i .i64 4)]⟩])
 (.cond (.t 42) (.reg [⟨.t 43, none, .mv, [.l 0]⟩, ⟨.t 44, none, .nilchk, [.t 43]⟩, ⟨.t 45, none, (.fad 2), [.t 44]⟩, ⟨.t 46, none, (.ld none), [.t 45]⟩, ⟨.t 47, none, (.bin .add), [.t 46, .c (.i .i64 1)]⟩, ⟨.t 48, none, .nilchk, [.t 43]⟩, ⟨.t 49, none, (.fad 2), [.t 48]⟩, ⟨.no, none, (.st 1), [.t 49, .t 47]⟩]) .skip))
 (.seq (.reg [⟨.t 50, none, .mv, [.l 0]⟩, ⟨.t 51, none, .mv, [.l 0]⟩, ⟨.t 52, none, .nilchk, [.t 51]⟩, ⟨.t 53, none, (.fad 0), [.t 52]⟩, ⟨.t 54, none, (.ld none), [.t 53]⟩, ⟨.t 55, none, (.ld (some 4)), [.l 5]⟩, ⟨.t 56, none, (.bslice [(.i .i64 0), (.i .i64 0), (.p none), (.i .i64 0)] 1 4 [0]), [.t 55]⟩, ⟨.t 57, none, (.app 4 32), [.t 54, .t 56]⟩, ⟨.t 58, none, .nilchk, [.t 50]⟩, ⟨.t 59, none, (.fad 0), [.t 58]⟩, ⟨.no, none, (.st 1), [.t 59, .t 57]⟩])
 (.seq (.reg [⟨.t 60, none, .mv, [.l 0]⟩, ⟨.t 61, none, .mv, [.l 0]⟩, ⟨.t 62, none, .nilchk, [.t 61]⟩, ⟨.t 63, none, (.fad 0), [.t 62]⟩, ⟨.t 64, none, (.ld none), [.t 63]⟩, ⟨.t 65, none, .lenSl, [.t 64]⟩, ⟨.t 66, none, (.bin .sub), [.t 65, .c (.i .i64 1)]⟩, ⟨.t 67, none, .mv, [.l 2]⟩, ⟨.t 68, none, .mv, [.l 3]⟩, ⟨.t 69, none, (.call 85), [.t 60, .t 66, .t 67, .t 68]⟩])
 (.seq (.reg [⟨.t 70, none, .mv, [.l 0]⟩, ⟨.t 71, none, .nilchk, [.t 70]⟩, ⟨.t 72, none, (.fad 0), [.t 71]⟩, ⟨.t 73, none, (.ld none), [.t 72]⟩, ⟨.t 74, none, .lenSl, [.t 73]⟩, ⟨.t 75, none, (.bin .sub), [.t 74, .c (.i .i64 1)]⟩, ⟨.l 8, none, .mv, [.t 75]⟩, ⟨.l 9, none, .mv, [.c (.i .i64 0)]⟩])
 .ret)))))), [.tmp (.l 8), .tmp (.l 9)]⟩
theorem c65 : compFn Try.prog b65 Try.f65 = some a65 := by kernel_rfl
/-- (*tarpaulin/ring.Ring).Len -/
def b66 : Nat := 5
theorem c66 : compFn Try.prog b66 Try.f66 = some (c_ring_Ring_Len Nn) := by kernel_rfl
/-- (*tarpaulin/expire.Timers).Arm -/
def b71 : Nat := 271
def a71 : AFn := ⟨(.seq (.reg [⟨.l 8, none, .mv, [.c (.i .i64 0)]⟩])
 (.seq (.seq (.reg [⟨.t 9, none, .mv, [.l 0]⟩, ⟨.t 10, none, (.eq false .ptr), [.t 9, .c (.p none)]⟩, ⟨.t 11, none, .mv, [.t 10]⟩, ⟨.t 12, (some (.t 11, false)), .mv, [.l 2]⟩, ⟨.t 13, (some (.t 11, false)), .mv, [.l 3]⟩, ⟨.t 14, (some (.t 11, false)), .min, [.t 12, .t 13]⟩, ⟨.t 15, (some (.t 11, false)), (.bin .lss), [.t 14, .c (.i .i64 0)]⟩, ⟨.t 16, none, .pick, [.t 11, .c (.b true), .t 15]⟩, ⟨.t 17, none, .mv, [.t 16]⟩, ⟨.t 18, (some (.t 17, false)), .mv, [.l 2]⟩, ⟨.t 19, (some (.t 17, false)), .mv, [.l 3]⟩, ⟨.t 20, (some (.t 17, false)), .max, [.t 18, .t 19]⟩, ⟨.t 21, (some (.t 17, false)), (.bin .gtr), [.t 20, .c (.i .i64 4611686018427387904)]⟩, ⟨.t 22, none, .pick, [.t 17, .c (.b true), .t 21]⟩])
 (.cond (.t 22) (.seq (.reg [⟨.l 8, none, .mv, [.c (.i .i64 1)]⟩])
 .ret) .skip))
 (.seq (.reg [⟨.t 23, none, .mv, [.l 0]⟩, ⟨.t 24, none, .mv, [.l 1]⟩, ⟨.t 25, none, (.call 80), [.t 23, .t 24]⟩])
 (.seq (.reg [⟨.t 26, none, .mv, [.l 0]⟩, ⟨.t 27, none, .nilchk, [.t 26]⟩, ⟨.t 28, none, (.fad 1), [.t 27]⟩, ⟨.t 29, none, (.ld none), [.t 28]⟩, ⟨.t 30, none, .mv, [.l 1]⟩, ⟨.t 31, none, .mv, [.l 3]⟩, ⟨.no, none, .mset, [.t 29, .t 30, .t 31]⟩])
 (.seq (.reg [⟨.t 32, none, .mv, [.l 0]⟩, ⟨.t 33, none, .nilchk, [.t 32]⟩, ⟨.t 34, none, (.fad 0), [.t 33]⟩, ⟨.t 35, none, (.ld none), [.t 34]⟩, ⟨.t 36, none, .mv, [.l 1]⟩, ⟨.t 37, none, .mv, [.l 2]⟩, ⟨.t 38, none, (.call 87), [.t 35, .t 36, .t 37]⟩, ⟨.l 8, none, .mv, [.t 38]⟩])
 .ret))))), [.tmp (.l 8)]⟩
theorem c71 : compFn Try.prog b71 Try.f71 = some a71 := by kernel_rfl
/-- (*tarpaulin/heap.Heap).Min -/
def b74 : Nat := 13
def a74 : AFn := ⟨(.seq (.reg [⟨.l 2, none, (.alloc [(.i .i64 0), (.i .i64 0), (.i .i64 0)]), []⟩, ⟨.l 3, none, .mv, [.c (.b false)]⟩])
 (.seq (.seq (.reg [⟨.t 4, none, .mv, [.l 0]⟩, ⟨.t 5, none, (.call 89), [.t 4]⟩, ⟨.t 6, none, (.bin .eql), [.t 5, .c (.i .i64 0)]⟩])
 (.cond (.t 6) (.seq (.reg [⟨.t 7, none, (.build [(.i .i64 0), (.i .i64 0), (.i .i64 0)] []), []⟩, ⟨.no, none, (.st 3), [.l 2, .t 7]⟩, ⟨.l 3, none, .mv, [.c (.b false)]⟩])
 .ret) .skip))
 (.seq (.reg [⟨.t 8, none, .mv, [.l 0]⟩, ⟨.t 9, none, .nilchk, [.t 8]⟩, ⟨.t 10, none, (.fad 0), [.t 9]⟩, ⟨.t 11, none, (.ld none), [.t 10]⟩, ⟨.t 12, none, (.iad 3), [.t 11, .c (.i .i64 0)]⟩, ⟨.t 13, none, (.ld (some 3)), [.t 12]⟩, ⟨.no, none, (.st 3), [.l 2, .t 13]⟩, ⟨.l 3, none, .mv, [.c (.b true)]⟩])
 .ret))), [.cell (.l 2) (some 3), .tmp (.l 3)]⟩
theorem c74 : compFn Try.prog b74 Try.f74 = some a74 := by kernel_rfl
/-- (*tarpaulin/tarpaulinref9.Ctx).add -/
def b75 : Nat := 911
def a75 : AFn := ⟨(.seq (.reg [⟨.l 7, none, .box, [.l 3]⟩, ⟨.l 8, none, .mv, [.c (.i .i64 0)]⟩])
 (.seq (.reg [⟨.t 12, none, .mv, [.l 0]⟩, ⟨.t 13, none, .nilchk, [.t 12]⟩, ⟨.t 14, none, (.fad 1), [.t 13]⟩, ⟨.t 15, none, .mv, [.l 1]⟩, ⟨.t 16, none, .mv, [.l 2]⟩, ⟨.t 17, none, (.call 90), [.t 14, .t 15, .t 16]⟩, ⟨.t 11, none, .mv, [.t 17]⟩, ⟨.t 18, none, (.ext 0), [.t 11]⟩, ⟨.t 19, none, (.ext 1), [.t 11]⟩, ⟨.l 9, none, .mv, [.t 18]⟩, ⟨.t 10, none, .mv, [.t 19]⟩])
 (.seq (.reg [⟨.t 20, none, .mv, [.l 0]⟩, ⟨.t 21, none, .nilchk, [.t 20]⟩, ⟨.t 22, none, (.fad 3), [.t 21]⟩, ⟨.t 23, none, (.ld none), [.t 22]⟩, ⟨.t 24, none, .lenSl, [.t 23]⟩, ⟨.t 25, none, (.fad 1), [.l 7]⟩, ⟨.no, none, (.st 1), [.t 25, .t 24]⟩])
 (.seq (.reg [⟨.t 26, none, .mv, [.l 0]⟩, ⟨.t 27, none, .mv, [.l 0]⟩, ⟨.t 28, none, .nilchk, [.t 27]⟩, ⟨.t 29, none, (.fad 2), [.t 28]⟩, ⟨.t 30, none, (.ld none), [.t 29]⟩, ⟨.t 31, none, (.ld (some 12)), [.l 7]⟩, ⟨.t 32, none, (.bslice [(.b false), (.i .i64 0), (.i .i64 0), (.b false), (.b false), (.i .i64 0), (.i .i64 0), (.i .i64 0), (.b false), (.b false), (.i .i64 0), (.p none)] 1 12 [0]), [.t 31]⟩, ⟨.t 33, none, (.app 12 80), [.t 30, .t 32]⟩, ⟨.t 34, none, .nilchk, [.t 26]⟩, ⟨.t 35, none, (.fad 2), [.t 34]⟩, ⟨.no, none, (.st 1), [.t 35, .t 33]⟩])
 (.seq (.reg [⟨.t 36, none, .mv, [.l 0]⟩, ⟨.t 37, none, .mv, [.l 0]⟩, ⟨.t 38, none, .nilchk, [.t 37]⟩, ⟨.t 39, none, (.fad 3), [.t 38]⟩, ⟨.t 40, none, (.ld none), [.t 39]⟩, ⟨.t 41, none, .mv, [.l 9]⟩, ⟨.t 42, none, (.bslice [(.i .i64 0)] 1 1 [0]), [.t 41]⟩, ⟨.t 43, none, (.app 1 8), [.t 40, .t 42]⟩, ⟨.t 44, none, .nilchk, [.t 36]⟩, ⟨.t 45, none, (.fad 3), [.t 44]⟩, ⟨.no, none, (.st 1), [.t 45, .t 43]⟩])
 (.seq (.reg [⟨.t 46, none, (.fad 1), [.l 7]⟩, ⟨.t 47, none, (.ld none), [.t 46]⟩, ⟨.l 8, none, .mv, [.t 47]⟩])
 .ret)))))), [.tmp (.l 8)]⟩
theorem c75 : compFn Try.prog b75 Try.f75 = some a75 := by kernel_rfl
/-- tarpaulin/ring.New -/
def b76 : Nat := 13
theorem c76 : compFn Try.prog b76 Try.f76 = some (c_ring_New Nn) := by kernel_rfl
/-- tarpaulin/wait.New -/
def b77 : Nat := 1
theorem c77 : compFn Try.prog b77 Try.f77 = some (c_wait_New Nn) := by kernel_rfl
/-- (*tarpaulin/chanq.Chan).end -/
def b78 : Nat := 9007199256576117
theorem c78 : compFn Try.prog b78 Try.f78 = some (c_chanq_Chan_end Nn) := by kernel_rfl
/-- (*tarpaulin/timer.Set).has -/
def b79 : Nat := 19
theorem c79 : compFn Try.prog b79 Try.f79 = some (c_timer_Set_has Nn) := by kernel_rfl
/-- (*tarpaulin/expire.Timers).Stop -/
def b80 : Nat := 83
theorem c80 : compFn Try.prog b80 Try.f80 = some (c_expire_Timers_Stop Nn) := by kernel_rfl
/-- (*tarpaulin/chanq.Chan).Drop -/
def b81 : Nat := 5
theorem c81 : compFn Try.prog b81 Try.f81 = some (c_chanq_Chan_Drop Nn) := by kernel_rfl
/-- slices.Clone[[]int,int] -/
def b82 : Nat := 5
theorem c82 : compFn Try.prog b82 Try.f82 = some (c_slices_Clone_intint Nn) := by kernel_rfl
/-- (*tarpaulin/tree.Tree).Len -/
def b83 : Nat := 5
theorem c83 : compFn Try.prog b83 Try.f83 = some (c_tree_Tree_Len Nn) := by kernel_rfl
/-- tarpaulin/timer.bad -/
def b84 : Nat := 5
def a84 : AFn := ⟨(.seq (.reg [⟨.l 2, none, .mv, [.c (.b false)]⟩])
 (.seq (.reg [⟨.t 3, none, .mv, [.l 0]⟩, ⟨.t 4, none, (.bin .lss), [.t 3, .c (.i .i64 0)]⟩, ⟨.t 5, none, .mv, [.t 4]⟩, ⟨.t 6, (some (.t 5, false)), .mv, [.l 0]⟩, ⟨.t 7, (some (.t 5, false)), (.bin .gtr), [.t 6, .c (.i .i64 4611686018427387904)]⟩, ⟨.t 8, none, .pick, [.t 5, .c (.b true), .t 7]⟩, ⟨.l 2, none, .mv, [.t 8]⟩])
 .ret)), [.tmp (.l 2)]⟩
theorem c84 : compFn Try.prog b84 Try.f84 = some a84 := by kernel_rfl
/-- (*tarpaulin/timer.Set).arm -/
def b85 : Nat := 271
def a85 : AFn := ⟨(.seq (.reg [⟨.l 8, none, .mv, [.c (.i .i64 0)]⟩])
 (.seq (.seq (.reg [⟨.t 9, none, .mv, [.l 0]⟩, ⟨.t 10, none, .nilchk, [.t 9]⟩, ⟨.t 11, none, (.fad 0), [.t 10]⟩, ⟨.t 12, none, (.ld none), [.t 11]⟩, ⟨.t 13, none, .mv, [.l 1]⟩, ⟨.t 14, none, (.iad 4), [.t 12, .t 13]⟩, ⟨.t 15, none, (.fad 0), [.t 14]⟩, ⟨.t 16, none, (.ld none), [.t 15]⟩, ⟨.t 17, none, (.bin .eql), [.t 16, .c (.i .i64 2)]⟩])
 (.cond (.t 17) (.reg [⟨.t 18, none, .mv, [.l 3]⟩, ⟨.t 19, none, .min, [.t 18, .c (.i .i64 4611686018427387904)]⟩, ⟨.l 8, none, .mv, [.t 19]⟩]) .skip))
 (.seq (.regD [⟨.t 20, none, .mv, [.l 0]⟩, ⟨.t 21, none, .nilchk, [.t 20]⟩, ⟨.t 22, none, (.fad 1), [.t 21]⟩, ⟨.t 23, none, (.ld none), [.t 22]⟩, ⟨.t 24, none, .mv, [.l 1]⟩, ⟨.t 25, none, .mv, [.l 2]⟩, ⟨.t 26, none, .mv, [.l 3]⟩, ⟨.t 27, none, .max, [.t 26, .c (.i .i64 0)]⟩, ⟨.t 28, none, (.call 43), [.t 25, .t 27]⟩, ⟨.t 29, none, .mv, [.l 8]⟩, ⟨.t 30, none, (.call 71), [.t 23, .t 24, .t 28, .t 29]⟩] [(3, 9)])
 (.reg [⟨.t 31, none, .mv, [.l 0]⟩, ⟨.t 32, none, .nilchk, [.t 31]⟩, ⟨.t 33, none, (.fad 0), [.t 32]⟩, ⟨.t 34, none, (.ld none), [.t 33]⟩, ⟨.t 35, none, .mv, [.l 1]⟩, ⟨.t 36, none, (.iad 4), [.t 34, .t 35]⟩, ⟨.t 37, none, (.fad 3), [.t 36]⟩, ⟨.t 38, none, (.ld none), [.t 37]⟩, ⟨.t 39, none, (.bin .add), [.t 38, .c (.i .i64 1)]⟩, ⟨.t 40, none, (.iad 4), [.t 34, .t 35]⟩, ⟨.t 41, none, (.fad 3), [.t 40]⟩, ⟨.no, none, (.st 1), [.t 41, .t 39]⟩])))), []⟩
theorem c85 : compFn Try.prog b85 Try.f85 = some a85 := by kernel_rfl
/-- (*tarpaulin/heap.Heap).Remove -/
def b86 : Nat := 2035
theorem c86 : compFn Try.prog b86 Try.f86 = some (c_heap_Heap_Remove Nn) := by kernel_rfl
/-- (*tarpaulin/heap.Heap).Add -/
def b87 : Nat := 327
def a87 : AFn := ⟨(.seq (.reg [⟨.l 6, none, .mv, [.c (.i .i64 0)]⟩])
 (.seq (.seq (.reg [⟨.t 9, none, .mv, [.l 0]⟩, ⟨.t 10, none, (.eq false .ptr), [.t 9, .c (.p none)]⟩])
 (.cond (.t 10) (.seq (.reg [⟨.l 6, none, .mv, [.c (.i .i64 1)]⟩])
 .ret) .skip))
 (.seq (.seq (.reg [⟨.t 12, none, .mv, [.l 0]⟩, ⟨.t 13, none, .nilchk, [.t 12]⟩, ⟨.t 14, none, (.fad 1), [.t 13]⟩, ⟨.t 15, none, (.ld none), [.t 14]⟩, ⟨.t 16, none, .mv, [.l 1]⟩, ⟨.t 17, none, (.lkup (.i .i64 0) true), [.t 15, .t 16]⟩, ⟨.t 11, none, .mv, [.t 17]⟩, ⟨.t 18, none, (.ext 0), [.t 11]⟩, ⟨.t 19, none, (.ext 1), [.t 11]⟩, ⟨.t 7, none, .mv, [.t 18]⟩, ⟨.l 8, none, .mv, [.t 19]⟩])
 (.seq (.reg [⟨.t 20, none, .mv, [.l 8]⟩])
 (.cond (.t 20) (.seq (.reg [⟨.l 6, none, .mv, [.c (.i .i64 1)]⟩])
 .ret) .skip)))
 (.seq (.reg [⟨.t 21, none, .mv, [.l 0]⟩, ⟨.t 22, none, .nilchk, [.t 21]⟩, ⟨.t 23, none, (.fad 2), [.t 22]⟩, ⟨.t 24, none, (.ld none), [.t 23]⟩, ⟨.t 25, none, (.bin .add), [.t 24, .c (.i .i64 1)]⟩, ⟨.t 26, none, .nilchk, [.t 21]⟩, ⟨.t 27, none, (.fad 2), [.t 26]⟩, ⟨.no, none, (.st 1), [.t 27, .t 25]⟩])
 (.seq (.reg [⟨.t 28, none, .mv, [.l 0]⟩, ⟨.t 29, none, .mv, [.l 0]⟩, ⟨.t 30, none, .nilchk, [.t 29]⟩, ⟨.t 31, none, (.fad 0), [.t 30]⟩, ⟨.t 32, none, (.ld none), [.t 31]⟩, ⟨.t 33, none, .mv, [.l 1]⟩, ⟨.t 34, none, .mv, [.l 2]⟩, ⟨.t 35, none, .mv, [.l 0]⟩, ⟨.t 36, none, .nilchk, [.t 35]⟩, ⟨.t 37, none, (.fad 2), [.t 36]⟩, ⟨.t 38, none, (.ld none), [.t 37]⟩, ⟨.t 39, none, (.build [(.i .i64 0), (.i .i64 0), (.i .i64 0)] [(0, 1), (1, 1), (2, 1)]), [.t 33, .t 34, .t 38]⟩, ⟨.t 40, none, (.bslice [(.i .i64 0), (.i .i64 0), (.i .i64 0)] 1 3 [0]), [.t 39]⟩, ⟨.t 41, none, (.app 3 24), [.t 32, .t 40]⟩, ⟨.t 42, none, .nilchk, [.t 28]⟩, ⟨.t 43, none, (.fad 0), [.t 42]⟩, ⟨.no, none, (.st 1), [.t 43, .t 41]⟩])
 (.seq (.reg [⟨.t 44, none, .mv, [.l 0]⟩, ⟨.t 45, none, .mv, [.l 0]⟩, ⟨.t 46, none, .nilchk, [.t 45]⟩, ⟨.t 47, none, (.fad 0), [.t 46]⟩, ⟨.t 48, none, (.ld none), [.t 47]⟩, ⟨.t 49, none, .lenSl, [.t 48]⟩, ⟨.t 50, none, (.bin .sub), [.t 49, .c (.i .i64 1)]⟩, ⟨.t 51, none, (.call 96), [.t 44, .t 50]⟩])
 (.seq (.reg [⟨.l 6, none, .mv, [.c (.i .i64 0)]⟩])
 .ret))))))), [.tmp (.l 6)]⟩
theorem c87 : compFn Try.prog b87 Try.f87 = some a87 := by kernel_rfl
/-- (*tarpaulin/wait.Queue).Pop -/
def b88 : Nat := 13
theorem c88 : compFn Try.prog b88 Try.f88 = some (c_wait_Queue_Pop Nn) := by kernel_rfl
/-- (*tarpaulin/heap.Heap).Len -/
def b89 : Nat := 5
def a89 : AFn := ⟨(.seq (.reg [⟨.l 2, none, .mv, [.c (.i .i64 0)]⟩])
 (.seq (.seq (.reg [⟨.t 3, none, .mv, [.l 0]⟩, ⟨.t 4, none, (.eq false .ptr), [.t 3, .c (.p none)]⟩])
 (.cond (.t 4) (.seq (.reg [⟨.l 2, none, .mv, [.c (.i .i64 0)]⟩])
 .ret) .skip))
 (.seq (.reg [⟨.t 5, none, .mv, [.l 0]⟩, ⟨.t 6, none, .nilchk, [.t 5]⟩, ⟨.t 7, none, (.fad 0), [.t 6]⟩, ⟨.t 8, none, (.ld none), [.t 7]⟩, ⟨.t 9, none, .lenSl, [.t 8]⟩, ⟨.l 2, none, .mv, [.t 9]⟩])
 .ret))), [.tmp (.l 2)]⟩
theorem c89 : compFn Try.prog b89 Try.f89 = some a89 := by kernel_rfl
/-- (*tarpaulin/tarpaulinref1.Tree).Add -/
def b90 : Nat := 199
def a90 : AFn := ⟨(.seq (.reg [⟨.l 6, none, .mv, [.c (.i .i64 0)]⟩, ⟨.l 7, none, .mv, [.c (.i .i64 0)]⟩])
 (.seq (.seq (.reg [⟨.t 8, none, .mv, [.l 1]⟩, ⟨.t 9, none, (.bin .lss), [.t 8, .c (.i .i64 (-1))]⟩, ⟨.t 10, none, .mv, [.t 9]⟩, ⟨.t 11, (some (.t 10, false)), .mv, [.l 1]⟩, ⟨.t 12, (some (.t 10, false)), .mv, [.l 0]⟩, ⟨.t 13, (some (.t 10, false)), .nilchk, [.t 12]⟩, ⟨.t 14, (some (.t 10, false)), (.fad 0), [.t 13]⟩, ⟨.t 15, (some (.t 10, false)), (.ld none), [.t 14]⟩, ⟨.t 16, (some (.t 10, false)), .lenSl, [.t 15]⟩, ⟨.t 17, (some (.t 10, false)), (.bin .geq), [.t 11, .t 16]⟩, ⟨.t 18, none, .pick, [.t 10, .c (.b true), .t 17]⟩])
 (.cond (.t 18) (.seq (.reg [⟨.l 6, none, .mv, [.c (.i .i64 0)]⟩, ⟨.l 7, none, .mv, [.c (.i .i64 1)]⟩])
 .ret) .skip))
 (.seq (.seq (.reg [⟨.t 19, none, .mv, [.l 0]⟩, ⟨.t 20, none, .nilchk, [.t 19]⟩, ⟨.t 21, none, (.fad 0), [.t 20]⟩, ⟨.t 22, none, (.ld none), [.t 21]⟩, ⟨.t 23, none, .lenSl, [.t 22]⟩, ⟨.t 24, none, (.bin .geq), [.t 23, .c (.i .i64 1000)]⟩])
 (.cond (.t 24) (.seq (.reg [⟨.l 6, none, .mv, [.c (.i .i64 0)]⟩, ⟨.l 7, none, .mv, [.c (.i .i64 3)]⟩])
 .ret) .skip))
 (.seq (.reg [⟨.t 25, none, .mv, [.l 0]⟩, ⟨.t 26, none, .mv, [.l 0]⟩, ⟨.t 27, none, .nilchk, [.t 26]⟩, ⟨.t 28, none, (.fad 0), [.t 27]⟩, ⟨.t 29, none, (.ld none), [.t 28]⟩, ⟨.t 30, none, .mv, [.l 1]⟩, ⟨.t 31, none, .mv, [.l 2]⟩, ⟨.t 32, none, .mv, [.t 31]⟩, ⟨.t 33, (some (.t 32, true)), .mv, [.l 1]⟩, ⟨.t 34, (some (.t 32, true)), (.bin .geq), [.t 33, .c (.i .i64 0)]⟩, ⟨.t 35, none, .pick, [.t 32, .t 34, .c (.b false)]⟩, ⟨.t 36, none, (.build [(.i .i64 0), (.b false)] [(0, 1), (1, 1)]), [.t 30, .t 35]⟩, ⟨.t 37, none, (.bslice [(.i .i64 0), (.b false)] 1 2 [0]), [.t 36]⟩, ⟨.t 38, none, (.app 2 16), [.t 29, .t 37]⟩, ⟨.t 39, none, .nilchk, [.t 25]⟩, ⟨.t 40, none, (.fad 0), [.t 39]⟩, ⟨.no, none, (.st 1), [.t 40, .t 38]⟩])
 (.seq (.reg [⟨.t 41, none, .mv, [.l 0]⟩, ⟨.t 42, none, .nilchk, [.t 41]⟩, ⟨.t 43, none, (.fad 0), [.t 42]⟩, ⟨.t 44, none, (.ld none), [.t 43]⟩, ⟨.t 45, none, .lenSl, [.t 44]⟩, ⟨.t 46, none, (.bin .sub), [.t 45, .c (.i .i64 1)]⟩, ⟨.l 6, none, .mv, [.t 46]⟩, ⟨.l 7, none, .mv, [.c (.i .i64 0)]⟩])
 .ret))))), [.tmp (.l 6), .tmp (.l 7)]⟩
theorem c90 : compFn Try.prog b90 Try.f90 = some a90 := by kernel_rfl
/-- slices.ContainsFunc[[]tarpaulin/api.Wake,tarpaulin/api.Wake] -/
def b91 : Nat := 19
theorem c91 : compFn Try.prog b91 Try.f91 = some (c_slices_ContainsFunc_WakeWake Nn) := by kernel_rfl
/-- (*tarpaulin/chanq.Chan).end$1 -/
def b92 : Nat := 15
theorem c92 : compFn Try.prog b92 Try.f92 = some (c_chanq_Chan_end_1 Nn) := by kernel_rfl
/-- (*tarpaulin/ring.Ring).Clear -/
def b93 : Nat := 13
theorem c93 : compFn Try.prog b93 Try.f93 = some (c_ring_Ring_Clear Nn) := by kernel_rfl
/-- (*tarpaulin/heap.Heap).Find -/
def b94 : Nat := 243
theorem c94 : compFn Try.prog b94 Try.f94 = some (c_heap_Heap_Find Nn) := by kernel_rfl
/-- (*tarpaulin/heap.Heap).put -/
def b95 : Nat := 39
theorem c95 : compFn Try.prog b95 Try.f95 = some (c_heap_Heap_put Nn) := by kernel_rfl
/-- (*tarpaulin/heap.Heap).up -/
def b96 : Nat := 19
theorem c96 : compFn Try.prog b96 Try.f96 = some (c_heap_Heap_up Nn) := by kernel_rfl
/-- (*tarpaulin/heap.Heap).down -/
def b97 : Nat := 243
theorem c97 : compFn Try.prog b97 Try.f97 = some (c_heap_Heap_down Nn) := by kernel_rfl
/-- (*tarpaulin/wait.Queue).take -/
def b98 : Nat := 115
theorem c98 : compFn Try.prog b98 Try.f98 = some (c_wait_Queue_take Nn) := by kernel_rfl
/-- (*tarpaulin/wait.Queue).Pop$1 -/
def b99 : Nat := 5
theorem c99 : compFn Try.prog b99 Try.f99 = some (c_wait_Queue_Pop_1 Nn) := by kernel_rfl
/-- slices.IndexFunc[[]tarpaulin/api.Wake,tarpaulin/api.Wake] -/
def b100 : Nat := 435
theorem c100 : compFn Try.prog b100 Try.f100 = some (c_slices_IndexFunc_WakeWake Nn) := by kernel_rfl
/-- tarpaulin/heap.ahead -/
def b101 : Nat := 31
theorem c101 : compFn Try.prog b101 Try.f101 = some (c_heap_ahead Nn) := by kernel_rfl
/-- (*tarpaulin/wait.Queue).drop -/
def b102 : Nat := 3
theorem c102 : compFn Try.prog b102 Try.f102 = some (c_wait_Queue_drop Nn) := by kernel_rfl
/-- cmp.Or[int] -/
def b103 : Nat := 493
theorem c103 : compFn Try.prog b103 Try.f103 = some (c_cmp_Or_int Nn) := by kernel_rfl
/-- cmp.Compare[int] -/
def b104 : Nat := 115
theorem c104 : compFn Try.prog b104 Try.f104 = some (c_cmp_Compare_int Nn) := by kernel_rfl
/-- cmp.isNaN[int] -/
def b105 : Nat := 5
theorem c105 : compFn Try.prog b105 Try.f105 = some (c_cmp_isNaN_int Nn) := by kernel_rfl
noncomputable def tbl : Nat → Option AFn
  | 4 => some (c_tarpaulinlaw15_CtxAfters Nn)
  | 10 => some a10
  | 11 => some (c_ctx_New Nn)
  | 12 => some a12
  | 13 => some (c_tarpaulinalike_Round Nn)
  | 14 => some a14
  | 15 => some (c_ctx_Set_Cancels Nn)
  | 16 => some (c_ctx_Set_Cancel Nn)
  | 17 => some a17
  | 18 => some a18
  | 19 => some (c_ctx_Set_After Nn)
  | 20 => some (c_ctx_Set_Unafter Nn)
  | 21 => some a21
  | 25 => some a25
  | 30 => some a30
  | 31 => some a31
  | 32 => some (c_tree_New Nn)
  | 33 => some (c_ctx_Set_add Nn)
  | 34 => some a34
  | 35 => some (c_ctx_Set_room Nn)
  | 36 => some (c_chanq_Signal Nn)
  | 37 => some (c_ctx_Set_begin Nn)
  | 38 => some (c_ctx_Set_has Nn)
  | 39 => some (c_ctx_Set_cancel Nn)
  | 40 => some (c_tree_Tree_Add Nn)
  | 41 => some (c_ctx_Set_start Nn)
  | 42 => some (c_tree_Tree_Detach Nn)
  | 43 => some a43
  | 44 => some a44
  | 54 => some a54
  | 55 => some a55
  | 56 => some a56
  | 57 => some (c_chanq_New Nn)
  | 58 => some (c_chanq_Chan_End Nn)
  | 59 => some (c_timer_Set_Stop Nn)
  | 60 => some (c_tree_Tree_Kids Nn)
  | 61 => some (c_tree_Tree_has Nn)
  | 62 => some (c_slices_Index_intint Nn)
  | 63 => some (c_slices_Delete_intint Nn)
  | 64 => some a64
  | 65 => some a65
  | 66 => some (c_ring_Ring_Len Nn)
  | 71 => some a71
  | 74 => some a74
  | 75 => some a75
  | 76 => some (c_ring_New Nn)
  | 77 => some (c_wait_New Nn)
  | 78 => some (c_chanq_Chan_end Nn)
  | 79 => some (c_timer_Set_has Nn)
  | 80 => some (c_expire_Timers_Stop Nn)
  | 81 => some (c_chanq_Chan_Drop Nn)
  | 82 => some (c_slices_Clone_intint Nn)
  | 83 => some (c_tree_Tree_Len Nn)
  | 84 => some a84
  | 85 => some a85
  | 86 => some (c_heap_Heap_Remove Nn)
  | 87 => some a87
  | 88 => some (c_wait_Queue_Pop Nn)
  | 89 => some a89
  | 90 => some a90
  | 91 => some (c_slices_ContainsFunc_WakeWake Nn)
  | 92 => some (c_chanq_Chan_end_1 Nn)
  | 93 => some (c_ring_Ring_Clear Nn)
  | 94 => some (c_heap_Heap_Find Nn)
  | 95 => some (c_heap_Heap_put Nn)
  | 96 => some (c_heap_Heap_up Nn)
  | 97 => some (c_heap_Heap_down Nn)
  | 98 => some (c_wait_Queue_take Nn)
  | 99 => some (c_wait_Queue_Pop_1 Nn)
  | 100 => some (c_slices_IndexFunc_WakeWake Nn)
  | 101 => some (c_heap_ahead Nn)
  | 102 => some (c_wait_Queue_drop Nn)
  | 103 => some (c_cmp_Or_int Nn)
  | 104 => some (c_cmp_Compare_int Nn)
  | 105 => some (c_cmp_isNaN_int Nn)
  | _ => none
theorem ok : TblOk Try.prog tbl := by
  intro f fn h
  unfold tbl at h
  split at h
  · cases h; exact .inl ⟨b4, _, Try.func4, c4⟩
  · cases h; exact .inl ⟨b10, _, Try.func10, c10⟩
  · cases h; exact .inl ⟨b11, _, Try.func11, c11⟩
  · cases h; exact .inl ⟨b12, _, Try.func12, c12⟩
  · cases h; exact .inl ⟨b13, _, Try.func13, c13⟩
  · cases h; exact .inl ⟨b14, _, Try.func14, c14⟩
  · cases h; exact .inl ⟨b15, _, Try.func15, c15⟩
  · cases h; exact .inl ⟨b16, _, Try.func16, c16⟩
  · cases h; exact .inl ⟨b17, _, Try.func17, c17⟩
  · cases h; exact .inl ⟨b18, _, Try.func18, c18⟩
  · cases h; exact .inl ⟨b19, _, Try.func19, c19⟩
  · cases h; exact .inl ⟨b20, _, Try.func20, c20⟩
  · cases h; exact .inl ⟨b21, _, Try.func21, c21⟩
  · cases h; exact .inl ⟨b25, _, Try.func25, c25⟩
  · cases h; exact .inl ⟨b30, _, Try.func30, c30⟩
  · cases h; exact .inl ⟨b31, _, Try.func31, c31⟩
  · cases h; exact .inl ⟨b32, _, Try.func32, c32⟩
  · cases h; exact .inl ⟨b33, _, Try.func33, c33⟩
  · cases h; exact .inl ⟨b34, _, Try.func34, c34⟩
  · cases h; exact .inl ⟨b35, _, Try.func35, c35⟩
  · cases h; exact .inl ⟨b36, _, Try.func36, c36⟩
  · cases h; exact .inl ⟨b37, _, Try.func37, c37⟩
  · cases h; exact .inl ⟨b38, _, Try.func38, c38⟩
  · cases h; exact .inl ⟨b39, _, Try.func39, c39⟩
  · cases h; exact .inl ⟨b40, _, Try.func40, c40⟩
  · cases h; exact .inl ⟨b41, _, Try.func41, c41⟩
  · cases h; exact .inl ⟨b42, _, Try.func42, c42⟩
  · cases h; exact .inl ⟨b43, _, Try.func43, c43⟩
  · cases h; exact .inl ⟨b44, _, Try.func44, c44⟩
  · cases h; exact .inl ⟨b54, _, Try.func54, c54⟩
  · cases h; exact .inl ⟨b55, _, Try.func55, c55⟩
  · cases h; exact .inl ⟨b56, _, Try.func56, c56⟩
  · cases h; exact .inl ⟨b57, _, Try.func57, c57⟩
  · cases h; exact .inl ⟨b58, _, Try.func58, c58⟩
  · cases h; exact .inl ⟨b59, _, Try.func59, c59⟩
  · cases h; exact .inl ⟨b60, _, Try.func60, c60⟩
  · cases h; exact .inl ⟨b61, _, Try.func61, c61⟩
  · cases h; exact .inl ⟨b62, _, Try.func62, c62⟩
  · cases h; exact .inl ⟨b63, _, Try.func63, c63⟩
  · cases h; exact .inl ⟨b64, _, Try.func64, c64⟩
  · cases h; exact .inl ⟨b65, _, Try.func65, c65⟩
  · cases h; exact .inl ⟨b66, _, Try.func66, c66⟩
  · cases h; exact .inl ⟨b71, _, Try.func71, c71⟩
  · cases h; exact .inl ⟨b74, _, Try.func74, c74⟩
  · cases h; exact .inl ⟨b75, _, Try.func75, c75⟩
  · cases h; exact .inl ⟨b76, _, Try.func76, c76⟩
  · cases h; exact .inl ⟨b77, _, Try.func77, c77⟩
  · cases h; exact .inl ⟨b78, _, Try.func78, c78⟩
  · cases h; exact .inl ⟨b79, _, Try.func79, c79⟩
  · cases h; exact .inl ⟨b80, _, Try.func80, c80⟩
  · cases h; exact .inl ⟨b81, _, Try.func81, c81⟩
  · cases h; exact .inl ⟨b82, _, Try.func82, c82⟩
  · cases h; exact .inl ⟨b83, _, Try.func83, c83⟩
  · cases h; exact .inl ⟨b84, _, Try.func84, c84⟩
  · cases h; exact .inl ⟨b85, _, Try.func85, c85⟩
  · cases h; exact .inl ⟨b86, _, Try.func86, c86⟩
  · cases h; exact .inl ⟨b87, _, Try.func87, c87⟩
  · cases h; exact .inl ⟨b88, _, Try.func88, c88⟩
  · cases h; exact .inl ⟨b89, _, Try.func89, c89⟩
  · cases h; exact .inl ⟨b90, _, Try.func90, c90⟩
  · cases h; exact .inl ⟨b91, _, Try.func91, c91⟩
  · cases h; exact .inl ⟨b92, _, Try.func92, c92⟩
  · cases h; exact .inl ⟨b93, _, Try.func93, c93⟩
  · cases h; exact .inl ⟨b94, _, Try.func94, c94⟩
  · cases h; exact .inl ⟨b95, _, Try.func95, c95⟩
  · cases h; exact .inl ⟨b96, _, Try.func96, c96⟩
  · cases h; exact .inl ⟨b97, _, Try.func97, c97⟩
  · cases h; exact .inl ⟨b98, _, Try.func98, c98⟩
  · cases h; exact .inl ⟨b99, _, Try.func99, c99⟩
  · cases h; exact .inl ⟨b100, _, Try.func100, c100⟩
  · cases h; exact .inl ⟨b101, _, Try.func101, c101⟩
  · cases h; exact .inl ⟨b102, _, Try.func102, c102⟩
  · cases h; exact .inl ⟨b103, _, Try.func103, c103⟩
  · cases h; exact .inl ⟨b104, _, Try.func104, c104⟩
  · cases h; exact .inl ⟨b105, _, Try.func105, c105⟩
  · cases h
theorem mixed : Try.prog.follows .mixedOrders = true := by kernel_rfl
theorem awake10 : KnownTrue Try.prog 10 := known mixed ok Try.func10 c10 (n := 100000) (by kernel_rfl)
/-- the table, with what is known -/
noncomputable def tblK (f : Nat) : Option AFn := bif Nat.beq f 10 then some kTrue else tbl f
theorem okK : TblOk Try.prog tblK := by
  intro f fn h
  unfold tblK at h
  cases h10 : Nat.beq f 10
  case true =>
    rw [h10] at h
    cases h
    exact .inr ⟨rfl, by rw [beq_nat, decide_eq_true_eq] at h10; subst h10; exact awake10⟩
  rw [h10] at h
  exact ok f fn h
theorem h_tree_New : H_tree_New Nn tblK := ⟨by kernel_rfl⟩
theorem h_tree_Tree_Len : H_tree_Tree_Len Nn tblK := ⟨by kernel_rfl⟩
theorem h_tree_Tree_has : H_tree_Tree_has Nn tblK := ⟨by kernel_rfl, h_tree_Tree_Len⟩
theorem h_tree_Tree_Add : H_tree_Tree_Add Nn tblK := ⟨by kernel_rfl, h_tree_Tree_has⟩
theorem h_ctx_Set_add : H_ctx_Set_add Nn tblK := ⟨by kernel_rfl, h_tree_Tree_Add⟩
theorem h_ctx_New : H_ctx_New Nn tblK := ⟨by kernel_rfl, h_tree_New, h_ctx_Set_add⟩
theorem h_ctx_Set_has : H_ctx_Set_has Nn tblK := ⟨by kernel_rfl⟩
theorem h_ctx_Set_room : H_ctx_Set_room Nn tblK := ⟨by kernel_rfl, h_ctx_Set_has⟩
theorem h_ring_New : H_ring_New Nn tblK := ⟨by kernel_rfl⟩
theorem h_wait_New : H_wait_New Nn tblK := ⟨by kernel_rfl⟩
theorem h_chanq_New : H_chanq_New Nn tblK := ⟨by kernel_rfl, h_ring_New, h_wait_New⟩
theorem h_chanq_Signal : H_chanq_Signal Nn tblK := ⟨by kernel_rfl, h_chanq_New⟩
theorem h_wait_Queue_drop : H_wait_Queue_drop Nn tblK := ⟨by kernel_rfl⟩
theorem h_wait_Queue_take : H_wait_Queue_take Nn tblK := ⟨by kernel_rfl, h_wait_Queue_drop⟩
theorem h_wait_Queue_Pop_1 : H_wait_Queue_Pop_1 Nn tblK := ⟨by kernel_rfl⟩
theorem h_wait_Queue_Pop : H_wait_Queue_Pop Nn tblK := ⟨by kernel_rfl, h_wait_Queue_take, h_wait_Queue_Pop_1⟩
theorem h_chanq_Chan_end_1 : H_chanq_Chan_end_1 Nn tblK := ⟨by kernel_rfl⟩
theorem h_slices_IndexFunc_WakeWake : H_slices_IndexFunc_WakeWake Nn tblK := ⟨by kernel_rfl⟩
theorem h_slices_ContainsFunc_WakeWake : H_slices_ContainsFunc_WakeWake Nn tblK := ⟨by kernel_rfl, h_slices_IndexFunc_WakeWake⟩
theorem h_chanq_Chan_end : H_chanq_Chan_end Nn tblK := ⟨by kernel_rfl, h_wait_Queue_Pop, h_chanq_Chan_end_1, h_slices_ContainsFunc_WakeWake⟩
theorem h_chanq_Chan_End : H_chanq_Chan_End Nn tblK := ⟨by kernel_rfl, h_chanq_Chan_end⟩
theorem h_timer_Set_has : H_timer_Set_has Nn tblK := ⟨by kernel_rfl⟩
theorem h_heap_Heap_Find : H_heap_Heap_Find Nn tblK := ⟨by kernel_rfl⟩
theorem h_heap_Heap_put : H_heap_Heap_put Nn tblK := ⟨by kernel_rfl⟩
theorem h_cmp_isNaN_int : H_cmp_isNaN_int Nn tblK := ⟨by kernel_rfl⟩
theorem h_cmp_Compare_int : H_cmp_Compare_int Nn tblK := ⟨by kernel_rfl, h_cmp_isNaN_int⟩
theorem h_cmp_Or_int : H_cmp_Or_int Nn tblK := ⟨by kernel_rfl⟩
theorem h_heap_ahead : H_heap_ahead Nn tblK := ⟨by kernel_rfl, h_cmp_Compare_int, h_cmp_Or_int⟩
theorem h_heap_Heap_up : H_heap_Heap_up Nn tblK := ⟨by kernel_rfl, h_heap_ahead, h_heap_Heap_put⟩
theorem h_heap_Heap_down : H_heap_Heap_down Nn tblK := ⟨by kernel_rfl, h_heap_ahead, h_heap_Heap_put⟩
theorem h_heap_Heap_Remove : H_heap_Heap_Remove Nn tblK := ⟨by kernel_rfl, h_heap_Heap_Find, h_heap_Heap_put, h_heap_Heap_up, h_heap_Heap_down⟩
theorem h_expire_Timers_Stop : H_expire_Timers_Stop Nn tblK := ⟨by kernel_rfl, h_heap_Heap_Remove⟩
theorem h_ring_Ring_Len : H_ring_Ring_Len Nn tblK := ⟨by kernel_rfl⟩
theorem h_ring_Ring_Clear : H_ring_Ring_Clear Nn tblK := ⟨by kernel_rfl, h_ring_Ring_Len⟩
theorem h_chanq_Chan_Drop : H_chanq_Chan_Drop Nn tblK := ⟨by kernel_rfl, h_ring_Ring_Clear⟩
theorem h_timer_Set_Stop : H_timer_Set_Stop Nn tblK := ⟨by kernel_rfl, h_timer_Set_has, h_expire_Timers_Stop, h_chanq_Chan_Drop⟩
theorem h_slices_Clone_intint : H_slices_Clone_intint Nn tblK := ⟨by kernel_rfl⟩
theorem h_tree_Tree_Kids : H_tree_Tree_Kids Nn tblK := ⟨by kernel_rfl, h_tree_Tree_has, h_slices_Clone_intint⟩
theorem h_slices_Index_intint : H_slices_Index_intint Nn tblK := ⟨by kernel_rfl⟩
theorem h_slices_Delete_intint : H_slices_Delete_intint Nn tblK := ⟨by kernel_rfl⟩
theorem h_tree_Tree_Detach : H_tree_Tree_Detach Nn tblK := ⟨by kernel_rfl, h_tree_Tree_has, h_slices_Index_intint, h_slices_Delete_intint⟩
theorem h_ctx_Set_start : H_ctx_Set_start Nn tblK := ⟨by kernel_rfl, h_tree_Tree_Detach⟩
theorem h_ctx_Set_cancel : H_ctx_Set_cancel Nn tblK := ⟨by kernel_rfl, h_chanq_Chan_End, h_timer_Set_Stop, h_tree_Tree_Kids, h_ctx_Set_start, h_tree_Tree_Detach⟩
theorem h_ctx_Set_begin : H_ctx_Set_begin Nn tblK := ⟨by kernel_rfl, h_ctx_Set_cancel⟩
theorem h_ctx_Set_Cancels : H_ctx_Set_Cancels Nn tblK := ⟨by kernel_rfl, h_ctx_Set_room, h_chanq_Signal, h_ctx_Set_add, h_ctx_Set_begin⟩
theorem h_tarpaulinalike_Round : H_tarpaulinalike_Round Nn tblK := ⟨by kernel_rfl⟩
theorem h_ctx_Set_After : H_ctx_Set_After Nn tblK := ⟨by kernel_rfl, h_ctx_Set_has, h_tree_Tree_Add, h_ctx_Set_start⟩
theorem h_ctx_Set_Unafter : H_ctx_Set_Unafter Nn tblK := ⟨by kernel_rfl, h_tree_Tree_Detach⟩
theorem h_ctx_Set_Cancel : H_ctx_Set_Cancel Nn tblK := ⟨by kernel_rfl, h_ctx_Set_has, h_ctx_Set_cancel⟩
theorem ctxAfters_call {L : Lg} (l0 : List Int) (x0 : AV) (s0 : ArgSl L x0 (icl l0) l0.length 1) (l1 : List Bool) (x1 : AV) (s1 : ArgSl L x1 (bcl l1) l1.length 1) (a2 : Int) : CallL tblK 4 [x0, x1, .i .i64 a2] L fun v _ => v = .b true :=
  ctxAfters_law (N := Nn) (F := tblK) (by kernel_rfl) (by kernel_rfl) h_ctx_New h_ctx_Set_Cancels h_tarpaulinalike_Round h_ctx_Set_After h_ctx_Set_Unafter h_ctx_Set_Cancel l0 x0 s0 l1 x1 s1 a2
end Go.Proofs.Ytddabelahpdekaa.T
