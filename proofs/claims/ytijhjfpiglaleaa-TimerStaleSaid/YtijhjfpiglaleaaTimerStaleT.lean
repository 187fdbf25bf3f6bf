/- The code of the functions that TimerStale reaches, and that it is compiled from the seat's program. PRINTED by our claimlib.py over our printam.lean. -/
import Derived.Test.YtijhjfpiglaleaaChecked
import Derived.Test.YtijhjfpiglaleaaLawTimerStale
import Derived.KernelRfl
set_option maxRecDepth 100000
set_option linter.unusedVariables false
namespace Go.Proofs.Ytijhjfpiglaleaa.T
open Go.AM
/-- which of the program's functions a name stands for -/
def Nn (k : Nat) : Nat := bif Nat.beq k 1 then 71 else bif Nat.beq k 2 then 62 else bif Nat.beq k 3 then 57 else bif Nat.beq k 4 then 44 else bif Nat.beq k 5 then 42 else bif Nat.beq k 6 then 49 else bif Nat.beq k 7 then 50 else bif Nat.beq k 8 then 64 else bif Nat.beq k 9 then 77 else bif Nat.beq k 10 then 12 else bif Nat.beq k 11 then 76 else bif Nat.beq k 12 then 65 else bif Nat.beq k 13 then 66 else bif Nat.beq k 14 then 43 else bif Nat.beq k 15 then 54 else bif Nat.beq k 16 then 53 else bif Nat.beq k 17 then 48 else bif Nat.beq k 18 then 78 else bif Nat.beq k 19 then 55 else bif Nat.beq k 20 then 31 else bif Nat.beq k 21 then 11 else bif Nat.beq k 22 then 69 else bif Nat.beq k 23 then 60 else bif Nat.beq k 24 then 38 else bif Nat.beq k 25 then 72 else bif Nat.beq k 26 then 73 else bif Nat.beq k 27 then 82 else bif Nat.beq k 28 then 81 else bif Nat.beq k 29 then 80 else bif Nat.beq k 30 then 79 else bif Nat.beq k 31 then 74 else bif Nat.beq k 32 then 75 else bif Nat.beq k 33 then 63 else bif Nat.beq k 34 then 40 else bif Nat.beq k 35 then 68 else bif Nat.beq k 36 then 58 else bif Nat.beq k 37 then 39 else bif Nat.beq k 38 then 32 else bif Nat.beq k 39 then 35 else bif Nat.beq k 40 then 15 else bif Nat.beq k 41 then 70 else bif Nat.beq k 42 then 61 else bif Nat.beq k 43 then 36 else bif Nat.beq k 44 then 56 else bif Nat.beq k 45 then 33 else bif Nat.beq k 46 then 59 else bif Nat.beq k 47 then 34 else bif Nat.beq k 48 then 14 else bif Nat.beq k 49 then 37 else bif Nat.beq k 50 then 41 else bif Nat.beq k 51 then 22 else bif Nat.beq k 52 then 23 else bif Nat.beq k 53 then 13 else bif Nat.beq k 54 then 18 else bif Nat.beq k 55 then 16 else bif Nat.beq k 56 then 45 else bif Nat.beq k 57 then 46 else bif Nat.beq k 58 then 47 else bif Nat.beq k 59 then 26 else bif Nat.beq k 60 then 21 else bif Nat.beq k 61 then 10 else bif Nat.beq k 90 then 19 else bif Nat.beq k 91 then 25 else bif Nat.beq k 94 then 51 else bif Nat.beq k 95 then 30 else bif Nat.beq k 96 then 67 else bif Nat.beq k 97 then 52 else bif Nat.beq k 98 then 29 else bif Nat.beq k 102 then 17 else bif Nat.beq k 103 then 24 else bif Nat.beq k 104 then 20 else bif Nat.beq k 108 then 27 else bif Nat.beq k 109 then 28 else bif Nat.beq k 115 then 8 else 0
/-- tarpaulin/tarpaulinlaw13.TimerStale -/
def b8 : Nat := 37778931862957256081351
theorem c8 : compFn Try.prog b8 Try.f8 = some (c_tarpaulinlaw13_TimerStale Nn) := by kernel_rfl
/-- tarpaulin/tarpaulinlaw13.awake -/
def b10 : Nat := 654049279
def a10 : AFn := ⟨(.seq (.reg [⟨.l 0, none, .mv, [.c (.b false)]⟩])
 (.seq (.reg [⟨.t 30, none, (.call 11), []⟩, ⟨.l 1, none, .mv, [.t 30]⟩])
 (.seq (.seq (.reg [⟨.t 31, none, .mv, [.l 1]⟩, ⟨.t 32, none, (.eq false .ptr), [.t 31, .c (.p none)]⟩])
 (.cond (.t 32) (.seq (.reg [⟨.l 0, none, .mv, [.c (.b false)]⟩])
 .ret) .skip))
 (.seq (.reg [⟨.t 34, none, .mv, [.l 1]⟩, ⟨.t 35, none, (.call 15), [.t 34, .c (.i .i64 5), .c (.i .i64 3)]⟩, ⟨.t 33, none, .mv, [.t 35]⟩, ⟨.t 36, none, (.ext 0), [.t 33]⟩, ⟨.t 37, none, (.ext 1), [.t 33]⟩, ⟨.t 38, none, (.ext 2), [.t 33]⟩, ⟨.l 2, none, .mv, [.t 36]⟩, ⟨.l 3, none, .mv, [.t 37]⟩, ⟨.l 4, none, .mv, [.t 38]⟩])
 (.seq (.reg [⟨.t 40, none, .mv, [.l 1]⟩, ⟨.t 41, none, (.call 14), [.t 40, .c (.i .i64 9)]⟩, ⟨.t 39, none, .mv, [.t 41]⟩, ⟨.t 42, none, (.ext 0), [.t 39]⟩, ⟨.t 43, none, (.ext 1), [.t 39]⟩, ⟨.l 5, none, (.alloc [(.i .i64 0), (.i .i64 0), (.i .i64 0), (.i .i64 0), (.i .i64 0), (.sl none 0 0 0), (.b false)]), []⟩, ⟨.no, none, (.st 7), [.l 5, .t 42]⟩, ⟨.l 6, none, .mv, [.t 43]⟩])
 (.seq (.reg [⟨.t 45, none, .mv, [.l 1]⟩, ⟨.t 46, none, .mv, [.l 2]⟩, ⟨.t 47, none, (.call 22), [.t 45, .t 46]⟩, ⟨.t 44, none, .mv, [.t 47]⟩, ⟨.t 48, none, (.ext 0), [.t 44]⟩, ⟨.t 49, none, (.ext 1), [.t 44]⟩, ⟨.l 7, none, .mv, [.t 48]⟩, ⟨.l 8, none, .mv, [.t 49]⟩])
 (.seq (.reg [⟨.t 51, none, .mv, [.l 1]⟩, ⟨.t 52, none, (.call 23), [.t 51, .c (.i .i64 9), .c (.i .i64 0)]⟩, ⟨.t 50, none, .mv, [.t 52]⟩, ⟨.t 53, none, (.ext 0), [.t 50]⟩, ⟨.t 54, none, (.ext 1), [.t 50]⟩, ⟨.t 55, none, (.ext 2), [.t 50]⟩, ⟨.l 9, none, .mv, [.t 53]⟩, ⟨.l 10, none, .mv, [.t 54]⟩, ⟨.l 11, none, .mv, [.t 55]⟩])
 (.seq (.reg [⟨.t 57, none, .mv, [.l 1]⟩, ⟨.t 58, none, (.call 13), [.t 57, .c (.i .i64 9), .c (.i .i64 1), .c (.i .i64 2)]⟩, ⟨.t 56, none, .mv, [.t 58]⟩, ⟨.t 59, none, (.ext 0), [.t 56]⟩, ⟨.t 60, none, (.ext 1), [.t 56]⟩, ⟨.l 12, none, .mv, [.t 59]⟩, ⟨.l 13, none, .mv, [.t 60]⟩])
 (.seq (.reg [⟨.t 62, none, .mv, [.l 1]⟩, ⟨.t 63, none, .mv, [.l 12]⟩, ⟨.t 64, none, (.call 18), [.t 62, .t 63, .c (.i .i64 9), .c (.i .i64 10)]⟩, ⟨.t 61, none, .mv, [.t 64]⟩, ⟨.t 65, none, (.ext 0), [.t 61]⟩, ⟨.t 66, none, (.ext 1), [.t 61]⟩, ⟨.l 14, none, .mv, [.t 65]⟩, ⟨.l 15, none, .mv, [.t 66]⟩])
 (.seq (.reg [⟨.t 68, none, .mv, [.l 1]⟩, ⟨.t 69, none, (.call 16), [.t 68, .c (.i .i64 12), .c (.i .i64 4)]⟩, ⟨.t 67, none, .mv, [.t 69]⟩, ⟨.t 70, none, (.ext 0), [.t 67]⟩, ⟨.t 71, none, (.ext 1), [.t 67]⟩, ⟨.l 16, none, .mv, [.t 70]⟩, ⟨.l 17, none, .mv, [.t 71]⟩])
 (.seq (.reg [⟨.t 73, none, .mv, [.l 1]⟩, ⟨.t 74, none, .mv, [.l 16]⟩, ⟨.t 75, none, (.call 18), [.t 73, .t 74, .c (.i .i64 9), .c (.i .i64 1)]⟩, ⟨.t 72, none, .mv, [.t 75]⟩, ⟨.t 76, none, (.ext 0), [.t 72]⟩, ⟨.t 77, none, (.ext 1), [.t 72]⟩, ⟨.t 18, none, .mv, [.t 76]⟩, ⟨.l 19, none, .mv, [.t 77]⟩])
 (.seq (.reg [⟨.t 79, none, .mv, [.l 1]⟩, ⟨.t 80, none, (.call 14), [.t 79, .c (.i .i64 20)]⟩, ⟨.t 78, none, .mv, [.t 80]⟩, ⟨.t 81, none, (.ext 0), [.t 78]⟩, ⟨.t 82, none, (.ext 1), [.t 78]⟩, ⟨.l 20, none, (.alloc [(.i .i64 0), (.i .i64 0), (.i .i64 0), (.i .i64 0), (.i .i64 0), (.sl none 0 0 0), (.b false)]), []⟩, ⟨.no, none, (.st 7), [.l 20, .t 81]⟩, ⟨.l 21, none, .mv, [.t 82]⟩])
 (.seq (.reg [⟨.t 84, none, .mv, [.l 1]⟩, ⟨.t 85, none, (.call 14), [.t 84, .c (.i .i64 20)]⟩, ⟨.t 83, none, .mv, [.t 85]⟩, ⟨.t 86, none, (.ext 0), [.t 83]⟩, ⟨.t 87, none, (.ext 1), [.t 83]⟩, ⟨.l 22, none, (.alloc [(.i .i64 0), (.i .i64 0), (.i .i64 0), (.i .i64 0), (.i .i64 0), (.sl none 0 0 0), (.b false)]), []⟩, ⟨.no, none, (.st 7), [.l 22, .t 86]⟩, ⟨.l 23, none, .mv, [.t 87]⟩])
 (.seq (.reg [⟨.t 89, none, .mv, [.l 1]⟩, ⟨.t 90, none, (.call 22), [.t 89, .c (.i .i64 99)]⟩, ⟨.t 88, none, .mv, [.t 90]⟩, ⟨.t 91, none, (.ext 0), [.t 88]⟩, ⟨.t 92, none, (.ext 1), [.t 88]⟩, ⟨.t 24, none, .mv, [.t 91]⟩, ⟨.l 25, none, .mv, [.t 92]⟩])
 (.seq (.reg [⟨.l 26, none, .mv, [.c (.p none)]⟩])
 (.seq (.reg [⟨.t 94, none, .mv, [.l 26]⟩, ⟨.t 95, none, (.call 15), [.t 94, .c (.i .i64 1), .c (.i .i64 1)]⟩, ⟨.t 93, none, .mv, [.t 95]⟩, ⟨.t 96, none, (.ext 0), [.t 93]⟩, ⟨.t 97, none, (.ext 1), [.t 93]⟩, ⟨.t 98, none, (.ext 2), [.t 93]⟩, ⟨.t 27, none, .mv, [.t 96]⟩, ⟨.t 28, none, .mv, [.t 97]⟩, ⟨.l 29, none, .mv, [.t 98]⟩])
 (.seq (.reg [⟨.t 99, none, .mv, [.l 4]⟩, ⟨.t 100, none, (.bin .eql), [.t 99, .c (.i .i64 0)]⟩, ⟨.t 101, none, .mv, [.t 100]⟩, ⟨.t 102, (some (.t 101, true)), .mv, [.l 2]⟩, ⟨.t 103, (some (.t 101, true)), (.bin .eql), [.t 102, .c (.i .i64 0)]⟩, ⟨.t 104, none, .pick, [.t 101, .t 103, .c (.b false)]⟩, ⟨.t 105, none, .mv, [.t 104]⟩, ⟨.t 106, (some (.t 105, true)), .mv, [.l 3]⟩, ⟨.t 107, (some (.t 105, true)), (.eq true .ptr), [.t 106, .c (.p none)]⟩, ⟨.t 108, none, .pick, [.t 105, .t 107, .c (.b false)]⟩, ⟨.t 109, none, .mv, [.t 108]⟩, ⟨.t 110, (some (.t 109, true)), .mv, [.l 6]⟩, ⟨.t 111, none, .pick, [.t 109, .t 110, .c (.b false)]⟩, ⟨.t 112, none, .mv, [.t 111]⟩, ⟨.t 113, (some (.t 112, true)), (.fad 1), [.l 5]⟩, ⟨.t 114, (some (.t 112, true)), (.ld none), [.t 113]⟩, ⟨.t 115, (some (.t 112, true)), (.bin .eql), [.t 114, .c (.i .i64 1)]⟩, ⟨.t 116, none, .pick, [.t 112, .t 115, .c (.b false)]⟩, ⟨.t 117, none, .mv, [.t 116]⟩, ⟨.t 118, (some (.t 117, true)), (.fad 2), [.l 5]⟩, ⟨.t 119, (some (.t 117, true)), (.ld none), [.t 118]⟩, ⟨.t 120, (some (.t 117, true)), (.bin .eql), [.t 119, .c (.i .i64 8)]⟩, ⟨.t 121, none, .pick, [.t 117, .t 120, .c (.b false)]⟩, ⟨.t 122, none, .mv, [.t 121]⟩, ⟨.t 123, (some (.t 122, true)), (.fad 3), [.l 5]⟩, ⟨.t 124, (some (.t 122, true)), (.ld none), [.t 123]⟩, ⟨.t 125, (some (.t 122, true)), (.bin .eql), [.t 124, .c (.i .i64 9)]⟩, ⟨.t 126, none, .pick, [.t 122, .t 125, .c (.b false)]⟩, ⟨.t 127, none, .mv, [.t 126]⟩, ⟨.t 128, (some (.t 127, true)), (.fad 6), [.l 5]⟩, ⟨.t 129, (some (.t 127, true)), (.ld none), [.t 128]⟩, ⟨.t 130, none, .pick, [.t 127, .t 129, .c (.b false)]⟩, ⟨.t 131, none, .mv, [.t 130]⟩, ⟨.t 132, (some (.t 131, true)), .mv, [.l 7]⟩, ⟨.t 133, none, .pick, [.t 131, .t 132, .c (.b false)]⟩, ⟨.t 134, none, .mv, [.t 133]⟩, ⟨.t 135, (some (.t 134, true)), .mv, [.l 8]⟩, ⟨.t 136, (some (.t 134, true)), (.bin .eql), [.t 135, .c (.i .i64 0)]⟩, ⟨.t 137, none, .pick, [.t 134, .t 136, .c (.b false)]⟩, ⟨.t 138, none, .mv, [.t 137]⟩, ⟨.t 139, (some (.t 138, true)), .mv, [.l 3]⟩, ⟨.t 140, (some (.t 138, true)), (.call 26), [.t 139, .c (.b false)]⟩, ⟨.t 141, (some (.t 138, true)), (.un .not), [.t 140]⟩, ⟨.t 142, none, .pick, [.t 138, .t 141, .c (.b false)]⟩, ⟨.t 143, none, .mv, [.t 142]⟩, ⟨.t 144, (some (.t 143, true)), .mv, [.l 11]⟩, ⟨.t 145, (some (.t 143, true)), (.bin .eql), [.t 144, .c (.i .i64 1)]⟩, ⟨.t 146, none, .pick, [.t 143, .t 145, .c (.b false)]⟩, ⟨.t 147, none, .mv, [.t 146]⟩, ⟨.t 148, (some (.t 147, true)), .mv, [.l 9]⟩, ⟨.t 149, (some (.t 147, true)), (.bin .eql), [.t 148, .c (.i .i64 0)]⟩, ⟨.t 150, none, .pick, [.t 147, .t 149, .c (.b false)]⟩, ⟨.t 151, none, .mv, [.t 150]⟩, ⟨.t 152, (some (.t 151, true)), .mv, [.l 10]⟩, ⟨.t 153, (some (.t 151, true)), (.eq false .ptr), [.t 152, .c (.p none)]⟩, ⟨.t 154, none, .pick, [.t 151, .t 153, .c (.b false)]⟩, ⟨.t 155, none, .mv, [.t 154]⟩, ⟨.t 156, (some (.t 155, true)), .mv, [.l 13]⟩, ⟨.t 157, (some (.t 155, true)), (.bin .eql), [.t 156, .c (.i .i64 0)]⟩, ⟨.t 158, none, .pick, [.t 155, .t 157, .c (.b false)]⟩, ⟨.t 159, none, .mv, [.t 158]⟩, ⟨.t 160, (some (.t 159, true)), .mv, [.l 12]⟩, ⟨.t 161, (some (.t 159, true)), (.bin .eql), [.t 160, .c (.i .i64 1)]⟩, ⟨.t 162, none, .pick, [.t 159, .t 161, .c (.b false)]⟩, ⟨.t 163, none, .mv, [.t 162]⟩, ⟨.t 164, (some (.t 163, true)), .mv, [.l 14]⟩, ⟨.t 165, none, .pick, [.t 163, .t 164, .c (.b false)]⟩, ⟨.t 166, none, .mv, [.t 165]⟩, ⟨.t 167, (some (.t 166, true)), .mv, [.l 15]⟩, ⟨.t 168, (some (.t 166, true)), (.bin .eql), [.t 167, .c (.i .i64 0)]⟩, ⟨.t 169, none, .pick, [.t 166, .t 168, .c (.b false)]⟩, ⟨.t 170, none, .mv, [.t 169]⟩, ⟨.t 171, (some (.t 170, true)), .mv, [.l 17]⟩, ⟨.t 172, (some (.t 170, true)), (.bin .eql), [.t 171, .c (.i .i64 0)]⟩, ⟨.t 173, none, .pick, [.t 170, .t 172, .c (.b false)]⟩, ⟨.t 174, none, .mv, [.t 173]⟩, ⟨.t 175, (some (.t 174, true)), .mv, [.l 16]⟩, ⟨.t 176, (some (.t 174, true)), (.bin .eql), [.t 175, .c (.i .i64 2)]⟩, ⟨.t 177, none, .pick, [.t 174, .t 176, .c (.b false)]⟩, ⟨.t 178, none, .mv, [.t 177]⟩, ⟨.t 179, (some (.t 178, true)), .mv, [.l 19]⟩, ⟨.t 180, (some (.t 178, true)), (.bin .eql), [.t 179, .c (.i .i64 7)]⟩, ⟨.t 181, none, .pick, [.t 178, .t 180, .c (.b false)]⟩, ⟨.t 182, none, .mv, [.t 181]⟩, ⟨.t 183, (some (.t 182, true)), .mv, [.l 21]⟩, ⟨.t 184, none, .pick, [.t 182, .t 183, .c (.b false)]⟩, ⟨.t 185, none, .mv, [.t 184]⟩, ⟨.t 186, (some (.t 185, true)), (.fad 1), [.l 20]⟩, ⟨.t 187, (some (.t 185, true)), (.ld none), [.t 186]⟩, ⟨.t 188, (some (.t 185, true)), (.bin .eql), [.t 187, .c (.i .i64 4)]⟩, ⟨.t 189, none, .pick, [.t 185, .t 188, .c (.b false)]⟩, ⟨.t 190, none, .mv, [.t 189]⟩, ⟨.t 191, (some (.t 190, true)), (.fad 4), [.l 20]⟩, ⟨.t 192, (some (.t 190, true)), (.ld none), [.t 191]⟩, ⟨.t 193, (some (.t 190, true)), (.bin .eql), [.t 192, .c (.i .i64 4)]⟩, ⟨.t 194, none, .pick, [.t 190, .t 193, .c (.b false)]⟩, ⟨.t 195, none, .mv, [.t 194]⟩, ⟨.t 196, (some (.t 195, true)), .mv, [.l 23]⟩, ⟨.t 197, none, .pick, [.t 195, .t 196, .c (.b false)]⟩, ⟨.t 198, none, .mv, [.t 197]⟩, ⟨.t 199, (some (.t 198, true)), (.fad 1), [.l 22]⟩, ⟨.t 200, (some (.t 198, true)), (.ld none), [.t 199]⟩, ⟨.t 201, (some (.t 198, true)), (.bin .eql), [.t 200, .c (.i .i64 3)]⟩, ⟨.t 202, none, .pick, [.t 198, .t 201, .c (.b false)]⟩, ⟨.t 203, none, .mv, [.t 202]⟩, ⟨.t 204, (some (.t 203, true)), (.fad 4), [.l 22]⟩, ⟨.t 205, (some (.t 203, true)), (.ld none), [.t 204]⟩, ⟨.t 206, (some (.t 203, true)), (.bin .eql), [.t 205, .c (.i .i64 2)]⟩, ⟨.t 207, none, .pick, [.t 203, .t 206, .c (.b false)]⟩, ⟨.t 208, none, .mv, [.t 207]⟩, ⟨.t 209, (some (.t 208, true)), (.fad 2), [.l 22]⟩, ⟨.t 210, (some (.t 208, true)), (.ld none), [.t 209]⟩, ⟨.t 211, (some (.t 208, true)), (.bin .eql), [.t 210, .c (.i .i64 19)]⟩, ⟨.t 212, none, .pick, [.t 208, .t 211, .c (.b false)]⟩, ⟨.t 213, none, .mv, [.t 212]⟩, ⟨.t 214, (some (.t 213, true)), .mv, [.l 25]⟩, ⟨.t 215, (some (.t 213, true)), (.bin .eql), [.t 214, .c (.i .i64 4)]⟩, ⟨.t 216, none, .pick, [.t 213, .t 215, .c (.b false)]⟩, ⟨.t 217, none, .mv, [.t 216]⟩, ⟨.t 218, (some (.t 217, true)), .mv, [.l 1]⟩, ⟨.t 219, (some (.t 217, true)), .mv, [.l 12]⟩, ⟨.t 220, (some (.t 217, true)), (.call 21), [.t 218, .t 219]⟩, ⟨.t 221, (some (.t 217, true)), (.bin .eql), [.t 220, .c (.i .i64 2)]⟩, ⟨.t 222, none, .pick, [.t 217, .t 221, .c (.b false)]⟩, ⟨.t 223, none, .mv, [.t 222]⟩, ⟨.t 224, (some (.t 223, true)), .mv, [.l 29]⟩, ⟨.t 225, (some (.t 223, true)), (.bin .eql), [.t 224, .c (.i .i64 3)]⟩, ⟨.t 226, none, .pick, [.t 223, .t 225, .c (.b false)]⟩, ⟨.l 0, none, .mv, [.t 226]⟩])
 .ret))))))))))))))))), [.tmp (.l 0)]⟩
theorem c10 : compFn Try.prog b10 Try.f10 = some a10 := by kernel_rfl
/-- tarpaulin/timer.New -/
def b11 : Nat := 1
theorem c11 : compFn Try.prog b11 Try.f11 = some (c_timer_New Nn) := by kernel_rfl
/-- tarpaulin/tarpaulinalike.Round -/
def b12 : Nat := 19
theorem c12 : compFn Try.prog b12 Try.f12 = some (c_tarpaulinalike_Round Nn) := by kernel_rfl
/-- (*tarpaulin/timer.Set).Func -/
def b13 : Nat := 783
theorem c13 : compFn Try.prog b13 Try.f13 = some (c_timer_Set_Func Nn) := by kernel_rfl
/-- (*tarpaulin/timer.Set).Fire -/
def b14 : Nat := 1011
theorem c14 : compFn Try.prog b14 Try.f14 = some (c_timer_Set_Fire Nn) := by kernel_rfl
/-- (*tarpaulin/timer.Set).Timer -/
def b15 : Nat := 455
theorem c15 : compFn Try.prog b15 Try.f15 = some (c_timer_Set_Timer Nn) := by kernel_rfl
/-- (*tarpaulin/timer.Set).Lapse -/
def b16 : Nat := 199
theorem c16 : compFn Try.prog b16 Try.f16 = some (c_timer_Set_Lapse Nn) := by kernel_rfl
/-- (*tarpaulin/timer.Set).Reset -/
def b18 : Nat := 1807
theorem c18 : compFn Try.prog b18 Try.f18 = some (c_timer_Set_Reset Nn) := by kernel_rfl
/-- (*tarpaulin/timer.Set).Gen -/
def b21 : Nat := 19
theorem c21 : compFn Try.prog b21 Try.f21 = some (c_timer_Set_Gen Nn) := by kernel_rfl
/-- (*tarpaulin/timer.Set).Stop -/
def b22 : Nat := 115
theorem c22 : compFn Try.prog b22 Try.f22 = some (c_timer_Set_Stop Nn) := by kernel_rfl
/-- (*tarpaulin/timer.Set).Ticker -/
def b23 : Nat := 455
theorem c23 : compFn Try.prog b23 Try.f23 = some (c_timer_Set_Ticker Nn) := by kernel_rfl
/-- (*tarpaulin/chanq.Chan).Recv -/
def b25 : Nat := 509
theorem c25 : compFn Try.prog b25 Try.f25 = some (c_chanq_Chan_Recv Nn) := by kernel_rfl
/-- (*tarpaulin/chanq.Chan).Can -/
def b26 : Nat := 19
theorem c26 : compFn Try.prog b26 Try.f26 = some (c_chanq_Chan_Can Nn) := by kernel_rfl
/-- (*tarpaulin/chanq.Chan).Len -/
def b27 : Nat := 5
theorem c27 : compFn Try.prog b27 Try.f27 = some (c_chanq_Chan_Len Nn) := by kernel_rfl
/-- (*tarpaulin/chanq.Chan).Cap -/
def b28 : Nat := 5
theorem c28 : compFn Try.prog b28 Try.f28 = some (c_chanq_Chan_Cap Nn) := by kernel_rfl
/-- tarpaulin/expire.New -/
def b31 : Nat := 1
theorem c31 : compFn Try.prog b31 Try.f31 = some (c_expire_New Nn) := by kernel_rfl
/-- (*tarpaulin/timer.Set).make -/
def b32 : Nat := 815
theorem c32 : compFn Try.prog b32 Try.f32 = some (c_timer_Set_make Nn) := by kernel_rfl
/-- (*tarpaulin/expire.Timers).Take -/
def b33 : Nat := 7667
theorem c33 : compFn Try.prog b33 Try.f33 = some (c_expire_Timers_Take Nn) := by kernel_rfl
/-- (*tarpaulin/chanq.Chan).Put -/
def b34 : Nat := 51
theorem c34 : compFn Try.prog b34 Try.f34 = some (c_chanq_Chan_Put Nn) := by kernel_rfl
/-- (*tarpaulin/timer.Set).channel -/
def b35 : Nat := 16143
theorem c35 : compFn Try.prog b35 Try.f35 = some (c_timer_Set_channel Nn) := by kernel_rfl
/-- (*tarpaulin/expire.Timers).Next -/
def b36 : Nat := 61
theorem c36 : compFn Try.prog b36 Try.f36 = some (c_expire_Timers_Next Nn) := by kernel_rfl
/-- (*tarpaulin/timer.Set).has -/
def b37 : Nat := 19
theorem c37 : compFn Try.prog b37 Try.f37 = some (c_timer_Set_has Nn) := by kernel_rfl
/-- tarpaulin/timer.bad -/
def b38 : Nat := 5
theorem c38 : compFn Try.prog b38 Try.f38 = some (c_timer_bad Nn) := by kernel_rfl
/-- (*tarpaulin/timer.Set).arm -/
def b39 : Nat := 271
theorem c39 : compFn Try.prog b39 Try.f39 = some (c_timer_Set_arm Nn) := by kernel_rfl
/-- (*tarpaulin/expire.Timers).Stop -/
def b40 : Nat := 83
theorem c40 : compFn Try.prog b40 Try.f40 = some (c_expire_Timers_Stop Nn) := by kernel_rfl
/-- (*tarpaulin/chanq.Chan).Drop -/
def b41 : Nat := 5
theorem c41 : compFn Try.prog b41 Try.f41 = some (c_chanq_Chan_Drop Nn) := by kernel_rfl
/-- (*tarpaulin/ring.Ring).Pop -/
def b42 : Nat := 29
theorem c42 : compFn Try.prog b42 Try.f42 = some (c_ring_Ring_Pop Nn) := by kernel_rfl
/-- (*tarpaulin/wait.Queue).Pop -/
def b43 : Nat := 13
theorem c43 : compFn Try.prog b43 Try.f43 = some (c_wait_Queue_Pop Nn) := by kernel_rfl
/-- (*tarpaulin/ring.Ring).Push -/
def b44 : Nat := 19
theorem c44 : compFn Try.prog b44 Try.f44 = some (c_ring_Ring_Push Nn) := by kernel_rfl
/-- (*tarpaulin/chanq.Chan).Mute -/
def b45 : Nat := 5
theorem c45 : compFn Try.prog b45 Try.f45 = some (c_chanq_Chan_Mute Nn) := by kernel_rfl
/-- (*tarpaulin/chanq.Chan).free -/
def b46 : Nat := 19
theorem c46 : compFn Try.prog b46 Try.f46 = some (c_chanq_Chan_free Nn) := by kernel_rfl
/-- (*tarpaulin/chanq.Chan).queue -/
def b47 : Nat := 19
theorem c47 : compFn Try.prog b47 Try.f47 = some (c_chanq_Chan_queue Nn) := by kernel_rfl
/-- (*tarpaulin/wait.Queue).Len -/
def b48 : Nat := 5
theorem c48 : compFn Try.prog b48 Try.f48 = some (c_wait_Queue_Len Nn) := by kernel_rfl
/-- (*tarpaulin/ring.Ring).Len -/
def b49 : Nat := 5
theorem c49 : compFn Try.prog b49 Try.f49 = some (c_ring_Ring_Len Nn) := by kernel_rfl
/-- (*tarpaulin/ring.Ring).Size -/
def b50 : Nat := 5
theorem c50 : compFn Try.prog b50 Try.f50 = some (c_ring_Ring_Size Nn) := by kernel_rfl
/-- tarpaulin/heap.New -/
def b55 : Nat := 1
theorem c55 : compFn Try.prog b55 Try.f55 = some (c_heap_New Nn) := by kernel_rfl
/-- (*tarpaulin/heap.Heap).Pop -/
def b56 : Nat := 61
theorem c56 : compFn Try.prog b56 Try.f56 = some (c_heap_Heap_Pop Nn) := by kernel_rfl
/-- tarpaulin/clock.Next -/
def b57 : Nat := 199
theorem c57 : compFn Try.prog b57 Try.f57 = some (c_clock_Next Nn) := by kernel_rfl
/-- (*tarpaulin/expire.Timers).Arm -/
def b58 : Nat := 271
theorem c58 : compFn Try.prog b58 Try.f58 = some (c_expire_Timers_Arm Nn) := by kernel_rfl
/-- (*tarpaulin/chanq.Chan).deliver -/
def b59 : Nat := 115
theorem c59 : compFn Try.prog b59 Try.f59 = some (c_chanq_Chan_deliver Nn) := by kernel_rfl
/-- tarpaulin/chanq.Timed -/
def b60 : Nat := 3
theorem c60 : compFn Try.prog b60 Try.f60 = some (c_chanq_Timed Nn) := by kernel_rfl
/-- (*tarpaulin/heap.Heap).Min -/
def b61 : Nat := 13
theorem c61 : compFn Try.prog b61 Try.f61 = some (c_heap_Heap_Min Nn) := by kernel_rfl
/-- tarpaulin/clock.Add -/
def b62 : Nat := 19
theorem c62 : compFn Try.prog b62 Try.f62 = some (c_clock_Add Nn) := by kernel_rfl
/-- (*tarpaulin/heap.Heap).Remove -/
def b63 : Nat := 2035
theorem c63 : compFn Try.prog b63 Try.f63 = some (c_heap_Heap_Remove Nn) := by kernel_rfl
/-- (*tarpaulin/ring.Ring).Clear -/
def b64 : Nat := 13
theorem c64 : compFn Try.prog b64 Try.f64 = some (c_ring_Ring_Clear Nn) := by kernel_rfl
/-- (*tarpaulin/wait.Queue).take -/
def b65 : Nat := 115
theorem c65 : compFn Try.prog b65 Try.f65 = some (c_wait_Queue_take Nn) := by kernel_rfl
/-- (*tarpaulin/wait.Queue).Pop$1 -/
def b66 : Nat := 5
theorem c66 : compFn Try.prog b66 Try.f66 = some (c_wait_Queue_Pop_1 Nn) := by kernel_rfl
/-- (*tarpaulin/heap.Heap).Add -/
def b68 : Nat := 327
theorem c68 : compFn Try.prog b68 Try.f68 = some (c_heap_Heap_Add Nn) := by kernel_rfl
/-- tarpaulin/chanq.New -/
def b69 : Nat := 61
theorem c69 : compFn Try.prog b69 Try.f69 = some (c_chanq_New Nn) := by kernel_rfl
/-- (*tarpaulin/heap.Heap).Len -/
def b70 : Nat := 5
theorem c70 : compFn Try.prog b70 Try.f70 = some (c_heap_Heap_Len Nn) := by kernel_rfl
/-- tarpaulin/clock.held -/
def b71 : Nat := 5
theorem c71 : compFn Try.prog b71 Try.f71 = some (c_clock_held Nn) := by kernel_rfl
/-- (*tarpaulin/heap.Heap).Find -/
def b72 : Nat := 243
theorem c72 : compFn Try.prog b72 Try.f72 = some (c_heap_Heap_Find Nn) := by kernel_rfl
/-- (*tarpaulin/heap.Heap).put -/
def b73 : Nat := 39
theorem c73 : compFn Try.prog b73 Try.f73 = some (c_heap_Heap_put Nn) := by kernel_rfl
/-- (*tarpaulin/heap.Heap).up -/
def b74 : Nat := 19
theorem c74 : compFn Try.prog b74 Try.f74 = some (c_heap_Heap_up Nn) := by kernel_rfl
/-- (*tarpaulin/heap.Heap).down -/
def b75 : Nat := 243
theorem c75 : compFn Try.prog b75 Try.f75 = some (c_heap_Heap_down Nn) := by kernel_rfl
/-- (*tarpaulin/wait.Queue).drop -/
def b76 : Nat := 3
theorem c76 : compFn Try.prog b76 Try.f76 = some (c_wait_Queue_drop Nn) := by kernel_rfl
/-- tarpaulin/ring.New -/
def b77 : Nat := 13
theorem c77 : compFn Try.prog b77 Try.f77 = some (c_ring_New Nn) := by kernel_rfl
/-- tarpaulin/wait.New -/
def b78 : Nat := 1
theorem c78 : compFn Try.prog b78 Try.f78 = some (c_wait_New Nn) := by kernel_rfl
/-- tarpaulin/heap.ahead -/
def b79 : Nat := 31
theorem c79 : compFn Try.prog b79 Try.f79 = some (c_heap_ahead Nn) := by kernel_rfl
/-- cmp.Or[int] -/
def b80 : Nat := 493
theorem c80 : compFn Try.prog b80 Try.f80 = some (c_cmp_Or_int Nn) := by kernel_rfl
/-- cmp.Compare[int] -/
def b81 : Nat := 115
theorem c81 : compFn Try.prog b81 Try.f81 = some (c_cmp_Compare_int Nn) := by kernel_rfl
/-- cmp.isNaN[int] -/
def b82 : Nat := 5
theorem c82 : compFn Try.prog b82 Try.f82 = some (c_cmp_isNaN_int Nn) := by kernel_rfl
noncomputable def tbl : Nat → Option AFn
  | 8 => some (c_tarpaulinlaw13_TimerStale Nn)
  | 10 => some a10
  | 11 => some (c_timer_New Nn)
  | 12 => some (c_tarpaulinalike_Round Nn)
  | 13 => some (c_timer_Set_Func Nn)
  | 14 => some (c_timer_Set_Fire Nn)
  | 15 => some (c_timer_Set_Timer Nn)
  | 16 => some (c_timer_Set_Lapse Nn)
  | 18 => some (c_timer_Set_Reset Nn)
  | 21 => some (c_timer_Set_Gen Nn)
  | 22 => some (c_timer_Set_Stop Nn)
  | 23 => some (c_timer_Set_Ticker Nn)
  | 25 => some (c_chanq_Chan_Recv Nn)
  | 26 => some (c_chanq_Chan_Can Nn)
  | 27 => some (c_chanq_Chan_Len Nn)
  | 28 => some (c_chanq_Chan_Cap Nn)
  | 31 => some (c_expire_New Nn)
  | 32 => some (c_timer_Set_make Nn)
  | 33 => some (c_expire_Timers_Take Nn)
  | 34 => some (c_chanq_Chan_Put Nn)
  | 35 => some (c_timer_Set_channel Nn)
  | 36 => some (c_expire_Timers_Next Nn)
  | 37 => some (c_timer_Set_has Nn)
  | 38 => some (c_timer_bad Nn)
  | 39 => some (c_timer_Set_arm Nn)
  | 40 => some (c_expire_Timers_Stop Nn)
  | 41 => some (c_chanq_Chan_Drop Nn)
  | 42 => some (c_ring_Ring_Pop Nn)
  | 43 => some (c_wait_Queue_Pop Nn)
  | 44 => some (c_ring_Ring_Push Nn)
  | 45 => some (c_chanq_Chan_Mute Nn)
  | 46 => some (c_chanq_Chan_free Nn)
  | 47 => some (c_chanq_Chan_queue Nn)
  | 48 => some (c_wait_Queue_Len Nn)
  | 49 => some (c_ring_Ring_Len Nn)
  | 50 => some (c_ring_Ring_Size Nn)
  | 55 => some (c_heap_New Nn)
  | 56 => some (c_heap_Heap_Pop Nn)
  | 57 => some (c_clock_Next Nn)
  | 58 => some (c_expire_Timers_Arm Nn)
  | 59 => some (c_chanq_Chan_deliver Nn)
  | 60 => some (c_chanq_Timed Nn)
  | 61 => some (c_heap_Heap_Min Nn)
  | 62 => some (c_clock_Add Nn)
  | 63 => some (c_heap_Heap_Remove Nn)
  | 64 => some (c_ring_Ring_Clear Nn)
  | 65 => some (c_wait_Queue_take Nn)
  | 66 => some (c_wait_Queue_Pop_1 Nn)
  | 68 => some (c_heap_Heap_Add Nn)
  | 69 => some (c_chanq_New Nn)
  | 70 => some (c_heap_Heap_Len Nn)
  | 71 => some (c_clock_held Nn)
  | 72 => some (c_heap_Heap_Find Nn)
  | 73 => some (c_heap_Heap_put Nn)
  | 74 => some (c_heap_Heap_up Nn)
  | 75 => some (c_heap_Heap_down Nn)
  | 76 => some (c_wait_Queue_drop Nn)
  | 77 => some (c_ring_New Nn)
  | 78 => some (c_wait_New Nn)
  | 79 => some (c_heap_ahead Nn)
  | 80 => some (c_cmp_Or_int Nn)
  | 81 => some (c_cmp_Compare_int Nn)
  | 82 => some (c_cmp_isNaN_int Nn)
  | _ => none
theorem ok : TblOk Try.prog tbl := by
  intro f fn h
  unfold tbl at h
  split at h
  · cases h; exact .inl ⟨b8, _, Try.func8, c8⟩
  · cases h; exact .inl ⟨b10, _, Try.func10, c10⟩
  · cases h; exact .inl ⟨b11, _, Try.func11, c11⟩
  · cases h; exact .inl ⟨b12, _, Try.func12, c12⟩
  · cases h; exact .inl ⟨b13, _, Try.func13, c13⟩
  · cases h; exact .inl ⟨b14, _, Try.func14, c14⟩
  · cases h; exact .inl ⟨b15, _, Try.func15, c15⟩
  · cases h; exact .inl ⟨b16, _, Try.func16, c16⟩
  · cases h; exact .inl ⟨b18, _, Try.func18, c18⟩
  · cases h; exact .inl ⟨b21, _, Try.func21, c21⟩
  · cases h; exact .inl ⟨b22, _, Try.func22, c22⟩
  · cases h; exact .inl ⟨b23, _, Try.func23, c23⟩
  · cases h; exact .inl ⟨b25, _, Try.func25, c25⟩
  · cases h; exact .inl ⟨b26, _, Try.func26, c26⟩
  · cases h; exact .inl ⟨b27, _, Try.func27, c27⟩
  · cases h; exact .inl ⟨b28, _, Try.func28, c28⟩
  · cases h; exact .inl ⟨b31, _, Try.func31, c31⟩
  · cases h; exact .inl ⟨b32, _, Try.func32, c32⟩
  · cases h; exact .inl ⟨b33, _, Try.func33, c33⟩
  · cases h; exact .inl ⟨b34, _, Try.func34, c34⟩
  · cases h; exact .inl ⟨b35, _, Try.func35, c35⟩
  · cases h; exact .inl ⟨b36, _, Try.func36, c36⟩
  · cases h; exact .inl ⟨b37, _, Try.func37, c37⟩
  · cases h; exact .inl ⟨b38, _, Try.func38, c38⟩
  · cases h; exact .inl ⟨b39, _, Try.func39, c39⟩
  · cases h; exact .inl ⟨b40, _, Try.func40, c40⟩
  · cases h; exact .inl ⟨b41, _, Try.func41, c41⟩
  · cases h; exact .inl ⟨b42, _, Try.func42, c42⟩
  · cases h; exact .inl ⟨b43, _, Try.func43, c43⟩
  · cases h; exact .inl ⟨b44, _, Try.func44, c44⟩
  · cases h; exact .inl ⟨b45, _, Try.func45, c45⟩
  · cases h; exact .inl ⟨b46, _, Try.func46, c46⟩
  · cases h; exact .inl ⟨b47, _, Try.func47, c47⟩
  · cases h; exact .inl ⟨b48, _, Try.func48, c48⟩
  · cases h; exact .inl ⟨b49, _, Try.func49, c49⟩
  · cases h; exact .inl ⟨b50, _, Try.func50, c50⟩
  · cases h; exact .inl ⟨b55, _, Try.func55, c55⟩
  · cases h; exact .inl ⟨b56, _, Try.func56, c56⟩
  · cases h; exact .inl ⟨b57, _, Try.func57, c57⟩
  · cases h; exact .inl ⟨b58, _, Try.func58, c58⟩
  · cases h; exact .inl ⟨b59, _, Try.func59, c59⟩
  · cases h; exact .inl ⟨b60, _, Try.func60, c60⟩
  · cases h; exact .inl ⟨b61, _, Try.func61, c61⟩
  · cases h; exact .inl ⟨b62, _, Try.func62, c62⟩
  · cases h; exact .inl ⟨b63, _, Try.func63, c63⟩
  · cases h; exact .inl ⟨b64, _, Try.func64, c64⟩
  · cases h; exact .inl ⟨b65, _, Try.func65, c65⟩
  · cases h; exact .inl ⟨b66, _, Try.func66, c66⟩
  · cases h; exact .inl ⟨b68, _, Try.func68, c68⟩
  · cases h; exact .inl ⟨b69, _, Try.func69, c69⟩
  · cases h; exact .inl ⟨b70, _, Try.func70, c70⟩
  · cases h; exact .inl ⟨b71, _, Try.func71, c71⟩
  · cases h; exact .inl ⟨b72, _, Try.func72, c72⟩
  · cases h; exact .inl ⟨b73, _, Try.func73, c73⟩
  · cases h; exact .inl ⟨b74, _, Try.func74, c74⟩
  · cases h; exact .inl ⟨b75, _, Try.func75, c75⟩
  · cases h; exact .inl ⟨b76, _, Try.func76, c76⟩
  · cases h; exact .inl ⟨b77, _, Try.func77, c77⟩
  · cases h; exact .inl ⟨b78, _, Try.func78, c78⟩
  · cases h; exact .inl ⟨b79, _, Try.func79, c79⟩
  · cases h; exact .inl ⟨b80, _, Try.func80, c80⟩
  · cases h; exact .inl ⟨b81, _, Try.func81, c81⟩
  · cases h; exact .inl ⟨b82, _, Try.func82, c82⟩
  · cases h
theorem mixed : Try.prog.follows .mixedOrders = true := by kernel_rfl
theorem awake10 : KnownTrue Try.prog 10 := known mixed ok Try.func10 c10 (n := 100000) (by kernel_rfl)
/-- the table, with what is known -/
noncomputable def tblK (f : Nat) : Option AFn := bif Nat.beq f 10 then some kTrue else tbl f
theorem okK : TblOk Try.prog tblK := by
  intro f fn h
  unfold tblK at h
  cases h10 : Nat.beq f 10
  case true =>
    rw [h10] at h
    cases h
    exact .inr ⟨rfl, by rw [beq_nat, decide_eq_true_eq] at h10; subst h10; exact awake10⟩
  rw [h10] at h
  exact ok f fn h
theorem h_heap_New : H_heap_New Nn tblK := ⟨by kernel_rfl⟩
theorem h_expire_New : H_expire_New Nn tblK := ⟨by kernel_rfl, h_heap_New⟩
theorem h_timer_New : H_timer_New Nn tblK := ⟨by kernel_rfl, h_expire_New⟩
theorem h_ring_New : H_ring_New Nn tblK := ⟨by kernel_rfl⟩
theorem h_wait_New : H_wait_New Nn tblK := ⟨by kernel_rfl⟩
theorem h_chanq_New : H_chanq_New Nn tblK := ⟨by kernel_rfl, h_ring_New, h_wait_New⟩
theorem h_chanq_Timed : H_chanq_Timed Nn tblK := ⟨by kernel_rfl, h_chanq_New⟩
theorem h_timer_bad : H_timer_bad Nn tblK := ⟨by kernel_rfl⟩
theorem h_clock_held : H_clock_held Nn tblK := ⟨by kernel_rfl⟩
theorem h_clock_Add : H_clock_Add Nn tblK := ⟨by kernel_rfl, h_clock_held⟩
theorem h_heap_Heap_Find : H_heap_Heap_Find Nn tblK := ⟨by kernel_rfl⟩
theorem h_heap_Heap_put : H_heap_Heap_put Nn tblK := ⟨by kernel_rfl⟩
theorem h_cmp_isNaN_int : H_cmp_isNaN_int Nn tblK := ⟨by kernel_rfl⟩
theorem h_cmp_Compare_int : H_cmp_Compare_int Nn tblK := ⟨by kernel_rfl, h_cmp_isNaN_int⟩
theorem h_cmp_Or_int : H_cmp_Or_int Nn tblK := ⟨by kernel_rfl⟩
theorem h_heap_ahead : H_heap_ahead Nn tblK := ⟨by kernel_rfl, h_cmp_Compare_int, h_cmp_Or_int⟩
theorem h_heap_Heap_up : H_heap_Heap_up Nn tblK := ⟨by kernel_rfl, h_heap_ahead, h_heap_Heap_put⟩
theorem h_heap_Heap_down : H_heap_Heap_down Nn tblK := ⟨by kernel_rfl, h_heap_ahead, h_heap_Heap_put⟩
theorem h_heap_Heap_Remove : H_heap_Heap_Remove Nn tblK := ⟨by kernel_rfl, h_heap_Heap_Find, h_heap_Heap_put, h_heap_Heap_up, h_heap_Heap_down⟩
theorem h_expire_Timers_Stop : H_expire_Timers_Stop Nn tblK := ⟨by kernel_rfl, h_heap_Heap_Remove⟩
theorem h_heap_Heap_Add : H_heap_Heap_Add Nn tblK := ⟨by kernel_rfl, h_heap_Heap_up⟩
theorem h_expire_Timers_Arm : H_expire_Timers_Arm Nn tblK := ⟨by kernel_rfl, h_expire_Timers_Stop, h_heap_Heap_Add⟩
theorem h_timer_Set_arm : H_timer_Set_arm Nn tblK := ⟨by kernel_rfl, h_clock_Add, h_expire_Timers_Arm⟩
theorem h_timer_Set_make : H_timer_Set_make Nn tblK := ⟨by kernel_rfl, h_timer_bad, h_timer_Set_arm⟩
theorem h_timer_Set_channel : H_timer_Set_channel Nn tblK := ⟨by kernel_rfl, h_chanq_Timed, h_timer_Set_make⟩
theorem h_timer_Set_Ticker : H_timer_Set_Ticker Nn tblK := ⟨by kernel_rfl, h_timer_Set_channel⟩
theorem h_timer_Set_Timer : H_timer_Set_Timer Nn tblK := ⟨by kernel_rfl, h_timer_Set_channel⟩
theorem h_tarpaulinalike_Round : H_tarpaulinalike_Round Nn tblK := ⟨by kernel_rfl⟩
theorem h_heap_Heap_Len : H_heap_Heap_Len Nn tblK := ⟨by kernel_rfl⟩
theorem h_heap_Heap_Min : H_heap_Heap_Min Nn tblK := ⟨by kernel_rfl, h_heap_Heap_Len⟩
theorem h_expire_Timers_Next : H_expire_Timers_Next Nn tblK := ⟨by kernel_rfl, h_heap_Heap_Min⟩
theorem h_heap_Heap_Pop : H_heap_Heap_Pop Nn tblK := ⟨by kernel_rfl, h_heap_Heap_Min, h_heap_Heap_Remove⟩
theorem h_clock_Next : H_clock_Next Nn tblK := ⟨by kernel_rfl, h_clock_Add⟩
theorem h_expire_Timers_Take : H_expire_Timers_Take Nn tblK := ⟨by kernel_rfl, h_expire_Timers_Next, h_heap_Heap_Pop, h_clock_Next, h_expire_Timers_Arm⟩
theorem h_wait_Queue_drop : H_wait_Queue_drop Nn tblK := ⟨by kernel_rfl⟩
theorem h_wait_Queue_take : H_wait_Queue_take Nn tblK := ⟨by kernel_rfl, h_wait_Queue_drop⟩
theorem h_wait_Queue_Pop_1 : H_wait_Queue_Pop_1 Nn tblK := ⟨by kernel_rfl⟩
theorem h_wait_Queue_Pop : H_wait_Queue_Pop Nn tblK := ⟨by kernel_rfl, h_wait_Queue_take, h_wait_Queue_Pop_1⟩
theorem h_chanq_Chan_deliver : H_chanq_Chan_deliver Nn tblK := ⟨by kernel_rfl, h_wait_Queue_Pop⟩
theorem h_ring_Ring_Push : H_ring_Ring_Push Nn tblK := ⟨by kernel_rfl⟩
theorem h_chanq_Chan_Put : H_chanq_Chan_Put Nn tblK := ⟨by kernel_rfl, h_chanq_Chan_deliver, h_ring_Ring_Push⟩
theorem h_timer_Set_Fire : H_timer_Set_Fire Nn tblK := ⟨by kernel_rfl, h_expire_Timers_Take, h_chanq_Chan_Put⟩
theorem h_ring_Ring_Pop : H_ring_Ring_Pop Nn tblK := ⟨by kernel_rfl⟩
theorem h_chanq_Chan_Recv : H_chanq_Chan_Recv Nn tblK := ⟨by kernel_rfl, h_ring_Ring_Pop, h_wait_Queue_Pop, h_ring_Ring_Push⟩
theorem h_timer_Set_has : H_timer_Set_has Nn tblK := ⟨by kernel_rfl⟩
theorem h_ring_Ring_Len : H_ring_Ring_Len Nn tblK := ⟨by kernel_rfl⟩
theorem h_ring_Ring_Clear : H_ring_Ring_Clear Nn tblK := ⟨by kernel_rfl, h_ring_Ring_Len⟩
theorem h_chanq_Chan_Drop : H_chanq_Chan_Drop Nn tblK := ⟨by kernel_rfl, h_ring_Ring_Clear⟩
theorem h_timer_Set_Stop : H_timer_Set_Stop Nn tblK := ⟨by kernel_rfl, h_timer_Set_has, h_expire_Timers_Stop, h_chanq_Chan_Drop⟩
theorem h_chanq_Chan_Mute : H_chanq_Chan_Mute Nn tblK := ⟨by kernel_rfl⟩
theorem h_ring_Ring_Size : H_ring_Ring_Size Nn tblK := ⟨by kernel_rfl⟩
theorem h_chanq_Chan_free : H_chanq_Chan_free Nn tblK := ⟨by kernel_rfl, h_ring_Ring_Len, h_ring_Ring_Size⟩
theorem h_chanq_Chan_queue : H_chanq_Chan_queue Nn tblK := ⟨by kernel_rfl⟩
theorem h_wait_Queue_Len : H_wait_Queue_Len Nn tblK := ⟨by kernel_rfl⟩
theorem h_chanq_Chan_Can : H_chanq_Chan_Can Nn tblK := ⟨by kernel_rfl, h_chanq_Chan_Mute, h_chanq_Chan_free, h_chanq_Chan_queue, h_wait_Queue_Len⟩
theorem h_timer_Set_Reset : H_timer_Set_Reset Nn tblK := ⟨by kernel_rfl, h_timer_Set_has, h_timer_bad, h_timer_Set_Stop, h_timer_Set_arm⟩
theorem h_chanq_Chan_Len : H_chanq_Chan_Len Nn tblK := ⟨by kernel_rfl, h_ring_Ring_Len⟩
theorem h_chanq_Chan_Cap : H_chanq_Chan_Cap Nn tblK := ⟨by kernel_rfl, h_ring_Ring_Size⟩
theorem timerStale_call (a0 : Bool) (a1 : Int) {L : Lg} (l2 : List (Int × Int × Int)) (x2 : AV) (s2 : ArgSl L x2 (tcl l2) l2.length 3) : CallL tblK 8 [.b a0, .i .i64 a1, x2] L fun v _ => v = .b true :=
  timerStale_law (N := Nn) (F := tblK) (by kernel_rfl) (by kernel_rfl) h_timer_New h_timer_Set_Ticker h_timer_Set_Timer h_tarpaulinalike_Round h_timer_Set_Fire h_chanq_Chan_Recv h_timer_Set_Stop h_chanq_Chan_Can h_timer_Set_Reset h_chanq_Chan_Len h_chanq_Chan_Cap a0 a1 l2 x2 s2
end Go.Proofs.Ytijhjfpiglaleaa.T
