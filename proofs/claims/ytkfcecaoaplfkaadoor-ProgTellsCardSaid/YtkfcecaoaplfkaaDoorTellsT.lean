/- The code of the functions that ProgTells reaches, and that it is compiled from the seat's program. PRINTED by our claimlib.py over our printam.lean. -/
import Derived.Test.YtkfcecaoaplfkaaDoorChecked
import Derived.Test.YtkfcecaoaplfkaaDoorTellsG5
import Derived.Test.YtkfcecaoaplfkaaDoorSh
import Derived.Test.YtkfcecaoaplfkaaDoorSf
import Derived.KernelRfl
set_option maxRecDepth 100000
set_option linter.unusedVariables false
namespace Go.Proofs.YtkfcecaoaplfkaaDoor.T
open Go.AM
/-- which of the program's functions a name stands for -/
def Nn (k : Nat) : Nat := bif Nat.beq k 222 then 38 else bif Nat.beq k 223 then 35 else bif Nat.beq k 224 then 43 else bif Nat.beq k 225 then 36 else bif Nat.beq k 226 then 37 else bif Nat.beq k 227 then 27 else bif Nat.beq k 228 then 26 else bif Nat.beq k 229 then 32 else bif Nat.beq k 230 then 22 else bif Nat.beq k 231 then 14 else bif Nat.beq k 232 then 24 else bif Nat.beq k 233 then 23 else bif Nat.beq k 234 then 10 else bif Nat.beq k 324 then 8 else bif Nat.beq k 326 then 9 else bif Nat.beq k 327 then 41 else bif Nat.beq k 328 then 29 else bif Nat.beq k 329 then 17 else bif Nat.beq k 330 then 19 else bif Nat.beq k 332 then 30 else bif Nat.beq k 333 then 39 else bif Nat.beq k 334 then 28 else bif Nat.beq k 335 then 15 else bif Nat.beq k 336 then 11 else bif Nat.beq k 337 then 12 else bif Nat.beq k 338 then 13 else bif Nat.beq k 339 then 31 else bif Nat.beq k 340 then 18 else bif Nat.beq k 341 then 16 else bif Nat.beq k 342 then 20 else bif Nat.beq k 343 then 3 else bif Nat.beq k 344 then 40 else bif Nat.beq k 345 then 25 else 0
/-- tarpaulin/tarpaulinlaw4.ProgTells -/
def b3 : Nat := 243
theorem c3 : compFn Tryd.prog b3 Tryd.f3 = some (c_tarpaulinlaw4_ProgTells Nn) := by kernel_rfl
/-- tarpaulin/tarpaulinalike.Progs -/
def b8 : Nat := 29
theorem c8 : compFn Tryd.prog b8 Tryd.f8 = some (c_tarpaulinalike_Progs Nn) := by kernel_rfl
/-- tarpaulin/tarpaulinlaw4.awake -/
def b9 : Nat := 3
def a9 : AFn := ⟨(.seq (.reg [⟨.l 0, none, .mv, [.c (.b false)]⟩])
 (.seq (.reg [⟨.t 2, none, (.build [(.b false), (.i .i64 0), (.i .i64 0)] [(1, 1)]), [.c (.i .i64 4)]⟩, ⟨.t 3, none, (.build [(.b false), (.i .i64 0), (.i .i64 0)] [(0, 1), (1, 1), (2, 1)]), [.c (.b true), .c (.i .i64 5), .c (.i .i64 6)]⟩, ⟨.t 4, none, (.bslice [(.b false), (.i .i64 0), (.i .i64 0)] 2 3 [0, 1]), [.t 2, .t 3]⟩, ⟨.t 5, none, (.build [(.i .i64 0), (.i .i64 0), (.i .i64 0), (.i .i64 0), (.sl none 0 0 0), (.b false)] [(0, 1), (1, 1), (2, 1), (3, 1), (4, 1), (5, 1)]), [.c (.i .i64 15), .c (.i .i64 1), .c (.i .i64 2), .c (.i .i64 3), .t 4, .c (.b true)]⟩, ⟨.l 1, none, (.alloc [(.i .i64 0), (.i .i64 0), (.i .i64 0), (.i .i64 0), (.sl none 0 0 0), (.b false)]), []⟩, ⟨.no, none, (.st 6), [.l 1, .t 5]⟩])
 (.seq (.reg [⟨.t 6, none, (.ld (some 6)), [.l 1]⟩, ⟨.t 7, none, (.build [(.i .i64 0), (.i .i64 0), (.i .i64 0), (.i .i64 0), (.sl none 0 0 0), (.b false)] [(0, 1), (1, 1)]), [.c (.i .i64 4), .c (.i .i64 2)]⟩, ⟨.t 8, none, (.bslice [(.i .i64 0), (.i .i64 0), (.i .i64 0), (.i .i64 0), (.sl none 0 0 0), (.b false)] 2 6 [0, 1]), [.t 6, .t 7]⟩, ⟨.t 9, none, (.call 14), [.t 8]⟩, ⟨.t 10, none, (.bin .eql), [.t 9, .c (.i .i64 0)]⟩, ⟨.t 11, none, .mv, [.t 10]⟩, ⟨.t 12, (some (.t 11, true)), (.build [(.i .i64 0), (.i .i64 0), (.i .i64 0), (.i .i64 0), (.sl none 0 0 0), (.b false)] [(0, 1), (1, 1)]), [.c (.i .i64 4), .c (.i .i64 2)]⟩, ⟨.t 13, (some (.t 11, true)), (.bslice [(.i .i64 0), (.i .i64 0), (.i .i64 0), (.i .i64 0), (.sl none 0 0 0), (.b false)] 1 6 [0]), [.t 12]⟩, ⟨.t 14, (some (.t 11, true)), (.call 14), [.t 13]⟩, ⟨.t 15, (some (.t 11, true)), (.bin .eql), [.t 14, .c (.i .i64 1)]⟩, ⟨.t 16, none, .pick, [.t 11, .t 15, .c (.b false)]⟩, ⟨.t 17, none, .mv, [.t 16]⟩, ⟨.t 18, (some (.t 17, true)), (.build [(.i .i64 0), (.i .i64 0), (.i .i64 0), (.i .i64 0), (.sl none 0 0 0), (.b false)] [(0, 1), (1, 1)]), [.c (.i .i64 1), .c (.i .i64 8)]⟩, ⟨.t 19, (some (.t 17, true)), (.bslice [(.i .i64 0), (.i .i64 0), (.i .i64 0), (.i .i64 0), (.sl none 0 0 0), (.b false)] 1 6 [0]), [.t 18]⟩, ⟨.t 20, (some (.t 17, true)), (.call 14), [.t 19]⟩, ⟨.t 21, (some (.t 17, true)), (.bin .eql), [.t 20, .c (.i .i64 1)]⟩, ⟨.t 22, none, .pick, [.t 17, .t 21, .c (.b false)]⟩, ⟨.t 23, none, .mv, [.t 22]⟩, ⟨.t 24, (some (.t 23, true)), (.build [(.i .i64 0), (.i .i64 0), (.i .i64 0), (.i .i64 0), (.sl none 0 0 0), (.b false)] [(0, 1), (2, 1)]), [.c (.i .i64 8), .c (.i .i64 1)]⟩, ⟨.t 25, (some (.t 23, true)), (.bslice [(.i .i64 0), (.i .i64 0), (.i .i64 0), (.i .i64 0), (.sl none 0 0 0), (.b false)] 1 6 [0]), [.t 24]⟩, ⟨.t 26, (some (.t 23, true)), (.bslice [(.sl none 0 0 0)] 2 1 [0, 1]), [.t 25, .c (.sl none 0 0 0)]⟩, ⟨.t 27, (some (.t 23, true)), (.call 10), [.t 26]⟩, ⟨.t 28, (some (.t 23, true)), (.bin .eql), [.t 27, .c (.i .i64 0)]⟩, ⟨.t 29, none, .pick, [.t 23, .t 28, .c (.b false)]⟩, ⟨.t 30, none, .mv, [.t 29]⟩, ⟨.t 31, (some (.t 30, true)), (.build [(.i .i64 0), (.i .i64 0), (.i .i64 0), (.i .i64 0), (.sl none 0 0 0), (.b false)] [(0, 1), (2, 1)]), [.c (.i .i64 8), .c (.i .i64 1)]⟩, ⟨.t 32, (some (.t 30, true)), (.bslice [(.i .i64 0), (.i .i64 0), (.i .i64 0), (.i .i64 0), (.sl none 0 0 0), (.b false)] 1 6 [0]), [.t 31]⟩, ⟨.t 33, (some (.t 30, true)), (.bslice [(.sl none 0 0 0)] 1 1 [0]), [.t 32]⟩, ⟨.t 34, (some (.t 30, true)), (.call 10), [.t 33]⟩, ⟨.t 35, (some (.t 30, true)), (.bin .eql), [.t 34, .c (.i .i64 1)]⟩, ⟨.t 36, none, .pick, [.t 30, .t 35, .c (.b false)]⟩, ⟨.t 37, none, .mv, [.t 36]⟩, ⟨.t 38, (some (.t 37, true)), (.call 10), [.c (.sl none 0 0 0)]⟩, ⟨.t 39, (some (.t 37, true)), (.bin .eql), [.t 38, .c (.i .i64 1)]⟩, ⟨.t 40, none, .pick, [.t 37, .t 39, .c (.b false)]⟩, ⟨.t 41, none, .mv, [.t 40]⟩, ⟨.t 42, (some (.t 41, true)), (.ld (some 6)), [.l 1]⟩, ⟨.t 43, (some (.t 41, true)), (.call 17), [.t 42]⟩, ⟨.t 44, (some (.t 41, true)), (.bslice [(.i .i64 0)] 3 1 [0, 1, 2]), [.c (.i .i64 4), .c (.i .i64 5), .c (.i .i64 6)]⟩, ⟨.t 45, (some (.t 41, true)), (.call 16), [.t 43, .t 44]⟩, ⟨.t 46, none, .pick, [.t 41, .t 45, .c (.b false)]⟩, ⟨.t 47, none, .mv, [.t 46]⟩, ⟨.t 48, (some (.t 47, true)), (.ld (some 6)), [.l 1]⟩, ⟨.t 49, (some (.t 47, true)), (.call 19), [.t 48]⟩, ⟨.t 50, (some (.t 47, true)), (.bslice [(.i .i64 0)] 3 1 [0, 1, 2]), [.c (.i .i64 1), .c (.i .i64 2), .c (.i .i64 3)]⟩, ⟨.t 51, (some (.t 47, true)), (.call 16), [.t 49, .t 50]⟩, ⟨.t 52, none, .pick, [.t 47, .t 51, .c (.b false)]⟩, ⟨.t 53, none, .mv, [.t 52]⟩, ⟨.t 54, (some (.t 53, true)), (.call 12), [.c (.i .i64 32)]⟩, ⟨.t 55, (some (.t 53, true)), (.sbin .eql), [.t 54, .c (.s [117, 110, 97, 102, 116, 101, 114])]⟩, ⟨.t 56, none, .pick, [.t 53, .t 55, .c (.b false)]⟩, ⟨.t 57, none, .mv, [.t 56]⟩, ⟨.t 58, (some (.t 57, true)), (.call 12), [.c (.i .i64 0)]⟩, ⟨.t 59, (some (.t 57, true)), (.sbin .eql), [.t 58, .c (.s [])]⟩, ⟨.t 60, none, .pick, [.t 57, .t 59, .c (.b false)]⟩, ⟨.l 0, none, .mv, [.t 60]⟩])
 .ret))), [.tmp (.l 0)]⟩
theorem c9 : compFn Tryd.prog b9 Tryd.f9 = some a9 := by kernel_rfl
/-- tarpaulin/prog.All -/
def b10 : Nat := 57367
theorem c10 : compFn Tryd.prog b10 Tryd.f10 = some (c_prog_All Nn) := by kernel_rfl
/-- tarpaulin/tarpaulinref1.Progs -/
def b11 : Nat := 61
theorem c11 : compFn Tryd.prog b11 Tryd.f11 = some (c_tarpaulinref1_Progs Nn) := by kernel_rfl
/-- tarpaulin/prog.Name -/
def b12 : Nat := 5
theorem c12 : compFn Tryd.prog b12 Tryd.f12 = some (c_prog_Name Nn) := by kernel_rfl
/-- tarpaulin/tarpaulinref1.Name -/
def b13 : Nat := 13
theorem c13 : compFn Tryd.prog b13 Tryd.f13 = some (c_tarpaulinref1_Name Nn) := by kernel_rfl
/-- tarpaulin/prog.Check -/
def b14 : Nat := 7
theorem c14 : compFn Tryd.prog b14 Tryd.f14 = some (c_prog_Check Nn) := by kernel_rfl
/-- tarpaulin/tarpaulinref1.Prog -/
def b15 : Nat := 13
theorem c15 : compFn Tryd.prog b15 Tryd.f15 = some (c_tarpaulinref1_Prog Nn) := by kernel_rfl
/-- tarpaulin/tarpaulinalike.Ints -/
def b16 : Nat := 51
theorem c16 : compFn Tryd.prog b16 Tryd.f16 = some (c_tarpaulinalike_Ints Nn) := by kernel_rfl
/-- tarpaulin/prog.Reads -/
def b17 : Nat := 32281802128991715863
theorem c17 : compFn Tryd.prog b17 Tryd.f17 = some (c_prog_Reads Nn) := by kernel_rfl
/-- tarpaulin/tarpaulinref1.Reads -/
def b18 : Nat := 255
theorem c18 : compFn Tryd.prog b18 Tryd.f18 = some (c_tarpaulinref1_Reads Nn) := by kernel_rfl
/-- tarpaulin/prog.Writes -/
def b19 : Nat := 135
theorem c19 : compFn Tryd.prog b19 Tryd.f19 = some (c_prog_Writes Nn) := by kernel_rfl
/-- tarpaulin/tarpaulinref1.Writes -/
def b20 : Nat := 127
theorem c20 : compFn Tryd.prog b20 Tryd.f20 = some (c_tarpaulinref1_Writes Nn) := by kernel_rfl
/-- slices.ContainsFunc[[]tarpaulin/api.Instr,tarpaulin/api.Instr] -/
def b22 : Nat := 19
theorem c22 : compFn Tryd.prog b22 Tryd.f22 = some (c_slices_ContainsFunc_InstrInstr Nn) := by kernel_rfl
/-- tarpaulin/prog.All$1 -/
def b23 : Nat := 15
theorem c23 : compFn Tryd.prog b23 Tryd.f23 = some (c_prog_All_1 Nn) := by kernel_rfl
/-- tarpaulin/prog.starts -/
def b24 : Nat := 23
theorem c24 : compFn Tryd.prog b24 Tryd.f24 = some (c_prog_starts Nn) := by kernel_rfl
/-- strings.Fields -/
def b25 : Nat := 8189
def a25 : AFn := ⟨(.seq (.reg [⟨.l 2, none, .mv, [.c (.sl none 0 0 0)]⟩])
 (.seq (.reg [⟨.l 3, none, .mv, [.c (.i .i64 0)]⟩])
 (.seq (.reg [⟨.l 4, none, .mv, [.c (.i .i64 1)]⟩])
 (.seq (.reg [⟨.l 5, none, .mv, [.c (.i .u8 0)]⟩])
 (.seq (.seq (.reg [⟨.l 6, none, .mv, [.c (.i .i64 0)]⟩])
 (.block 0 (.loop (.seq (.seq (.reg [⟨.t 13, none, .mv, [.l 6]⟩, ⟨.t 14, none, .mv, [.l 0]⟩, ⟨.t 15, none, .lenS, [.t 14]⟩, ⟨.t 16, none, (.bin .lss), [.t 13, .t 15]⟩])
 (.cond (.t 16) .skip (.exit 0)))
 (.seq (.block 1 (.seq (.reg [⟨.t 19, none, .mv, [.l 0]⟩, ⟨.t 20, none, .mv, [.l 6]⟩, ⟨.t 21, none, .ixS, [.t 19, .t 20]⟩, ⟨.l 7, none, .mv, [.t 21]⟩])
 (.seq (.reg [⟨.t 22, none, .mv, [.l 5]⟩, ⟨.t 23, none, .mv, [.l 7]⟩, ⟨.t 24, none, (.bin .or), [.t 22, .t 23]⟩, ⟨.l 5, none, .mv, [.t 24]⟩])
 (.seq (.reg [⟨.t 25, none, .mv, [.l 7]⟩, ⟨.t 26, none, (.iadA 256 1), [.c (.p (some (0, 0))), .t 25]⟩, ⟨.t 27, none, (.ld none), [.t 26]⟩, ⟨.t 28, none, (.cvtI .i64), [.t 27]⟩, ⟨.l 8, none, .mv, [.t 28]⟩])
 (.seq (.reg [⟨.t 29, none, .mv, [.l 3]⟩, ⟨.t 30, none, .mv, [.l 4]⟩, ⟨.t 31, none, .mv, [.l 8]⟩, ⟨.t 32, none, (.un .xor), [.t 31]⟩, ⟨.t 33, none, (.bin .and), [.t 30, .t 32]⟩, ⟨.t 34, none, (.bin .add), [.t 29, .t 33]⟩, ⟨.l 3, none, .mv, [.t 34]⟩])
 (.reg [⟨.t 35, none, .mv, [.l 8]⟩, ⟨.l 4, none, .mv, [.t 35]⟩]))))))
 (.reg [⟨.t 17, none, .mv, [.l 6]⟩, ⟨.t 18, none, (.bin .add), [.t 17, .c (.i .i64 1)]⟩, ⟨.l 6, none, .mv, [.t 18]⟩]))))))
 (.seq (.seq (.reg [⟨.t 36, none, .mv, [.l 5]⟩, ⟨.t 37, none, (.bin .geq), [.t 36, .c (.i .u8 128)]⟩])
 (.cond (.t 37) (.seq (.reg [⟨.t 38, none, .mv, [.l 0]⟩, ⟨.t 39, none, (.call 33), [.t 38, .c (.fn 34 [] [])]⟩, ⟨.l 2, none, .mv, [.t 39]⟩])
 .ret) .skip))
 (.seq (.reg [⟨.t 40, none, .mv, [.l 3]⟩, ⟨.t 41, none, (.mksl [(.s [])] 16), [.t 40, .t 40]⟩, ⟨.l 9, none, .mv, [.t 41]⟩])
 (.seq (.reg [⟨.l 10, none, .mv, [.c (.i .i64 0)]⟩])
 (.seq (.reg [⟨.l 11, none, .mv, [.c (.i .i64 0)]⟩])
 (.seq (.reg [⟨.l 12, none, .mv, [.c (.i .i64 0)]⟩])
 (.seq (.block 2 (.loop (.seq (.seq (.reg [⟨.t 42, none, .mv, [.l 12]⟩, ⟨.t 43, none, .mv, [.l 0]⟩, ⟨.t 44, none, .lenS, [.t 43]⟩, ⟨.t 45, none, (.bin .lss), [.t 42, .t 44]⟩, ⟨.t 46, none, .mv, [.t 45]⟩, ⟨.t 47, (some (.t 46, true)), .mv, [.l 0]⟩, ⟨.t 48, (some (.t 46, true)), .mv, [.l 12]⟩, ⟨.t 49, (some (.t 46, true)), .ixS, [.t 47, .t 48]⟩, ⟨.t 50, (some (.t 46, true)), (.iadA 256 1), [.c (.p (some (0, 0))), .t 49]⟩, ⟨.t 51, (some (.t 46, true)), (.ld none), [.t 50]⟩, ⟨.t 52, (some (.t 46, true)), (.bin .neq), [.t 51, .c (.i .u8 0)]⟩, ⟨.t 53, none, .pick, [.t 46, .t 52, .c (.b false)]⟩])
 (.cond (.t 53) .skip (.exit 2)))
 (.block 3 (.reg [⟨.t 54, none, .mv, [.l 12]⟩, ⟨.t 55, none, (.bin .add), [.t 54, .c (.i .i64 1)]⟩, ⟨.l 12, none, .mv, [.t 55]⟩])))))
 (.seq (.reg [⟨.t 56, none, .mv, [.l 12]⟩, ⟨.l 11, none, .mv, [.t 56]⟩])
 (.seq (.block 4 (.loop (.seq (.seq (.reg [⟨.t 57, none, .mv, [.l 12]⟩, ⟨.t 58, none, .mv, [.l 0]⟩, ⟨.t 59, none, .lenS, [.t 58]⟩, ⟨.t 60, none, (.bin .lss), [.t 57, .t 59]⟩])
 (.cond (.t 60) .skip (.exit 4)))
 (.block 5 (.seq (.seq (.reg [⟨.t 61, none, .mv, [.l 0]⟩, ⟨.t 62, none, .mv, [.l 12]⟩, ⟨.t 63, none, .ixS, [.t 61, .t 62]⟩, ⟨.t 64, none, (.iadA 256 1), [.c (.p (some (0, 0))), .t 63]⟩, ⟨.t 65, none, (.ld none), [.t 64]⟩, ⟨.t 66, none, (.bin .eql), [.t 65, .c (.i .u8 0)]⟩])
 (.cond (.t 66) (.seq (.reg [⟨.t 67, none, .mv, [.l 12]⟩, ⟨.t 68, none, (.bin .add), [.t 67, .c (.i .i64 1)]⟩, ⟨.l 12, none, .mv, [.t 68]⟩])
 (.exit 5)) .skip))
 (.seq (.reg [⟨.t 69, none, .mv, [.l 9]⟩, ⟨.t 70, none, .mv, [.l 10]⟩, ⟨.t 71, none, .mv, [.l 0]⟩, ⟨.t 72, none, .mv, [.l 11]⟩, ⟨.t 73, none, .mv, [.l 12]⟩, ⟨.t 74, none, (.slcS true true), [.t 71, .t 72, .t 73]⟩, ⟨.t 75, none, (.iad 1), [.t 69, .t 70]⟩, ⟨.no, none, (.st 1), [.t 75, .t 74]⟩])
 (.seq (.reg [⟨.t 76, none, .mv, [.l 10]⟩, ⟨.t 77, none, (.bin .add), [.t 76, .c (.i .i64 1)]⟩, ⟨.l 10, none, .mv, [.t 77]⟩])
 (.seq (.reg [⟨.t 78, none, .mv, [.l 12]⟩, ⟨.t 79, none, (.bin .add), [.t 78, .c (.i .i64 1)]⟩, ⟨.l 12, none, .mv, [.t 79]⟩])
 (.seq (.block 6 (.loop (.seq (.seq (.reg [⟨.t 80, none, .mv, [.l 12]⟩, ⟨.t 81, none, .mv, [.l 0]⟩, ⟨.t 82, none, .lenS, [.t 81]⟩, ⟨.t 83, none, (.bin .lss), [.t 80, .t 82]⟩, ⟨.t 84, none, .mv, [.t 83]⟩, ⟨.t 85, (some (.t 84, true)), .mv, [.l 0]⟩, ⟨.t 86, (some (.t 84, true)), .mv, [.l 12]⟩, ⟨.t 87, (some (.t 84, true)), .ixS, [.t 85, .t 86]⟩, ⟨.t 88, (some (.t 84, true)), (.iadA 256 1), [.c (.p (some (0, 0))), .t 87]⟩, ⟨.t 89, (some (.t 84, true)), (.ld none), [.t 88]⟩, ⟨.t 90, (some (.t 84, true)), (.bin .neq), [.t 89, .c (.i .u8 0)]⟩, ⟨.t 91, none, .pick, [.t 84, .t 90, .c (.b false)]⟩])
 (.cond (.t 91) .skip (.exit 6)))
 (.block 7 (.reg [⟨.t 92, none, .mv, [.l 12]⟩, ⟨.t 93, none, (.bin .add), [.t 92, .c (.i .i64 1)]⟩, ⟨.l 12, none, .mv, [.t 93]⟩])))))
 (.reg [⟨.t 94, none, .mv, [.l 12]⟩, ⟨.l 11, none, .mv, [.t 94]⟩]))))))))))
 (.seq (.seq (.reg [⟨.t 95, none, .mv, [.l 11]⟩, ⟨.t 96, none, .mv, [.l 0]⟩, ⟨.t 97, none, .lenS, [.t 96]⟩, ⟨.t 98, none, (.bin .lss), [.t 95, .t 97]⟩])
 (.cond (.t 98) (.reg [⟨.t 99, none, .mv, [.l 9]⟩, ⟨.t 100, none, .mv, [.l 10]⟩, ⟨.t 101, none, .mv, [.l 0]⟩, ⟨.t 102, none, .mv, [.l 11]⟩, ⟨.t 103, none, (.slcS true false), [.t 101, .t 102]⟩, ⟨.t 104, none, (.iad 1), [.t 99, .t 100]⟩, ⟨.no, none, (.st 1), [.t 104, .t 103]⟩]) .skip))
 (.seq (.reg [⟨.t 105, none, .mv, [.l 9]⟩, ⟨.l 2, none, .mv, [.t 105]⟩])
 .ret))))))))))))))), [.tmp (.l 2)]⟩
theorem c25 : compFn Tryd.prog b25 Tryd.f25 = some a25 := by kernel_rfl
/-- tarpaulin/prog.Check$1 -/
def b26 : Nat := 15
theorem c26 : compFn Tryd.prog b26 Tryd.f26 = some (c_prog_Check_1 Nn) := by kernel_rfl
/-- tarpaulin/prog.good -/
def b27 : Nat := 30786325577847
theorem c27 : compFn Tryd.prog b27 Tryd.f27 = some (c_prog_good Nn) := by kernel_rfl
/-- tarpaulin/tarpaulinref1.one -/
def b28 : Nat := 17179870199
theorem c28 : compFn Tryd.prog b28 Tryd.f28 = some (c_tarpaulinref1_one Nn) := by kernel_rfl
/-- tarpaulin/prog.rising -/
def b29 : Nat := 5
theorem c29 : compFn Tryd.prog b29 Tryd.f29 = some (c_prog_rising Nn) := by kernel_rfl
/-- tarpaulin/tarpaulinref1.form -/
def b30 : Nat := 13
theorem c30 : compFn Tryd.prog b30 Tryd.f30 = some (c_tarpaulinref1_form Nn) := by kernel_rfl
/-- tarpaulin/tarpaulinref1.rising -/
def b31 : Nat := 31
theorem c31 : compFn Tryd.prog b31 Tryd.f31 = some (c_tarpaulinref1_rising Nn) := by kernel_rfl
/-- slices.IndexFunc[[]tarpaulin/api.Instr,tarpaulin/api.Instr] -/
def b32 : Nat := 435
theorem c32 : compFn Tryd.prog b32 Tryd.f32 = some (c_slices_IndexFunc_InstrInstr Nn) := by kernel_rfl
/-- tarpaulin/prog.may -/
def b35 : Nat := 199
theorem c35 : compFn Tryd.prog b35 Tryd.f35 = some (c_prog_may Nn) := by kernel_rfl
/-- slices.ContainsFunc[[]tarpaulin/api.Case,tarpaulin/api.Case] -/
def b36 : Nat := 19
theorem c36 : compFn Tryd.prog b36 Tryd.f36 = some (c_slices_ContainsFunc_CaseCase Nn) := by kernel_rfl
/-- tarpaulin/prog.good$1 -/
def b37 : Nat := 7
theorem c37 : compFn Tryd.prog b37 Tryd.f37 = some (c_prog_good_1 Nn) := by kernel_rfl
/-- tarpaulin/prog.register -/
def b38 : Nat := 5
theorem c38 : compFn Tryd.prog b38 Tryd.f38 = some (c_prog_register Nn) := by kernel_rfl
/-- tarpaulin/tarpaulinref1.reg -/
def b39 : Nat := 5
theorem c39 : compFn Tryd.prog b39 Tryd.f39 = some (c_tarpaulinref1_reg Nn) := by kernel_rfl
/-- slices.Sort[[]int,int] -/
def b40 : Nat := 5
def a40 : AFn := ⟨(.seq (.reg [⟨.t 3, none, .mv, [.l 0]⟩, ⟨.t 4, none, .lenSl, [.t 3]⟩, ⟨.l 2, none, .mv, [.t 4]⟩])
 (.reg [⟨.t 5, none, .mv, [.l 0]⟩, ⟨.t 6, none, .mv, [.l 2]⟩, ⟨.t 7, none, .mv, [.l 2]⟩, ⟨.t 8, none, (.cvtI .u64), [.t 7]⟩, ⟨.t 9, none, (.call 45), [.t 8]⟩, ⟨.t 10, none, (.call 44), [.t 5, .c (.i .i64 0), .t 6, .t 9]⟩])), []⟩
theorem c40 : compFn Tryd.prog b40 Tryd.f40 = some a40 := by kernel_rfl
/-- slices.Compact[[]int,int] -/
def b41 : Nat := 61
theorem c41 : compFn Tryd.prog b41 Tryd.f41 = some (c_slices_Compact_intint Nn) := by kernel_rfl
/-- slices.IndexFunc[[]tarpaulin/api.Case,tarpaulin/api.Case] -/
def b43 : Nat := 435
theorem c43 : compFn Tryd.prog b43 Tryd.f43 = some (c_slices_IndexFunc_CaseCase Nn) := by kernel_rfl
/-- slices.pdqsortOrdered[int] -/
def b44 : Nat := 524047
def a44 : AFn := ⟨(.seq (.reg [⟨.l 8, none, .mv, [.c (.b true)]⟩])
 (.seq (.reg [⟨.l 9, none, .mv, [.c (.b true)]⟩])
 (.block 0 (.loop (.block 1 (.seq (.reg [⟨.t 19, none, .mv, [.l 2]⟩, ⟨.t 20, none, .mv, [.l 1]⟩, ⟨.t 21, none, (.bin .sub), [.t 19, .t 20]⟩, ⟨.l 10, none, .mv, [.t 21]⟩])
 (.seq (.seq (.reg [⟨.t 22, none, .mv, [.l 10]⟩, ⟨.t 23, none, (.bin .leq), [.t 22, .c (.i .i64 12)]⟩])
 (.cond (.t 23) (.seq (.reg [⟨.t 24, none, .mv, [.l 0]⟩, ⟨.t 25, none, .mv, [.l 1]⟩, ⟨.t 26, none, .mv, [.l 2]⟩, ⟨.t 27, none, (.call 48), [.t 24, .t 25, .t 26]⟩])
 .ret) .skip))
 (.seq (.seq (.reg [⟨.t 28, none, .mv, [.l 3]⟩, ⟨.t 29, none, (.bin .eql), [.t 28, .c (.i .i64 0)]⟩])
 (.cond (.t 29) (.seq (.reg [⟨.t 30, none, .mv, [.l 0]⟩, ⟨.t 31, none, .mv, [.l 1]⟩, ⟨.t 32, none, .mv, [.l 2]⟩, ⟨.t 33, none, (.call 49), [.t 30, .t 31, .t 32]⟩])
 .ret) .skip))
 (.seq (.seq (.reg [⟨.t 34, none, .mv, [.l 8]⟩, ⟨.t 35, none, (.un .not), [.t 34]⟩])
 (.cond (.t 35) (.seq (.reg [⟨.t 36, none, .mv, [.l 0]⟩, ⟨.t 37, none, .mv, [.l 1]⟩, ⟨.t 38, none, .mv, [.l 2]⟩, ⟨.t 39, none, (.call 50), [.t 36, .t 37, .t 38]⟩])
 (.reg [⟨.t 40, none, .mv, [.l 3]⟩, ⟨.t 41, none, (.bin .sub), [.t 40, .c (.i .i64 1)]⟩, ⟨.l 3, none, .mv, [.t 41]⟩])) .skip))
 (.seq (.reg [⟨.t 43, none, .mv, [.l 0]⟩, ⟨.t 44, none, .mv, [.l 1]⟩, ⟨.t 45, none, .mv, [.l 2]⟩, ⟨.t 46, none, (.call 51), [.t 43, .t 44, .t 45]⟩, ⟨.t 42, none, .mv, [.t 46]⟩, ⟨.t 47, none, (.ext 0), [.t 42]⟩, ⟨.t 48, none, (.ext 1), [.t 42]⟩, ⟨.l 11, none, .mv, [.t 47]⟩, ⟨.l 12, none, .mv, [.t 48]⟩])
 (.seq (.seq (.reg [⟨.t 49, none, .mv, [.l 12]⟩, ⟨.t 50, none, (.bin .eql), [.t 49, .c (.i .i64 2)]⟩])
 (.cond (.t 50) (.seq (.reg [⟨.t 51, none, .mv, [.l 0]⟩, ⟨.t 52, none, .mv, [.l 1]⟩, ⟨.t 53, none, .mv, [.l 2]⟩, ⟨.t 54, none, (.call 52), [.t 51, .t 52, .t 53]⟩])
 (.seq (.reg [⟨.t 55, none, .mv, [.l 2]⟩, ⟨.t 56, none, (.bin .sub), [.t 55, .c (.i .i64 1)]⟩, ⟨.t 57, none, .mv, [.l 11]⟩, ⟨.t 58, none, .mv, [.l 1]⟩, ⟨.t 59, none, (.bin .sub), [.t 57, .t 58]⟩, ⟨.t 60, none, (.bin .sub), [.t 56, .t 59]⟩, ⟨.l 11, none, .mv, [.t 60]⟩])
 (.reg [⟨.l 12, none, .mv, [.c (.i .i64 1)]⟩]))) .skip))
 (.seq (.seq (.reg [⟨.t 61, none, .mv, [.l 8]⟩, ⟨.t 62, none, .mv, [.t 61]⟩, ⟨.t 63, (some (.t 62, true)), .mv, [.l 9]⟩, ⟨.t 64, none, .pick, [.t 62, .t 63, .c (.b false)]⟩, ⟨.t 65, none, .mv, [.t 64]⟩, ⟨.t 66, (some (.t 65, true)), .mv, [.l 12]⟩, ⟨.t 67, (some (.t 65, true)), (.bin .eql), [.t 66, .c (.i .i64 1)]⟩, ⟨.t 68, none, .pick, [.t 65, .t 67, .c (.b false)]⟩])
 (.cond (.t 68) (.seq (.reg [⟨.t 69, none, .mv, [.l 0]⟩, ⟨.t 70, none, .mv, [.l 1]⟩, ⟨.t 71, none, .mv, [.l 2]⟩, ⟨.t 72, none, (.call 53), [.t 69, .t 70, .t 71]⟩])
 (.cond (.t 72) .ret .skip)) .skip))
 (.seq (.seq (.reg [⟨.t 73, none, .mv, [.l 1]⟩, ⟨.t 74, none, (.bin .gtr), [.t 73, .c (.i .i64 0)]⟩, ⟨.t 75, none, .mv, [.t 74]⟩, ⟨.t 76, (some (.t 75, true)), .mv, [.l 0]⟩, ⟨.t 77, (some (.t 75, true)), .mv, [.l 1]⟩, ⟨.t 78, (some (.t 75, true)), (.bin .sub), [.t 77, .c (.i .i64 1)]⟩, ⟨.t 79, (some (.t 75, true)), (.iad 1), [.t 76, .t 78]⟩, ⟨.t 80, (some (.t 75, true)), (.ld none), [.t 79]⟩, ⟨.t 81, (some (.t 75, true)), .mv, [.l 0]⟩, ⟨.t 82, (some (.t 75, true)), .mv, [.l 11]⟩, ⟨.t 83, (some (.t 75, true)), (.iad 1), [.t 81, .t 82]⟩, ⟨.t 84, (some (.t 75, true)), (.ld none), [.t 83]⟩, ⟨.t 85, (some (.t 75, true)), (.call 54), [.t 80, .t 84]⟩, ⟨.t 86, (some (.t 75, true)), (.un .not), [.t 85]⟩, ⟨.t 87, none, .pick, [.t 75, .t 86, .c (.b false)]⟩])
 (.cond (.t 87) (.seq (.reg [⟨.t 88, none, .mv, [.l 0]⟩, ⟨.t 89, none, .mv, [.l 1]⟩, ⟨.t 90, none, .mv, [.l 2]⟩, ⟨.t 91, none, .mv, [.l 11]⟩, ⟨.t 92, none, (.call 55), [.t 88, .t 89, .t 90, .t 91]⟩, ⟨.l 13, none, .mv, [.t 92]⟩])
 (.seq (.reg [⟨.t 93, none, .mv, [.l 13]⟩, ⟨.l 1, none, .mv, [.t 93]⟩])
 (.exit 1))) .skip))
 (.seq (.reg [⟨.t 95, none, .mv, [.l 0]⟩, ⟨.t 96, none, .mv, [.l 1]⟩, ⟨.t 97, none, .mv, [.l 2]⟩, ⟨.t 98, none, .mv, [.l 11]⟩, ⟨.t 99, none, (.call 56), [.t 95, .t 96, .t 97, .t 98]⟩, ⟨.t 94, none, .mv, [.t 99]⟩, ⟨.t 100, none, (.ext 0), [.t 94]⟩, ⟨.t 101, none, (.ext 1), [.t 94]⟩, ⟨.l 14, none, .mv, [.t 100]⟩, ⟨.l 15, none, .mv, [.t 101]⟩])
 (.seq (.reg [⟨.t 102, none, .mv, [.l 15]⟩, ⟨.l 9, none, .mv, [.t 102]⟩])
 (.seq (.reg [⟨.t 103, none, .mv, [.l 14]⟩, ⟨.t 104, none, .mv, [.l 1]⟩, ⟨.t 105, none, (.bin .sub), [.t 103, .t 104]⟩, ⟨.t 106, none, .mv, [.l 2]⟩, ⟨.t 107, none, .mv, [.l 14]⟩, ⟨.t 108, none, (.bin .sub), [.t 106, .t 107]⟩, ⟨.l 16, none, .mv, [.t 105]⟩, ⟨.l 17, none, .mv, [.t 108]⟩])
 (.seq (.reg [⟨.t 109, none, .mv, [.l 10]⟩, ⟨.t 110, none, (.bin .quo), [.t 109, .c (.i .i64 8)]⟩, ⟨.l 18, none, .mv, [.t 110]⟩])
 (.seq (.reg [⟨.t 111, none, .mv, [.l 16]⟩, ⟨.t 112, none, .mv, [.l 17]⟩, ⟨.t 113, none, (.bin .lss), [.t 111, .t 112]⟩])
 (.cond (.t 113) (.seq (.reg [⟨.t 114, none, .mv, [.l 16]⟩, ⟨.t 115, none, .mv, [.l 18]⟩, ⟨.t 116, none, (.bin .geq), [.t 114, .t 115]⟩, ⟨.l 8, none, .mv, [.t 116]⟩])
 (.seq (.reg [⟨.t 117, none, .mv, [.l 0]⟩, ⟨.t 118, none, .mv, [.l 1]⟩, ⟨.t 119, none, .mv, [.l 14]⟩, ⟨.t 120, none, .mv, [.l 3]⟩, ⟨.t 121, none, (.call 44), [.t 117, .t 118, .t 119, .t 120]⟩])
 (.reg [⟨.t 122, none, .mv, [.l 14]⟩, ⟨.t 123, none, (.bin .add), [.t 122, .c (.i .i64 1)]⟩, ⟨.l 1, none, .mv, [.t 123]⟩]))) (.seq (.reg [⟨.t 124, none, .mv, [.l 17]⟩, ⟨.t 125, none, .mv, [.l 18]⟩, ⟨.t 126, none, (.bin .geq), [.t 124, .t 125]⟩, ⟨.l 8, none, .mv, [.t 126]⟩])
 (.seq (.reg [⟨.t 127, none, .mv, [.l 0]⟩, ⟨.t 128, none, .mv, [.l 14]⟩, ⟨.t 129, none, (.bin .add), [.t 128, .c (.i .i64 1)]⟩, ⟨.t 130, none, .mv, [.l 2]⟩, ⟨.t 131, none, .mv, [.l 3]⟩, ⟨.t 132, none, (.call 44), [.t 127, .t 129, .t 130, .t 131]⟩])
 (.reg [⟨.t 133, none, .mv, [.l 14]⟩, ⟨.l 2, none, .mv, [.t 133]⟩])))))))))))))))))))))), []⟩
theorem c44 : compFn Tryd.prog b44 Tryd.f44 = some a44 := by kernel_rfl
/-- math/bits.Len -/
def b45 : Nat := 5
def a45 : AFn := ⟨(.seq (.reg [⟨.l 2, none, .mv, [.c (.i .i64 0)]⟩])
 (.seq (.cond (.c (.b false)) (.seq (.reg [⟨.t 3, none, .mv, [.l 0]⟩, ⟨.t 4, none, (.cvtI .u32), [.t 3]⟩, ⟨.t 5, none, (.call 57), [.t 4]⟩, ⟨.l 2, none, .mv, [.t 5]⟩])
 .ret) .skip)
 (.seq (.reg [⟨.t 6, none, .mv, [.l 0]⟩, ⟨.t 7, none, (.call 58), [.t 6]⟩, ⟨.l 2, none, .mv, [.t 7]⟩])
 .ret))), [.tmp (.l 2)]⟩
theorem c45 : compFn Tryd.prog b45 Tryd.f45 = some a45 := by kernel_rfl
/-- slices.insertionSortOrdered[int] -/
def b48 : Nat := 199
def a48 : AFn := ⟨(.seq (.reg [⟨.t 8, none, .mv, [.l 1]⟩, ⟨.t 9, none, (.bin .add), [.t 8, .c (.i .i64 1)]⟩, ⟨.l 6, none, .mv, [.t 9]⟩])
 (.block 0 (.loop (.seq (.seq (.reg [⟨.t 10, none, .mv, [.l 6]⟩, ⟨.t 11, none, .mv, [.l 2]⟩, ⟨.t 12, none, (.bin .lss), [.t 10, .t 11]⟩])
 (.cond (.t 12) .skip (.exit 0)))
 (.seq (.block 1 (.seq (.reg [⟨.t 15, none, .mv, [.l 6]⟩, ⟨.l 7, none, .mv, [.t 15]⟩])
 (.block 2 (.loop (.seq (.seq (.reg [⟨.t 16, none, .mv, [.l 7]⟩, ⟨.t 17, none, .mv, [.l 1]⟩, ⟨.t 18, none, (.bin .gtr), [.t 16, .t 17]⟩, ⟨.t 19, none, .mv, [.t 18]⟩, ⟨.t 20, (some (.t 19, true)), .mv, [.l 0]⟩, ⟨.t 21, (some (.t 19, true)), .mv, [.l 7]⟩, ⟨.t 22, (some (.t 19, true)), (.iad 1), [.t 20, .t 21]⟩, ⟨.t 23, (some (.t 19, true)), (.ld none), [.t 22]⟩, ⟨.t 24, (some (.t 19, true)), .mv, [.l 0]⟩, ⟨.t 25, (some (.t 19, true)), .mv, [.l 7]⟩, ⟨.t 26, (some (.t 19, true)), (.bin .sub), [.t 25, .c (.i .i64 1)]⟩, ⟨.t 27, (some (.t 19, true)), (.iad 1), [.t 24, .t 26]⟩, ⟨.t 28, (some (.t 19, true)), (.ld none), [.t 27]⟩, ⟨.t 29, (some (.t 19, true)), (.call 54), [.t 23, .t 28]⟩, ⟨.t 30, none, .pick, [.t 19, .t 29, .c (.b false)]⟩])
 (.cond (.t 30) .skip (.exit 2)))
 (.seq (.block 3 (.reg [⟨.t 33, none, .mv, [.l 0]⟩, ⟨.t 34, none, .mv, [.l 7]⟩, ⟨.t 35, none, .mv, [.l 0]⟩, ⟨.t 36, none, .mv, [.l 7]⟩, ⟨.t 37, none, (.bin .sub), [.t 36, .c (.i .i64 1)]⟩, ⟨.t 38, none, .mv, [.l 0]⟩, ⟨.t 39, none, .mv, [.l 7]⟩, ⟨.t 40, none, (.bin .sub), [.t 39, .c (.i .i64 1)]⟩, ⟨.t 41, none, (.iad 1), [.t 38, .t 40]⟩, ⟨.t 42, none, (.ld none), [.t 41]⟩, ⟨.t 43, none, .mv, [.l 0]⟩, ⟨.t 44, none, .mv, [.l 7]⟩, ⟨.t 45, none, (.iad 1), [.t 43, .t 44]⟩, ⟨.t 46, none, (.ld none), [.t 45]⟩, ⟨.t 47, none, (.iad 1), [.t 33, .t 34]⟩, ⟨.no, none, (.st 1), [.t 47, .t 42]⟩, ⟨.t 48, none, (.iad 1), [.t 35, .t 37]⟩, ⟨.no, none, (.st 1), [.t 48, .t 46]⟩]))
 (.reg [⟨.t 31, none, .mv, [.l 7]⟩, ⟨.t 32, none, (.bin .sub), [.t 31, .c (.i .i64 1)]⟩, ⟨.l 7, none, .mv, [.t 32]⟩])))))))
 (.reg [⟨.t 13, none, .mv, [.l 6]⟩, ⟨.t 14, none, (.bin .add), [.t 13, .c (.i .i64 1)]⟩, ⟨.l 6, none, .mv, [.t 14]⟩])))))), []⟩
theorem c48 : compFn Tryd.prog b48 Tryd.f48 = some a48 := by kernel_rfl
/-- slices.heapSortOrdered[int] -/
def b49 : Nat := 1991
def a49 : AFn := ⟨(.seq (.reg [⟨.t 11, none, .mv, [.l 1]⟩, ⟨.l 6, none, .mv, [.t 11]⟩])
 (.seq (.reg [⟨.l 7, none, .mv, [.c (.i .i64 0)]⟩])
 (.seq (.reg [⟨.t 12, none, .mv, [.l 2]⟩, ⟨.t 13, none, .mv, [.l 1]⟩, ⟨.t 14, none, (.bin .sub), [.t 12, .t 13]⟩, ⟨.l 8, none, .mv, [.t 14]⟩])
 (.seq (.seq (.reg [⟨.t 15, none, .mv, [.l 8]⟩, ⟨.t 16, none, (.bin .sub), [.t 15, .c (.i .i64 1)]⟩, ⟨.t 17, none, (.bin .quo), [.t 16, .c (.i .i64 2)]⟩, ⟨.l 9, none, .mv, [.t 17]⟩])
 (.block 0 (.loop (.seq (.seq (.reg [⟨.t 18, none, .mv, [.l 9]⟩, ⟨.t 19, none, (.bin .geq), [.t 18, .c (.i .i64 0)]⟩])
 (.cond (.t 19) .skip (.exit 0)))
 (.seq (.block 1 (.reg [⟨.t 22, none, .mv, [.l 0]⟩, ⟨.t 23, none, .mv, [.l 9]⟩, ⟨.t 24, none, .mv, [.l 8]⟩, ⟨.t 25, none, .mv, [.l 6]⟩, ⟨.t 26, none, (.call 59), [.t 22, .t 23, .t 24, .t 25]⟩]))
 (.reg [⟨.t 20, none, .mv, [.l 9]⟩, ⟨.t 21, none, (.bin .sub), [.t 20, .c (.i .i64 1)]⟩, ⟨.l 9, none, .mv, [.t 21]⟩]))))))
 (.seq (.reg [⟨.t 27, none, .mv, [.l 8]⟩, ⟨.t 28, none, (.bin .sub), [.t 27, .c (.i .i64 1)]⟩, ⟨.l 10, none, .mv, [.t 28]⟩])
 (.block 2 (.loop (.seq (.seq (.reg [⟨.t 29, none, .mv, [.l 10]⟩, ⟨.t 30, none, (.bin .geq), [.t 29, .c (.i .i64 0)]⟩])
 (.cond (.t 30) .skip (.exit 2)))
 (.seq (.block 3 (.seq (.reg [⟨.t 33, none, .mv, [.l 0]⟩, ⟨.t 34, none, .mv, [.l 6]⟩, ⟨.t 35, none, .mv, [.l 0]⟩, ⟨.t 36, none, .mv, [.l 6]⟩, ⟨.t 37, none, .mv, [.l 10]⟩, ⟨.t 38, none, (.bin .add), [.t 36, .t 37]⟩, ⟨.t 39, none, .mv, [.l 0]⟩, ⟨.t 40, none, .mv, [.l 6]⟩, ⟨.t 41, none, .mv, [.l 10]⟩, ⟨.t 42, none, (.bin .add), [.t 40, .t 41]⟩, ⟨.t 43, none, (.iad 1), [.t 39, .t 42]⟩, ⟨.t 44, none, (.ld none), [.t 43]⟩, ⟨.t 45, none, .mv, [.l 0]⟩, ⟨.t 46, none, .mv, [.l 6]⟩, ⟨.t 47, none, (.iad 1), [.t 45, .t 46]⟩, ⟨.t 48, none, (.ld none), [.t 47]⟩, ⟨.t 49, none, (.iad 1), [.t 33, .t 34]⟩, ⟨.no, none, (.st 1), [.t 49, .t 44]⟩, ⟨.t 50, none, (.iad 1), [.t 35, .t 38]⟩, ⟨.no, none, (.st 1), [.t 50, .t 48]⟩])
 (.reg [⟨.t 51, none, .mv, [.l 0]⟩, ⟨.t 52, none, .mv, [.l 7]⟩, ⟨.t 53, none, .mv, [.l 10]⟩, ⟨.t 54, none, .mv, [.l 6]⟩, ⟨.t 55, none, (.call 59), [.t 51, .t 52, .t 53, .t 54]⟩])))
 (.reg [⟨.t 31, none, .mv, [.l 10]⟩, ⟨.t 32, none, (.bin .sub), [.t 31, .c (.i .i64 1)]⟩, ⟨.l 10, none, .mv, [.t 32]⟩])))))))))), []⟩
theorem c49 : compFn Tryd.prog b49 Tryd.f49 = some a49 := by kernel_rfl
/-- slices.breakPatternsOrdered[int] -/
def b50 : Nat := 1991
def a50 : AFn := ⟨(.seq (.reg [⟨.t 11, none, .mv, [.l 2]⟩, ⟨.t 12, none, .mv, [.l 1]⟩, ⟨.t 13, none, (.bin .sub), [.t 11, .t 12]⟩, ⟨.l 6, none, .mv, [.t 13]⟩])
 (.seq (.reg [⟨.t 14, none, .mv, [.l 6]⟩, ⟨.t 15, none, (.bin .geq), [.t 14, .c (.i .i64 8)]⟩])
 (.cond (.t 15) (.seq (.reg [⟨.t 16, none, .mv, [.l 6]⟩, ⟨.t 17, none, (.cvtI .u64), [.t 16]⟩, ⟨.l 7, none, (.alloc [(.i .u64 0)]), []⟩, ⟨.no, none, (.st 1), [.l 7, .t 17]⟩])
 (.seq (.reg [⟨.t 18, none, .mv, [.l 6]⟩, ⟨.t 19, none, (.call 60), [.t 18]⟩, ⟨.l 8, none, .mv, [.t 19]⟩])
 (.seq (.reg [⟨.t 20, none, .mv, [.l 1]⟩, ⟨.t 21, none, .mv, [.l 6]⟩, ⟨.t 22, none, (.bin .quo), [.t 21, .c (.i .i64 4)]⟩, ⟨.t 23, none, (.bin .mul), [.t 22, .c (.i .i64 2)]⟩, ⟨.t 24, none, (.bin .add), [.t 20, .t 23]⟩, ⟨.t 25, none, (.bin .sub), [.t 24, .c (.i .i64 1)]⟩, ⟨.l 9, none, .mv, [.t 25]⟩])
 (.block 0 (.loop (.seq (.seq (.reg [⟨.t 26, none, .mv, [.l 9]⟩, ⟨.t 27, none, .mv, [.l 1]⟩, ⟨.t 28, none, .mv, [.l 6]⟩, ⟨.t 29, none, (.bin .quo), [.t 28, .c (.i .i64 4)]⟩, ⟨.t 30, none, (.bin .mul), [.t 29, .c (.i .i64 2)]⟩, ⟨.t 31, none, (.bin .add), [.t 27, .t 30]⟩, ⟨.t 32, none, (.bin .add), [.t 31, .c (.i .i64 1)]⟩, ⟨.t 33, none, (.bin .leq), [.t 26, .t 32]⟩])
 (.cond (.t 33) .skip (.exit 0)))
 (.seq (.block 1 (.seq (.reg [⟨.t 36, none, (.call 61), [.l 7]⟩, ⟨.t 37, none, .mv, [.l 8]⟩, ⟨.t 38, none, (.bin .sub), [.t 37, .c (.i .u64 1)]⟩, ⟨.t 39, none, (.bin .and), [.t 36, .t 38]⟩, ⟨.t 40, none, (.cvtI .i64), [.t 39]⟩, ⟨.l 10, none, .mv, [.t 40]⟩])
 (.seq (.seq (.reg [⟨.t 41, none, .mv, [.l 10]⟩, ⟨.t 42, none, .mv, [.l 6]⟩, ⟨.t 43, none, (.bin .geq), [.t 41, .t 42]⟩])
 (.cond (.t 43) (.reg [⟨.t 44, none, .mv, [.l 10]⟩, ⟨.t 45, none, .mv, [.l 6]⟩, ⟨.t 46, none, (.bin .sub), [.t 44, .t 45]⟩, ⟨.l 10, none, .mv, [.t 46]⟩]) .skip))
 (.reg [⟨.t 47, none, .mv, [.l 0]⟩, ⟨.t 48, none, .mv, [.l 9]⟩, ⟨.t 49, none, .mv, [.l 0]⟩, ⟨.t 50, none, .mv, [.l 1]⟩, ⟨.t 51, none, .mv, [.l 10]⟩, ⟨.t 52, none, (.bin .add), [.t 50, .t 51]⟩, ⟨.t 53, none, .mv, [.l 0]⟩, ⟨.t 54, none, .mv, [.l 1]⟩, ⟨.t 55, none, .mv, [.l 10]⟩, ⟨.t 56, none, (.bin .add), [.t 54, .t 55]⟩, ⟨.t 57, none, (.iad 1), [.t 53, .t 56]⟩, ⟨.t 58, none, (.ld none), [.t 57]⟩, ⟨.t 59, none, .mv, [.l 0]⟩, ⟨.t 60, none, .mv, [.l 9]⟩, ⟨.t 61, none, (.iad 1), [.t 59, .t 60]⟩, ⟨.t 62, none, (.ld none), [.t 61]⟩, ⟨.t 63, none, (.iad 1), [.t 47, .t 48]⟩, ⟨.no, none, (.st 1), [.t 63, .t 58]⟩, ⟨.t 64, none, (.iad 1), [.t 49, .t 52]⟩, ⟨.no, none, (.st 1), [.t 64, .t 62]⟩]))))
 (.reg [⟨.t 34, none, .mv, [.l 9]⟩, ⟨.t 35, none, (.bin .add), [.t 34, .c (.i .i64 1)]⟩, ⟨.l 9, none, .mv, [.t 35]⟩])))))))) .skip))), []⟩
theorem c50 : compFn Tryd.prog b50 Tryd.f50 = some a50 := by kernel_rfl
/-- slices.choosePivotOrdered[int] -/
def b51 : Nat := 562949953429447
def a51 : AFn := ⟨(.seq (.reg [⟨.l 6, none, .mv, [.c (.i .i64 0)]⟩, ⟨.l 7, none, .mv, [.c (.i .i64 0)]⟩])
 (.seq (.reg [⟨.t 13, none, .mv, [.l 2]⟩, ⟨.t 14, none, .mv, [.l 1]⟩, ⟨.t 15, none, (.bin .sub), [.t 13, .t 14]⟩, ⟨.l 8, none, .mv, [.t 15]⟩])
 (.seq (.reg [⟨.l 9, none, (.alloc [(.i .i64 0)]), []⟩])
 (.seq (.reg [⟨.t 16, none, .mv, [.l 1]⟩, ⟨.t 17, none, .mv, [.l 8]⟩, ⟨.t 18, none, (.bin .quo), [.t 17, .c (.i .i64 4)]⟩, ⟨.t 19, none, (.bin .mul), [.t 18, .c (.i .i64 1)]⟩, ⟨.t 20, none, (.bin .add), [.t 16, .t 19]⟩, ⟨.l 10, none, .mv, [.t 20]⟩])
 (.seq (.reg [⟨.t 21, none, .mv, [.l 1]⟩, ⟨.t 22, none, .mv, [.l 8]⟩, ⟨.t 23, none, (.bin .quo), [.t 22, .c (.i .i64 4)]⟩, ⟨.t 24, none, (.bin .mul), [.t 23, .c (.i .i64 2)]⟩, ⟨.t 25, none, (.bin .add), [.t 21, .t 24]⟩, ⟨.l 11, none, .mv, [.t 25]⟩])
 (.seq (.reg [⟨.t 26, none, .mv, [.l 1]⟩, ⟨.t 27, none, .mv, [.l 8]⟩, ⟨.t 28, none, (.bin .quo), [.t 27, .c (.i .i64 4)]⟩, ⟨.t 29, none, (.bin .mul), [.t 28, .c (.i .i64 3)]⟩, ⟨.t 30, none, (.bin .add), [.t 26, .t 29]⟩, ⟨.l 12, none, .mv, [.t 30]⟩])
 (.seq (.seq (.reg [⟨.t 31, none, .mv, [.l 8]⟩, ⟨.t 32, none, (.bin .geq), [.t 31, .c (.i .i64 8)]⟩])
 (.cond (.t 32) (.seq (.seq (.reg [⟨.t 33, none, .mv, [.l 8]⟩, ⟨.t 34, none, (.bin .geq), [.t 33, .c (.i .i64 50)]⟩])
 (.cond (.t 34) (.seq (.reg [⟨.t 35, none, .mv, [.l 0]⟩, ⟨.t 36, none, .mv, [.l 10]⟩, ⟨.t 37, none, (.call 62), [.t 35, .t 36, .l 9]⟩, ⟨.l 10, none, .mv, [.t 37]⟩])
 (.seq (.reg [⟨.t 38, none, .mv, [.l 0]⟩, ⟨.t 39, none, .mv, [.l 11]⟩, ⟨.t 40, none, (.call 62), [.t 38, .t 39, .l 9]⟩, ⟨.l 11, none, .mv, [.t 40]⟩])
 (.reg [⟨.t 41, none, .mv, [.l 0]⟩, ⟨.t 42, none, .mv, [.l 12]⟩, ⟨.t 43, none, (.call 62), [.t 41, .t 42, .l 9]⟩, ⟨.l 12, none, .mv, [.t 43]⟩]))) .skip))
 (.reg [⟨.t 44, none, .mv, [.l 0]⟩, ⟨.t 45, none, .mv, [.l 10]⟩, ⟨.t 46, none, .mv, [.l 11]⟩, ⟨.t 47, none, .mv, [.l 12]⟩, ⟨.t 48, none, (.call 63), [.t 44, .t 45, .t 46, .t 47, .l 9]⟩, ⟨.l 11, none, .mv, [.t 48]⟩])) .skip))
 (.seq (.reg [⟨.l 49, none, (.ld none), [.l 9]⟩])
 (.block 0 (.seq (.reg [⟨.t 52, none, (.bin .eql), [.l 49, .c (.i .i64 0)]⟩, ⟨.t 51, none, .mv, [.t 52]⟩])
 (.cond (.t 51) (.seq (.reg [⟨.t 53, none, .mv, [.l 11]⟩, ⟨.l 6, none, .mv, [.t 53]⟩, ⟨.l 7, none, .mv, [.c (.i .i64 1)]⟩])
 .ret) (.seq (.reg [⟨.t 55, none, (.bin .eql), [.l 49, .c (.i .i64 12)]⟩, ⟨.t 54, none, .mv, [.t 55]⟩])
 (.cond (.t 54) (.seq (.reg [⟨.t 56, none, .mv, [.l 11]⟩, ⟨.l 6, none, .mv, [.t 56]⟩, ⟨.l 7, none, .mv, [.c (.i .i64 2)]⟩])
 .ret) (.seq (.reg [⟨.t 50, none, .mv, [.l 11]⟩, ⟨.l 6, none, .mv, [.t 50]⟩, ⟨.l 7, none, .mv, [.c (.i .i64 0)]⟩])
 .ret)))))))))))))), [.tmp (.l 6), .tmp (.l 7)]⟩
theorem c51 : compFn Tryd.prog b51 Tryd.f51 = some a51 := by kernel_rfl
/-- slices.reverseRangeOrdered[int] -/
def b52 : Nat := 199
def a52 : AFn := ⟨(.seq (.reg [⟨.t 8, none, .mv, [.l 1]⟩, ⟨.l 6, none, .mv, [.t 8]⟩])
 (.seq (.reg [⟨.t 9, none, .mv, [.l 2]⟩, ⟨.t 10, none, (.bin .sub), [.t 9, .c (.i .i64 1)]⟩, ⟨.l 7, none, .mv, [.t 10]⟩])
 (.block 0 (.loop (.seq (.seq (.reg [⟨.t 11, none, .mv, [.l 6]⟩, ⟨.t 12, none, .mv, [.l 7]⟩, ⟨.t 13, none, (.bin .lss), [.t 11, .t 12]⟩])
 (.cond (.t 13) .skip (.exit 0)))
 (.block 1 (.seq (.reg [⟨.t 14, none, .mv, [.l 0]⟩, ⟨.t 15, none, .mv, [.l 6]⟩, ⟨.t 16, none, .mv, [.l 0]⟩, ⟨.t 17, none, .mv, [.l 7]⟩, ⟨.t 18, none, .mv, [.l 0]⟩, ⟨.t 19, none, .mv, [.l 7]⟩, ⟨.t 20, none, (.iad 1), [.t 18, .t 19]⟩, ⟨.t 21, none, (.ld none), [.t 20]⟩, ⟨.t 22, none, .mv, [.l 0]⟩, ⟨.t 23, none, .mv, [.l 6]⟩, ⟨.t 24, none, (.iad 1), [.t 22, .t 23]⟩, ⟨.t 25, none, (.ld none), [.t 24]⟩, ⟨.t 26, none, (.iad 1), [.t 14, .t 15]⟩, ⟨.no, none, (.st 1), [.t 26, .t 21]⟩, ⟨.t 27, none, (.iad 1), [.t 16, .t 17]⟩, ⟨.no, none, (.st 1), [.t 27, .t 25]⟩])
 (.seq (.reg [⟨.t 28, none, .mv, [.l 6]⟩, ⟨.t 29, none, (.bin .add), [.t 28, .c (.i .i64 1)]⟩, ⟨.l 6, none, .mv, [.t 29]⟩])
 (.reg [⟨.t 30, none, .mv, [.l 7]⟩, ⟨.t 31, none, (.bin .sub), [.t 30, .c (.i .i64 1)]⟩, ⟨.l 7, none, .mv, [.t 31]⟩]))))))))), []⟩
theorem c52 : compFn Tryd.prog b52 Tryd.f52 = some a52 := by kernel_rfl
/-- slices.partialInsertionSortOrdered[int] -/
def b53 : Nat := 1991
def a53 : AFn := ⟨(.seq (.reg [⟨.l 6, none, .mv, [.c (.b false)]⟩])
 (.seq (.reg [⟨.t 11, none, .mv, [.l 1]⟩, ⟨.t 12, none, (.bin .add), [.t 11, .c (.i .i64 1)]⟩, ⟨.l 7, none, .mv, [.t 12]⟩])
 (.seq (.seq (.reg [⟨.l 8, none, .mv, [.c (.i .i64 0)]⟩])
 (.block 0 (.loop (.seq (.seq (.reg [⟨.t 13, none, .mv, [.l 8]⟩, ⟨.t 14, none, (.bin .lss), [.t 13, .c (.i .i64 5)]⟩])
 (.cond (.t 14) .skip (.exit 0)))
 (.seq (.block 1 (.seq (.block 2 (.loop (.seq (.seq (.reg [⟨.t 17, none, .mv, [.l 7]⟩, ⟨.t 18, none, .mv, [.l 2]⟩, ⟨.t 19, none, (.bin .lss), [.t 17, .t 18]⟩, ⟨.t 20, none, .mv, [.t 19]⟩, ⟨.t 21, (some (.t 20, true)), .mv, [.l 0]⟩, ⟨.t 22, (some (.t 20, true)), .mv, [.l 7]⟩, ⟨.t 23, (some (.t 20, true)), (.iad 1), [.t 21, .t 22]⟩, ⟨.t 24, (some (.t 20, true)), (.ld none), [.t 23]⟩, ⟨.t 25, (some (.t 20, true)), .mv, [.l 0]⟩, ⟨.t 26, (some (.t 20, true)), .mv, [.l 7]⟩, ⟨.t 27, (some (.t 20, true)), (.bin .sub), [.t 26, .c (.i .i64 1)]⟩, ⟨.t 28, (some (.t 20, true)), (.iad 1), [.t 25, .t 27]⟩, ⟨.t 29, (some (.t 20, true)), (.ld none), [.t 28]⟩, ⟨.t 30, (some (.t 20, true)), (.call 54), [.t 24, .t 29]⟩, ⟨.t 31, (some (.t 20, true)), (.un .not), [.t 30]⟩, ⟨.t 32, none, .pick, [.t 20, .t 31, .c (.b false)]⟩])
 (.cond (.t 32) .skip (.exit 2)))
 (.block 3 (.reg [⟨.t 33, none, .mv, [.l 7]⟩, ⟨.t 34, none, (.bin .add), [.t 33, .c (.i .i64 1)]⟩, ⟨.l 7, none, .mv, [.t 34]⟩])))))
 (.seq (.seq (.reg [⟨.t 35, none, .mv, [.l 7]⟩, ⟨.t 36, none, .mv, [.l 2]⟩, ⟨.t 37, none, (.bin .eql), [.t 35, .t 36]⟩])
 (.cond (.t 37) (.seq (.reg [⟨.l 6, none, .mv, [.c (.b true)]⟩])
 .ret) .skip))
 (.seq (.seq (.reg [⟨.t 38, none, .mv, [.l 2]⟩, ⟨.t 39, none, .mv, [.l 1]⟩, ⟨.t 40, none, (.bin .sub), [.t 38, .t 39]⟩, ⟨.t 41, none, (.bin .lss), [.t 40, .c (.i .i64 50)]⟩])
 (.cond (.t 41) (.seq (.reg [⟨.l 6, none, .mv, [.c (.b false)]⟩])
 .ret) .skip))
 (.seq (.reg [⟨.t 42, none, .mv, [.l 0]⟩, ⟨.t 43, none, .mv, [.l 7]⟩, ⟨.t 44, none, .mv, [.l 0]⟩, ⟨.t 45, none, .mv, [.l 7]⟩, ⟨.t 46, none, (.bin .sub), [.t 45, .c (.i .i64 1)]⟩, ⟨.t 47, none, .mv, [.l 0]⟩, ⟨.t 48, none, .mv, [.l 7]⟩, ⟨.t 49, none, (.bin .sub), [.t 48, .c (.i .i64 1)]⟩, ⟨.t 50, none, (.iad 1), [.t 47, .t 49]⟩, ⟨.t 51, none, (.ld none), [.t 50]⟩, ⟨.t 52, none, .mv, [.l 0]⟩, ⟨.t 53, none, .mv, [.l 7]⟩, ⟨.t 54, none, (.iad 1), [.t 52, .t 53]⟩, ⟨.t 55, none, (.ld none), [.t 54]⟩, ⟨.t 56, none, (.iad 1), [.t 42, .t 43]⟩, ⟨.no, none, (.st 1), [.t 56, .t 51]⟩, ⟨.t 57, none, (.iad 1), [.t 44, .t 46]⟩, ⟨.no, none, (.st 1), [.t 57, .t 55]⟩])
 (.seq (.seq (.reg [⟨.t 58, none, .mv, [.l 7]⟩, ⟨.t 59, none, .mv, [.l 1]⟩, ⟨.t 60, none, (.bin .sub), [.t 58, .t 59]⟩, ⟨.t 61, none, (.bin .geq), [.t 60, .c (.i .i64 2)]⟩])
 (.cond (.t 61) (.seq (.reg [⟨.t 62, none, .mv, [.l 7]⟩, ⟨.t 63, none, (.bin .sub), [.t 62, .c (.i .i64 1)]⟩, ⟨.l 9, none, .mv, [.t 63]⟩])
 (.block 4 (.loop (.seq (.seq (.reg [⟨.t 64, none, .mv, [.l 9]⟩, ⟨.t 65, none, (.bin .geq), [.t 64, .c (.i .i64 1)]⟩])
 (.cond (.t 65) .skip (.exit 4)))
 (.seq (.block 5 (.seq (.seq (.reg [⟨.t 68, none, .mv, [.l 0]⟩, ⟨.t 69, none, .mv, [.l 9]⟩, ⟨.t 70, none, (.iad 1), [.t 68, .t 69]⟩, ⟨.t 71, none, (.ld none), [.t 70]⟩, ⟨.t 72, none, .mv, [.l 0]⟩, ⟨.t 73, none, .mv, [.l 9]⟩, ⟨.t 74, none, (.bin .sub), [.t 73, .c (.i .i64 1)]⟩, ⟨.t 75, none, (.iad 1), [.t 72, .t 74]⟩, ⟨.t 76, none, (.ld none), [.t 75]⟩, ⟨.t 77, none, (.call 54), [.t 71, .t 76]⟩, ⟨.t 78, none, (.un .not), [.t 77]⟩])
 (.cond (.t 78) (.exit 4) .skip))
 (.reg [⟨.t 79, none, .mv, [.l 0]⟩, ⟨.t 80, none, .mv, [.l 9]⟩, ⟨.t 81, none, .mv, [.l 0]⟩, ⟨.t 82, none, .mv, [.l 9]⟩, ⟨.t 83, none, (.bin .sub), [.t 82, .c (.i .i64 1)]⟩, ⟨.t 84, none, .mv, [.l 0]⟩, ⟨.t 85, none, .mv, [.l 9]⟩, ⟨.t 86, none, (.bin .sub), [.t 85, .c (.i .i64 1)]⟩, ⟨.t 87, none, (.iad 1), [.t 84, .t 86]⟩, ⟨.t 88, none, (.ld none), [.t 87]⟩, ⟨.t 89, none, .mv, [.l 0]⟩, ⟨.t 90, none, .mv, [.l 9]⟩, ⟨.t 91, none, (.iad 1), [.t 89, .t 90]⟩, ⟨.t 92, none, (.ld none), [.t 91]⟩, ⟨.t 93, none, (.iad 1), [.t 79, .t 80]⟩, ⟨.no, none, (.st 1), [.t 93, .t 88]⟩, ⟨.t 94, none, (.iad 1), [.t 81, .t 83]⟩, ⟨.no, none, (.st 1), [.t 94, .t 92]⟩])))
 (.reg [⟨.t 66, none, .mv, [.l 9]⟩, ⟨.t 67, none, (.bin .sub), [.t 66, .c (.i .i64 1)]⟩, ⟨.l 9, none, .mv, [.t 67]⟩])))))) .skip))
 (.seq (.reg [⟨.t 95, none, .mv, [.l 2]⟩, ⟨.t 96, none, .mv, [.l 7]⟩, ⟨.t 97, none, (.bin .sub), [.t 95, .t 96]⟩, ⟨.t 98, none, (.bin .geq), [.t 97, .c (.i .i64 2)]⟩])
 (.cond (.t 98) (.seq (.reg [⟨.t 99, none, .mv, [.l 7]⟩, ⟨.t 100, none, (.bin .add), [.t 99, .c (.i .i64 1)]⟩, ⟨.l 10, none, .mv, [.t 100]⟩])
 (.block 6 (.loop (.seq (.seq (.reg [⟨.t 101, none, .mv, [.l 10]⟩, ⟨.t 102, none, .mv, [.l 2]⟩, ⟨.t 103, none, (.bin .lss), [.t 101, .t 102]⟩])
 (.cond (.t 103) .skip (.exit 6)))
 (.seq (.block 7 (.seq (.seq (.reg [⟨.t 106, none, .mv, [.l 0]⟩, ⟨.t 107, none, .mv, [.l 10]⟩, ⟨.t 108, none, (.iad 1), [.t 106, .t 107]⟩, ⟨.t 109, none, (.ld none), [.t 108]⟩, ⟨.t 110, none, .mv, [.l 0]⟩, ⟨.t 111, none, .mv, [.l 10]⟩, ⟨.t 112, none, (.bin .sub), [.t 111, .c (.i .i64 1)]⟩, ⟨.t 113, none, (.iad 1), [.t 110, .t 112]⟩, ⟨.t 114, none, (.ld none), [.t 113]⟩, ⟨.t 115, none, (.call 54), [.t 109, .t 114]⟩, ⟨.t 116, none, (.un .not), [.t 115]⟩])
 (.cond (.t 116) (.exit 6) .skip))
 (.reg [⟨.t 117, none, .mv, [.l 0]⟩, ⟨.t 118, none, .mv, [.l 10]⟩, ⟨.t 119, none, .mv, [.l 0]⟩, ⟨.t 120, none, .mv, [.l 10]⟩, ⟨.t 121, none, (.bin .sub), [.t 120, .c (.i .i64 1)]⟩, ⟨.t 122, none, .mv, [.l 0]⟩, ⟨.t 123, none, .mv, [.l 10]⟩, ⟨.t 124, none, (.bin .sub), [.t 123, .c (.i .i64 1)]⟩, ⟨.t 125, none, (.iad 1), [.t 122, .t 124]⟩, ⟨.t 126, none, (.ld none), [.t 125]⟩, ⟨.t 127, none, .mv, [.l 0]⟩, ⟨.t 128, none, .mv, [.l 10]⟩, ⟨.t 129, none, (.iad 1), [.t 127, .t 128]⟩, ⟨.t 130, none, (.ld none), [.t 129]⟩, ⟨.t 131, none, (.iad 1), [.t 117, .t 118]⟩, ⟨.no, none, (.st 1), [.t 131, .t 126]⟩, ⟨.t 132, none, (.iad 1), [.t 119, .t 121]⟩, ⟨.no, none, (.st 1), [.t 132, .t 130]⟩])))
 (.reg [⟨.t 104, none, .mv, [.l 10]⟩, ⟨.t 105, none, (.bin .add), [.t 104, .c (.i .i64 1)]⟩, ⟨.l 10, none, .mv, [.t 105]⟩])))))) .skip))))))))
 (.reg [⟨.t 15, none, .mv, [.l 8]⟩, ⟨.t 16, none, (.bin .add), [.t 15, .c (.i .i64 1)]⟩, ⟨.l 8, none, .mv, [.t 16]⟩]))))))
 (.seq (.reg [⟨.l 6, none, .mv, [.c (.b false)]⟩])
 .ret)))), [.tmp (.l 6)]⟩
theorem c53 : compFn Tryd.prog b53 Tryd.f53 = some a53 := by kernel_rfl
/-- cmp.Less[int] -/
def b54 : Nat := 19
def a54 : AFn := ⟨(.seq (.reg [⟨.l 4, none, .mv, [.c (.b false)]⟩])
 (.seq (.reg [⟨.t 5, none, .mv, [.l 0]⟩, ⟨.t 6, none, (.call 64), [.t 5]⟩, ⟨.t 7, none, .mv, [.t 6]⟩, ⟨.t 8, (some (.t 7, true)), .mv, [.l 1]⟩, ⟨.t 9, (some (.t 7, true)), (.call 64), [.t 8]⟩, ⟨.t 10, (some (.t 7, true)), (.un .not), [.t 9]⟩, ⟨.t 11, none, .pick, [.t 7, .t 10, .c (.b false)]⟩, ⟨.t 12, none, .mv, [.t 11]⟩, ⟨.t 13, (some (.t 12, false)), .mv, [.l 0]⟩, ⟨.t 14, (some (.t 12, false)), .mv, [.l 1]⟩, ⟨.t 15, (some (.t 12, false)), (.bin .lss), [.t 13, .t 14]⟩, ⟨.t 16, none, .pick, [.t 12, .c (.b true), .t 15]⟩, ⟨.l 4, none, .mv, [.t 16]⟩])
 .ret)), [.tmp (.l 4)]⟩
theorem c54 : compFn Tryd.prog b54 Tryd.f54 = some a54 := by kernel_rfl
/-- slices.partitionEqualOrdered[int] -/
def b55 : Nat := 1807
def a55 : AFn := ⟨(.seq (.reg [⟨.l 8, none, .mv, [.c (.i .i64 0)]⟩])
 (.seq (.reg [⟨.t 11, none, .mv, [.l 0]⟩, ⟨.t 12, none, .mv, [.l 1]⟩, ⟨.t 13, none, .mv, [.l 0]⟩, ⟨.t 14, none, .mv, [.l 3]⟩, ⟨.t 15, none, .mv, [.l 0]⟩, ⟨.t 16, none, .mv, [.l 3]⟩, ⟨.t 17, none, (.iad 1), [.t 15, .t 16]⟩, ⟨.t 18, none, (.ld none), [.t 17]⟩, ⟨.t 19, none, .mv, [.l 0]⟩, ⟨.t 20, none, .mv, [.l 1]⟩, ⟨.t 21, none, (.iad 1), [.t 19, .t 20]⟩, ⟨.t 22, none, (.ld none), [.t 21]⟩, ⟨.t 23, none, (.iad 1), [.t 11, .t 12]⟩, ⟨.no, none, (.st 1), [.t 23, .t 18]⟩, ⟨.t 24, none, (.iad 1), [.t 13, .t 14]⟩, ⟨.no, none, (.st 1), [.t 24, .t 22]⟩])
 (.seq (.reg [⟨.t 25, none, .mv, [.l 1]⟩, ⟨.t 26, none, (.bin .add), [.t 25, .c (.i .i64 1)]⟩, ⟨.t 27, none, .mv, [.l 2]⟩, ⟨.t 28, none, (.bin .sub), [.t 27, .c (.i .i64 1)]⟩, ⟨.l 9, none, .mv, [.t 26]⟩, ⟨.l 10, none, .mv, [.t 28]⟩])
 (.seq (.block 0 (.loop (.block 1 (.seq (.block 2 (.loop (.seq (.seq (.reg [⟨.t 29, none, .mv, [.l 9]⟩, ⟨.t 30, none, .mv, [.l 10]⟩, ⟨.t 31, none, (.bin .leq), [.t 29, .t 30]⟩, ⟨.t 32, none, .mv, [.t 31]⟩, ⟨.t 33, (some (.t 32, true)), .mv, [.l 0]⟩, ⟨.t 34, (some (.t 32, true)), .mv, [.l 1]⟩, ⟨.t 35, (some (.t 32, true)), (.iad 1), [.t 33, .t 34]⟩, ⟨.t 36, (some (.t 32, true)), (.ld none), [.t 35]⟩, ⟨.t 37, (some (.t 32, true)), .mv, [.l 0]⟩, ⟨.t 38, (some (.t 32, true)), .mv, [.l 9]⟩, ⟨.t 39, (some (.t 32, true)), (.iad 1), [.t 37, .t 38]⟩, ⟨.t 40, (some (.t 32, true)), (.ld none), [.t 39]⟩, ⟨.t 41, (some (.t 32, true)), (.call 54), [.t 36, .t 40]⟩, ⟨.t 42, (some (.t 32, true)), (.un .not), [.t 41]⟩, ⟨.t 43, none, .pick, [.t 32, .t 42, .c (.b false)]⟩])
 (.cond (.t 43) .skip (.exit 2)))
 (.block 3 (.reg [⟨.t 44, none, .mv, [.l 9]⟩, ⟨.t 45, none, (.bin .add), [.t 44, .c (.i .i64 1)]⟩, ⟨.l 9, none, .mv, [.t 45]⟩])))))
 (.seq (.block 4 (.loop (.seq (.seq (.reg [⟨.t 46, none, .mv, [.l 9]⟩, ⟨.t 47, none, .mv, [.l 10]⟩, ⟨.t 48, none, (.bin .leq), [.t 46, .t 47]⟩, ⟨.t 49, none, .mv, [.t 48]⟩, ⟨.t 50, (some (.t 49, true)), .mv, [.l 0]⟩, ⟨.t 51, (some (.t 49, true)), .mv, [.l 1]⟩, ⟨.t 52, (some (.t 49, true)), (.iad 1), [.t 50, .t 51]⟩, ⟨.t 53, (some (.t 49, true)), (.ld none), [.t 52]⟩, ⟨.t 54, (some (.t 49, true)), .mv, [.l 0]⟩, ⟨.t 55, (some (.t 49, true)), .mv, [.l 10]⟩, ⟨.t 56, (some (.t 49, true)), (.iad 1), [.t 54, .t 55]⟩, ⟨.t 57, (some (.t 49, true)), (.ld none), [.t 56]⟩, ⟨.t 58, (some (.t 49, true)), (.call 54), [.t 53, .t 57]⟩, ⟨.t 59, none, .pick, [.t 49, .t 58, .c (.b false)]⟩])
 (.cond (.t 59) .skip (.exit 4)))
 (.block 5 (.reg [⟨.t 60, none, .mv, [.l 10]⟩, ⟨.t 61, none, (.bin .sub), [.t 60, .c (.i .i64 1)]⟩, ⟨.l 10, none, .mv, [.t 61]⟩])))))
 (.seq (.seq (.reg [⟨.t 62, none, .mv, [.l 9]⟩, ⟨.t 63, none, .mv, [.l 10]⟩, ⟨.t 64, none, (.bin .gtr), [.t 62, .t 63]⟩])
 (.cond (.t 64) (.exit 0) .skip))
 (.seq (.reg [⟨.t 65, none, .mv, [.l 0]⟩, ⟨.t 66, none, .mv, [.l 9]⟩, ⟨.t 67, none, .mv, [.l 0]⟩, ⟨.t 68, none, .mv, [.l 10]⟩, ⟨.t 69, none, .mv, [.l 0]⟩, ⟨.t 70, none, .mv, [.l 10]⟩, ⟨.t 71, none, (.iad 1), [.t 69, .t 70]⟩, ⟨.t 72, none, (.ld none), [.t 71]⟩, ⟨.t 73, none, .mv, [.l 0]⟩, ⟨.t 74, none, .mv, [.l 9]⟩, ⟨.t 75, none, (.iad 1), [.t 73, .t 74]⟩, ⟨.t 76, none, (.ld none), [.t 75]⟩, ⟨.t 77, none, (.iad 1), [.t 65, .t 66]⟩, ⟨.no, none, (.st 1), [.t 77, .t 72]⟩, ⟨.t 78, none, (.iad 1), [.t 67, .t 68]⟩, ⟨.no, none, (.st 1), [.t 78, .t 76]⟩])
 (.seq (.reg [⟨.t 79, none, .mv, [.l 9]⟩, ⟨.t 80, none, (.bin .add), [.t 79, .c (.i .i64 1)]⟩, ⟨.l 9, none, .mv, [.t 80]⟩])
 (.reg [⟨.t 81, none, .mv, [.l 10]⟩, ⟨.t 82, none, (.bin .sub), [.t 81, .c (.i .i64 1)]⟩, ⟨.l 10, none, .mv, [.t 82]⟩])))))))))
 (.seq (.reg [⟨.t 83, none, .mv, [.l 9]⟩, ⟨.l 8, none, .mv, [.t 83]⟩])
 .ret))))), [.tmp (.l 8)]⟩
theorem c55 : compFn Tryd.prog b55 Tryd.f55 = some a55 := by kernel_rfl
/-- slices.partitionOrdered[int] -/
def b56 : Nat := 3855
def a56 : AFn := ⟨(.seq (.reg [⟨.l 8, none, .mv, [.c (.i .i64 0)]⟩, ⟨.l 9, none, .mv, [.c (.b false)]⟩])
 (.seq (.reg [⟨.t 12, none, .mv, [.l 0]⟩, ⟨.t 13, none, .mv, [.l 1]⟩, ⟨.t 14, none, .mv, [.l 0]⟩, ⟨.t 15, none, .mv, [.l 3]⟩, ⟨.t 16, none, .mv, [.l 0]⟩, ⟨.t 17, none, .mv, [.l 3]⟩, ⟨.t 18, none, (.iad 1), [.t 16, .t 17]⟩, ⟨.t 19, none, (.ld none), [.t 18]⟩, ⟨.t 20, none, .mv, [.l 0]⟩, ⟨.t 21, none, .mv, [.l 1]⟩, ⟨.t 22, none, (.iad 1), [.t 20, .t 21]⟩, ⟨.t 23, none, (.ld none), [.t 22]⟩, ⟨.t 24, none, (.iad 1), [.t 12, .t 13]⟩, ⟨.no, none, (.st 1), [.t 24, .t 19]⟩, ⟨.t 25, none, (.iad 1), [.t 14, .t 15]⟩, ⟨.no, none, (.st 1), [.t 25, .t 23]⟩])
 (.seq (.reg [⟨.t 26, none, .mv, [.l 1]⟩, ⟨.t 27, none, (.bin .add), [.t 26, .c (.i .i64 1)]⟩, ⟨.t 28, none, .mv, [.l 2]⟩, ⟨.t 29, none, (.bin .sub), [.t 28, .c (.i .i64 1)]⟩, ⟨.l 10, none, .mv, [.t 27]⟩, ⟨.l 11, none, .mv, [.t 29]⟩])
 (.seq (.block 0 (.loop (.seq (.seq (.reg [⟨.t 30, none, .mv, [.l 10]⟩, ⟨.t 31, none, .mv, [.l 11]⟩, ⟨.t 32, none, (.bin .leq), [.t 30, .t 31]⟩, ⟨.t 33, none, .mv, [.t 32]⟩, ⟨.t 34, (some (.t 33, true)), .mv, [.l 0]⟩, ⟨.t 35, (some (.t 33, true)), .mv, [.l 10]⟩, ⟨.t 36, (some (.t 33, true)), (.iad 1), [.t 34, .t 35]⟩, ⟨.t 37, (some (.t 33, true)), (.ld none), [.t 36]⟩, ⟨.t 38, (some (.t 33, true)), .mv, [.l 0]⟩, ⟨.t 39, (some (.t 33, true)), .mv, [.l 1]⟩, ⟨.t 40, (some (.t 33, true)), (.iad 1), [.t 38, .t 39]⟩, ⟨.t 41, (some (.t 33, true)), (.ld none), [.t 40]⟩, ⟨.t 42, (some (.t 33, true)), (.call 54), [.t 37, .t 41]⟩, ⟨.t 43, none, .pick, [.t 33, .t 42, .c (.b false)]⟩])
 (.cond (.t 43) .skip (.exit 0)))
 (.block 1 (.reg [⟨.t 44, none, .mv, [.l 10]⟩, ⟨.t 45, none, (.bin .add), [.t 44, .c (.i .i64 1)]⟩, ⟨.l 10, none, .mv, [.t 45]⟩])))))
 (.seq (.block 2 (.loop (.seq (.seq (.reg [⟨.t 46, none, .mv, [.l 10]⟩, ⟨.t 47, none, .mv, [.l 11]⟩, ⟨.t 48, none, (.bin .leq), [.t 46, .t 47]⟩, ⟨.t 49, none, .mv, [.t 48]⟩, ⟨.t 50, (some (.t 49, true)), .mv, [.l 0]⟩, ⟨.t 51, (some (.t 49, true)), .mv, [.l 11]⟩, ⟨.t 52, (some (.t 49, true)), (.iad 1), [.t 50, .t 51]⟩, ⟨.t 53, (some (.t 49, true)), (.ld none), [.t 52]⟩, ⟨.t 54, (some (.t 49, true)), .mv, [.l 0]⟩, ⟨.t 55, (some (.t 49, true)), .mv, [.l 1]⟩, ⟨.t 56, (some (.t 49, true)), (.iad 1), [.t 54, .t 55]⟩, ⟨.t 57, (some (.t 49, true)), (.ld none), [.t 56]⟩, ⟨.t 58, (some (.t 49, true)), (.call 54), [.t 53, .t 57]⟩, ⟨.t 59, (some (.t 49, true)), (.un .not), [.t 58]⟩, ⟨.t 60, none, .pick, [.t 49, .t 59, .c (.b false)]⟩])
 (.cond (.t 60) .skip (.exit 2)))
 (.block 3 (.reg [⟨.t 61, none, .mv, [.l 11]⟩, ⟨.t 62, none, (.bin .sub), [.t 61, .c (.i .i64 1)]⟩, ⟨.l 11, none, .mv, [.t 62]⟩])))))
 (.seq (.seq (.reg [⟨.t 63, none, .mv, [.l 10]⟩, ⟨.t 64, none, .mv, [.l 11]⟩, ⟨.t 65, none, (.bin .gtr), [.t 63, .t 64]⟩])
 (.cond (.t 65) (.seq (.reg [⟨.t 66, none, .mv, [.l 0]⟩, ⟨.t 67, none, .mv, [.l 11]⟩, ⟨.t 68, none, .mv, [.l 0]⟩, ⟨.t 69, none, .mv, [.l 1]⟩, ⟨.t 70, none, .mv, [.l 0]⟩, ⟨.t 71, none, .mv, [.l 1]⟩, ⟨.t 72, none, (.iad 1), [.t 70, .t 71]⟩, ⟨.t 73, none, (.ld none), [.t 72]⟩, ⟨.t 74, none, .mv, [.l 0]⟩, ⟨.t 75, none, .mv, [.l 11]⟩, ⟨.t 76, none, (.iad 1), [.t 74, .t 75]⟩, ⟨.t 77, none, (.ld none), [.t 76]⟩, ⟨.t 78, none, (.iad 1), [.t 66, .t 67]⟩, ⟨.no, none, (.st 1), [.t 78, .t 73]⟩, ⟨.t 79, none, (.iad 1), [.t 68, .t 69]⟩, ⟨.no, none, (.st 1), [.t 79, .t 77]⟩])
 (.seq (.reg [⟨.t 80, none, .mv, [.l 11]⟩, ⟨.l 8, none, .mv, [.t 80]⟩, ⟨.l 9, none, .mv, [.c (.b true)]⟩])
 .ret)) .skip))
 (.seq (.reg [⟨.t 81, none, .mv, [.l 0]⟩, ⟨.t 82, none, .mv, [.l 10]⟩, ⟨.t 83, none, .mv, [.l 0]⟩, ⟨.t 84, none, .mv, [.l 11]⟩, ⟨.t 85, none, .mv, [.l 0]⟩, ⟨.t 86, none, .mv, [.l 11]⟩, ⟨.t 87, none, (.iad 1), [.t 85, .t 86]⟩, ⟨.t 88, none, (.ld none), [.t 87]⟩, ⟨.t 89, none, .mv, [.l 0]⟩, ⟨.t 90, none, .mv, [.l 10]⟩, ⟨.t 91, none, (.iad 1), [.t 89, .t 90]⟩, ⟨.t 92, none, (.ld none), [.t 91]⟩, ⟨.t 93, none, (.iad 1), [.t 81, .t 82]⟩, ⟨.no, none, (.st 1), [.t 93, .t 88]⟩, ⟨.t 94, none, (.iad 1), [.t 83, .t 84]⟩, ⟨.no, none, (.st 1), [.t 94, .t 92]⟩])
 (.seq (.reg [⟨.t 95, none, .mv, [.l 10]⟩, ⟨.t 96, none, (.bin .add), [.t 95, .c (.i .i64 1)]⟩, ⟨.l 10, none, .mv, [.t 96]⟩])
 (.seq (.reg [⟨.t 97, none, .mv, [.l 11]⟩, ⟨.t 98, none, (.bin .sub), [.t 97, .c (.i .i64 1)]⟩, ⟨.l 11, none, .mv, [.t 98]⟩])
 (.seq (.block 4 (.loop (.block 5 (.seq (.block 6 (.loop (.seq (.seq (.reg [⟨.t 99, none, .mv, [.l 10]⟩, ⟨.t 100, none, .mv, [.l 11]⟩, ⟨.t 101, none, (.bin .leq), [.t 99, .t 100]⟩, ⟨.t 102, none, .mv, [.t 101]⟩, ⟨.t 103, (some (.t 102, true)), .mv, [.l 0]⟩, ⟨.t 104, (some (.t 102, true)), .mv, [.l 10]⟩, ⟨.t 105, (some (.t 102, true)), (.iad 1), [.t 103, .t 104]⟩, ⟨.t 106, (some (.t 102, true)), (.ld none), [.t 105]⟩, ⟨.t 107, (some (.t 102, true)), .mv, [.l 0]⟩, ⟨.t 108, (some (.t 102, true)), .mv, [.l 1]⟩, ⟨.t 109, (some (.t 102, true)), (.iad 1), [.t 107, .t 108]⟩, ⟨.t 110, (some (.t 102, true)), (.ld none), [.t 109]⟩, ⟨.t 111, (some (.t 102, true)), (.call 54), [.t 106, .t 110]⟩, ⟨.t 112, none, .pick, [.t 102, .t 111, .c (.b false)]⟩])
 (.cond (.t 112) .skip (.exit 6)))
 (.block 7 (.reg [⟨.t 113, none, .mv, [.l 10]⟩, ⟨.t 114, none, (.bin .add), [.t 113, .c (.i .i64 1)]⟩, ⟨.l 10, none, .mv, [.t 114]⟩])))))
 (.seq (.block 8 (.loop (.seq (.seq (.reg [⟨.t 115, none, .mv, [.l 10]⟩, ⟨.t 116, none, .mv, [.l 11]⟩, ⟨.t 117, none, (.bin .leq), [.t 115, .t 116]⟩, ⟨.t 118, none, .mv, [.t 117]⟩, ⟨.t 119, (some (.t 118, true)), .mv, [.l 0]⟩, ⟨.t 120, (some (.t 118, true)), .mv, [.l 11]⟩, ⟨.t 121, (some (.t 118, true)), (.iad 1), [.t 119, .t 120]⟩, ⟨.t 122, (some (.t 118, true)), (.ld none), [.t 121]⟩, ⟨.t 123, (some (.t 118, true)), .mv, [.l 0]⟩, ⟨.t 124, (some (.t 118, true)), .mv, [.l 1]⟩, ⟨.t 125, (some (.t 118, true)), (.iad 1), [.t 123, .t 124]⟩, ⟨.t 126, (some (.t 118, true)), (.ld none), [.t 125]⟩, ⟨.t 127, (some (.t 118, true)), (.call 54), [.t 122, .t 126]⟩, ⟨.t 128, (some (.t 118, true)), (.un .not), [.t 127]⟩, ⟨.t 129, none, .pick, [.t 118, .t 128, .c (.b false)]⟩])
 (.cond (.t 129) .skip (.exit 8)))
 (.block 9 (.reg [⟨.t 130, none, .mv, [.l 11]⟩, ⟨.t 131, none, (.bin .sub), [.t 130, .c (.i .i64 1)]⟩, ⟨.l 11, none, .mv, [.t 131]⟩])))))
 (.seq (.seq (.reg [⟨.t 132, none, .mv, [.l 10]⟩, ⟨.t 133, none, .mv, [.l 11]⟩, ⟨.t 134, none, (.bin .gtr), [.t 132, .t 133]⟩])
 (.cond (.t 134) (.exit 4) .skip))
 (.seq (.reg [⟨.t 135, none, .mv, [.l 0]⟩, ⟨.t 136, none, .mv, [.l 10]⟩, ⟨.t 137, none, .mv, [.l 0]⟩, ⟨.t 138, none, .mv, [.l 11]⟩, ⟨.t 139, none, .mv, [.l 0]⟩, ⟨.t 140, none, .mv, [.l 11]⟩, ⟨.t 141, none, (.iad 1), [.t 139, .t 140]⟩, ⟨.t 142, none, (.ld none), [.t 141]⟩, ⟨.t 143, none, .mv, [.l 0]⟩, ⟨.t 144, none, .mv, [.l 10]⟩, ⟨.t 145, none, (.iad 1), [.t 143, .t 144]⟩, ⟨.t 146, none, (.ld none), [.t 145]⟩, ⟨.t 147, none, (.iad 1), [.t 135, .t 136]⟩, ⟨.no, none, (.st 1), [.t 147, .t 142]⟩, ⟨.t 148, none, (.iad 1), [.t 137, .t 138]⟩, ⟨.no, none, (.st 1), [.t 148, .t 146]⟩])
 (.seq (.reg [⟨.t 149, none, .mv, [.l 10]⟩, ⟨.t 150, none, (.bin .add), [.t 149, .c (.i .i64 1)]⟩, ⟨.l 10, none, .mv, [.t 150]⟩])
 (.reg [⟨.t 151, none, .mv, [.l 11]⟩, ⟨.t 152, none, (.bin .sub), [.t 151, .c (.i .i64 1)]⟩, ⟨.l 11, none, .mv, [.t 152]⟩])))))))))
 (.seq (.reg [⟨.t 153, none, .mv, [.l 0]⟩, ⟨.t 154, none, .mv, [.l 11]⟩, ⟨.t 155, none, .mv, [.l 0]⟩, ⟨.t 156, none, .mv, [.l 1]⟩, ⟨.t 157, none, .mv, [.l 0]⟩, ⟨.t 158, none, .mv, [.l 1]⟩, ⟨.t 159, none, (.iad 1), [.t 157, .t 158]⟩, ⟨.t 160, none, (.ld none), [.t 159]⟩, ⟨.t 161, none, .mv, [.l 0]⟩, ⟨.t 162, none, .mv, [.l 11]⟩, ⟨.t 163, none, (.iad 1), [.t 161, .t 162]⟩, ⟨.t 164, none, (.ld none), [.t 163]⟩, ⟨.t 165, none, (.iad 1), [.t 153, .t 154]⟩, ⟨.no, none, (.st 1), [.t 165, .t 160]⟩, ⟨.t 166, none, (.iad 1), [.t 155, .t 156]⟩, ⟨.no, none, (.st 1), [.t 166, .t 164]⟩])
 (.seq (.reg [⟨.t 167, none, .mv, [.l 11]⟩, ⟨.l 8, none, .mv, [.t 167]⟩, ⟨.l 9, none, .mv, [.c (.b false)]⟩])
 .ret)))))))))))), [.tmp (.l 8), .tmp (.l 9)]⟩
theorem c56 : compFn Tryd.prog b56 Tryd.f56 = some a56 := by kernel_rfl
/-- math/bits.Len32 -/
def b57 : Nat := 5
def a57 : AFn := ⟨(.seq (.reg [⟨.l 2, none, .mv, [.c (.i .i64 0)]⟩])
 (.seq (.seq (.reg [⟨.t 3, none, .mv, [.l 0]⟩, ⟨.t 4, none, (.bin .geq), [.t 3, .c (.i .u32 65536)]⟩])
 (.cond (.t 4) (.seq (.reg [⟨.t 5, none, .mv, [.l 0]⟩, ⟨.t 6, none, (.bin .shr), [.t 5, .c (.i .u64 16)]⟩, ⟨.l 0, none, .mv, [.t 6]⟩])
 (.reg [⟨.l 2, none, .mv, [.c (.i .i64 16)]⟩])) .skip))
 (.seq (.seq (.reg [⟨.t 7, none, .mv, [.l 0]⟩, ⟨.t 8, none, (.bin .geq), [.t 7, .c (.i .u32 256)]⟩])
 (.cond (.t 8) (.seq (.reg [⟨.t 9, none, .mv, [.l 0]⟩, ⟨.t 10, none, (.bin .shr), [.t 9, .c (.i .u64 8)]⟩, ⟨.l 0, none, .mv, [.t 10]⟩])
 (.reg [⟨.t 11, none, .mv, [.l 2]⟩, ⟨.t 12, none, (.bin .add), [.t 11, .c (.i .i64 8)]⟩, ⟨.l 2, none, .mv, [.t 12]⟩])) .skip))
 (.seq (.reg [⟨.t 13, none, .mv, [.l 2]⟩, ⟨.t 14, none, .mv, [.l 0]⟩, ⟨.t 15, none, (.cvtI .u8), [.t 14]⟩, ⟨.t 16, none, .ixS, [.c (.s [0, 1, 2, 2, 3, 3, 3, 3, 4, 4, 4, 4, 4, 4, 4, 4, 5, 5, 5, 5, 5, 5, 5, 5, 5, 5, 5, 5, 5, 5, 5, 5, 6, 6, 6, 6, 6, 6, 6, 6, 6, 6, 6, 6, 6, 6, 6, 6, 6, 6, 6, 6, 6, 6, 6, 6, 6, 6, 6, 6, 6, 6, 6, 6, 7, 7, 7, 7, 7, 7, 7, 7, 7, 7, 7, 7, 7, 7, 7, 7, 7, 7, 7, 7, 7, 7, 7, 7, 7, 7, 7, 7, 7, 7, 7, 7, 7, 7, 7, 7, 7, 7, 7, 7, 7, 7, 7, 7, 7, 7, 7, 7, 7, 7, 7, 7, 7, 7, 7, 7, 7, 7, 7, 7, 7, 7, 7, 7, 8, 8, 8, 8, 8, 8, 8, 8, 8, 8, 8, 8, 8, 8, 8, 8, 8, 8, 8, 8, 8, 8, 8, 8, 8, 8, 8, 8, 8, 8, 8, 8, 8, 8, 8, 8, 8, 8, 8, 8, 8, 8, 8, 8, 8, 8, 8, 8, 8, 8, 8, 8, 8, 8, 8, 8, 8, 8, 8, 8, 8, 8, 8, 8, 8, 8, 8, 8, 8, 8, 8, 8, 8, 8, 8, 8, 8, 8, 8, 8, 8, 8, 8, 8, 8, 8, 8, 8, 8, 8, 8, 8, 8, 8, 8, 8, 8, 8, 8, 8, 8, 8, 8, 8, 8, 8, 8, 8, 8, 8, 8, 8, 8, 8, 8, 8, 8, 8, 8, 8, 8, 8, 8, 8, 8, 8, 8, 8]), .t 15]⟩, ⟨.t 17, none, (.cvtI .i64), [.t 16]⟩, ⟨.t 18, none, (.bin .add), [.t 13, .t 17]⟩, ⟨.l 2, none, .mv, [.t 18]⟩])
 .ret)))), [.tmp (.l 2)]⟩
theorem c57 : compFn Tryd.prog b57 Tryd.f57 = some a57 := by kernel_rfl
/-- math/bits.Len64 -/
def b58 : Nat := 5
def a58 : AFn := ⟨(.seq (.reg [⟨.l 2, none, .mv, [.c (.i .i64 0)]⟩])
 (.seq (.seq (.reg [⟨.t 3, none, .mv, [.l 0]⟩, ⟨.t 4, none, (.bin .geq), [.t 3, .c (.i .u64 4294967296)]⟩])
 (.cond (.t 4) (.seq (.reg [⟨.t 5, none, .mv, [.l 0]⟩, ⟨.t 6, none, (.bin .shr), [.t 5, .c (.i .u64 32)]⟩, ⟨.l 0, none, .mv, [.t 6]⟩])
 (.reg [⟨.l 2, none, .mv, [.c (.i .i64 32)]⟩])) .skip))
 (.seq (.seq (.reg [⟨.t 7, none, .mv, [.l 0]⟩, ⟨.t 8, none, (.bin .geq), [.t 7, .c (.i .u64 65536)]⟩])
 (.cond (.t 8) (.seq (.reg [⟨.t 9, none, .mv, [.l 0]⟩, ⟨.t 10, none, (.bin .shr), [.t 9, .c (.i .u64 16)]⟩, ⟨.l 0, none, .mv, [.t 10]⟩])
 (.reg [⟨.t 11, none, .mv, [.l 2]⟩, ⟨.t 12, none, (.bin .add), [.t 11, .c (.i .i64 16)]⟩, ⟨.l 2, none, .mv, [.t 12]⟩])) .skip))
 (.seq (.seq (.reg [⟨.t 13, none, .mv, [.l 0]⟩, ⟨.t 14, none, (.bin .geq), [.t 13, .c (.i .u64 256)]⟩])
 (.cond (.t 14) (.seq (.reg [⟨.t 15, none, .mv, [.l 0]⟩, ⟨.t 16, none, (.bin .shr), [.t 15, .c (.i .u64 8)]⟩, ⟨.l 0, none, .mv, [.t 16]⟩])
 (.reg [⟨.t 17, none, .mv, [.l 2]⟩, ⟨.t 18, none, (.bin .add), [.t 17, .c (.i .i64 8)]⟩, ⟨.l 2, none, .mv, [.t 18]⟩])) .skip))
 (.seq (.reg [⟨.t 19, none, .mv, [.l 2]⟩, ⟨.t 20, none, .mv, [.l 0]⟩, ⟨.t 21, none, (.cvtI .u8), [.t 20]⟩, ⟨.t 22, none, .ixS, [.c (.s [0, 1, 2, 2, 3, 3, 3, 3, 4, 4, 4, 4, 4, 4, 4, 4, 5, 5, 5, 5, 5, 5, 5, 5, 5, 5, 5, 5, 5, 5, 5, 5, 6, 6, 6, 6, 6, 6, 6, 6, 6, 6, 6, 6, 6, 6, 6, 6, 6, 6, 6, 6, 6, 6, 6, 6, 6, 6, 6, 6, 6, 6, 6, 6, 7, 7, 7, 7, 7, 7, 7, 7, 7, 7, 7, 7, 7, 7, 7, 7, 7, 7, 7, 7, 7, 7, 7, 7, 7, 7, 7, 7, 7, 7, 7, 7, 7, 7, 7, 7, 7, 7, 7, 7, 7, 7, 7, 7, 7, 7, 7, 7, 7, 7, 7, 7, 7, 7, 7, 7, 7, 7, 7, 7, 7, 7, 7, 7, 8, 8, 8, 8, 8, 8, 8, 8, 8, 8, 8, 8, 8, 8, 8, 8, 8, 8, 8, 8, 8, 8, 8, 8, 8, 8, 8, 8, 8, 8, 8, 8, 8, 8, 8, 8, 8, 8, 8, 8, 8, 8, 8, 8, 8, 8, 8, 8, 8, 8, 8, 8, 8, 8, 8, 8, 8, 8, 8, 8, 8, 8, 8, 8, 8, 8, 8, 8, 8, 8, 8, 8, 8, 8, 8, 8, 8, 8, 8, 8, 8, 8, 8, 8, 8, 8, 8, 8, 8, 8, 8, 8, 8, 8, 8, 8, 8, 8, 8, 8, 8, 8, 8, 8, 8, 8, 8, 8, 8, 8, 8, 8, 8, 8, 8, 8, 8, 8, 8, 8, 8, 8, 8, 8, 8, 8, 8, 8]), .t 21]⟩, ⟨.t 23, none, (.cvtI .i64), [.t 22]⟩, ⟨.t 24, none, (.bin .add), [.t 19, .t 23]⟩, ⟨.l 2, none, .mv, [.t 24]⟩])
 .ret))))), [.tmp (.l 2)]⟩
theorem c58 : compFn Tryd.prog b58 Tryd.f58 = some a58 := by kernel_rfl
/-- slices.siftDownOrdered[int] -/
def b59 : Nat := 783
def a59 : AFn := ⟨(.seq (.reg [⟨.t 10, none, .mv, [.l 1]⟩, ⟨.l 8, none, .mv, [.t 10]⟩])
 (.block 0 (.loop (.block 1 (.seq (.reg [⟨.t 11, none, .mv, [.l 8]⟩, ⟨.t 12, none, (.bin .mul), [.c (.i .i64 2), .t 11]⟩, ⟨.t 13, none, (.bin .add), [.t 12, .c (.i .i64 1)]⟩, ⟨.l 9, none, .mv, [.t 13]⟩])
 (.seq (.seq (.reg [⟨.t 14, none, .mv, [.l 9]⟩, ⟨.t 15, none, .mv, [.l 2]⟩, ⟨.t 16, none, (.bin .geq), [.t 14, .t 15]⟩])
 (.cond (.t 16) (.exit 0) .skip))
 (.seq (.seq (.reg [⟨.t 17, none, .mv, [.l 9]⟩, ⟨.t 18, none, (.bin .add), [.t 17, .c (.i .i64 1)]⟩, ⟨.t 19, none, .mv, [.l 2]⟩, ⟨.t 20, none, (.bin .lss), [.t 18, .t 19]⟩, ⟨.t 21, none, .mv, [.t 20]⟩, ⟨.t 22, (some (.t 21, true)), .mv, [.l 0]⟩, ⟨.t 23, (some (.t 21, true)), .mv, [.l 3]⟩, ⟨.t 24, (some (.t 21, true)), .mv, [.l 9]⟩, ⟨.t 25, (some (.t 21, true)), (.bin .add), [.t 23, .t 24]⟩, ⟨.t 26, (some (.t 21, true)), (.iad 1), [.t 22, .t 25]⟩, ⟨.t 27, (some (.t 21, true)), (.ld none), [.t 26]⟩, ⟨.t 28, (some (.t 21, true)), .mv, [.l 0]⟩, ⟨.t 29, (some (.t 21, true)), .mv, [.l 3]⟩, ⟨.t 30, (some (.t 21, true)), .mv, [.l 9]⟩, ⟨.t 31, (some (.t 21, true)), (.bin .add), [.t 29, .t 30]⟩, ⟨.t 32, (some (.t 21, true)), (.bin .add), [.t 31, .c (.i .i64 1)]⟩, ⟨.t 33, (some (.t 21, true)), (.iad 1), [.t 28, .t 32]⟩, ⟨.t 34, (some (.t 21, true)), (.ld none), [.t 33]⟩, ⟨.t 35, (some (.t 21, true)), (.call 54), [.t 27, .t 34]⟩, ⟨.t 36, none, .pick, [.t 21, .t 35, .c (.b false)]⟩])
 (.cond (.t 36) (.reg [⟨.t 37, none, .mv, [.l 9]⟩, ⟨.t 38, none, (.bin .add), [.t 37, .c (.i .i64 1)]⟩, ⟨.l 9, none, .mv, [.t 38]⟩]) .skip))
 (.seq (.seq (.reg [⟨.t 39, none, .mv, [.l 0]⟩, ⟨.t 40, none, .mv, [.l 3]⟩, ⟨.t 41, none, .mv, [.l 8]⟩, ⟨.t 42, none, (.bin .add), [.t 40, .t 41]⟩, ⟨.t 43, none, (.iad 1), [.t 39, .t 42]⟩, ⟨.t 44, none, (.ld none), [.t 43]⟩, ⟨.t 45, none, .mv, [.l 0]⟩, ⟨.t 46, none, .mv, [.l 3]⟩, ⟨.t 47, none, .mv, [.l 9]⟩, ⟨.t 48, none, (.bin .add), [.t 46, .t 47]⟩, ⟨.t 49, none, (.iad 1), [.t 45, .t 48]⟩, ⟨.t 50, none, (.ld none), [.t 49]⟩, ⟨.t 51, none, (.call 54), [.t 44, .t 50]⟩, ⟨.t 52, none, (.un .not), [.t 51]⟩])
 (.cond (.t 52) .ret .skip))
 (.seq (.reg [⟨.t 53, none, .mv, [.l 0]⟩, ⟨.t 54, none, .mv, [.l 3]⟩, ⟨.t 55, none, .mv, [.l 8]⟩, ⟨.t 56, none, (.bin .add), [.t 54, .t 55]⟩, ⟨.t 57, none, .mv, [.l 0]⟩, ⟨.t 58, none, .mv, [.l 3]⟩, ⟨.t 59, none, .mv, [.l 9]⟩, ⟨.t 60, none, (.bin .add), [.t 58, .t 59]⟩, ⟨.t 61, none, .mv, [.l 0]⟩, ⟨.t 62, none, .mv, [.l 3]⟩, ⟨.t 63, none, .mv, [.l 9]⟩, ⟨.t 64, none, (.bin .add), [.t 62, .t 63]⟩, ⟨.t 65, none, (.iad 1), [.t 61, .t 64]⟩, ⟨.t 66, none, (.ld none), [.t 65]⟩, ⟨.t 67, none, .mv, [.l 0]⟩, ⟨.t 68, none, .mv, [.l 3]⟩, ⟨.t 69, none, .mv, [.l 8]⟩, ⟨.t 70, none, (.bin .add), [.t 68, .t 69]⟩, ⟨.t 71, none, (.iad 1), [.t 67, .t 70]⟩, ⟨.t 72, none, (.ld none), [.t 71]⟩, ⟨.t 73, none, (.iad 1), [.t 53, .t 56]⟩, ⟨.no, none, (.st 1), [.t 73, .t 66]⟩, ⟨.t 74, none, (.iad 1), [.t 57, .t 60]⟩, ⟨.no, none, (.st 1), [.t 74, .t 72]⟩])
 (.reg [⟨.t 75, none, .mv, [.l 9]⟩, ⟨.l 8, none, .mv, [.t 75]⟩])))))))))), []⟩
theorem c59 : compFn Tryd.prog b59 Tryd.f59 = some a59 := by kernel_rfl
/-- slices.nextPowerOfTwo -/
def b60 : Nat := 5
def a60 : AFn := ⟨(.seq (.reg [⟨.l 2, none, .mv, [.c (.i .u64 0)]⟩])
 (.seq (.reg [⟨.t 3, none, .mv, [.l 0]⟩, ⟨.t 4, none, (.cvtI .u64), [.t 3]⟩, ⟨.t 5, none, (.call 45), [.t 4]⟩, ⟨.t 6, none, (.bin .shl), [.c (.i .u64 1), .t 5]⟩, ⟨.l 2, none, .mv, [.t 6]⟩])
 .ret)), [.tmp (.l 2)]⟩
theorem c60 : compFn Tryd.prog b60 Tryd.f60 = some a60 := by kernel_rfl
/-- (*slices.xorshift).Next -/
def b61 : Nat := 5
def a61 : AFn := ⟨(.seq (.reg [⟨.l 2, none, .mv, [.c (.i .u64 0)]⟩])
 (.seq (.reg [⟨.t 3, none, .mv, [.l 0]⟩, ⟨.t 4, none, .nilchk, [.t 3]⟩, ⟨.t 5, none, (.ld none), [.t 4]⟩, ⟨.t 6, none, .mv, [.l 0]⟩, ⟨.t 7, none, .nilchk, [.t 6]⟩, ⟨.t 8, none, (.ld none), [.t 7]⟩, ⟨.t 9, none, (.bin .shl), [.t 8, .c (.i .u64 13)]⟩, ⟨.t 10, none, (.bin .xor), [.t 5, .t 9]⟩, ⟨.t 11, none, .nilchk, [.t 3]⟩, ⟨.no, none, (.st 1), [.t 11, .t 10]⟩])
 (.seq (.reg [⟨.t 12, none, .mv, [.l 0]⟩, ⟨.t 13, none, .nilchk, [.t 12]⟩, ⟨.t 14, none, (.ld none), [.t 13]⟩, ⟨.t 15, none, .mv, [.l 0]⟩, ⟨.t 16, none, .nilchk, [.t 15]⟩, ⟨.t 17, none, (.ld none), [.t 16]⟩, ⟨.t 18, none, (.bin .shr), [.t 17, .c (.i .u64 7)]⟩, ⟨.t 19, none, (.bin .xor), [.t 14, .t 18]⟩, ⟨.t 20, none, .nilchk, [.t 12]⟩, ⟨.no, none, (.st 1), [.t 20, .t 19]⟩])
 (.seq (.reg [⟨.t 21, none, .mv, [.l 0]⟩, ⟨.t 22, none, .nilchk, [.t 21]⟩, ⟨.t 23, none, (.ld none), [.t 22]⟩, ⟨.t 24, none, .mv, [.l 0]⟩, ⟨.t 25, none, .nilchk, [.t 24]⟩, ⟨.t 26, none, (.ld none), [.t 25]⟩, ⟨.t 27, none, (.bin .shl), [.t 26, .c (.i .u64 17)]⟩, ⟨.t 28, none, (.bin .xor), [.t 23, .t 27]⟩, ⟨.t 29, none, .nilchk, [.t 21]⟩, ⟨.no, none, (.st 1), [.t 29, .t 28]⟩])
 (.seq (.reg [⟨.t 30, none, .mv, [.l 0]⟩, ⟨.t 31, none, .nilchk, [.t 30]⟩, ⟨.t 32, none, (.ld none), [.t 31]⟩, ⟨.l 2, none, .mv, [.t 32]⟩])
 .ret))))), [.tmp (.l 2)]⟩
theorem c61 : compFn Tryd.prog b61 Tryd.f61 = some a61 := by kernel_rfl
/-- slices.medianAdjacentOrdered[int] -/
def b62 : Nat := 71
def a62 : AFn := ⟨(.seq (.reg [⟨.l 6, none, .mv, [.c (.i .i64 0)]⟩])
 (.seq (.reg [⟨.t 7, none, .mv, [.l 0]⟩, ⟨.t 8, none, .mv, [.l 1]⟩, ⟨.t 9, none, (.bin .sub), [.t 8, .c (.i .i64 1)]⟩, ⟨.t 10, none, .mv, [.l 1]⟩, ⟨.t 11, none, .mv, [.l 1]⟩, ⟨.t 12, none, (.bin .add), [.t 11, .c (.i .i64 1)]⟩, ⟨.t 13, none, .mv, [.l 2]⟩, ⟨.t 14, none, (.call 63), [.t 7, .t 9, .t 10, .t 12, .t 13]⟩, ⟨.l 6, none, .mv, [.t 14]⟩])
 .ret)), [.tmp (.l 6)]⟩
theorem c62 : compFn Tryd.prog b62 Tryd.f62 = some a62 := by kernel_rfl
/-- slices.medianOrdered[int] -/
def b63 : Nat := 1055
def a63 : AFn := ⟨(.seq (.reg [⟨.l 10, none, .mv, [.c (.i .i64 0)]⟩])
 (.seq (.reg [⟨.t 12, none, .mv, [.l 0]⟩, ⟨.t 13, none, .mv, [.l 1]⟩, ⟨.t 14, none, .mv, [.l 2]⟩, ⟨.t 15, none, .mv, [.l 4]⟩, ⟨.t 16, none, (.call 65), [.t 12, .t 13, .t 14, .t 15]⟩, ⟨.t 11, none, .mv, [.t 16]⟩, ⟨.t 17, none, (.ext 0), [.t 11]⟩, ⟨.t 18, none, (.ext 1), [.t 11]⟩, ⟨.l 1, none, .mv, [.t 17]⟩, ⟨.l 2, none, .mv, [.t 18]⟩])
 (.seq (.reg [⟨.t 20, none, .mv, [.l 0]⟩, ⟨.t 21, none, .mv, [.l 2]⟩, ⟨.t 22, none, .mv, [.l 3]⟩, ⟨.t 23, none, .mv, [.l 4]⟩, ⟨.t 24, none, (.call 65), [.t 20, .t 21, .t 22, .t 23]⟩, ⟨.t 19, none, .mv, [.t 24]⟩, ⟨.t 25, none, (.ext 0), [.t 19]⟩, ⟨.t 26, none, (.ext 1), [.t 19]⟩, ⟨.l 2, none, .mv, [.t 25]⟩, ⟨.l 3, none, .mv, [.t 26]⟩])
 (.seq (.reg [⟨.t 28, none, .mv, [.l 0]⟩, ⟨.t 29, none, .mv, [.l 1]⟩, ⟨.t 30, none, .mv, [.l 2]⟩, ⟨.t 31, none, .mv, [.l 4]⟩, ⟨.t 32, none, (.call 65), [.t 28, .t 29, .t 30, .t 31]⟩, ⟨.t 27, none, .mv, [.t 32]⟩, ⟨.t 33, none, (.ext 0), [.t 27]⟩, ⟨.t 34, none, (.ext 1), [.t 27]⟩, ⟨.l 1, none, .mv, [.t 33]⟩, ⟨.l 2, none, .mv, [.t 34]⟩])
 (.seq (.reg [⟨.t 35, none, .mv, [.l 2]⟩, ⟨.l 10, none, .mv, [.t 35]⟩])
 .ret))))), [.tmp (.l 10)]⟩
theorem c63 : compFn Tryd.prog b63 Tryd.f63 = some a63 := by kernel_rfl
/-- cmp.isNaN[int] -/
def b64 : Nat := 5
def a64 : AFn := ⟨(.seq (.reg [⟨.l 2, none, .mv, [.c (.b false)]⟩])
 (.seq (.reg [⟨.t 3, none, .mv, [.l 0]⟩, ⟨.t 4, none, .mv, [.l 0]⟩, ⟨.t 5, none, (.bin .neq), [.t 3, .t 4]⟩, ⟨.l 2, none, .mv, [.t 5]⟩])
 .ret)), [.tmp (.l 2)]⟩
theorem c64 : compFn Tryd.prog b64 Tryd.f64 = some a64 := by kernel_rfl
/-- slices.order2Ordered[int] -/
def b65 : Nat := 783
def a65 : AFn := ⟨(.seq (.reg [⟨.l 8, none, .mv, [.c (.i .i64 0)]⟩, ⟨.l 9, none, .mv, [.c (.i .i64 0)]⟩])
 (.seq (.seq (.reg [⟨.t 10, none, .mv, [.l 0]⟩, ⟨.t 11, none, .mv, [.l 2]⟩, ⟨.t 12, none, (.iad 1), [.t 10, .t 11]⟩, ⟨.t 13, none, (.ld none), [.t 12]⟩, ⟨.t 14, none, .mv, [.l 0]⟩, ⟨.t 15, none, .mv, [.l 1]⟩, ⟨.t 16, none, (.iad 1), [.t 14, .t 15]⟩, ⟨.t 17, none, (.ld none), [.t 16]⟩, ⟨.t 18, none, (.call 54), [.t 13, .t 17]⟩])
 (.cond (.t 18) (.seq (.reg [⟨.t 19, none, .mv, [.l 3]⟩, ⟨.t 20, none, .nilchk, [.t 19]⟩, ⟨.t 21, none, (.ld none), [.t 20]⟩, ⟨.t 22, none, (.bin .add), [.t 21, .c (.i .i64 1)]⟩, ⟨.t 23, none, .nilchk, [.t 19]⟩, ⟨.no, none, (.st 1), [.t 23, .t 22]⟩])
 (.seq (.reg [⟨.t 24, none, .mv, [.l 2]⟩, ⟨.t 25, none, .mv, [.l 1]⟩, ⟨.l 8, none, .mv, [.t 24]⟩, ⟨.l 9, none, .mv, [.t 25]⟩])
 .ret)) .skip))
 (.seq (.reg [⟨.t 26, none, .mv, [.l 1]⟩, ⟨.t 27, none, .mv, [.l 2]⟩, ⟨.l 8, none, .mv, [.t 26]⟩, ⟨.l 9, none, .mv, [.t 27]⟩])
 .ret))), [.tmp (.l 8), .tmp (.l 9)]⟩
theorem c65 : compFn Tryd.prog b65 Tryd.f65 = some a65 := by kernel_rfl
noncomputable def tbl : Nat → Option AFn
  | 3 => some (c_tarpaulinlaw4_ProgTells Nn)
  | 8 => some (c_tarpaulinalike_Progs Nn)
  | 9 => some a9
  | 10 => some (c_prog_All Nn)
  | 11 => some (c_tarpaulinref1_Progs Nn)
  | 12 => some (c_prog_Name Nn)
  | 13 => some (c_tarpaulinref1_Name Nn)
  | 14 => some (c_prog_Check Nn)
  | 15 => some (c_tarpaulinref1_Prog Nn)
  | 16 => some (c_tarpaulinalike_Ints Nn)
  | 17 => some (c_prog_Reads Nn)
  | 18 => some (c_tarpaulinref1_Reads Nn)
  | 19 => some (c_prog_Writes Nn)
  | 20 => some (c_tarpaulinref1_Writes Nn)
  | 22 => some (c_slices_ContainsFunc_InstrInstr Nn)
  | 23 => some (c_prog_All_1 Nn)
  | 24 => some (c_prog_starts Nn)
  | 25 => some a25
  | 26 => some (c_prog_Check_1 Nn)
  | 27 => some (c_prog_good Nn)
  | 28 => some (c_tarpaulinref1_one Nn)
  | 29 => some (c_prog_rising Nn)
  | 30 => some (c_tarpaulinref1_form Nn)
  | 31 => some (c_tarpaulinref1_rising Nn)
  | 32 => some (c_slices_IndexFunc_InstrInstr Nn)
  | 35 => some (c_prog_may Nn)
  | 36 => some (c_slices_ContainsFunc_CaseCase Nn)
  | 37 => some (c_prog_good_1 Nn)
  | 38 => some (c_prog_register Nn)
  | 39 => some (c_tarpaulinref1_reg Nn)
  | 40 => some a40
  | 41 => some (c_slices_Compact_intint Nn)
  | 43 => some (c_slices_IndexFunc_CaseCase Nn)
  | 44 => some a44
  | 45 => some a45
  | 48 => some a48
  | 49 => some a49
  | 50 => some a50
  | 51 => some a51
  | 52 => some a52
  | 53 => some a53
  | 54 => some a54
  | 55 => some a55
  | 56 => some a56
  | 57 => some a57
  | 58 => some a58
  | 59 => some a59
  | 60 => some a60
  | 61 => some a61
  | 62 => some a62
  | 63 => some a63
  | 64 => some a64
  | 65 => some a65
  | _ => none
theorem ok : TblOk Tryd.prog tbl := by
  intro f fn h
  unfold tbl at h
  split at h
  · cases h; exact .inl ⟨b3, _, Tryd.func3, c3⟩
  · cases h; exact .inl ⟨b8, _, Tryd.func8, c8⟩
  · cases h; exact .inl ⟨b9, _, Tryd.func9, c9⟩
  · cases h; exact .inl ⟨b10, _, Tryd.func10, c10⟩
  · cases h; exact .inl ⟨b11, _, Tryd.func11, c11⟩
  · cases h; exact .inl ⟨b12, _, Tryd.func12, c12⟩
  · cases h; exact .inl ⟨b13, _, Tryd.func13, c13⟩
  · cases h; exact .inl ⟨b14, _, Tryd.func14, c14⟩
  · cases h; exact .inl ⟨b15, _, Tryd.func15, c15⟩
  · cases h; exact .inl ⟨b16, _, Tryd.func16, c16⟩
  · cases h; exact .inl ⟨b17, _, Tryd.func17, c17⟩
  · cases h; exact .inl ⟨b18, _, Tryd.func18, c18⟩
  · cases h; exact .inl ⟨b19, _, Tryd.func19, c19⟩
  · cases h; exact .inl ⟨b20, _, Tryd.func20, c20⟩
  · cases h; exact .inl ⟨b22, _, Tryd.func22, c22⟩
  · cases h; exact .inl ⟨b23, _, Tryd.func23, c23⟩
  · cases h; exact .inl ⟨b24, _, Tryd.func24, c24⟩
  · cases h; exact .inl ⟨b25, _, Tryd.func25, c25⟩
  · cases h; exact .inl ⟨b26, _, Tryd.func26, c26⟩
  · cases h; exact .inl ⟨b27, _, Tryd.func27, c27⟩
  · cases h; exact .inl ⟨b28, _, Tryd.func28, c28⟩
  · cases h; exact .inl ⟨b29, _, Tryd.func29, c29⟩
  · cases h; exact .inl ⟨b30, _, Tryd.func30, c30⟩
  · cases h; exact .inl ⟨b31, _, Tryd.func31, c31⟩
  · cases h; exact .inl ⟨b32, _, Tryd.func32, c32⟩
  · cases h; exact .inl ⟨b35, _, Tryd.func35, c35⟩
  · cases h; exact .inl ⟨b36, _, Tryd.func36, c36⟩
  · cases h; exact .inl ⟨b37, _, Tryd.func37, c37⟩
  · cases h; exact .inl ⟨b38, _, Tryd.func38, c38⟩
  · cases h; exact .inl ⟨b39, _, Tryd.func39, c39⟩
  · cases h; exact .inl ⟨b40, _, Tryd.func40, c40⟩
  · cases h; exact .inl ⟨b41, _, Tryd.func41, c41⟩
  · cases h; exact .inl ⟨b43, _, Tryd.func43, c43⟩
  · cases h; exact .inl ⟨b44, _, Tryd.func44, c44⟩
  · cases h; exact .inl ⟨b45, _, Tryd.func45, c45⟩
  · cases h; exact .inl ⟨b48, _, Tryd.func48, c48⟩
  · cases h; exact .inl ⟨b49, _, Tryd.func49, c49⟩
  · cases h; exact .inl ⟨b50, _, Tryd.func50, c50⟩
  · cases h; exact .inl ⟨b51, _, Tryd.func51, c51⟩
  · cases h; exact .inl ⟨b52, _, Tryd.func52, c52⟩
  · cases h; exact .inl ⟨b53, _, Tryd.func53, c53⟩
  · cases h; exact .inl ⟨b54, _, Tryd.func54, c54⟩
  · cases h; exact .inl ⟨b55, _, Tryd.func55, c55⟩
  · cases h; exact .inl ⟨b56, _, Tryd.func56, c56⟩
  · cases h; exact .inl ⟨b57, _, Tryd.func57, c57⟩
  · cases h; exact .inl ⟨b58, _, Tryd.func58, c58⟩
  · cases h; exact .inl ⟨b59, _, Tryd.func59, c59⟩
  · cases h; exact .inl ⟨b60, _, Tryd.func60, c60⟩
  · cases h; exact .inl ⟨b61, _, Tryd.func61, c61⟩
  · cases h; exact .inl ⟨b62, _, Tryd.func62, c62⟩
  · cases h; exact .inl ⟨b63, _, Tryd.func63, c63⟩
  · cases h; exact .inl ⟨b64, _, Tryd.func64, c64⟩
  · cases h; exact .inl ⟨b65, _, Tryd.func65, c65⟩
  · cases h
theorem mixed : Tryd.prog.follows .mixedOrders = true := by kernel_rfl
theorem awake9 : KnownTrue Tryd.prog 9 := known mixed ok Tryd.func9 c9 (n := 100000) (by kernel_rfl)
theorem ext40 : ExtOk Tryd.prog 40 0 :=
  xSort_ok ⟨_, Tryd.func40, by kernel_rfl, by kernel_rfl⟩ (fun blk off cap zs w hH hb hl => Any.slices_Sort_int Tryd.lays189 blk off cap zs w hH hb hl) (fun cap w => Any.slices_Sort_int_none Tryd.lays189 none cap w)
open Go.Shelf in
theorem at0 {w : World} (h : GW w) : Lib.TabIs Tryd.prog w "strings.asciiSpace" .u8 Lib.asciiSpaceTab := by
  obtain ⟨cur, t, fr, h1, h2, h3⟩ := h 0 (Nat.lt_succ_self 0)
  have e : GC 0 = Lib.asciiSpaceTab.map fun z => .i .u8 z := by kernel_rfl
  have el : Lib.asciiSpaceTab.length = 256 := by kernel_rfl
  have hsz : cur.size = 256 := by rw [h3, e, List.length_map, el]
  have key : cur = (Lib.asciiSpaceTab.map fun z => Value.int .u8 z).toArray := by
    apply Array.ext_getElem?
    intro i
    by_cases hi : i < 256
    · have hz : Lib.asciiSpaceTab[i]? = some (Lib.asciiSpaceTab[i]'(by omega)) := List.getElem?_eq_getElem (by omega)
      generalize Lib.asciiSpaceTab[i]'(by omega) = z at hz
      obtain ⟨u, hu, hr⟩ := h2 i (.i .u8 z) (by rw [e, List.getElem?_map, hz]; rfl)
      cases hr
      rw [Nat.zero_add] at hu
      rw [hu]
      simp [hz]
    · rw [Array.getElem?_eq_none (by omega), Array.getElem?_eq_none (by simp [el]; omega)]
  unfold Lib.TabIs World.var?
  rw [show Tryd.prog.globalNamed "strings.asciiSpace" = some 0 by kernel_rfl]
  simp only [Option.bind_some, h1, key]
theorem hi9 : (Tryd.prog.info? 9).map (fun i => (i.zero, i.size, i.bytes)) = some (some (.string ByteArray.empty), 1, 16) := by kernel_rfl
open Go.Shelf in
theorem ext25 : ExtOk Tryd.prog 25 2 := xFields_ok (t := 9) ⟨_, Tryd.func25, by kernel_rfl, by kernel_rfl⟩ fun l w hl ha hg =>
  Any.strings_Fields Tryd.lays157 hi9 (by kernel_rfl) ⟨l.toArray⟩ w (by show l.toArray.size < _; simp; omega) (fun j b hb => ha b (List.mem_of_getElem? (by simpa using hb))) (at0 hg)
/-- the table, with what is known -/
noncomputable def tblK (f : Nat) : Option AFn := bif Nat.beq f 9 then some kTrue else bif Nat.beq f 40 then some (kExt 0) else bif Nat.beq f 25 then some (kExt 2) else tbl f
theorem okK : TblOk Tryd.prog tblK := by
  intro f fn h
  unfold tblK at h
  cases h9 : Nat.beq f 9
  case true =>
    rw [h9] at h
    cases h
    exact .inr (.inl ⟨rfl, by rw [beq_nat, decide_eq_true_eq] at h9; subst h9; exact awake9⟩)
  rw [h9] at h
  cases h40 : Nat.beq f 40
  case true =>
    rw [h40] at h
    cases h
    exact .inr (.inr ⟨0, rfl, by rw [beq_nat, decide_eq_true_eq] at h40; subst h40; exact ext40⟩)
  rw [h40] at h
  cases h25 : Nat.beq f 25
  case true =>
    rw [h25] at h
    cases h
    exact .inr (.inr ⟨2, rfl, by rw [beq_nat, decide_eq_true_eq] at h25; subst h25; exact ext25⟩)
  rw [h25] at h
  exact ok f fn h
theorem h_tarpaulinalike_Progs : H_tarpaulinalike_Progs Nn tblK := ⟨by kernel_rfl⟩
theorem h_prog_register : H_prog_register Nn tblK := ⟨by kernel_rfl⟩
theorem h_prog_may : H_prog_may Nn tblK := ⟨by kernel_rfl, h_prog_register⟩
theorem h_slices_IndexFunc_CaseCase : H_slices_IndexFunc_CaseCase Nn tblK := ⟨by kernel_rfl⟩
theorem h_slices_ContainsFunc_CaseCase : H_slices_ContainsFunc_CaseCase Nn tblK := ⟨by kernel_rfl, h_slices_IndexFunc_CaseCase⟩
theorem h_prog_good_1 : H_prog_good_1 Nn tblK := ⟨by kernel_rfl, h_prog_register⟩
theorem h_prog_good : H_prog_good Nn tblK := ⟨by kernel_rfl, h_prog_may, h_slices_ContainsFunc_CaseCase, h_prog_good_1⟩
theorem h_prog_Check_1 : H_prog_Check_1 Nn tblK := ⟨by kernel_rfl, h_prog_good⟩
theorem h_slices_IndexFunc_InstrInstr : H_slices_IndexFunc_InstrInstr Nn tblK := ⟨by kernel_rfl⟩
theorem h_slices_ContainsFunc_InstrInstr : H_slices_ContainsFunc_InstrInstr Nn tblK := ⟨by kernel_rfl, h_slices_IndexFunc_InstrInstr⟩
theorem h_prog_Check : H_prog_Check Nn tblK := ⟨by kernel_rfl, h_prog_Check_1, h_slices_ContainsFunc_InstrInstr⟩
theorem h_prog_starts : H_prog_starts Nn tblK := ⟨by kernel_rfl⟩
theorem h_prog_All_1 : H_prog_All_1 Nn tblK := ⟨by kernel_rfl, h_prog_starts⟩
theorem h_prog_All : H_prog_All Nn tblK := ⟨by kernel_rfl, h_prog_Check, h_prog_All_1, h_slices_ContainsFunc_InstrInstr⟩
theorem h_tarpaulinref1_form : H_tarpaulinref1_form Nn tblK := ⟨by kernel_rfl⟩
theorem h_tarpaulinref1_reg : H_tarpaulinref1_reg Nn tblK := ⟨by kernel_rfl⟩
theorem h_tarpaulinref1_one : H_tarpaulinref1_one Nn tblK := ⟨by kernel_rfl, h_tarpaulinref1_form, h_tarpaulinref1_reg⟩
theorem h_tarpaulinref1_Prog : H_tarpaulinref1_Prog Nn tblK := ⟨by kernel_rfl, h_tarpaulinref1_one⟩
theorem h_tarpaulinref1_Progs : H_tarpaulinref1_Progs Nn tblK := ⟨by kernel_rfl, h_tarpaulinref1_Prog⟩
theorem h_prog_Name : H_prog_Name Nn tblK := ⟨by kernel_rfl⟩
theorem h_tarpaulinref1_Name : H_tarpaulinref1_Name Nn tblK := ⟨by kernel_rfl⟩
theorem h_slices_Compact_intint : H_slices_Compact_intint Nn tblK := ⟨by kernel_rfl⟩
theorem h_prog_rising : H_prog_rising Nn tblK := ⟨by kernel_rfl, h_slices_Compact_intint⟩
theorem h_prog_Reads : H_prog_Reads Nn tblK := ⟨by kernel_rfl, h_prog_good, h_prog_rising⟩
theorem h_tarpaulinref1_rising : H_tarpaulinref1_rising Nn tblK := ⟨by kernel_rfl⟩
theorem h_tarpaulinref1_Reads : H_tarpaulinref1_Reads Nn tblK := ⟨by kernel_rfl, h_tarpaulinref1_one, h_tarpaulinref1_form, h_tarpaulinref1_rising⟩
theorem h_prog_Writes : H_prog_Writes Nn tblK := ⟨by kernel_rfl, h_prog_good, h_prog_rising⟩
theorem h_tarpaulinref1_Writes : H_tarpaulinref1_Writes Nn tblK := ⟨by kernel_rfl, h_tarpaulinref1_one, h_tarpaulinref1_form, h_tarpaulinref1_rising⟩
theorem h_tarpaulinalike_Ints : H_tarpaulinalike_Ints Nn tblK := ⟨by kernel_rfl⟩
theorem progTells_call {L : Lg} (l0 : List (AV × List (Ins × AV))) (x0 : AV) (s0 : PsW L x0 l0) (a1 : Int) : CallL tblK 3 [x0, .i .i64 a1] L fun v _ => v = .b true :=
  progTells_law (N := Nn) (F := tblK) (by kernel_rfl) (by kernel_rfl) (by kernel_rfl) (by kernel_rfl) h_tarpaulinalike_Progs h_prog_All h_prog_Check h_tarpaulinref1_Progs h_tarpaulinref1_Prog h_prog_Name h_tarpaulinref1_Name h_prog_Reads h_tarpaulinref1_Reads h_prog_Writes h_tarpaulinref1_Writes h_tarpaulinalike_Ints s0 a1
end Go.Proofs.YtkfcecaoaplfkaaDoor.T
