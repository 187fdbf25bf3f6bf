/- The code of the functions that TraceForms reaches, and that it is compiled from the seat's program. PRINTED by our claimlib.py over our printam.lean. -/
import Derived.Test.YtnoaljgjplejiaaDoorChecked
import Derived.Test.YtnoaljgjplejiaaDoorTraceFormsTx
import Derived.Test.YtnoaljgjplejiaaDoorSh
import Derived.KernelRfl
set_option maxRecDepth 100000
set_option linter.unusedVariables false
namespace Go.Proofs.YtnoaljgjplejiaaDoor.T
open Go.AM
/-- which of the program's functions a name stands for -/
def Nn (k : Nat) : Nat := bif Nat.beq k 10 then 17 else bif Nat.beq k 345 then 27 else bif Nat.beq k 346 then 41 else bif Nat.beq k 347 then 32 else bif Nat.beq k 348 then 19 else bif Nat.beq k 349 then 9 else bif Nat.beq k 350 then 25 else bif Nat.beq k 351 then 15 else bif Nat.beq k 352 then 13 else bif Nat.beq k 353 then 8 else bif Nat.beq k 355 then 21 else bif Nat.beq k 356 then 10 else bif Nat.beq k 357 then 5 else bif Nat.beq k 363 then 24 else bif Nat.beq k 364 then 31 else bif Nat.beq k 365 then 33 else bif Nat.beq k 366 then 18 else bif Nat.beq k 367 then 20 else bif Nat.beq k 368 then 11 else 0
/-- tarpaulin/tarpaulinlaw21.TraceForms -/
def b5 : Nat := 755
theorem c5 : compFn Tryd.prog b5 Tryd.f5 = some (c_tarpaulinlaw21_TraceForms Nn) := by kernel_rfl
/-- tarpaulin/tarpaulinlaw21.awake -/
def b8 : Nat := 47
theorem c8 : compFn Tryd.prog b8 Tryd.f8 = some (c_tarpaulinlaw21_awake Nn) := by kernel_rfl
/-- tarpaulin/trace.Line -/
def b9 : Nat := 14680111
theorem c9 : compFn Tryd.prog b9 Tryd.f9 = some (c_trace_Line Nn) := by kernel_rfl
/-- tarpaulin/tarpaulinref17.Line -/
def b10 : Nat := 31
theorem c10 : compFn Tryd.prog b10 Tryd.f10 = some (c_tarpaulinref17_Line Nn) := by kernel_rfl
/-- tarpaulin/trace.Text -/
def b11 : Nat := 493
def a11 : AFn := ⟨(.seq (.reg [⟨.l 2, none, .mv, [.c (.s [])]⟩])
 (.seq (.reg [⟨.l 3, none, (.alloc [(.p none), (.sl none 0 0 0)]), []⟩])
 (.seq (.seq (.reg [⟨.l 6, none, .mv, [.l 0]⟩, ⟨.l 7, none, .lenSl, [.l 6]⟩, ⟨.l 8, none, .mv, [.c (.i .i64 0)]⟩])
 (.block 0 (.loop (.seq (.reg [⟨.t 9, none, (.bin .lss), [.l 8, .l 7]⟩])
 (.seq (.cond (.t 9) .skip (.exit 0))
 (.seq (.block 1 (.seq (.reg [⟨.t 10, none, (.iad 6), [.l 6, .l 8]⟩, ⟨.t 11, none, (.ld (some 6)), [.t 10]⟩, ⟨.l 5, none, (.alloc [(.i .i64 0), (.i .i64 0), (.i .i64 0), (.i .i64 0), (.i .i64 0), (.i .i64 0)]), []⟩, ⟨.no, none, (.st 6), [.l 5, .t 11]⟩])
 (.reg [⟨.t 12, none, (.ld (some 6)), [.l 5]⟩, ⟨.t 13, none, (.call 9), [.t 12]⟩, ⟨.t 14, none, (.sbin .add), [.t 13, .c (.s [10])]⟩, ⟨.t 15, none, (.call 22), [.l 3, .t 14]⟩])))
 (.reg [⟨.t 16, none, (.bin .add), [.l 8, .c (.i .i64 1)]⟩, ⟨.l 8, none, .mv, [.t 16]⟩])))))))
 (.seq (.reg [⟨.t 17, none, (.call 23), [.l 3]⟩, ⟨.l 2, none, .mv, [.t 17]⟩])
 .ret)))), [.tmp (.l 2)]⟩
theorem c11 : compFn Tryd.prog b11 Tryd.f11 = some a11 := by kernel_rfl
/-- tarpaulin/trace.First -/
def b13 : Nat := 12403
theorem c13 : compFn Tryd.prog b13 Tryd.f13 = some (c_trace_First Nn) := by kernel_rfl
/-- tarpaulin/trace.Parse -/
def b15 : Nat := 509
theorem c15 : compFn Tryd.prog b15 Tryd.f15 = some (c_trace_Parse Nn) := by kernel_rfl
/-- tarpaulin/tarpaulinalike.Round -/
def b17 : Nat := 19
theorem c17 : compFn Tryd.prog b17 Tryd.f17 = some (c_tarpaulinalike_Round Nn) := by kernel_rfl
/-- strconv.Itoa -/
def b18 : Nat := 5
def a18 : AFn := ⟨(.seq (.reg [⟨.l 2, none, .mv, [.c (.s [])]⟩])
 (.seq (.reg [⟨.t 3, none, .mv, [.l 0]⟩, ⟨.t 4, none, (.call 26), [.t 3]⟩, ⟨.l 2, none, .mv, [.t 4]⟩])
 .ret)), [.tmp (.l 2)]⟩
theorem c18 : compFn Tryd.prog b18 Tryd.f18 = some a18 := by kernel_rfl
/-- tarpaulin/trace.word -/
def b19 : Nat := 13
theorem c19 : compFn Tryd.prog b19 Tryd.f19 = some (c_trace_word Nn) := by kernel_rfl
/-- tarpaulin/tarpaulinref17.decimal -/
def b21 : Nat := 61
theorem c21 : compFn Tryd.prog b21 Tryd.f21 = some (c_tarpaulinref17_decimal Nn) := by kernel_rfl
/-- strings.Cut -/
def b24 : Nat := 115
def a24 : AFn := ⟨(.seq (.reg [⟨.l 4, none, .mv, [.c (.s [])]⟩, ⟨.l 5, none, .mv, [.c (.s [])]⟩, ⟨.l 6, none, .mv, [.c (.b false)]⟩])
 (.seq (.reg [⟨.t 7, none, .mv, [.l 0]⟩, ⟨.t 8, none, .mv, [.l 1]⟩, ⟨.t 9, none, (.call 30), [.t 7, .t 8]⟩, ⟨.t 10, none, (.ext 0), [.t 9]⟩, ⟨.t 11, none, (.ext 1), [.t 9]⟩, ⟨.t 12, none, (.ext 2), [.t 9]⟩, ⟨.l 4, none, .mv, [.t 10]⟩, ⟨.l 5, none, .mv, [.t 11]⟩, ⟨.l 6, none, .mv, [.t 12]⟩])
 .ret)), [.tmp (.l 4), .tmp (.l 5), .tmp (.l 6)]⟩
theorem c24 : compFn Tryd.prog b24 Tryd.f24 = some a24 := by kernel_rfl
/-- tarpaulin/trace.event -/
def b25 : Nat := 1879048701
theorem c25 : compFn Tryd.prog b25 Tryd.f25 = some (c_trace_event Nn) := by kernel_rfl
/-- internal/strconv.Itoa -/
def b26 : Nat := 5
def a26 : AFn := ⟨(.seq (.reg [⟨.l 2, none, .mv, [.c (.s [])]⟩])
 (.seq (.reg [⟨.t 3, none, .mv, [.l 0]⟩, ⟨.t 4, none, (.call 34), [.t 3, .c (.i .i64 10)]⟩, ⟨.l 2, none, .mv, [.t 4]⟩])
 .ret)), [.tmp (.l 2)]⟩
theorem c26 : compFn Tryd.prog b26 Tryd.f26 = some a26 := by kernel_rfl
/-- strings.Fields -/
def b27 : Nat := 8189
def a27 : AFn := ⟨(.seq (.reg [⟨.l 2, none, .mv, [.c (.sl none 0 0 0)]⟩])
 (.seq (.reg [⟨.l 3, none, .mv, [.c (.i .i64 0)]⟩])
 (.seq (.reg [⟨.l 4, none, .mv, [.c (.i .i64 1)]⟩])
 (.seq (.reg [⟨.l 5, none, .mv, [.c (.i .u8 0)]⟩])
 (.seq (.seq (.reg [⟨.l 6, none, .mv, [.c (.i .i64 0)]⟩])
 (.block 0 (.loop (.seq (.seq (.reg [⟨.t 13, none, .mv, [.l 6]⟩, ⟨.t 14, none, .mv, [.l 0]⟩, ⟨.t 15, none, .lenS, [.t 14]⟩, ⟨.t 16, none, (.bin .lss), [.t 13, .t 15]⟩])
 (.cond (.t 16) .skip (.exit 0)))
 (.seq (.block 1 (.seq (.reg [⟨.t 19, none, .mv, [.l 0]⟩, ⟨.t 20, none, .mv, [.l 6]⟩, ⟨.t 21, none, .ixS, [.t 19, .t 20]⟩, ⟨.l 7, none, .mv, [.t 21]⟩])
 (.seq (.reg [⟨.t 22, none, .mv, [.l 5]⟩, ⟨.t 23, none, .mv, [.l 7]⟩, ⟨.t 24, none, (.bin .or), [.t 22, .t 23]⟩, ⟨.l 5, none, .mv, [.t 24]⟩])
 (.seq (.reg [⟨.t 25, none, .mv, [.l 7]⟩, ⟨.t 26, none, (.iadA 256 1), [.c (.p (some (0, 0))), .t 25]⟩, ⟨.t 27, none, (.ld none), [.t 26]⟩, ⟨.t 28, none, (.cvtI .i64), [.t 27]⟩, ⟨.l 8, none, .mv, [.t 28]⟩])
 (.seq (.reg [⟨.t 29, none, .mv, [.l 3]⟩, ⟨.t 30, none, .mv, [.l 4]⟩, ⟨.t 31, none, .mv, [.l 8]⟩, ⟨.t 32, none, (.un .xor), [.t 31]⟩, ⟨.t 33, none, (.bin .and), [.t 30, .t 32]⟩, ⟨.t 34, none, (.bin .add), [.t 29, .t 33]⟩, ⟨.l 3, none, .mv, [.t 34]⟩])
 (.reg [⟨.t 35, none, .mv, [.l 8]⟩, ⟨.l 4, none, .mv, [.t 35]⟩]))))))
 (.reg [⟨.t 17, none, .mv, [.l 6]⟩, ⟨.t 18, none, (.bin .add), [.t 17, .c (.i .i64 1)]⟩, ⟨.l 6, none, .mv, [.t 18]⟩]))))))
 (.seq (.seq (.reg [⟨.t 36, none, .mv, [.l 5]⟩, ⟨.t 37, none, (.bin .geq), [.t 36, .c (.i .u8 128)]⟩])
 (.cond (.t 37) (.seq (.reg [⟨.t 38, none, .mv, [.l 0]⟩, ⟨.t 39, none, (.call 35), [.t 38, .c (.fn 36 [] [])]⟩, ⟨.l 2, none, .mv, [.t 39]⟩])
 .ret) .skip))
 (.seq (.reg [⟨.t 40, none, .mv, [.l 3]⟩, ⟨.t 41, none, (.mksl [(.s [])] 16), [.t 40, .t 40]⟩, ⟨.l 9, none, .mv, [.t 41]⟩])
 (.seq (.reg [⟨.l 10, none, .mv, [.c (.i .i64 0)]⟩])
 (.seq (.reg [⟨.l 11, none, .mv, [.c (.i .i64 0)]⟩])
 (.seq (.reg [⟨.l 12, none, .mv, [.c (.i .i64 0)]⟩])
 (.seq (.block 2 (.loop (.seq (.seq (.reg [⟨.t 42, none, .mv, [.l 12]⟩, ⟨.t 43, none, .mv, [.l 0]⟩, ⟨.t 44, none, .lenS, [.t 43]⟩, ⟨.t 45, none, (.bin .lss), [.t 42, .t 44]⟩, ⟨.t 46, none, .mv, [.t 45]⟩, ⟨.t 47, (some (.t 46, true)), .mv, [.l 0]⟩, ⟨.t 48, (some (.t 46, true)), .mv, [.l 12]⟩, ⟨.t 49, (some (.t 46, true)), .ixS, [.t 47, .t 48]⟩, ⟨.t 50, (some (.t 46, true)), (.iadA 256 1), [.c (.p (some (0, 0))), .t 49]⟩, ⟨.t 51, (some (.t 46, true)), (.ld none), [.t 50]⟩, ⟨.t 52, (some (.t 46, true)), (.bin .neq), [.t 51, .c (.i .u8 0)]⟩, ⟨.t 53, none, .pick, [.t 46, .t 52, .c (.b false)]⟩])
 (.cond (.t 53) .skip (.exit 2)))
 (.block 3 (.reg [⟨.t 54, none, .mv, [.l 12]⟩, ⟨.t 55, none, (.bin .add), [.t 54, .c (.i .i64 1)]⟩, ⟨.l 12, none, .mv, [.t 55]⟩])))))
 (.seq (.reg [⟨.t 56, none, .mv, [.l 12]⟩, ⟨.l 11, none, .mv, [.t 56]⟩])
 (.seq (.block 4 (.loop (.seq (.seq (.reg [⟨.t 57, none, .mv, [.l 12]⟩, ⟨.t 58, none, .mv, [.l 0]⟩, ⟨.t 59, none, .lenS, [.t 58]⟩, ⟨.t 60, none, (.bin .lss), [.t 57, .t 59]⟩])
 (.cond (.t 60) .skip (.exit 4)))
 (.block 5 (.seq (.seq (.reg [⟨.t 61, none, .mv, [.l 0]⟩, ⟨.t 62, none, .mv, [.l 12]⟩, ⟨.t 63, none, .ixS, [.t 61, .t 62]⟩, ⟨.t 64, none, (.iadA 256 1), [.c (.p (some (0, 0))), .t 63]⟩, ⟨.t 65, none, (.ld none), [.t 64]⟩, ⟨.t 66, none, (.bin .eql), [.t 65, .c (.i .u8 0)]⟩])
 (.cond (.t 66) (.seq (.reg [⟨.t 67, none, .mv, [.l 12]⟩, ⟨.t 68, none, (.bin .add), [.t 67, .c (.i .i64 1)]⟩, ⟨.l 12, none, .mv, [.t 68]⟩])
 (.exit 5)) .skip))
 (.seq (.reg [⟨.t 69, none, .mv, [.l 9]⟩, ⟨.t 70, none, .mv, [.l 10]⟩, ⟨.t 71, none, .mv, [.l 0]⟩, ⟨.t 72, none, .mv, [.l 11]⟩, ⟨.t 73, none, .mv, [.l 12]⟩, ⟨.t 74, none, (.slcS true true), [.t 71, .t 72, .t 73]⟩, ⟨.t 75, none, (.iad 1), [.t 69, .t 70]⟩, ⟨.no, none, (.st 1), [.t 75, .t 74]⟩])
 (.seq (.reg [⟨.t 76, none, .mv, [.l 10]⟩, ⟨.t 77, none, (.bin .add), [.t 76, .c (.i .i64 1)]⟩, ⟨.l 10, none, .mv, [.t 77]⟩])
 (.seq (.reg [⟨.t 78, none, .mv, [.l 12]⟩, ⟨.t 79, none, (.bin .add), [.t 78, .c (.i .i64 1)]⟩, ⟨.l 12, none, .mv, [.t 79]⟩])
 (.seq (.block 6 (.loop (.seq (.seq (.reg [⟨.t 80, none, .mv, [.l 12]⟩, ⟨.t 81, none, .mv, [.l 0]⟩, ⟨.t 82, none, .lenS, [.t 81]⟩, ⟨.t 83, none, (.bin .lss), [.t 80, .t 82]⟩, ⟨.t 84, none, .mv, [.t 83]⟩, ⟨.t 85, (some (.t 84, true)), .mv, [.l 0]⟩, ⟨.t 86, (some (.t 84, true)), .mv, [.l 12]⟩, ⟨.t 87, (some (.t 84, true)), .ixS, [.t 85, .t 86]⟩, ⟨.t 88, (some (.t 84, true)), (.iadA 256 1), [.c (.p (some (0, 0))), .t 87]⟩, ⟨.t 89, (some (.t 84, true)), (.ld none), [.t 88]⟩, ⟨.t 90, (some (.t 84, true)), (.bin .neq), [.t 89, .c (.i .u8 0)]⟩, ⟨.t 91, none, .pick, [.t 84, .t 90, .c (.b false)]⟩])
 (.cond (.t 91) .skip (.exit 6)))
 (.block 7 (.reg [⟨.t 92, none, .mv, [.l 12]⟩, ⟨.t 93, none, (.bin .add), [.t 92, .c (.i .i64 1)]⟩, ⟨.l 12, none, .mv, [.t 93]⟩])))))
 (.reg [⟨.t 94, none, .mv, [.l 12]⟩, ⟨.l 11, none, .mv, [.t 94]⟩]))))))))))
 (.seq (.seq (.reg [⟨.t 95, none, .mv, [.l 11]⟩, ⟨.t 96, none, .mv, [.l 0]⟩, ⟨.t 97, none, .lenS, [.t 96]⟩, ⟨.t 98, none, (.bin .lss), [.t 95, .t 97]⟩])
 (.cond (.t 98) (.reg [⟨.t 99, none, .mv, [.l 9]⟩, ⟨.t 100, none, .mv, [.l 10]⟩, ⟨.t 101, none, .mv, [.l 0]⟩, ⟨.t 102, none, .mv, [.l 11]⟩, ⟨.t 103, none, (.slcS true false), [.t 101, .t 102]⟩, ⟨.t 104, none, (.iad 1), [.t 99, .t 100]⟩, ⟨.no, none, (.st 1), [.t 104, .t 103]⟩]) .skip))
 (.seq (.reg [⟨.t 105, none, .mv, [.l 9]⟩, ⟨.l 2, none, .mv, [.t 105]⟩])
 .ret))))))))))))))), [.tmp (.l 2)]⟩
theorem c27 : compFn Tryd.prog b27 Tryd.f27 = some a27 := by kernel_rfl
/-- internal/stringslite.Cut -/
def b30 : Nat := 243
def a30 : AFn := ⟨(.seq (.reg [⟨.l 4, none, .mv, [.c (.s [])]⟩, ⟨.l 5, none, .mv, [.c (.s [])]⟩, ⟨.l 6, none, .mv, [.c (.b false)]⟩])
 (.seq (.seq (.reg [⟨.t 8, none, .mv, [.l 0]⟩, ⟨.t 9, none, .mv, [.l 1]⟩, ⟨.t 10, none, (.call 39), [.t 8, .t 9]⟩, ⟨.l 7, none, .mv, [.t 10]⟩])
 (.seq (.reg [⟨.t 11, none, .mv, [.l 7]⟩, ⟨.t 12, none, (.bin .geq), [.t 11, .c (.i .i64 0)]⟩])
 (.cond (.t 12) (.seq (.reg [⟨.t 13, none, .mv, [.l 0]⟩, ⟨.t 14, none, .mv, [.l 7]⟩, ⟨.t 15, none, (.slcS false true), [.t 13, .t 14]⟩, ⟨.t 16, none, .mv, [.l 0]⟩, ⟨.t 17, none, .mv, [.l 7]⟩, ⟨.t 18, none, .mv, [.l 1]⟩, ⟨.t 19, none, .lenS, [.t 18]⟩, ⟨.t 20, none, (.bin .add), [.t 17, .t 19]⟩, ⟨.t 21, none, (.slcS true false), [.t 16, .t 20]⟩, ⟨.l 4, none, .mv, [.t 15]⟩, ⟨.l 5, none, .mv, [.t 21]⟩, ⟨.l 6, none, .mv, [.c (.b true)]⟩])
 .ret) .skip)))
 (.seq (.reg [⟨.t 22, none, .mv, [.l 0]⟩, ⟨.l 4, none, .mv, [.t 22]⟩, ⟨.l 5, none, .mv, [.c (.s [])]⟩, ⟨.l 6, none, .mv, [.c (.b false)]⟩])
 .ret))), [.tmp (.l 4), .tmp (.l 5), .tmp (.l 6)]⟩
theorem c30 : compFn Tryd.prog b30 Tryd.f30 = some a30 := by kernel_rfl
/-- strings.Split -/
def b31 : Nat := 19
def a31 : AFn := ⟨(.seq (.reg [⟨.l 4, none, .mv, [.c (.sl none 0 0 0)]⟩])
 (.seq (.reg [⟨.t 5, none, .mv, [.l 0]⟩, ⟨.t 6, none, .mv, [.l 1]⟩, ⟨.t 7, none, (.call 40), [.t 5, .t 6, .c (.i .i64 0), .c (.i .i64 (-1))]⟩, ⟨.l 4, none, .mv, [.t 7]⟩])
 .ret)), [.tmp (.l 4)]⟩
theorem c31 : compFn Tryd.prog b31 Tryd.f31 = some a31 := by kernel_rfl
/-- tarpaulin/trace.kind -/
def b32 : Nat := 125
theorem c32 : compFn Tryd.prog b32 Tryd.f32 = some (c_trace_kind Nn) := by kernel_rfl
/-- strconv.Atoi -/
def b33 : Nat := 61
def a33 : AFn := ⟨(.seq (.reg [⟨.l 2, none, .mv, [.c (.i .i64 0)]⟩, ⟨.l 3, none, .mv, [.c .nili]⟩])
 (.seq (.reg [⟨.t 7, none, .mv, [.l 0]⟩, ⟨.t 8, none, (.call 42), [.t 7]⟩, ⟨.t 6, none, .mv, [.t 8]⟩, ⟨.t 9, none, (.ext 0), [.t 6]⟩, ⟨.t 10, none, (.ext 1), [.t 6]⟩, ⟨.l 4, none, .mv, [.t 9]⟩, ⟨.l 5, none, .mv, [.t 10]⟩])
 (.seq (.seq (.reg [⟨.t 11, none, .mv, [.l 5]⟩, ⟨.t 12, none, (.eq true .ifcn), [.t 11, .c .nili]⟩])
 (.cond (.t 12) (.seq (.reg [⟨.t 13, none, .mv, [.l 4]⟩, ⟨.t 14, none, .mv, [.l 0]⟩, ⟨.t 15, none, .mv, [.l 5]⟩, ⟨.t 16, none, (.call 43), [.c (.s [65, 116, 111, 105]), .t 14, .c (.i .i64 0), .c (.i .i64 0), .t 15]⟩, ⟨.l 2, none, .mv, [.t 13]⟩, ⟨.l 3, none, .mv, [.t 16]⟩])
 .ret) .skip))
 (.seq (.reg [⟨.t 17, none, .mv, [.l 4]⟩, ⟨.l 2, none, .mv, [.t 17]⟩, ⟨.l 3, none, .mv, [.c .nili]⟩])
 .ret)))), [.tmp (.l 2), .tmp (.l 3)]⟩
theorem c33 : compFn Tryd.prog b33 Tryd.f33 = some a33 := by kernel_rfl
/-- unicode.IsSpace -/
def b36 : Nat := 69
def a36 : AFn := ⟨(.seq (.reg [⟨.l 2, none, .mv, [.c (.b false)]⟩])
 (.seq (.seq (.reg [⟨.t 3, none, .mv, [.l 0]⟩, ⟨.t 4, none, (.cvtI .u32), [.t 3]⟩, ⟨.t 5, none, (.bin .leq), [.t 4, .c (.i .u32 255)]⟩])
 (.cond (.t 5) (.seq (.seq (.reg [⟨.l 6, none, .mv, [.l 0]⟩])
 (.block 0 (.seq (.seq (.reg [⟨.t 8, none, (.bin .eql), [.l 6, .c (.i .i32 9)]⟩, ⟨.t 7, none, .mv, [.t 8]⟩])
 (.cond (.t 7) .skip (.seq (.reg [⟨.t 9, none, (.bin .eql), [.l 6, .c (.i .i32 10)]⟩, ⟨.t 7, none, .mv, [.t 9]⟩])
 (.cond (.t 7) .skip (.seq (.reg [⟨.t 10, none, (.bin .eql), [.l 6, .c (.i .i32 11)]⟩, ⟨.t 7, none, .mv, [.t 10]⟩])
 (.cond (.t 7) .skip (.seq (.reg [⟨.t 11, none, (.bin .eql), [.l 6, .c (.i .i32 12)]⟩, ⟨.t 7, none, .mv, [.t 11]⟩])
 (.cond (.t 7) .skip (.seq (.reg [⟨.t 12, none, (.bin .eql), [.l 6, .c (.i .i32 13)]⟩, ⟨.t 7, none, .mv, [.t 12]⟩])
 (.cond (.t 7) .skip (.seq (.reg [⟨.t 13, none, (.bin .eql), [.l 6, .c (.i .i32 32)]⟩, ⟨.t 7, none, .mv, [.t 13]⟩])
 (.cond (.t 7) .skip (.seq (.reg [⟨.t 14, none, (.bin .eql), [.l 6, .c (.i .i32 133)]⟩, ⟨.t 7, none, .mv, [.t 14]⟩])
 (.cond (.t 7) .skip (.reg [⟨.t 15, none, (.bin .eql), [.l 6, .c (.i .i32 160)]⟩, ⟨.t 7, none, .mv, [.t 15]⟩])))))))))))))))
 (.cond (.t 7) (.seq (.reg [⟨.l 2, none, .mv, [.c (.b true)]⟩])
 .ret) .skip))))
 (.seq (.reg [⟨.l 2, none, .mv, [.c (.b false)]⟩])
 .ret)) .skip))
 (.seq (.reg [⟨.t 16, none, (.ld none), [.c (.p (some (1, 0)))]⟩, ⟨.t 17, none, .mv, [.l 0]⟩, ⟨.t 18, none, (.call 48), [.t 16, .t 17]⟩, ⟨.l 2, none, .mv, [.t 18]⟩])
 .ret))), [.tmp (.l 2)]⟩
theorem c36 : compFn Tryd.prog b36 Tryd.f36 = some a36 := by kernel_rfl
/-- internal/stringslite.Index -/
def b39 : Nat := 16371
def a39 : AFn := ⟨(.seq (.reg [⟨.l 4, none, .mv, [.c (.i .i64 0)]⟩])
 (.seq (.reg [⟨.t 14, none, .mv, [.l 1]⟩, ⟨.t 15, none, .lenS, [.t 14]⟩, ⟨.l 5, none, .mv, [.t 15]⟩])
 (.seq (.block 0 (.seq (.reg [⟨.t 17, none, .mv, [.l 5]⟩, ⟨.t 18, none, (.bin .eql), [.t 17, .c (.i .i64 0)]⟩, ⟨.t 19, none, .mv, [.t 18]⟩, ⟨.t 20, (some (.t 19, false)), .mv, [.l 1]⟩, ⟨.t 21, (some (.t 19, false)), .mv, [.l 0]⟩, ⟨.t 22, (some (.t 19, false)), (.sbin .eql), [.t 20, .t 21]⟩, ⟨.t 23, none, .pick, [.t 19, .c (.b true), .t 22]⟩, ⟨.t 16, none, .mv, [.t 23]⟩])
 (.cond (.t 16) (.seq (.reg [⟨.l 4, none, .mv, [.c (.i .i64 0)]⟩])
 .ret) (.seq (.reg [⟨.t 25, none, .mv, [.l 5]⟩, ⟨.t 26, none, (.bin .eql), [.t 25, .c (.i .i64 1)]⟩, ⟨.t 24, none, .mv, [.t 26]⟩])
 (.cond (.t 24) (.seq (.reg [⟨.t 27, none, .mv, [.l 0]⟩, ⟨.t 28, none, .mv, [.l 1]⟩, ⟨.t 29, none, .ixS, [.t 28, .c (.i .i64 0)]⟩, ⟨.t 30, none, (.call 50), [.t 27, .t 29]⟩, ⟨.l 4, none, .mv, [.t 30]⟩])
 .ret) (.seq (.reg [⟨.t 32, none, .mv, [.l 5]⟩, ⟨.t 33, none, .mv, [.l 0]⟩, ⟨.t 34, none, .lenS, [.t 33]⟩, ⟨.t 35, none, (.bin .geq), [.t 32, .t 34]⟩, ⟨.t 31, none, .mv, [.t 35]⟩])
 (.cond (.t 31) (.seq (.reg [⟨.l 4, none, .mv, [.c (.i .i64 (-1))]⟩])
 .ret) (.seq (.reg [⟨.t 37, none, .mv, [.l 5]⟩, ⟨.t 38, none, (.ld none), [.c (.p (some (2, 0)))]⟩, ⟨.t 39, none, (.bin .leq), [.t 37, .t 38]⟩, ⟨.t 40, none, .mv, [.t 39]⟩, ⟨.t 41, (some (.t 40, true)), .mv, [.l 0]⟩, ⟨.t 42, (some (.t 40, true)), .lenS, [.t 41]⟩, ⟨.t 43, (some (.t 40, true)), (.bin .leq), [.t 42, .c (.i .i64 64)]⟩, ⟨.t 44, none, .pick, [.t 40, .t 43, .c (.b false)]⟩, ⟨.t 36, none, .mv, [.t 44]⟩])
 (.cond (.t 36) (.seq (.reg [⟨.t 45, none, .mv, [.l 0]⟩, ⟨.t 46, none, .mv, [.l 1]⟩, ⟨.t 47, none, (.call 51), [.t 45, .t 46]⟩, ⟨.l 4, none, .mv, [.t 47]⟩])
 .ret) .skip)))))))))
 (.seq (.reg [⟨.t 48, none, .mv, [.l 1]⟩, ⟨.t 49, none, .ixS, [.t 48, .c (.i .i64 0)]⟩, ⟨.l 6, none, .mv, [.t 49]⟩])
 (.seq (.reg [⟨.t 50, none, .mv, [.l 1]⟩, ⟨.t 51, none, .ixS, [.t 50, .c (.i .i64 1)]⟩, ⟨.l 7, none, .mv, [.t 51]⟩])
 (.seq (.reg [⟨.l 8, none, .mv, [.c (.i .i64 0)]⟩])
 (.seq (.reg [⟨.t 52, none, .mv, [.l 0]⟩, ⟨.t 53, none, .lenS, [.t 52]⟩, ⟨.t 54, none, .mv, [.l 5]⟩, ⟨.t 55, none, (.bin .sub), [.t 53, .t 54]⟩, ⟨.t 56, none, (.bin .add), [.t 55, .c (.i .i64 1)]⟩, ⟨.l 9, none, .mv, [.t 56]⟩])
 (.seq (.reg [⟨.l 10, none, .mv, [.c (.i .i64 0)]⟩])
 (.seq (.block 1 (.loop (.seq (.seq (.reg [⟨.t 57, none, .mv, [.l 8]⟩, ⟨.t 58, none, .mv, [.l 9]⟩, ⟨.t 59, none, (.bin .lss), [.t 57, .t 58]⟩])
 (.cond (.t 59) .skip (.exit 1)))
 (.block 2 (.seq (.seq (.reg [⟨.t 60, none, .mv, [.l 0]⟩, ⟨.t 61, none, .mv, [.l 8]⟩, ⟨.t 62, none, .ixS, [.t 60, .t 61]⟩, ⟨.t 63, none, .mv, [.l 6]⟩, ⟨.t 64, none, (.bin .neq), [.t 62, .t 63]⟩])
 (.cond (.t 64) (.seq (.reg [⟨.t 65, none, .mv, [.l 0]⟩, ⟨.t 66, none, .mv, [.l 8]⟩, ⟨.t 67, none, (.bin .add), [.t 66, .c (.i .i64 1)]⟩, ⟨.t 68, none, .mv, [.l 9]⟩, ⟨.t 69, none, (.slcS true true), [.t 65, .t 67, .t 68]⟩, ⟨.t 70, none, .mv, [.l 6]⟩, ⟨.t 71, none, (.call 50), [.t 69, .t 70]⟩, ⟨.l 11, none, .mv, [.t 71]⟩])
 (.seq (.seq (.reg [⟨.t 72, none, .mv, [.l 11]⟩, ⟨.t 73, none, (.bin .lss), [.t 72, .c (.i .i64 0)]⟩])
 (.cond (.t 73) (.seq (.reg [⟨.l 4, none, .mv, [.c (.i .i64 (-1))]⟩])
 .ret) .skip))
 (.reg [⟨.t 74, none, .mv, [.l 8]⟩, ⟨.t 75, none, .mv, [.l 11]⟩, ⟨.t 76, none, (.bin .add), [.t 75, .c (.i .i64 1)]⟩, ⟨.t 77, none, (.bin .add), [.t 74, .t 76]⟩, ⟨.l 8, none, .mv, [.t 77]⟩]))) .skip))
 (.seq (.seq (.reg [⟨.t 78, none, .mv, [.l 0]⟩, ⟨.t 79, none, .mv, [.l 8]⟩, ⟨.t 80, none, (.bin .add), [.t 79, .c (.i .i64 1)]⟩, ⟨.t 81, none, .ixS, [.t 78, .t 80]⟩, ⟨.t 82, none, .mv, [.l 7]⟩, ⟨.t 83, none, (.bin .eql), [.t 81, .t 82]⟩, ⟨.t 84, none, .mv, [.t 83]⟩, ⟨.t 85, (some (.t 84, true)), .mv, [.l 0]⟩, ⟨.t 86, (some (.t 84, true)), .mv, [.l 8]⟩, ⟨.t 87, (some (.t 84, true)), .mv, [.l 8]⟩, ⟨.t 88, (some (.t 84, true)), .mv, [.l 5]⟩, ⟨.t 89, (some (.t 84, true)), (.bin .add), [.t 87, .t 88]⟩, ⟨.t 90, (some (.t 84, true)), (.slcS true true), [.t 85, .t 86, .t 89]⟩, ⟨.t 91, (some (.t 84, true)), .mv, [.l 1]⟩, ⟨.t 92, (some (.t 84, true)), (.sbin .eql), [.t 90, .t 91]⟩, ⟨.t 93, none, .pick, [.t 84, .t 92, .c (.b false)]⟩])
 (.cond (.t 93) (.seq (.reg [⟨.t 94, none, .mv, [.l 8]⟩, ⟨.l 4, none, .mv, [.t 94]⟩])
 .ret) .skip))
 (.seq (.reg [⟨.t 95, none, .mv, [.l 8]⟩, ⟨.t 96, none, (.bin .add), [.t 95, .c (.i .i64 1)]⟩, ⟨.l 8, none, .mv, [.t 96]⟩])
 (.seq (.reg [⟨.t 97, none, .mv, [.l 10]⟩, ⟨.t 98, none, (.bin .add), [.t 97, .c (.i .i64 1)]⟩, ⟨.l 10, none, .mv, [.t 98]⟩])
 (.seq (.reg [⟨.t 99, none, .mv, [.l 5]⟩, ⟨.t 100, none, (.ld none), [.c (.p (some (2, 0)))]⟩, ⟨.t 101, none, (.bin .leq), [.t 99, .t 100]⟩, ⟨.t 102, none, .mv, [.t 101]⟩, ⟨.t 103, (some (.t 102, true)), .mv, [.l 10]⟩, ⟨.t 104, (some (.t 102, true)), .mv, [.l 8]⟩, ⟨.t 105, (some (.t 102, true)), (.call 52), [.t 104]⟩, ⟨.t 106, (some (.t 102, true)), (.bin .gtr), [.t 103, .t 105]⟩, ⟨.t 107, none, .pick, [.t 102, .t 106, .c (.b false)]⟩])
 (.cond (.t 107) (.seq (.reg [⟨.t 108, none, .mv, [.l 0]⟩, ⟨.t 109, none, .mv, [.l 8]⟩, ⟨.t 110, none, (.slcS true false), [.t 108, .t 109]⟩, ⟨.t 111, none, .mv, [.l 1]⟩, ⟨.t 112, none, (.call 51), [.t 110, .t 111]⟩, ⟨.l 12, none, .mv, [.t 112]⟩])
 (.seq (.seq (.reg [⟨.t 113, none, .mv, [.l 12]⟩, ⟨.t 114, none, (.bin .geq), [.t 113, .c (.i .i64 0)]⟩])
 (.cond (.t 114) (.seq (.reg [⟨.t 115, none, .mv, [.l 12]⟩, ⟨.t 116, none, .mv, [.l 8]⟩, ⟨.t 117, none, (.bin .add), [.t 115, .t 116]⟩, ⟨.l 4, none, .mv, [.t 117]⟩])
 .ret) .skip))
 (.seq (.reg [⟨.l 4, none, .mv, [.c (.i .i64 (-1))]⟩])
 .ret))) (.seq (.reg [⟨.t 118, none, .mv, [.l 5]⟩, ⟨.t 119, none, (.ld none), [.c (.p (some (2, 0)))]⟩, ⟨.t 120, none, (.bin .gtr), [.t 118, .t 119]⟩, ⟨.t 121, none, .mv, [.t 120]⟩, ⟨.t 122, (some (.t 121, true)), .mv, [.l 10]⟩, ⟨.t 123, (some (.t 121, true)), .mv, [.l 8]⟩, ⟨.t 124, (some (.t 121, true)), (.bin .shr), [.t 123, .c (.i .u64 4)]⟩, ⟨.t 125, (some (.t 121, true)), (.bin .add), [.c (.i .i64 4), .t 124]⟩, ⟨.t 126, (some (.t 121, true)), (.bin .geq), [.t 122, .t 125]⟩, ⟨.t 127, none, .pick, [.t 121, .t 126, .c (.b false)]⟩, ⟨.t 128, none, .mv, [.t 127]⟩, ⟨.t 129, (some (.t 128, true)), .mv, [.l 8]⟩, ⟨.t 130, (some (.t 128, true)), .mv, [.l 9]⟩, ⟨.t 131, (some (.t 128, true)), (.bin .lss), [.t 129, .t 130]⟩, ⟨.t 132, none, .pick, [.t 128, .t 131, .c (.b false)]⟩])
 (.cond (.t 132) (.seq (.reg [⟨.t 133, none, .mv, [.l 0]⟩, ⟨.t 134, none, .mv, [.l 8]⟩, ⟨.t 135, none, (.slcS true false), [.t 133, .t 134]⟩, ⟨.t 136, none, .mv, [.l 1]⟩, ⟨.t 137, none, (.call 53), [.t 135, .t 136]⟩, ⟨.l 13, none, .mv, [.t 137]⟩])
 (.seq (.seq (.reg [⟨.t 138, none, .mv, [.l 13]⟩, ⟨.t 139, none, (.bin .lss), [.t 138, .c (.i .i64 0)]⟩])
 (.cond (.t 139) (.seq (.reg [⟨.l 4, none, .mv, [.c (.i .i64 (-1))]⟩])
 .ret) .skip))
 (.seq (.reg [⟨.t 140, none, .mv, [.l 8]⟩, ⟨.t 141, none, .mv, [.l 13]⟩, ⟨.t 142, none, (.bin .add), [.t 140, .t 141]⟩, ⟨.l 4, none, .mv, [.t 142]⟩])
 .ret))) .skip))))))))))))
 (.seq (.reg [⟨.l 4, none, .mv, [.c (.i .i64 (-1))]⟩])
 .ret)))))))))), [.tmp (.l 4)]⟩
theorem c39 : compFn Tryd.prog b39 Tryd.f39 = some a39 := by kernel_rfl
/-- strings.genSplit -/
def b40 : Nat := 3855
def a40 : AFn := ⟨(.seq (.reg [⟨.l 8, none, .mv, [.c (.sl none 0 0 0)]⟩])
 (.seq (.seq (.reg [⟨.t 12, none, .mv, [.l 3]⟩, ⟨.t 13, none, (.bin .eql), [.t 12, .c (.i .i64 0)]⟩])
 (.cond (.t 13) (.seq (.reg [⟨.l 8, none, .mv, [.c (.sl none 0 0 0)]⟩])
 .ret) .skip))
 (.seq (.seq (.reg [⟨.t 14, none, .mv, [.l 1]⟩, ⟨.t 15, none, (.sbin .eql), [.t 14, .c (.s [])]⟩])
 (.cond (.t 15) (.seq (.reg [⟨.t 16, none, .mv, [.l 0]⟩, ⟨.t 17, none, .mv, [.l 3]⟩, ⟨.t 18, none, (.call 54), [.t 16, .t 17]⟩, ⟨.l 8, none, .mv, [.t 18]⟩])
 .ret) .skip))
 (.seq (.seq (.reg [⟨.t 19, none, .mv, [.l 3]⟩, ⟨.t 20, none, (.bin .lss), [.t 19, .c (.i .i64 0)]⟩])
 (.cond (.t 20) (.reg [⟨.t 21, none, .mv, [.l 0]⟩, ⟨.t 22, none, .mv, [.l 1]⟩, ⟨.t 23, none, (.call 55), [.t 21, .t 22]⟩, ⟨.t 24, none, (.bin .add), [.t 23, .c (.i .i64 1)]⟩, ⟨.l 3, none, .mv, [.t 24]⟩]) .skip))
 (.seq (.reg [⟨.t 25, none, .mv, [.l 3]⟩, ⟨.t 26, none, .mv, [.l 0]⟩, ⟨.t 27, none, .lenS, [.t 26]⟩, ⟨.t 28, none, (.bin .add), [.t 27, .c (.i .i64 1)]⟩, ⟨.t 29, none, .min, [.t 25, .t 28]⟩, ⟨.l 3, none, .mv, [.t 29]⟩])
 (.seq (.reg [⟨.t 30, none, .mv, [.l 3]⟩, ⟨.t 31, none, (.mksl [(.s [])] 16), [.t 30, .t 30]⟩, ⟨.l 9, none, .mv, [.t 31]⟩])
 (.seq (.reg [⟨.t 32, none, .mv, [.l 3]⟩, ⟨.t 33, none, (.bin .sub), [.t 32, .c (.i .i64 1)]⟩, ⟨.l 3, none, .mv, [.t 33]⟩])
 (.seq (.reg [⟨.l 10, none, .mv, [.c (.i .i64 0)]⟩])
 (.seq (.block 0 (.loop (.seq (.seq (.reg [⟨.t 34, none, .mv, [.l 10]⟩, ⟨.t 35, none, .mv, [.l 3]⟩, ⟨.t 36, none, (.bin .lss), [.t 34, .t 35]⟩])
 (.cond (.t 36) .skip (.exit 0)))
 (.block 1 (.seq (.reg [⟨.t 37, none, .mv, [.l 0]⟩, ⟨.t 38, none, .mv, [.l 1]⟩, ⟨.t 39, none, (.call 56), [.t 37, .t 38]⟩, ⟨.l 11, none, .mv, [.t 39]⟩])
 (.seq (.seq (.reg [⟨.t 40, none, .mv, [.l 11]⟩, ⟨.t 41, none, (.bin .lss), [.t 40, .c (.i .i64 0)]⟩])
 (.cond (.t 41) (.exit 0) .skip))
 (.seq (.reg [⟨.t 42, none, .mv, [.l 9]⟩, ⟨.t 43, none, .mv, [.l 10]⟩, ⟨.t 44, none, .mv, [.l 0]⟩, ⟨.t 45, none, .mv, [.l 11]⟩, ⟨.t 46, none, .mv, [.l 2]⟩, ⟨.t 47, none, (.bin .add), [.t 45, .t 46]⟩, ⟨.t 48, none, (.slcS false true), [.t 44, .t 47]⟩, ⟨.t 49, none, (.iad 1), [.t 42, .t 43]⟩, ⟨.no, none, (.st 1), [.t 49, .t 48]⟩])
 (.seq (.reg [⟨.t 50, none, .mv, [.l 0]⟩, ⟨.t 51, none, .mv, [.l 11]⟩, ⟨.t 52, none, .mv, [.l 1]⟩, ⟨.t 53, none, .lenS, [.t 52]⟩, ⟨.t 54, none, (.bin .add), [.t 51, .t 53]⟩, ⟨.t 55, none, (.slcS true false), [.t 50, .t 54]⟩, ⟨.l 0, none, .mv, [.t 55]⟩])
 (.reg [⟨.t 56, none, .mv, [.l 10]⟩, ⟨.t 57, none, (.bin .add), [.t 56, .c (.i .i64 1)]⟩, ⟨.l 10, none, .mv, [.t 57]⟩])))))))))
 (.seq (.reg [⟨.t 58, none, .mv, [.l 9]⟩, ⟨.t 59, none, .mv, [.l 10]⟩, ⟨.t 60, none, .mv, [.l 0]⟩, ⟨.t 61, none, (.iad 1), [.t 58, .t 59]⟩, ⟨.no, none, (.st 1), [.t 61, .t 60]⟩])
 (.seq (.reg [⟨.t 62, none, .mv, [.l 9]⟩, ⟨.t 63, none, .mv, [.l 10]⟩, ⟨.t 64, none, (.bin .add), [.t 63, .c (.i .i64 1)]⟩, ⟨.t 65, none, (.slc 1 false true false), [.t 62, .t 64]⟩, ⟨.l 8, none, .mv, [.t 65]⟩])
 .ret))))))))))), [.tmp (.l 8)]⟩
theorem c40 : compFn Tryd.prog b40 Tryd.f40 = some a40 := by kernel_rfl
/-- slices.Index[[]string,string] -/
def b41 : Nat := 435
theorem c41 : compFn Tryd.prog b41 Tryd.f41 = some (c_slices_Index_stringstring Nn) := by kernel_rfl
/-- strconv.toError -/
def b43 : Nat := 3103
def a43 : AFn := ⟨(.seq (.reg [⟨.l 10, none, .mv, [.c .nili]⟩])
 (.seq (.seq (.reg [⟨.l 11, none, .mv, [.l 4]⟩])
 (.block 0 (.seq (.reg [⟨.t 13, none, (.mkif 89), [.c (.i .i64 2)]⟩, ⟨.t 14, none, (.eq false .ifc), [.l 11, .t 13]⟩, ⟨.t 12, none, .mv, [.t 14]⟩])
 (.cond (.t 12) (.seq (.reg [⟨.t 15, none, .mv, [.l 0]⟩, ⟨.t 16, none, .mv, [.l 1]⟩, ⟨.t 17, none, (.call 58), [.t 15, .t 16]⟩, ⟨.t 18, none, (.mkif 92), [.t 17]⟩, ⟨.l 10, none, .mv, [.t 18]⟩])
 .ret) (.seq (.reg [⟨.t 20, none, (.mkif 89), [.c (.i .i64 1)]⟩, ⟨.t 21, none, (.eq false .ifc), [.l 11, .t 20]⟩, ⟨.t 19, none, .mv, [.t 21]⟩])
 (.cond (.t 19) (.seq (.reg [⟨.t 22, none, .mv, [.l 0]⟩, ⟨.t 23, none, .mv, [.l 1]⟩, ⟨.t 24, none, (.call 59), [.t 22, .t 23]⟩, ⟨.t 25, none, (.mkif 92), [.t 24]⟩, ⟨.l 10, none, .mv, [.t 25]⟩])
 .ret) (.seq (.reg [⟨.t 27, none, (.mkif 89), [.c (.i .i64 3)]⟩, ⟨.t 28, none, (.eq false .ifc), [.l 11, .t 27]⟩, ⟨.t 26, none, .mv, [.t 28]⟩])
 (.cond (.t 26) (.seq (.reg [⟨.t 29, none, .mv, [.l 0]⟩, ⟨.t 30, none, .mv, [.l 1]⟩, ⟨.t 31, none, .mv, [.l 2]⟩, ⟨.t 32, none, (.call 60), [.t 29, .t 30, .t 31]⟩, ⟨.t 33, none, (.mkif 92), [.t 32]⟩, ⟨.l 10, none, .mv, [.t 33]⟩])
 .ret) (.seq (.reg [⟨.t 35, none, (.mkif 89), [.c (.i .i64 4)]⟩, ⟨.t 36, none, (.eq false .ifc), [.l 11, .t 35]⟩, ⟨.t 34, none, .mv, [.t 36]⟩])
 (.cond (.t 34) (.seq (.reg [⟨.t 37, none, .mv, [.l 0]⟩, ⟨.t 38, none, .mv, [.l 1]⟩, ⟨.t 39, none, .mv, [.l 3]⟩, ⟨.t 40, none, (.call 61), [.t 37, .t 38, .t 39]⟩, ⟨.t 41, none, (.mkif 92), [.t 40]⟩, ⟨.l 10, none, .mv, [.t 41]⟩])
 .ret) .skip))))))))))
 (.seq (.reg [⟨.t 42, none, .mv, [.l 4]⟩, ⟨.l 10, none, .mv, [.t 42]⟩])
 .ret))), [.tmp (.l 10)]⟩
theorem c43 : compFn Tryd.prog b43 Tryd.f43 = some a43 := by kernel_rfl
/-- unicode.isExcludingLatin -/
def b48 : Nat := 243
def a48 : AFn := ⟨(.seq (.reg [⟨.l 4, none, .mv, [.c (.b false)]⟩])
 (.seq (.reg [⟨.t 8, none, .mv, [.l 0]⟩, ⟨.t 9, none, .nilchk, [.t 8]⟩, ⟨.t 10, none, (.fad 0), [.t 9]⟩, ⟨.t 11, none, (.ld none), [.t 10]⟩, ⟨.l 5, none, .mv, [.t 11]⟩])
 (.seq (.seq (.reg [⟨.t 12, none, .mv, [.l 0]⟩, ⟨.t 13, none, .nilchk, [.t 12]⟩, ⟨.t 14, none, (.fad 2), [.t 13]⟩, ⟨.t 15, none, (.ld none), [.t 14]⟩, ⟨.l 6, none, .mv, [.t 15]⟩])
 (.seq (.reg [⟨.t 16, none, .mv, [.l 5]⟩, ⟨.t 17, none, .lenSl, [.t 16]⟩, ⟨.t 18, none, .mv, [.l 6]⟩, ⟨.t 19, none, (.bin .gtr), [.t 17, .t 18]⟩, ⟨.t 20, none, .mv, [.t 19]⟩, ⟨.t 21, (some (.t 20, true)), .mv, [.l 1]⟩, ⟨.t 22, (some (.t 20, true)), (.cvtI .u32), [.t 21]⟩, ⟨.t 23, (some (.t 20, true)), .mv, [.l 5]⟩, ⟨.t 24, (some (.t 20, true)), .mv, [.l 5]⟩, ⟨.t 25, (some (.t 20, true)), .lenSl, [.t 24]⟩, ⟨.t 26, (some (.t 20, true)), (.bin .sub), [.t 25, .c (.i .i64 1)]⟩, ⟨.t 27, (some (.t 20, true)), (.iad 3), [.t 23, .t 26]⟩, ⟨.t 28, (some (.t 20, true)), (.fad 1), [.t 27]⟩, ⟨.t 29, (some (.t 20, true)), (.ld none), [.t 28]⟩, ⟨.t 30, (some (.t 20, true)), (.cvtI .u32), [.t 29]⟩, ⟨.t 31, (some (.t 20, true)), (.bin .leq), [.t 22, .t 30]⟩, ⟨.t 32, none, .pick, [.t 20, .t 31, .c (.b false)]⟩])
 (.cond (.t 32) (.seq (.reg [⟨.t 33, none, .mv, [.l 5]⟩, ⟨.t 34, none, .mv, [.l 6]⟩, ⟨.t 35, none, (.slc 3 true false false), [.t 33, .t 34]⟩, ⟨.t 36, none, .mv, [.l 1]⟩, ⟨.t 37, none, (.cvtI .u16), [.t 36]⟩, ⟨.t 38, none, (.call 67), [.t 35, .t 37]⟩, ⟨.l 4, none, .mv, [.t 38]⟩])
 .ret) .skip)))
 (.seq (.reg [⟨.t 39, none, .mv, [.l 0]⟩, ⟨.t 40, none, .nilchk, [.t 39]⟩, ⟨.t 41, none, (.fad 1), [.t 40]⟩, ⟨.t 42, none, (.ld none), [.t 41]⟩, ⟨.l 7, none, .mv, [.t 42]⟩])
 (.seq (.seq (.reg [⟨.t 43, none, .mv, [.l 7]⟩, ⟨.t 44, none, .lenSl, [.t 43]⟩, ⟨.t 45, none, (.bin .gtr), [.t 44, .c (.i .i64 0)]⟩, ⟨.t 46, none, .mv, [.t 45]⟩, ⟨.t 47, (some (.t 46, true)), .mv, [.l 1]⟩, ⟨.t 48, (some (.t 46, true)), .mv, [.l 7]⟩, ⟨.t 49, (some (.t 46, true)), (.iad 3), [.t 48, .c (.i .i64 0)]⟩, ⟨.t 50, (some (.t 46, true)), (.fad 0), [.t 49]⟩, ⟨.t 51, (some (.t 46, true)), (.ld none), [.t 50]⟩, ⟨.t 52, (some (.t 46, true)), (.cvtI .i32), [.t 51]⟩, ⟨.t 53, (some (.t 46, true)), (.bin .geq), [.t 47, .t 52]⟩, ⟨.t 54, none, .pick, [.t 46, .t 53, .c (.b false)]⟩])
 (.cond (.t 54) (.seq (.reg [⟨.t 55, none, .mv, [.l 7]⟩, ⟨.t 56, none, .mv, [.l 1]⟩, ⟨.t 57, none, (.cvtI .u32), [.t 56]⟩, ⟨.t 58, none, (.call 68), [.t 55, .t 57]⟩, ⟨.l 4, none, .mv, [.t 58]⟩])
 .ret) .skip))
 (.seq (.reg [⟨.l 4, none, .mv, [.c (.b false)]⟩])
 .ret)))))), [.tmp (.l 4)]⟩
theorem c48 : compFn Tryd.prog b48 Tryd.f48 = some a48 := by kernel_rfl
/-- internal/stringslite.IndexByte -/
def b50 : Nat := 19
def a50 : AFn := ⟨(.seq (.reg [⟨.l 4, none, .mv, [.c (.i .i64 0)]⟩])
 (.seq (.reg [⟨.t 5, none, .mv, [.l 0]⟩, ⟨.t 6, none, .mv, [.l 1]⟩, ⟨.t 7, none, (.call 69), [.t 5, .t 6]⟩, ⟨.l 4, none, .mv, [.t 7]⟩])
 .ret)), [.tmp (.l 4)]⟩
theorem c50 : compFn Tryd.prog b50 Tryd.f50 = some a50 := by kernel_rfl
/-- internal/bytealg.Cutover -/
def b52 : Nat := 5
def a52 : AFn := ⟨(.seq (.reg [⟨.l 2, none, .mv, [.c (.i .i64 0)]⟩])
 (.seq (.reg [⟨.t 3, none, .mv, [.l 0]⟩, ⟨.t 4, none, (.bin .add), [.t 3, .c (.i .i64 16)]⟩, ⟨.t 5, none, (.bin .quo), [.t 4, .c (.i .i64 8)]⟩, ⟨.l 2, none, .mv, [.t 5]⟩])
 .ret)), [.tmp (.l 2)]⟩
theorem c52 : compFn Tryd.prog b52 Tryd.f52 = some a52 := by kernel_rfl
/-- internal/bytealg.IndexRabinKarp[string] -/
def b53 : Nat := 2035
def a53 : AFn := ⟨(.seq (.reg [⟨.l 4, none, .mv, [.c (.i .i64 0)]⟩])
 (.seq (.reg [⟨.t 12, none, .mv, [.l 1]⟩, ⟨.t 13, none, (.call 70), [.t 12]⟩, ⟨.t 11, none, .mv, [.t 13]⟩, ⟨.t 14, none, (.ext 0), [.t 11]⟩, ⟨.t 15, none, (.ext 1), [.t 11]⟩, ⟨.l 5, none, .mv, [.t 14]⟩, ⟨.l 6, none, .mv, [.t 15]⟩])
 (.seq (.reg [⟨.t 16, none, .mv, [.l 1]⟩, ⟨.t 17, none, .lenS, [.t 16]⟩, ⟨.l 7, none, .mv, [.t 17]⟩])
 (.seq (.reg [⟨.l 8, none, .mv, [.c (.i .u32 0)]⟩])
 (.seq (.seq (.reg [⟨.l 9, none, .mv, [.c (.i .i64 0)]⟩])
 (.block 0 (.loop (.seq (.seq (.reg [⟨.t 18, none, .mv, [.l 9]⟩, ⟨.t 19, none, .mv, [.l 7]⟩, ⟨.t 20, none, (.bin .lss), [.t 18, .t 19]⟩])
 (.cond (.t 20) .skip (.exit 0)))
 (.seq (.block 1 (.reg [⟨.t 23, none, .mv, [.l 8]⟩, ⟨.t 24, none, (.bin .mul), [.t 23, .c (.i .u32 16777619)]⟩, ⟨.t 25, none, .mv, [.l 0]⟩, ⟨.t 26, none, .mv, [.l 9]⟩, ⟨.t 27, none, .ixS, [.t 25, .t 26]⟩, ⟨.t 28, none, (.cvtI .u32), [.t 27]⟩, ⟨.t 29, none, (.bin .add), [.t 24, .t 28]⟩, ⟨.l 8, none, .mv, [.t 29]⟩]))
 (.reg [⟨.t 21, none, .mv, [.l 9]⟩, ⟨.t 22, none, (.bin .add), [.t 21, .c (.i .i64 1)]⟩, ⟨.l 9, none, .mv, [.t 22]⟩]))))))
 (.seq (.seq (.reg [⟨.t 30, none, .mv, [.l 8]⟩, ⟨.t 31, none, .mv, [.l 5]⟩, ⟨.t 32, none, (.bin .eql), [.t 30, .t 31]⟩, ⟨.t 33, none, .mv, [.t 32]⟩, ⟨.t 34, (some (.t 33, true)), .mv, [.l 0]⟩, ⟨.t 35, (some (.t 33, true)), .mv, [.l 7]⟩, ⟨.t 36, (some (.t 33, true)), (.slcS false true), [.t 34, .t 35]⟩, ⟨.t 37, (some (.t 33, true)), .mv, [.l 1]⟩, ⟨.t 38, (some (.t 33, true)), (.sbin .eql), [.t 36, .t 37]⟩, ⟨.t 39, none, .pick, [.t 33, .t 38, .c (.b false)]⟩])
 (.cond (.t 39) (.seq (.reg [⟨.l 4, none, .mv, [.c (.i .i64 0)]⟩])
 .ret) .skip))
 (.seq (.seq (.reg [⟨.t 40, none, .mv, [.l 7]⟩, ⟨.l 10, none, .mv, [.t 40]⟩])
 (.block 2 (.loop (.seq (.seq (.reg [⟨.t 41, none, .mv, [.l 10]⟩, ⟨.t 42, none, .mv, [.l 0]⟩, ⟨.t 43, none, .lenS, [.t 42]⟩, ⟨.t 44, none, (.bin .lss), [.t 41, .t 43]⟩])
 (.cond (.t 44) .skip (.exit 2)))
 (.block 3 (.seq (.reg [⟨.t 45, none, .mv, [.l 8]⟩, ⟨.t 46, none, (.bin .mul), [.t 45, .c (.i .u32 16777619)]⟩, ⟨.l 8, none, .mv, [.t 46]⟩])
 (.seq (.reg [⟨.t 47, none, .mv, [.l 8]⟩, ⟨.t 48, none, .mv, [.l 0]⟩, ⟨.t 49, none, .mv, [.l 10]⟩, ⟨.t 50, none, .ixS, [.t 48, .t 49]⟩, ⟨.t 51, none, (.cvtI .u32), [.t 50]⟩, ⟨.t 52, none, (.bin .add), [.t 47, .t 51]⟩, ⟨.l 8, none, .mv, [.t 52]⟩])
 (.seq (.reg [⟨.t 53, none, .mv, [.l 8]⟩, ⟨.t 54, none, .mv, [.l 6]⟩, ⟨.t 55, none, .mv, [.l 0]⟩, ⟨.t 56, none, .mv, [.l 10]⟩, ⟨.t 57, none, .mv, [.l 7]⟩, ⟨.t 58, none, (.bin .sub), [.t 56, .t 57]⟩, ⟨.t 59, none, .ixS, [.t 55, .t 58]⟩, ⟨.t 60, none, (.cvtI .u32), [.t 59]⟩, ⟨.t 61, none, (.bin .mul), [.t 54, .t 60]⟩, ⟨.t 62, none, (.bin .sub), [.t 53, .t 61]⟩, ⟨.l 8, none, .mv, [.t 62]⟩])
 (.seq (.reg [⟨.t 63, none, .mv, [.l 10]⟩, ⟨.t 64, none, (.bin .add), [.t 63, .c (.i .i64 1)]⟩, ⟨.l 10, none, .mv, [.t 64]⟩])
 (.seq (.reg [⟨.t 65, none, .mv, [.l 8]⟩, ⟨.t 66, none, .mv, [.l 5]⟩, ⟨.t 67, none, (.bin .eql), [.t 65, .t 66]⟩, ⟨.t 68, none, .mv, [.t 67]⟩, ⟨.t 69, (some (.t 68, true)), .mv, [.l 0]⟩, ⟨.t 70, (some (.t 68, true)), .mv, [.l 10]⟩, ⟨.t 71, (some (.t 68, true)), .mv, [.l 7]⟩, ⟨.t 72, (some (.t 68, true)), (.bin .sub), [.t 70, .t 71]⟩, ⟨.t 73, (some (.t 68, true)), .mv, [.l 10]⟩, ⟨.t 74, (some (.t 68, true)), (.slcS true true), [.t 69, .t 72, .t 73]⟩, ⟨.t 75, (some (.t 68, true)), .mv, [.l 1]⟩, ⟨.t 76, (some (.t 68, true)), (.sbin .eql), [.t 74, .t 75]⟩, ⟨.t 77, none, .pick, [.t 68, .t 76, .c (.b false)]⟩])
 (.cond (.t 77) (.seq (.reg [⟨.t 78, none, .mv, [.l 10]⟩, ⟨.t 79, none, .mv, [.l 7]⟩, ⟨.t 80, none, (.bin .sub), [.t 78, .t 79]⟩, ⟨.l 4, none, .mv, [.t 80]⟩])
 .ret) .skip)))))))))))
 (.seq (.reg [⟨.l 4, none, .mv, [.c (.i .i64 (-1))]⟩])
 .ret)))))))), [.tmp (.l 4)]⟩
theorem c53 : compFn Tryd.prog b53 Tryd.f53 = some a53 := by kernel_rfl
/-- strings.explode -/
def b54 : Nat := 755
def a54 : AFn := ⟨(.seq (.reg [⟨.l 4, none, .mv, [.c (.sl none 0 0 0)]⟩])
 (.seq (.reg [⟨.t 10, none, .mv, [.l 0]⟩, ⟨.t 11, none, (.call 71), [.t 10]⟩, ⟨.l 5, none, .mv, [.t 11]⟩])
 (.seq (.seq (.reg [⟨.t 12, none, .mv, [.l 1]⟩, ⟨.t 13, none, (.bin .lss), [.t 12, .c (.i .i64 0)]⟩, ⟨.t 14, none, .mv, [.t 13]⟩, ⟨.t 15, (some (.t 14, false)), .mv, [.l 1]⟩, ⟨.t 16, (some (.t 14, false)), .mv, [.l 5]⟩, ⟨.t 17, (some (.t 14, false)), (.bin .gtr), [.t 15, .t 16]⟩, ⟨.t 18, none, .pick, [.t 14, .c (.b true), .t 17]⟩])
 (.cond (.t 18) (.reg [⟨.t 19, none, .mv, [.l 5]⟩, ⟨.l 1, none, .mv, [.t 19]⟩]) .skip))
 (.seq (.reg [⟨.t 20, none, .mv, [.l 1]⟩, ⟨.t 21, none, (.mksl [(.s [])] 16), [.t 20, .t 20]⟩, ⟨.l 6, none, .mv, [.t 21]⟩])
 (.seq (.seq (.reg [⟨.l 7, none, .mv, [.c (.i .i64 0)]⟩])
 (.block 0 (.loop (.seq (.seq (.reg [⟨.t 22, none, .mv, [.l 7]⟩, ⟨.t 23, none, .mv, [.l 1]⟩, ⟨.t 24, none, (.bin .sub), [.t 23, .c (.i .i64 1)]⟩, ⟨.t 25, none, (.bin .lss), [.t 22, .t 24]⟩])
 (.cond (.t 25) .skip (.exit 0)))
 (.seq (.block 1 (.seq (.reg [⟨.t 29, none, .mv, [.l 0]⟩, ⟨.t 30, none, (.call 72), [.t 29]⟩, ⟨.t 28, none, .mv, [.t 30]⟩, ⟨.t 31, none, (.ext 0), [.t 28]⟩, ⟨.t 32, none, (.ext 1), [.t 28]⟩, ⟨.t 8, none, .mv, [.t 31]⟩, ⟨.l 9, none, .mv, [.t 32]⟩])
 (.seq (.reg [⟨.t 33, none, .mv, [.l 6]⟩, ⟨.t 34, none, .mv, [.l 7]⟩, ⟨.t 35, none, .mv, [.l 0]⟩, ⟨.t 36, none, .mv, [.l 9]⟩, ⟨.t 37, none, (.slcS false true), [.t 35, .t 36]⟩, ⟨.t 38, none, (.iad 1), [.t 33, .t 34]⟩, ⟨.no, none, (.st 1), [.t 38, .t 37]⟩])
 (.reg [⟨.t 39, none, .mv, [.l 0]⟩, ⟨.t 40, none, .mv, [.l 9]⟩, ⟨.t 41, none, (.slcS true false), [.t 39, .t 40]⟩, ⟨.l 0, none, .mv, [.t 41]⟩]))))
 (.reg [⟨.t 26, none, .mv, [.l 7]⟩, ⟨.t 27, none, (.bin .add), [.t 26, .c (.i .i64 1)]⟩, ⟨.l 7, none, .mv, [.t 27]⟩]))))))
 (.seq (.seq (.reg [⟨.t 42, none, .mv, [.l 1]⟩, ⟨.t 43, none, (.bin .gtr), [.t 42, .c (.i .i64 0)]⟩])
 (.cond (.t 43) (.reg [⟨.t 44, none, .mv, [.l 6]⟩, ⟨.t 45, none, .mv, [.l 1]⟩, ⟨.t 46, none, (.bin .sub), [.t 45, .c (.i .i64 1)]⟩, ⟨.t 47, none, .mv, [.l 0]⟩, ⟨.t 48, none, (.iad 1), [.t 44, .t 46]⟩, ⟨.no, none, (.st 1), [.t 48, .t 47]⟩]) .skip))
 (.seq (.reg [⟨.t 49, none, .mv, [.l 6]⟩, ⟨.l 4, none, .mv, [.t 49]⟩])
 .ret))))))), [.tmp (.l 4)]⟩
theorem c54 : compFn Tryd.prog b54 Tryd.f54 = some a54 := by kernel_rfl
/-- strings.Count -/
def b55 : Nat := 115
def a55 : AFn := ⟨(.seq (.reg [⟨.l 4, none, .mv, [.c (.i .i64 0)]⟩])
 (.seq (.seq (.reg [⟨.t 7, none, .mv, [.l 1]⟩, ⟨.t 8, none, .lenS, [.t 7]⟩, ⟨.t 9, none, (.bin .eql), [.t 8, .c (.i .i64 0)]⟩])
 (.cond (.t 9) (.seq (.reg [⟨.t 10, none, .mv, [.l 0]⟩, ⟨.t 11, none, (.call 71), [.t 10]⟩, ⟨.t 12, none, (.bin .add), [.t 11, .c (.i .i64 1)]⟩, ⟨.l 4, none, .mv, [.t 12]⟩])
 .ret) .skip))
 (.seq (.seq (.reg [⟨.t 13, none, .mv, [.l 1]⟩, ⟨.t 14, none, .lenS, [.t 13]⟩, ⟨.t 15, none, (.bin .eql), [.t 14, .c (.i .i64 1)]⟩])
 (.cond (.t 15) (.seq (.reg [⟨.t 16, none, .mv, [.l 0]⟩, ⟨.t 17, none, .mv, [.l 1]⟩, ⟨.t 18, none, .ixS, [.t 17, .c (.i .i64 0)]⟩, ⟨.t 19, none, (.call 73), [.t 16, .t 18]⟩, ⟨.l 4, none, .mv, [.t 19]⟩])
 .ret) .skip))
 (.seq (.reg [⟨.l 5, none, .mv, [.c (.i .i64 0)]⟩])
 (.block 0 (.loop (.block 1 (.seq (.reg [⟨.t 20, none, .mv, [.l 0]⟩, ⟨.t 21, none, .mv, [.l 1]⟩, ⟨.t 22, none, (.call 56), [.t 20, .t 21]⟩, ⟨.l 6, none, .mv, [.t 22]⟩])
 (.seq (.seq (.reg [⟨.t 23, none, .mv, [.l 6]⟩, ⟨.t 24, none, (.bin .eql), [.t 23, .c (.i .i64 (-1))]⟩])
 (.cond (.t 24) (.seq (.reg [⟨.t 25, none, .mv, [.l 5]⟩, ⟨.l 4, none, .mv, [.t 25]⟩])
 .ret) .skip))
 (.seq (.reg [⟨.t 26, none, .mv, [.l 5]⟩, ⟨.t 27, none, (.bin .add), [.t 26, .c (.i .i64 1)]⟩, ⟨.l 5, none, .mv, [.t 27]⟩])
 (.reg [⟨.t 28, none, .mv, [.l 0]⟩, ⟨.t 29, none, .mv, [.l 6]⟩, ⟨.t 30, none, .mv, [.l 1]⟩, ⟨.t 31, none, .lenS, [.t 30]⟩, ⟨.t 32, none, (.bin .add), [.t 29, .t 31]⟩, ⟨.t 33, none, (.slcS true false), [.t 28, .t 32]⟩, ⟨.l 0, none, .mv, [.t 33]⟩]))))))))))), [.tmp (.l 4)]⟩
theorem c55 : compFn Tryd.prog b55 Tryd.f55 = some a55 := by kernel_rfl
/-- strings.Index -/
def b56 : Nat := 19
def a56 : AFn := ⟨(.seq (.reg [⟨.l 4, none, .mv, [.c (.i .i64 0)]⟩])
 (.seq (.reg [⟨.t 5, none, .mv, [.l 0]⟩, ⟨.t 6, none, .mv, [.l 1]⟩, ⟨.t 7, none, (.call 39), [.t 5, .t 6]⟩, ⟨.l 4, none, .mv, [.t 7]⟩])
 .ret)), [.tmp (.l 4)]⟩
theorem c56 : compFn Tryd.prog b56 Tryd.f56 = some a56 := by kernel_rfl
/-- strconv.syntaxError -/
def b58 : Nat := 19
def a58 : AFn := ⟨(.seq (.reg [⟨.l 4, none, .mv, [.c (.p none)]⟩])
 (.seq (.regD [⟨.t 5, none, .mv, [.l 0]⟩, ⟨.t 6, none, .mv, [.l 1]⟩, ⟨.t 7, none, (.call 75), [.t 6]⟩, ⟨.t 8, none, (.ld none), [.c (.p (some (4, 0)))]⟩, ⟨.t 9, none, (.build [(.s []), (.s []), .nili] [(0, 1), (1, 1), (2, 1)]), [.t 5, .t 7, .t 8]⟩, ⟨.t 10, none, .box, [.t 9]⟩, ⟨.l 4, none, .mv, [.t 10]⟩] [(3, 0)])
 .ret)), [.tmp (.l 4)]⟩
theorem c58 : compFn Tryd.prog b58 Tryd.f58 = some a58 := by kernel_rfl
/-- strconv.rangeError -/
def b59 : Nat := 19
def a59 : AFn := ⟨(.seq (.reg [⟨.l 4, none, .mv, [.c (.p none)]⟩])
 (.seq (.regD [⟨.t 5, none, .mv, [.l 0]⟩, ⟨.t 6, none, .mv, [.l 1]⟩, ⟨.t 7, none, (.call 75), [.t 6]⟩, ⟨.t 8, none, (.ld none), [.c (.p (some (5, 0)))]⟩, ⟨.t 9, none, (.build [(.s []), (.s []), .nili] [(0, 1), (1, 1), (2, 1)]), [.t 5, .t 7, .t 8]⟩, ⟨.t 10, none, .box, [.t 9]⟩, ⟨.l 4, none, .mv, [.t 10]⟩] [(3, 0)])
 .ret)), [.tmp (.l 4)]⟩
theorem c59 : compFn Tryd.prog b59 Tryd.f59 = some a59 := by kernel_rfl
/-- strconv.baseError -/
def b60 : Nat := 71
def a60 : AFn := ⟨(.seq (.reg [⟨.l 6, none, .mv, [.c (.p none)]⟩])
 (.seq (.reg [⟨.t 7, none, .mv, [.l 0]⟩, ⟨.t 8, none, .mv, [.l 1]⟩, ⟨.t 9, none, (.call 75), [.t 8]⟩, ⟨.t 10, none, .mv, [.l 2]⟩, ⟨.t 11, none, (.call 18), [.t 10]⟩, ⟨.t 12, none, (.sbin .add), [.c (.s [105, 110, 118, 97, 108, 105, 100, 32, 98, 97, 115, 101, 32]), .t 11]⟩, ⟨.t 13, none, (.call 76), [.t 12]⟩, ⟨.t 14, none, (.build [(.s []), (.s []), .nili] [(0, 1), (1, 1), (2, 1)]), [.t 7, .t 9, .t 13]⟩, ⟨.t 15, none, .box, [.t 14]⟩, ⟨.l 6, none, .mv, [.t 15]⟩])
 .ret)), [.tmp (.l 6)]⟩
theorem c60 : compFn Tryd.prog b60 Tryd.f60 = some a60 := by kernel_rfl
/-- strconv.bitSizeError -/
def b61 : Nat := 71
def a61 : AFn := ⟨(.seq (.reg [⟨.l 6, none, .mv, [.c (.p none)]⟩])
 (.seq (.reg [⟨.t 7, none, .mv, [.l 0]⟩, ⟨.t 8, none, .mv, [.l 1]⟩, ⟨.t 9, none, (.call 75), [.t 8]⟩, ⟨.t 10, none, .mv, [.l 2]⟩, ⟨.t 11, none, (.call 18), [.t 10]⟩, ⟨.t 12, none, (.sbin .add), [.c (.s [105, 110, 118, 97, 108, 105, 100, 32, 98, 105, 116, 32, 115, 105, 122, 101, 32]), .t 11]⟩, ⟨.t 13, none, (.call 76), [.t 12]⟩, ⟨.t 14, none, (.build [(.s []), (.s []), .nili] [(0, 1), (1, 1), (2, 1)]), [.t 7, .t 9, .t 13]⟩, ⟨.t 15, none, .box, [.t 14]⟩, ⟨.l 6, none, .mv, [.t 15]⟩])
 .ret)), [.tmp (.l 6)]⟩
theorem c61 : compFn Tryd.prog b61 Tryd.f61 = some a61 := by kernel_rfl
/-- unicode.is16 -/
def b67 : Nat := 1574899
def a67 : AFn := ⟨(.seq (.reg [⟨.l 4, none, .mv, [.c (.b false)]⟩])
 (.seq (.seq (.reg [⟨.t 11, none, .mv, [.l 0]⟩, ⟨.t 12, none, .lenSl, [.t 11]⟩, ⟨.t 13, none, (.bin .leq), [.t 12, .c (.i .i64 18)]⟩, ⟨.t 14, none, .mv, [.t 13]⟩, ⟨.t 15, (some (.t 14, false)), .mv, [.l 1]⟩, ⟨.t 16, (some (.t 14, false)), (.bin .leq), [.t 15, .c (.i .u16 255)]⟩, ⟨.t 17, none, .pick, [.t 14, .c (.b true), .t 16]⟩])
 (.cond (.t 17) (.seq (.seq (.reg [⟨.t 18, none, .mv, [.l 0]⟩, ⟨.l 19, none, .lenSl, [.t 18]⟩, ⟨.l 20, none, .mv, [.c (.i .i64 0)]⟩])
 (.block 0 (.loop (.seq (.reg [⟨.t 21, none, (.bin .lss), [.l 20, .l 19]⟩])
 (.seq (.cond (.t 21) .skip (.exit 0))
 (.seq (.block 1 (.seq (.reg [⟨.t 22, none, .mv, [.l 20]⟩, ⟨.l 5, none, .mv, [.t 22]⟩])
 (.seq (.reg [⟨.t 23, none, .mv, [.l 0]⟩, ⟨.t 24, none, .mv, [.l 5]⟩, ⟨.t 25, none, (.iad 3), [.t 23, .t 24]⟩, ⟨.l 6, none, .mv, [.t 25]⟩])
 (.seq (.seq (.reg [⟨.t 26, none, .mv, [.l 1]⟩, ⟨.t 27, none, .mv, [.l 6]⟩, ⟨.t 28, none, .nilchk, [.t 27]⟩, ⟨.t 29, none, (.fad 0), [.t 28]⟩, ⟨.t 30, none, (.ld none), [.t 29]⟩, ⟨.t 31, none, (.bin .lss), [.t 26, .t 30]⟩])
 (.cond (.t 31) (.seq (.reg [⟨.l 4, none, .mv, [.c (.b false)]⟩])
 .ret) .skip))
 (.seq (.reg [⟨.t 32, none, .mv, [.l 1]⟩, ⟨.t 33, none, .mv, [.l 6]⟩, ⟨.t 34, none, .nilchk, [.t 33]⟩, ⟨.t 35, none, (.fad 1), [.t 34]⟩, ⟨.t 36, none, (.ld none), [.t 35]⟩, ⟨.t 37, none, (.bin .leq), [.t 32, .t 36]⟩])
 (.cond (.t 37) (.seq (.reg [⟨.t 38, none, .mv, [.l 6]⟩, ⟨.t 39, none, .nilchk, [.t 38]⟩, ⟨.t 40, none, (.fad 2), [.t 39]⟩, ⟨.t 41, none, (.ld none), [.t 40]⟩, ⟨.t 42, none, (.bin .eql), [.t 41, .c (.i .u16 1)]⟩, ⟨.t 43, none, .mv, [.t 42]⟩, ⟨.t 44, (some (.t 43, false)), .mv, [.l 1]⟩, ⟨.t 45, (some (.t 43, false)), .mv, [.l 6]⟩, ⟨.t 46, (some (.t 43, false)), .nilchk, [.t 45]⟩, ⟨.t 47, (some (.t 43, false)), (.fad 0), [.t 46]⟩, ⟨.t 48, (some (.t 43, false)), (.ld none), [.t 47]⟩, ⟨.t 49, (some (.t 43, false)), (.bin .sub), [.t 44, .t 48]⟩, ⟨.t 50, (some (.t 43, false)), .mv, [.l 6]⟩, ⟨.t 51, (some (.t 43, false)), .nilchk, [.t 50]⟩, ⟨.t 52, (some (.t 43, false)), (.fad 2), [.t 51]⟩, ⟨.t 53, (some (.t 43, false)), (.ld none), [.t 52]⟩, ⟨.t 54, (some (.t 43, false)), (.bin .rem), [.t 49, .t 53]⟩, ⟨.t 55, (some (.t 43, false)), (.bin .eql), [.t 54, .c (.i .u16 0)]⟩, ⟨.t 56, none, .pick, [.t 43, .c (.b true), .t 55]⟩, ⟨.l 4, none, .mv, [.t 56]⟩])
 .ret) .skip))))))
 (.reg [⟨.t 57, none, (.bin .add), [.l 20, .c (.i .i64 1)]⟩, ⟨.l 20, none, .mv, [.t 57]⟩])))))))
 (.seq (.reg [⟨.l 4, none, .mv, [.c (.b false)]⟩])
 .ret)) .skip))
 (.seq (.reg [⟨.l 7, none, .mv, [.c (.i .i64 0)]⟩])
 (.seq (.reg [⟨.t 58, none, .mv, [.l 0]⟩, ⟨.t 59, none, .lenSl, [.t 58]⟩, ⟨.l 8, none, .mv, [.t 59]⟩])
 (.seq (.block 2 (.loop (.seq (.seq (.reg [⟨.t 60, none, .mv, [.l 7]⟩, ⟨.t 61, none, .mv, [.l 8]⟩, ⟨.t 62, none, (.bin .lss), [.t 60, .t 61]⟩])
 (.cond (.t 62) .skip (.exit 2)))
 (.block 3 (.seq (.reg [⟨.t 63, none, .mv, [.l 7]⟩, ⟨.t 64, none, .mv, [.l 8]⟩, ⟨.t 65, none, (.bin .add), [.t 63, .t 64]⟩, ⟨.t 66, none, (.cvtI .u64), [.t 65]⟩, ⟨.t 67, none, (.bin .shr), [.t 66, .c (.i .u64 1)]⟩, ⟨.t 68, none, (.cvtI .i64), [.t 67]⟩, ⟨.l 9, none, .mv, [.t 68]⟩])
 (.seq (.reg [⟨.t 69, none, .mv, [.l 0]⟩, ⟨.t 70, none, .mv, [.l 9]⟩, ⟨.t 71, none, (.iad 3), [.t 69, .t 70]⟩, ⟨.l 10, none, .mv, [.t 71]⟩])
 (.seq (.seq (.reg [⟨.t 72, none, .mv, [.l 10]⟩, ⟨.t 73, none, .nilchk, [.t 72]⟩, ⟨.t 74, none, (.fad 0), [.t 73]⟩, ⟨.t 75, none, (.ld none), [.t 74]⟩, ⟨.t 76, none, .mv, [.l 1]⟩, ⟨.t 77, none, (.bin .leq), [.t 75, .t 76]⟩, ⟨.t 78, none, .mv, [.t 77]⟩, ⟨.t 79, (some (.t 78, true)), .mv, [.l 1]⟩, ⟨.t 80, (some (.t 78, true)), .mv, [.l 10]⟩, ⟨.t 81, (some (.t 78, true)), .nilchk, [.t 80]⟩, ⟨.t 82, (some (.t 78, true)), (.fad 1), [.t 81]⟩, ⟨.t 83, (some (.t 78, true)), (.ld none), [.t 82]⟩, ⟨.t 84, (some (.t 78, true)), (.bin .leq), [.t 79, .t 83]⟩, ⟨.t 85, none, .pick, [.t 78, .t 84, .c (.b false)]⟩])
 (.cond (.t 85) (.seq (.reg [⟨.t 86, none, .mv, [.l 10]⟩, ⟨.t 87, none, .nilchk, [.t 86]⟩, ⟨.t 88, none, (.fad 2), [.t 87]⟩, ⟨.t 89, none, (.ld none), [.t 88]⟩, ⟨.t 90, none, (.bin .eql), [.t 89, .c (.i .u16 1)]⟩, ⟨.t 91, none, .mv, [.t 90]⟩, ⟨.t 92, (some (.t 91, false)), .mv, [.l 1]⟩, ⟨.t 93, (some (.t 91, false)), .mv, [.l 10]⟩, ⟨.t 94, (some (.t 91, false)), .nilchk, [.t 93]⟩, ⟨.t 95, (some (.t 91, false)), (.fad 0), [.t 94]⟩, ⟨.t 96, (some (.t 91, false)), (.ld none), [.t 95]⟩, ⟨.t 97, (some (.t 91, false)), (.bin .sub), [.t 92, .t 96]⟩, ⟨.t 98, (some (.t 91, false)), .mv, [.l 10]⟩, ⟨.t 99, (some (.t 91, false)), .nilchk, [.t 98]⟩, ⟨.t 100, (some (.t 91, false)), (.fad 2), [.t 99]⟩, ⟨.t 101, (some (.t 91, false)), (.ld none), [.t 100]⟩, ⟨.t 102, (some (.t 91, false)), (.bin .rem), [.t 97, .t 101]⟩, ⟨.t 103, (some (.t 91, false)), (.bin .eql), [.t 102, .c (.i .u16 0)]⟩, ⟨.t 104, none, .pick, [.t 91, .c (.b true), .t 103]⟩, ⟨.l 4, none, .mv, [.t 104]⟩])
 .ret) .skip))
 (.seq (.reg [⟨.t 105, none, .mv, [.l 1]⟩, ⟨.t 106, none, .mv, [.l 10]⟩, ⟨.t 107, none, .nilchk, [.t 106]⟩, ⟨.t 108, none, (.fad 0), [.t 107]⟩, ⟨.t 109, none, (.ld none), [.t 108]⟩, ⟨.t 110, none, (.bin .lss), [.t 105, .t 109]⟩])
 (.cond (.t 110) (.reg [⟨.t 111, none, .mv, [.l 9]⟩, ⟨.l 8, none, .mv, [.t 111]⟩]) (.reg [⟨.t 112, none, .mv, [.l 9]⟩, ⟨.t 113, none, (.bin .add), [.t 112, .c (.i .i64 1)]⟩, ⟨.l 7, none, .mv, [.t 113]⟩]))))))))))
 (.seq (.reg [⟨.l 4, none, .mv, [.c (.b false)]⟩])
 .ret)))))), [.tmp (.l 4)]⟩
theorem c67 : compFn Tryd.prog b67 Tryd.f67 = some a67 := by kernel_rfl
/-- unicode.is32 -/
def b68 : Nat := 100339
def a68 : AFn := ⟨(.seq (.reg [⟨.l 4, none, .mv, [.c (.b false)]⟩])
 (.seq (.seq (.reg [⟨.t 11, none, .mv, [.l 0]⟩, ⟨.t 12, none, .lenSl, [.t 11]⟩, ⟨.t 13, none, (.bin .leq), [.t 12, .c (.i .i64 18)]⟩])
 (.cond (.t 13) (.seq (.seq (.reg [⟨.t 14, none, .mv, [.l 0]⟩, ⟨.l 15, none, .lenSl, [.t 14]⟩, ⟨.l 16, none, .mv, [.c (.i .i64 0)]⟩])
 (.block 0 (.loop (.seq (.reg [⟨.t 17, none, (.bin .lss), [.l 16, .l 15]⟩])
 (.seq (.cond (.t 17) .skip (.exit 0))
 (.seq (.block 1 (.seq (.reg [⟨.t 18, none, .mv, [.l 16]⟩, ⟨.l 5, none, .mv, [.t 18]⟩])
 (.seq (.reg [⟨.t 19, none, .mv, [.l 0]⟩, ⟨.t 20, none, .mv, [.l 5]⟩, ⟨.t 21, none, (.iad 3), [.t 19, .t 20]⟩, ⟨.l 6, none, .mv, [.t 21]⟩])
 (.seq (.seq (.reg [⟨.t 22, none, .mv, [.l 1]⟩, ⟨.t 23, none, .mv, [.l 6]⟩, ⟨.t 24, none, .nilchk, [.t 23]⟩, ⟨.t 25, none, (.fad 0), [.t 24]⟩, ⟨.t 26, none, (.ld none), [.t 25]⟩, ⟨.t 27, none, (.bin .lss), [.t 22, .t 26]⟩])
 (.cond (.t 27) (.seq (.reg [⟨.l 4, none, .mv, [.c (.b false)]⟩])
 .ret) .skip))
 (.seq (.reg [⟨.t 28, none, .mv, [.l 1]⟩, ⟨.t 29, none, .mv, [.l 6]⟩, ⟨.t 30, none, .nilchk, [.t 29]⟩, ⟨.t 31, none, (.fad 1), [.t 30]⟩, ⟨.t 32, none, (.ld none), [.t 31]⟩, ⟨.t 33, none, (.bin .leq), [.t 28, .t 32]⟩])
 (.cond (.t 33) (.seq (.reg [⟨.t 34, none, .mv, [.l 6]⟩, ⟨.t 35, none, .nilchk, [.t 34]⟩, ⟨.t 36, none, (.fad 2), [.t 35]⟩, ⟨.t 37, none, (.ld none), [.t 36]⟩, ⟨.t 38, none, (.bin .eql), [.t 37, .c (.i .u32 1)]⟩, ⟨.t 39, none, .mv, [.t 38]⟩, ⟨.t 40, (some (.t 39, false)), .mv, [.l 1]⟩, ⟨.t 41, (some (.t 39, false)), .mv, [.l 6]⟩, ⟨.t 42, (some (.t 39, false)), .nilchk, [.t 41]⟩, ⟨.t 43, (some (.t 39, false)), (.fad 0), [.t 42]⟩, ⟨.t 44, (some (.t 39, false)), (.ld none), [.t 43]⟩, ⟨.t 45, (some (.t 39, false)), (.bin .sub), [.t 40, .t 44]⟩, ⟨.t 46, (some (.t 39, false)), .mv, [.l 6]⟩, ⟨.t 47, (some (.t 39, false)), .nilchk, [.t 46]⟩, ⟨.t 48, (some (.t 39, false)), (.fad 2), [.t 47]⟩, ⟨.t 49, (some (.t 39, false)), (.ld none), [.t 48]⟩, ⟨.t 50, (some (.t 39, false)), (.bin .rem), [.t 45, .t 49]⟩, ⟨.t 51, (some (.t 39, false)), (.bin .eql), [.t 50, .c (.i .u32 0)]⟩, ⟨.t 52, none, .pick, [.t 39, .c (.b true), .t 51]⟩, ⟨.l 4, none, .mv, [.t 52]⟩])
 .ret) .skip))))))
 (.reg [⟨.t 53, none, (.bin .add), [.l 16, .c (.i .i64 1)]⟩, ⟨.l 16, none, .mv, [.t 53]⟩])))))))
 (.seq (.reg [⟨.l 4, none, .mv, [.c (.b false)]⟩])
 .ret)) .skip))
 (.seq (.reg [⟨.l 7, none, .mv, [.c (.i .i64 0)]⟩])
 (.seq (.reg [⟨.t 54, none, .mv, [.l 0]⟩, ⟨.t 55, none, .lenSl, [.t 54]⟩, ⟨.l 8, none, .mv, [.t 55]⟩])
 (.seq (.block 2 (.loop (.seq (.seq (.reg [⟨.t 56, none, .mv, [.l 7]⟩, ⟨.t 57, none, .mv, [.l 8]⟩, ⟨.t 58, none, (.bin .lss), [.t 56, .t 57]⟩])
 (.cond (.t 58) .skip (.exit 2)))
 (.block 3 (.seq (.reg [⟨.t 59, none, .mv, [.l 7]⟩, ⟨.t 60, none, .mv, [.l 8]⟩, ⟨.t 61, none, (.bin .add), [.t 59, .t 60]⟩, ⟨.t 62, none, (.cvtI .u64), [.t 61]⟩, ⟨.t 63, none, (.bin .shr), [.t 62, .c (.i .u64 1)]⟩, ⟨.t 64, none, (.cvtI .i64), [.t 63]⟩, ⟨.l 9, none, .mv, [.t 64]⟩])
 (.seq (.reg [⟨.t 65, none, .mv, [.l 0]⟩, ⟨.t 66, none, .mv, [.l 9]⟩, ⟨.t 67, none, (.iad 3), [.t 65, .t 66]⟩, ⟨.t 68, none, (.ld (some 3)), [.t 67]⟩, ⟨.l 10, none, (.alloc [(.i .u32 0), (.i .u32 0), (.i .u32 0)]), []⟩, ⟨.no, none, (.st 3), [.l 10, .t 68]⟩])
 (.seq (.seq (.reg [⟨.t 69, none, (.fad 0), [.l 10]⟩, ⟨.t 70, none, (.ld none), [.t 69]⟩, ⟨.t 71, none, .mv, [.l 1]⟩, ⟨.t 72, none, (.bin .leq), [.t 70, .t 71]⟩, ⟨.t 73, none, .mv, [.t 72]⟩, ⟨.t 74, (some (.t 73, true)), .mv, [.l 1]⟩, ⟨.t 75, (some (.t 73, true)), (.fad 1), [.l 10]⟩, ⟨.t 76, (some (.t 73, true)), (.ld none), [.t 75]⟩, ⟨.t 77, (some (.t 73, true)), (.bin .leq), [.t 74, .t 76]⟩, ⟨.t 78, none, .pick, [.t 73, .t 77, .c (.b false)]⟩])
 (.cond (.t 78) (.seq (.reg [⟨.t 79, none, (.fad 2), [.l 10]⟩, ⟨.t 80, none, (.ld none), [.t 79]⟩, ⟨.t 81, none, (.bin .eql), [.t 80, .c (.i .u32 1)]⟩, ⟨.t 82, none, .mv, [.t 81]⟩, ⟨.t 83, (some (.t 82, false)), .mv, [.l 1]⟩, ⟨.t 84, (some (.t 82, false)), (.fad 0), [.l 10]⟩, ⟨.t 85, (some (.t 82, false)), (.ld none), [.t 84]⟩, ⟨.t 86, (some (.t 82, false)), (.bin .sub), [.t 83, .t 85]⟩, ⟨.t 87, (some (.t 82, false)), (.fad 2), [.l 10]⟩, ⟨.t 88, (some (.t 82, false)), (.ld none), [.t 87]⟩, ⟨.t 89, (some (.t 82, false)), (.bin .rem), [.t 86, .t 88]⟩, ⟨.t 90, (some (.t 82, false)), (.bin .eql), [.t 89, .c (.i .u32 0)]⟩, ⟨.t 91, none, .pick, [.t 82, .c (.b true), .t 90]⟩, ⟨.l 4, none, .mv, [.t 91]⟩])
 .ret) .skip))
 (.seq (.reg [⟨.t 92, none, .mv, [.l 1]⟩, ⟨.t 93, none, (.fad 0), [.l 10]⟩, ⟨.t 94, none, (.ld none), [.t 93]⟩, ⟨.t 95, none, (.bin .lss), [.t 92, .t 94]⟩])
 (.cond (.t 95) (.reg [⟨.t 96, none, .mv, [.l 9]⟩, ⟨.l 8, none, .mv, [.t 96]⟩]) (.reg [⟨.t 97, none, .mv, [.l 9]⟩, ⟨.t 98, none, (.bin .add), [.t 97, .c (.i .i64 1)]⟩, ⟨.l 7, none, .mv, [.t 98]⟩]))))))))))
 (.seq (.reg [⟨.l 4, none, .mv, [.c (.b false)]⟩])
 .ret)))))), [.tmp (.l 4)]⟩
theorem c68 : compFn Tryd.prog b68 Tryd.f68 = some a68 := by kernel_rfl
/-- internal/bytealg.hashStr[string] -/
def b70 : Nat := 509
def a70 : AFn := ⟨(.seq (.reg [⟨.l 2, none, .mv, [.c (.i .u32 0)]⟩, ⟨.l 3, none, .mv, [.c (.i .u32 0)]⟩])
 (.seq (.reg [⟨.l 4, none, .mv, [.c (.i .u32 0)]⟩])
 (.seq (.seq (.reg [⟨.l 5, none, .mv, [.c (.i .i64 0)]⟩])
 (.block 0 (.loop (.seq (.seq (.reg [⟨.t 9, none, .mv, [.l 5]⟩, ⟨.t 10, none, .mv, [.l 0]⟩, ⟨.t 11, none, .lenS, [.t 10]⟩, ⟨.t 12, none, (.bin .lss), [.t 9, .t 11]⟩])
 (.cond (.t 12) .skip (.exit 0)))
 (.seq (.block 1 (.reg [⟨.t 15, none, .mv, [.l 4]⟩, ⟨.t 16, none, (.bin .mul), [.t 15, .c (.i .u32 16777619)]⟩, ⟨.t 17, none, .mv, [.l 0]⟩, ⟨.t 18, none, .mv, [.l 5]⟩, ⟨.t 19, none, .ixS, [.t 17, .t 18]⟩, ⟨.t 20, none, (.cvtI .u32), [.t 19]⟩, ⟨.t 21, none, (.bin .add), [.t 16, .t 20]⟩, ⟨.l 4, none, .mv, [.t 21]⟩]))
 (.reg [⟨.t 13, none, .mv, [.l 5]⟩, ⟨.t 14, none, (.bin .add), [.t 13, .c (.i .i64 1)]⟩, ⟨.l 5, none, .mv, [.t 14]⟩]))))))
 (.seq (.reg [⟨.l 6, none, .mv, [.c (.i .u32 1)]⟩, ⟨.l 7, none, .mv, [.c (.i .u32 16777619)]⟩])
 (.seq (.seq (.reg [⟨.t 22, none, .mv, [.l 0]⟩, ⟨.t 23, none, .lenS, [.t 22]⟩, ⟨.l 8, none, .mv, [.t 23]⟩])
 (.block 2 (.loop (.seq (.seq (.reg [⟨.t 24, none, .mv, [.l 8]⟩, ⟨.t 25, none, (.bin .gtr), [.t 24, .c (.i .i64 0)]⟩])
 (.cond (.t 25) .skip (.exit 2)))
 (.seq (.block 3 (.seq (.seq (.reg [⟨.t 28, none, .mv, [.l 8]⟩, ⟨.t 29, none, (.bin .and), [.t 28, .c (.i .i64 1)]⟩, ⟨.t 30, none, (.bin .neq), [.t 29, .c (.i .i64 0)]⟩])
 (.cond (.t 30) (.reg [⟨.t 31, none, .mv, [.l 6]⟩, ⟨.t 32, none, .mv, [.l 7]⟩, ⟨.t 33, none, (.bin .mul), [.t 31, .t 32]⟩, ⟨.l 6, none, .mv, [.t 33]⟩]) .skip))
 (.reg [⟨.t 34, none, .mv, [.l 7]⟩, ⟨.t 35, none, .mv, [.l 7]⟩, ⟨.t 36, none, (.bin .mul), [.t 34, .t 35]⟩, ⟨.l 7, none, .mv, [.t 36]⟩])))
 (.reg [⟨.t 26, none, .mv, [.l 8]⟩, ⟨.t 27, none, (.bin .shr), [.t 26, .c (.i .u64 1)]⟩, ⟨.l 8, none, .mv, [.t 27]⟩]))))))
 (.seq (.reg [⟨.t 37, none, .mv, [.l 4]⟩, ⟨.t 38, none, .mv, [.l 6]⟩, ⟨.l 2, none, .mv, [.t 37]⟩, ⟨.l 3, none, .mv, [.t 38]⟩])
 .ret)))))), [.tmp (.l 2), .tmp (.l 3)]⟩
theorem c70 : compFn Tryd.prog b70 Tryd.f70 = some a70 := by kernel_rfl
/-- unicode/utf8.DecodeRuneInString -/
def b72 : Nat := 13
def a72 : AFn := ⟨(.seq (.reg [⟨.l 2, none, .mv, [.c (.i .i32 0)]⟩, ⟨.l 3, none, .mv, [.c (.i .i64 0)]⟩])
 (.seq (.seq (.reg [⟨.t 4, none, .mv, [.l 0]⟩, ⟨.t 5, none, (.sbin .neq), [.t 4, .c (.s [])]⟩, ⟨.t 6, none, .mv, [.t 5]⟩, ⟨.t 7, (some (.t 6, true)), .mv, [.l 0]⟩, ⟨.t 8, (some (.t 6, true)), .ixS, [.t 7, .c (.i .i64 0)]⟩, ⟨.t 9, (some (.t 6, true)), (.bin .lss), [.t 8, .c (.i .u8 128)]⟩, ⟨.t 10, none, .pick, [.t 6, .t 9, .c (.b false)]⟩])
 (.cond (.t 10) (.seq (.reg [⟨.t 11, none, .mv, [.l 0]⟩, ⟨.t 12, none, .ixS, [.t 11, .c (.i .i64 0)]⟩, ⟨.t 13, none, (.cvtI .i32), [.t 12]⟩, ⟨.l 2, none, .mv, [.t 13]⟩, ⟨.l 3, none, .mv, [.c (.i .i64 1)]⟩])
 .ret) (.reg [⟨.t 15, none, .mv, [.l 0]⟩, ⟨.t 16, none, (.call 79), [.t 15]⟩, ⟨.t 14, none, .mv, [.t 16]⟩, ⟨.t 17, none, (.ext 0), [.t 14]⟩, ⟨.t 18, none, (.ext 1), [.t 14]⟩, ⟨.l 2, none, .mv, [.t 17]⟩, ⟨.l 3, none, .mv, [.t 18]⟩])))
 .ret)), [.tmp (.l 2), .tmp (.l 3)]⟩
theorem c72 : compFn Tryd.prog b72 Tryd.f72 = some a72 := by kernel_rfl
/-- errors.New -/
def b76 : Nat := 5
def a76 : AFn := ⟨(.seq (.reg [⟨.l 2, none, .mv, [.c .nili]⟩])
 (.seq (.reg [⟨.t 3, none, .mv, [.l 0]⟩, ⟨.t 4, none, (.build [(.s [])] [(0, 1)]), [.t 3]⟩, ⟨.t 5, none, .box, [.t 4]⟩, ⟨.t 6, none, (.mkif 127), [.t 5]⟩, ⟨.l 2, none, .mv, [.t 6]⟩])
 .ret)), [.tmp (.l 2)]⟩
theorem c76 : compFn Tryd.prog b76 Tryd.f76 = some a76 := by kernel_rfl
/-- unicode/utf8.decodeRuneInStringSlow -/
def b79 : Nat := 8189
def a79 : AFn := ⟨(.seq (.reg [⟨.l 2, none, .mv, [.c (.i .i32 0)]⟩, ⟨.l 3, none, .mv, [.c (.i .i64 0)]⟩])
 (.seq (.reg [⟨.t 13, none, .mv, [.l 0]⟩, ⟨.t 14, none, .lenS, [.t 13]⟩, ⟨.l 4, none, .mv, [.t 14]⟩])
 (.seq (.seq (.reg [⟨.t 15, none, .mv, [.l 4]⟩, ⟨.t 16, none, (.bin .lss), [.t 15, .c (.i .i64 1)]⟩])
 (.cond (.t 16) (.seq (.reg [⟨.l 2, none, .mv, [.c (.i .i32 65533)]⟩, ⟨.l 3, none, .mv, [.c (.i .i64 0)]⟩])
 .ret) .skip))
 (.seq (.reg [⟨.t 17, none, .mv, [.l 0]⟩, ⟨.t 18, none, .ixS, [.t 17, .c (.i .i64 0)]⟩, ⟨.l 5, none, .mv, [.t 18]⟩])
 (.seq (.reg [⟨.t 19, none, .mv, [.l 5]⟩, ⟨.t 20, none, (.iadA 256 1), [.c (.p (some (8, 0))), .t 19]⟩, ⟨.t 21, none, (.ld none), [.t 20]⟩, ⟨.l 6, none, .mv, [.t 21]⟩])
 (.seq (.seq (.reg [⟨.t 22, none, .mv, [.l 6]⟩, ⟨.t 23, none, (.bin .geq), [.t 22, .c (.i .u8 240)]⟩])
 (.cond (.t 23) (.seq (.reg [⟨.t 24, none, .mv, [.l 6]⟩, ⟨.t 25, none, (.cvtI .i32), [.t 24]⟩, ⟨.t 26, none, (.bin .shl), [.t 25, .c (.i .u64 31)]⟩, ⟨.t 27, none, (.bin .shr), [.t 26, .c (.i .u64 31)]⟩, ⟨.l 7, none, .mv, [.t 27]⟩])
 (.seq (.reg [⟨.t 28, none, .mv, [.l 0]⟩, ⟨.t 29, none, .ixS, [.t 28, .c (.i .i64 0)]⟩, ⟨.t 30, none, (.cvtI .i32), [.t 29]⟩, ⟨.t 31, none, .mv, [.l 7]⟩, ⟨.t 32, none, (.bin .andNot), [.t 30, .t 31]⟩, ⟨.t 33, none, .mv, [.l 7]⟩, ⟨.t 34, none, (.bin .and), [.c (.i .i32 65533), .t 33]⟩, ⟨.t 35, none, (.bin .or), [.t 32, .t 34]⟩, ⟨.l 2, none, .mv, [.t 35]⟩, ⟨.l 3, none, .mv, [.c (.i .i64 1)]⟩])
 .ret)) .skip))
 (.seq (.reg [⟨.t 36, none, .mv, [.l 6]⟩, ⟨.t 37, none, (.bin .and), [.t 36, .c (.i .u8 7)]⟩, ⟨.t 38, none, (.cvtI .i64), [.t 37]⟩, ⟨.l 8, none, .mv, [.t 38]⟩])
 (.seq (.reg [⟨.t 39, none, .mv, [.l 6]⟩, ⟨.t 40, none, (.bin .shr), [.t 39, .c (.i .u64 4)]⟩, ⟨.t 41, none, (.iadA 16 2), [.c (.p (some (9, 0))), .t 40]⟩, ⟨.t 42, none, (.ld (some 2)), [.t 41]⟩, ⟨.l 9, none, (.alloc [(.i .u8 0), (.i .u8 0)]), []⟩, ⟨.no, none, (.st 2), [.l 9, .t 42]⟩])
 (.seq (.seq (.reg [⟨.t 43, none, .mv, [.l 4]⟩, ⟨.t 44, none, .mv, [.l 8]⟩, ⟨.t 45, none, (.bin .lss), [.t 43, .t 44]⟩])
 (.cond (.t 45) (.seq (.reg [⟨.l 2, none, .mv, [.c (.i .i32 65533)]⟩, ⟨.l 3, none, .mv, [.c (.i .i64 1)]⟩])
 .ret) .skip))
 (.seq (.reg [⟨.t 46, none, .mv, [.l 0]⟩, ⟨.t 47, none, .ixS, [.t 46, .c (.i .i64 1)]⟩, ⟨.l 10, none, .mv, [.t 47]⟩])
 (.seq (.seq (.reg [⟨.t 48, none, .mv, [.l 10]⟩, ⟨.t 49, none, (.fad 0), [.l 9]⟩, ⟨.t 50, none, (.ld none), [.t 49]⟩, ⟨.t 51, none, (.bin .lss), [.t 48, .t 50]⟩, ⟨.t 52, none, .mv, [.t 51]⟩, ⟨.t 53, (some (.t 52, false)), (.fad 1), [.l 9]⟩, ⟨.t 54, (some (.t 52, false)), (.ld none), [.t 53]⟩, ⟨.t 55, (some (.t 52, false)), .mv, [.l 10]⟩, ⟨.t 56, (some (.t 52, false)), (.bin .lss), [.t 54, .t 55]⟩, ⟨.t 57, none, .pick, [.t 52, .c (.b true), .t 56]⟩])
 (.cond (.t 57) (.seq (.reg [⟨.l 2, none, .mv, [.c (.i .i32 65533)]⟩, ⟨.l 3, none, .mv, [.c (.i .i64 1)]⟩])
 .ret) .skip))
 (.seq (.seq (.reg [⟨.t 58, none, .mv, [.l 8]⟩, ⟨.t 59, none, (.bin .leq), [.t 58, .c (.i .i64 2)]⟩])
 (.cond (.t 59) (.seq (.reg [⟨.t 60, none, .mv, [.l 5]⟩, ⟨.t 61, none, (.bin .and), [.t 60, .c (.i .u8 31)]⟩, ⟨.t 62, none, (.cvtI .i32), [.t 61]⟩, ⟨.t 63, none, (.bin .shl), [.t 62, .c (.i .u64 6)]⟩, ⟨.t 64, none, .mv, [.l 10]⟩, ⟨.t 65, none, (.bin .and), [.t 64, .c (.i .u8 63)]⟩, ⟨.t 66, none, (.cvtI .i32), [.t 65]⟩, ⟨.t 67, none, (.bin .or), [.t 63, .t 66]⟩, ⟨.l 2, none, .mv, [.t 67]⟩, ⟨.l 3, none, .mv, [.c (.i .i64 2)]⟩])
 .ret) .skip))
 (.seq (.reg [⟨.t 68, none, .mv, [.l 0]⟩, ⟨.t 69, none, .ixS, [.t 68, .c (.i .i64 2)]⟩, ⟨.l 11, none, .mv, [.t 69]⟩])
 (.seq (.seq (.reg [⟨.t 70, none, .mv, [.l 11]⟩, ⟨.t 71, none, (.bin .lss), [.t 70, .c (.i .u8 128)]⟩, ⟨.t 72, none, .mv, [.t 71]⟩, ⟨.t 73, (some (.t 72, false)), .mv, [.l 11]⟩, ⟨.t 74, (some (.t 72, false)), (.bin .lss), [.c (.i .u8 191), .t 73]⟩, ⟨.t 75, none, .pick, [.t 72, .c (.b true), .t 74]⟩])
 (.cond (.t 75) (.seq (.reg [⟨.l 2, none, .mv, [.c (.i .i32 65533)]⟩, ⟨.l 3, none, .mv, [.c (.i .i64 1)]⟩])
 .ret) .skip))
 (.seq (.seq (.reg [⟨.t 76, none, .mv, [.l 8]⟩, ⟨.t 77, none, (.bin .leq), [.t 76, .c (.i .i64 3)]⟩])
 (.cond (.t 77) (.seq (.reg [⟨.t 78, none, .mv, [.l 5]⟩, ⟨.t 79, none, (.bin .and), [.t 78, .c (.i .u8 15)]⟩, ⟨.t 80, none, (.cvtI .i32), [.t 79]⟩, ⟨.t 81, none, (.bin .shl), [.t 80, .c (.i .u64 12)]⟩, ⟨.t 82, none, .mv, [.l 10]⟩, ⟨.t 83, none, (.bin .and), [.t 82, .c (.i .u8 63)]⟩, ⟨.t 84, none, (.cvtI .i32), [.t 83]⟩, ⟨.t 85, none, (.bin .shl), [.t 84, .c (.i .u64 6)]⟩, ⟨.t 86, none, (.bin .or), [.t 81, .t 85]⟩, ⟨.t 87, none, .mv, [.l 11]⟩, ⟨.t 88, none, (.bin .and), [.t 87, .c (.i .u8 63)]⟩, ⟨.t 89, none, (.cvtI .i32), [.t 88]⟩, ⟨.t 90, none, (.bin .or), [.t 86, .t 89]⟩, ⟨.l 2, none, .mv, [.t 90]⟩, ⟨.l 3, none, .mv, [.c (.i .i64 3)]⟩])
 .ret) .skip))
 (.seq (.reg [⟨.t 91, none, .mv, [.l 0]⟩, ⟨.t 92, none, .ixS, [.t 91, .c (.i .i64 3)]⟩, ⟨.l 12, none, .mv, [.t 92]⟩])
 (.seq (.seq (.reg [⟨.t 93, none, .mv, [.l 12]⟩, ⟨.t 94, none, (.bin .lss), [.t 93, .c (.i .u8 128)]⟩, ⟨.t 95, none, .mv, [.t 94]⟩, ⟨.t 96, (some (.t 95, false)), .mv, [.l 12]⟩, ⟨.t 97, (some (.t 95, false)), (.bin .lss), [.c (.i .u8 191), .t 96]⟩, ⟨.t 98, none, .pick, [.t 95, .c (.b true), .t 97]⟩])
 (.cond (.t 98) (.seq (.reg [⟨.l 2, none, .mv, [.c (.i .i32 65533)]⟩, ⟨.l 3, none, .mv, [.c (.i .i64 1)]⟩])
 .ret) .skip))
 (.seq (.reg [⟨.t 99, none, .mv, [.l 5]⟩, ⟨.t 100, none, (.bin .and), [.t 99, .c (.i .u8 7)]⟩, ⟨.t 101, none, (.cvtI .i32), [.t 100]⟩, ⟨.t 102, none, (.bin .shl), [.t 101, .c (.i .u64 18)]⟩, ⟨.t 103, none, .mv, [.l 10]⟩, ⟨.t 104, none, (.bin .and), [.t 103, .c (.i .u8 63)]⟩, ⟨.t 105, none, (.cvtI .i32), [.t 104]⟩, ⟨.t 106, none, (.bin .shl), [.t 105, .c (.i .u64 12)]⟩, ⟨.t 107, none, (.bin .or), [.t 102, .t 106]⟩, ⟨.t 108, none, .mv, [.l 11]⟩, ⟨.t 109, none, (.bin .and), [.t 108, .c (.i .u8 63)]⟩, ⟨.t 110, none, (.cvtI .i32), [.t 109]⟩, ⟨.t 111, none, (.bin .shl), [.t 110, .c (.i .u64 6)]⟩, ⟨.t 112, none, (.bin .or), [.t 107, .t 111]⟩, ⟨.t 113, none, .mv, [.l 12]⟩, ⟨.t 114, none, (.bin .and), [.t 113, .c (.i .u8 63)]⟩, ⟨.t 115, none, (.cvtI .i32), [.t 114]⟩, ⟨.t 116, none, (.bin .or), [.t 112, .t 115]⟩, ⟨.l 2, none, .mv, [.t 116]⟩, ⟨.l 3, none, .mv, [.c (.i .i64 4)]⟩])
 .ret)))))))))))))))))), [.tmp (.l 2), .tmp (.l 3)]⟩
theorem c79 : compFn Tryd.prog b79 Tryd.f79 = some a79 := by kernel_rfl
noncomputable def tbl : Nat → Option AFn
  | 5 => some (c_tarpaulinlaw21_TraceForms Nn)
  | 8 => some (c_tarpaulinlaw21_awake Nn)
  | 9 => some (c_trace_Line Nn)
  | 10 => some (c_tarpaulinref17_Line Nn)
  | 11 => some a11
  | 13 => some (c_trace_First Nn)
  | 15 => some (c_trace_Parse Nn)
  | 17 => some (c_tarpaulinalike_Round Nn)
  | 18 => some a18
  | 19 => some (c_trace_word Nn)
  | 21 => some (c_tarpaulinref17_decimal Nn)
  | 24 => some a24
  | 25 => some (c_trace_event Nn)
  | 26 => some a26
  | 27 => some a27
  | 30 => some a30
  | 31 => some a31
  | 32 => some (c_trace_kind Nn)
  | 33 => some a33
  | 36 => some a36
  | 39 => some a39
  | 40 => some a40
  | 41 => some (c_slices_Index_stringstring Nn)
  | 43 => some a43
  | 48 => some a48
  | 50 => some a50
  | 52 => some a52
  | 53 => some a53
  | 54 => some a54
  | 55 => some a55
  | 56 => some a56
  | 58 => some a58
  | 59 => some a59
  | 60 => some a60
  | 61 => some a61
  | 67 => some a67
  | 68 => some a68
  | 70 => some a70
  | 72 => some a72
  | 76 => some a76
  | 79 => some a79
  | _ => none
theorem ok : TblOk Tryd.prog tbl := by
  intro f fn h
  unfold tbl at h
  split at h
  · cases h; exact .inl ⟨b5, _, Tryd.func5, c5⟩
  · cases h; exact .inl ⟨b8, _, Tryd.func8, c8⟩
  · cases h; exact .inl ⟨b9, _, Tryd.func9, c9⟩
  · cases h; exact .inl ⟨b10, _, Tryd.func10, c10⟩
  · cases h; exact .inl ⟨b11, _, Tryd.func11, c11⟩
  · cases h; exact .inl ⟨b13, _, Tryd.func13, c13⟩
  · cases h; exact .inl ⟨b15, _, Tryd.func15, c15⟩
  · cases h; exact .inl ⟨b17, _, Tryd.func17, c17⟩
  · cases h; exact .inl ⟨b18, _, Tryd.func18, c18⟩
  · cases h; exact .inl ⟨b19, _, Tryd.func19, c19⟩
  · cases h; exact .inl ⟨b21, _, Tryd.func21, c21⟩
  · cases h; exact .inl ⟨b24, _, Tryd.func24, c24⟩
  · cases h; exact .inl ⟨b25, _, Tryd.func25, c25⟩
  · cases h; exact .inl ⟨b26, _, Tryd.func26, c26⟩
  · cases h; exact .inl ⟨b27, _, Tryd.func27, c27⟩
  · cases h; exact .inl ⟨b30, _, Tryd.func30, c30⟩
  · cases h; exact .inl ⟨b31, _, Tryd.func31, c31⟩
  · cases h; exact .inl ⟨b32, _, Tryd.func32, c32⟩
  · cases h; exact .inl ⟨b33, _, Tryd.func33, c33⟩
  · cases h; exact .inl ⟨b36, _, Tryd.func36, c36⟩
  · cases h; exact .inl ⟨b39, _, Tryd.func39, c39⟩
  · cases h; exact .inl ⟨b40, _, Tryd.func40, c40⟩
  · cases h; exact .inl ⟨b41, _, Tryd.func41, c41⟩
  · cases h; exact .inl ⟨b43, _, Tryd.func43, c43⟩
  · cases h; exact .inl ⟨b48, _, Tryd.func48, c48⟩
  · cases h; exact .inl ⟨b50, _, Tryd.func50, c50⟩
  · cases h; exact .inl ⟨b52, _, Tryd.func52, c52⟩
  · cases h; exact .inl ⟨b53, _, Tryd.func53, c53⟩
  · cases h; exact .inl ⟨b54, _, Tryd.func54, c54⟩
  · cases h; exact .inl ⟨b55, _, Tryd.func55, c55⟩
  · cases h; exact .inl ⟨b56, _, Tryd.func56, c56⟩
  · cases h; exact .inl ⟨b58, _, Tryd.func58, c58⟩
  · cases h; exact .inl ⟨b59, _, Tryd.func59, c59⟩
  · cases h; exact .inl ⟨b60, _, Tryd.func60, c60⟩
  · cases h; exact .inl ⟨b61, _, Tryd.func61, c61⟩
  · cases h; exact .inl ⟨b67, _, Tryd.func67, c67⟩
  · cases h; exact .inl ⟨b68, _, Tryd.func68, c68⟩
  · cases h; exact .inl ⟨b70, _, Tryd.func70, c70⟩
  · cases h; exact .inl ⟨b72, _, Tryd.func72, c72⟩
  · cases h; exact .inl ⟨b76, _, Tryd.func76, c76⟩
  · cases h; exact .inl ⟨b79, _, Tryd.func79, c79⟩
  · cases h
theorem mixed : Tryd.prog.follows .mixedOrders = true := by kernel_rfl
open Go.Shelf in
theorem at0 {w : World} (h : GW w) : Lib.TabIs Tryd.prog w "strings.asciiSpace" .u8 Lib.asciiSpaceTab := by
  obtain ⟨⟨t, fr, h0⟩, _⟩ := h
  have h1 : w.heap[0]? = _ := h0
  unfold Lib.TabIs World.var?
  rw [show Tryd.prog.globalNamed "strings.asciiSpace" = some 0 by kernel_rfl]
  simp only [Option.bind_some, h1]
theorem at3 {w : World} (h : GW w) : Lib.TabIs Tryd.prog w "internal/strconv.uint64pow10" .u64 Lib.pow10Tab := by
  obtain ⟨_, _, ⟨t, fr, h0⟩, _⟩ := h
  have h1 : w.heap[3]? = _ := h0
  unfold Lib.TabIs World.var?
  rw [show Tryd.prog.globalNamed "internal/strconv.uint64pow10" = some 3 by kernel_rfl]
  simp only [Option.bind_some, h1]
theorem cell_at {w : World} {g : Nat} {v : Value} {t : TypeId} {fr : Nat × Nat} (h : w.heap[g]? = some (.cells #[v] t fr)) : w.cell? ⟨g, 0, none⟩ = some v := by
  simp [World.cell?, h]
theorem at2 {w : World} (h : GW w) : ∃ m, w.cell? ⟨2, 0, none⟩ = some (.int .i64 m) := by
  obtain ⟨_, ⟨m, t, fr, h0⟩, _⟩ := h
  exact ⟨m, cell_at h0⟩
theorem at4 {w : World} (h : GW w) : ∃ te pe, w.cell? ⟨4, 0, none⟩ = some (.iface te pe) := by
  obtain ⟨_, _, _, ⟨te, pe, t, fr, h0⟩, _⟩ := h
  exact ⟨te, pe, cell_at h0⟩
theorem at5 {w : World} (h : GW w) : ∃ te pe, w.cell? ⟨5, 0, none⟩ = some (.iface te pe) := by
  obtain ⟨_, _, _, _, te, pe, t, fr, h0⟩ := h
  exact ⟨te, pe, cell_at h0⟩
theorem below_grow (w : World) (k : Nat) (os : Array Obj) : RowKit.Below w.heap.size w (Go.Sort.grow (w.drewN k) os) := by
  refine ⟨rfl, rfl, rfl, ?_, fun j hj => ?_⟩
  · simp [Go.Sort.grow, World.drewN]
  · simp only [Go.Sort.grow, World.drewN]
    rw [Array.getElem?_append_left hj]
theorem below_drewN (w : World) (k : Nat) : RowKit.Below w.heap.size w (w.drewN k) := ⟨rfl, rfl, rfl, Nat.le_refl _, fun _ _ => rfl⟩
theorem ext18 : ExtOk Tryd.prog 18 1 := xItoa_ok ⟨_, Tryd.func18, by kernel_rfl, by kernel_rfl⟩ fun n w h0 h1 hg =>
  (Any.strconv_Itoa Tryd.laysM171 n h0 h1 w (at3 hg)).mono fun e w' h => by
    obtain ⟨rfl, k, os, rfl⟩ := h
    exact ⟨rfl, below_grow w k os⟩
theorem hi9 : (Tryd.prog.info? 9).map (fun i => (i.zero, i.size, i.bytes)) = some (some (.string ByteArray.empty), 1, 16) := by kernel_rfl
theorem ext27 : ExtOk Tryd.prog 27 2 := xFields_ok (t := 9) ⟨_, Tryd.func27, by kernel_rfl, by kernel_rfl⟩ fun l w hl ha hg =>
  Any.strings_Fields Tryd.lays157 hi9 (by kernel_rfl) ⟨l.toArray⟩ w (by show l.toArray.size < _; simp; omega) (fun j b hb => ha b (List.mem_of_getElem? (by simpa using hb))) (at0 hg)
theorem ext31 : ExtOk Tryd.prog 31 3 := xSplit_ok (t := 9) ⟨_, Tryd.func31, by kernel_rfl, by kernel_rfl⟩ fun l sep w hl hs hg => by
  obtain ⟨m, hm⟩ := at2 hg
  have h1 : 1 ≤ (⟨sep.toArray⟩ : ByteArray).size := by
    show 1 ≤ sep.toArray.size
    have := List.length_pos_iff.2 hs
    simp
    omega
  have c := Any.strings_Split Tryd.lays146 hi9 ⟨l.toArray⟩ ⟨sep.toArray⟩ m w (by show l.toArray.size < _; simp; omega) hm h1
  have hd : (Lib.splitB ⟨sep.toArray⟩ 0 (Lib.countB ⟨l.toArray⟩ ⟨sep.toArray⟩) ⟨l.toArray⟩).map (·.data.toList) = Lib.split l sep := by
    rw [Lib.splitB_data]; rfl
  have hv : (Lib.splitB ⟨sep.toArray⟩ 0 (Lib.countB ⟨l.toArray⟩ ⟨sep.toArray⟩) ⟨l.toArray⟩).map Value.string = (Lib.split l sep).map strV := by
    rw [← hd, List.map_map]
    congr 1
  have hlen : Lib.countB ⟨l.toArray⟩ ⟨sep.toArray⟩ + 1 = (Lib.split l sep).length := by
    rw [← hd, List.length_map]
    exact (Lib.splitB_all ⟨sep.toArray⟩ h1 0 _ _ rfl).symm
  rw [hlen, hv] at c
  exact c
theorem ext24 : ExtOk Tryd.prog 24 4 := xCut_ok ⟨_, Tryd.func24, by kernel_rfl, by kernel_rfl⟩ fun l sep w hl hg => by
  obtain ⟨m, hm⟩ := at2 hg
  refine (Any.strings_Cut Tryd.lays145 ⟨l.toArray⟩ ⟨sep.toArray⟩ m w (by show l.toArray.size < _; simp; omega) hm).mono fun e w' h => ?_
  obtain ⟨rfl, n, rfl⟩ := h
  exact ⟨rfl, below_drewN w n⟩
theorem ext20 : ExtOk Tryd.prog 20 5 := xJoin_ok ⟨_, Tryd.func20, by kernel_rfl, by kernel_rfl⟩ fun bk o c ls sep w hc hbk hn hcap hj hg => by
  have e : (ls.map fun l => (⟨l.toArray⟩ : ByteArray)).map (·.data.toList) = ls := by
    rw [List.map_map]
    exact (List.map_congr_left fun x _ => by simp).trans (List.map_id' ls)
  have := Any.strings_Join Tryd.lays156 Tryd.Builder_Extra_156 bk o c (ls.map fun l => ⟨l.toArray⟩) ⟨sep.toArray⟩ w (fun j x hx => by
      rw [List.getElem?_map, Option.map_eq_some_iff] at hx
      obtain ⟨y, hy, rfl⟩ := hx
      exact hc j y hy) hbk (by simp; omega) (by simpa using hcap) (by rw [e]; exact Nat.le_trans (Nat.le_of_lt hj) (by omega))
  rw [e, List.length_map] at this
  exact this
theorem ext33 : ExtOk Tryd.prog 33 (92 + 7) := xAtoi_ok ⟨_, Tryd.func33, by kernel_rfl, by kernel_rfl⟩
  (fun l w n hl ha hg => (Any.strconv_Atoi_ok Tryd.laysC172 ⟨l.toArray⟩ (by show l.toArray.size ≤ _; simp; omega) n ha w).mono fun e w' h => by
    obtain ⟨rfl, h2⟩ := h
    refine ⟨rfl, ?_⟩
    rcases h2 with rfl | ⟨t, rfl⟩
    · exact RowKit.Below.refl _ _
    · exact Lib.bytesWorld_below _ _ _)
  (fun l w hl ha hg => by
    obtain ⟨te, pe, hc⟩ := at5 hg
    refine (Any.strconv_Atoi_range Tryd.laysC172 ⟨l.toArray⟩ (by show l.toArray.size ≤ _; simp; omega) ha (.iface te pe) w hc (.inr ⟨te, pe, rfl⟩)).mono fun e w' h => ?_
    obtain ⟨N, rfl, _, _, hb⟩ := h
    exact ⟨⟨_, rfl⟩, hb⟩)
  (fun l w hl h1 h2 hg => by
    obtain ⟨te, pe, hc⟩ := at4 hg
    have ha : Lib.atoiAll l = Lib.NumEnd.syntax := by
      cases hh : Lib.atoiAll l with
      | ok n => exact absurd hh (h1 n)
      | range => exact absurd hh h2
      | _ => rfl
    refine (Any.strconv_Atoi_syntax Tryd.laysC172 ⟨l.toArray⟩ (by show l.toArray.size ≤ _; simp; omega) ha (.iface te pe) w hc (.inr ⟨te, pe, rfl⟩)).mono fun e w' h => ?_
    obtain ⟨N, rfl, _, _, hb⟩ := h
    exact ⟨⟨_, rfl⟩, hb⟩)
/-- the table, with what the library's functions do -/
noncomputable def tbl0 (f : Nat) : Option AFn := bif Nat.beq f 18 then some (kExt 1) else bif Nat.beq f 27 then some (kExt 2) else bif Nat.beq f 31 then some (kExt 3) else bif Nat.beq f 24 then some (kExt 4) else bif Nat.beq f 20 then some (kExt 5) else bif Nat.beq f 33 then some (kExt 99) else tbl f
theorem ok0 : TblOk Tryd.prog tbl0 := by
  intro f fn h
  unfold tbl0 at h
  cases h18 : Nat.beq f 18
  case true =>
    rw [h18] at h
    cases h
    exact .inr (.inr ⟨1, rfl, by rw [beq_nat, decide_eq_true_eq] at h18; subst h18; exact ext18⟩)
  rw [h18] at h
  cases h27 : Nat.beq f 27
  case true =>
    rw [h27] at h
    cases h
    exact .inr (.inr ⟨2, rfl, by rw [beq_nat, decide_eq_true_eq] at h27; subst h27; exact ext27⟩)
  rw [h27] at h
  cases h31 : Nat.beq f 31
  case true =>
    rw [h31] at h
    cases h
    exact .inr (.inr ⟨3, rfl, by rw [beq_nat, decide_eq_true_eq] at h31; subst h31; exact ext31⟩)
  rw [h31] at h
  cases h24 : Nat.beq f 24
  case true =>
    rw [h24] at h
    cases h
    exact .inr (.inr ⟨4, rfl, by rw [beq_nat, decide_eq_true_eq] at h24; subst h24; exact ext24⟩)
  rw [h24] at h
  cases h20 : Nat.beq f 20
  case true =>
    rw [h20] at h
    cases h
    exact .inr (.inr ⟨5, rfl, by rw [beq_nat, decide_eq_true_eq] at h20; subst h20; exact ext20⟩)
  rw [h20] at h
  cases h33 : Nat.beq f 33
  case true =>
    rw [h33] at h
    cases h
    exact .inr (.inr ⟨99, rfl, by rw [beq_nat, decide_eq_true_eq] at h33; subst h33; exact ext33⟩)
  rw [h33] at h
  exact ok f fn h
theorem h0_trace_word : H_trace_word Nn tbl0 := ⟨by kernel_rfl⟩
theorem h0_trace_Line : H_trace_Line Nn tbl0 := ⟨by kernel_rfl, h0_trace_word⟩
theorem ev_of {zs : List Int} {n i : Nat} (hz : zs.length = n * 6) (hi : i < n) (hf : ∀ x, x ∈ zs → fits x = true) : ∃ e : Ev, (zs.drop (i * 6)).take 6 = e.l ∧ e.ok := by
  obtain ⟨a, b, c, d, e, f, h⟩ := Tx.six hz hi
  refine ⟨⟨a, b, c, d, e, f⟩, h, fun x hx => hf x ?_⟩
  have : x ∈ (zs.drop (i * 6)).take 6 := by rw [h]; exact hx
  exact List.mem_of_mem_drop (List.mem_of_mem_take this)
theorem line_at {e : Ev} (he : e.ok) : CallL tbl0 9 [.agg (evc e)] Lg.nil fun v _ => v = .s e.line :=
  (line_spec (N := Nn) (F := tbl0) h0_trace_Line ⟨by kernel_rfl, by kernel_rfl, by kernel_rfl⟩ he Lg.nil).mono fun _ _ h => h.1
theorem ext11 : ExtOk Tryd.prog 11 6 := xText_ok ⟨_, Tryd.func11, by kernel_rfl, by kernel_rfl⟩ (fun ad c w => Tx.text_zero w ad c)
  fun bk o n c zs w hz hn h0 hf hcell hb hg1 hg2 => Tx.text_walk w bk o n c zs hz hn h0 hcell hb
    (fun j => by
      by_cases hj : j < n
      · obtain ⟨e, h1, h2⟩ := ev_of hz hj hf
        rw [h1]
        exact Nat.le_trans (line_len h2) (by omega)
      · have : (zs.drop (j * 6)).take 6 = [] := by
          rw [List.drop_eq_nil_of_le (by rw [hz]; exact Nat.mul_le_mul_right 6 (by omega))]; rfl
        rw [this]
        exact Nat.zero_le _)
    fun i wx hi hbl => by
      obtain ⟨e, h1, h2⟩ := ev_of hz hi hf
      rw [h1]
      exact calls_strG mixed ok0 (line_at h2) (.cons (.agg (.cons (.i _ _) (.cons (.i _ _) (.cons (.i _ _) (.cons (.i _ _) (.cons (.i _ _) (.cons (.i _ _) .nil))))))) .nil) (Nat.le_trans hg1 hbl.size) (hg2.mono hg1 hbl.block)
/-- the table, with what is known -/
noncomputable def tblK (f : Nat) : Option AFn := bif Nat.beq f 18 then some (kExt 1) else bif Nat.beq f 27 then some (kExt 2) else bif Nat.beq f 31 then some (kExt 3) else bif Nat.beq f 24 then some (kExt 4) else bif Nat.beq f 20 then some (kExt 5) else bif Nat.beq f 33 then some (kExt 99) else bif Nat.beq f 11 then some (kExt 6) else tbl f
theorem okK : TblOk Tryd.prog tblK := by
  intro f fn h
  unfold tblK at h
  cases h18 : Nat.beq f 18
  case true =>
    rw [h18] at h
    cases h
    exact .inr (.inr ⟨1, rfl, by rw [beq_nat, decide_eq_true_eq] at h18; subst h18; exact ext18⟩)
  rw [h18] at h
  cases h27 : Nat.beq f 27
  case true =>
    rw [h27] at h
    cases h
    exact .inr (.inr ⟨2, rfl, by rw [beq_nat, decide_eq_true_eq] at h27; subst h27; exact ext27⟩)
  rw [h27] at h
  cases h31 : Nat.beq f 31
  case true =>
    rw [h31] at h
    cases h
    exact .inr (.inr ⟨3, rfl, by rw [beq_nat, decide_eq_true_eq] at h31; subst h31; exact ext31⟩)
  rw [h31] at h
  cases h24 : Nat.beq f 24
  case true =>
    rw [h24] at h
    cases h
    exact .inr (.inr ⟨4, rfl, by rw [beq_nat, decide_eq_true_eq] at h24; subst h24; exact ext24⟩)
  rw [h24] at h
  cases h20 : Nat.beq f 20
  case true =>
    rw [h20] at h
    cases h
    exact .inr (.inr ⟨5, rfl, by rw [beq_nat, decide_eq_true_eq] at h20; subst h20; exact ext20⟩)
  rw [h20] at h
  cases h33 : Nat.beq f 33
  case true =>
    rw [h33] at h
    cases h
    exact .inr (.inr ⟨99, rfl, by rw [beq_nat, decide_eq_true_eq] at h33; subst h33; exact ext33⟩)
  rw [h33] at h
  cases h11 : Nat.beq f 11
  case true =>
    rw [h11] at h
    cases h
    exact .inr (.inr ⟨6, rfl, by rw [beq_nat, decide_eq_true_eq] at h11; subst h11; exact ext11⟩)
  rw [h11] at h
  exact ok f fn h
theorem h_slices_Index_stringstring : H_slices_Index_stringstring Nn tblK := ⟨by kernel_rfl⟩
theorem h_trace_kind : H_trace_kind Nn tblK := ⟨by kernel_rfl, h_slices_Index_stringstring⟩
theorem h_trace_word : H_trace_word Nn tblK := ⟨by kernel_rfl⟩
theorem h_trace_Line : H_trace_Line Nn tblK := ⟨by kernel_rfl, h_trace_word⟩
theorem h_trace_event : H_trace_event Nn tblK := ⟨by kernel_rfl, h_trace_kind, h_trace_Line⟩
theorem h_trace_Parse : H_trace_Parse Nn tblK := ⟨by kernel_rfl, h_trace_event⟩
theorem h_trace_First : H_trace_First Nn tblK := ⟨by kernel_rfl⟩
theorem h_tarpaulinlaw21_awake : H_tarpaulinlaw21_awake Nn tblK := ⟨by kernel_rfl, h_trace_Parse, h_trace_Line, h_trace_First⟩
theorem h_tarpaulinref17_decimal : H_tarpaulinref17_decimal Nn tblK := ⟨by kernel_rfl⟩
theorem h_tarpaulinref17_Line : H_tarpaulinref17_Line Nn tblK := ⟨by kernel_rfl, h_tarpaulinref17_decimal⟩
theorem h_tarpaulinalike_Round : H_tarpaulinalike_Round Nn tblK := ⟨by kernel_rfl⟩
theorem traceForms_true (a0 : Int) (a1 : Int) : ∃ m S, acall tblK m 5 [.i .i64 a0, .i .i64 a1] S0 = some (.b true, S) :=
  true_of_callLG (traceForms_law (N := Nn) (F := tblK) (t := 92) (by kernel_rfl) (by kernel_rfl) (by kernel_rfl) (by kernel_rfl) (by kernel_rfl) (by kernel_rfl) (by kernel_rfl) (by kernel_rfl) h_tarpaulinlaw21_awake h_trace_Parse h_tarpaulinref17_Line h_tarpaulinalike_Round a0 a1)
end Go.Proofs.YtnoaljgjplejiaaDoor.T
