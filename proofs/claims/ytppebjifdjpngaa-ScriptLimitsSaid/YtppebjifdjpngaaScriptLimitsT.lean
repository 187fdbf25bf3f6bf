/- The code of the functions that ScriptLimits reaches, and that it is compiled from the seat's program. PRINTED by our claimlib.py over our printam.lean. -/
import Derived.Test.YtppebjifdjpngaaChecked
import Derived.Test.YtppebjifdjpngaaScriptLimitsG2
import Derived.KernelRfl
set_option maxRecDepth 100000
set_option linter.unusedVariables false
namespace Go.Proofs.Ytppebjifdjpngaa.T
open Go.AM
/-- which of the program's functions a name stands for -/
def Nn (k : Nat) : Nat := bif Nat.beq k 178 then 18 else bif Nat.beq k 179 then 10 else bif Nat.beq k 181 then 20 else bif Nat.beq k 182 then 19 else bif Nat.beq k 183 then 11 else bif Nat.beq k 185 then 9 else bif Nat.beq k 187 then 12 else bif Nat.beq k 188 then 14 else bif Nat.beq k 190 then 4 else 0
/-- tarpaulin/tarpaulinlaw3.ScriptLimits -/
def b4 : Nat := 4083
theorem c4 : compFn Try.prog b4 Try.f4 = some (c_tarpaulinlaw3_ScriptLimits Nn) := by kernel_rfl
/-- tarpaulin/tarpaulinlaw3.awake -/
def b9 : Nat := 351
def a9 : AFn := ⟨(.seq (.reg [⟨.l 0, none, .mv, [.c (.b false)]⟩])
 (.seq (.reg [⟨.t 10, none, (.build [(.i .i64 0), (.i .i64 0), (.i .i64 0)] [(0, 1), (1, 1)]), [.c (.i .i64 2), .c (.i .i64 1)]⟩, ⟨.t 11, none, (.build [(.i .i64 0), (.i .i64 0), (.i .i64 0)] [(0, 1), (1, 1), (2, 1)]), [.c (.i .i64 1), .c (.i .i64 (-1)), .c (.i .i64 2)]⟩, ⟨.t 12, none, (.bslice [(.i .i64 0), (.i .i64 0), (.i .i64 0)] 2 3 [0, 1]), [.t 10, .t 11]⟩, ⟨.t 13, none, (.call 10), [.t 12]⟩, ⟨.t 9, none, .mv, [.t 13]⟩, ⟨.t 14, none, (.ext 0), [.t 9]⟩, ⟨.t 15, none, (.ext 1), [.t 9]⟩, ⟨.l 1, none, .mv, [.t 14]⟩, ⟨.l 2, none, .mv, [.t 15]⟩])
 (.seq (.reg [⟨.t 17, none, .mv, [.l 1]⟩, ⟨.t 18, none, (.call 11), [.t 17]⟩, ⟨.t 16, none, .mv, [.t 18]⟩, ⟨.t 19, none, (.ext 0), [.t 16]⟩, ⟨.t 20, none, (.ext 1), [.t 16]⟩, ⟨.l 3, none, .mv, [.t 19]⟩, ⟨.l 4, none, .mv, [.t 20]⟩])
 (.seq (.reg [⟨.t 22, none, (.bslice [(.i .u8 0)] 1 1 [0]), [.c (.i .u8 3)]⟩, ⟨.t 23, none, (.call 11), [.t 22]⟩, ⟨.t 21, none, .mv, [.t 23]⟩, ⟨.t 24, none, (.ext 0), [.t 21]⟩, ⟨.t 25, none, (.ext 1), [.t 21]⟩, ⟨.t 5, none, .mv, [.t 24]⟩, ⟨.l 6, none, .mv, [.t 25]⟩])
 (.seq (.reg [⟨.t 27, none, (.build [(.i .i64 0), (.i .i64 0), (.i .i64 0)] []), []⟩, ⟨.t 28, none, (.bslice [(.i .i64 0), (.i .i64 0), (.i .i64 0)] 1 3 [0]), [.t 27]⟩, ⟨.t 29, none, (.call 10), [.t 28]⟩, ⟨.t 26, none, .mv, [.t 29]⟩, ⟨.t 30, none, (.ext 0), [.t 26]⟩, ⟨.t 31, none, (.ext 1), [.t 26]⟩, ⟨.t 7, none, .mv, [.t 30]⟩, ⟨.l 8, none, .mv, [.t 31]⟩])
 (.seq (.reg [⟨.t 32, none, .mv, [.l 2]⟩, ⟨.t 33, none, (.bin .eql), [.t 32, .c (.i .i64 0)]⟩, ⟨.t 34, none, .mv, [.t 33]⟩, ⟨.t 35, (some (.t 34, true)), .mv, [.l 1]⟩, ⟨.t 36, (some (.t 34, true)), .lenSl, [.t 35]⟩, ⟨.t 37, (some (.t 34, true)), (.bin .eql), [.t 36, .c (.i .i64 26)]⟩, ⟨.t 38, none, .pick, [.t 34, .t 37, .c (.b false)]⟩, ⟨.t 39, none, .mv, [.t 38]⟩, ⟨.t 40, (some (.t 39, true)), .mv, [.l 1]⟩, ⟨.t 41, (some (.t 39, true)), (.iad 1), [.t 40, .c (.i .i64 0)]⟩, ⟨.t 42, (some (.t 39, true)), (.ld none), [.t 41]⟩, ⟨.t 43, (some (.t 39, true)), (.bin .eql), [.t 42, .c (.i .u8 2)]⟩, ⟨.t 44, none, .pick, [.t 39, .t 43, .c (.b false)]⟩, ⟨.t 45, none, .mv, [.t 44]⟩, ⟨.t 46, (some (.t 45, true)), .mv, [.l 1]⟩, ⟨.t 47, (some (.t 45, true)), (.iad 1), [.t 46, .c (.i .i64 1)]⟩, ⟨.t 48, (some (.t 45, true)), (.ld none), [.t 47]⟩, ⟨.t 49, (some (.t 45, true)), (.bin .eql), [.t 48, .c (.i .u8 1)]⟩, ⟨.t 50, none, .pick, [.t 45, .t 49, .c (.b false)]⟩, ⟨.t 51, none, .mv, [.t 50]⟩, ⟨.t 52, (some (.t 51, true)), .mv, [.l 4]⟩, ⟨.t 53, (some (.t 51, true)), (.bin .eql), [.t 52, .c (.i .i64 0)]⟩, ⟨.t 54, none, .pick, [.t 51, .t 53, .c (.b false)]⟩, ⟨.t 55, none, .mv, [.t 54]⟩, ⟨.t 56, (some (.t 55, true)), .mv, [.l 3]⟩, ⟨.t 57, (some (.t 55, true)), .lenSl, [.t 56]⟩, ⟨.t 58, (some (.t 55, true)), (.bin .eql), [.t 57, .c (.i .i64 2)]⟩, ⟨.t 59, none, .pick, [.t 55, .t 58, .c (.b false)]⟩, ⟨.t 60, none, .mv, [.t 59]⟩, ⟨.t 61, (some (.t 60, true)), .mv, [.l 3]⟩, ⟨.t 62, (some (.t 60, true)), (.iad 3), [.t 61, .c (.i .i64 1)]⟩, ⟨.t 63, (some (.t 60, true)), (.ld (some 3)), [.t 62]⟩, ⟨.t 64, (some (.t 60, true)), (.build [(.i .i64 0), (.i .i64 0), (.i .i64 0)] [(0, 1), (1, 1), (2, 1)]), [.c (.i .i64 1), .c (.i .i64 (-1)), .c (.i .i64 2)]⟩, ⟨.t 65, (some (.t 60, true)), (.eq false (.agg [(0, 1), (1, 1), (2, 1)])), [.t 63, .t 64]⟩, ⟨.t 66, none, .pick, [.t 60, .t 65, .c (.b false)]⟩, ⟨.t 67, none, .mv, [.t 66]⟩, ⟨.t 68, (some (.t 67, true)), .mv, [.l 6]⟩, ⟨.t 69, (some (.t 67, true)), (.bin .eql), [.t 68, .c (.i .i64 2)]⟩, ⟨.t 70, none, .pick, [.t 67, .t 69, .c (.b false)]⟩, ⟨.t 71, none, .mv, [.t 70]⟩, ⟨.t 72, (some (.t 71, true)), .mv, [.l 8]⟩, ⟨.t 73, (some (.t 71, true)), (.bin .eql), [.t 72, .c (.i .i64 1)]⟩, ⟨.t 74, none, .pick, [.t 71, .t 73, .c (.b false)]⟩, ⟨.t 75, none, .mv, [.t 74]⟩, ⟨.t 76, (some (.t 75, true)), .mv, [.l 3]⟩, ⟨.t 77, (some (.t 75, true)), (.iad 3), [.t 76, .c (.i .i64 0)]⟩, ⟨.t 78, (some (.t 75, true)), (.ld (some 3)), [.t 77]⟩, ⟨.t 79, (some (.t 75, true)), (.call 16), [.t 78]⟩, ⟨.t 80, (some (.t 75, true)), (.bin .eql), [.t 79, .c (.i .i64 0)]⟩, ⟨.t 81, none, .pick, [.t 75, .t 80, .c (.b false)]⟩, ⟨.t 82, none, .mv, [.t 81]⟩, ⟨.t 83, (some (.t 82, true)), (.build [(.i .i64 0), (.i .i64 0), (.i .i64 0)] [(0, 1), (1, 1)]), [.c (.i .i64 2), .c (.i .i64 (-1))]⟩, ⟨.t 84, (some (.t 82, true)), (.call 16), [.t 83]⟩, ⟨.t 85, (some (.t 82, true)), (.bin .eql), [.t 84, .c (.i .i64 1)]⟩, ⟨.t 86, none, .pick, [.t 82, .t 85, .c (.b false)]⟩, ⟨.t 87, none, .mv, [.t 86]⟩, ⟨.t 88, (some (.t 87, true)), (.call 15), [.c (.i .i64 (-1)), .c (.i .i64 3)]⟩, ⟨.t 89, (some (.t 87, true)), (.bin .eql), [.t 88, .c (.i .i64 2)]⟩, ⟨.t 90, none, .pick, [.t 87, .t 89, .c (.b false)]⟩, ⟨.t 91, none, .mv, [.t 90]⟩, ⟨.t 92, (some (.t 91, true)), (.call 15), [.c (.i .i64 5), .c (.i .i64 0)]⟩, ⟨.t 93, (some (.t 91, true)), (.bin .eql), [.t 92, .c (.i .i64 0)]⟩, ⟨.t 94, none, .pick, [.t 91, .t 93, .c (.b false)]⟩, ⟨.l 0, none, .mv, [.t 94]⟩])
 .ret)))))), [.tmp (.l 0)]⟩
theorem c9 : compFn Try.prog b9 Try.f9 = some a9 := by kernel_rfl
/-- tarpaulin/script.Encode -/
def b10 : Nat := 3629
theorem c10 : compFn Try.prog b10 Try.f10 = some (c_script_Encode Nn) := by kernel_rfl
/-- tarpaulin/script.Decode -/
def b11 : Nat := 61
theorem c11 : compFn Try.prog b11 Try.f11 = some (c_script_Decode Nn) := by kernel_rfl
/-- tarpaulin/tarpaulinlaw3.same -/
def b12 : Nat := 51
theorem c12 : compFn Try.prog b12 Try.f12 = some (c_tarpaulinlaw3_same Nn) := by kernel_rfl
/-- tarpaulin/tarpaulinlaw3.bytes -/
def b14 : Nat := 19
theorem c14 : compFn Try.prog b14 Try.f14 = some (c_tarpaulinlaw3_bytes Nn) := by kernel_rfl
/-- tarpaulin/script.Pick -/
def b15 : Nat := 19
def a15 : AFn := ⟨(.seq (.reg [⟨.l 4, none, .mv, [.c (.i .i64 0)]⟩])
 (.seq (.seq (.reg [⟨.t 5, none, .mv, [.l 1]⟩, ⟨.t 6, none, (.bin .lss), [.t 5, .c (.i .i64 1)]⟩])
 (.cond (.t 6) (.seq (.reg [⟨.l 4, none, .mv, [.c (.i .i64 0)]⟩])
 .ret) .skip))
 (.seq (.reg [⟨.t 7, none, .mv, [.l 0]⟩, ⟨.t 8, none, .mv, [.l 1]⟩, ⟨.t 9, none, (.bin .rem), [.t 7, .t 8]⟩, ⟨.l 0, none, .mv, [.t 9]⟩])
 (.seq (.seq (.reg [⟨.t 10, none, .mv, [.l 0]⟩, ⟨.t 11, none, (.bin .lss), [.t 10, .c (.i .i64 0)]⟩])
 (.cond (.t 11) (.reg [⟨.t 12, none, .mv, [.l 0]⟩, ⟨.t 13, none, .mv, [.l 1]⟩, ⟨.t 14, none, (.bin .add), [.t 12, .t 13]⟩, ⟨.l 0, none, .mv, [.t 14]⟩]) .skip))
 (.seq (.reg [⟨.t 15, none, .mv, [.l 0]⟩, ⟨.l 4, none, .mv, [.t 15]⟩])
 .ret))))), [.tmp (.l 4)]⟩
theorem c15 : compFn Try.prog b15 Try.f15 = some a15 := by kernel_rfl
/-- tarpaulin/script.Check -/
def b16 : Nat := 7
def a16 : AFn := ⟨(.seq (.reg [⟨.l 1, none, .box, [.l 0]⟩, ⟨.l 2, none, .mv, [.c (.i .i64 0)]⟩])
 (.seq (.seq (.reg [⟨.t 3, none, (.fad 0), [.l 1]⟩, ⟨.t 4, none, (.ld none), [.t 3]⟩, ⟨.t 5, none, (.bin .eql), [.t 4, .c (.i .i64 1)]⟩, ⟨.t 6, none, .mv, [.t 5]⟩, ⟨.t 7, (some (.t 6, false)), (.fad 0), [.l 1]⟩, ⟨.t 8, (some (.t 6, false)), (.ld none), [.t 7]⟩, ⟨.t 9, (some (.t 6, false)), (.bin .eql), [.t 8, .c (.i .i64 2)]⟩, ⟨.t 10, (some (.t 6, false)), .mv, [.t 9]⟩, ⟨.t 11, (some (.t 10, true)), (.fad 1), [.l 1]⟩, ⟨.t 12, (some (.t 10, true)), (.ld none), [.t 11]⟩, ⟨.t 13, (some (.t 10, true)), (.bin .geq), [.t 12, .c (.i .i64 0)]⟩, ⟨.t 14, (some (.t 6, false)), .pick, [.t 10, .t 13, .c (.b false)]⟩, ⟨.t 15, (some (.t 6, false)), .mv, [.t 14]⟩, ⟨.t 16, (some (.t 15, true)), (.fad 2), [.l 1]⟩, ⟨.t 17, (some (.t 15, true)), (.ld none), [.t 16]⟩, ⟨.t 18, (some (.t 15, true)), (.bin .eql), [.t 17, .c (.i .i64 0)]⟩, ⟨.t 19, (some (.t 6, false)), .pick, [.t 15, .t 18, .c (.b false)]⟩, ⟨.t 20, none, .pick, [.t 6, .c (.b true), .t 19]⟩])
 (.cond (.t 20) (.seq (.reg [⟨.l 2, none, .mv, [.c (.i .i64 0)]⟩])
 .ret) .skip))
 (.seq (.reg [⟨.l 2, none, .mv, [.c (.i .i64 1)]⟩])
 .ret))), [.tmp (.l 2)]⟩
theorem c16 : compFn Try.prog b16 Try.f16 = some a16 := by kernel_rfl
/-- tarpaulin/script.put -/
def b18 : Nat := 115
theorem c18 : compFn Try.prog b18 Try.f18 = some (c_script_put Nn) := by kernel_rfl
/-- tarpaulin/script.first -/
def b19 : Nat := 1037
theorem c19 : compFn Try.prog b19 Try.f19 = some (c_script_first Nn) := by kernel_rfl
/-- tarpaulin/script.get -/
def b20 : Nat := 61
theorem c20 : compFn Try.prog b20 Try.f20 = some (c_script_get Nn) := by kernel_rfl
noncomputable def tbl : Nat → Option AFn
  | 4 => some (c_tarpaulinlaw3_ScriptLimits Nn)
  | 9 => some a9
  | 10 => some (c_script_Encode Nn)
  | 11 => some (c_script_Decode Nn)
  | 12 => some (c_tarpaulinlaw3_same Nn)
  | 14 => some (c_tarpaulinlaw3_bytes Nn)
  | 15 => some a15
  | 16 => some a16
  | 18 => some (c_script_put Nn)
  | 19 => some (c_script_first Nn)
  | 20 => some (c_script_get Nn)
  | _ => none
theorem ok : TblOk Try.prog tbl := by
  intro f fn h
  unfold tbl at h
  split at h
  · cases h; exact .inl ⟨b4, _, Try.func4, c4⟩
  · cases h; exact .inl ⟨b9, _, Try.func9, c9⟩
  · cases h; exact .inl ⟨b10, _, Try.func10, c10⟩
  · cases h; exact .inl ⟨b11, _, Try.func11, c11⟩
  · cases h; exact .inl ⟨b12, _, Try.func12, c12⟩
  · cases h; exact .inl ⟨b14, _, Try.func14, c14⟩
  · cases h; exact .inl ⟨b15, _, Try.func15, c15⟩
  · cases h; exact .inl ⟨b16, _, Try.func16, c16⟩
  · cases h; exact .inl ⟨b18, _, Try.func18, c18⟩
  · cases h; exact .inl ⟨b19, _, Try.func19, c19⟩
  · cases h; exact .inl ⟨b20, _, Try.func20, c20⟩
  · cases h
theorem mixed : Try.prog.follows .mixedOrders = true := by kernel_rfl
theorem awake9 : KnownTrue Try.prog 9 := known mixed ok Try.func9 c9 (n := 100000) (by kernel_rfl)
/-- the table, with what is known -/
noncomputable def tblK (f : Nat) : Option AFn := bif Nat.beq f 9 then some kTrue else tbl f
theorem okK : TblOk Try.prog tblK := by
  intro f fn h
  unfold tblK at h
  cases h9 : Nat.beq f 9
  case true =>
    rw [h9] at h
    cases h
    exact .inr ⟨rfl, by rw [beq_nat, decide_eq_true_eq] at h9; subst h9; exact awake9⟩
  rw [h9] at h
  exact ok f fn h
theorem h_script_put : H_script_put Nn tblK := ⟨by kernel_rfl⟩
theorem h_script_Encode : H_script_Encode Nn tblK := ⟨by kernel_rfl, h_script_put⟩
theorem h_script_get : H_script_get Nn tblK := ⟨by kernel_rfl⟩
theorem h_script_first : H_script_first Nn tblK := ⟨by kernel_rfl, h_script_get⟩
theorem h_script_Decode : H_script_Decode Nn tblK := ⟨by kernel_rfl, h_script_first⟩
theorem h_tarpaulinlaw3_bytes : H_tarpaulinlaw3_bytes Nn tblK := ⟨by kernel_rfl⟩
theorem h_tarpaulinlaw3_same : H_tarpaulinlaw3_same Nn tblK := ⟨by kernel_rfl⟩
theorem scriptLimits_true (a0 : Int) (a1 : Bool) : ∃ m S, acall tblK m 4 [.i .i64 a0, .b a1] ⟨.nil, 0⟩ = some (.b true, S) :=
  true_of_callL (scriptLimits_law (N := Nn) (F := tblK) (by kernel_rfl) (by kernel_rfl) h_script_Encode h_script_Decode h_tarpaulinlaw3_bytes h_tarpaulinlaw3_same a0 a1)
end Go.Proofs.Ytppebjifdjpngaa.T
