/- The texts GenW, GenP, GenQ, LibClock, LgE, LibRing, LibWait, LibChan, LibMap, LibHeapA, LibHeapP, LibHeapB, LibHeapC, LibHeapD, LibExpire, GenC, LibTimerA, LibTimerB, LibTimerC, LgR, LibSlice, LibSignal, LgT, LgO, LibEnd, LibEndB, LibEndC, LibTree, LibTreeB, LibTreeC of a proof of ProgRegs, merged. -/
import Derived.Test.YtkfcecaoaplfkaaDoorRegsG1
import Derived.KernelRfl
import Derived.ChangeSlices
import Derived.WideShapes
import Derived.ChangeOld
import Derived.Carry
import Derived.ChangeArms
/- The code of functions, with names for their numbers, and what is left of its weakest preconditions. PRINTED by our printgen.py. -/
set_option linter.unusedVariables false
set_option maxRecDepth 100000
namespace Go.AM
def k_prog_register : Nat := 222
def k_prog_may : Nat := 223
def k_slices_IndexFunc_CaseCase : Nat := 224
def k_slices_ContainsFunc_CaseCase : Nat := 225
def k_prog_good_1 : Nat := 226
def k_prog_good : Nat := 227
def k_prog_Check_1 : Nat := 228
def k_slices_IndexFunc_InstrInstr : Nat := 229
def k_slices_ContainsFunc_InstrInstr : Nat := 230
def k_prog_Check : Nat := 231
def q_prog_register_1 (N : TN) : ACode := (.seq (.reg [⟨.l 2, none, .mv, [.c (.b false)]⟩]) (.seq (.reg [⟨.t 3, none, .mv, [.l 0]⟩, ⟨.t 4, none, .bin .geq, [.t 3, .c (.i .i64 0)]⟩, ⟨.t 5, none, .mv, [.t 4]⟩, ⟨.t 6, some (.t 5, true), .mv, [.l 0]⟩, ⟨.t 7, some (.t 5, true), .bin .lss, [.t 6, .c (.i .i64 8)]⟩, ⟨.t 8, none, .pick, [.t 5, .t 7, .c (.b false)]⟩, ⟨.l 2, none, .mv, [.t 8]⟩]) .ret))
noncomputable def D_prog_register_1 (F : TF) (N : TN) (Q : TQ) (x0 : AV) (L : Lg) : Prop :=
 wpOp F (.bin .geq) [x0, (.i .i64 0)] L fun v1 L1 =>
 gdOp F v1 true .mv [x0] L1 fun v2 L2 =>
 gdOp F v1 true (.bin .lss) [v2, (.i .i64 8)] L2 fun v3 L3 =>
 wpOp F .pick [v1, v3, (.b false)] L3 fun v4 L4 =>
 fin1 (some v4) Q L4
theorem e_prog_register_1 (F : TF) (N : TN) (Q : TQ) (l t : Env) (L : Lg) : wp F (q_prog_register_1 N) l t L (fin [.tmp (.l 2)] Q) nE (fin [.tmp (.l 2)] Q) = D_prog_register_1 F N Q (l 0) L := by kernel_rfl
/-- tarpaulin/prog.register -/
def c_prog_register (N : TN) : AFn := ⟨q_prog_register_1 N, [.tmp (.l 2)]⟩
structure H_prog_register (N : TN) (F : TF) : Prop where
  code : F (N k_prog_register) = some (c_prog_register N)
theorem r_prog_register {F : TF} {N : TN} (h : F (N k_prog_register) = some (c_prog_register N)) {Q : TQ} {a0 : AV} {L : Lg} (e : D_prog_register_1 F N Q a0 L) : CallL F (N k_prog_register) [a0] L Q :=
  CallL.of_wp h (Eq.mpr (Eq.trans (e_prog_register_1 F N Q (initE [a0] 0) Env.nil L) (by kernel_rfl : _ = D_prog_register_1 F N Q a0 L)) e)
def q_prog_may_1 (N : TN) : ACode := (.seq (.reg [⟨.l 6, none, .mv, [.c (.b false)]⟩]) (.seq (.seq (.reg [⟨.l 7, none, .mv, [.l 0]⟩]) (.block 0 (.seq (.reg [⟨.t 9, none, .bin .eql, [.l 7, .c (.i .u8 114)]⟩, ⟨.t 8, none, .mv, [.t 9]⟩]) (.cond (.t 8) (.seq (.reg [⟨.t 10, none, .mv, [.l 1]⟩, ⟨.t 11, none, .call (N k_prog_register), [.t 10]⟩, ⟨.l 6, none, .mv, [.t 11]⟩]) .ret) (.seq (.reg [⟨.t 13, none, .bin .eql, [.l 7, .c (.i .u8 112)]⟩, ⟨.t 12, none, .mv, [.t 13]⟩]) (.cond (.t 12) (.seq (.reg [⟨.t 14, none, .mv, [.l 1]⟩, ⟨.t 15, none, .bin .geq, [.t 14, .c (.i .i64 0)]⟩, ⟨.t 16, none, .mv, [.t 15]⟩, ⟨.t 17, some (.t 16, true), .mv, [.l 1]⟩, ⟨.t 18, some (.t 16, true), .mv, [.l 2]⟩, ⟨.t 19, some (.t 16, true), .bin .leq, [.t 17, .t 18]⟩, ⟨.t 20, none, .pick, [.t 16, .t 19, .c (.b false)]⟩, ⟨.l 6, none, .mv, [.t 20]⟩]) .ret) (.seq (.reg [⟨.t 22, none, .bin .eql, [.l 7, .c (.i .u8 103)]⟩, ⟨.t 21, none, .mv, [.t 22]⟩]) (.cond (.t 21) (.seq (.reg [⟨.t 23, none, .mv, [.l 1]⟩, ⟨.t 24, none, .bin .geq, [.t 23, .c (.i .i64 0)]⟩, ⟨.t 25, none, .mv, [.t 24]⟩, ⟨.t 26, some (.t 25, true), .mv, [.l 1]⟩, ⟨.t 27, some (.t 25, true), .bin .lss, [.t 26, .c (.i .i64 16)]⟩, ⟨.t 28, none, .pick, [.t 25, .t 27, .c (.b false)]⟩, ⟨.l 6, none, .mv, [.t 28]⟩]) .ret) (.seq (.reg [⟨.t 30, none, .bin .eql, [.l 7, .c (.i .u8 45)]⟩, ⟨.t 29, none, .mv, [.t 30]⟩]) (.cond (.t 29) (.seq (.reg [⟨.t 31, none, .mv, [.l 1]⟩, ⟨.t 32, none, .bin .eql, [.t 31, .c (.i .i64 0)]⟩, ⟨.l 6, none, .mv, [.t 32]⟩]) .ret) .skip)))))))))) (.seq (.reg [⟨.l 6, none, .mv, [.c (.b true)]⟩]) .ret)))
noncomputable def D_prog_may_1 (F : TF) (N : TN) (Q : TQ) (x0 : AV) (x1 : AV) (x2 : AV) (L : Lg) : Prop :=
 wpOp F (.bin .eql) [x0, (.i .u8 114)] L fun v1 L1 =>
 condW v1
 (CallL F (N k_prog_register) [x1] L1 fun v2 L2 =>
 fin1 (some v2) Q L2)
 (wpOp F (.bin .eql) [x0, (.i .u8 112)] L1 fun v3 L3 =>
 condW v3
 (wpOp F (.bin .geq) [x1, (.i .i64 0)] L3 fun v4 L4 =>
 gdOp F v4 true .mv [x1] L4 fun v5 L5 =>
 gdOp F v4 true .mv [x2] L5 fun v6 L6 =>
 gdOp F v4 true (.bin .leq) [v5, v6] L6 fun v7 L7 =>
 wpOp F .pick [v4, v7, (.b false)] L7 fun v8 L8 =>
 fin1 (some v8) Q L8)
 (wpOp F (.bin .eql) [x0, (.i .u8 103)] L3 fun v9 L9 =>
 condW v9
 (wpOp F (.bin .geq) [x1, (.i .i64 0)] L9 fun v10 L10 =>
 gdOp F v10 true .mv [x1] L10 fun v11 L11 =>
 gdOp F v10 true (.bin .lss) [v11, (.i .i64 16)] L11 fun v12 L12 =>
 wpOp F .pick [v10, v12, (.b false)] L12 fun v13 L13 =>
 fin1 (some v13) Q L13)
 (wpOp F (.bin .eql) [x0, (.i .u8 45)] L9 fun v14 L14 =>
 condW v14
 (wpOp F (.bin .eql) [x1, (.i .i64 0)] L14 fun v15 L15 =>
 fin1 (some v15) Q L15)
 (fin1 (some (.b true)) Q L14))))
theorem e_prog_may_1 (F : TF) (N : TN) (Q : TQ) (l t : Env) (L : Lg) : wp F (q_prog_may_1 N) l t L (fin [.tmp (.l 6)] Q) nE (fin [.tmp (.l 6)] Q) = D_prog_may_1 F N Q (l 0) (l 1) (l 2) L := by kernel_rfl
/-- tarpaulin/prog.may -/
def c_prog_may (N : TN) : AFn := ⟨q_prog_may_1 N, [.tmp (.l 6)]⟩
structure H_prog_may (N : TN) (F : TF) : Prop where
  code : F (N k_prog_may) = some (c_prog_may N)
  prog_register : H_prog_register N F
theorem r_prog_may {F : TF} {N : TN} (h : F (N k_prog_may) = some (c_prog_may N)) {Q : TQ} {a0 a1 a2 : AV} {L : Lg} (e : D_prog_may_1 F N Q a0 a1 a2 L) : CallL F (N k_prog_may) [a0, a1, a2] L Q :=
  CallL.of_wp h (Eq.mpr (Eq.trans (e_prog_may_1 F N Q (initE [a0, a1, a2] 0) Env.nil L) (by kernel_rfl : _ = D_prog_may_1 F N Q a0 a1 a2 L)) e)
def q_slices_IndexFunc_CaseCase_3 (N : TN) : ACode := (.seq (.reg [⟨.l 4, none, .mv, [.c (.i .i64 (-1))]⟩]) .ret)
noncomputable def D_slices_IndexFunc_CaseCase_3 (F : TF) (N : TN) (Q : TQ) (L : Lg) : Prop :=
 fin1 (some (.i .i64 (-1))) Q L
theorem e_slices_IndexFunc_CaseCase_3 (F : TF) (N : TN) (Q : TQ) (l t : Env) (L : Lg) : wp F (q_slices_IndexFunc_CaseCase_3 N) l t L (fin [.tmp (.l 4)] Q) nE (fin [.tmp (.l 4)] Q) = D_slices_IndexFunc_CaseCase_3 F N Q L := by kernel_rfl
def w_slices_IndexFunc_CaseCase_2 (F : TF) (N : TN) (Q : TQ) : Kn := (fun (l t : Env) (L : Lg) => D_slices_IndexFunc_CaseCase_3 F N Q L)
def y_slices_IndexFunc_CaseCase_5 (F : TF) (N : TN) (Q : TQ) : Nat → Kn := (fun (j : Nat) (l t : Env) (L : Lg) => bif Nat.beq j 0 then (w_slices_IndexFunc_CaseCase_2 F N Q) l t L else nE j l t L)
def q_slices_IndexFunc_CaseCase_7 (N : TN) : ACode := (.seq (.reg [⟨.t 9, none, .bin .lss, [.l 8, .l 7]⟩]) (.seq (.cond (.t 9) .skip (.exit 0)) (.seq (.block 1 (.seq (.reg [⟨.t 10, none, .mv, [.l 8]⟩, ⟨.l 5, none, .mv, [.t 10]⟩]) (.seq (.reg [⟨.t 11, none, .mv, [.l 1]⟩, ⟨.t 12, none, .mv, [.l 0]⟩, ⟨.t 13, none, .mv, [.l 5]⟩, ⟨.t 14, none, .iad 3, [.t 12, .t 13]⟩, ⟨.t 15, none, .ld (some 3), [.t 14]⟩, ⟨.t 16, none, .callv, [.t 11, .t 15]⟩]) (.cond (.t 16) (.seq (.reg [⟨.t 17, none, .mv, [.l 5]⟩, ⟨.l 4, none, .mv, [.t 17]⟩]) .ret) .skip)))) (.reg [⟨.t 18, none, .bin .add, [.l 8, .c (.i .i64 1)]⟩, ⟨.l 8, none, .mv, [.t 18]⟩]))))
noncomputable def D_slices_IndexFunc_CaseCase_7 (F : TF) (N : TN) (Q : TQ) (k1 : TK) (l : Env) (L : Lg) : Prop :=
 wpOp F (.bin .lss) [(l 8), (l 7)] L fun v1 L1 =>
 condW v1
 (wpOp F (.iad 3) [(l 0), (l 8)] L1 fun v2 L2 =>
 wpOp F (.ld (some 3)) [v2] L2 fun v3 L3 =>
 wpOp F .callv [(l 1), v3] L3 fun v4 L4 =>
 condW v4
 (fin1 (some (l 8)) Q L4)
 (wpOp F (.bin .add) [(l 8), (.i .i64 1)] L4 fun v5 L5 =>
 k1 (Env.put (Env.put l 5 (l 8)) 8 v5) L5))
 (D_slices_IndexFunc_CaseCase_3 F N Q L1)
theorem e_slices_IndexFunc_CaseCase_7 (F : TF) (N : TN) (Q : TQ) (k1 : TK) (l t : Env) (L : Lg) : wp F (q_slices_IndexFunc_CaseCase_7 N) l t L (fun (l _ : Env) (L : Lg) => k1 l L) (y_slices_IndexFunc_CaseCase_5 F N Q) (fin [.tmp (.l 4)] Q) = D_slices_IndexFunc_CaseCase_7 F N Q k1 l L := by kernel_rfl
def q_slices_IndexFunc_CaseCase_6 (N : TN) : ACode := (.loop (q_slices_IndexFunc_CaseCase_7 N))
noncomputable def D_slices_IndexFunc_CaseCase_6 (F : TF) (N : TN) (Q : TQ) (l : Env) (L : Lg) : Prop :=
 loopW (fun l t L k1 => D_slices_IndexFunc_CaseCase_7 F N Q k1 l L) l L
theorem e_slices_IndexFunc_CaseCase_6 (F : TF) (N : TN) (Q : TQ) (l t : Env) (L : Lg) : wp F (q_slices_IndexFunc_CaseCase_6 N) l t L (w_slices_IndexFunc_CaseCase_2 F N Q) (y_slices_IndexFunc_CaseCase_5 F N Q) (fin [.tmp (.l 4)] Q) = D_slices_IndexFunc_CaseCase_6 F N Q l L := wpL (fun l t L k1 => e_slices_IndexFunc_CaseCase_7 F N Q k1 l t L) (by kernel_rfl)
def q_slices_IndexFunc_CaseCase_5 (N : TN) : ACode := (.block 0 (q_slices_IndexFunc_CaseCase_6 N))
theorem e_slices_IndexFunc_CaseCase_5 (F : TF) (N : TN) (Q : TQ) (l t : Env) (L : Lg) : wp F (q_slices_IndexFunc_CaseCase_5 N) l t L (w_slices_IndexFunc_CaseCase_2 F N Q) nE (fin [.tmp (.l 4)] Q) = D_slices_IndexFunc_CaseCase_6 F N Q l L := wpB (e_slices_IndexFunc_CaseCase_6 F N Q l t L)
def q_slices_IndexFunc_CaseCase_4a (N : TN) : ACode := (.reg [⟨.t 6, none, .mv, [.l 0]⟩, ⟨.l 7, none, .lenSl, [.t 6]⟩, ⟨.l 8, none, .mv, [.c (.i .i64 0)]⟩])
def q_slices_IndexFunc_CaseCase_4 (N : TN) : ACode := (.seq (q_slices_IndexFunc_CaseCase_4a N) (q_slices_IndexFunc_CaseCase_5 N))
noncomputable def D_slices_IndexFunc_CaseCase_4 (F : TF) (N : TN) (Q : TQ) (l : Env) (L : Lg) : Prop :=
 wpOp F .lenSl [(l 0)] L fun v1 L1 =>
 D_slices_IndexFunc_CaseCase_6 F N Q (Env.put (Env.put l 7 v1) 8 (.i .i64 0)) L1
theorem e_slices_IndexFunc_CaseCase_4 (F : TF) (N : TN) (Q : TQ) (l t : Env) (L : Lg) : wp F (q_slices_IndexFunc_CaseCase_4 N) l t L (w_slices_IndexFunc_CaseCase_2 F N Q) nE (fin [.tmp (.l 4)] Q) = D_slices_IndexFunc_CaseCase_4 F N Q l L := wpS (e_slices_IndexFunc_CaseCase_5 F N Q) (by kernel_rfl)
def q_slices_IndexFunc_CaseCase_2 (N : TN) : ACode := (.seq (q_slices_IndexFunc_CaseCase_4 N) (q_slices_IndexFunc_CaseCase_3 N))
theorem e_slices_IndexFunc_CaseCase_2 (F : TF) (N : TN) (Q : TQ) (l t : Env) (L : Lg) : wp F (q_slices_IndexFunc_CaseCase_2 N) l t L (fin [.tmp (.l 4)] Q) nE (fin [.tmp (.l 4)] Q) = D_slices_IndexFunc_CaseCase_4 F N Q l L := wpS (e_slices_IndexFunc_CaseCase_3 F N Q) (e_slices_IndexFunc_CaseCase_4 F N Q l t L)
def q_slices_IndexFunc_CaseCase_1a (N : TN) : ACode := (.reg [⟨.l 4, none, .mv, [.c (.i .i64 0)]⟩])
def q_slices_IndexFunc_CaseCase_1 (N : TN) : ACode := (.seq (q_slices_IndexFunc_CaseCase_1a N) (q_slices_IndexFunc_CaseCase_2 N))
noncomputable def D_slices_IndexFunc_CaseCase_1 (F : TF) (N : TN) (Q : TQ) (l : Env) (L : Lg) : Prop :=
 D_slices_IndexFunc_CaseCase_4 F N Q (Env.put l 4 (.i .i64 0)) L
theorem e_slices_IndexFunc_CaseCase_1 (F : TF) (N : TN) (Q : TQ) (l t : Env) (L : Lg) : wp F (q_slices_IndexFunc_CaseCase_1 N) l t L (fin [.tmp (.l 4)] Q) nE (fin [.tmp (.l 4)] Q) = D_slices_IndexFunc_CaseCase_1 F N Q l L := wpS (e_slices_IndexFunc_CaseCase_2 F N Q) (by kernel_rfl)
/-- slices.IndexFunc[[]tarpaulin/api.Case,tarpaulin/api.Case] -/
def c_slices_IndexFunc_CaseCase (N : TN) : AFn := ⟨q_slices_IndexFunc_CaseCase_1 N, [.tmp (.l 4)]⟩
structure H_slices_IndexFunc_CaseCase (N : TN) (F : TF) : Prop where
  code : F (N k_slices_IndexFunc_CaseCase) = some (c_slices_IndexFunc_CaseCase N)
theorem r_slices_IndexFunc_CaseCase {F : TF} {N : TN} (h : F (N k_slices_IndexFunc_CaseCase) = some (c_slices_IndexFunc_CaseCase N)) {Q : TQ} {a0 a1 : AV} {L : Lg} (e : D_slices_IndexFunc_CaseCase_1 F N Q (initE [a0, a1] 0) L) : CallL F (N k_slices_IndexFunc_CaseCase) [a0, a1] L Q :=
  CallL.of_wp h (Eq.mpr (Eq.trans (e_slices_IndexFunc_CaseCase_1 F N Q (initE [a0, a1] 0) Env.nil L) (by kernel_rfl : _ = D_slices_IndexFunc_CaseCase_1 F N Q (initE [a0, a1] 0) L)) e)
def q_slices_ContainsFunc_CaseCase_1 (N : TN) : ACode := (.seq (.reg [⟨.l 4, none, .mv, [.c (.b false)]⟩]) (.seq (.reg [⟨.t 5, none, .mv, [.l 0]⟩, ⟨.t 6, none, .mv, [.l 1]⟩, ⟨.t 7, none, .call (N k_slices_IndexFunc_CaseCase), [.t 5, .t 6]⟩, ⟨.t 8, none, .bin .geq, [.t 7, .c (.i .i64 0)]⟩, ⟨.l 4, none, .mv, [.t 8]⟩]) .ret))
noncomputable def D_slices_ContainsFunc_CaseCase_1 (F : TF) (N : TN) (Q : TQ) (x0 : AV) (x1 : AV) (L : Lg) : Prop :=
 CallL F (N k_slices_IndexFunc_CaseCase) [x0, x1] L fun v1 L1 =>
 wpOp F (.bin .geq) [v1, (.i .i64 0)] L1 fun v2 L2 =>
 fin1 (some v2) Q L2
theorem e_slices_ContainsFunc_CaseCase_1 (F : TF) (N : TN) (Q : TQ) (l t : Env) (L : Lg) : wp F (q_slices_ContainsFunc_CaseCase_1 N) l t L (fin [.tmp (.l 4)] Q) nE (fin [.tmp (.l 4)] Q) = D_slices_ContainsFunc_CaseCase_1 F N Q (l 0) (l 1) L := by kernel_rfl
/-- slices.ContainsFunc[[]tarpaulin/api.Case,tarpaulin/api.Case] -/
def c_slices_ContainsFunc_CaseCase (N : TN) : AFn := ⟨q_slices_ContainsFunc_CaseCase_1 N, [.tmp (.l 4)]⟩
structure H_slices_ContainsFunc_CaseCase (N : TN) (F : TF) : Prop where
  code : F (N k_slices_ContainsFunc_CaseCase) = some (c_slices_ContainsFunc_CaseCase N)
  slices_IndexFunc_CaseCase : H_slices_IndexFunc_CaseCase N F
theorem r_slices_ContainsFunc_CaseCase {F : TF} {N : TN} (h : F (N k_slices_ContainsFunc_CaseCase) = some (c_slices_ContainsFunc_CaseCase N)) {Q : TQ} {a0 a1 : AV} {L : Lg} (e : D_slices_ContainsFunc_CaseCase_1 F N Q a0 a1 L) : CallL F (N k_slices_ContainsFunc_CaseCase) [a0, a1] L Q :=
  CallL.of_wp h (Eq.mpr (Eq.trans (e_slices_ContainsFunc_CaseCase_1 F N Q (initE [a0, a1] 0) Env.nil L) (by kernel_rfl : _ = D_slices_ContainsFunc_CaseCase_1 F N Q a0 a1 L)) e)
def q_prog_good_1_1 (N : TN) : ACode := (.seq (.reg [⟨.l 1, none, .box, [.l 0]⟩, ⟨.l 2, none, .mv, [.c (.b false)]⟩]) (.seq (.reg [⟨.t 3, none, .fad 1, [.l 1]⟩, ⟨.t 4, none, .ld none, [.t 3]⟩, ⟨.t 5, none, .call (N k_prog_register), [.t 4]⟩, ⟨.t 6, none, .un .not, [.t 5]⟩, ⟨.t 7, none, .mv, [.t 6]⟩, ⟨.t 8, some (.t 7, false), .fad 2, [.l 1]⟩, ⟨.t 9, some (.t 7, false), .ld none, [.t 8]⟩, ⟨.t 10, some (.t 7, false), .call (N k_prog_register), [.t 9]⟩, ⟨.t 11, some (.t 7, false), .un .not, [.t 10]⟩, ⟨.t 12, none, .pick, [.t 7, .c (.b true), .t 11]⟩, ⟨.t 13, none, .mv, [.t 12]⟩, ⟨.t 14, some (.t 13, false), .fad 0, [.l 1]⟩, ⟨.t 15, some (.t 13, false), .ld none, [.t 14]⟩, ⟨.t 16, some (.t 13, false), .un .not, [.t 15]⟩, ⟨.t 17, some (.t 13, false), .mv, [.t 16]⟩, ⟨.t 18, some (.t 17, true), .fad 2, [.l 1]⟩, ⟨.t 19, some (.t 17, true), .ld none, [.t 18]⟩, ⟨.t 20, some (.t 17, true), .bin .neq, [.t 19, .c (.i .i64 0)]⟩, ⟨.t 21, some (.t 13, false), .pick, [.t 17, .t 20, .c (.b false)]⟩, ⟨.t 22, none, .pick, [.t 13, .c (.b true), .t 21]⟩, ⟨.l 2, none, .mv, [.t 22]⟩]) .ret))
noncomputable def D_prog_good_1_1 (F : TF) (N : TN) (Q : TQ) (x0 : AV) (L : Lg) : Prop :=
 wpOp F .box [x0] L fun v1 L1 =>
 wpOp F (.fad 1) [v1] L1 fun v2 L2 =>
 wpOp F (.ld none) [v2] L2 fun v3 L3 =>
 CallL F (N k_prog_register) [v3] L3 fun v4 L4 =>
 wpOp F (.un .not) [v4] L4 fun v5 L5 =>
 gdOp F v5 false (.fad 2) [v1] L5 fun v6 L6 =>
 gdOp F v5 false (.ld none) [v6] L6 fun v7 L7 =>
 gdOp F v5 false (.call (N k_prog_register)) [v7] L7 fun v8 L8 =>
 gdOp F v5 false (.un .not) [v8] L8 fun v9 L9 =>
 wpOp F .pick [v5, (.b true), v9] L9 fun v10 L10 =>
 gdOp F v10 false (.fad 0) [v1] L10 fun v11 L11 =>
 gdOp F v10 false (.ld none) [v11] L11 fun v12 L12 =>
 gdOp F v10 false (.un .not) [v12] L12 fun v13 L13 =>
 gdOp F v10 false .mv [v13] L13 fun v14 L14 =>
 gdOp F v14 true (.fad 2) [v1] L14 fun v15 L15 =>
 gdOp F v14 true (.ld none) [v15] L15 fun v16 L16 =>
 gdOp F v14 true (.bin .neq) [v16, (.i .i64 0)] L16 fun v17 L17 =>
 gdOp F v10 false .pick [v14, v17, (.b false)] L17 fun v18 L18 =>
 wpOp F .pick [v10, (.b true), v18] L18 fun v19 L19 =>
 fin1 (some v19) Q L19
theorem e_prog_good_1_1 (F : TF) (N : TN) (Q : TQ) (l t : Env) (L : Lg) : wp F (q_prog_good_1_1 N) l t L (fin [.tmp (.l 2)] Q) nE (fin [.tmp (.l 2)] Q) = D_prog_good_1_1 F N Q (l 0) L := by kernel_rfl
/-- tarpaulin/prog.good$1 -/
def c_prog_good_1 (N : TN) : AFn := ⟨q_prog_good_1_1 N, [.tmp (.l 2)]⟩
structure H_prog_good_1 (N : TN) (F : TF) : Prop where
  code : F (N k_prog_good_1) = some (c_prog_good_1 N)
  prog_register : H_prog_register N F
theorem r_prog_good_1 {F : TF} {N : TN} (h : F (N k_prog_good_1) = some (c_prog_good_1 N)) {Q : TQ} {a0 : AV} {L : Lg} (e : D_prog_good_1_1 F N Q a0 L) : CallL F (N k_prog_good_1) [a0] L Q :=
  CallL.of_wp h (Eq.mpr (Eq.trans (e_prog_good_1_1 F N Q (initE [a0] 0) Env.nil L) (by kernel_rfl : _ = D_prog_good_1_1 F N Q a0 L)) e)
def q_prog_good_4 (N : TN) : ACode := (.seq (.reg [⟨.t 61, none, .fad 4, [.l 2]⟩, ⟨.t 62, none, .ld none, [.t 61]⟩, ⟨.t 63, none, .call (N k_slices_ContainsFunc_CaseCase), [.t 62, .c (.fn (N k_prog_good_1) [] [])]⟩, ⟨.t 64, none, .un .not, [.t 63]⟩, ⟨.l 4, none, .mv, [.t 64]⟩]) .ret)
noncomputable def D_prog_good_4 (F : TF) (N : TN) (Q : TQ) (x2 : AV) (L : Lg) : Prop :=
 wpOp F (.fad 4) [x2] L fun v1 L1 =>
 wpOp F (.ld none) [v1] L1 fun v2 L2 =>
 CallL F (N k_slices_ContainsFunc_CaseCase) [v2, (.fn (N k_prog_good_1) [] [])] L2 fun v3 L3 =>
 wpOp F (.un .not) [v3] L3 fun v4 L4 =>
 fin1 (some v4) Q L4
theorem e_prog_good_4 (F : TF) (N : TN) (Q : TQ) (l t : Env) (L : Lg) : wp F (q_prog_good_4 N) l t L (fin [.tmp (.l 4)] Q) nE (fin [.tmp (.l 4)] Q) = D_prog_good_4 F N Q (l 2) L := by kernel_rfl
def y_prog_good_6 (F : TF) (N : TN) (Q : TQ) : Nat → Kn := (fun (j : Nat) (l t : Env) (L : Lg) => bif Nat.beq j 0 then (fun (l t : Env) (L : Lg) => D_prog_good_4 F N Q (l 2) L) l t L else nE j l t L)
def q_prog_good_8 (N : TN) : ACode := (.seq (.reg [⟨.t 45, none, .bin .lss, [.l 44, .l 43]⟩]) (.seq (.cond (.t 45) .skip (.exit 0)) (.seq (.block 1 (.seq (.reg [⟨.t 46, none, .mv, [.l 44]⟩, ⟨.t 47, none, .iad 1, [.l 42, .l 44]⟩, ⟨.t 48, none, .ld none, [.t 47]⟩, ⟨.l 5, none, .mv, [.t 46]⟩, ⟨.l 6, none, .mv, [.t 48]⟩]) (.seq (.reg [⟨.t 49, none, .fad 0, [.l 2]⟩, ⟨.t 50, none, .ld none, [.t 49]⟩, ⟨.t 51, none, .bin .sub, [.t 50, .c (.i .i64 1)]⟩, ⟨.t 52, none, .bin .mul, [.c (.i .i64 3), .t 51]⟩, ⟨.t 53, none, .mv, [.l 5]⟩, ⟨.t 54, none, .bin .add, [.t 52, .t 53]⟩, ⟨.t 55, none, .ixS, [.c (.s [114, 110, 45, 114, 114, 45, 114, 110, 45, 112, 45, 45, 114, 112, 45, 114, 45, 45, 45, 45, 45, 114, 103, 45, 114, 110, 45, 114, 114, 45, 114, 114, 114, 114, 45, 45, 114, 114, 45, 114, 114, 45, 114, 114, 114, 114, 45, 45, 114, 114, 114, 114, 114, 114, 114, 114, 103, 114, 114, 45, 114, 114, 114, 114, 114, 45, 114, 114, 114, 114, 114, 114, 114, 114, 45, 114, 114, 45, 114, 114, 45, 114, 114, 45, 114, 114, 45, 114, 114, 114, 114, 114, 103, 114, 114, 45]), .t 54]⟩, ⟨.t 56, none, .mv, [.l 6]⟩, ⟨.t 57, none, .mv, [.l 1]⟩, ⟨.t 58, none, .call (N k_prog_may), [.t 55, .t 56, .t 57]⟩, ⟨.t 59, none, .un .not, [.t 58]⟩]) (.cond (.t 59) (.seq (.reg [⟨.l 4, none, .mv, [.c (.b false)]⟩]) .ret) .skip)))) (.reg [⟨.t 60, none, .bin .add, [.l 44, .c (.i .i64 1)]⟩, ⟨.l 44, none, .mv, [.t 60]⟩]))))
noncomputable def D_prog_good_8 (F : TF) (N : TN) (Q : TQ) (k1 : TK) (l : Env) (L : Lg) : Prop :=
 wpOp F (.bin .lss) [(l 44), (l 43)] L fun v1 L1 =>
 condW v1
 (wpOp F (.iad 1) [(l 42), (l 44)] L1 fun v2 L2 =>
 wpOp F (.ld none) [v2] L2 fun v3 L3 =>
 wpOp F (.fad 0) [(l 2)] L3 fun v4 L4 =>
 wpOp F (.ld none) [v4] L4 fun v5 L5 =>
 wpOp F (.bin .sub) [v5, (.i .i64 1)] L5 fun v6 L6 =>
 wpOp F (.bin .mul) [(.i .i64 3), v6] L6 fun v7 L7 =>
 wpOp F (.bin .add) [v7, (l 44)] L7 fun v8 L8 =>
 wpOp F .ixS [(.s [114, 110, 45, 114, 114, 45, 114, 110, 45, 112, 45, 45, 114, 112, 45, 114, 45, 45, 45, 45, 45, 114, 103, 45, 114, 110, 45, 114, 114, 45, 114, 114, 114, 114, 45, 45, 114, 114, 45, 114, 114, 45, 114, 114, 114, 114, 45, 45, 114, 114, 114, 114, 114, 114, 114, 114, 103, 114, 114, 45, 114, 114, 114, 114, 114, 45, 114, 114, 114, 114, 114, 114, 114, 114, 45, 114, 114, 45, 114, 114, 45, 114, 114, 45, 114, 114, 45, 114, 114, 114, 114, 114, 103, 114, 114, 45]), v8] L8 fun v9 L9 =>
 CallL F (N k_prog_may) [v9, v3, (l 1)] L9 fun v10 L10 =>
 wpOp F (.un .not) [v10] L10 fun v11 L11 =>
 condW v11
 (fin1 (some (.b false)) Q L11)
 (wpOp F (.bin .add) [(l 44), (.i .i64 1)] L11 fun v12 L12 =>
 k1 (Env.put (Env.put (Env.put l 5 (l 44)) 6 v3) 44 v12) L12))
 (D_prog_good_4 F N Q (l 2) L1)
theorem e_prog_good_8 (F : TF) (N : TN) (Q : TQ) (k1 : TK) (l t : Env) (L : Lg) : wp F (q_prog_good_8 N) l t L (fun (l _ : Env) (L : Lg) => k1 l L) (y_prog_good_6 F N Q) (fin [.tmp (.l 4)] Q) = D_prog_good_8 F N Q k1 l L := by kernel_rfl
def q_prog_good_7 (N : TN) : ACode := (.loop (q_prog_good_8 N))
noncomputable def D_prog_good_7 (F : TF) (N : TN) (Q : TQ) (l : Env) (L : Lg) : Prop :=
 loopW (fun l t L k1 => D_prog_good_8 F N Q k1 l L) l L
theorem e_prog_good_7 (F : TF) (N : TN) (Q : TQ) (l t : Env) (L : Lg) : wp F (q_prog_good_7 N) l t L (fun (l t : Env) (L : Lg) => D_prog_good_4 F N Q (l 2) L) (y_prog_good_6 F N Q) (fin [.tmp (.l 4)] Q) = D_prog_good_7 F N Q l L := wpL (fun l t L k1 => e_prog_good_8 F N Q k1 l t L) (by kernel_rfl)
def q_prog_good_6 (N : TN) : ACode := (.block 0 (q_prog_good_7 N))
theorem e_prog_good_6 (F : TF) (N : TN) (Q : TQ) (l t : Env) (L : Lg) : wp F (q_prog_good_6 N) l t L (fun (l t : Env) (L : Lg) => D_prog_good_4 F N Q (l 2) L) nE (fin [.tmp (.l 4)] Q) = D_prog_good_7 F N Q l L := wpB (e_prog_good_7 F N Q l t L)
def q_prog_good_5a (N : TN) : ACode := (.reg [⟨.t 36, none, .fad 1, [.l 2]⟩, ⟨.t 37, none, .ld none, [.t 36]⟩, ⟨.t 38, none, .fad 2, [.l 2]⟩, ⟨.t 39, none, .ld none, [.t 38]⟩, ⟨.t 40, none, .fad 3, [.l 2]⟩, ⟨.t 41, none, .ld none, [.t 40]⟩, ⟨.l 42, none, .bslice [.i .i64 0] 3 1 [0, 1, 2], [.t 37, .t 39, .t 41]⟩, ⟨.l 43, none, .lenSl, [.l 42]⟩, ⟨.l 44, none, .mv, [.c (.i .i64 0)]⟩])
def q_prog_good_5 (N : TN) : ACode := (.seq (q_prog_good_5a N) (q_prog_good_6 N))
noncomputable def D_prog_good_5 (F : TF) (N : TN) (Q : TQ) (l : Env) (L : Lg) : Prop :=
 wpOp F (.fad 1) [(l 2)] L fun v1 L1 =>
 wpOp F (.ld none) [v1] L1 fun v2 L2 =>
 wpOp F (.fad 2) [(l 2)] L2 fun v3 L3 =>
 wpOp F (.ld none) [v3] L3 fun v4 L4 =>
 wpOp F (.fad 3) [(l 2)] L4 fun v5 L5 =>
 wpOp F (.ld none) [v5] L5 fun v6 L6 =>
 wpOp F (.bslice [.i .i64 0] 3 1 [0, 1, 2]) [v2, v4, v6] L6 fun v7 L7 =>
 wpOp F .lenSl [v7] L7 fun v8 L8 =>
 D_prog_good_7 F N Q (Env.put (Env.put (Env.put l 42 v7) 43 v8) 44 (.i .i64 0)) L8
theorem e_prog_good_5 (F : TF) (N : TN) (Q : TQ) (l t : Env) (L : Lg) : wp F (q_prog_good_5 N) l t L (fun (l t : Env) (L : Lg) => D_prog_good_4 F N Q (l 2) L) nE (fin [.tmp (.l 4)] Q) = D_prog_good_5 F N Q l L := wpS (e_prog_good_6 F N Q) (by kernel_rfl)
def q_prog_good_3 (N : TN) : ACode := (.seq (q_prog_good_5 N) (q_prog_good_4 N))
theorem e_prog_good_3 (F : TF) (N : TN) (Q : TQ) (l t : Env) (L : Lg) : wp F (q_prog_good_3 N) l t L (fin [.tmp (.l 4)] Q) nE (fin [.tmp (.l 4)] Q) = D_prog_good_5 F N Q l L := wpS (e_prog_good_4 F N Q) (e_prog_good_5 F N Q l t L)
def q_prog_good_2a (N : TN) : ACode := (.seq (.reg [⟨.t 7, none, .fad 0, [.l 2]⟩, ⟨.t 8, none, .ld none, [.t 7]⟩, ⟨.t 9, none, .bin .lss, [.t 8, .c (.i .i64 1)]⟩, ⟨.t 10, none, .mv, [.t 9]⟩, ⟨.t 11, some (.t 10, false), .fad 0, [.l 2]⟩, ⟨.t 12, some (.t 10, false), .ld none, [.t 11]⟩, ⟨.t 13, some (.t 10, false), .bin .gtr, [.t 12, .c (.i .i64 32)]⟩, ⟨.t 14, none, .pick, [.t 10, .c (.b true), .t 13]⟩, ⟨.t 15, none, .mv, [.t 14]⟩, ⟨.t 16, some (.t 15, false), .fad 0, [.l 2]⟩, ⟨.t 17, some (.t 15, false), .ld none, [.t 16]⟩, ⟨.t 18, some (.t 15, false), .bin .neq, [.t 17, .c (.i .i64 15)]⟩, ⟨.t 19, some (.t 15, false), .mv, [.t 18]⟩, ⟨.t 20, some (.t 19, true), .fad 4, [.l 2]⟩, ⟨.t 21, some (.t 19, true), .ld none, [.t 20]⟩, ⟨.t 22, some (.t 19, true), .lenSl, [.t 21]⟩, ⟨.t 23, some (.t 19, true), .bin .gtr, [.t 22, .c (.i .i64 0)]⟩, ⟨.t 24, some (.t 19, true), .mv, [.t 23]⟩, ⟨.t 25, some (.t 24, false), .fad 5, [.l 2]⟩, ⟨.t 26, some (.t 24, false), .ld none, [.t 25]⟩, ⟨.t 27, some (.t 19, true), .pick, [.t 24, .c (.b true), .t 26]⟩, ⟨.t 28, some (.t 15, false), .pick, [.t 19, .t 27, .c (.b false)]⟩, ⟨.t 29, none, .pick, [.t 15, .c (.b true), .t 28]⟩, ⟨.t 30, none, .mv, [.t 29]⟩, ⟨.t 31, some (.t 30, false), .fad 4, [.l 2]⟩, ⟨.t 32, some (.t 30, false), .ld none, [.t 31]⟩, ⟨.t 33, some (.t 30, false), .lenSl, [.t 32]⟩, ⟨.t 34, some (.t 30, false), .bin .gtr, [.t 33, .c (.i .i64 16)]⟩, ⟨.t 35, none, .pick, [.t 30, .c (.b true), .t 34]⟩]) (.cond (.t 35) (.seq (.reg [⟨.l 4, none, .mv, [.c (.b false)]⟩]) .ret) .skip))
def q_prog_good_2 (N : TN) : ACode := (.seq (q_prog_good_2a N) (q_prog_good_3 N))
noncomputable def D_prog_good_2 (F : TF) (N : TN) (Q : TQ) (l : Env) (L : Lg) : Prop :=
 wpOp F (.fad 0) [(l 2)] L fun v1 L1 =>
 wpOp F (.ld none) [v1] L1 fun v2 L2 =>
 wpOp F (.bin .lss) [v2, (.i .i64 1)] L2 fun v3 L3 =>
 gdOp F v3 false (.fad 0) [(l 2)] L3 fun v4 L4 =>
 gdOp F v3 false (.ld none) [v4] L4 fun v5 L5 =>
 gdOp F v3 false (.bin .gtr) [v5, (.i .i64 32)] L5 fun v6 L6 =>
 wpOp F .pick [v3, (.b true), v6] L6 fun v7 L7 =>
 gdOp F v7 false (.fad 0) [(l 2)] L7 fun v8 L8 =>
 gdOp F v7 false (.ld none) [v8] L8 fun v9 L9 =>
 gdOp F v7 false (.bin .neq) [v9, (.i .i64 15)] L9 fun v10 L10 =>
 gdOp F v7 false .mv [v10] L10 fun v11 L11 =>
 gdOp F v11 true (.fad 4) [(l 2)] L11 fun v12 L12 =>
 gdOp F v11 true (.ld none) [v12] L12 fun v13 L13 =>
 gdOp F v11 true .lenSl [v13] L13 fun v14 L14 =>
 gdOp F v11 true (.bin .gtr) [v14, (.i .i64 0)] L14 fun v15 L15 =>
 gdOp F v11 true .mv [v15] L15 fun v16 L16 =>
 gdOp F v16 false (.fad 5) [(l 2)] L16 fun v17 L17 =>
 gdOp F v16 false (.ld none) [v17] L17 fun v18 L18 =>
 gdOp F v11 true .pick [v16, (.b true), v18] L18 fun v19 L19 =>
 gdOp F v7 false .pick [v11, v19, (.b false)] L19 fun v20 L20 =>
 wpOp F .pick [v7, (.b true), v20] L20 fun v21 L21 =>
 gdOp F v21 false (.fad 4) [(l 2)] L21 fun v22 L22 =>
 gdOp F v21 false (.ld none) [v22] L22 fun v23 L23 =>
 gdOp F v21 false .lenSl [v23] L23 fun v24 L24 =>
 gdOp F v21 false (.bin .gtr) [v24, (.i .i64 16)] L24 fun v25 L25 =>
 wpOp F .pick [v21, (.b true), v25] L25 fun v26 L26 =>
 condW v26
 (fin1 (some (.b false)) Q L26)
 (D_prog_good_5 F N Q l L26)
theorem e_prog_good_2 (F : TF) (N : TN) (Q : TQ) (l t : Env) (L : Lg) : wp F (q_prog_good_2 N) l t L (fin [.tmp (.l 4)] Q) nE (fin [.tmp (.l 4)] Q) = D_prog_good_2 F N Q l L := wpS (e_prog_good_3 F N Q) (by kernel_rfl)
def q_prog_good_1a (N : TN) : ACode := (.reg [⟨.l 2, none, .box, [.l 0]⟩, ⟨.l 4, none, .mv, [.c (.b false)]⟩])
def q_prog_good_1 (N : TN) : ACode := (.seq (q_prog_good_1a N) (q_prog_good_2 N))
noncomputable def D_prog_good_1 (F : TF) (N : TN) (Q : TQ) (l : Env) (L : Lg) : Prop :=
 wpOp F .box [(l 0)] L fun v1 L1 =>
 D_prog_good_2 F N Q (Env.put (Env.put l 2 v1) 4 (.b false)) L1
theorem e_prog_good_1 (F : TF) (N : TN) (Q : TQ) (l t : Env) (L : Lg) : wp F (q_prog_good_1 N) l t L (fin [.tmp (.l 4)] Q) nE (fin [.tmp (.l 4)] Q) = D_prog_good_1 F N Q l L := wpS (e_prog_good_2 F N Q) (by kernel_rfl)
/-- tarpaulin/prog.good -/
def c_prog_good (N : TN) : AFn := ⟨q_prog_good_1 N, [.tmp (.l 4)]⟩
structure H_prog_good (N : TN) (F : TF) : Prop where
  code : F (N k_prog_good) = some (c_prog_good N)
  prog_may : H_prog_may N F
  slices_ContainsFunc_CaseCase : H_slices_ContainsFunc_CaseCase N F
  prog_good_1 : H_prog_good_1 N F
theorem r_prog_good {F : TF} {N : TN} (h : F (N k_prog_good) = some (c_prog_good N)) {Q : TQ} {a0 a1 : AV} {L : Lg} (e : D_prog_good_1 F N Q (initE [a0, a1] 0) L) : CallL F (N k_prog_good) [a0, a1] L Q :=
  CallL.of_wp h (Eq.mpr (Eq.trans (e_prog_good_1 F N Q (initE [a0, a1] 0) Env.nil L) (by kernel_rfl : _ = D_prog_good_1 F N Q (initE [a0, a1] 0) L)) e)
def q_prog_Check_1_1 (N : TN) : ACode := (.seq (.reg [⟨.l 2, none, .box, [.l 0]⟩, ⟨.l 3, none, .mv, [.c (.b false)]⟩]) (.seq (.reg [⟨.t 4, none, .ld (some 6), [.l 2]⟩, ⟨.t 5, none, .ld none, [.l 1]⟩, ⟨.t 6, none, .lenSl, [.t 5]⟩, ⟨.t 7, none, .call (N k_prog_good), [.t 4, .t 6]⟩, ⟨.t 8, none, .un .not, [.t 7]⟩, ⟨.l 3, none, .mv, [.t 8]⟩]) .ret))
noncomputable def D_prog_Check_1_1 (F : TF) (N : TN) (Q : TQ) (x0 : AV) (x1 : AV) (L : Lg) : Prop :=
 wpOp F .box [x0] L fun v1 L1 =>
 wpOp F (.ld (some 6)) [v1] L1 fun v2 L2 =>
 wpOp F (.ld none) [x1] L2 fun v3 L3 =>
 wpOp F .lenSl [v3] L3 fun v4 L4 =>
 CallL F (N k_prog_good) [v2, v4] L4 fun v5 L5 =>
 wpOp F (.un .not) [v5] L5 fun v6 L6 =>
 fin1 (some v6) Q L6
theorem e_prog_Check_1_1 (F : TF) (N : TN) (Q : TQ) (l t : Env) (L : Lg) : wp F (q_prog_Check_1_1 N) l t L (fin [.tmp (.l 3)] Q) nE (fin [.tmp (.l 3)] Q) = D_prog_Check_1_1 F N Q (l 0) (l 1) L := by kernel_rfl
/-- tarpaulin/prog.Check$1 -/
def c_prog_Check_1 (N : TN) : AFn := ⟨q_prog_Check_1_1 N, [.tmp (.l 3)]⟩
structure H_prog_Check_1 (N : TN) (F : TF) : Prop where
  code : F (N k_prog_Check_1) = some (c_prog_Check_1 N)
  prog_good : H_prog_good N F
theorem r_prog_Check_1 {F : TF} {N : TN} (h : F (N k_prog_Check_1) = some (c_prog_Check_1 N)) {Q : TQ} {a0 a1 : AV} {L : Lg} (e : D_prog_Check_1_1 F N Q a0 a1 L) : CallL F (N k_prog_Check_1) [a0, a1] L Q :=
  CallL.of_wp h (Eq.mpr (Eq.trans (e_prog_Check_1_1 F N Q (initE [a0, a1] 0) Env.nil L) (by kernel_rfl : _ = D_prog_Check_1_1 F N Q a0 a1 L)) e)
def q_slices_IndexFunc_InstrInstr_3 (N : TN) : ACode := (.seq (.reg [⟨.l 4, none, .mv, [.c (.i .i64 (-1))]⟩]) .ret)
noncomputable def D_slices_IndexFunc_InstrInstr_3 (F : TF) (N : TN) (Q : TQ) (L : Lg) : Prop :=
 fin1 (some (.i .i64 (-1))) Q L
theorem e_slices_IndexFunc_InstrInstr_3 (F : TF) (N : TN) (Q : TQ) (l t : Env) (L : Lg) : wp F (q_slices_IndexFunc_InstrInstr_3 N) l t L (fin [.tmp (.l 4)] Q) nE (fin [.tmp (.l 4)] Q) = D_slices_IndexFunc_InstrInstr_3 F N Q L := by kernel_rfl
def w_slices_IndexFunc_InstrInstr_2 (F : TF) (N : TN) (Q : TQ) : Kn := (fun (l t : Env) (L : Lg) => D_slices_IndexFunc_InstrInstr_3 F N Q L)
def y_slices_IndexFunc_InstrInstr_5 (F : TF) (N : TN) (Q : TQ) : Nat → Kn := (fun (j : Nat) (l t : Env) (L : Lg) => bif Nat.beq j 0 then (w_slices_IndexFunc_InstrInstr_2 F N Q) l t L else nE j l t L)
def q_slices_IndexFunc_InstrInstr_7 (N : TN) : ACode := (.seq (.reg [⟨.t 9, none, .bin .lss, [.l 8, .l 7]⟩]) (.seq (.cond (.t 9) .skip (.exit 0)) (.seq (.block 1 (.seq (.reg [⟨.t 10, none, .mv, [.l 8]⟩, ⟨.l 5, none, .mv, [.t 10]⟩]) (.seq (.reg [⟨.t 11, none, .mv, [.l 1]⟩, ⟨.t 12, none, .mv, [.l 0]⟩, ⟨.t 13, none, .mv, [.l 5]⟩, ⟨.t 14, none, .iad 6, [.t 12, .t 13]⟩, ⟨.t 15, none, .ld (some 6), [.t 14]⟩, ⟨.t 16, none, .callv, [.t 11, .t 15]⟩]) (.cond (.t 16) (.seq (.reg [⟨.t 17, none, .mv, [.l 5]⟩, ⟨.l 4, none, .mv, [.t 17]⟩]) .ret) .skip)))) (.reg [⟨.t 18, none, .bin .add, [.l 8, .c (.i .i64 1)]⟩, ⟨.l 8, none, .mv, [.t 18]⟩]))))
noncomputable def D_slices_IndexFunc_InstrInstr_7 (F : TF) (N : TN) (Q : TQ) (k1 : TK) (l : Env) (L : Lg) : Prop :=
 wpOp F (.bin .lss) [(l 8), (l 7)] L fun v1 L1 =>
 condW v1
 (wpOp F (.iad 6) [(l 0), (l 8)] L1 fun v2 L2 =>
 wpOp F (.ld (some 6)) [v2] L2 fun v3 L3 =>
 wpOp F .callv [(l 1), v3] L3 fun v4 L4 =>
 condW v4
 (fin1 (some (l 8)) Q L4)
 (wpOp F (.bin .add) [(l 8), (.i .i64 1)] L4 fun v5 L5 =>
 k1 (Env.put (Env.put l 5 (l 8)) 8 v5) L5))
 (D_slices_IndexFunc_InstrInstr_3 F N Q L1)
theorem e_slices_IndexFunc_InstrInstr_7 (F : TF) (N : TN) (Q : TQ) (k1 : TK) (l t : Env) (L : Lg) : wp F (q_slices_IndexFunc_InstrInstr_7 N) l t L (fun (l _ : Env) (L : Lg) => k1 l L) (y_slices_IndexFunc_InstrInstr_5 F N Q) (fin [.tmp (.l 4)] Q) = D_slices_IndexFunc_InstrInstr_7 F N Q k1 l L := by kernel_rfl
def q_slices_IndexFunc_InstrInstr_6 (N : TN) : ACode := (.loop (q_slices_IndexFunc_InstrInstr_7 N))
noncomputable def D_slices_IndexFunc_InstrInstr_6 (F : TF) (N : TN) (Q : TQ) (l : Env) (L : Lg) : Prop :=
 loopW (fun l t L k1 => D_slices_IndexFunc_InstrInstr_7 F N Q k1 l L) l L
theorem e_slices_IndexFunc_InstrInstr_6 (F : TF) (N : TN) (Q : TQ) (l t : Env) (L : Lg) : wp F (q_slices_IndexFunc_InstrInstr_6 N) l t L (w_slices_IndexFunc_InstrInstr_2 F N Q) (y_slices_IndexFunc_InstrInstr_5 F N Q) (fin [.tmp (.l 4)] Q) = D_slices_IndexFunc_InstrInstr_6 F N Q l L := wpL (fun l t L k1 => e_slices_IndexFunc_InstrInstr_7 F N Q k1 l t L) (by kernel_rfl)
def q_slices_IndexFunc_InstrInstr_5 (N : TN) : ACode := (.block 0 (q_slices_IndexFunc_InstrInstr_6 N))
theorem e_slices_IndexFunc_InstrInstr_5 (F : TF) (N : TN) (Q : TQ) (l t : Env) (L : Lg) : wp F (q_slices_IndexFunc_InstrInstr_5 N) l t L (w_slices_IndexFunc_InstrInstr_2 F N Q) nE (fin [.tmp (.l 4)] Q) = D_slices_IndexFunc_InstrInstr_6 F N Q l L := wpB (e_slices_IndexFunc_InstrInstr_6 F N Q l t L)
def q_slices_IndexFunc_InstrInstr_4a (N : TN) : ACode := (.reg [⟨.t 6, none, .mv, [.l 0]⟩, ⟨.l 7, none, .lenSl, [.t 6]⟩, ⟨.l 8, none, .mv, [.c (.i .i64 0)]⟩])
def q_slices_IndexFunc_InstrInstr_4 (N : TN) : ACode := (.seq (q_slices_IndexFunc_InstrInstr_4a N) (q_slices_IndexFunc_InstrInstr_5 N))
noncomputable def D_slices_IndexFunc_InstrInstr_4 (F : TF) (N : TN) (Q : TQ) (l : Env) (L : Lg) : Prop :=
 wpOp F .lenSl [(l 0)] L fun v1 L1 =>
 D_slices_IndexFunc_InstrInstr_6 F N Q (Env.put (Env.put l 7 v1) 8 (.i .i64 0)) L1
theorem e_slices_IndexFunc_InstrInstr_4 (F : TF) (N : TN) (Q : TQ) (l t : Env) (L : Lg) : wp F (q_slices_IndexFunc_InstrInstr_4 N) l t L (w_slices_IndexFunc_InstrInstr_2 F N Q) nE (fin [.tmp (.l 4)] Q) = D_slices_IndexFunc_InstrInstr_4 F N Q l L := wpS (e_slices_IndexFunc_InstrInstr_5 F N Q) (by kernel_rfl)
def q_slices_IndexFunc_InstrInstr_2 (N : TN) : ACode := (.seq (q_slices_IndexFunc_InstrInstr_4 N) (q_slices_IndexFunc_InstrInstr_3 N))
theorem e_slices_IndexFunc_InstrInstr_2 (F : TF) (N : TN) (Q : TQ) (l t : Env) (L : Lg) : wp F (q_slices_IndexFunc_InstrInstr_2 N) l t L (fin [.tmp (.l 4)] Q) nE (fin [.tmp (.l 4)] Q) = D_slices_IndexFunc_InstrInstr_4 F N Q l L := wpS (e_slices_IndexFunc_InstrInstr_3 F N Q) (e_slices_IndexFunc_InstrInstr_4 F N Q l t L)
def q_slices_IndexFunc_InstrInstr_1a (N : TN) : ACode := (.reg [⟨.l 4, none, .mv, [.c (.i .i64 0)]⟩])
def q_slices_IndexFunc_InstrInstr_1 (N : TN) : ACode := (.seq (q_slices_IndexFunc_InstrInstr_1a N) (q_slices_IndexFunc_InstrInstr_2 N))
noncomputable def D_slices_IndexFunc_InstrInstr_1 (F : TF) (N : TN) (Q : TQ) (l : Env) (L : Lg) : Prop :=
 D_slices_IndexFunc_InstrInstr_4 F N Q (Env.put l 4 (.i .i64 0)) L
theorem e_slices_IndexFunc_InstrInstr_1 (F : TF) (N : TN) (Q : TQ) (l t : Env) (L : Lg) : wp F (q_slices_IndexFunc_InstrInstr_1 N) l t L (fin [.tmp (.l 4)] Q) nE (fin [.tmp (.l 4)] Q) = D_slices_IndexFunc_InstrInstr_1 F N Q l L := wpS (e_slices_IndexFunc_InstrInstr_2 F N Q) (by kernel_rfl)
/-- slices.IndexFunc[[]tarpaulin/api.Instr,tarpaulin/api.Instr] -/
def c_slices_IndexFunc_InstrInstr (N : TN) : AFn := ⟨q_slices_IndexFunc_InstrInstr_1 N, [.tmp (.l 4)]⟩
structure H_slices_IndexFunc_InstrInstr (N : TN) (F : TF) : Prop where
  code : F (N k_slices_IndexFunc_InstrInstr) = some (c_slices_IndexFunc_InstrInstr N)
theorem r_slices_IndexFunc_InstrInstr {F : TF} {N : TN} (h : F (N k_slices_IndexFunc_InstrInstr) = some (c_slices_IndexFunc_InstrInstr N)) {Q : TQ} {a0 a1 : AV} {L : Lg} (e : D_slices_IndexFunc_InstrInstr_1 F N Q (initE [a0, a1] 0) L) : CallL F (N k_slices_IndexFunc_InstrInstr) [a0, a1] L Q :=
  CallL.of_wp h (Eq.mpr (Eq.trans (e_slices_IndexFunc_InstrInstr_1 F N Q (initE [a0, a1] 0) Env.nil L) (by kernel_rfl : _ = D_slices_IndexFunc_InstrInstr_1 F N Q (initE [a0, a1] 0) L)) e)
def q_slices_ContainsFunc_InstrInstr_1 (N : TN) : ACode := (.seq (.reg [⟨.l 4, none, .mv, [.c (.b false)]⟩]) (.seq (.reg [⟨.t 5, none, .mv, [.l 0]⟩, ⟨.t 6, none, .mv, [.l 1]⟩, ⟨.t 7, none, .call (N k_slices_IndexFunc_InstrInstr), [.t 5, .t 6]⟩, ⟨.t 8, none, .bin .geq, [.t 7, .c (.i .i64 0)]⟩, ⟨.l 4, none, .mv, [.t 8]⟩]) .ret))
noncomputable def D_slices_ContainsFunc_InstrInstr_1 (F : TF) (N : TN) (Q : TQ) (x0 : AV) (x1 : AV) (L : Lg) : Prop :=
 CallL F (N k_slices_IndexFunc_InstrInstr) [x0, x1] L fun v1 L1 =>
 wpOp F (.bin .geq) [v1, (.i .i64 0)] L1 fun v2 L2 =>
 fin1 (some v2) Q L2
theorem e_slices_ContainsFunc_InstrInstr_1 (F : TF) (N : TN) (Q : TQ) (l t : Env) (L : Lg) : wp F (q_slices_ContainsFunc_InstrInstr_1 N) l t L (fin [.tmp (.l 4)] Q) nE (fin [.tmp (.l 4)] Q) = D_slices_ContainsFunc_InstrInstr_1 F N Q (l 0) (l 1) L := by kernel_rfl
/-- slices.ContainsFunc[[]tarpaulin/api.Instr,tarpaulin/api.Instr] -/
def c_slices_ContainsFunc_InstrInstr (N : TN) : AFn := ⟨q_slices_ContainsFunc_InstrInstr_1 N, [.tmp (.l 4)]⟩
structure H_slices_ContainsFunc_InstrInstr (N : TN) (F : TF) : Prop where
  code : F (N k_slices_ContainsFunc_InstrInstr) = some (c_slices_ContainsFunc_InstrInstr N)
  slices_IndexFunc_InstrInstr : H_slices_IndexFunc_InstrInstr N F
theorem r_slices_ContainsFunc_InstrInstr {F : TF} {N : TN} (h : F (N k_slices_ContainsFunc_InstrInstr) = some (c_slices_ContainsFunc_InstrInstr N)) {Q : TQ} {a0 a1 : AV} {L : Lg} (e : D_slices_ContainsFunc_InstrInstr_1 F N Q a0 a1 L) : CallL F (N k_slices_ContainsFunc_InstrInstr) [a0, a1] L Q :=
  CallL.of_wp h (Eq.mpr (Eq.trans (e_slices_ContainsFunc_InstrInstr_1 F N Q (initE [a0, a1] 0) Env.nil L) (by kernel_rfl : _ = D_slices_ContainsFunc_InstrInstr_1 F N Q a0 a1 L)) e)
def q_prog_Check_1 (N : TN) : ACode := (.seq (.reg [⟨.l 1, none, .box, [.l 0]⟩, ⟨.l 2, none, .mv, [.c (.i .i64 0)]⟩]) (.seq (.seq (.reg [⟨.t 3, none, .ld none, [.l 1]⟩, ⟨.t 4, none, .lenSl, [.t 3]⟩, ⟨.t 5, none, .bin .gtr, [.t 4, .c (.i .i64 100)]⟩, ⟨.t 6, none, .mv, [.t 5]⟩, ⟨.t 7, some (.t 6, false), .ld none, [.l 1]⟩, ⟨.t 8, some (.t 6, false), .mkfn (N k_prog_Check_1) 0, [.l 1]⟩, ⟨.t 9, some (.t 6, false), .call (N k_slices_ContainsFunc_InstrInstr), [.t 7, .t 8]⟩, ⟨.t 10, none, .pick, [.t 6, .c (.b true), .t 9]⟩]) (.cond (.t 10) (.seq (.reg [⟨.l 2, none, .mv, [.c (.i .i64 1)]⟩]) .ret) .skip)) (.seq (.reg [⟨.l 2, none, .mv, [.c (.i .i64 0)]⟩]) .ret)))
noncomputable def D_prog_Check_1 (F : TF) (N : TN) (Q : TQ) (x0 : AV) (L : Lg) : Prop :=
 wpOp F .box [x0] L fun v1 L1 =>
 wpOp F (.ld none) [v1] L1 fun v2 L2 =>
 wpOp F .lenSl [v2] L2 fun v3 L3 =>
 wpOp F (.bin .gtr) [v3, (.i .i64 100)] L3 fun v4 L4 =>
 gdOp F v4 false (.ld none) [v1] L4 fun v5 L5 =>
 gdOp F v4 false (.mkfn (N k_prog_Check_1) 0) [v1] L5 fun v6 L6 =>
 gdOp F v4 false (.call (N k_slices_ContainsFunc_InstrInstr)) [v5, v6] L6 fun v7 L7 =>
 wpOp F .pick [v4, (.b true), v7] L7 fun v8 L8 =>
 condW v8
 (fin1 (some (.i .i64 1)) Q L8)
 (fin1 (some (.i .i64 0)) Q L8)
theorem e_prog_Check_1 (F : TF) (N : TN) (Q : TQ) (l t : Env) (L : Lg) : wp F (q_prog_Check_1 N) l t L (fin [.tmp (.l 2)] Q) nE (fin [.tmp (.l 2)] Q) = D_prog_Check_1 F N Q (l 0) L := by kernel_rfl
/-- tarpaulin/prog.Check -/
def c_prog_Check (N : TN) : AFn := ⟨q_prog_Check_1 N, [.tmp (.l 2)]⟩
structure H_prog_Check (N : TN) (F : TF) : Prop where
  code : F (N k_prog_Check) = some (c_prog_Check N)
  prog_Check_1 : H_prog_Check_1 N F
  slices_ContainsFunc_InstrInstr : H_slices_ContainsFunc_InstrInstr N F
theorem r_prog_Check {F : TF} {N : TN} (h : F (N k_prog_Check) = some (c_prog_Check N)) {Q : TQ} {a0 : AV} {L : Lg} (e : D_prog_Check_1 F N Q a0 L) : CallL F (N k_prog_Check) [a0] L Q :=
  CallL.of_wp h (Eq.mpr (Eq.trans (e_prog_Check_1 F N Q (initE [a0] 0) Env.nil L) (by kernel_rfl : _ = D_prog_Check_1 F N Q a0 L)) e)
end Go.AM

/- The code of functions, with names for their numbers, and what is left of its weakest preconditions. PRINTED by our printgen.py. -/
set_option linter.unusedVariables false
set_option maxRecDepth 100000
namespace Go.AM
def k_tarpaulinlaw4_awake : Nat := 326
end Go.AM

/- The code of functions, with names for their numbers, and what is left of its weakest preconditions. PRINTED by our printgen.py. -/
set_option linter.unusedVariables false
set_option maxRecDepth 100000
set_option maxHeartbeats 400000
namespace Go.AM
def k_slices_Compact_intint : Nat := 327
def k_prog_rising : Nat := 328
def k_prog_Reads : Nat := 329
def k_prog_Writes : Nat := 330
def k_tarpaulinlaw4_ProgRegs : Nat := 331
def k_slices_Sort_intint : Nat := 344
def q_slices_Compact_intint_4 (N : TN) : ACode := (.seq (.reg [⟨.t 60, none, .mv, [.l 0]⟩, ⟨.l 2, none, .mv, [.t 60]⟩]) .ret)
noncomputable def D_slices_Compact_intint_4 (F : TF) (N : TN) (Q : TQ) (x0 : AV) (L : Lg) : Prop :=
 fin1 (some x0) Q L
theorem e_slices_Compact_intint_4 (F : TF) (N : TN) (Q : TQ) (l t : Env) (L : Lg) : wp F (q_slices_Compact_intint_4 N) l t L (fin [.tmp (.l 2)] Q) nE (fin [.tmp (.l 2)] Q) = D_slices_Compact_intint_4 F N Q (l 0) L := by kernel_rfl
def w_slices_Compact_intint_3 (F : TF) (N : TN) (Q : TQ) : Kn := (fun (l t : Env) (L : Lg) => D_slices_Compact_intint_4 F N Q (l 0) L)
def y_slices_Compact_intint_6 (F : TF) (N : TN) (Q : TQ) : Nat → Kn := (fun (j : Nat) (l t : Env) (L : Lg) => bif Nat.beq j 0 then (w_slices_Compact_intint_3 F N Q) l t L else nE j l t L)
def q_slices_Compact_intint_10 (N : TN) : ACode := (.reg [⟨.t 14, none, .mv, [.l 3]⟩, ⟨.t 15, none, .bin .add, [.t 14, .c (.i .i64 1)]⟩, ⟨.l 3, none, .mv, [.t 15]⟩])
noncomputable def D_slices_Compact_intint_10 (F : TF) (N : TN) (Q : TQ) (k1 : TK) (l : Env) (L : Lg) : Prop :=
 wpOp F (.bin .add) [(l 3), (.i .i64 1)] L fun v1 L1 =>
 k1 (Env.put l 3 v1) L1
theorem e_slices_Compact_intint_10 (F : TF) (N : TN) (Q : TQ) (k1 : TK) (l t : Env) (L : Lg) : wp F (q_slices_Compact_intint_10 N) l t L (fun (l _ : Env) (L : Lg) => k1 l L) (y_slices_Compact_intint_6 F N Q) (fin [.tmp (.l 2)] Q) = D_slices_Compact_intint_10 F N Q k1 l L := by kernel_rfl
def w_slices_Compact_intint_9 (F : TF) (N : TN) (Q : TQ) (k1 : TK) : Kn := (fun (l t : Env) (L : Lg) => D_slices_Compact_intint_10 F N Q k1 l L)
def y_slices_Compact_intint_11 (F : TF) (N : TN) (Q : TQ) (k1 : TK) : Nat → Kn := (fun (j : Nat) (l t : Env) (L : Lg) => bif Nat.beq j 1 then (w_slices_Compact_intint_9 F N Q k1) l t L else (y_slices_Compact_intint_6 F N Q) j l t L)
def q_slices_Compact_intint_16 (N : TN) : ACode := (.seq (.reg [⟨.t 54, none, .mv, [.l 0]⟩, ⟨.t 55, none, .mv, [.l 3]⟩, ⟨.t 56, none, .slc 1 true false false, [.t 54, .t 55]⟩, ⟨.no, none, .clr [.i .i64 0], [.t 56]⟩]) (.seq (.reg [⟨.t 57, none, .mv, [.l 0]⟩, ⟨.t 58, none, .mv, [.l 3]⟩, ⟨.t 59, none, .slc 1 false true false, [.t 57, .t 58]⟩, ⟨.l 2, none, .mv, [.t 59]⟩]) .ret))
noncomputable def D_slices_Compact_intint_16 (F : TF) (N : TN) (Q : TQ) (k1 : TK) (x0 : AV) (x3 : AV) (L : Lg) : Prop :=
 wpOp F (.slc 1 true false false) [x0, x3] L fun v1 L1 =>
 wpOp F (.clr [.i .i64 0]) [v1] L1 fun _ L2 =>
 wpOp F (.slc 1 false true false) [x0, x3] L2 fun v3 L3 =>
 fin1 (some v3) Q L3
theorem e_slices_Compact_intint_16 (F : TF) (N : TN) (Q : TQ) (k1 : TK) (l t : Env) (L : Lg) : wp F (q_slices_Compact_intint_16 N) l t L (w_slices_Compact_intint_9 F N Q k1) (y_slices_Compact_intint_11 F N Q k1) (fin [.tmp (.l 2)] Q) = D_slices_Compact_intint_16 F N Q k1 (l 0) (l 3) L := by kernel_rfl
def w_slices_Compact_intint_15 (F : TF) (N : TN) (Q : TQ) (k1 : TK) : Kn := (fun (l t : Env) (L : Lg) => D_slices_Compact_intint_16 F N Q k1 (l 0) (l 3) L)
def y_slices_Compact_intint_18 (F : TF) (N : TN) (Q : TQ) (k1 : TK) : Nat → Kn := (fun (j : Nat) (l t : Env) (L : Lg) => bif Nat.beq j 2 then (w_slices_Compact_intint_15 F N Q k1) l t L else (y_slices_Compact_intint_11 F N Q k1) j l t L)
def q_slices_Compact_intint_20 (N : TN) : ACode := (.seq (.seq (.reg [⟨.t 29, none, .mv, [.l 5]⟩, ⟨.t 30, none, .mv, [.l 4]⟩, ⟨.t 31, none, .lenSl, [.t 30]⟩, ⟨.t 32, none, .bin .lss, [.t 29, .t 31]⟩]) (.cond (.t 32) .skip (.exit 2))) (.seq (.block 3 (.seq (.reg [⟨.t 35, none, .mv, [.l 4]⟩, ⟨.t 36, none, .mv, [.l 5]⟩, ⟨.t 37, none, .iad 1, [.t 35, .t 36]⟩, ⟨.t 38, none, .ld none, [.t 37]⟩, ⟨.t 39, none, .mv, [.l 4]⟩, ⟨.t 40, none, .mv, [.l 5]⟩, ⟨.t 41, none, .bin .sub, [.t 40, .c (.i .i64 1)]⟩, ⟨.t 42, none, .iad 1, [.t 39, .t 41]⟩, ⟨.t 43, none, .ld none, [.t 42]⟩, ⟨.t 44, none, .bin .neq, [.t 38, .t 43]⟩]) (.cond (.t 44) (.seq (.reg [⟨.t 45, none, .mv, [.l 0]⟩, ⟨.t 46, none, .mv, [.l 3]⟩, ⟨.t 47, none, .mv, [.l 4]⟩, ⟨.t 48, none, .mv, [.l 5]⟩, ⟨.t 49, none, .iad 1, [.t 47, .t 48]⟩, ⟨.t 50, none, .ld none, [.t 49]⟩, ⟨.t 51, none, .iad 1, [.t 45, .t 46]⟩, ⟨.no, none, .st 1, [.t 51, .t 50]⟩]) (.reg [⟨.t 52, none, .mv, [.l 3]⟩, ⟨.t 53, none, .bin .add, [.t 52, .c (.i .i64 1)]⟩, ⟨.l 3, none, .mv, [.t 53]⟩])) .skip))) (.reg [⟨.t 33, none, .mv, [.l 5]⟩, ⟨.t 34, none, .bin .add, [.t 33, .c (.i .i64 1)]⟩, ⟨.l 5, none, .mv, [.t 34]⟩])))
noncomputable def D_slices_Compact_intint_20 (F : TF) (N : TN) (Q : TQ) (k1 : TK) (k2 : TK) (l : Env) (L : Lg) : Prop :=
 wpOp F .lenSl [(l 4)] L fun v1 L1 =>
 wpOp F (.bin .lss) [(l 5), v1] L1 fun v2 L2 =>
 condW v2
 (wpOp F (.iad 1) [(l 4), (l 5)] L2 fun v3 L3 =>
 wpOp F (.ld none) [v3] L3 fun v4 L4 =>
 wpOp F (.bin .sub) [(l 5), (.i .i64 1)] L4 fun v5 L5 =>
 wpOp F (.iad 1) [(l 4), v5] L5 fun v6 L6 =>
 wpOp F (.ld none) [v6] L6 fun v7 L7 =>
 wpOp F (.bin .neq) [v4, v7] L7 fun v8 L8 =>
 condW v8
 (wpOp F (.iad 1) [(l 4), (l 5)] L8 fun v9 L9 =>
 wpOp F (.ld none) [v9] L9 fun v10 L10 =>
 wpOp F (.iad 1) [(l 0), (l 3)] L10 fun v11 L11 =>
 wpOp F (.st 1) [v11, v10] L11 fun _ L12 =>
 wpOp F (.bin .add) [(l 3), (.i .i64 1)] L12 fun v13 L13 =>
 wpOp F (.bin .add) [(l 5), (.i .i64 1)] L13 fun v14 L14 =>
 k2 (Env.put (Env.put l 3 v13) 5 v14) L14)
 (wpOp F (.bin .add) [(l 5), (.i .i64 1)] L8 fun v15 L15 =>
 k2 (Env.put l 5 v15) L15))
 (D_slices_Compact_intint_16 F N Q k1 (l 0) (l 3) L2)
theorem e_slices_Compact_intint_20 (F : TF) (N : TN) (Q : TQ) (k1 : TK) (k2 : TK) (l t : Env) (L : Lg) : wp F (q_slices_Compact_intint_20 N) l t L (fun (l _ : Env) (L : Lg) => k2 l L) (y_slices_Compact_intint_18 F N Q k1) (fin [.tmp (.l 2)] Q) = D_slices_Compact_intint_20 F N Q k1 k2 l L := by kernel_rfl
def q_slices_Compact_intint_19 (N : TN) : ACode := (.loop (q_slices_Compact_intint_20 N))
noncomputable def D_slices_Compact_intint_19 (F : TF) (N : TN) (Q : TQ) (k1 : TK) (l : Env) (L : Lg) : Prop :=
 loopW (fun l t L k2 => D_slices_Compact_intint_20 F N Q k1 k2 l L) l L
theorem e_slices_Compact_intint_19 (F : TF) (N : TN) (Q : TQ) (k1 : TK) (l t : Env) (L : Lg) : wp F (q_slices_Compact_intint_19 N) l t L (w_slices_Compact_intint_15 F N Q k1) (y_slices_Compact_intint_18 F N Q k1) (fin [.tmp (.l 2)] Q) = D_slices_Compact_intint_19 F N Q k1 l L := wpL (fun l t L k2 => e_slices_Compact_intint_20 F N Q k1 k2 l t L) (by kernel_rfl)
def q_slices_Compact_intint_18 (N : TN) : ACode := (.block 2 (q_slices_Compact_intint_19 N))
theorem e_slices_Compact_intint_18 (F : TF) (N : TN) (Q : TQ) (k1 : TK) (l t : Env) (L : Lg) : wp F (q_slices_Compact_intint_18 N) l t L (w_slices_Compact_intint_15 F N Q k1) (y_slices_Compact_intint_11 F N Q k1) (fin [.tmp (.l 2)] Q) = D_slices_Compact_intint_19 F N Q k1 l L := wpB (e_slices_Compact_intint_19 F N Q k1 l t L)
def q_slices_Compact_intint_17a (N : TN) : ACode := (.reg [⟨.l 5, none, .mv, [.c (.i .i64 1)]⟩])
def q_slices_Compact_intint_17 (N : TN) : ACode := (.seq (q_slices_Compact_intint_17a N) (q_slices_Compact_intint_18 N))
noncomputable def D_slices_Compact_intint_17 (F : TF) (N : TN) (Q : TQ) (k1 : TK) (l : Env) (L : Lg) : Prop :=
 D_slices_Compact_intint_19 F N Q k1 (Env.put l 5 (.i .i64 1)) L
theorem e_slices_Compact_intint_17 (F : TF) (N : TN) (Q : TQ) (k1 : TK) (l t : Env) (L : Lg) : wp F (q_slices_Compact_intint_17 N) l t L (w_slices_Compact_intint_15 F N Q k1) (y_slices_Compact_intint_11 F N Q k1) (fin [.tmp (.l 2)] Q) = D_slices_Compact_intint_17 F N Q k1 l L := wpS (e_slices_Compact_intint_18 F N Q k1) (by kernel_rfl)
def q_slices_Compact_intint_15 (N : TN) : ACode := (.seq (q_slices_Compact_intint_17 N) (q_slices_Compact_intint_16 N))
theorem e_slices_Compact_intint_15 (F : TF) (N : TN) (Q : TQ) (k1 : TK) (l t : Env) (L : Lg) : wp F (q_slices_Compact_intint_15 N) l t L (w_slices_Compact_intint_9 F N Q k1) (y_slices_Compact_intint_11 F N Q k1) (fin [.tmp (.l 2)] Q) = D_slices_Compact_intint_17 F N Q k1 l L := wpS (e_slices_Compact_intint_16 F N Q k1) (e_slices_Compact_intint_17 F N Q k1 l t L)
def q_slices_Compact_intint_14a (N : TN) : ACode := (.reg [⟨.t 26, none, .mv, [.l 0]⟩, ⟨.t 27, none, .mv, [.l 3]⟩, ⟨.t 28, none, .slc 1 true false false, [.t 26, .t 27]⟩, ⟨.l 4, none, .mv, [.t 28]⟩])
def q_slices_Compact_intint_14 (N : TN) : ACode := (.seq (q_slices_Compact_intint_14a N) (q_slices_Compact_intint_15 N))
noncomputable def D_slices_Compact_intint_14 (F : TF) (N : TN) (Q : TQ) (k1 : TK) (l : Env) (L : Lg) : Prop :=
 wpOp F (.slc 1 true false false) [(l 0), (l 3)] L fun v1 L1 =>
 D_slices_Compact_intint_17 F N Q k1 (Env.put l 4 v1) L1
theorem e_slices_Compact_intint_14 (F : TF) (N : TN) (Q : TQ) (k1 : TK) (l t : Env) (L : Lg) : wp F (q_slices_Compact_intint_14 N) l t L (w_slices_Compact_intint_9 F N Q k1) (y_slices_Compact_intint_11 F N Q k1) (fin [.tmp (.l 2)] Q) = D_slices_Compact_intint_14 F N Q k1 l L := wpS (e_slices_Compact_intint_15 F N Q k1) (by kernel_rfl)
def q_slices_Compact_intint_21 (N : TN) : ACode := .skip
noncomputable def D_slices_Compact_intint_21 (F : TF) (N : TN) (Q : TQ) (k1 : TK) (l : Env) (L : Lg) : Prop :=
 D_slices_Compact_intint_10 F N Q k1 l L
theorem e_slices_Compact_intint_21 (F : TF) (N : TN) (Q : TQ) (k1 : TK) (l t : Env) (L : Lg) : wp F (q_slices_Compact_intint_21 N) l t L (w_slices_Compact_intint_9 F N Q k1) (y_slices_Compact_intint_11 F N Q k1) (fin [.tmp (.l 2)] Q) = D_slices_Compact_intint_21 F N Q k1 l L := by kernel_rfl
def q_slices_Compact_intint_13 (N : TN) : ACode := (.cond (.t 25) (q_slices_Compact_intint_14 N) (q_slices_Compact_intint_21 N))
noncomputable def D_slices_Compact_intint_13 (F : TF) (N : TN) (Q : TQ) (k1 : TK) (l : Env) (t25 : AV) (L : Lg) : Prop :=
 condW t25
 (D_slices_Compact_intint_14 F N Q k1 l L)
 (D_slices_Compact_intint_21 F N Q k1 l L)
theorem e_slices_Compact_intint_13 (F : TF) (N : TN) (Q : TQ) (k1 : TK) (l t : Env) (L : Lg) : wp F (q_slices_Compact_intint_13 N) l t L (w_slices_Compact_intint_9 F N Q k1) (y_slices_Compact_intint_11 F N Q k1) (fin [.tmp (.l 2)] Q) = D_slices_Compact_intint_13 F N Q k1 l (t 25) L := wpC (e_slices_Compact_intint_14 F N Q k1 l t L) (e_slices_Compact_intint_21 F N Q k1 l t L) (by kernel_rfl)
def q_slices_Compact_intint_12a (N : TN) : ACode := (.reg [⟨.t 16, none, .mv, [.l 0]⟩, ⟨.t 17, none, .mv, [.l 3]⟩, ⟨.t 18, none, .iad 1, [.t 16, .t 17]⟩, ⟨.t 19, none, .ld none, [.t 18]⟩, ⟨.t 20, none, .mv, [.l 0]⟩, ⟨.t 21, none, .mv, [.l 3]⟩, ⟨.t 22, none, .bin .sub, [.t 21, .c (.i .i64 1)]⟩, ⟨.t 23, none, .iad 1, [.t 20, .t 22]⟩, ⟨.t 24, none, .ld none, [.t 23]⟩, ⟨.t 25, none, .bin .eql, [.t 19, .t 24]⟩])
def q_slices_Compact_intint_12 (N : TN) : ACode := (.seq (q_slices_Compact_intint_12a N) (q_slices_Compact_intint_13 N))
noncomputable def D_slices_Compact_intint_12 (F : TF) (N : TN) (Q : TQ) (k1 : TK) (l : Env) (L : Lg) : Prop :=
 wpOp F (.iad 1) [(l 0), (l 3)] L fun v1 L1 =>
 wpOp F (.ld none) [v1] L1 fun v2 L2 =>
 wpOp F (.bin .sub) [(l 3), (.i .i64 1)] L2 fun v3 L3 =>
 wpOp F (.iad 1) [(l 0), v3] L3 fun v4 L4 =>
 wpOp F (.ld none) [v4] L4 fun v5 L5 =>
 wpOp F (.bin .eql) [v2, v5] L5 fun v6 L6 =>
 D_slices_Compact_intint_13 F N Q k1 l v6 L6
theorem e_slices_Compact_intint_12 (F : TF) (N : TN) (Q : TQ) (k1 : TK) (l t : Env) (L : Lg) : wp F (q_slices_Compact_intint_12 N) l t L (w_slices_Compact_intint_9 F N Q k1) (y_slices_Compact_intint_11 F N Q k1) (fin [.tmp (.l 2)] Q) = D_slices_Compact_intint_12 F N Q k1 l L := wpS (e_slices_Compact_intint_13 F N Q k1) (by kernel_rfl)
def q_slices_Compact_intint_11 (N : TN) : ACode := (.block 1 (q_slices_Compact_intint_12 N))
theorem e_slices_Compact_intint_11 (F : TF) (N : TN) (Q : TQ) (k1 : TK) (l t : Env) (L : Lg) : wp F (q_slices_Compact_intint_11 N) l t L (w_slices_Compact_intint_9 F N Q k1) (y_slices_Compact_intint_6 F N Q) (fin [.tmp (.l 2)] Q) = D_slices_Compact_intint_12 F N Q k1 l L := wpB (e_slices_Compact_intint_12 F N Q k1 l t L)
def q_slices_Compact_intint_9 (N : TN) : ACode := (.seq (q_slices_Compact_intint_11 N) (q_slices_Compact_intint_10 N))
theorem e_slices_Compact_intint_9 (F : TF) (N : TN) (Q : TQ) (k1 : TK) (l t : Env) (L : Lg) : wp F (q_slices_Compact_intint_9 N) l t L (fun (l _ : Env) (L : Lg) => k1 l L) (y_slices_Compact_intint_6 F N Q) (fin [.tmp (.l 2)] Q) = D_slices_Compact_intint_12 F N Q k1 l L := wpS (e_slices_Compact_intint_10 F N Q k1) (e_slices_Compact_intint_11 F N Q k1 l t L)
def q_slices_Compact_intint_8a (N : TN) : ACode := (.seq (.reg [⟨.t 10, none, .mv, [.l 3]⟩, ⟨.t 11, none, .mv, [.l 0]⟩, ⟨.t 12, none, .lenSl, [.t 11]⟩, ⟨.t 13, none, .bin .lss, [.t 10, .t 12]⟩]) (.cond (.t 13) .skip (.exit 0)))
def q_slices_Compact_intint_8 (N : TN) : ACode := (.seq (q_slices_Compact_intint_8a N) (q_slices_Compact_intint_9 N))
noncomputable def D_slices_Compact_intint_8 (F : TF) (N : TN) (Q : TQ) (k1 : TK) (l : Env) (L : Lg) : Prop :=
 wpOp F .lenSl [(l 0)] L fun v1 L1 =>
 wpOp F (.bin .lss) [(l 3), v1] L1 fun v2 L2 =>
 condW v2
 (D_slices_Compact_intint_12 F N Q k1 l L2)
 (D_slices_Compact_intint_4 F N Q (l 0) L2)
theorem e_slices_Compact_intint_8 (F : TF) (N : TN) (Q : TQ) (k1 : TK) (l t : Env) (L : Lg) : wp F (q_slices_Compact_intint_8 N) l t L (fun (l _ : Env) (L : Lg) => k1 l L) (y_slices_Compact_intint_6 F N Q) (fin [.tmp (.l 2)] Q) = D_slices_Compact_intint_8 F N Q k1 l L := wpS (e_slices_Compact_intint_9 F N Q k1) (by kernel_rfl)
def q_slices_Compact_intint_7 (N : TN) : ACode := (.loop (q_slices_Compact_intint_8 N))
noncomputable def D_slices_Compact_intint_7 (F : TF) (N : TN) (Q : TQ) (l : Env) (L : Lg) : Prop :=
 loopW (fun l t L k1 => D_slices_Compact_intint_8 F N Q k1 l L) l L
theorem e_slices_Compact_intint_7 (F : TF) (N : TN) (Q : TQ) (l t : Env) (L : Lg) : wp F (q_slices_Compact_intint_7 N) l t L (w_slices_Compact_intint_3 F N Q) (y_slices_Compact_intint_6 F N Q) (fin [.tmp (.l 2)] Q) = D_slices_Compact_intint_7 F N Q l L := wpL (fun l t L k1 => e_slices_Compact_intint_8 F N Q k1 l t L) (by kernel_rfl)
def q_slices_Compact_intint_6 (N : TN) : ACode := (.block 0 (q_slices_Compact_intint_7 N))
theorem e_slices_Compact_intint_6 (F : TF) (N : TN) (Q : TQ) (l t : Env) (L : Lg) : wp F (q_slices_Compact_intint_6 N) l t L (w_slices_Compact_intint_3 F N Q) nE (fin [.tmp (.l 2)] Q) = D_slices_Compact_intint_7 F N Q l L := wpB (e_slices_Compact_intint_7 F N Q l t L)
def q_slices_Compact_intint_5a (N : TN) : ACode := (.reg [⟨.l 3, none, .mv, [.c (.i .i64 1)]⟩])
def q_slices_Compact_intint_5 (N : TN) : ACode := (.seq (q_slices_Compact_intint_5a N) (q_slices_Compact_intint_6 N))
noncomputable def D_slices_Compact_intint_5 (F : TF) (N : TN) (Q : TQ) (l : Env) (L : Lg) : Prop :=
 D_slices_Compact_intint_7 F N Q (Env.put l 3 (.i .i64 1)) L
theorem e_slices_Compact_intint_5 (F : TF) (N : TN) (Q : TQ) (l t : Env) (L : Lg) : wp F (q_slices_Compact_intint_5 N) l t L (w_slices_Compact_intint_3 F N Q) nE (fin [.tmp (.l 2)] Q) = D_slices_Compact_intint_5 F N Q l L := wpS (e_slices_Compact_intint_6 F N Q) (by kernel_rfl)
def q_slices_Compact_intint_3 (N : TN) : ACode := (.seq (q_slices_Compact_intint_5 N) (q_slices_Compact_intint_4 N))
theorem e_slices_Compact_intint_3 (F : TF) (N : TN) (Q : TQ) (l t : Env) (L : Lg) : wp F (q_slices_Compact_intint_3 N) l t L (fin [.tmp (.l 2)] Q) nE (fin [.tmp (.l 2)] Q) = D_slices_Compact_intint_5 F N Q l L := wpS (e_slices_Compact_intint_4 F N Q) (e_slices_Compact_intint_5 F N Q l t L)
def q_slices_Compact_intint_2a (N : TN) : ACode := (.seq (.reg [⟨.t 6, none, .mv, [.l 0]⟩, ⟨.t 7, none, .lenSl, [.t 6]⟩, ⟨.t 8, none, .bin .lss, [.t 7, .c (.i .i64 2)]⟩]) (.cond (.t 8) (.seq (.reg [⟨.t 9, none, .mv, [.l 0]⟩, ⟨.l 2, none, .mv, [.t 9]⟩]) .ret) .skip))
def q_slices_Compact_intint_2 (N : TN) : ACode := (.seq (q_slices_Compact_intint_2a N) (q_slices_Compact_intint_3 N))
noncomputable def D_slices_Compact_intint_2 (F : TF) (N : TN) (Q : TQ) (l : Env) (L : Lg) : Prop :=
 wpOp F .lenSl [(l 0)] L fun v1 L1 =>
 wpOp F (.bin .lss) [v1, (.i .i64 2)] L1 fun v2 L2 =>
 condW v2
 (fin1 (some (l 0)) Q L2)
 (D_slices_Compact_intint_5 F N Q l L2)
theorem e_slices_Compact_intint_2 (F : TF) (N : TN) (Q : TQ) (l t : Env) (L : Lg) : wp F (q_slices_Compact_intint_2 N) l t L (fin [.tmp (.l 2)] Q) nE (fin [.tmp (.l 2)] Q) = D_slices_Compact_intint_2 F N Q l L := wpS (e_slices_Compact_intint_3 F N Q) (by kernel_rfl)
def q_slices_Compact_intint_1a (N : TN) : ACode := (.reg [⟨.l 2, none, .mv, [.c (.sl none 0 0 0)]⟩])
def q_slices_Compact_intint_1 (N : TN) : ACode := (.seq (q_slices_Compact_intint_1a N) (q_slices_Compact_intint_2 N))
noncomputable def D_slices_Compact_intint_1 (F : TF) (N : TN) (Q : TQ) (l : Env) (L : Lg) : Prop :=
 D_slices_Compact_intint_2 F N Q (Env.put l 2 (.sl none 0 0 0)) L
theorem e_slices_Compact_intint_1 (F : TF) (N : TN) (Q : TQ) (l t : Env) (L : Lg) : wp F (q_slices_Compact_intint_1 N) l t L (fin [.tmp (.l 2)] Q) nE (fin [.tmp (.l 2)] Q) = D_slices_Compact_intint_1 F N Q l L := wpS (e_slices_Compact_intint_2 F N Q) (by kernel_rfl)
/-- slices.Compact[[]int,int] -/
def c_slices_Compact_intint (N : TN) : AFn := ⟨q_slices_Compact_intint_1 N, [.tmp (.l 2)]⟩
structure H_slices_Compact_intint (N : TN) (F : TF) : Prop where
  code : F (N k_slices_Compact_intint) = some (c_slices_Compact_intint N)
theorem r_slices_Compact_intint {F : TF} {N : TN} (h : F (N k_slices_Compact_intint) = some (c_slices_Compact_intint N)) {Q : TQ} {a0 : AV} {L : Lg} (e : D_slices_Compact_intint_1 F N Q (initE [a0] 0) L) : CallL F (N k_slices_Compact_intint) [a0] L Q :=
  CallL.of_wp h (Eq.mpr (Eq.trans (e_slices_Compact_intint_1 F N Q (initE [a0] 0) Env.nil L) (by kernel_rfl : _ = D_slices_Compact_intint_1 F N Q (initE [a0] 0) L)) e)
def q_prog_rising_1 (N : TN) : ACode := (.seq (.reg [⟨.l 2, none, .mv, [.c (.sl none 0 0 0)]⟩]) (.seq (.reg [⟨.t 3, none, .mv, [.l 0]⟩, ⟨.t 4, none, .call (N k_slices_Sort_intint), [.t 3]⟩]) (.seq (.reg [⟨.t 5, none, .mv, [.l 0]⟩, ⟨.t 6, none, .call (N k_slices_Compact_intint), [.t 5]⟩, ⟨.l 2, none, .mv, [.t 6]⟩]) .ret)))
noncomputable def D_prog_rising_1 (F : TF) (N : TN) (Q : TQ) (x0 : AV) (L : Lg) : Prop :=
 CallL F (N k_slices_Sort_intint) [x0] L fun v1 L1 =>
 CallL F (N k_slices_Compact_intint) [x0] L1 fun v2 L2 =>
 fin1 (some v2) Q L2
theorem e_prog_rising_1 (F : TF) (N : TN) (Q : TQ) (l t : Env) (L : Lg) : wp F (q_prog_rising_1 N) l t L (fin [.tmp (.l 2)] Q) nE (fin [.tmp (.l 2)] Q) = D_prog_rising_1 F N Q (l 0) L := by kernel_rfl
/-- tarpaulin/prog.rising -/
def c_prog_rising (N : TN) : AFn := ⟨q_prog_rising_1 N, [.tmp (.l 2)]⟩
structure H_prog_rising (N : TN) (F : TF) : Prop where
  code : F (N k_prog_rising) = some (c_prog_rising N)
  slices_Compact_intint : H_slices_Compact_intint N F
theorem r_prog_rising {F : TF} {N : TN} (h : F (N k_prog_rising) = some (c_prog_rising N)) {Q : TQ} {a0 : AV} {L : Lg} (e : D_prog_rising_1 F N Q a0 L) : CallL F (N k_prog_rising) [a0] L Q :=
  CallL.of_wp h (Eq.mpr (Eq.trans (e_prog_rising_1 F N Q (initE [a0] 0) Env.nil L) (by kernel_rfl : _ = D_prog_rising_1 F N Q a0 L)) e)
def q_prog_Reads_4 (N : TN) : ACode := (.seq (.reg [⟨.t 81, none, .mv, [.l 2]⟩, ⟨.t 82, none, .call (N k_prog_rising), [.t 81]⟩, ⟨.l 2, none, .mv, [.t 82]⟩]) .ret)
noncomputable def D_prog_Reads_4 (F : TF) (N : TN) (Q : TQ) (x2 : AV) (L : Lg) : Prop :=
 CallL F (N k_prog_rising) [x2] L fun v1 L1 =>
 fin1 (some v1) Q L1
theorem e_prog_Reads_4 (F : TF) (N : TN) (Q : TQ) (l t : Env) (L : Lg) : wp F (q_prog_Reads_4 N) l t L (fin [.tmp (.l 2)] Q) nE (fin [.tmp (.l 2)] Q) = D_prog_Reads_4 F N Q (l 2) L := by kernel_rfl
def y_prog_Reads_6 (F : TF) (N : TN) (Q : TQ) : Nat → Kn := (fun (j : Nat) (l t : Env) (L : Lg) => bif Nat.beq j 0 then (fun (l t : Env) (L : Lg) => D_prog_Reads_4 F N Q (l 2) L) l t L else nE j l t L)
def q_prog_Reads_9 (N : TN) : ACode := (.exit 0)
noncomputable def D_prog_Reads_9 (F : TF) (N : TN) (Q : TQ) (x2 : AV) (L : Lg) : Prop :=
 D_prog_Reads_4 F N Q x2 L
theorem e_prog_Reads_9 (F : TF) (N : TN) (Q : TQ) (l t : Env) (L : Lg) : wp F (q_prog_Reads_9 N) l t L (fun (l t : Env) (L : Lg) => D_prog_Reads_4 F N Q (l 2) L) (y_prog_Reads_6 F N Q) (fin [.tmp (.l 2)] Q) = D_prog_Reads_9 F N Q (l 2) L := by kernel_rfl
def y_prog_Reads_11 (F : TF) (N : TN) (Q : TQ) : Nat → Kn := (fun (j : Nat) (l t : Env) (L : Lg) => bif Nat.beq j 6 then (fun (l t : Env) (L : Lg) => D_prog_Reads_9 F N Q (l 2) L) l t L else (y_prog_Reads_6 F N Q) j l t L)
def q_prog_Reads_13 (N : TN) : ACode := (.seq (.reg [⟨.t 65, none, .bin .lss, [.l 64, .l 63]⟩]) (.seq (.cond (.t 65) .skip (.exit 6)) (.seq (.block 7 (.seq (.reg [⟨.t 66, none, .iad 3, [.l 62, .l 64]⟩, ⟨.t 67, none, .ld (some 3), [.t 66]⟩, ⟨.l 4, none, .alloc [.b false, .i .i64 0, .i .i64 0], []⟩, ⟨.no, none, .st 3, [.l 4, .t 67]⟩]) (.seq (.reg [⟨.t 68, none, .mv, [.l 2]⟩, ⟨.t 69, none, .fad 1, [.l 4]⟩, ⟨.t 70, none, .ld none, [.t 69]⟩, ⟨.t 71, none, .bslice [.i .i64 0] 1 1 [0], [.t 70]⟩, ⟨.t 72, none, .app 1 8, [.t 68, .t 71]⟩, ⟨.l 2, none, .mv, [.t 72]⟩]) (.seq (.reg [⟨.t 73, none, .fad 0, [.l 4]⟩, ⟨.t 74, none, .ld none, [.t 73]⟩]) (.cond (.t 74) (.reg [⟨.t 75, none, .mv, [.l 2]⟩, ⟨.t 76, none, .fad 2, [.l 4]⟩, ⟨.t 77, none, .ld none, [.t 76]⟩, ⟨.t 78, none, .bslice [.i .i64 0] 1 1 [0], [.t 77]⟩, ⟨.t 79, none, .app 1 8, [.t 75, .t 78]⟩, ⟨.l 2, none, .mv, [.t 79]⟩]) .skip))))) (.reg [⟨.t 80, none, .bin .add, [.l 64, .c (.i .i64 1)]⟩, ⟨.l 64, none, .mv, [.t 80]⟩]))))
noncomputable def D_prog_Reads_13 (F : TF) (N : TN) (Q : TQ) (k1 : TK) (l : Env) (L : Lg) : Prop :=
 wpOp F (.bin .lss) [(l 64), (l 63)] L fun v1 L1 =>
 condW v1
 (wpOp F (.iad 3) [(l 62), (l 64)] L1 fun v2 L2 =>
 wpOp F (.ld (some 3)) [v2] L2 fun v3 L3 =>
 wpOp F (.alloc [.b false, .i .i64 0, .i .i64 0]) [] L3 fun v4 L4 =>
 wpOp F (.st 3) [v4, v3] L4 fun _ L5 =>
 wpOp F (.fad 1) [v4] L5 fun v6 L6 =>
 wpOp F (.ld none) [v6] L6 fun v7 L7 =>
 wpOp F (.bslice [.i .i64 0] 1 1 [0]) [v7] L7 fun v8 L8 =>
 wpOp F (.app 1 8) [(l 2), v8] L8 fun v9 L9 =>
 wpOp F (.fad 0) [v4] L9 fun v10 L10 =>
 wpOp F (.ld none) [v10] L10 fun v11 L11 =>
 condW v11
 (wpOp F (.fad 2) [v4] L11 fun v12 L12 =>
 wpOp F (.ld none) [v12] L12 fun v13 L13 =>
 wpOp F (.bslice [.i .i64 0] 1 1 [0]) [v13] L13 fun v14 L14 =>
 wpOp F (.app 1 8) [v9, v14] L14 fun v15 L15 =>
 wpOp F (.bin .add) [(l 64), (.i .i64 1)] L15 fun v16 L16 =>
 k1 (Env.put (Env.put (Env.put (Env.put l 4 v4) 2 v9) 2 v15) 64 v16) L16)
 (wpOp F (.bin .add) [(l 64), (.i .i64 1)] L11 fun v17 L17 =>
 k1 (Env.put (Env.put (Env.put l 4 v4) 2 v9) 64 v17) L17))
 (D_prog_Reads_9 F N Q (l 2) L1)
theorem e_prog_Reads_13 (F : TF) (N : TN) (Q : TQ) (k1 : TK) (l t : Env) (L : Lg) : wp F (q_prog_Reads_13 N) l t L (fun (l _ : Env) (L : Lg) => k1 l L) (y_prog_Reads_11 F N Q) (fin [.tmp (.l 2)] Q) = D_prog_Reads_13 F N Q k1 l L := by kernel_rfl
def q_prog_Reads_12 (N : TN) : ACode := (.loop (q_prog_Reads_13 N))
noncomputable def D_prog_Reads_12 (F : TF) (N : TN) (Q : TQ) (l : Env) (L : Lg) : Prop :=
 loopW (fun l t L k1 => D_prog_Reads_13 F N Q k1 l L) l L
theorem e_prog_Reads_12 (F : TF) (N : TN) (Q : TQ) (l t : Env) (L : Lg) : wp F (q_prog_Reads_12 N) l t L (fun (l t : Env) (L : Lg) => D_prog_Reads_9 F N Q (l 2) L) (y_prog_Reads_11 F N Q) (fin [.tmp (.l 2)] Q) = D_prog_Reads_12 F N Q l L := wpL (fun l t L k1 => e_prog_Reads_13 F N Q k1 l t L) (by kernel_rfl)
def q_prog_Reads_11 (N : TN) : ACode := (.block 6 (q_prog_Reads_12 N))
theorem e_prog_Reads_11 (F : TF) (N : TN) (Q : TQ) (l t : Env) (L : Lg) : wp F (q_prog_Reads_11 N) l t L (fun (l t : Env) (L : Lg) => D_prog_Reads_9 F N Q (l 2) L) (y_prog_Reads_6 F N Q) (fin [.tmp (.l 2)] Q) = D_prog_Reads_12 F N Q l L := wpB (e_prog_Reads_12 F N Q l t L)
def q_prog_Reads_10a (N : TN) : ACode := (.reg [⟨.t 61, none, .fad 4, [.l 1]⟩, ⟨.l 62, none, .ld none, [.t 61]⟩, ⟨.l 63, none, .lenSl, [.l 62]⟩, ⟨.l 64, none, .mv, [.c (.i .i64 0)]⟩])
def q_prog_Reads_10 (N : TN) : ACode := (.seq (q_prog_Reads_10a N) (q_prog_Reads_11 N))
noncomputable def D_prog_Reads_10 (F : TF) (N : TN) (Q : TQ) (l : Env) (L : Lg) : Prop :=
 wpOp F (.fad 4) [(l 1)] L fun v1 L1 =>
 wpOp F (.ld none) [v1] L1 fun v2 L2 =>
 wpOp F .lenSl [v2] L2 fun v3 L3 =>
 D_prog_Reads_12 F N Q (Env.put (Env.put (Env.put l 62 v2) 63 v3) 64 (.i .i64 0)) L3
theorem e_prog_Reads_10 (F : TF) (N : TN) (Q : TQ) (l t : Env) (L : Lg) : wp F (q_prog_Reads_10 N) l t L (fun (l t : Env) (L : Lg) => D_prog_Reads_9 F N Q (l 2) L) (y_prog_Reads_6 F N Q) (fin [.tmp (.l 2)] Q) = D_prog_Reads_10 F N Q l L := wpS (e_prog_Reads_11 F N Q) (by kernel_rfl)
def q_prog_Reads_8 (N : TN) : ACode := (.seq (q_prog_Reads_10 N) (q_prog_Reads_9 N))
theorem e_prog_Reads_8 (F : TF) (N : TN) (Q : TQ) (l t : Env) (L : Lg) : wp F (q_prog_Reads_8 N) l t L (fun (l t : Env) (L : Lg) => D_prog_Reads_4 F N Q (l 2) L) (y_prog_Reads_6 F N Q) (fin [.tmp (.l 2)] Q) = D_prog_Reads_10 F N Q l L := wpS (e_prog_Reads_9 F N Q) (e_prog_Reads_10 F N Q l t L)
def y_prog_Reads_14 (F : TF) (N : TN) (Q : TQ) : Nat → Kn := (fun (j : Nat) (l t : Env) (L : Lg) => bif Nat.beq j 5 then (fun (l t : Env) (L : Lg) => D_prog_Reads_10 F N Q l L) l t L else (y_prog_Reads_6 F N Q) j l t L)
def q_prog_Reads_16 (N : TN) : ACode := (.seq (.reg [⟨.t 56, none, .mv, [.l 2]⟩, ⟨.t 57, none, .fad 1, [.l 1]⟩, ⟨.t 58, none, .ld none, [.t 57]⟩, ⟨.t 59, none, .bslice [.i .i64 0] 1 1 [0], [.t 58]⟩, ⟨.t 60, none, .app 1 8, [.t 56, .t 59]⟩, ⟨.l 2, none, .mv, [.t 60]⟩]) (.exit 0))
noncomputable def D_prog_Reads_16 (F : TF) (N : TN) (Q : TQ) (x1 : AV) (x2 : AV) (L : Lg) : Prop :=
 wpOp F (.fad 1) [x1] L fun v1 L1 =>
 wpOp F (.ld none) [v1] L1 fun v2 L2 =>
 wpOp F (.bslice [.i .i64 0] 1 1 [0]) [v2] L2 fun v3 L3 =>
 wpOp F (.app 1 8) [x2, v3] L3 fun v4 L4 =>
 D_prog_Reads_4 F N Q v4 L4
theorem e_prog_Reads_16 (F : TF) (N : TN) (Q : TQ) (l t : Env) (L : Lg) : wp F (q_prog_Reads_16 N) l t L (fun (l t : Env) (L : Lg) => D_prog_Reads_10 F N Q l L) (y_prog_Reads_14 F N Q) (fin [.tmp (.l 2)] Q) = D_prog_Reads_16 F N Q (l 1) (l 2) L := by kernel_rfl
def w_prog_Reads_15 (F : TF) (N : TN) (Q : TQ) : Kn := (fun (l t : Env) (L : Lg) => D_prog_Reads_16 F N Q (l 1) (l 2) L)
def y_prog_Reads_17 (F : TF) (N : TN) (Q : TQ) : Nat → Kn := (fun (j : Nat) (l t : Env) (L : Lg) => bif Nat.beq j 4 then (w_prog_Reads_15 F N Q) l t L else (y_prog_Reads_14 F N Q) j l t L)
def q_prog_Reads_19 (N : TN) : ACode := (.reg [⟨.t 51, none, .mv, [.l 2]⟩, ⟨.t 52, none, .fad 2, [.l 1]⟩, ⟨.t 53, none, .ld none, [.t 52]⟩, ⟨.t 54, none, .bslice [.i .i64 0] 1 1 [0], [.t 53]⟩, ⟨.t 55, none, .app 1 8, [.t 51, .t 54]⟩, ⟨.l 2, none, .mv, [.t 55]⟩])
noncomputable def D_prog_Reads_19 (F : TF) (N : TN) (Q : TQ) (x1 : AV) (x2 : AV) (L : Lg) : Prop :=
 wpOp F (.fad 2) [x1] L fun v1 L1 =>
 wpOp F (.ld none) [v1] L1 fun v2 L2 =>
 wpOp F (.bslice [.i .i64 0] 1 1 [0]) [v2] L2 fun v3 L3 =>
 wpOp F (.app 1 8) [x2, v3] L3 fun v4 L4 =>
 D_prog_Reads_16 F N Q x1 v4 L4
theorem e_prog_Reads_19 (F : TF) (N : TN) (Q : TQ) (l t : Env) (L : Lg) : wp F (q_prog_Reads_19 N) l t L (w_prog_Reads_15 F N Q) (y_prog_Reads_17 F N Q) (fin [.tmp (.l 2)] Q) = D_prog_Reads_19 F N Q (l 1) (l 2) L := by kernel_rfl
def w_prog_Reads_18 (F : TF) (N : TN) (Q : TQ) : Kn := (fun (l t : Env) (L : Lg) => D_prog_Reads_19 F N Q (l 1) (l 2) L)
def y_prog_Reads_20 (F : TF) (N : TN) (Q : TQ) : Nat → Kn := (fun (j : Nat) (l t : Env) (L : Lg) => bif Nat.beq j 3 then (w_prog_Reads_18 F N Q) l t L else (y_prog_Reads_17 F N Q) j l t L)
def q_prog_Reads_22 (N : TN) : ACode := (.seq (.reg [⟨.t 46, none, .mv, [.l 2]⟩, ⟨.t 47, none, .fad 2, [.l 1]⟩, ⟨.t 48, none, .ld none, [.t 47]⟩, ⟨.t 49, none, .bslice [.i .i64 0] 1 1 [0], [.t 48]⟩, ⟨.t 50, none, .app 1 8, [.t 46, .t 49]⟩, ⟨.l 2, none, .mv, [.t 50]⟩]) (.exit 0))
noncomputable def D_prog_Reads_22 (F : TF) (N : TN) (Q : TQ) (x1 : AV) (x2 : AV) (L : Lg) : Prop :=
 wpOp F (.fad 2) [x1] L fun v1 L1 =>
 wpOp F (.ld none) [v1] L1 fun v2 L2 =>
 wpOp F (.bslice [.i .i64 0] 1 1 [0]) [v2] L2 fun v3 L3 =>
 wpOp F (.app 1 8) [x2, v3] L3 fun v4 L4 =>
 D_prog_Reads_4 F N Q v4 L4
theorem e_prog_Reads_22 (F : TF) (N : TN) (Q : TQ) (l t : Env) (L : Lg) : wp F (q_prog_Reads_22 N) l t L (w_prog_Reads_18 F N Q) (y_prog_Reads_20 F N Q) (fin [.tmp (.l 2)] Q) = D_prog_Reads_22 F N Q (l 1) (l 2) L := by kernel_rfl
def w_prog_Reads_21 (F : TF) (N : TN) (Q : TQ) : Kn := (fun (l t : Env) (L : Lg) => D_prog_Reads_22 F N Q (l 1) (l 2) L)
def y_prog_Reads_23 (F : TF) (N : TN) (Q : TQ) : Nat → Kn := (fun (j : Nat) (l t : Env) (L : Lg) => bif Nat.beq j 2 then (w_prog_Reads_21 F N Q) l t L else (y_prog_Reads_20 F N Q) j l t L)
def q_prog_Reads_25 (N : TN) : ACode := (.reg [⟨.t 41, none, .mv, [.l 2]⟩, ⟨.t 42, none, .fad 3, [.l 1]⟩, ⟨.t 43, none, .ld none, [.t 42]⟩, ⟨.t 44, none, .bslice [.i .i64 0] 1 1 [0], [.t 43]⟩, ⟨.t 45, none, .app 1 8, [.t 41, .t 44]⟩, ⟨.l 2, none, .mv, [.t 45]⟩])
noncomputable def D_prog_Reads_25 (F : TF) (N : TN) (Q : TQ) (x1 : AV) (x2 : AV) (L : Lg) : Prop :=
 wpOp F (.fad 3) [x1] L fun v1 L1 =>
 wpOp F (.ld none) [v1] L1 fun v2 L2 =>
 wpOp F (.bslice [.i .i64 0] 1 1 [0]) [v2] L2 fun v3 L3 =>
 wpOp F (.app 1 8) [x2, v3] L3 fun v4 L4 =>
 D_prog_Reads_22 F N Q x1 v4 L4
theorem e_prog_Reads_25 (F : TF) (N : TN) (Q : TQ) (l t : Env) (L : Lg) : wp F (q_prog_Reads_25 N) l t L (w_prog_Reads_21 F N Q) (y_prog_Reads_23 F N Q) (fin [.tmp (.l 2)] Q) = D_prog_Reads_25 F N Q (l 1) (l 2) L := by kernel_rfl
def w_prog_Reads_24 (F : TF) (N : TN) (Q : TQ) : Kn := (fun (l t : Env) (L : Lg) => D_prog_Reads_25 F N Q (l 1) (l 2) L)
def y_prog_Reads_26 (F : TF) (N : TN) (Q : TQ) : Nat → Kn := (fun (j : Nat) (l t : Env) (L : Lg) => bif Nat.beq j 1 then (w_prog_Reads_24 F N Q) l t L else (y_prog_Reads_23 F N Q) j l t L)
def q_prog_Reads_28 (N : TN) : ACode := (.exit 0)
noncomputable def D_prog_Reads_28 (F : TF) (N : TN) (Q : TQ) (x2 : AV) (L : Lg) : Prop :=
 D_prog_Reads_4 F N Q x2 L
theorem e_prog_Reads_28 (F : TF) (N : TN) (Q : TQ) (l t : Env) (L : Lg) : wp F (q_prog_Reads_28 N) l t L (w_prog_Reads_24 F N Q) (y_prog_Reads_26 F N Q) (fin [.tmp (.l 2)] Q) = D_prog_Reads_28 F N Q (l 2) L := by kernel_rfl
def q_prog_Reads_33 (N : TN) : ACode := (.seq (.reg [⟨.t 40, none, .bin .eql, [.l 9, .c (.i .i64 15)]⟩, ⟨.t 39, none, .mv, [.t 40]⟩]) (.cond (.t 39) (.exit 5) .skip))
noncomputable def D_prog_Reads_33 (F : TF) (N : TN) (Q : TQ) (l : Env) (L : Lg) : Prop :=
 wpOp F (.bin .eql) [(l 9), (.i .i64 15)] L fun v1 L1 =>
 condW v1
 (D_prog_Reads_10 F N Q l L1)
 (D_prog_Reads_28 F N Q (l 2) L1)
theorem e_prog_Reads_33 (F : TF) (N : TN) (Q : TQ) (l t : Env) (L : Lg) : wp F (q_prog_Reads_33 N) l t L (fun (l t : Env) (L : Lg) => D_prog_Reads_28 F N Q (l 2) L) (y_prog_Reads_26 F N Q) (fin [.tmp (.l 2)] Q) = D_prog_Reads_33 F N Q l L := by kernel_rfl
def q_prog_Reads_32a (N : TN) : ACode := (.seq (.seq (.reg [⟨.t 26, none, .bin .eql, [.l 9, .c (.i .i64 3)]⟩, ⟨.t 25, none, .mv, [.t 26]⟩]) (.cond (.t 25) .skip (.seq (.reg [⟨.t 27, none, .bin .eql, [.l 9, .c (.i .i64 5)]⟩, ⟨.t 25, none, .mv, [.t 27]⟩]) (.cond (.t 25) .skip (.seq (.reg [⟨.t 28, none, .bin .eql, [.l 9, .c (.i .i64 6)]⟩, ⟨.t 25, none, .mv, [.t 28]⟩]) (.cond (.t 25) .skip (.seq (.reg [⟨.t 29, none, .bin .eql, [.l 9, .c (.i .i64 11)]⟩, ⟨.t 25, none, .mv, [.t 29]⟩]) (.cond (.t 25) .skip (.seq (.reg [⟨.t 30, none, .bin .eql, [.l 9, .c (.i .i64 12)]⟩, ⟨.t 25, none, .mv, [.t 30]⟩]) (.cond (.t 25) .skip (.seq (.reg [⟨.t 31, none, .bin .eql, [.l 9, .c (.i .i64 13)]⟩, ⟨.t 25, none, .mv, [.t 31]⟩]) (.cond (.t 25) .skip (.seq (.reg [⟨.t 32, none, .bin .eql, [.l 9, .c (.i .i64 14)]⟩, ⟨.t 25, none, .mv, [.t 32]⟩]) (.cond (.t 25) .skip (.seq (.reg [⟨.t 33, none, .bin .eql, [.l 9, .c (.i .i64 20)]⟩, ⟨.t 25, none, .mv, [.t 33]⟩]) (.cond (.t 25) .skip (.seq (.reg [⟨.t 34, none, .bin .eql, [.l 9, .c (.i .i64 27)]⟩, ⟨.t 25, none, .mv, [.t 34]⟩]) (.cond (.t 25) .skip (.seq (.reg [⟨.t 35, none, .bin .eql, [.l 9, .c (.i .i64 28)]⟩, ⟨.t 25, none, .mv, [.t 35]⟩]) (.cond (.t 25) .skip (.seq (.reg [⟨.t 36, none, .bin .eql, [.l 9, .c (.i .i64 29)]⟩, ⟨.t 25, none, .mv, [.t 36]⟩]) (.cond (.t 25) .skip (.seq (.reg [⟨.t 37, none, .bin .eql, [.l 9, .c (.i .i64 30)]⟩, ⟨.t 25, none, .mv, [.t 37]⟩]) (.cond (.t 25) .skip (.reg [⟨.t 38, none, .bin .eql, [.l 9, .c (.i .i64 32)]⟩, ⟨.t 25, none, .mv, [.t 38]⟩]))))))))))))))))))))))))) (.cond (.t 25) (.exit 4) .skip))
def q_prog_Reads_32 (N : TN) : ACode := (.seq (q_prog_Reads_32a N) (q_prog_Reads_33 N))
noncomputable def D_prog_Reads_32 (F : TF) (N : TN) (Q : TQ) (l : Env) (L : Lg) : Prop :=
 wpOp F (.bin .eql) [(l 9), (.i .i64 3)] L fun v1 L1 =>
 condW v1
 (condW v1
 (D_prog_Reads_16 F N Q (l 1) (l 2) L1)
 (D_prog_Reads_33 F N Q l L1))
 (wpOp F (.bin .eql) [(l 9), (.i .i64 5)] L1 fun v2 L2 =>
 condW v2
 (condW v2
 (D_prog_Reads_16 F N Q (l 1) (l 2) L2)
 (D_prog_Reads_33 F N Q l L2))
 (wpOp F (.bin .eql) [(l 9), (.i .i64 6)] L2 fun v3 L3 =>
 condW v3
 (condW v3
 (D_prog_Reads_16 F N Q (l 1) (l 2) L3)
 (D_prog_Reads_33 F N Q l L3))
 (wpOp F (.bin .eql) [(l 9), (.i .i64 11)] L3 fun v4 L4 =>
 condW v4
 (condW v4
 (D_prog_Reads_16 F N Q (l 1) (l 2) L4)
 (D_prog_Reads_33 F N Q l L4))
 (wpOp F (.bin .eql) [(l 9), (.i .i64 12)] L4 fun v5 L5 =>
 condW v5
 (condW v5
 (D_prog_Reads_16 F N Q (l 1) (l 2) L5)
 (D_prog_Reads_33 F N Q l L5))
 (wpOp F (.bin .eql) [(l 9), (.i .i64 13)] L5 fun v6 L6 =>
 condW v6
 (condW v6
 (D_prog_Reads_16 F N Q (l 1) (l 2) L6)
 (D_prog_Reads_33 F N Q l L6))
 (wpOp F (.bin .eql) [(l 9), (.i .i64 14)] L6 fun v7 L7 =>
 condW v7
 (condW v7
 (D_prog_Reads_16 F N Q (l 1) (l 2) L7)
 (D_prog_Reads_33 F N Q l L7))
 (wpOp F (.bin .eql) [(l 9), (.i .i64 20)] L7 fun v8 L8 =>
 condW v8
 (condW v8
 (D_prog_Reads_16 F N Q (l 1) (l 2) L8)
 (D_prog_Reads_33 F N Q l L8))
 (wpOp F (.bin .eql) [(l 9), (.i .i64 27)] L8 fun v9 L9 =>
 condW v9
 (condW v9
 (D_prog_Reads_16 F N Q (l 1) (l 2) L9)
 (D_prog_Reads_33 F N Q l L9))
 (wpOp F (.bin .eql) [(l 9), (.i .i64 28)] L9 fun v10 L10 =>
 condW v10
 (condW v10
 (D_prog_Reads_16 F N Q (l 1) (l 2) L10)
 (D_prog_Reads_33 F N Q l L10))
 (wpOp F (.bin .eql) [(l 9), (.i .i64 29)] L10 fun v11 L11 =>
 condW v11
 (condW v11
 (D_prog_Reads_16 F N Q (l 1) (l 2) L11)
 (D_prog_Reads_33 F N Q l L11))
 (wpOp F (.bin .eql) [(l 9), (.i .i64 30)] L11 fun v12 L12 =>
 condW v12
 (condW v12
 (D_prog_Reads_16 F N Q (l 1) (l 2) L12)
 (D_prog_Reads_33 F N Q l L12))
 (wpOp F (.bin .eql) [(l 9), (.i .i64 32)] L12 fun v13 L13 =>
 condW v13
 (D_prog_Reads_16 F N Q (l 1) (l 2) L13)
 (D_prog_Reads_33 F N Q l L13)))))))))))))
theorem e_prog_Reads_32 (F : TF) (N : TN) (Q : TQ) (l t : Env) (L : Lg) : wp F (q_prog_Reads_32 N) l t L (fun (l t : Env) (L : Lg) => D_prog_Reads_28 F N Q (l 2) L) (y_prog_Reads_26 F N Q) (fin [.tmp (.l 2)] Q) = D_prog_Reads_32 F N Q l L := wpS (e_prog_Reads_33 F N Q) (by kernel_rfl)
def q_prog_Reads_31a (N : TN) : ACode := (.seq (.seq (.reg [⟨.t 22, none, .bin .eql, [.l 9, .c (.i .i64 10)]⟩, ⟨.t 21, none, .mv, [.t 22]⟩]) (.cond (.t 21) .skip (.seq (.reg [⟨.t 23, none, .bin .eql, [.l 9, .c (.i .i64 21)]⟩, ⟨.t 21, none, .mv, [.t 23]⟩]) (.cond (.t 21) .skip (.reg [⟨.t 24, none, .bin .eql, [.l 9, .c (.i .i64 26)]⟩, ⟨.t 21, none, .mv, [.t 24]⟩]))))) (.cond (.t 21) (.exit 3) .skip))
def q_prog_Reads_31 (N : TN) : ACode := (.seq (q_prog_Reads_31a N) (q_prog_Reads_32 N))
noncomputable def D_prog_Reads_31 (F : TF) (N : TN) (Q : TQ) (l : Env) (L : Lg) : Prop :=
 wpOp F (.bin .eql) [(l 9), (.i .i64 10)] L fun v1 L1 =>
 condW v1
 (condW v1
 (D_prog_Reads_19 F N Q (l 1) (l 2) L1)
 (D_prog_Reads_32 F N Q l L1))
 (wpOp F (.bin .eql) [(l 9), (.i .i64 21)] L1 fun v2 L2 =>
 condW v2
 (condW v2
 (D_prog_Reads_19 F N Q (l 1) (l 2) L2)
 (D_prog_Reads_32 F N Q l L2))
 (wpOp F (.bin .eql) [(l 9), (.i .i64 26)] L2 fun v3 L3 =>
 condW v3
 (D_prog_Reads_19 F N Q (l 1) (l 2) L3)
 (D_prog_Reads_32 F N Q l L3)))
theorem e_prog_Reads_31 (F : TF) (N : TN) (Q : TQ) (l t : Env) (L : Lg) : wp F (q_prog_Reads_31 N) l t L (fun (l t : Env) (L : Lg) => D_prog_Reads_28 F N Q (l 2) L) (y_prog_Reads_26 F N Q) (fin [.tmp (.l 2)] Q) = D_prog_Reads_31 F N Q l L := wpS (e_prog_Reads_32 F N Q) (by kernel_rfl)
def q_prog_Reads_30a (N : TN) : ACode := (.seq (.seq (.reg [⟨.t 14, none, .bin .eql, [.l 9, .c (.i .i64 2)]⟩, ⟨.t 13, none, .mv, [.t 14]⟩]) (.cond (.t 13) .skip (.seq (.reg [⟨.t 15, none, .bin .eql, [.l 9, .c (.i .i64 17)]⟩, ⟨.t 13, none, .mv, [.t 15]⟩]) (.cond (.t 13) .skip (.seq (.reg [⟨.t 16, none, .bin .eql, [.l 9, .c (.i .i64 18)]⟩, ⟨.t 13, none, .mv, [.t 16]⟩]) (.cond (.t 13) .skip (.seq (.reg [⟨.t 17, none, .bin .eql, [.l 9, .c (.i .i64 19)]⟩, ⟨.t 13, none, .mv, [.t 17]⟩]) (.cond (.t 13) .skip (.seq (.reg [⟨.t 18, none, .bin .eql, [.l 9, .c (.i .i64 22)]⟩, ⟨.t 13, none, .mv, [.t 18]⟩]) (.cond (.t 13) .skip (.seq (.reg [⟨.t 19, none, .bin .eql, [.l 9, .c (.i .i64 25)]⟩, ⟨.t 13, none, .mv, [.t 19]⟩]) (.cond (.t 13) .skip (.reg [⟨.t 20, none, .bin .eql, [.l 9, .c (.i .i64 31)]⟩, ⟨.t 13, none, .mv, [.t 20]⟩]))))))))))))) (.cond (.t 13) (.exit 2) .skip))
def q_prog_Reads_30 (N : TN) : ACode := (.seq (q_prog_Reads_30a N) (q_prog_Reads_31 N))
noncomputable def D_prog_Reads_30 (F : TF) (N : TN) (Q : TQ) (l : Env) (L : Lg) : Prop :=
 wpOp F (.bin .eql) [(l 9), (.i .i64 2)] L fun v1 L1 =>
 condW v1
 (condW v1
 (D_prog_Reads_22 F N Q (l 1) (l 2) L1)
 (D_prog_Reads_31 F N Q l L1))
 (wpOp F (.bin .eql) [(l 9), (.i .i64 17)] L1 fun v2 L2 =>
 condW v2
 (condW v2
 (D_prog_Reads_22 F N Q (l 1) (l 2) L2)
 (D_prog_Reads_31 F N Q l L2))
 (wpOp F (.bin .eql) [(l 9), (.i .i64 18)] L2 fun v3 L3 =>
 condW v3
 (condW v3
 (D_prog_Reads_22 F N Q (l 1) (l 2) L3)
 (D_prog_Reads_31 F N Q l L3))
 (wpOp F (.bin .eql) [(l 9), (.i .i64 19)] L3 fun v4 L4 =>
 condW v4
 (condW v4
 (D_prog_Reads_22 F N Q (l 1) (l 2) L4)
 (D_prog_Reads_31 F N Q l L4))
 (wpOp F (.bin .eql) [(l 9), (.i .i64 22)] L4 fun v5 L5 =>
 condW v5
 (condW v5
 (D_prog_Reads_22 F N Q (l 1) (l 2) L5)
 (D_prog_Reads_31 F N Q l L5))
 (wpOp F (.bin .eql) [(l 9), (.i .i64 25)] L5 fun v6 L6 =>
 condW v6
 (condW v6
 (D_prog_Reads_22 F N Q (l 1) (l 2) L6)
 (D_prog_Reads_31 F N Q l L6))
 (wpOp F (.bin .eql) [(l 9), (.i .i64 31)] L6 fun v7 L7 =>
 condW v7
 (D_prog_Reads_22 F N Q (l 1) (l 2) L7)
 (D_prog_Reads_31 F N Q l L7)))))))
theorem e_prog_Reads_30 (F : TF) (N : TN) (Q : TQ) (l t : Env) (L : Lg) : wp F (q_prog_Reads_30 N) l t L (fun (l t : Env) (L : Lg) => D_prog_Reads_28 F N Q (l 2) L) (y_prog_Reads_26 F N Q) (fin [.tmp (.l 2)] Q) = D_prog_Reads_30 F N Q l L := wpS (e_prog_Reads_31 F N Q) (by kernel_rfl)
def q_prog_Reads_29a (N : TN) : ACode := (.seq (.seq (.reg [⟨.t 11, none, .bin .eql, [.l 9, .c (.i .i64 23)]⟩, ⟨.t 10, none, .mv, [.t 11]⟩]) (.cond (.t 10) .skip (.reg [⟨.t 12, none, .bin .eql, [.l 9, .c (.i .i64 24)]⟩, ⟨.t 10, none, .mv, [.t 12]⟩]))) (.cond (.t 10) (.exit 1) .skip))
def q_prog_Reads_29 (N : TN) : ACode := (.seq (q_prog_Reads_29a N) (q_prog_Reads_30 N))
noncomputable def D_prog_Reads_29 (F : TF) (N : TN) (Q : TQ) (l : Env) (L : Lg) : Prop :=
 wpOp F (.bin .eql) [(l 9), (.i .i64 23)] L fun v1 L1 =>
 condW v1
 (condW v1
 (D_prog_Reads_25 F N Q (l 1) (l 2) L1)
 (D_prog_Reads_30 F N Q l L1))
 (wpOp F (.bin .eql) [(l 9), (.i .i64 24)] L1 fun v2 L2 =>
 condW v2
 (D_prog_Reads_25 F N Q (l 1) (l 2) L2)
 (D_prog_Reads_30 F N Q l L2))
theorem e_prog_Reads_29 (F : TF) (N : TN) (Q : TQ) (l t : Env) (L : Lg) : wp F (q_prog_Reads_29 N) l t L (fun (l t : Env) (L : Lg) => D_prog_Reads_28 F N Q (l 2) L) (y_prog_Reads_26 F N Q) (fin [.tmp (.l 2)] Q) = D_prog_Reads_29 F N Q l L := wpS (e_prog_Reads_30 F N Q) (by kernel_rfl)
def q_prog_Reads_27 (N : TN) : ACode := (.seq (q_prog_Reads_29 N) (q_prog_Reads_28 N))
theorem e_prog_Reads_27 (F : TF) (N : TN) (Q : TQ) (l t : Env) (L : Lg) : wp F (q_prog_Reads_27 N) l t L (w_prog_Reads_24 F N Q) (y_prog_Reads_26 F N Q) (fin [.tmp (.l 2)] Q) = D_prog_Reads_29 F N Q l L := wpS (e_prog_Reads_28 F N Q) (e_prog_Reads_29 F N Q l t L)
def q_prog_Reads_26 (N : TN) : ACode := (.block 1 (q_prog_Reads_27 N))
theorem e_prog_Reads_26 (F : TF) (N : TN) (Q : TQ) (l t : Env) (L : Lg) : wp F (q_prog_Reads_26 N) l t L (w_prog_Reads_24 F N Q) (y_prog_Reads_23 F N Q) (fin [.tmp (.l 2)] Q) = D_prog_Reads_29 F N Q l L := wpB (e_prog_Reads_27 F N Q l t L)
def q_prog_Reads_24 (N : TN) : ACode := (.seq (q_prog_Reads_26 N) (q_prog_Reads_25 N))
theorem e_prog_Reads_24 (F : TF) (N : TN) (Q : TQ) (l t : Env) (L : Lg) : wp F (q_prog_Reads_24 N) l t L (w_prog_Reads_21 F N Q) (y_prog_Reads_23 F N Q) (fin [.tmp (.l 2)] Q) = D_prog_Reads_29 F N Q l L := wpS (e_prog_Reads_25 F N Q) (e_prog_Reads_26 F N Q l t L)
def q_prog_Reads_23 (N : TN) : ACode := (.block 2 (q_prog_Reads_24 N))
theorem e_prog_Reads_23 (F : TF) (N : TN) (Q : TQ) (l t : Env) (L : Lg) : wp F (q_prog_Reads_23 N) l t L (w_prog_Reads_21 F N Q) (y_prog_Reads_20 F N Q) (fin [.tmp (.l 2)] Q) = D_prog_Reads_29 F N Q l L := wpB (e_prog_Reads_24 F N Q l t L)
def q_prog_Reads_21 (N : TN) : ACode := (.seq (q_prog_Reads_23 N) (q_prog_Reads_22 N))
theorem e_prog_Reads_21 (F : TF) (N : TN) (Q : TQ) (l t : Env) (L : Lg) : wp F (q_prog_Reads_21 N) l t L (w_prog_Reads_18 F N Q) (y_prog_Reads_20 F N Q) (fin [.tmp (.l 2)] Q) = D_prog_Reads_29 F N Q l L := wpS (e_prog_Reads_22 F N Q) (e_prog_Reads_23 F N Q l t L)
def q_prog_Reads_20 (N : TN) : ACode := (.block 3 (q_prog_Reads_21 N))
theorem e_prog_Reads_20 (F : TF) (N : TN) (Q : TQ) (l t : Env) (L : Lg) : wp F (q_prog_Reads_20 N) l t L (w_prog_Reads_18 F N Q) (y_prog_Reads_17 F N Q) (fin [.tmp (.l 2)] Q) = D_prog_Reads_29 F N Q l L := wpB (e_prog_Reads_21 F N Q l t L)
def q_prog_Reads_18 (N : TN) : ACode := (.seq (q_prog_Reads_20 N) (q_prog_Reads_19 N))
theorem e_prog_Reads_18 (F : TF) (N : TN) (Q : TQ) (l t : Env) (L : Lg) : wp F (q_prog_Reads_18 N) l t L (w_prog_Reads_15 F N Q) (y_prog_Reads_17 F N Q) (fin [.tmp (.l 2)] Q) = D_prog_Reads_29 F N Q l L := wpS (e_prog_Reads_19 F N Q) (e_prog_Reads_20 F N Q l t L)
def q_prog_Reads_17 (N : TN) : ACode := (.block 4 (q_prog_Reads_18 N))
theorem e_prog_Reads_17 (F : TF) (N : TN) (Q : TQ) (l t : Env) (L : Lg) : wp F (q_prog_Reads_17 N) l t L (w_prog_Reads_15 F N Q) (y_prog_Reads_14 F N Q) (fin [.tmp (.l 2)] Q) = D_prog_Reads_29 F N Q l L := wpB (e_prog_Reads_18 F N Q l t L)
def q_prog_Reads_15 (N : TN) : ACode := (.seq (q_prog_Reads_17 N) (q_prog_Reads_16 N))
theorem e_prog_Reads_15 (F : TF) (N : TN) (Q : TQ) (l t : Env) (L : Lg) : wp F (q_prog_Reads_15 N) l t L (fun (l t : Env) (L : Lg) => D_prog_Reads_10 F N Q l L) (y_prog_Reads_14 F N Q) (fin [.tmp (.l 2)] Q) = D_prog_Reads_29 F N Q l L := wpS (e_prog_Reads_16 F N Q) (e_prog_Reads_17 F N Q l t L)
def q_prog_Reads_14 (N : TN) : ACode := (.block 5 (q_prog_Reads_15 N))
theorem e_prog_Reads_14 (F : TF) (N : TN) (Q : TQ) (l t : Env) (L : Lg) : wp F (q_prog_Reads_14 N) l t L (fun (l t : Env) (L : Lg) => D_prog_Reads_10 F N Q l L) (y_prog_Reads_6 F N Q) (fin [.tmp (.l 2)] Q) = D_prog_Reads_29 F N Q l L := wpB (e_prog_Reads_15 F N Q l t L)
def q_prog_Reads_7 (N : TN) : ACode := (.seq (q_prog_Reads_14 N) (q_prog_Reads_8 N))
theorem e_prog_Reads_7 (F : TF) (N : TN) (Q : TQ) (l t : Env) (L : Lg) : wp F (q_prog_Reads_7 N) l t L (fun (l t : Env) (L : Lg) => D_prog_Reads_4 F N Q (l 2) L) (y_prog_Reads_6 F N Q) (fin [.tmp (.l 2)] Q) = D_prog_Reads_29 F N Q l L := wpS (e_prog_Reads_8 F N Q) (e_prog_Reads_14 F N Q l t L)
def q_prog_Reads_6 (N : TN) : ACode := (.block 0 (q_prog_Reads_7 N))
theorem e_prog_Reads_6 (F : TF) (N : TN) (Q : TQ) (l t : Env) (L : Lg) : wp F (q_prog_Reads_6 N) l t L (fun (l t : Env) (L : Lg) => D_prog_Reads_4 F N Q (l 2) L) nE (fin [.tmp (.l 2)] Q) = D_prog_Reads_29 F N Q l L := wpB (e_prog_Reads_7 F N Q l t L)
def q_prog_Reads_5a (N : TN) : ACode := (.reg [⟨.t 8, none, .fad 0, [.l 1]⟩, ⟨.l 9, none, .ld none, [.t 8]⟩])
def q_prog_Reads_5 (N : TN) : ACode := (.seq (q_prog_Reads_5a N) (q_prog_Reads_6 N))
noncomputable def D_prog_Reads_5 (F : TF) (N : TN) (Q : TQ) (l : Env) (L : Lg) : Prop :=
 wpOp F (.fad 0) [(l 1)] L fun v1 L1 =>
 wpOp F (.ld none) [v1] L1 fun v2 L2 =>
 D_prog_Reads_29 F N Q (Env.put l 9 v2) L2
theorem e_prog_Reads_5 (F : TF) (N : TN) (Q : TQ) (l t : Env) (L : Lg) : wp F (q_prog_Reads_5 N) l t L (fun (l t : Env) (L : Lg) => D_prog_Reads_4 F N Q (l 2) L) nE (fin [.tmp (.l 2)] Q) = D_prog_Reads_5 F N Q l L := wpS (e_prog_Reads_6 F N Q) (by kernel_rfl)
def q_prog_Reads_3 (N : TN) : ACode := (.seq (q_prog_Reads_5 N) (q_prog_Reads_4 N))
theorem e_prog_Reads_3 (F : TF) (N : TN) (Q : TQ) (l t : Env) (L : Lg) : wp F (q_prog_Reads_3 N) l t L (fin [.tmp (.l 2)] Q) nE (fin [.tmp (.l 2)] Q) = D_prog_Reads_5 F N Q l L := wpS (e_prog_Reads_4 F N Q) (e_prog_Reads_5 F N Q l t L)
def q_prog_Reads_2a (N : TN) : ACode := (.seq (.reg [⟨.t 5, none, .ld (some 6), [.l 1]⟩, ⟨.t 6, none, .call (N k_prog_good), [.t 5, .c (.i .i64 100)]⟩, ⟨.t 7, none, .un .not, [.t 6]⟩]) (.cond (.t 7) (.seq (.reg [⟨.l 2, none, .mv, [.c (.sl none 0 0 0)]⟩]) .ret) .skip))
def q_prog_Reads_2 (N : TN) : ACode := (.seq (q_prog_Reads_2a N) (q_prog_Reads_3 N))
noncomputable def D_prog_Reads_2 (F : TF) (N : TN) (Q : TQ) (l : Env) (L : Lg) : Prop :=
 wpOp F (.ld (some 6)) [(l 1)] L fun v1 L1 =>
 CallL F (N k_prog_good) [v1, (.i .i64 100)] L1 fun v2 L2 =>
 wpOp F (.un .not) [v2] L2 fun v3 L3 =>
 condW v3
 (fin1 (some (.sl none 0 0 0)) Q L3)
 (D_prog_Reads_5 F N Q l L3)
theorem e_prog_Reads_2 (F : TF) (N : TN) (Q : TQ) (l t : Env) (L : Lg) : wp F (q_prog_Reads_2 N) l t L (fin [.tmp (.l 2)] Q) nE (fin [.tmp (.l 2)] Q) = D_prog_Reads_2 F N Q l L := wpS (e_prog_Reads_3 F N Q) (by kernel_rfl)
def q_prog_Reads_1a (N : TN) : ACode := (.reg [⟨.l 1, none, .box, [.l 0]⟩, ⟨.l 2, none, .mv, [.c (.sl none 0 0 0)]⟩])
def q_prog_Reads_1 (N : TN) : ACode := (.seq (q_prog_Reads_1a N) (q_prog_Reads_2 N))
noncomputable def D_prog_Reads_1 (F : TF) (N : TN) (Q : TQ) (l : Env) (L : Lg) : Prop :=
 wpOp F .box [(l 0)] L fun v1 L1 =>
 D_prog_Reads_2 F N Q (Env.put (Env.put l 1 v1) 2 (.sl none 0 0 0)) L1
theorem e_prog_Reads_1 (F : TF) (N : TN) (Q : TQ) (l t : Env) (L : Lg) : wp F (q_prog_Reads_1 N) l t L (fin [.tmp (.l 2)] Q) nE (fin [.tmp (.l 2)] Q) = D_prog_Reads_1 F N Q l L := wpS (e_prog_Reads_2 F N Q) (by kernel_rfl)
/-- tarpaulin/prog.Reads -/
def c_prog_Reads (N : TN) : AFn := ⟨q_prog_Reads_1 N, [.tmp (.l 2)]⟩
structure H_prog_Reads (N : TN) (F : TF) : Prop where
  code : F (N k_prog_Reads) = some (c_prog_Reads N)
  prog_good : H_prog_good N F
  prog_rising : H_prog_rising N F
theorem r_prog_Reads {F : TF} {N : TN} (h : F (N k_prog_Reads) = some (c_prog_Reads N)) {Q : TQ} {a0 : AV} {L : Lg} (e : D_prog_Reads_1 F N Q (initE [a0] 0) L) : CallL F (N k_prog_Reads) [a0] L Q :=
  CallL.of_wp h (Eq.mpr (Eq.trans (e_prog_Reads_1 F N Q (initE [a0] 0) Env.nil L) (by kernel_rfl : _ = D_prog_Reads_1 F N Q (initE [a0] 0) L)) e)
def q_prog_Writes_4 (N : TN) : ACode := (.seq (.reg [⟨.t 73, none, .mv, [.l 2]⟩, ⟨.t 74, none, .call (N k_prog_rising), [.t 73]⟩, ⟨.l 2, none, .mv, [.t 74]⟩]) .ret)
noncomputable def D_prog_Writes_4 (F : TF) (N : TN) (Q : TQ) (x2 : AV) (L : Lg) : Prop :=
 CallL F (N k_prog_rising) [x2] L fun v1 L1 =>
 fin1 (some v1) Q L1
theorem e_prog_Writes_4 (F : TF) (N : TN) (Q : TQ) (l t : Env) (L : Lg) : wp F (q_prog_Writes_4 N) l t L (fin [.tmp (.l 2)] Q) nE (fin [.tmp (.l 2)] Q) = D_prog_Writes_4 F N Q (l 2) L := by kernel_rfl
def y_prog_Writes_6 (F : TF) (N : TN) (Q : TQ) : Nat → Kn := (fun (j : Nat) (l t : Env) (L : Lg) => bif Nat.beq j 0 then (fun (l t : Env) (L : Lg) => D_prog_Writes_4 F N Q (l 2) L) l t L else nE j l t L)
def q_prog_Writes_8 (N : TN) : ACode := (.seq (.reg [⟨.t 64, none, .mv, [.l 2]⟩, ⟨.t 65, none, .fad 1, [.l 1]⟩, ⟨.t 66, none, .ld none, [.t 65]⟩, ⟨.t 67, none, .fad 2, [.l 1]⟩, ⟨.t 68, none, .ld none, [.t 67]⟩, ⟨.t 69, none, .fad 3, [.l 1]⟩, ⟨.t 70, none, .ld none, [.t 69]⟩, ⟨.t 71, none, .bslice [.i .i64 0] 3 1 [0, 1, 2], [.t 66, .t 68, .t 70]⟩, ⟨.t 72, none, .app 1 8, [.t 64, .t 71]⟩, ⟨.l 2, none, .mv, [.t 72]⟩]) (.exit 0))
noncomputable def D_prog_Writes_8 (F : TF) (N : TN) (Q : TQ) (x1 : AV) (x2 : AV) (L : Lg) : Prop :=
 wpOp F (.fad 1) [x1] L fun v1 L1 =>
 wpOp F (.ld none) [v1] L1 fun v2 L2 =>
 wpOp F (.fad 2) [x1] L2 fun v3 L3 =>
 wpOp F (.ld none) [v3] L3 fun v4 L4 =>
 wpOp F (.fad 3) [x1] L4 fun v5 L5 =>
 wpOp F (.ld none) [v5] L5 fun v6 L6 =>
 wpOp F (.bslice [.i .i64 0] 3 1 [0, 1, 2]) [v2, v4, v6] L6 fun v7 L7 =>
 wpOp F (.app 1 8) [x2, v7] L7 fun v8 L8 =>
 D_prog_Writes_4 F N Q v8 L8
theorem e_prog_Writes_8 (F : TF) (N : TN) (Q : TQ) (l t : Env) (L : Lg) : wp F (q_prog_Writes_8 N) l t L (fun (l t : Env) (L : Lg) => D_prog_Writes_4 F N Q (l 2) L) (y_prog_Writes_6 F N Q) (fin [.tmp (.l 2)] Q) = D_prog_Writes_8 F N Q (l 1) (l 2) L := by kernel_rfl
def w_prog_Writes_7 (F : TF) (N : TN) (Q : TQ) : Kn := (fun (l t : Env) (L : Lg) => D_prog_Writes_8 F N Q (l 1) (l 2) L)
def y_prog_Writes_9 (F : TF) (N : TN) (Q : TQ) : Nat → Kn := (fun (j : Nat) (l t : Env) (L : Lg) => bif Nat.beq j 6 then (w_prog_Writes_7 F N Q) l t L else (y_prog_Writes_6 F N Q) j l t L)
def q_prog_Writes_11 (N : TN) : ACode := (.seq (.reg [⟨.t 59, none, .mv, [.l 2]⟩, ⟨.t 60, none, .fad 3, [.l 1]⟩, ⟨.t 61, none, .ld none, [.t 60]⟩, ⟨.t 62, none, .bslice [.i .i64 0] 1 1 [0], [.t 61]⟩, ⟨.t 63, none, .app 1 8, [.t 59, .t 62]⟩, ⟨.l 2, none, .mv, [.t 63]⟩]) (.exit 0))
noncomputable def D_prog_Writes_11 (F : TF) (N : TN) (Q : TQ) (x1 : AV) (x2 : AV) (L : Lg) : Prop :=
 wpOp F (.fad 3) [x1] L fun v1 L1 =>
 wpOp F (.ld none) [v1] L1 fun v2 L2 =>
 wpOp F (.bslice [.i .i64 0] 1 1 [0]) [v2] L2 fun v3 L3 =>
 wpOp F (.app 1 8) [x2, v3] L3 fun v4 L4 =>
 D_prog_Writes_4 F N Q v4 L4
theorem e_prog_Writes_11 (F : TF) (N : TN) (Q : TQ) (l t : Env) (L : Lg) : wp F (q_prog_Writes_11 N) l t L (w_prog_Writes_7 F N Q) (y_prog_Writes_9 F N Q) (fin [.tmp (.l 2)] Q) = D_prog_Writes_11 F N Q (l 1) (l 2) L := by kernel_rfl
def w_prog_Writes_10 (F : TF) (N : TN) (Q : TQ) : Kn := (fun (l t : Env) (L : Lg) => D_prog_Writes_11 F N Q (l 1) (l 2) L)
def y_prog_Writes_12 (F : TF) (N : TN) (Q : TQ) : Nat → Kn := (fun (j : Nat) (l t : Env) (L : Lg) => bif Nat.beq j 5 then (w_prog_Writes_10 F N Q) l t L else (y_prog_Writes_9 F N Q) j l t L)
def q_prog_Writes_14 (N : TN) : ACode := (.seq (.reg [⟨.t 54, none, .mv, [.l 2]⟩, ⟨.t 55, none, .fad 1, [.l 1]⟩, ⟨.t 56, none, .ld none, [.t 55]⟩, ⟨.t 57, none, .bslice [.i .i64 0] 1 1 [0], [.t 56]⟩, ⟨.t 58, none, .app 1 8, [.t 54, .t 57]⟩, ⟨.l 2, none, .mv, [.t 58]⟩]) (.exit 0))
noncomputable def D_prog_Writes_14 (F : TF) (N : TN) (Q : TQ) (x1 : AV) (x2 : AV) (L : Lg) : Prop :=
 wpOp F (.fad 1) [x1] L fun v1 L1 =>
 wpOp F (.ld none) [v1] L1 fun v2 L2 =>
 wpOp F (.bslice [.i .i64 0] 1 1 [0]) [v2] L2 fun v3 L3 =>
 wpOp F (.app 1 8) [x2, v3] L3 fun v4 L4 =>
 D_prog_Writes_4 F N Q v4 L4
theorem e_prog_Writes_14 (F : TF) (N : TN) (Q : TQ) (l t : Env) (L : Lg) : wp F (q_prog_Writes_14 N) l t L (w_prog_Writes_10 F N Q) (y_prog_Writes_12 F N Q) (fin [.tmp (.l 2)] Q) = D_prog_Writes_14 F N Q (l 1) (l 2) L := by kernel_rfl
def w_prog_Writes_13 (F : TF) (N : TN) (Q : TQ) : Kn := (fun (l t : Env) (L : Lg) => D_prog_Writes_14 F N Q (l 1) (l 2) L)
def y_prog_Writes_15 (F : TF) (N : TN) (Q : TQ) : Nat → Kn := (fun (j : Nat) (l t : Env) (L : Lg) => bif Nat.beq j 4 then (w_prog_Writes_13 F N Q) l t L else (y_prog_Writes_12 F N Q) j l t L)
def q_prog_Writes_17 (N : TN) : ACode := (.reg [⟨.t 49, none, .mv, [.l 2]⟩, ⟨.t 50, none, .fad 3, [.l 1]⟩, ⟨.t 51, none, .ld none, [.t 50]⟩, ⟨.t 52, none, .bslice [.i .i64 0] 1 1 [0], [.t 51]⟩, ⟨.t 53, none, .app 1 8, [.t 49, .t 52]⟩, ⟨.l 2, none, .mv, [.t 53]⟩])
noncomputable def D_prog_Writes_17 (F : TF) (N : TN) (Q : TQ) (x1 : AV) (x2 : AV) (L : Lg) : Prop :=
 wpOp F (.fad 3) [x1] L fun v1 L1 =>
 wpOp F (.ld none) [v1] L1 fun v2 L2 =>
 wpOp F (.bslice [.i .i64 0] 1 1 [0]) [v2] L2 fun v3 L3 =>
 wpOp F (.app 1 8) [x2, v3] L3 fun v4 L4 =>
 D_prog_Writes_14 F N Q x1 v4 L4
theorem e_prog_Writes_17 (F : TF) (N : TN) (Q : TQ) (l t : Env) (L : Lg) : wp F (q_prog_Writes_17 N) l t L (w_prog_Writes_13 F N Q) (y_prog_Writes_15 F N Q) (fin [.tmp (.l 2)] Q) = D_prog_Writes_17 F N Q (l 1) (l 2) L := by kernel_rfl
def w_prog_Writes_16 (F : TF) (N : TN) (Q : TQ) : Kn := (fun (l t : Env) (L : Lg) => D_prog_Writes_17 F N Q (l 1) (l 2) L)
def y_prog_Writes_18 (F : TF) (N : TN) (Q : TQ) : Nat → Kn := (fun (j : Nat) (l t : Env) (L : Lg) => bif Nat.beq j 3 then (w_prog_Writes_16 F N Q) l t L else (y_prog_Writes_15 F N Q) j l t L)
def q_prog_Writes_20 (N : TN) : ACode := (.seq (.reg [⟨.t 44, none, .mv, [.l 2]⟩, ⟨.t 45, none, .fad 2, [.l 1]⟩, ⟨.t 46, none, .ld none, [.t 45]⟩, ⟨.t 47, none, .bslice [.i .i64 0] 1 1 [0], [.t 46]⟩, ⟨.t 48, none, .app 1 8, [.t 44, .t 47]⟩, ⟨.l 2, none, .mv, [.t 48]⟩]) (.exit 0))
noncomputable def D_prog_Writes_20 (F : TF) (N : TN) (Q : TQ) (x1 : AV) (x2 : AV) (L : Lg) : Prop :=
 wpOp F (.fad 2) [x1] L fun v1 L1 =>
 wpOp F (.ld none) [v1] L1 fun v2 L2 =>
 wpOp F (.bslice [.i .i64 0] 1 1 [0]) [v2] L2 fun v3 L3 =>
 wpOp F (.app 1 8) [x2, v3] L3 fun v4 L4 =>
 D_prog_Writes_4 F N Q v4 L4
theorem e_prog_Writes_20 (F : TF) (N : TN) (Q : TQ) (l t : Env) (L : Lg) : wp F (q_prog_Writes_20 N) l t L (w_prog_Writes_16 F N Q) (y_prog_Writes_18 F N Q) (fin [.tmp (.l 2)] Q) = D_prog_Writes_20 F N Q (l 1) (l 2) L := by kernel_rfl
def w_prog_Writes_19 (F : TF) (N : TN) (Q : TQ) : Kn := (fun (l t : Env) (L : Lg) => D_prog_Writes_20 F N Q (l 1) (l 2) L)
def y_prog_Writes_21 (F : TF) (N : TN) (Q : TQ) : Nat → Kn := (fun (j : Nat) (l t : Env) (L : Lg) => bif Nat.beq j 2 then (w_prog_Writes_19 F N Q) l t L else (y_prog_Writes_18 F N Q) j l t L)
def q_prog_Writes_23 (N : TN) : ACode := (.reg [⟨.t 39, none, .mv, [.l 2]⟩, ⟨.t 40, none, .fad 3, [.l 1]⟩, ⟨.t 41, none, .ld none, [.t 40]⟩, ⟨.t 42, none, .bslice [.i .i64 0] 1 1 [0], [.t 41]⟩, ⟨.t 43, none, .app 1 8, [.t 39, .t 42]⟩, ⟨.l 2, none, .mv, [.t 43]⟩])
noncomputable def D_prog_Writes_23 (F : TF) (N : TN) (Q : TQ) (x1 : AV) (x2 : AV) (L : Lg) : Prop :=
 wpOp F (.fad 3) [x1] L fun v1 L1 =>
 wpOp F (.ld none) [v1] L1 fun v2 L2 =>
 wpOp F (.bslice [.i .i64 0] 1 1 [0]) [v2] L2 fun v3 L3 =>
 wpOp F (.app 1 8) [x2, v3] L3 fun v4 L4 =>
 D_prog_Writes_20 F N Q x1 v4 L4
theorem e_prog_Writes_23 (F : TF) (N : TN) (Q : TQ) (l t : Env) (L : Lg) : wp F (q_prog_Writes_23 N) l t L (w_prog_Writes_19 F N Q) (y_prog_Writes_21 F N Q) (fin [.tmp (.l 2)] Q) = D_prog_Writes_23 F N Q (l 1) (l 2) L := by kernel_rfl
def w_prog_Writes_22 (F : TF) (N : TN) (Q : TQ) : Kn := (fun (l t : Env) (L : Lg) => D_prog_Writes_23 F N Q (l 1) (l 2) L)
def y_prog_Writes_24 (F : TF) (N : TN) (Q : TQ) : Nat → Kn := (fun (j : Nat) (l t : Env) (L : Lg) => bif Nat.beq j 1 then (w_prog_Writes_22 F N Q) l t L else (y_prog_Writes_21 F N Q) j l t L)
def q_prog_Writes_26 (N : TN) : ACode := (.exit 0)
noncomputable def D_prog_Writes_26 (F : TF) (N : TN) (Q : TQ) (x2 : AV) (L : Lg) : Prop :=
 D_prog_Writes_4 F N Q x2 L
theorem e_prog_Writes_26 (F : TF) (N : TN) (Q : TQ) (l t : Env) (L : Lg) : wp F (q_prog_Writes_26 N) l t L (w_prog_Writes_22 F N Q) (y_prog_Writes_24 F N Q) (fin [.tmp (.l 2)] Q) = D_prog_Writes_26 F N Q (l 2) L := by kernel_rfl
def q_prog_Writes_31 (N : TN) : ACode := (.seq (.seq (.reg [⟨.t 36, none, .bin .eql, [.l 7, .c (.i .i64 21)]⟩, ⟨.t 35, none, .mv, [.t 36]⟩]) (.cond (.t 35) (.exit 5) .skip)) (.seq (.reg [⟨.t 38, none, .bin .eql, [.l 7, .c (.i .i64 15)]⟩, ⟨.t 37, none, .mv, [.t 38]⟩]) (.cond (.t 37) (.exit 6) .skip)))
noncomputable def D_prog_Writes_31 (F : TF) (N : TN) (Q : TQ) (x1 : AV) (x2 : AV) (x7 : AV) (L : Lg) : Prop :=
 wpOp F (.bin .eql) [x7, (.i .i64 21)] L fun v1 L1 =>
 condW v1
 (D_prog_Writes_11 F N Q x1 x2 L1)
 (wpOp F (.bin .eql) [x7, (.i .i64 15)] L1 fun v2 L2 =>
 condW v2
 (D_prog_Writes_8 F N Q x1 x2 L2)
 (D_prog_Writes_26 F N Q x2 L2))
theorem e_prog_Writes_31 (F : TF) (N : TN) (Q : TQ) (l t : Env) (L : Lg) : wp F (q_prog_Writes_31 N) l t L (fun (l t : Env) (L : Lg) => D_prog_Writes_26 F N Q (l 2) L) (y_prog_Writes_24 F N Q) (fin [.tmp (.l 2)] Q) = D_prog_Writes_31 F N Q (l 1) (l 2) (l 7) L := by kernel_rfl
def q_prog_Writes_30a (N : TN) : ACode := (.seq (.seq (.reg [⟨.t 23, none, .bin .eql, [.l 7, .c (.i .i64 1)]⟩, ⟨.t 22, none, .mv, [.t 23]⟩]) (.cond (.t 22) .skip (.seq (.reg [⟨.t 24, none, .bin .eql, [.l 7, .c (.i .i64 2)]⟩, ⟨.t 22, none, .mv, [.t 24]⟩]) (.cond (.t 22) .skip (.seq (.reg [⟨.t 25, none, .bin .eql, [.l 7, .c (.i .i64 3)]⟩, ⟨.t 22, none, .mv, [.t 25]⟩]) (.cond (.t 22) .skip (.seq (.reg [⟨.t 26, none, .bin .eql, [.l 7, .c (.i .i64 8)]⟩, ⟨.t 22, none, .mv, [.t 26]⟩]) (.cond (.t 22) .skip (.seq (.reg [⟨.t 27, none, .bin .eql, [.l 7, .c (.i .i64 9)]⟩, ⟨.t 22, none, .mv, [.t 27]⟩]) (.cond (.t 22) .skip (.seq (.reg [⟨.t 28, none, .bin .eql, [.l 7, .c (.i .i64 16)]⟩, ⟨.t 22, none, .mv, [.t 28]⟩]) (.cond (.t 22) .skip (.seq (.reg [⟨.t 29, none, .bin .eql, [.l 7, .c (.i .i64 19)]⟩, ⟨.t 22, none, .mv, [.t 29]⟩]) (.cond (.t 22) .skip (.seq (.reg [⟨.t 30, none, .bin .eql, [.l 7, .c (.i .i64 22)]⟩, ⟨.t 22, none, .mv, [.t 30]⟩]) (.cond (.t 22) .skip (.seq (.reg [⟨.t 31, none, .bin .eql, [.l 7, .c (.i .i64 23)]⟩, ⟨.t 22, none, .mv, [.t 31]⟩]) (.cond (.t 22) .skip (.seq (.reg [⟨.t 32, none, .bin .eql, [.l 7, .c (.i .i64 24)]⟩, ⟨.t 22, none, .mv, [.t 32]⟩]) (.cond (.t 22) .skip (.seq (.reg [⟨.t 33, none, .bin .eql, [.l 7, .c (.i .i64 25)]⟩, ⟨.t 22, none, .mv, [.t 33]⟩]) (.cond (.t 22) .skip (.reg [⟨.t 34, none, .bin .eql, [.l 7, .c (.i .i64 31)]⟩, ⟨.t 22, none, .mv, [.t 34]⟩]))))))))))))))))))))))) (.cond (.t 22) (.exit 4) .skip))
def q_prog_Writes_30 (N : TN) : ACode := (.seq (q_prog_Writes_30a N) (q_prog_Writes_31 N))
noncomputable def D_prog_Writes_30 (F : TF) (N : TN) (Q : TQ) (x1 : AV) (x2 : AV) (x7 : AV) (L : Lg) : Prop :=
 wpOp F (.bin .eql) [x7, (.i .i64 1)] L fun v1 L1 =>
 condW v1
 (condW v1
 (D_prog_Writes_14 F N Q x1 x2 L1)
 (D_prog_Writes_31 F N Q x1 x2 x7 L1))
 (wpOp F (.bin .eql) [x7, (.i .i64 2)] L1 fun v2 L2 =>
 condW v2
 (condW v2
 (D_prog_Writes_14 F N Q x1 x2 L2)
 (D_prog_Writes_31 F N Q x1 x2 x7 L2))
 (wpOp F (.bin .eql) [x7, (.i .i64 3)] L2 fun v3 L3 =>
 condW v3
 (condW v3
 (D_prog_Writes_14 F N Q x1 x2 L3)
 (D_prog_Writes_31 F N Q x1 x2 x7 L3))
 (wpOp F (.bin .eql) [x7, (.i .i64 8)] L3 fun v4 L4 =>
 condW v4
 (condW v4
 (D_prog_Writes_14 F N Q x1 x2 L4)
 (D_prog_Writes_31 F N Q x1 x2 x7 L4))
 (wpOp F (.bin .eql) [x7, (.i .i64 9)] L4 fun v5 L5 =>
 condW v5
 (condW v5
 (D_prog_Writes_14 F N Q x1 x2 L5)
 (D_prog_Writes_31 F N Q x1 x2 x7 L5))
 (wpOp F (.bin .eql) [x7, (.i .i64 16)] L5 fun v6 L6 =>
 condW v6
 (condW v6
 (D_prog_Writes_14 F N Q x1 x2 L6)
 (D_prog_Writes_31 F N Q x1 x2 x7 L6))
 (wpOp F (.bin .eql) [x7, (.i .i64 19)] L6 fun v7 L7 =>
 condW v7
 (condW v7
 (D_prog_Writes_14 F N Q x1 x2 L7)
 (D_prog_Writes_31 F N Q x1 x2 x7 L7))
 (wpOp F (.bin .eql) [x7, (.i .i64 22)] L7 fun v8 L8 =>
 condW v8
 (condW v8
 (D_prog_Writes_14 F N Q x1 x2 L8)
 (D_prog_Writes_31 F N Q x1 x2 x7 L8))
 (wpOp F (.bin .eql) [x7, (.i .i64 23)] L8 fun v9 L9 =>
 condW v9
 (condW v9
 (D_prog_Writes_14 F N Q x1 x2 L9)
 (D_prog_Writes_31 F N Q x1 x2 x7 L9))
 (wpOp F (.bin .eql) [x7, (.i .i64 24)] L9 fun v10 L10 =>
 condW v10
 (condW v10
 (D_prog_Writes_14 F N Q x1 x2 L10)
 (D_prog_Writes_31 F N Q x1 x2 x7 L10))
 (wpOp F (.bin .eql) [x7, (.i .i64 25)] L10 fun v11 L11 =>
 condW v11
 (condW v11
 (D_prog_Writes_14 F N Q x1 x2 L11)
 (D_prog_Writes_31 F N Q x1 x2 x7 L11))
 (wpOp F (.bin .eql) [x7, (.i .i64 31)] L11 fun v12 L12 =>
 condW v12
 (D_prog_Writes_14 F N Q x1 x2 L12)
 (D_prog_Writes_31 F N Q x1 x2 x7 L12))))))))))))
theorem e_prog_Writes_30 (F : TF) (N : TN) (Q : TQ) (l t : Env) (L : Lg) : wp F (q_prog_Writes_30 N) l t L (fun (l t : Env) (L : Lg) => D_prog_Writes_26 F N Q (l 2) L) (y_prog_Writes_24 F N Q) (fin [.tmp (.l 2)] Q) = D_prog_Writes_30 F N Q (l 1) (l 2) (l 7) L := wpS (e_prog_Writes_31 F N Q) (by kernel_rfl)
def q_prog_Writes_29a (N : TN) : ACode := (.seq (.seq (.reg [⟨.t 20, none, .bin .eql, [.l 7, .c (.i .i64 17)]⟩, ⟨.t 19, none, .mv, [.t 20]⟩]) (.cond (.t 19) .skip (.reg [⟨.t 21, none, .bin .eql, [.l 7, .c (.i .i64 18)]⟩, ⟨.t 19, none, .mv, [.t 21]⟩]))) (.cond (.t 19) (.exit 3) .skip))
def q_prog_Writes_29 (N : TN) : ACode := (.seq (q_prog_Writes_29a N) (q_prog_Writes_30 N))
noncomputable def D_prog_Writes_29 (F : TF) (N : TN) (Q : TQ) (x1 : AV) (x2 : AV) (x7 : AV) (L : Lg) : Prop :=
 wpOp F (.bin .eql) [x7, (.i .i64 17)] L fun v1 L1 =>
 condW v1
 (condW v1
 (D_prog_Writes_17 F N Q x1 x2 L1)
 (D_prog_Writes_30 F N Q x1 x2 x7 L1))
 (wpOp F (.bin .eql) [x7, (.i .i64 18)] L1 fun v2 L2 =>
 condW v2
 (D_prog_Writes_17 F N Q x1 x2 L2)
 (D_prog_Writes_30 F N Q x1 x2 x7 L2))
theorem e_prog_Writes_29 (F : TF) (N : TN) (Q : TQ) (l t : Env) (L : Lg) : wp F (q_prog_Writes_29 N) l t L (fun (l t : Env) (L : Lg) => D_prog_Writes_26 F N Q (l 2) L) (y_prog_Writes_24 F N Q) (fin [.tmp (.l 2)] Q) = D_prog_Writes_29 F N Q (l 1) (l 2) (l 7) L := wpS (e_prog_Writes_30 F N Q) (by kernel_rfl)
def q_prog_Writes_28a (N : TN) : ACode := (.seq (.seq (.reg [⟨.t 12, none, .bin .eql, [.l 7, .c (.i .i64 13)]⟩, ⟨.t 11, none, .mv, [.t 12]⟩]) (.cond (.t 11) .skip (.seq (.reg [⟨.t 13, none, .bin .eql, [.l 7, .c (.i .i64 14)]⟩, ⟨.t 11, none, .mv, [.t 13]⟩]) (.cond (.t 11) .skip (.seq (.reg [⟨.t 14, none, .bin .eql, [.l 7, .c (.i .i64 20)]⟩, ⟨.t 11, none, .mv, [.t 14]⟩]) (.cond (.t 11) .skip (.seq (.reg [⟨.t 15, none, .bin .eql, [.l 7, .c (.i .i64 27)]⟩, ⟨.t 11, none, .mv, [.t 15]⟩]) (.cond (.t 11) .skip (.seq (.reg [⟨.t 16, none, .bin .eql, [.l 7, .c (.i .i64 28)]⟩, ⟨.t 11, none, .mv, [.t 16]⟩]) (.cond (.t 11) .skip (.seq (.reg [⟨.t 17, none, .bin .eql, [.l 7, .c (.i .i64 29)]⟩, ⟨.t 11, none, .mv, [.t 17]⟩]) (.cond (.t 11) .skip (.reg [⟨.t 18, none, .bin .eql, [.l 7, .c (.i .i64 32)]⟩, ⟨.t 11, none, .mv, [.t 18]⟩]))))))))))))) (.cond (.t 11) (.exit 2) .skip))
def q_prog_Writes_28 (N : TN) : ACode := (.seq (q_prog_Writes_28a N) (q_prog_Writes_29 N))
noncomputable def D_prog_Writes_28 (F : TF) (N : TN) (Q : TQ) (x1 : AV) (x2 : AV) (x7 : AV) (L : Lg) : Prop :=
 wpOp F (.bin .eql) [x7, (.i .i64 13)] L fun v1 L1 =>
 condW v1
 (condW v1
 (D_prog_Writes_20 F N Q x1 x2 L1)
 (D_prog_Writes_29 F N Q x1 x2 x7 L1))
 (wpOp F (.bin .eql) [x7, (.i .i64 14)] L1 fun v2 L2 =>
 condW v2
 (condW v2
 (D_prog_Writes_20 F N Q x1 x2 L2)
 (D_prog_Writes_29 F N Q x1 x2 x7 L2))
 (wpOp F (.bin .eql) [x7, (.i .i64 20)] L2 fun v3 L3 =>
 condW v3
 (condW v3
 (D_prog_Writes_20 F N Q x1 x2 L3)
 (D_prog_Writes_29 F N Q x1 x2 x7 L3))
 (wpOp F (.bin .eql) [x7, (.i .i64 27)] L3 fun v4 L4 =>
 condW v4
 (condW v4
 (D_prog_Writes_20 F N Q x1 x2 L4)
 (D_prog_Writes_29 F N Q x1 x2 x7 L4))
 (wpOp F (.bin .eql) [x7, (.i .i64 28)] L4 fun v5 L5 =>
 condW v5
 (condW v5
 (D_prog_Writes_20 F N Q x1 x2 L5)
 (D_prog_Writes_29 F N Q x1 x2 x7 L5))
 (wpOp F (.bin .eql) [x7, (.i .i64 29)] L5 fun v6 L6 =>
 condW v6
 (condW v6
 (D_prog_Writes_20 F N Q x1 x2 L6)
 (D_prog_Writes_29 F N Q x1 x2 x7 L6))
 (wpOp F (.bin .eql) [x7, (.i .i64 32)] L6 fun v7 L7 =>
 condW v7
 (D_prog_Writes_20 F N Q x1 x2 L7)
 (D_prog_Writes_29 F N Q x1 x2 x7 L7)))))))
theorem e_prog_Writes_28 (F : TF) (N : TN) (Q : TQ) (l t : Env) (L : Lg) : wp F (q_prog_Writes_28 N) l t L (fun (l t : Env) (L : Lg) => D_prog_Writes_26 F N Q (l 2) L) (y_prog_Writes_24 F N Q) (fin [.tmp (.l 2)] Q) = D_prog_Writes_28 F N Q (l 1) (l 2) (l 7) L := wpS (e_prog_Writes_29 F N Q) (by kernel_rfl)
def q_prog_Writes_27a (N : TN) : ACode := (.seq (.seq (.reg [⟨.t 9, none, .bin .eql, [.l 7, .c (.i .i64 11)]⟩, ⟨.t 8, none, .mv, [.t 9]⟩]) (.cond (.t 8) .skip (.reg [⟨.t 10, none, .bin .eql, [.l 7, .c (.i .i64 30)]⟩, ⟨.t 8, none, .mv, [.t 10]⟩]))) (.cond (.t 8) (.exit 1) .skip))
def q_prog_Writes_27 (N : TN) : ACode := (.seq (q_prog_Writes_27a N) (q_prog_Writes_28 N))
noncomputable def D_prog_Writes_27 (F : TF) (N : TN) (Q : TQ) (x1 : AV) (x2 : AV) (x7 : AV) (L : Lg) : Prop :=
 wpOp F (.bin .eql) [x7, (.i .i64 11)] L fun v1 L1 =>
 condW v1
 (condW v1
 (D_prog_Writes_23 F N Q x1 x2 L1)
 (D_prog_Writes_28 F N Q x1 x2 x7 L1))
 (wpOp F (.bin .eql) [x7, (.i .i64 30)] L1 fun v2 L2 =>
 condW v2
 (D_prog_Writes_23 F N Q x1 x2 L2)
 (D_prog_Writes_28 F N Q x1 x2 x7 L2))
theorem e_prog_Writes_27 (F : TF) (N : TN) (Q : TQ) (l t : Env) (L : Lg) : wp F (q_prog_Writes_27 N) l t L (fun (l t : Env) (L : Lg) => D_prog_Writes_26 F N Q (l 2) L) (y_prog_Writes_24 F N Q) (fin [.tmp (.l 2)] Q) = D_prog_Writes_27 F N Q (l 1) (l 2) (l 7) L := wpS (e_prog_Writes_28 F N Q) (by kernel_rfl)
def q_prog_Writes_25 (N : TN) : ACode := (.seq (q_prog_Writes_27 N) (q_prog_Writes_26 N))
theorem e_prog_Writes_25 (F : TF) (N : TN) (Q : TQ) (l t : Env) (L : Lg) : wp F (q_prog_Writes_25 N) l t L (w_prog_Writes_22 F N Q) (y_prog_Writes_24 F N Q) (fin [.tmp (.l 2)] Q) = D_prog_Writes_27 F N Q (l 1) (l 2) (l 7) L := wpS (e_prog_Writes_26 F N Q) (e_prog_Writes_27 F N Q l t L)
def q_prog_Writes_24 (N : TN) : ACode := (.block 1 (q_prog_Writes_25 N))
theorem e_prog_Writes_24 (F : TF) (N : TN) (Q : TQ) (l t : Env) (L : Lg) : wp F (q_prog_Writes_24 N) l t L (w_prog_Writes_22 F N Q) (y_prog_Writes_21 F N Q) (fin [.tmp (.l 2)] Q) = D_prog_Writes_27 F N Q (l 1) (l 2) (l 7) L := wpB (e_prog_Writes_25 F N Q l t L)
def q_prog_Writes_22 (N : TN) : ACode := (.seq (q_prog_Writes_24 N) (q_prog_Writes_23 N))
theorem e_prog_Writes_22 (F : TF) (N : TN) (Q : TQ) (l t : Env) (L : Lg) : wp F (q_prog_Writes_22 N) l t L (w_prog_Writes_19 F N Q) (y_prog_Writes_21 F N Q) (fin [.tmp (.l 2)] Q) = D_prog_Writes_27 F N Q (l 1) (l 2) (l 7) L := wpS (e_prog_Writes_23 F N Q) (e_prog_Writes_24 F N Q l t L)
def q_prog_Writes_21 (N : TN) : ACode := (.block 2 (q_prog_Writes_22 N))
theorem e_prog_Writes_21 (F : TF) (N : TN) (Q : TQ) (l t : Env) (L : Lg) : wp F (q_prog_Writes_21 N) l t L (w_prog_Writes_19 F N Q) (y_prog_Writes_18 F N Q) (fin [.tmp (.l 2)] Q) = D_prog_Writes_27 F N Q (l 1) (l 2) (l 7) L := wpB (e_prog_Writes_22 F N Q l t L)
def q_prog_Writes_19 (N : TN) : ACode := (.seq (q_prog_Writes_21 N) (q_prog_Writes_20 N))
theorem e_prog_Writes_19 (F : TF) (N : TN) (Q : TQ) (l t : Env) (L : Lg) : wp F (q_prog_Writes_19 N) l t L (w_prog_Writes_16 F N Q) (y_prog_Writes_18 F N Q) (fin [.tmp (.l 2)] Q) = D_prog_Writes_27 F N Q (l 1) (l 2) (l 7) L := wpS (e_prog_Writes_20 F N Q) (e_prog_Writes_21 F N Q l t L)
def q_prog_Writes_18 (N : TN) : ACode := (.block 3 (q_prog_Writes_19 N))
theorem e_prog_Writes_18 (F : TF) (N : TN) (Q : TQ) (l t : Env) (L : Lg) : wp F (q_prog_Writes_18 N) l t L (w_prog_Writes_16 F N Q) (y_prog_Writes_15 F N Q) (fin [.tmp (.l 2)] Q) = D_prog_Writes_27 F N Q (l 1) (l 2) (l 7) L := wpB (e_prog_Writes_19 F N Q l t L)
def q_prog_Writes_16 (N : TN) : ACode := (.seq (q_prog_Writes_18 N) (q_prog_Writes_17 N))
theorem e_prog_Writes_16 (F : TF) (N : TN) (Q : TQ) (l t : Env) (L : Lg) : wp F (q_prog_Writes_16 N) l t L (w_prog_Writes_13 F N Q) (y_prog_Writes_15 F N Q) (fin [.tmp (.l 2)] Q) = D_prog_Writes_27 F N Q (l 1) (l 2) (l 7) L := wpS (e_prog_Writes_17 F N Q) (e_prog_Writes_18 F N Q l t L)
def q_prog_Writes_15 (N : TN) : ACode := (.block 4 (q_prog_Writes_16 N))
theorem e_prog_Writes_15 (F : TF) (N : TN) (Q : TQ) (l t : Env) (L : Lg) : wp F (q_prog_Writes_15 N) l t L (w_prog_Writes_13 F N Q) (y_prog_Writes_12 F N Q) (fin [.tmp (.l 2)] Q) = D_prog_Writes_27 F N Q (l 1) (l 2) (l 7) L := wpB (e_prog_Writes_16 F N Q l t L)
def q_prog_Writes_13 (N : TN) : ACode := (.seq (q_prog_Writes_15 N) (q_prog_Writes_14 N))
theorem e_prog_Writes_13 (F : TF) (N : TN) (Q : TQ) (l t : Env) (L : Lg) : wp F (q_prog_Writes_13 N) l t L (w_prog_Writes_10 F N Q) (y_prog_Writes_12 F N Q) (fin [.tmp (.l 2)] Q) = D_prog_Writes_27 F N Q (l 1) (l 2) (l 7) L := wpS (e_prog_Writes_14 F N Q) (e_prog_Writes_15 F N Q l t L)
def q_prog_Writes_12 (N : TN) : ACode := (.block 5 (q_prog_Writes_13 N))
theorem e_prog_Writes_12 (F : TF) (N : TN) (Q : TQ) (l t : Env) (L : Lg) : wp F (q_prog_Writes_12 N) l t L (w_prog_Writes_10 F N Q) (y_prog_Writes_9 F N Q) (fin [.tmp (.l 2)] Q) = D_prog_Writes_27 F N Q (l 1) (l 2) (l 7) L := wpB (e_prog_Writes_13 F N Q l t L)
def q_prog_Writes_10 (N : TN) : ACode := (.seq (q_prog_Writes_12 N) (q_prog_Writes_11 N))
theorem e_prog_Writes_10 (F : TF) (N : TN) (Q : TQ) (l t : Env) (L : Lg) : wp F (q_prog_Writes_10 N) l t L (w_prog_Writes_7 F N Q) (y_prog_Writes_9 F N Q) (fin [.tmp (.l 2)] Q) = D_prog_Writes_27 F N Q (l 1) (l 2) (l 7) L := wpS (e_prog_Writes_11 F N Q) (e_prog_Writes_12 F N Q l t L)
def q_prog_Writes_9 (N : TN) : ACode := (.block 6 (q_prog_Writes_10 N))
theorem e_prog_Writes_9 (F : TF) (N : TN) (Q : TQ) (l t : Env) (L : Lg) : wp F (q_prog_Writes_9 N) l t L (w_prog_Writes_7 F N Q) (y_prog_Writes_6 F N Q) (fin [.tmp (.l 2)] Q) = D_prog_Writes_27 F N Q (l 1) (l 2) (l 7) L := wpB (e_prog_Writes_10 F N Q l t L)
def q_prog_Writes_7 (N : TN) : ACode := (.seq (q_prog_Writes_9 N) (q_prog_Writes_8 N))
theorem e_prog_Writes_7 (F : TF) (N : TN) (Q : TQ) (l t : Env) (L : Lg) : wp F (q_prog_Writes_7 N) l t L (fun (l t : Env) (L : Lg) => D_prog_Writes_4 F N Q (l 2) L) (y_prog_Writes_6 F N Q) (fin [.tmp (.l 2)] Q) = D_prog_Writes_27 F N Q (l 1) (l 2) (l 7) L := wpS (e_prog_Writes_8 F N Q) (e_prog_Writes_9 F N Q l t L)
def q_prog_Writes_6 (N : TN) : ACode := (.block 0 (q_prog_Writes_7 N))
theorem e_prog_Writes_6 (F : TF) (N : TN) (Q : TQ) (l t : Env) (L : Lg) : wp F (q_prog_Writes_6 N) l t L (fun (l t : Env) (L : Lg) => D_prog_Writes_4 F N Q (l 2) L) nE (fin [.tmp (.l 2)] Q) = D_prog_Writes_27 F N Q (l 1) (l 2) (l 7) L := wpB (e_prog_Writes_7 F N Q l t L)
def q_prog_Writes_5a (N : TN) : ACode := (.reg [⟨.t 6, none, .fad 0, [.l 1]⟩, ⟨.l 7, none, .ld none, [.t 6]⟩])
def q_prog_Writes_5 (N : TN) : ACode := (.seq (q_prog_Writes_5a N) (q_prog_Writes_6 N))
noncomputable def D_prog_Writes_5 (F : TF) (N : TN) (Q : TQ) (x1 : AV) (x2 : AV) (L : Lg) : Prop :=
 wpOp F (.fad 0) [x1] L fun v1 L1 =>
 wpOp F (.ld none) [v1] L1 fun v2 L2 =>
 D_prog_Writes_27 F N Q x1 x2 v2 L2
theorem e_prog_Writes_5 (F : TF) (N : TN) (Q : TQ) (l t : Env) (L : Lg) : wp F (q_prog_Writes_5 N) l t L (fun (l t : Env) (L : Lg) => D_prog_Writes_4 F N Q (l 2) L) nE (fin [.tmp (.l 2)] Q) = D_prog_Writes_5 F N Q (l 1) (l 2) L := wpS (e_prog_Writes_6 F N Q) (by kernel_rfl)
def q_prog_Writes_3 (N : TN) : ACode := (.seq (q_prog_Writes_5 N) (q_prog_Writes_4 N))
theorem e_prog_Writes_3 (F : TF) (N : TN) (Q : TQ) (l t : Env) (L : Lg) : wp F (q_prog_Writes_3 N) l t L (fin [.tmp (.l 2)] Q) nE (fin [.tmp (.l 2)] Q) = D_prog_Writes_5 F N Q (l 1) (l 2) L := wpS (e_prog_Writes_4 F N Q) (e_prog_Writes_5 F N Q l t L)
def q_prog_Writes_2a (N : TN) : ACode := (.seq (.reg [⟨.t 3, none, .ld (some 6), [.l 1]⟩, ⟨.t 4, none, .call (N k_prog_good), [.t 3, .c (.i .i64 100)]⟩, ⟨.t 5, none, .un .not, [.t 4]⟩]) (.cond (.t 5) (.seq (.reg [⟨.l 2, none, .mv, [.c (.sl none 0 0 0)]⟩]) .ret) .skip))
def q_prog_Writes_2 (N : TN) : ACode := (.seq (q_prog_Writes_2a N) (q_prog_Writes_3 N))
noncomputable def D_prog_Writes_2 (F : TF) (N : TN) (Q : TQ) (x1 : AV) (x2 : AV) (L : Lg) : Prop :=
 wpOp F (.ld (some 6)) [x1] L fun v1 L1 =>
 CallL F (N k_prog_good) [v1, (.i .i64 100)] L1 fun v2 L2 =>
 wpOp F (.un .not) [v2] L2 fun v3 L3 =>
 condW v3
 (fin1 (some (.sl none 0 0 0)) Q L3)
 (D_prog_Writes_5 F N Q x1 x2 L3)
theorem e_prog_Writes_2 (F : TF) (N : TN) (Q : TQ) (l t : Env) (L : Lg) : wp F (q_prog_Writes_2 N) l t L (fin [.tmp (.l 2)] Q) nE (fin [.tmp (.l 2)] Q) = D_prog_Writes_2 F N Q (l 1) (l 2) L := wpS (e_prog_Writes_3 F N Q) (by kernel_rfl)
def q_prog_Writes_1a (N : TN) : ACode := (.reg [⟨.l 1, none, .box, [.l 0]⟩, ⟨.l 2, none, .mv, [.c (.sl none 0 0 0)]⟩])
def q_prog_Writes_1 (N : TN) : ACode := (.seq (q_prog_Writes_1a N) (q_prog_Writes_2 N))
noncomputable def D_prog_Writes_1 (F : TF) (N : TN) (Q : TQ) (x0 : AV) (L : Lg) : Prop :=
 wpOp F .box [x0] L fun v1 L1 =>
 D_prog_Writes_2 F N Q v1 (.sl none 0 0 0) L1
theorem e_prog_Writes_1 (F : TF) (N : TN) (Q : TQ) (l t : Env) (L : Lg) : wp F (q_prog_Writes_1 N) l t L (fin [.tmp (.l 2)] Q) nE (fin [.tmp (.l 2)] Q) = D_prog_Writes_1 F N Q (l 0) L := wpS (e_prog_Writes_2 F N Q) (by kernel_rfl)
/-- tarpaulin/prog.Writes -/
def c_prog_Writes (N : TN) : AFn := ⟨q_prog_Writes_1 N, [.tmp (.l 2)]⟩
structure H_prog_Writes (N : TN) (F : TF) : Prop where
  code : F (N k_prog_Writes) = some (c_prog_Writes N)
  prog_good : H_prog_good N F
  prog_rising : H_prog_rising N F
theorem r_prog_Writes {F : TF} {N : TN} (h : F (N k_prog_Writes) = some (c_prog_Writes N)) {Q : TQ} {a0 : AV} {L : Lg} (e : D_prog_Writes_1 F N Q a0 L) : CallL F (N k_prog_Writes) [a0] L Q :=
  CallL.of_wp h (Eq.mpr (Eq.trans (e_prog_Writes_1 F N Q (initE [a0] 0) Env.nil L) (by kernel_rfl : _ = D_prog_Writes_1 F N Q a0 L)) e)
def q_tarpaulinlaw4_ProgRegs_4 (N : TN) : ACode := (.seq (.reg [⟨.t 69, none, .call (N k_tarpaulinlaw4_awake), []⟩, ⟨.l 2, none, .mv, [.t 69]⟩]) .ret)
noncomputable def D_tarpaulinlaw4_ProgRegs_4 (F : TF) (N : TN) (Q : TQ) (L : Lg) : Prop :=
 CallL F (N k_tarpaulinlaw4_awake) [] L fun v1 L1 =>
 fin1 (some v1) Q L1
theorem e_tarpaulinlaw4_ProgRegs_4 (F : TF) (N : TN) (Q : TQ) (l t : Env) (L : Lg) : wp F (q_tarpaulinlaw4_ProgRegs_4 N) l t L (fin [.tmp (.l 2)] Q) nE (fin [.tmp (.l 2)] Q) = D_tarpaulinlaw4_ProgRegs_4 F N Q L := by kernel_rfl
def w_tarpaulinlaw4_ProgRegs_3 (F : TF) (N : TN) (Q : TQ) : Kn := (fun (l t : Env) (L : Lg) => D_tarpaulinlaw4_ProgRegs_4 F N Q L)
def y_tarpaulinlaw4_ProgRegs_6 (F : TF) (N : TN) (Q : TQ) : Nat → Kn := (fun (j : Nat) (l t : Env) (L : Lg) => bif Nat.beq j 0 then (w_tarpaulinlaw4_ProgRegs_3 F N Q) l t L else nE j l t L)
def q_tarpaulinlaw4_ProgRegs_10 (N : TN) : ACode := (.reg [⟨.t 13, none, .mv, [.l 3]⟩, ⟨.t 14, none, .bin .add, [.t 13, .c (.i .i64 1)]⟩, ⟨.l 3, none, .mv, [.t 14]⟩])
noncomputable def D_tarpaulinlaw4_ProgRegs_10 (F : TF) (N : TN) (Q : TQ) (k1 : TK) (l : Env) (L : Lg) : Prop :=
 wpOp F (.bin .add) [(l 3), (.i .i64 1)] L fun v1 L1 =>
 k1 (Env.put l 3 v1) L1
theorem e_tarpaulinlaw4_ProgRegs_10 (F : TF) (N : TN) (Q : TQ) (k1 : TK) (l t : Env) (L : Lg) : wp F (q_tarpaulinlaw4_ProgRegs_10 N) l t L (fun (l _ : Env) (L : Lg) => k1 l L) (y_tarpaulinlaw4_ProgRegs_6 F N Q) (fin [.tmp (.l 2)] Q) = D_tarpaulinlaw4_ProgRegs_10 F N Q k1 l L := by kernel_rfl
def w_tarpaulinlaw4_ProgRegs_9 (F : TF) (N : TN) (Q : TQ) (k1 : TK) : Kn := (fun (l t : Env) (L : Lg) => D_tarpaulinlaw4_ProgRegs_10 F N Q k1 l L)
def y_tarpaulinlaw4_ProgRegs_11 (F : TF) (N : TN) (Q : TQ) (k1 : TK) : Nat → Kn := (fun (j : Nat) (l t : Env) (L : Lg) => bif Nat.beq j 1 then (w_tarpaulinlaw4_ProgRegs_9 F N Q k1) l t L else (y_tarpaulinlaw4_ProgRegs_6 F N Q) j l t L)
def q_tarpaulinlaw4_ProgRegs_15 (N : TN) : ACode := (.seq (.reg [⟨.t 55, none, .mv, [.l 4]⟩, ⟨.t 56, none, .lenSl, [.t 55]⟩, ⟨.t 57, none, .bin .gtr, [.t 56, .c (.i .i64 0)]⟩, ⟨.t 58, none, .mv, [.t 57]⟩, ⟨.t 59, some (.t 58, true), .ld (some 6), [.l 1]⟩, ⟨.t 60, some (.t 58, true), .bslice [.i .i64 0, .i .i64 0, .i .i64 0, .i .i64 0, .sl none 0 0 0, .b false] 1 6 [0], [.t 59]⟩, ⟨.t 61, some (.t 58, true), .call (N k_prog_Check), [.t 60]⟩, ⟨.t 62, some (.t 58, true), .bin .neq, [.t 61, .c (.i .i64 0)]⟩, ⟨.t 63, none, .pick, [.t 58, .t 62, .c (.b false)]⟩, ⟨.t 64, none, .mv, [.t 63]⟩, ⟨.t 65, some (.t 64, true), .fad 0, [.l 1]⟩, ⟨.t 66, some (.t 64, true), .ld none, [.t 65]⟩, ⟨.t 67, some (.t 64, true), .bin .neq, [.t 66, .c (.i .i64 5)]⟩, ⟨.t 68, none, .pick, [.t 64, .t 67, .c (.b false)]⟩]) (.cond (.t 68) (.seq (.reg [⟨.l 2, none, .mv, [.c (.b false)]⟩]) .ret) .skip))
noncomputable def D_tarpaulinlaw4_ProgRegs_15 (F : TF) (N : TN) (Q : TQ) (k1 : TK) (l : Env) (L : Lg) : Prop :=
 wpOp F .lenSl [(l 4)] L fun v1 L1 =>
 wpOp F (.bin .gtr) [v1, (.i .i64 0)] L1 fun v2 L2 =>
 gdOp F v2 true (.ld (some 6)) [(l 1)] L2 fun v3 L3 =>
 gdOp F v2 true (.bslice [.i .i64 0, .i .i64 0, .i .i64 0, .i .i64 0, .sl none 0 0 0, .b false] 1 6 [0]) [v3] L3 fun v4 L4 =>
 gdOp F v2 true (.call (N k_prog_Check)) [v4] L4 fun v5 L5 =>
 gdOp F v2 true (.bin .neq) [v5, (.i .i64 0)] L5 fun v6 L6 =>
 wpOp F .pick [v2, v6, (.b false)] L6 fun v7 L7 =>
 gdOp F v7 true (.fad 0) [(l 1)] L7 fun v8 L8 =>
 gdOp F v7 true (.ld none) [v8] L8 fun v9 L9 =>
 gdOp F v7 true (.bin .neq) [v9, (.i .i64 5)] L9 fun v10 L10 =>
 wpOp F .pick [v7, v10, (.b false)] L10 fun v11 L11 =>
 condW v11
 (fin1 (some (.b false)) Q L11)
 (D_tarpaulinlaw4_ProgRegs_10 F N Q k1 l L11)
theorem e_tarpaulinlaw4_ProgRegs_15 (F : TF) (N : TN) (Q : TQ) (k1 : TK) (l t : Env) (L : Lg) : wp F (q_tarpaulinlaw4_ProgRegs_15 N) l t L (w_tarpaulinlaw4_ProgRegs_9 F N Q k1) (y_tarpaulinlaw4_ProgRegs_11 F N Q k1) (fin [.tmp (.l 2)] Q) = D_tarpaulinlaw4_ProgRegs_15 F N Q k1 l L := by kernel_rfl
def w_tarpaulinlaw4_ProgRegs_14 (F : TF) (N : TN) (Q : TQ) (k1 : TK) : Kn := (fun (l t : Env) (L : Lg) => D_tarpaulinlaw4_ProgRegs_15 F N Q k1 l L)
def y_tarpaulinlaw4_ProgRegs_17 (F : TF) (N : TN) (Q : TQ) (k1 : TK) : Nat → Kn := (fun (j : Nat) (l t : Env) (L : Lg) => bif Nat.beq j 2 then (w_tarpaulinlaw4_ProgRegs_14 F N Q k1) l t L else (y_tarpaulinlaw4_ProgRegs_11 F N Q k1) j l t L)
def q_tarpaulinlaw4_ProgRegs_19 (N : TN) : ACode := (.seq (.seq (.reg [⟨.t 21, none, .mv, [.l 5]⟩, ⟨.t 22, none, .mv, [.l 4]⟩, ⟨.t 23, none, .lenSl, [.t 22]⟩, ⟨.t 24, none, .bin .lss, [.t 21, .t 23]⟩]) (.cond (.t 24) .skip (.exit 2))) (.seq (.block 3 (.seq (.reg [⟨.t 27, none, .mv, [.l 4]⟩, ⟨.t 28, none, .mv, [.l 5]⟩, ⟨.t 29, none, .iad 1, [.t 27, .t 28]⟩, ⟨.t 30, none, .ld none, [.t 29]⟩, ⟨.t 31, none, .bin .lss, [.t 30, .c (.i .i64 0)]⟩, ⟨.t 32, none, .mv, [.t 31]⟩, ⟨.t 33, some (.t 32, false), .mv, [.l 4]⟩, ⟨.t 34, some (.t 32, false), .mv, [.l 5]⟩, ⟨.t 35, some (.t 32, false), .iad 1, [.t 33, .t 34]⟩, ⟨.t 36, some (.t 32, false), .ld none, [.t 35]⟩, ⟨.t 37, some (.t 32, false), .bin .geq, [.t 36, .c (.i .i64 8)]⟩, ⟨.t 38, none, .pick, [.t 32, .c (.b true), .t 37]⟩, ⟨.t 39, none, .mv, [.t 38]⟩, ⟨.t 40, some (.t 39, false), .mv, [.l 5]⟩, ⟨.t 41, some (.t 39, false), .bin .gtr, [.t 40, .c (.i .i64 0)]⟩, ⟨.t 42, some (.t 39, false), .mv, [.t 41]⟩, ⟨.t 43, some (.t 42, true), .mv, [.l 4]⟩, ⟨.t 44, some (.t 42, true), .mv, [.l 5]⟩, ⟨.t 45, some (.t 42, true), .iad 1, [.t 43, .t 44]⟩, ⟨.t 46, some (.t 42, true), .ld none, [.t 45]⟩, ⟨.t 47, some (.t 42, true), .mv, [.l 4]⟩, ⟨.t 48, some (.t 42, true), .mv, [.l 5]⟩, ⟨.t 49, some (.t 42, true), .bin .sub, [.t 48, .c (.i .i64 1)]⟩, ⟨.t 50, some (.t 42, true), .iad 1, [.t 47, .t 49]⟩, ⟨.t 51, some (.t 42, true), .ld none, [.t 50]⟩, ⟨.t 52, some (.t 42, true), .bin .leq, [.t 46, .t 51]⟩, ⟨.t 53, some (.t 39, false), .pick, [.t 42, .t 52, .c (.b false)]⟩, ⟨.t 54, none, .pick, [.t 39, .c (.b true), .t 53]⟩]) (.cond (.t 54) (.seq (.reg [⟨.l 2, none, .mv, [.c (.b false)]⟩]) .ret) .skip))) (.reg [⟨.t 25, none, .mv, [.l 5]⟩, ⟨.t 26, none, .bin .add, [.t 25, .c (.i .i64 1)]⟩, ⟨.l 5, none, .mv, [.t 26]⟩])))
noncomputable def D_tarpaulinlaw4_ProgRegs_19 (F : TF) (N : TN) (Q : TQ) (k1 : TK) (k2 : TK) (l : Env) (L : Lg) : Prop :=
 wpOp F .lenSl [(l 4)] L fun v1 L1 =>
 wpOp F (.bin .lss) [(l 5), v1] L1 fun v2 L2 =>
 condW v2
 (wpOp F (.iad 1) [(l 4), (l 5)] L2 fun v3 L3 =>
 wpOp F (.ld none) [v3] L3 fun v4 L4 =>
 wpOp F (.bin .lss) [v4, (.i .i64 0)] L4 fun v5 L5 =>
 gdOp F v5 false .mv [(l 4)] L5 fun v6 L6 =>
 gdOp F v5 false .mv [(l 5)] L6 fun v7 L7 =>
 gdOp F v5 false (.iad 1) [v6, v7] L7 fun v8 L8 =>
 gdOp F v5 false (.ld none) [v8] L8 fun v9 L9 =>
 gdOp F v5 false (.bin .geq) [v9, (.i .i64 8)] L9 fun v10 L10 =>
 wpOp F .pick [v5, (.b true), v10] L10 fun v11 L11 =>
 gdOp F v11 false .mv [(l 5)] L11 fun v12 L12 =>
 gdOp F v11 false (.bin .gtr) [v12, (.i .i64 0)] L12 fun v13 L13 =>
 gdOp F v11 false .mv [v13] L13 fun v14 L14 =>
 gdOp F v14 true .mv [(l 4)] L14 fun v15 L15 =>
 gdOp F v14 true .mv [(l 5)] L15 fun v16 L16 =>
 gdOp F v14 true (.iad 1) [v15, v16] L16 fun v17 L17 =>
 gdOp F v14 true (.ld none) [v17] L17 fun v18 L18 =>
 gdOp F v14 true .mv [(l 4)] L18 fun v19 L19 =>
 gdOp F v14 true .mv [(l 5)] L19 fun v20 L20 =>
 gdOp F v14 true (.bin .sub) [v20, (.i .i64 1)] L20 fun v21 L21 =>
 gdOp F v14 true (.iad 1) [v19, v21] L21 fun v22 L22 =>
 gdOp F v14 true (.ld none) [v22] L22 fun v23 L23 =>
 gdOp F v14 true (.bin .leq) [v18, v23] L23 fun v24 L24 =>
 gdOp F v11 false .pick [v14, v24, (.b false)] L24 fun v25 L25 =>
 wpOp F .pick [v11, (.b true), v25] L25 fun v26 L26 =>
 condW v26
 (fin1 (some (.b false)) Q L26)
 (wpOp F (.bin .add) [(l 5), (.i .i64 1)] L26 fun v27 L27 =>
 k2 (Env.put l 5 v27) L27))
 (D_tarpaulinlaw4_ProgRegs_15 F N Q k1 l L2)
theorem e_tarpaulinlaw4_ProgRegs_19 (F : TF) (N : TN) (Q : TQ) (k1 : TK) (k2 : TK) (l t : Env) (L : Lg) : wp F (q_tarpaulinlaw4_ProgRegs_19 N) l t L (fun (l _ : Env) (L : Lg) => k2 l L) (y_tarpaulinlaw4_ProgRegs_17 F N Q k1) (fin [.tmp (.l 2)] Q) = D_tarpaulinlaw4_ProgRegs_19 F N Q k1 k2 l L := by kernel_rfl
def q_tarpaulinlaw4_ProgRegs_18 (N : TN) : ACode := (.loop (q_tarpaulinlaw4_ProgRegs_19 N))
noncomputable def D_tarpaulinlaw4_ProgRegs_18 (F : TF) (N : TN) (Q : TQ) (k1 : TK) (l : Env) (L : Lg) : Prop :=
 loopW (fun l t L k2 => D_tarpaulinlaw4_ProgRegs_19 F N Q k1 k2 l L) l L
theorem e_tarpaulinlaw4_ProgRegs_18 (F : TF) (N : TN) (Q : TQ) (k1 : TK) (l t : Env) (L : Lg) : wp F (q_tarpaulinlaw4_ProgRegs_18 N) l t L (w_tarpaulinlaw4_ProgRegs_14 F N Q k1) (y_tarpaulinlaw4_ProgRegs_17 F N Q k1) (fin [.tmp (.l 2)] Q) = D_tarpaulinlaw4_ProgRegs_18 F N Q k1 l L := wpL (fun l t L k2 => e_tarpaulinlaw4_ProgRegs_19 F N Q k1 k2 l t L) (by kernel_rfl)
def q_tarpaulinlaw4_ProgRegs_17 (N : TN) : ACode := (.block 2 (q_tarpaulinlaw4_ProgRegs_18 N))
theorem e_tarpaulinlaw4_ProgRegs_17 (F : TF) (N : TN) (Q : TQ) (k1 : TK) (l t : Env) (L : Lg) : wp F (q_tarpaulinlaw4_ProgRegs_17 N) l t L (w_tarpaulinlaw4_ProgRegs_14 F N Q k1) (y_tarpaulinlaw4_ProgRegs_11 F N Q k1) (fin [.tmp (.l 2)] Q) = D_tarpaulinlaw4_ProgRegs_18 F N Q k1 l L := wpB (e_tarpaulinlaw4_ProgRegs_18 F N Q k1 l t L)
def q_tarpaulinlaw4_ProgRegs_16a (N : TN) : ACode := (.reg [⟨.l 5, none, .mv, [.c (.i .i64 0)]⟩])
def q_tarpaulinlaw4_ProgRegs_16 (N : TN) : ACode := (.seq (q_tarpaulinlaw4_ProgRegs_16a N) (q_tarpaulinlaw4_ProgRegs_17 N))
noncomputable def D_tarpaulinlaw4_ProgRegs_16 (F : TF) (N : TN) (Q : TQ) (k1 : TK) (l : Env) (L : Lg) : Prop :=
 D_tarpaulinlaw4_ProgRegs_18 F N Q k1 (Env.put l 5 (.i .i64 0)) L
theorem e_tarpaulinlaw4_ProgRegs_16 (F : TF) (N : TN) (Q : TQ) (k1 : TK) (l t : Env) (L : Lg) : wp F (q_tarpaulinlaw4_ProgRegs_16 N) l t L (w_tarpaulinlaw4_ProgRegs_14 F N Q k1) (y_tarpaulinlaw4_ProgRegs_11 F N Q k1) (fin [.tmp (.l 2)] Q) = D_tarpaulinlaw4_ProgRegs_16 F N Q k1 l L := wpS (e_tarpaulinlaw4_ProgRegs_17 F N Q k1) (by kernel_rfl)
def q_tarpaulinlaw4_ProgRegs_14 (N : TN) : ACode := (.seq (q_tarpaulinlaw4_ProgRegs_16 N) (q_tarpaulinlaw4_ProgRegs_15 N))
theorem e_tarpaulinlaw4_ProgRegs_14 (F : TF) (N : TN) (Q : TQ) (k1 : TK) (l t : Env) (L : Lg) : wp F (q_tarpaulinlaw4_ProgRegs_14 N) l t L (w_tarpaulinlaw4_ProgRegs_9 F N Q k1) (y_tarpaulinlaw4_ProgRegs_11 F N Q k1) (fin [.tmp (.l 2)] Q) = D_tarpaulinlaw4_ProgRegs_16 F N Q k1 l L := wpS (e_tarpaulinlaw4_ProgRegs_15 F N Q k1) (e_tarpaulinlaw4_ProgRegs_16 F N Q k1 l t L)
def q_tarpaulinlaw4_ProgRegs_13a (N : TN) : ACode := (.seq (.reg [⟨.t 17, none, .mv, [.l 3]⟩, ⟨.t 18, none, .bin .eql, [.t 17, .c (.i .i64 1)]⟩]) (.cond (.t 18) (.reg [⟨.t 19, none, .ld (some 6), [.l 1]⟩, ⟨.t 20, none, .call (N k_prog_Writes), [.t 19]⟩, ⟨.l 4, none, .mv, [.t 20]⟩]) .skip))
def q_tarpaulinlaw4_ProgRegs_13 (N : TN) : ACode := (.seq (q_tarpaulinlaw4_ProgRegs_13a N) (q_tarpaulinlaw4_ProgRegs_14 N))
noncomputable def D_tarpaulinlaw4_ProgRegs_13 (F : TF) (N : TN) (Q : TQ) (k1 : TK) (l : Env) (L : Lg) : Prop :=
 wpOp F (.bin .eql) [(l 3), (.i .i64 1)] L fun v1 L1 =>
 condW v1
 (wpOp F (.ld (some 6)) [(l 1)] L1 fun v2 L2 =>
 CallL F (N k_prog_Writes) [v2] L2 fun v3 L3 =>
 D_tarpaulinlaw4_ProgRegs_16 F N Q k1 (Env.put l 4 v3) L3)
 (D_tarpaulinlaw4_ProgRegs_16 F N Q k1 l L1)
theorem e_tarpaulinlaw4_ProgRegs_13 (F : TF) (N : TN) (Q : TQ) (k1 : TK) (l t : Env) (L : Lg) : wp F (q_tarpaulinlaw4_ProgRegs_13 N) l t L (w_tarpaulinlaw4_ProgRegs_9 F N Q k1) (y_tarpaulinlaw4_ProgRegs_11 F N Q k1) (fin [.tmp (.l 2)] Q) = D_tarpaulinlaw4_ProgRegs_13 F N Q k1 l L := wpS (e_tarpaulinlaw4_ProgRegs_14 F N Q k1) (by kernel_rfl)
def q_tarpaulinlaw4_ProgRegs_12a (N : TN) : ACode := (.reg [⟨.t 15, none, .ld (some 6), [.l 1]⟩, ⟨.t 16, none, .call (N k_prog_Reads), [.t 15]⟩, ⟨.l 4, none, .mv, [.t 16]⟩])
def q_tarpaulinlaw4_ProgRegs_12 (N : TN) : ACode := (.seq (q_tarpaulinlaw4_ProgRegs_12a N) (q_tarpaulinlaw4_ProgRegs_13 N))
noncomputable def D_tarpaulinlaw4_ProgRegs_12 (F : TF) (N : TN) (Q : TQ) (k1 : TK) (l : Env) (L : Lg) : Prop :=
 wpOp F (.ld (some 6)) [(l 1)] L fun v1 L1 =>
 CallL F (N k_prog_Reads) [v1] L1 fun v2 L2 =>
 D_tarpaulinlaw4_ProgRegs_13 F N Q k1 (Env.put l 4 v2) L2
theorem e_tarpaulinlaw4_ProgRegs_12 (F : TF) (N : TN) (Q : TQ) (k1 : TK) (l t : Env) (L : Lg) : wp F (q_tarpaulinlaw4_ProgRegs_12 N) l t L (w_tarpaulinlaw4_ProgRegs_9 F N Q k1) (y_tarpaulinlaw4_ProgRegs_11 F N Q k1) (fin [.tmp (.l 2)] Q) = D_tarpaulinlaw4_ProgRegs_12 F N Q k1 l L := wpS (e_tarpaulinlaw4_ProgRegs_13 F N Q k1) (by kernel_rfl)
def q_tarpaulinlaw4_ProgRegs_11 (N : TN) : ACode := (.block 1 (q_tarpaulinlaw4_ProgRegs_12 N))
theorem e_tarpaulinlaw4_ProgRegs_11 (F : TF) (N : TN) (Q : TQ) (k1 : TK) (l t : Env) (L : Lg) : wp F (q_tarpaulinlaw4_ProgRegs_11 N) l t L (w_tarpaulinlaw4_ProgRegs_9 F N Q k1) (y_tarpaulinlaw4_ProgRegs_6 F N Q) (fin [.tmp (.l 2)] Q) = D_tarpaulinlaw4_ProgRegs_12 F N Q k1 l L := wpB (e_tarpaulinlaw4_ProgRegs_12 F N Q k1 l t L)
def q_tarpaulinlaw4_ProgRegs_9 (N : TN) : ACode := (.seq (q_tarpaulinlaw4_ProgRegs_11 N) (q_tarpaulinlaw4_ProgRegs_10 N))
theorem e_tarpaulinlaw4_ProgRegs_9 (F : TF) (N : TN) (Q : TQ) (k1 : TK) (l t : Env) (L : Lg) : wp F (q_tarpaulinlaw4_ProgRegs_9 N) l t L (fun (l _ : Env) (L : Lg) => k1 l L) (y_tarpaulinlaw4_ProgRegs_6 F N Q) (fin [.tmp (.l 2)] Q) = D_tarpaulinlaw4_ProgRegs_12 F N Q k1 l L := wpS (e_tarpaulinlaw4_ProgRegs_10 F N Q k1) (e_tarpaulinlaw4_ProgRegs_11 F N Q k1 l t L)
def q_tarpaulinlaw4_ProgRegs_8a (N : TN) : ACode := (.seq (.reg [⟨.t 11, none, .mv, [.l 3]⟩, ⟨.t 12, none, .bin .lss, [.t 11, .c (.i .i64 2)]⟩]) (.cond (.t 12) .skip (.exit 0)))
def q_tarpaulinlaw4_ProgRegs_8 (N : TN) : ACode := (.seq (q_tarpaulinlaw4_ProgRegs_8a N) (q_tarpaulinlaw4_ProgRegs_9 N))
noncomputable def D_tarpaulinlaw4_ProgRegs_8 (F : TF) (N : TN) (Q : TQ) (k1 : TK) (l : Env) (L : Lg) : Prop :=
 wpOp F (.bin .lss) [(l 3), (.i .i64 2)] L fun v1 L1 =>
 condW v1
 (D_tarpaulinlaw4_ProgRegs_12 F N Q k1 l L1)
 (D_tarpaulinlaw4_ProgRegs_4 F N Q L1)
theorem e_tarpaulinlaw4_ProgRegs_8 (F : TF) (N : TN) (Q : TQ) (k1 : TK) (l t : Env) (L : Lg) : wp F (q_tarpaulinlaw4_ProgRegs_8 N) l t L (fun (l _ : Env) (L : Lg) => k1 l L) (y_tarpaulinlaw4_ProgRegs_6 F N Q) (fin [.tmp (.l 2)] Q) = D_tarpaulinlaw4_ProgRegs_8 F N Q k1 l L := wpS (e_tarpaulinlaw4_ProgRegs_9 F N Q k1) (by kernel_rfl)
def q_tarpaulinlaw4_ProgRegs_7 (N : TN) : ACode := (.loop (q_tarpaulinlaw4_ProgRegs_8 N))
noncomputable def D_tarpaulinlaw4_ProgRegs_7 (F : TF) (N : TN) (Q : TQ) (l : Env) (L : Lg) : Prop :=
 loopW (fun l t L k1 => D_tarpaulinlaw4_ProgRegs_8 F N Q k1 l L) l L
theorem e_tarpaulinlaw4_ProgRegs_7 (F : TF) (N : TN) (Q : TQ) (l t : Env) (L : Lg) : wp F (q_tarpaulinlaw4_ProgRegs_7 N) l t L (w_tarpaulinlaw4_ProgRegs_3 F N Q) (y_tarpaulinlaw4_ProgRegs_6 F N Q) (fin [.tmp (.l 2)] Q) = D_tarpaulinlaw4_ProgRegs_7 F N Q l L := wpL (fun l t L k1 => e_tarpaulinlaw4_ProgRegs_8 F N Q k1 l t L) (by kernel_rfl)
def q_tarpaulinlaw4_ProgRegs_6 (N : TN) : ACode := (.block 0 (q_tarpaulinlaw4_ProgRegs_7 N))
theorem e_tarpaulinlaw4_ProgRegs_6 (F : TF) (N : TN) (Q : TQ) (l t : Env) (L : Lg) : wp F (q_tarpaulinlaw4_ProgRegs_6 N) l t L (w_tarpaulinlaw4_ProgRegs_3 F N Q) nE (fin [.tmp (.l 2)] Q) = D_tarpaulinlaw4_ProgRegs_7 F N Q l L := wpB (e_tarpaulinlaw4_ProgRegs_7 F N Q l t L)
def q_tarpaulinlaw4_ProgRegs_5a (N : TN) : ACode := (.reg [⟨.l 3, none, .mv, [.c (.i .i64 0)]⟩])
def q_tarpaulinlaw4_ProgRegs_5 (N : TN) : ACode := (.seq (q_tarpaulinlaw4_ProgRegs_5a N) (q_tarpaulinlaw4_ProgRegs_6 N))
noncomputable def D_tarpaulinlaw4_ProgRegs_5 (F : TF) (N : TN) (Q : TQ) (l : Env) (L : Lg) : Prop :=
 D_tarpaulinlaw4_ProgRegs_7 F N Q (Env.put l 3 (.i .i64 0)) L
theorem e_tarpaulinlaw4_ProgRegs_5 (F : TF) (N : TN) (Q : TQ) (l t : Env) (L : Lg) : wp F (q_tarpaulinlaw4_ProgRegs_5 N) l t L (w_tarpaulinlaw4_ProgRegs_3 F N Q) nE (fin [.tmp (.l 2)] Q) = D_tarpaulinlaw4_ProgRegs_5 F N Q l L := wpS (e_tarpaulinlaw4_ProgRegs_6 F N Q) (by kernel_rfl)
def q_tarpaulinlaw4_ProgRegs_3 (N : TN) : ACode := (.seq (q_tarpaulinlaw4_ProgRegs_5 N) (q_tarpaulinlaw4_ProgRegs_4 N))
theorem e_tarpaulinlaw4_ProgRegs_3 (F : TF) (N : TN) (Q : TQ) (l t : Env) (L : Lg) : wp F (q_tarpaulinlaw4_ProgRegs_3 N) l t L (fin [.tmp (.l 2)] Q) nE (fin [.tmp (.l 2)] Q) = D_tarpaulinlaw4_ProgRegs_5 F N Q l L := wpS (e_tarpaulinlaw4_ProgRegs_4 F N Q) (e_tarpaulinlaw4_ProgRegs_5 F N Q l t L)
def q_tarpaulinlaw4_ProgRegs_2a (N : TN) : ACode := (.seq (.reg [⟨.t 6, none, .fad 4, [.l 1]⟩, ⟨.t 7, none, .ld none, [.t 6]⟩, ⟨.t 8, none, .lenSl, [.t 7]⟩, ⟨.t 9, none, .bin .gtr, [.t 8, .c (.i .i64 20)]⟩]) (.cond (.t 9) (.seq (.reg [⟨.t 10, none, .call (N k_tarpaulinlaw4_awake), []⟩, ⟨.l 2, none, .mv, [.t 10]⟩]) .ret) .skip))
def q_tarpaulinlaw4_ProgRegs_2 (N : TN) : ACode := (.seq (q_tarpaulinlaw4_ProgRegs_2a N) (q_tarpaulinlaw4_ProgRegs_3 N))
noncomputable def D_tarpaulinlaw4_ProgRegs_2 (F : TF) (N : TN) (Q : TQ) (l : Env) (L : Lg) : Prop :=
 wpOp F (.fad 4) [(l 1)] L fun v1 L1 =>
 wpOp F (.ld none) [v1] L1 fun v2 L2 =>
 wpOp F .lenSl [v2] L2 fun v3 L3 =>
 wpOp F (.bin .gtr) [v3, (.i .i64 20)] L3 fun v4 L4 =>
 condW v4
 (CallL F (N k_tarpaulinlaw4_awake) [] L4 fun v5 L5 =>
 fin1 (some v5) Q L5)
 (D_tarpaulinlaw4_ProgRegs_5 F N Q l L4)
theorem e_tarpaulinlaw4_ProgRegs_2 (F : TF) (N : TN) (Q : TQ) (l t : Env) (L : Lg) : wp F (q_tarpaulinlaw4_ProgRegs_2 N) l t L (fin [.tmp (.l 2)] Q) nE (fin [.tmp (.l 2)] Q) = D_tarpaulinlaw4_ProgRegs_2 F N Q l L := wpS (e_tarpaulinlaw4_ProgRegs_3 F N Q) (by kernel_rfl)
def q_tarpaulinlaw4_ProgRegs_1a (N : TN) : ACode := (.reg [⟨.l 1, none, .box, [.l 0]⟩, ⟨.l 2, none, .mv, [.c (.b false)]⟩])
def q_tarpaulinlaw4_ProgRegs_1 (N : TN) : ACode := (.seq (q_tarpaulinlaw4_ProgRegs_1a N) (q_tarpaulinlaw4_ProgRegs_2 N))
noncomputable def D_tarpaulinlaw4_ProgRegs_1 (F : TF) (N : TN) (Q : TQ) (l : Env) (L : Lg) : Prop :=
 wpOp F .box [(l 0)] L fun v1 L1 =>
 D_tarpaulinlaw4_ProgRegs_2 F N Q (Env.put (Env.put l 1 v1) 2 (.b false)) L1
theorem e_tarpaulinlaw4_ProgRegs_1 (F : TF) (N : TN) (Q : TQ) (l t : Env) (L : Lg) : wp F (q_tarpaulinlaw4_ProgRegs_1 N) l t L (fin [.tmp (.l 2)] Q) nE (fin [.tmp (.l 2)] Q) = D_tarpaulinlaw4_ProgRegs_1 F N Q l L := wpS (e_tarpaulinlaw4_ProgRegs_2 F N Q) (by kernel_rfl)
/-- tarpaulin/tarpaulinlaw4.ProgRegs -/
def c_tarpaulinlaw4_ProgRegs (N : TN) : AFn := ⟨q_tarpaulinlaw4_ProgRegs_1 N, [.tmp (.l 2)]⟩
theorem r_tarpaulinlaw4_ProgRegs {F : TF} {N : TN} (h : F (N k_tarpaulinlaw4_ProgRegs) = some (c_tarpaulinlaw4_ProgRegs N)) {Q : TQ} {a0 : AV} {L : Lg} (e : D_tarpaulinlaw4_ProgRegs_1 F N Q (initE [a0] 0) L) : CallL F (N k_tarpaulinlaw4_ProgRegs) [a0] L Q :=
  CallL.of_wp h (Eq.mpr (Eq.trans (e_tarpaulinlaw4_ProgRegs_1 F N Q (initE [a0] 0) Env.nil L) (by kernel_rfl : _ = D_tarpaulinlaw4_ProgRegs_1 F N Q (initE [a0] 0) L)) e)
end Go.AM

/- clock: what its functions do. -/
set_option linter.unusedVariables false
set_option linter.unusedSimpArgs false
namespace Go.AM
variable {N : Nat → Nat} {F : Nat → Option AFn}

def held (t : Int) : Int := min (max t (-4611686018427387904)) 4611686018427387904
def clockAdd (t d : Int) : Int := held (held t + held d)
/-- the first of a row behind now -/
def clockNext (w p n : Int) : Int × Int :=
  if p < 1 ∨ min w n < 0 ∨ 4611686018427387904 < max w (max p n) then (0, 1)
  else if n < w then (w, 0) else (clockAdd n (p - (n - w).tmod p), 0)
end Go.AM


/- Logical memory: what is hidden is opened and shut; reading and writing known cells. -/
set_option linter.unusedVariables false
set_option linter.unusedSimpArgs false
namespace Go.AM

/-! ### two blocks, and many -/
def Lg.two (r b : Nat) (c d : LC) : Lg := fun m => if m = r then some c else if m = b then some d else none
theorem over_two (L : Lg) {r b : Nat} (h : b ≠ r) (c d : LC) : (Lg.two r b c d).over L = (L.put b d).put r c := by
  funext m
  unfold Lg.over Lg.two Lg.put
  by_cases h1 : m = r
  · simp [h1]
  · by_cases h2 : m = b
    · subst h2; simp [h1]
    · simp [h1, h2]
theorem over_del (M L : Lg) {r : Nat} (h : M r ≠ none) : M.over (L.del r) = M.over L := by
  funext m
  unfold Lg.over Lg.del
  by_cases h1 : m = r
  · subst h1
    cases h2 : M m with
    | none => exact absurd h2 h
    | some c => rfl
  · simp [h1]
/-- What is hidden at a name is opened ahead of a call. -/
theorem CallL.opens {F : Nat → Option AFn} {f : Nat} {vs : List AV} {L : Lg} {Q : AV → Lg → Prop} {r : Nat} {P : Hp → Prop} (e : L r = some (.abs P))
    (h : ∀ hm, P hm → ∃ M : Lg, Sat M hm ∧ M r ≠ none ∧ ((∀ b c, M b = some c → b ≠ r → L b = none) → CallL F f vs (M.over L) Q)) : CallL F f vs L Q := by
  apply CallL.unfold e
  intro hm hP
  obtain ⟨M, hs, hr, hc⟩ := h hm hP
  refine ⟨M, hs, fun hf => ?_⟩
  rw [over_del M L hr]
  exact hc hf
theorem Sees.shut {L M : Lg} {r : Nat} {P : Hp → Prop} (hf : ∀ b c, M b = some c → b ≠ r → L b = none) (hr : (∃ cs, M r = some (.raw (.cells cs))) ∨ ∃ Q, M r = some (.abs Q)) (hP : ∀ h, Sat M h → P h) : Sees (M.over L) (L.put r (.abs P)) := by
  have h1 := Sees.fold (L := M.over L) (M := M) (r := r) (P := P) (fun b c hb => by simp [Lg.over, hb]) hr hP
  have h2 : ((M.over L).minus M).put r (.abs P) = L.put r (.abs P) := by
    funext m
    unfold Lg.put
    by_cases hm : m = r
    · simp [hm]
    · simp only [hm, if_false]
      cases h3 : M m with
      | none => simp [Lg.over, Lg.minus, h3]
      | some c => simp only [Lg.minus, h3]; exact (hf m c h3 hm).symm
  rw [h2] at h1
  exact h1
/-- What may be seen at names of a kind becomes one thing; what else has come is let go. -/
theorem Sees.shutAt {L Lf : Lg} {r : Nat} {P : Hp → Prop} (ids : Nat → Prop) (hr : ids r) (h1 : ∀ b c, ¬ ids b → L b = some c → Lf b = some c) (h2 : ∀ b, ids b → b ≠ r → L b = none)
    (h3 : (∃ cs, Lf r = some (.raw (.cells cs))) ∨ ∃ Q, Lf r = some (.abs Q)) (hP : ∀ (M : Lg) h, (∀ b, ids b → M b = Lf b) → (∀ b, ¬ ids b → M b = none) → Sat M h → P h) : Sees Lf (L.put r (.abs P)) := by
  classical
  let M : Lg := fun b => if ids b then Lf b else none
  have hM : ∀ b, ids b → M b = Lf b := fun b hb => by simp [M, hb]
  have hN : ∀ b, ¬ ids b → M b = none := fun b hb => by simp [M, hb]
  have e1 : Sees Lf (M.over L) := by
    apply Sees.drop
    intro b c hb
    unfold Lg.over at hb
    by_cases hi : ids b
    · rw [hM b hi] at hb
      cases h4 : Lf b with
      | some d => rw [h4] at hb; exact hb
      | none =>
        rw [h4] at hb
        by_cases hbr : b = r
        · subst hbr; rcases h3 with ⟨cs, h3⟩ | ⟨Q, h3⟩ <;> rw [h3] at h4 <;> cases h4
        · rw [h2 b hi hbr] at hb; cases hb
    · rw [hN b hi] at hb
      exact h1 b c hi hb
  refine e1.trans (Sees.shut ?_ ?_ fun h hs => hP M h hM hN hs)
  · intro b c hb hbr
    by_cases hi : ids b
    · exact h2 b hi hbr
    · rw [hN b hi] at hb; cases hb
  · rw [hM r hr]; exact h3
theorem CallL.open2 {F : Nat → Option AFn} {f : Nat} {vs : List AV} {L : Lg} {Q : AV → Lg → Prop} {r : Nat} {P : Hp → Prop} (e : L r = some (.abs P))
    (h : ∀ hm, P hm → ∃ b c d, b ≠ r ∧ Sat (Lg.two r b c d) hm ∧ (L b = none → CallL F f vs ((L.put b d).put r c) Q)) : CallL F f vs L Q := by
  apply CallL.opens e
  intro hm hP
  obtain ⟨b, c, d, hb, hs, hc⟩ := h hm hP
  refine ⟨Lg.two r b c d, hs, by simp [Lg.two], fun hf => ?_⟩
  rw [over_two L hb]
  exact hc (hf b d (by simp [Lg.two, hb]) hb)
theorem Sees.shut2 {L : Lg} {r b : Nat} {cs : List AV} {d : LC} {P : Hp → Prop} (hb : b ≠ r) (hf : L b = none) (hP : ∀ h, Sat (Lg.two r b (.raw (.cells cs)) d) h → P h) : Sees ((L.put b d).put r (.raw (.cells cs))) (L.put r (.abs P)) := by
  rw [← over_two L hb]
  refine Sees.shut ?_ (.inl ⟨cs, by simp [Lg.two]⟩) hP
  intro b' c' h1 h2
  unfold Lg.two at h1
  simp only [h2, if_false] at h1
  split at h1
  · rename_i h3; subst h3; exact hf
  · cases h1

theorem Lg.put3 (L : Lg) {n m : Nat} (h : n ≠ m) (c d e : LC) : ((L.put n c).put m d).put n e = (L.put n e).put m d := by
  rw [Lg.put_comm _ (Ne.symm h), Lg.put_put]
/-! ### the same -/
@[simp] theorem kEq_self (j : IntKind) : kEq j j = true := by cases j <;> rfl
theorem beq_self (n : Nat) : Nat.beq n n = true := by rw [beq_nat]; simp
@[simp] theorem sameV_i (j : IntKind) (x : Int) : sameV (.i j x) (.i j x) = true := by simp [sameV, same1, iEq_eq]
@[simp] theorem sameV_b (x : Bool) : sameV (.b x) (.b x) = true := by simp [sameV, same1]
@[simp] theorem sameV_p (x : Option (Nat × Nat)) : sameV (.p x) (.p x) = true := by cases x <;> simp [sameV, same1, beq_self]
@[simp] theorem sameV_m (x : Option Nat) : sameV (.m x) (.m x) = true := by cases x <;> simp [sameV, same1, beq_self]
@[simp] theorem sameV_sl (a : Option (Nat × Nat)) (n c e : Nat) : sameV (.sl a n c e) (.sl a n c e) = true := by cases a <;> simp [sameV, same1, beq_self]
/-! ### cells -/
theorem splice_one (c : List AV) (o : Nat) (v : AV) (h : o < c.length) : splice c o [v] = c.set o v := by
  unfold splice
  rw [List.set_eq_take_append_cons_drop]
  simp [h]
theorem rdL_cell {L : Lg} {b o : Nat} {c : List AV} (h : L b = some (.raw (.cells c))) : rdL L (b, o) none = c[o]? := by
  simp [rdL, h, AB.read, look]
theorem rdL_cells {L : Lg} {b o n : Nat} {c : List AV} (h : L b = some (.raw (.cells c))) (hn : o + n ≤ c.length) : rdL L (b, o) (some n) = some (.agg ((c.drop o).take n)) := by
  simp [rdL, h, AB.read, look, cut, ble_nat, hn]
theorem rdL_ro {L : Lg} {b o : Nat} {c : List AV} (h : L b = some (.raw (.ro c))) : rdL L (b, o) none = c[o]? := by
  simp [rdL, h, AB.read, look]
theorem rdL_ros {L : Lg} {b o n : Nat} {c : List AV} (h : L b = some (.raw (.ro c))) (hn : o + n ≤ c.length) : rdL L (b, o) (some n) = some (.agg ((c.drop o).take n)) := by
  simp [rdL, h, AB.read, look, cut, ble_nat, hn]
theorem stL_cell {L : Lg} {b o : Nat} {c : List AV} {v : AV} {k : AV → Lg → Prop} (h : L b = some (.raw (.cells c))) (ho : o < c.length) (hv : v.cellsOf = some [v]) : stL 1 L k [.p (some (b, o)), v] = k .bad (L.put b (.raw (.cells (c.set o v)))) := by
  have h1 : v.one = true := by
    have := cellsOf_one hv
    simpa using this
  have h2 : o + 1 ≤ c.length := ho
  simp [stL, hv, wrL, h, h1, splice_one c o v ho, h2]
theorem stL_cells {L : Lg} {b o n : Nat} {c l : List AV} {k : AV → Lg → Prop} (h : L b = some (.raw (.cells c))) (hl : l.all AV.one = true) (hn : l.length = n) (ho : o + n ≤ c.length) : stL n L k [.p (some (b, o)), .agg l] = k .bad (L.put b (.raw (.cells (splice c o l)))) := by
  subst hn
  have hl' : ∀ x, x ∈ l → x.one = true := List.all_eq_true.1 hl
  simp only [stL, cellsOf_agg l hl, if_true, wrL, h, ho, hl, and_self]
/-- a box: a block of its own -/
theorem box_one (F : Nat → Option AFn) (v : AV) (L : Lg) (k : AV → Lg → Prop) (hv : v.cellsOf = some [v]) : wpOp F .box [v] L k = ∀ b, L b = none → k (.p (some (b, 0))) (L.put b (.raw (.cells [v]))) := by
  simp [newL, aBox, hv]
theorem box_agg (F : Nat → Option AFn) (l : List AV) (L : Lg) (k : AV → Lg → Prop) (hl : l.all AV.one = true) : wpOp F .box [.agg l] L k = ∀ b, L b = none → k (.p (some (b, 0))) (L.put b (.raw (.cells l))) := by
  simp [newL, aBox, cellsOf_agg l hl]
theorem cellsOf_agg' (l : List AV) : (AV.agg l).cellsOf = if l.all AV.one = true then some l else none := by
  simp only [AV.cellsOf]
  cases h : l.all AV.one <;> simp
theorem newL_box (v : AV) (L : Lg) (k : AV → Lg → Prop) {l : List AV} (hv : v.cellsOf = some l) : newL aBox [v] L k = ∀ b, L b = none → k (.p (some (b, 0))) (L.put b (.raw (.cells l))) := by
  simp [newL, aBox, hv]
theorem newL_box_agg (l : List AV) (L : Lg) (k : AV → Lg → Prop) (h : l.all AV.one = true) : newL aBox [.agg l] L k = ∀ b, L b = none → k (.p (some (b, 0))) (L.put b (.raw (.cells l))) := newL_box _ L k (cellsOf_agg l h)
@[simp] theorem newL_box_agg2 (x y : AV) (L : Lg) (k : AV → Lg → Prop) (h1 : x.one = true) (h2 : y.one = true) : newL aBox [.agg [x, y]] L k = ∀ b, L b = none → k (.p (some (b, 0))) (L.put b (.raw (.cells [x, y]))) := newL_box_agg _ L k (by simp [h1, h2])
@[simp] theorem newL_box_agg3 (x y z : AV) (L : Lg) (k : AV → Lg → Prop) (h1 : x.one = true) (h2 : y.one = true) (h3 : z.one = true) : newL aBox [.agg [x, y, z]] L k = ∀ b, L b = none → k (.p (some (b, 0))) (L.put b (.raw (.cells [x, y, z]))) := newL_box_agg _ L k (by simp [h1, h2, h3])
@[simp] theorem newL_box_agg5 (x y z u v : AV) (L : Lg) (k : AV → Lg → Prop) (h1 : x.one = true) (h2 : y.one = true) (h3 : z.one = true) (h4 : u.one = true) (h5 : v.one = true) : newL aBox [.agg [x, y, z, u, v]] L k = ∀ b, L b = none → k (.p (some (b, 0))) (L.put b (.raw (.cells [x, y, z, u, v]))) := newL_box_agg _ L k (by simp [h1, h2, h3, h4, h5])
@[simp] theorem newL_box_i (j n) (L : Lg) (k : AV → Lg → Prop) : newL aBox [.i j n] L k = ∀ b, L b = none → k (.p (some (b, 0))) (L.put b (.raw (.cells [.i j n]))) := newL_box _ L k rfl
@[simp] theorem newL_box_b (n) (L : Lg) (k : AV → Lg → Prop) : newL aBox [.b n] L k = ∀ b, L b = none → k (.p (some (b, 0))) (L.put b (.raw (.cells [.b n]))) := newL_box _ L k rfl
@[simp] theorem newL_box_p (n) (L : Lg) (k : AV → Lg → Prop) : newL aBox [.p n] L k = ∀ b, L b = none → k (.p (some (b, 0))) (L.put b (.raw (.cells [.p n]))) := newL_box _ L k rfl
@[simp] theorem newL_box_sl (a b c d) (L : Lg) (k : AV → Lg → Prop) : newL aBox [.sl a b c d] L k = ∀ r, L r = none → k (.p (some (r, 0))) (L.put r (.raw (.cells [.sl a b c d]))) := newL_box _ L k rfl
theorem newL_bslice {z : List AV} {len size : Nat} {ps : List Nat} {vs c : List AV} (L : Lg) (k : AV → Lg → Prop) (h : fillP (reps z len) (ps.map fun i => (i * size, size)) vs = some c) (h1 : c.all AV.one = true) :
    newL (aBslice z len size ps) vs L k = ∀ b, L b = none → k (.sl (some (b, 0)) len len 0) (L.put b (.raw (.cells c))) := by
  simp [newL, aBslice, h, h1]
theorem reps_one' (v : AV) : ∀ n, reps [v] n = List.replicate n v
  | 0 => rfl
  | n + 1 => by simp [reps, reps_one' v n, List.replicate_succ]

theorem loopW_intro {B : Env → Env → Lg → (Env → Lg → Prop) → Prop} {l : Env} {L : Lg} (I : Nat → Env → Lg → Prop) (n : Nat) (h0 : I n l L) (h : ∀ n l t L, I n l L → B l t L (fun l L => ∃ m, m < n ∧ I m l L)) : loopW B l L := ⟨I, ⟨n, h0⟩, h⟩
@[simp] theorem initE_cons (v : AV) (r : List AV) (i : Nat) : initE (v :: r) i = (initE r (i + 1)).put i v := rfl
@[simp] theorem initE_nil (i n : Nat) : initE [] i n = .bad := rfl
@[simp] theorem evO_c (l t : Env) (v : AV) : evO l t (.c v) = v := rfl
theorem res_cell_tmp (L : Lg) {b o n : Nat} {c : List AV} (v : AV) (h : L b = some (.raw (.cells c))) (hn : o + n ≤ c.length) : resVL Env.nil Env.nil L [.cell (.c (.p (some (b, o)))) (some n), .tmp (.c v)] = some (.tup [.agg ((c.drop o).take n), v]) := by
  simp [resVL, resLL, resOneL, rdL_cells h hn]
/-! ### a slice of one's own, that is appended to -/
def OwnSl (L : Lg) (v : AV) (cs : List AV) (n size : Nat) : Prop :=
  (n = 0 ∧ cs = [] ∧ v = .sl none 0 0 0) ∨ ∃ b, 0 < n ∧ v = .sl (some (b, 0)) n n size ∧ L b = some (.raw (.cells cs)) ∧ cs.length = n * size
/-- the block of a slice of one's own -/
def slB : AV → Option Nat
  | .sl (some (b, _)) _ _ _ => some b
  | _ => none
def Lg.delO (L : Lg) : Option Nat → Lg
  | none => L
  | some b => L.del b
/-- a slice that has come: nothing, or a block that was not there -/
def FreshSl (L : Lg) (v : AV) (cs : List AV) (n size : Nat) (L' : Lg) : Prop :=
  (n = 0 ∧ cs = [] ∧ v = .sl none 0 0 0 ∧ L' = L) ∨ ∃ b ex, L b = none ∧ 0 < n ∧ v = .sl (some (b, 0)) n n ex ∧ cs.length = n * size ∧ L' = L.put b (.raw (.cells cs))
/-- L' has all that L has -/
def Ext2 (L L' : Lg) : Prop := ∀ b c, L b = some c → L' b = some c
theorem Ext2.refl (L : Lg) : Ext2 L L := fun _ _ h => h
theorem Ext2.trans {L M K : Lg} (h : Ext2 L M) (k : Ext2 M K) : Ext2 L K := fun b c e => k b c (h b c e)
theorem Ext2.put {L M : Lg} (h : Ext2 L M) {b : Nat} (hb : L b = none) (c : LC) : Ext2 L (M.put b c) := fun d e hd => by
  have : d ≠ b := by rintro rfl; rw [hb] at hd; cases hd
  rw [Lg.put_ne _ _ _ this]; exact h d e hd
theorem Ext2.del {L M : Lg} (h : Ext2 L M) {b : Nat} (hb : L b = none) : Ext2 L (M.del b) := fun d e hd => by
  have : d ≠ b := by rintro rfl; rw [hb] at hd; cases hd
  rw [Lg.del_apply, if_neg this]; exact h d e hd
theorem Ext2.delO {L M : Lg} (h : Ext2 L M) {o : Option Nat} (hb : ∀ b, o = some b → L b = none) : Ext2 L (M.delO o) := by
  cases o with
  | none => exact h
  | some b => exact h.del (hb b rfl)
theorem Ext2.none {L M : Lg} (h : Ext2 L M) {b : Nat} (hb : M b = none) : L b = none := by
  cases e : L b with
  | none => rfl
  | some c => rw [h b c e] at hb; cases hb
theorem Ext2.sees {L M : Lg} (h : Ext2 L M) : Sees M L := Sees.drop h
theorem OwnSl.app {L : Lg} {v : AV} {cs : List AV} {n size bytes : Nat} (h : OwnSl L v cs n size) (hsz : 0 < size) {src : AV} {new : List AV} {m c e : Nat} {a : Option (Nat × Nat)} (hs : src = .sl a m c e) (hm : 0 < m) (hr : rdCellsL L a (m * size) = some new) (hn : new.length = m * size) (h1 : new.all AV.one = true) (hb : (n + m) * bytes ≤ 70368744177664)
    {k : AV → Lg → Prop} (hk : ∀ b, L b = none → k (.sl (some (b, 0)) (n + m) (n + m) size) ((L.delO (slB v)).put b (.raw (.cells (cs ++ new))))) : appW size bytes L k [v, src] := by
  subst hs
  rcases h with ⟨rfl, rfl, rfl⟩ | ⟨b, h0, rfl, hL, hl⟩
  · simp only [appW, hr, appL, h1, true_and]
    have h2 : ¬ (0 + m ≤ 0) := by omega
    simp only [h2, if_false, hb, true_and, Nat.zero_mul, rdCellsL, goneL, if_true, List.nil_append]
    exact hk
  · simp only [appW, hr, appL, h1, true_and]
    have h2 : ¬ (n + m ≤ n) := by omega
    have h3 : rdCellsL L (some (b, 0)) (n * size) = some cs := by
      simp only [rdCellsL, hL, AB.read, cut, ble_nat, Nat.zero_add, hl, Nat.le_refl, decide_true, cond_true, List.drop_zero]
      rw [← hl, List.take_length]
    have h4 : ¬ size = 0 := by omega
    simp only [h2, if_false, hb, true_and, h3, goneL, h4, if_true, hL]
    exact hk
theorem OwnSl.of_app {L : Lg} {v : AV} {cs new : List AV} {n m size b : Nat} (h : OwnSl L v cs n size) (hm : 0 < m) (hn : new.length = m * size) : OwnSl ((L.delO (slB v)).put b (.raw (.cells (cs ++ new)))) (.sl (some (b, 0)) (n + m) (n + m) size) (cs ++ new) (n + m) size := by
  refine .inr ⟨b, by omega, rfl, Lg.put_same _ _ _, ?_⟩
  rcases h with ⟨rfl, rfl, rfl⟩ | ⟨b, h0, rfl, hL, hl⟩
  · simp [hn]
  · simp [hl, hn, Nat.add_mul]
theorem appW_grow {L L' : Lg} {size bytes len cap ex m c e : Nat} {a b : Option (Nat × Nat)} {new old : List AV} {k : AV → Lg → Prop} (hr : rdCellsL L b (m * size) = some new) (h1 : new.all AV.one = true) (hlt : ¬ len + m ≤ cap)
    (hb : (len + m) * bytes ≤ 70368744177664) (ho : rdCellsL L a (len * size) = some old) (hg : goneL L a ex size = some L') (hk : ∀ b, L b = none → k (.sl (some (b, 0)) (len + m) (len + m) size) (L'.put b (.raw (.cells (old ++ new))))) :
    appW size bytes L k [.sl a len cap ex, .sl b m c e] := by
  simp only [appW, hr, appL, h1, true_and, hlt, if_false, hb, ho, hg]
  exact hk
theorem appW_room {L L' : Lg} {size bytes len cap ex m c e r o : Nat} {b : Option (Nat × Nat)} {new : List AV} {k : AV → Lg → Prop} (hr : rdCellsL L b (m * size) = some new) (h1 : new.all AV.one = true) (hle : len + m ≤ cap) (hm : m ≠ 0)
    (hw : wrL L (r, o + len * size) new = some L') (hk : k (.sl (some (r, o)) (len + m) cap ex) L') : appW size bytes L k [.sl (some (r, o)) len cap ex, .sl b m c e] := by
  simp only [appW, hr, appL, h1, true_and, hle, if_true, hm, if_false, hw]
  exact hk
end Go.AM

/- ring: what its functions do. -/
set_option linter.unusedVariables false
set_option linter.unusedSimpArgs false
namespace Go.AM
variable {N : Nat → Nat} {F : Nat → Option AFn}

def ints (zs : List Int) : List AV := zs.map (.i .i64 ·)
@[simp] theorem ints_length (zs : List Int) : (ints zs).length = zs.length := by simp [ints]
@[simp] theorem ints_get (zs : List Int) (i : Nat) : (ints zs)[i]? = (zs[i]?).map (.i .i64 ·) := by simp [ints]
/-- a ring's values, and its room -/
def RingP (r : Nat) (xs : List Int) (cap : Nat) (h : Hp) : Prop := ∃ (b fr : Nat) (zs : List Int), b ≠ r ∧ zs.length = cap ∧ xs.length ≤ cap ∧ cap ≤ 64 ∧ fr ≤ cap ∧ (0 < cap → fr < cap) ∧ (∀ i, i < xs.length → zs[(fr + i) % cap]? = xs[i]?) ∧
  Sat (Lg.two r b (.raw (.cells [.sl (some (b, 0)) cap cap 0, .i .i64 fr, .i .i64 xs.length])) (.raw (.cells (ints zs)))) h

section
variable {L : Lg} {r cap : Nat} {xs : List Int}
end
end Go.AM


/- wait: what its functions do. -/
set_option linter.unusedVariables false
set_option linter.unusedSimpArgs false
namespace Go.AM
variable {N : Nat → Nat} {F : Nat → Option AFn}

/-- one who waits -/
structure Wt where
  t : Int
  c : Int
  v : Int
  deriving DecidableEq
def Wt.cells (w : Wt) : List AV := [.i .i64 w.t, .i .i64 w.c, .i .i64 w.v]
def Wt.av (w : Wt) : AV := .agg w.cells
def Wt.zero : Wt := ⟨0, 0, 0⟩
def ptr (o : Option Nat) : AV := .p (o.map fun b => (b, 0))
@[simp] theorem ptr_none : ptr none = .p none := rfl
@[simp] theorem ptr_some (b : Nat) : ptr (some b) = .p (some (b, 0)) := rfl
@[simp] theorem ptr_cellsOf (o : Option Nat) : (ptr o).cellsOf = some [ptr o] := rfl
@[simp] theorem ptr_one (o : Option Nat) : (ptr o).one = true := rfl
def wnode (w : Wt) (p n : Option Nat) : LC := .raw (.cells [.i .i64 w.t, .i .i64 w.c, .i .i64 w.v, ptr p, ptr n])
def hd (n : Option Nat) : List (Nat × Wt) → Option Nat
  | [] => n
  | x :: _ => some x.1
def lst (p : Option Nat) : List (Nat × Wt) → Option Nat
  | [] => p
  | x :: r => lst (some x.1) r
def Seg (M : Lg) (p : Option Nat) : List (Nat × Wt) → Option Nat → Prop
  | [], _ => True
  | (i, w) :: r, n => M i = some (wnode w p (hd n r)) ∧ Seg M (some i) r n
def idsOf (l : List (Nat × Wt)) : List Nat := l.map (·.1)
@[simp] theorem hd_nil (n : Option Nat) : hd n [] = n := rfl
@[simp] theorem hd_cons (n : Option Nat) (x : Nat × Wt) (r : List (Nat × Wt)) : hd n (x :: r) = some x.1 := rfl
@[simp] theorem lst_nil (n : Option Nat) : lst n [] = n := rfl
@[simp] theorem lst_cons (n : Option Nat) (x : Nat × Wt) (r : List (Nat × Wt)) : lst n (x :: r) = lst (some x.1) r := rfl
theorem Seg.congr {M M' : Lg} : ∀ {l : List (Nat × Wt)} {p n : Option Nat}, (∀ i, i ∈ idsOf l → M' i = M i) → Seg M p l n → Seg M' p l n
  | [], _, _, _, _ => trivial
  | (i, w) :: r, p, n, h, hs => ⟨by rw [h i (by simp [idsOf])]; exact hs.1, Seg.congr (fun j hj => h j (by simp [idsOf] at hj ⊢; exact .inr hj)) hs.2⟩

theorem Seg.some {M : Lg} : ∀ {l : List (Nat × Wt)} {p n : Option Nat}, Seg M p l n → ∀ i, i ∈ idsOf l → M i ≠ none
  | [], _, _, _, i, hi => by simp [idsOf] at hi
  | (j, w) :: r, p, n, hs, i, hi => by
    simp only [idsOf, List.map_cons, List.mem_cons] at hi
    rcases hi with rfl | hi
    · rw [hs.1]; simp
    · exact Seg.some hs.2 i hi

/-- a queue: who waits, in order -/
def QueueP (q : Nat) (ws : List Wt) (h : Hp) : Prop := ∃ (l : List (Nat × Wt)) (M : Lg), l.map (·.2) = ws ∧ (q :: idsOf l).Nodup ∧ ws.length ≤ 1000000 ∧
  M q = some (.raw (.cells [ptr (hd none l), ptr (lst none l), .i .i64 ws.length])) ∧ Seg M none l none ∧ (∀ b, b ∉ q :: idsOf l → M b = none) ∧ Sat M h

section
variable {L : Lg} {q : Nat} {ws : List Wt}
/-- a queue, opened -/
structure QOpen (L : Lg) (q : Nat) (l : List (Nat × Wt)) (L1 : Lg) : Prop where
  nd : (q :: idsOf l).Nodup
  root : L1 q = some (.raw (.cells [ptr (hd none l), ptr (lst none l), .i .i64 l.length]))
  seg : Seg L1 none l none
  old : ∀ b c, b ∉ q :: idsOf l → L b = some c → L1 b = some c
  new : ∀ b, b ∈ idsOf l → L b = none
theorem QOpen.shut {l : List (Nat × Wt)} {L1 : Lg} (h : QOpen L q l L1) (hl : l.length ≤ 1000000) : Sees L1 (L.put q (.abs (QueueP q (l.map (·.2))))) := by
  refine Sees.shutAt (fun b => b ∈ q :: idsOf l) (List.mem_cons_self ..) h.old ?_ (.inl ⟨_, h.root⟩) ?_
  · intro b hb hbq
    rcases List.mem_cons.1 hb with rfl | hb
    · exact absurd rfl hbq
    · exact h.new b hb
  · intro M hp hM hN hs
    refine ⟨l, M, rfl, h.nd, by simpa using hl, ?_, ?_, hN, hs⟩
    · rw [hM q (List.mem_cons_self ..), h.root]; simp
    · exact Seg.congr (fun i hi => hM i (List.mem_cons_of_mem _ hi)) h.seg
@[simp] theorem idsOf_nil : idsOf [] = [] := rfl
theorem QOpen.put {l : List (Nat × Wt)} {L1 : Lg} (h : QOpen L q l L1) {rc : Nat} {c : LC} (h1 : rc ∉ q :: idsOf l) (h2 : L rc = none) : QOpen L q l (L1.put rc c) := by
  have h3 : ∀ b, b ∈ q :: idsOf l → (L1.put rc c) b = L1 b := fun b hb => Lg.put_ne _ _ _ (fun e => h1 (e ▸ hb))
  refine ⟨h.nd, ?_, Seg.congr (fun i hi => h3 i (List.mem_cons_of_mem _ hi)) h.seg, ?_, h.new⟩
  · rw [h3 q (List.mem_cons_self ..)]; exact h.root
  · intro b d hb hd
    have : b ≠ rc := by rintro rfl; rw [h2] at hd; cases hd
    rw [Lg.put_ne _ _ _ this]
    exact h.old b d hb hd
end
end Go.AM


/- chanq: what its functions do. -/
set_option linter.unusedVariables false
set_option linter.unusedSimpArgs false
namespace Go.AM
variable {N : Nat → Nat} {F : Nat → Option AFn}

/-- a channel -/
structure Ch where
  vals : List Int
  cap : Nat
  recvs : List Wt
  sends : List Wt
  timed : Bool
  signal : Bool
  closed : Bool
/-- one who waits no more -/
structure Wk where
  t : Int
  c : Int
  v : Int
  ok : Bool
  panic : Bool
  deriving DecidableEq
def Wk.cells (w : Wk) : List AV := [.i .i64 w.t, .i .i64 w.c, .i .i64 w.v, .b w.ok, .b w.panic]
def wkcells : List Wk → List AV
  | [] => []
  | w :: r => w.cells ++ wkcells r
def croot (rg q1 q2 : Nat) (x : Ch) : LC := .raw (.cells [.p (some (rg, 0)), .p (some (q1, 0)), .p (some (q2, 0)), .b x.timed, .b x.signal, .b x.closed])
/-- a channel, opened -/
structure COpen (L : Lg) (c : Nat) (x : Ch) (rg q1 q2 : Nat) (L1 : Lg) : Prop where
  n1 : rg ≠ c
  n2 : q1 ≠ c
  n3 : q2 ≠ c
  n4 : rg ≠ q1
  n5 : rg ≠ q2
  n6 : q1 ≠ q2
  root : L1 c = some (croot rg q1 q2 x)
  ring : L1 rg = some (.abs (RingP rg x.vals x.cap))
  rcv : L1 q1 = some (.abs (QueueP q1 x.recvs))
  snd : L1 q2 = some (.abs (QueueP q2 x.sends))
  old : ∀ b d, b ≠ c → b ≠ rg → b ≠ q1 → b ≠ q2 → L b = some d → L1 b = some d
  f1 : L rg = none
  f2 : L q1 = none
  f3 : L q2 = none
def ChanP (c : Nat) (x : Ch) (h : Hp) : Prop := ∃ (rg q1 q2 : Nat) (M : Lg), rg ≠ c ∧ q1 ≠ c ∧ q2 ≠ c ∧ rg ≠ q1 ∧ rg ≠ q2 ∧ q1 ≠ q2 ∧ M c = some (croot rg q1 q2 x) ∧ M rg = some (.abs (RingP rg x.vals x.cap)) ∧
  M q1 = some (.abs (QueueP q1 x.recvs)) ∧ M q2 = some (.abs (QueueP q2 x.sends)) ∧ (∀ b, b ≠ c → b ≠ rg → b ≠ q1 → b ≠ q2 → M b = none) ∧ Sat M h

section
variable {L L1 : Lg} {c rg q1 q2 : Nat} {x : Ch}
theorem COpen.shut (h : COpen L c x rg q1 q2 L1) : Sees L1 (L.put c (.abs (ChanP c x))) := by
  refine Sees.shutAt (fun b => b = c ∨ b = rg ∨ b = q1 ∨ b = q2) (.inl rfl) ?_ ?_ (.inl ⟨_, h.root⟩) ?_
  · intro b d hb hd
    simp only [not_or] at hb
    exact h.old b d hb.1 hb.2.1 hb.2.2.1 hb.2.2.2 hd
  · rintro b (rfl | rfl | rfl | rfl) hb
    · exact absurd rfl hb
    · exact h.f1
    · exact h.f2
    · exact h.f3
  · intro M hp hM hN hs
    refine ⟨rg, q1, q2, M, h.n1, h.n2, h.n3, h.n4, h.n5, h.n6, ?_, ?_, ?_, ?_, ?_, hs⟩
    · rw [hM c (.inl rfl)]; exact h.root
    · rw [hM rg (.inr (.inl rfl))]; exact h.ring
    · rw [hM q1 (.inr (.inr (.inl rfl)))]; exact h.rcv
    · rw [hM q2 (.inr (.inr (.inr rfl)))]; exact h.snd
    · intro b b1 b2 b3 b4; exact hN b (by simp [b1, b2, b3, b4])
theorem COpen.ext (h : COpen L c x rg q1 q2 L1) {L2 : Lg} (h2 : Ext2 L1 L2) : COpen L c x rg q1 q2 L2 :=
  ⟨h.n1, h.n2, h.n3, h.n4, h.n5, h.n6, h2 _ _ h.root, h2 _ _ h.ring, h2 _ _ h.rcv, h2 _ _ h.snd, fun b d b1 b2 b3 b4 hd => h2 _ _ (h.old b d b1 b2 b3 b4 hd), h.f1, h.f2, h.f3⟩
theorem COpen.back (h : COpen L c x rg q1 q2 L1) (e : L c = some (.abs (ChanP c x))) : Sees L1 L := by
  have := h.shut
  rwa [Lg.put_self L c _ e] at this
theorem COpen.none (h : COpen L c x rg q1 q2 L1) {b : Nat} (hb : L1 b = none) : b ≠ c ∧ L b = none := by
  have nb : ∀ {r : Nat} {k : LC}, L1 r = some k → b ≠ r := fun hr hrb => by rw [← hrb, hb] at hr; cases hr
  refine ⟨nb h.root, ?_⟩
  cases e : L b with
  | none => rfl
  | some d => rw [h.old b d (nb h.root) (nb h.ring) (nb h.rcv) (nb h.snd) e] at hb; cases hb

def Ch.free (x : Ch) (send : Bool) : Bool := if send = true then decide (x.vals.length < x.cap) else decide (0 < x.vals.length)
/-- what a value that is put makes of a channel: who is woken; whether it was kept -/
def Ch.put (x : Ch) (v : Int) : Ch × List Wk × Bool :=
  if x.timed = true then match x.recvs with
    | w :: ws => ({ x with recvs := ws }, [⟨w.t, w.c, v, true, false⟩], true)
    | [] => if x.vals.length = x.cap then (x, [], false) else ({ x with vals := x.vals ++ [v] }, [], true)
  else (x, [], false)
theorem FreshSl.ext {v : AV} {cs : List AV} {n size : Nat} {L' : Lg} (h : FreshSl L v cs n size L') : Ext2 L L' := by
  rcases h with ⟨h1, h2, rfl, rfl⟩ | ⟨b, ex, h1, h2, rfl, h3, rfl⟩
  · exact Ext2.refl _
  · exact (Ext2.refl _).put h1 _
end
end Go.AM


/- maps from whole numbers to whole numbers, as the code's memory holds them. -/
set_option linter.unusedVariables false
set_option linter.unusedSimpArgs false
namespace Go.AM

def enc (ks : List (Int × Int)) : List (AV × AV) := ks.map fun x => (.i .i64 x.1, .i .i64 x.2)
def look1 (k : Int) : List (Int × Int) → Option Int
  | [] => none
  | (a, v) :: r => if a = k then some v else look1 k r
def set1 (k v : Int) : List (Int × Int) → List (Int × Int)
  | [] => [(k, v)]
  | (a, u) :: r => if a = k then (a, v) :: r else (a, u) :: set1 k v r
def del1 (k : Int) : List (Int × Int) → List (Int × Int)
  | [] => []
  | (a, u) :: r => if a = k then r else (a, u) :: del1 k r
theorem set1_cons (k v a u : Int) (r : List (Int × Int)) : set1 k v ((a, u) :: r) = if a = k then (a, v) :: r else (a, u) :: set1 k v r := rfl
theorem del1_cons (k a u : Int) (r : List (Int × Int)) : del1 k ((a, u) :: r) = if a = k then r else (a, u) :: del1 k r := rfl
theorem kEq64 : kEq .i64 .i64 = true := rfl
theorem iEq_dec (a b : Int) : iEq a b = decide (a = b) := by rw [iEq_eq, beq_dec]
theorem msetL_enc (k v : Int) : ∀ ks, msetL .i64 k (.i .i64 v) (enc ks) = some (enc (set1 k v ks))
  | [] => rfl
  | (a, u) :: r => by
    show (bif kEq .i64 .i64 then (bif iEq k a then some ((AV.i .i64 a, AV.i .i64 v) :: enc r) else (msetL .i64 k (.i .i64 v) (enc r)).map ((AV.i .i64 a, AV.i .i64 u) :: ·)) else none) = _
    rw [kEq64, cond_true, msetL_enc k v r, iEq_dec]
    rw [set1_cons]
    by_cases h : a = k
    · simp [h, enc]
    · simp [h, Ne.symm h, enc]
theorem mdelL_enc (k : Int) : ∀ ks, mdelL .i64 k (enc ks) = some (enc (del1 k ks))
  | [] => rfl
  | (a, u) :: r => by
    show (bif kEq .i64 .i64 then (bif iEq k a then some (enc r) else (mdelL .i64 k (enc r)).map ((AV.i .i64 a, AV.i .i64 u) :: ·)) else none) = _
    rw [kEq64, cond_true, mdelL_enc k r, iEq_dec]
    rw [del1_cons]
    by_cases h : a = k
    · simp [h]
    · simp [h, Ne.symm h, enc]
theorem look1_set1 (k v j : Int) : ∀ ks, look1 j (set1 k v ks) = if k = j then some v else look1 j ks
  | [] => by simp [set1, look1]
  | (a, u) :: r => by
    rw [set1_cons]
    by_cases h : a = k
    · subst h; by_cases h2 : a = j <;> simp [look1, h2]
    · simp only [h, if_false, look1, look1_set1 k v j r]
      by_cases h2 : a = j
      · subst h2; simp [Ne.symm h]
      · simp [h2]
theorem look1_none (j : Int) : ∀ (ks : List (Int × Int)), j ∉ ks.map (·.1) → look1 j ks = none
  | [], _ => rfl
  | (a, u) :: r, h => by
    simp at h
    simp [look1, Ne.symm h.1, look1_none j r (by simpa using h.2)]
theorem set1_keys (k v : Int) : ∀ (ks : List (Int × Int)), (set1 k v ks).map (·.1) = if k ∈ ks.map (·.1) then ks.map (·.1) else ks.map (·.1) ++ [k]
  | [] => rfl
  | (a, u) :: r => by
    rw [set1_cons]
    by_cases h : a = k
    · simp [h]
    · simp only [h, if_false, List.map_cons, set1_keys k v r, List.mem_cons, Ne.symm h, false_or]
      split <;> simp
theorem del1_sub (k : Int) : ∀ (ks : List (Int × Int)), (del1 k ks).map (·.1) |>.Sublist (ks.map (·.1))
  | [] => List.Sublist.refl _
  | (a, u) :: r => by
    rw [del1_cons]
    by_cases h : a = k
    · simp [h]
    · simp only [h, if_false, List.map_cons]; exact (del1_sub k r).cons_cons _
theorem look1_del1 (k j : Int) : ∀ (ks : List (Int × Int)), (ks.map (·.1)).Nodup → look1 j (del1 k ks) = if k = j then none else look1 j ks
  | [], _ => by simp [del1, look1]
  | (a, u) :: r, h => by
    simp only [List.map_cons, List.nodup_cons] at h
    rw [del1_cons]
    by_cases h1 : a = k
    · subst h1
      by_cases h2 : a = j
      · subst h2; simp [look1_none a r h.1]
      · simp [look1, h2]
    · simp only [h1, if_false, look1, look1_del1 k j r h.2]
      by_cases h2 : a = j
      · subst h2; simp [Ne.symm h1]
      · simp [h2]
/-- a map's entries, and what they say -/
def MapI (es : List (AV × AV)) (f : Int → Option Int) : Prop := ∃ ks, es = enc ks ∧ (ks.map (·.1)).Nodup ∧ ∀ k, look1 k ks = f k
def updI (f : Int → Option Int) (k : Int) (v : Option Int) : Int → Option Int := fun j => if k = j then v else f j
theorem MapI.set {es : List (AV × AV)} {f : Int → Option Int} (h : MapI es f) (k v : Int) : ∃ es', msetL .i64 k (.i .i64 v) es = some es' ∧ MapI es' (updI f k (some v)) := by
  obtain ⟨ks, rfl, h1, h2⟩ := h
  refine ⟨_, msetL_enc k v ks, set1 k v ks, rfl, ?_, fun j => by rw [look1_set1, h2]; rfl⟩
  rw [set1_keys]
  split
  · exact h1
  · rename_i h3
    rw [List.nodup_append]
    exact ⟨h1, by simp, fun a ha b hb hab => by simp at hb; subst hb; subst hab; exact h3 ha⟩
theorem MapI.del {es : List (AV × AV)} {f : Int → Option Int} (h : MapI es f) (k : Int) : ∃ es', mdelL .i64 k es = some es' ∧ MapI es' (updI f k none) := by
  obtain ⟨ks, rfl, h1, h2⟩ := h
  exact ⟨_, mdelL_enc k ks, del1 k ks, rfl, (del1_sub k ks).nodup h1, fun j => by rw [look1_del1 k j ks h1, h2]; rfl⟩
end Go.AM


/- heap: items, the order, what is ahead. -/
set_option linter.unusedVariables false
set_option linter.unusedSimpArgs false
namespace Go.AM
variable {N : Nat → Nat} {F : Nat → Option AFn}

/-- an item -/
structure It where
  id : Int
  w : Int
  s : Int
  deriving DecidableEq
def It.cells (x : It) : List AV := [.i .i64 x.id, .i .i64 x.w, .i .i64 x.s]
def It.av (x : It) : AV := .agg x.cells
def It.zero : It := ⟨0, 0, 0⟩
def icells : List It → List AV
  | [] => []
  | x :: r => x.cells ++ icells r
def It.lt (a b : It) : Prop := a.w < b.w ∨ (a.w = b.w ∧ a.s < b.s)
instance (a b : It) : Decidable (a.lt b) := by unfold It.lt; exact inferInstance
theorem It.lt_irrefl (a : It) : ¬ a.lt a := by unfold It.lt; omega
theorem It.lt_asymm {a b : It} (h : a.lt b) : ¬ b.lt a := by unfold It.lt at *; omega
theorem It.lt_trans {a b c : It} (h : a.lt b) (k : b.lt c) : a.lt c := by unfold It.lt at *; omega
theorem It.ge_trans {a b c : It} (h : ¬ a.lt b) (k : ¬ b.lt c) : ¬ a.lt c := by unfold It.lt at *; omega
section
variable {L : Lg}
end
end Go.AM


/- heap: rows that are heaps; in plain Lean. -/
set_option linter.unusedVariables false
set_option linter.unusedSimpArgs false
namespace Go.AM

def par (i : Nat) : Nat := (i - 1) / 4
def gA (A : List It) (j : Nat) : It := A.getD j It.zero
theorem par_lt {j : Nat} (h : 0 < j) : par j < j := by unfold par; omega
theorem gA_set {A : List It} {i j : Nat} {x : It} (h : i < A.length) : gA (A.set i x) j = if i = j then x else gA A j := by
  unfold gA
  simp only [List.getD_eq_getElem?_getD, List.getElem?_set]
  by_cases hij : i = j
  · subst hij; simp [h]
  · simp [hij]
/-- all edges but those at i -/
def Exx (A : List It) (i : Nat) : Prop := (∀ j, 0 < j → j < A.length → j ≠ i → par j ≠ i → ¬ (gA A j).lt (gA A (par j))) ∧ ∀ j, 0 < j → j < A.length → par j = i → 0 < i → ¬ (gA A j).lt (gA A (par i))
/-- all edges but the one above i -/
def Up (A : List It) (i : Nat) : Prop := (∀ j, 0 < j → j < A.length → j ≠ i → ¬ (gA A j).lt (gA A (par j))) ∧ ∀ j, 0 < j → j < A.length → par j = i → 0 < i → ¬ (gA A j).lt (gA A (par i))
/-- all edges but those below i -/
def Dn (A : List It) (i : Nat) : Prop := (∀ j, 0 < j → j < A.length → par j ≠ i → ¬ (gA A j).lt (gA A (par j))) ∧ ∀ j, 0 < j → j < A.length → par j = i → 0 < i → ¬ (gA A j).lt (gA A (par i))
def HeapA (A : List It) : Prop := ∀ j, 0 < j → j < A.length → ¬ (gA A j).lt (gA A (par j))
def swap (A : List It) (i p : Nat) : List It := (A.set i (gA A p)).set p (gA A i)
theorem swap_length (A : List It) (i p : Nat) : (swap A i p).length = A.length := by simp [swap]
theorem gA_swap {A : List It} {i p : Nat} (hi : i < A.length) (hp : p < A.length) (j : Nat) : gA (swap A i p) j = if p = j then gA A i else if i = j then gA A p else gA A j := by
  unfold swap
  rw [gA_set (by simpa using hp), gA_set hi]
theorem Exx.up {A : List It} {i : Nat} (h : Exx A i) (hi : 0 < i) (hl : (gA A i).lt (gA A (par i))) : Up A i := by
  refine ⟨fun j h0 hj hji => ?_, h.2⟩
  by_cases hp : par j = i
  · rw [hp]
    have := h.2 j h0 hj hp hi
    exact fun h3 => this (It.lt_trans h3 hl)
  · exact h.1 j h0 hj hji hp
theorem Up.heap {A : List It} {i : Nat} (h : Up A i) (hi : i = 0 ∨ ¬ (gA A i).lt (gA A (par i))) : HeapA A := by
  intro j h0 hj
  by_cases h1 : j = i
  · subst h1
    rcases hi with h2 | h2
    · omega
    · exact h2
  · exact h.1 j h0 hj h1
theorem Dn.heap {A : List It} {i : Nat} (h : Dn A i) (hc : ∀ j, 0 < j → j < A.length → par j = i → ¬ (gA A j).lt (gA A i)) : HeapA A := by
  intro j h0 hj
  by_cases h1 : par j = i
  · rw [h1]; exact hc j h0 hj h1
  · exact h.1 j h0 hj h1
theorem HeapA.root {A : List It} (h : HeapA A) : ∀ j, j < A.length → ¬ (gA A j).lt (gA A 0) := by
  intro j
  induction j using Nat.strongRecOn with
  | ind j ih =>
    intro hj
    by_cases h0 : j = 0
    · subst h0; exact It.lt_irrefl _
    · have := par_lt (show 0 < j by omega)
      exact It.ge_trans (h j (by omega) hj) (ih _ this (by omega))
/-! ### who stands where -/
def Ids (A : List It) : Prop := ∀ j k, j < A.length → k < A.length → (gA A j).id = (gA A k).id → j = k
def Cons (A : List It) (mp : Int → Option Int) : Prop := Ids A ∧ (∀ j, j < A.length → mp (gA A j).id = some (j : Int)) ∧ ∀ k v, mp k = some v → ∃ j, j < A.length ∧ v = (j : Int) ∧ (gA A j).id = k
theorem Ids.swap {A : List It} (h : Ids A) {i p : Nat} (hi : i < A.length) (hp : p < A.length) : Ids (swap A i p) := by
  have key : ∀ j, gA (Go.AM.swap A i p) j = gA A (if p = j then i else if i = j then p else j) := by
    intro j
    rw [gA_swap hi hp]
    split
    · rfl
    · split <;> rfl
  intro j k hj hk
  rw [swap_length] at hj hk
  rw [key, key]
  intro e
  have := h _ _ (by split; exact hi; split; exact hp; exact hj) (by split; exact hi; split; exact hp; exact hk) e
  split at this <;> split at this <;> (try split at this) <;> (try split at this) <;> omega
end Go.AM


/- heap: put, up, down. -/
set_option linter.unusedVariables false
set_option linter.unusedSimpArgs false
namespace Go.AM
variable {N : Nat → Nat} {F : Nat → Option AFn}

def HSl (L : Lg) (h mb : Nat) (its : List It) (sv : AV) (K : Lg) : Prop :=
  (its = [] ∧ sv = .sl none 0 0 0) ∨ ∃ b cap sp, sv = .sl (some (b, 0)) its.length cap 3 ∧ K b = some (.raw (.cells (icells its ++ sp))) ∧ sp.length + its.length * 3 = cap * 3 ∧ b ≠ h ∧ b ≠ mb ∧ L b = none
/-- a heap, opened: its row, where each stands, and the count -/
def HOpen (L : Lg) (h : Nat) (its : List It) (mp : Int → Option Int) (seq : Int) (K : Lg) : Prop :=
  ∃ (sv : AV) (mb : Nat) (es : List (AV × AV)), K h = some (.raw (.cells [sv, .m (some mb), .i .i64 seq])) ∧ K mb = some (.raw (.map es)) ∧ MapI es mp ∧ mb ≠ h ∧ L mb = none ∧ HSl L h mb its sv K ∧
    ∀ r d, r ≠ h → L r = some d → K r = some d

section
variable {L K : Lg} {h : Nat} {its : List It} {mp : Int → Option Int} {seq : Int}
theorem HOpen.ext (ho : HOpen L h its mp seq K) {K' : Lg} (e : Ext2 K K') : HOpen L h its mp seq K' := by
  obtain ⟨sv, mb, es, h1, h2, h3, h4, h5, h6, h7⟩ := ho
  refine ⟨sv, mb, es, e _ _ h1, e _ _ h2, h3, h4, h5, ?_, fun r d hr hd => e _ _ (h7 r d hr hd)⟩
  rcases h6 with h6 | ⟨b, cap, sp, a1, a2, a3⟩
  · exact .inl h6
  · exact .inr ⟨b, cap, sp, a1, e _ _ a2, a3⟩
theorem HOpen.ne (ho : HOpen L h its mp seq K) {r : Nat} (hr : K r = none) : r ≠ h ∧ L r = none := by
  obtain ⟨sv, mb, es, h1, h2, h3, h4, h5, h6, h7⟩ := ho
  have n : r ≠ h := by rintro rfl; rw [h1] at hr; cases hr
  refine ⟨n, ?_⟩
  cases e : L r with
  | none => rfl
  | some d => rw [h7 r d n e] at hr; cases hr
theorem HOpen.old (ho : HOpen L h its mp seq K) {r : Nat} {d : LC} (hr : r ≠ h) (hd : L r = some d) : K r = some d := by
  obtain ⟨sv, mb, es, h1, h2, h3, h4, h5, h6, h7⟩ := ho
  exact h7 r d hr hd

end
end Go.AM


/- heap: add, remove, find, min, pop. -/
set_option linter.unusedVariables false
set_option linter.unusedSimpArgs false
namespace Go.AM
variable {N : Nat → Nat} {F : Nat → Option AFn}

/-! ### rows in order -/
def ins (x : It) : List It → List It
  | [] => [x]
  | y :: r => if x.lt y then x :: y :: r else y :: ins x r
theorem ins_perm (x : It) : ∀ l, (ins x l).Perm (x :: l)
  | [] => List.Perm.refl _
  | y :: r => by
    unfold ins
    split
    · exact List.Perm.refl _
    · exact ((ins_perm x r).cons y).trans (List.Perm.swap x y r)
theorem ins_sorted {x : It} : ∀ {l : List It}, l.Pairwise It.lt → (∀ y, y ∈ l → x.s ≠ y.s) → (ins x l).Pairwise It.lt
  | [], _, _ => by simp [ins]
  | y :: r, h, hx => by
    rw [List.pairwise_cons] at h
    unfold ins
    split
    · rename_i hlt
      rw [List.pairwise_cons]
      refine ⟨fun z hz => ?_, List.pairwise_cons.2 h⟩
      rcases List.mem_cons.1 hz with rfl | hz
      · exact hlt
      · exact It.lt_trans hlt (h.1 z hz)
    · rename_i hlt
      have hyx : y.lt x := by
        have := hx y (by simp)
        unfold It.lt at *
        omega
      rw [List.pairwise_cons]
      refine ⟨fun z hz => ?_, ins_sorted h.2 (fun z hz => hx z (by simp [hz]))⟩
      rcases List.mem_cons.1 ((ins_perm x r).mem_iff.1 hz) with rfl | hz
      · exact hyx
      · exact h.1 z hz
def rmId (id : Int) (l : List It) : List It := l.filter fun y => !decide (y.id = id)
/-- a heap: its items in order, and the count -/
def HeapP (h : Nat) (l : List It) (seq : Int) (hp : Hp) : Prop := ∃ its mp M, HOpen Lg.nil h its mp seq M ∧ Cons its mp ∧ HeapA its ∧ its.Perm l ∧ Sat M hp

section
variable {L K : Lg} {h : Nat} {its l : List It} {mp : Int → Option Int} {seq : Int}
theorem HOpen.shut (ho : HOpen L h its mp seq K) (hc : Cons its mp) (hh : HeapA its) (hp : its.Perm l) : Sees K (L.put h (.abs (HeapP h l seq))) := by
  obtain ⟨sv, mb, es, h1, h2, h3, h4, h5, h6, h7⟩ := ho
  rcases h6 with ⟨rfl, rfl⟩ | ⟨b, cap, sp, rfl, a2, a3, a4, a5, a6⟩
  · refine Sees.shutAt (fun r => r = h ∨ r = mb) (.inl rfl) ?_ ?_ (.inl ⟨_, h1⟩) ?_
    · intro r d hr hd; simp only [not_or] at hr; exact h7 r d hr.1 hd
    · rintro r (rfl | rfl) hr
      · exact absurd rfl hr
      · exact h5
    · intro M hm hM hN hs
      refine ⟨[], mp, M, ⟨_, mb, es, by rw [hM h (.inl rfl)]; exact h1, by rw [hM mb (.inr rfl)]; exact h2, h3, h4, rfl, .inl ⟨rfl, rfl⟩, fun r d _ hd => by cases hd⟩, hc, hh, hp, hs⟩
  · refine Sees.shutAt (fun r => r = h ∨ r = mb ∨ r = b) (.inl rfl) ?_ ?_ (.inl ⟨_, h1⟩) ?_
    · intro r d hr hd; simp only [not_or] at hr; exact h7 r d hr.1 hd
    · rintro r (rfl | rfl | rfl) hr
      · exact absurd rfl hr
      · exact h5
      · exact a6
    · intro M hm hM hN hs
      refine ⟨its, mp, M, ⟨_, mb, es, by rw [hM h (.inl rfl)]; exact h1, by rw [hM mb (.inr (.inl rfl))]; exact h2, h3, h4, rfl, .inr ⟨b, cap, sp, rfl, by rw [hM b (.inr (.inr rfl))]; exact a2, a3, a4, a5, rfl⟩, fun r d _ hd => by cases hd⟩, hc, hh, hp, hs⟩
theorem HOpen.back (ho : HOpen L h its mp seq K) (hc : Cons its mp) (hh : HeapA its) (hp : its.Perm l) (e : L h = some (.abs (HeapP h l seq))) : Sees K L := by
  have := ho.shut hc hh hp
  rwa [Lg.put_self L h _ e] at this
end
end Go.AM


/- heap: remove, pop. -/
set_option linter.unusedVariables false
set_option linter.unusedSimpArgs false
namespace Go.AM
variable {N : Nat → Nat} {F : Nat → Option AFn}

theorem slc_hi {s r o len cap ex m : Nat} {j : IntKind} (h1 : m ≤ cap) (h2 : ex = 0 ∨ ex = s) : slcV s false true false [.sl (some (r, o)) len cap ex, .i j (m : Int)] = some (.sl (some (r, o)) m cap ex) := by
  show (bif Nat.ble 0 m && Nat.ble m cap && Nat.ble cap cap && (Nat.beq ex 0 || Nat.beq ex s) then _ else _) = _
  have : (Nat.beq ex 0 || Nat.beq ex s) = true := by rcases h2 with rfl | rfl <;> simp [beq_nat]
  simp [ble_nat, h1, this]
section
variable {L L0 K : Lg} {h : Nat} {its l : List It} {mp : Int → Option Int} {seq : Int}
theorem HOpen.sub (ho : HOpen L0 h its mp seq K) (hs : ∀ r d, r ≠ h → L r = some d → L0 r = some d) : HOpen L h its mp seq K := by
  obtain ⟨sv, mb, es, h1, h2, h3, h4, h5, h6, h7⟩ := ho
  have hn : ∀ r, r ≠ h → L0 r = none → L r = none := by
    intro r hr h0
    cases e : L r with
    | none => rfl
    | some d => rw [hs r d hr e] at h0; cases h0
  refine ⟨sv, mb, es, h1, h2, h3, h4, hn mb h4 h5, ?_, fun r d hr hd => h7 r d hr (hs r d hr hd)⟩
  rcases h6 with h6 | ⟨b, cap, sp, a1, a2, a3, a4, a5, a6⟩
  · exact .inl h6
  · exact .inr ⟨b, cap, sp, a1, a2, a3, a4, a5, hn b a4 a6⟩
/-! ### one less -/
end
end Go.AM


/- expire: what its functions do. -/
set_option linter.unusedVariables false
set_option linter.unusedSimpArgs false
namespace Go.AM
variable {N : Nat → Nat} {F : Nat → Option AFn}

/-- what will be due: in order; the count; the periods -/
structure Xs where
  l : List It
  seq : Int
  pf : Int → Option Int
structure Xs.ok (x : Xs) (n : Nat) : Prop where
  sorted : x.l.Pairwise It.lt
  len : x.l.length ≤ n
  below : ∀ y, y ∈ x.l → y.s ≤ x.seq
  pos : 0 ≤ x.seq
def Xs.stop (x : Xs) (id : Int) : Xs := { x with l := rmId id x.l, pf := updI x.pf id none }
def Xs.armed (x : Xs) (id when period : Int) : Xs := { l := ins ⟨id, when, x.seq + 1⟩ (rmId id x.l), seq := x.seq + 1, pf := updI (updI x.pf id none) id (some period) }
def badT (a b : Int) : Bool := decide (min a b < 0) || decide (4611686018427387904 < max a b)
def Xs.arm (x : Xs) (id when period : Int) : Xs × Int := if badT when period = true then (x, 1) else (x.armed id when period, 0)
def Xs.next (x : Xs) : Int × Bool := match x.l.head? with
  | some y => (y.w, true)
  | none => (0, false)
def Xs.take (x : Xs) (now : Int) : Xs × (Int × Int × Int) × Bool := match x.l.head? with
  | none => (x, (0, 0, 0), false)
  | some y => if now < 0 ∨ now < y.w then (x, (0, 0, 0), false) else
    let p := (x.pf y.id).getD 0
    let z : Xs := x.stop y.id
    let c := clockNext y.w p now
    (if c.2 = 0 ∧ now < c.1 then (z.arm y.id c.1 p).1 else z, (y.id, y.w, now), true)
def TmP (t : Nat) (x : Xs) (hp : Hp) : Prop := ∃ (h pm : Nat) (es : List (AV × AV)) (M : Lg), M t = some (.raw (.cells [.p (some (h, 0)), .m (some pm)])) ∧ M h = some (.abs (HeapP h x.l x.seq)) ∧ M pm = some (.raw (.map es)) ∧ MapI es x.pf ∧ h ≠ t ∧ pm ≠ t ∧ pm ≠ h ∧ Sat M hp
structure XOpen (L : Lg) (t : Nat) (x : Xs) (h pm : Nat) (K : Lg) : Prop where
  root : K t = some (.raw (.cells [.p (some (h, 0)), .m (some pm)]))
  heap : K h = some (.abs (HeapP h x.l x.seq))
  per : ∃ es, K pm = some (.raw (.map es)) ∧ MapI es x.pf
  n1 : h ≠ t
  n2 : pm ≠ t
  n3 : pm ≠ h
  f1 : L h = none
  f2 : L pm = none
  old : ∀ r d, r ≠ t → L r = some d → K r = some d

section
variable {L L0 K : Lg} {t h pm : Nat} {x : Xs}
theorem XOpen.shut (o : XOpen L t x h pm K) : Sees K (L.put t (.abs (TmP t x))) := by
  obtain ⟨es, e1, e2⟩ := o.per
  refine Sees.shutAt (fun r => r = t ∨ r = h ∨ r = pm) (.inl rfl) ?_ ?_ (.inl ⟨_, o.root⟩) ?_
  · intro r d hr hd; simp only [not_or] at hr; exact o.old r d hr.1 hd
  · rintro r (rfl | rfl | rfl) hr
    · exact absurd rfl hr
    · exact o.f1
    · exact o.f2
  · intro M hm hM hN hs
    exact ⟨h, pm, es, M, by rw [hM t (.inl rfl)]; exact o.root, by rw [hM h (.inr (.inl rfl))]; exact o.heap, by rw [hM pm (.inr (.inr rfl))]; exact e1, e2, o.n1, o.n2, o.n3, hs⟩
theorem XOpen.ne (o : XOpen L t x h pm K) {r : Nat} (hr : K r = none) : r ≠ t ∧ L r = none := by
  have n : r ≠ t := by rintro rfl; rw [o.root] at hr; cases hr
  refine ⟨n, ?_⟩
  cases e : L r with
  | none => rfl
  | some d => rw [o.old r d n e] at hr; cases hr
theorem XOpen.sub (o : XOpen L0 t x h pm K) (hs : ∀ r d, r ≠ t → L r = some d → L0 r = some d) : XOpen L t x h pm K := by
  have hn : ∀ r, r ≠ t → L0 r = none → L r = none := by
    intro r hr h0
    cases e : L r with
    | none => rfl
    | some d => rw [hs r d hr e] at h0; cases h0
  exact ⟨o.root, o.heap, o.per, o.n1, o.n2, o.n3, hn h o.n1 o.f1, hn pm o.n2 o.f2, fun r d hr hd => o.old r d hr (hs r d hr hd)⟩
theorem XOpen.back (o : XOpen L t x h pm K) (e : L t = some (.abs (TmP t x))) : Sees K L := by
  have := o.shut
  rwa [Lg.put_self L t _ e] at this

end
end Go.AM


/- The code of functions, with names for their numbers, and what is left of its weakest preconditions. PRINTED by our printgen.py. -/
set_option linter.unusedVariables false
set_option maxRecDepth 100000
namespace Go.AM
end Go.AM

/- timer: the set of timers, opened; small functions. -/
set_option linter.unusedVariables false
set_option linter.unusedSimpArgs false
namespace Go.AM
variable {N : Nat → Nat} {F : Nat → Option AFn}

section
variable {L : Lg} {t : Nat} {x : Xs}
end

/-- a timer -/
structure On where
  kind : Int
  data : Int
  c : Option Nat
  gen : Int
def On.cells (o : On) : List AV := [.i .i64 o.kind, .i .i64 o.data, ptr o.c, .i .i64 o.gen]
def ocells : List On → List AV
  | [] => []
  | o :: r => o.cells ++ ocells r
/-- timers: each; what will be due; how many have names -/
structure Tms where
  ones : List On
  x : Xs
  named : Int
def SSl (L : Lg) (s t : Nat) (ones : List On) (sv : AV) (K : Lg) : Prop :=
  (ones = [] ∧ sv = .sl none 0 0 0) ∨ ∃ b, sv = .sl (some (b, 0)) ones.length ones.length 4 ∧ K b = some (.raw (.cells (ocells ones))) ∧ b ≠ s ∧ b ≠ t ∧ L b = none ∧ 0 < ones.length
def SOpen (L : Lg) (s : Nat) (σ : Tms) (t : Nat) (K : Lg) : Prop :=
  ∃ sv, K s = some (.raw (.cells [sv, .p (some (t, 0)), .i .i64 σ.named])) ∧ K t = some (.abs (TmP t σ.x)) ∧ t ≠ s ∧ L t = none ∧ SSl L s t σ.ones sv K ∧ ∀ r d, r ≠ s → L r = some d → K r = some d
def SetP (s : Nat) (σ : Tms) (hp : Hp) : Prop := ∃ t M, SOpen Lg.nil s σ t M ∧ Sat M hp
section
variable {L L0 K : Lg} {s t : Nat} {σ : Tms}
theorem SOpen.shut (o : SOpen L s σ t K) : Sees K (L.put s (.abs (SetP s σ))) := by
  obtain ⟨sv, h1, h2, h3, h4, h5, h6⟩ := o
  rcases h5 with ⟨g1, rfl⟩ | ⟨b, rfl, a2, a3, a4, a5, a6⟩
  · refine Sees.shutAt (fun r => r = s ∨ r = t) (.inl rfl) ?_ ?_ (.inl ⟨_, h1⟩) ?_
    · intro r d hr hd; simp only [not_or] at hr; exact h6 r d hr.1 hd
    · rintro r (rfl | rfl) hr
      · exact absurd rfl hr
      · exact h4
    · intro M hm hM hN hs
      exact ⟨t, M, ⟨_, by rw [hM s (.inl rfl)]; exact h1, by rw [hM t (.inr rfl)]; exact h2, h3, rfl, .inl ⟨g1, rfl⟩, fun r d _ hd => by cases hd⟩, hs⟩
  · refine Sees.shutAt (fun r => r = s ∨ r = t ∨ r = b) (.inl rfl) ?_ ?_ (.inl ⟨_, h1⟩) ?_
    · intro r d hr hd; simp only [not_or] at hr; exact h6 r d hr.1 hd
    · rintro r (rfl | rfl | rfl) hr
      · exact absurd rfl hr
      · exact h4
      · exact a5
    · intro M hm hM hN hs
      exact ⟨t, M, ⟨_, by rw [hM s (.inl rfl)]; exact h1, by rw [hM t (.inr (.inl rfl))]; exact h2, h3, rfl, .inr ⟨b, rfl, by rw [hM b (.inr (.inr rfl))]; exact a2, a3, a4, rfl, a6⟩, fun r d _ hd => by cases hd⟩, hs⟩
theorem SOpen.back (o : SOpen L s σ t K) (e : L s = some (.abs (SetP s σ))) : Sees K L := by
  have := o.shut
  rwa [Lg.put_self L s _ e] at this
theorem SOpen.ne (o : SOpen L s σ t K) {r : Nat} (hr : K r = none) : r ≠ s ∧ L r = none := by
  obtain ⟨sv, h1, h2, h3, h4, h5, h6⟩ := o
  have n : r ≠ s := by rintro rfl; rw [h1] at hr; cases hr
  refine ⟨n, ?_⟩
  cases e : L r with
  | none => rfl
  | some d => rw [h6 r d n e] at hr; cases hr
theorem SOpen.old (o : SOpen L s σ t K) {r : Nat} {d : LC} (hr : r ≠ s) (hd : L r = some d) : K r = some d := by
  obtain ⟨sv, h1, h2, h3, h4, h5, h6⟩ := o
  exact h6 r d hr hd
theorem SOpen.sub (o : SOpen L0 s σ t K) (hs : ∀ r d, r ≠ s → L r = some d → L0 r = some d) : SOpen L s σ t K := by
  obtain ⟨sv, h1, h2, h3, h4, h5, h6⟩ := o
  have hn : ∀ r, r ≠ s → L0 r = none → L r = none := by
    intro r hr h0
    cases e : L r with
    | none => rfl
    | some d => rw [hs r d hr e] at h0; cases h0
  refine ⟨sv, h1, h2, h3, hn t h3 h4, ?_, fun r d hr hd => h6 r d hr (hs r d hr hd)⟩
  rcases h5 with h5 | ⟨b, a1, a2, a3, a4, a5, a6⟩
  · exact .inl h5
  · exact .inr ⟨b, a1, a2, a3, a4, hn b a3 a5, a6⟩
def Tms.has (σ : Tms) (id : Int) : Bool := decide (0 ≤ id) && decide (id < σ.ones.length)
def Tms.one (σ : Tms) (id : Int) : Option On := if σ.has id = true then σ.ones[id.toNat]? else none
end
end Go.AM


/- timer: arm, make. -/
set_option linter.unusedVariables false
set_option linter.unusedSimpArgs false
namespace Go.AM
variable {N : Nat → Nat} {F : Nat → Option AFn}

def Tms.armed (σ : Tms) (i : Nat) (w : On) (now d : Int) : Tms :=
  { σ with ones := σ.ones.set i { w with gen := w.gen + 1 }, x := (σ.x.arm i (clockAdd now (max d 0)) (if w.kind = 2 then min d 4611686018427387904 else 0)).1 }
section
variable {L K : Lg} {s t : Nat} {σ : Tms}
end
end Go.AM


/- timer: channel, Timer, Ticker, Func, Lapse, Stop, Reset. -/
set_option linter.unusedVariables false
set_option linter.unusedSimpArgs false
namespace Go.AM
variable {N : Nat → Nat} {F : Nat → Option AFn}

theorem CallL.opq {f : Nat} {vs : List AV} {L : Lg} {Q0 : AV → Lg → Prop} (h : ∀ Q : AV → Lg → Prop, (∀ v L, Q0 v L → Q v L) → CallL F f vs L Q) : CallL F f vs L Q0 := h Q0 fun _ _ h => h
section
variable {L K : Lg} {s t : Nat} {σ : Tms}
def Ch.left (x : Ch) : Bool := decide (0 < x.vals.length)
end
end Go.AM


/- a row's arguments: slices that are read only. -/
set_option linter.unusedVariables false
namespace Go.AM
open Go.RowKit

/-- what stands for the arguments' memory -/
structure AR (W : World) (S : St) (β : Bt) (L : Lg) : Prop where
  mod : Mod S L
  rel : Rel β W.heap.size S.h W
  wf : S.wf
  free : ∀ k, S.nx ≤ k → β k = none
theorem AR.start (W : World) (hgn : GN ≤ W.heap.size) (hgw : GW W) : AR W S0 B0g Lg.nil := ⟨mod_S0, rel_S0 hgn hgw, wf_S0, fun k hk => if_neg (by have : GN ≤ k := hk; omega)⟩
def Bt.put (β : Bt) (n : Nat) (x : Nat × Nat × Nat) : Bt := fun m => if m = n then some x else β m
theorem AR.ext {W : World} {S : St} {β : Bt} {L : Lg} (h : AR W S β L) (x : Nat × Nat × Nat) : Ext β (Bt.put β S.nx x) := by
  intro n y e
  unfold Bt.put
  split
  · rename_i h9; subst h9; rw [h.free _ (Nat.le_refl _)] at e; cases e
  · exact e
theorem AR.slice {W : World} {S : St} {β : Bt} {L : Lg} (h : AR W S β L) {b off : Nat} {c : List AV} {cur t fr} (hb : W.heap[b]? = some (.cells cur t fr)) (hc : CellsR β c off cur) :
    AR W ⟨S.h.set S.nx (some (.ro c)), S.nx + 1⟩ (Bt.put β S.nx (b, off, 0)) (L.put S.nx (.raw (.ro c))) := by
  have he := h.ext (b, off, 0)
  have hlt : b < W.heap.size := (Array.getElem?_eq_some_iff.1 hb).1
  refine ⟨h.mod.new _, ⟨?_, ?_, h.rel.le, h.rel.gl.mono he fun _ _ => rfl⟩, ?_, ?_⟩
  · intro n bl b' o z hg hn
    rw [PM.get_set] at hg
    unfold Bt.put at hn
    split at hg
    · rename_i h9
      rw [if_pos h9] at hn
      cases hg; cases hn
      exact ⟨cur, t, fr, hb, hc.mono he⟩
    · rename_i h9
      rw [if_neg h9] at hn
      exact (h.rel.blk n bl b' o z hg hn).mono he
  · intro n m bl bm b' x y hg hm ho hn hm2
    rw [PM.get_set] at hg hm
    unfold Bt.put at hn hm2
    split at hg
    · cases hg; simp [AB.own] at ho
    · rename_i h9
      rw [if_neg h9] at hn
      have hbase := (h.rel.blk n bl b' x.1 x.2 hg hn).le ho
      split at hm
      · rename_i h8
        rw [if_pos h8] at hm2
        simp only [Option.some.injEq, Prod.mk.injEq] at hm2
        have := hm2.1
        have h3 := h.rel.lt hg hn
        have h4 := h.rel.le
        omega
      · rename_i h8
        rw [if_neg h8] at hm2
        exact h.rel.inj n m bl bm b' x y hg hm ho hn hm2
  · intro n bl hg
    rw [PM.get_set] at hg
    split at hg
    · rename_i h9; subst h9; exact Nat.lt_succ_self _
    · exact Nat.lt_succ_of_lt (h.wf n bl hg)
  · intro k hk
    have h9 : k ≠ S.nx := by have : S.nx + 1 ≤ k := hk; omega
    unfold Bt.put
    rw [if_neg h9]
    exact h.free k (by have : S.nx + 1 ≤ k := hk; omega)
/-- a name without a block -/
theorem AR.hole {W : World} {S : St} {β : Bt} {L : Lg} (h : AR W S β L) (x : Nat × Nat × Nat) : AR W ⟨S.h, S.nx + 1⟩ (Bt.put β S.nx x) L := by
  have he := h.ext x
  have hne : ∀ n bl, S.h.get n = some bl → n ≠ S.nx := fun n bl hg e => by have : n < S.nx := h.wf n bl hg; omega
  refine ⟨?_, ⟨?_, ?_, h.rel.le, h.rel.gl.mono he fun _ _ => rfl⟩, ?_, ?_⟩
  · obtain ⟨h0, hs, hb⟩ := h.mod
    exact ⟨h0, hs, fun b y e => ⟨(hb b y e).1, Nat.lt_succ_of_lt (hb b y e).2⟩⟩
  · intro n bl b' o z hg hn
    unfold Bt.put at hn
    rw [if_neg (hne n bl hg)] at hn
    exact (h.rel.blk n bl b' o z hg hn).mono he
  · intro n m bl bm b' x y hg hm ho hn hm2
    unfold Bt.put at hn hm2
    rw [if_neg (hne n bl hg)] at hn
    rw [if_neg (hne m bm hm)] at hm2
    exact h.rel.inj n m bl bm b' x y hg hm ho hn hm2
  · intro n bl hg
    exact Nat.lt_succ_of_lt (h.wf n bl hg)
  · intro k hk
    have h9 : k ≠ S.nx := by have : S.nx + 1 ≤ k := hk; omega
    unfold Bt.put
    rw [if_neg h9]
    exact h.free k (by have : S.nx + 1 ≤ k := hk; omega)
/-- a call that answers true, at a row's arguments -/
theorem AR.calls {W : World} {S : St} {β : Bt} {L : Lg} (h : AR W S β L) {P : Program} {F : Nat → Option AFn} (hm : P.follows .mixedOrders = true) (hF : TblOk P F) {f : Nat} {vs : List AV} {as : Array Value} (hv : VRs β vs as.toList)
    (hc : CallL F f vs L fun v _ => v = .b true) : Calls P f as W fun e w' => e = .returned (.bool true) ∧ Below W.heap.size W w' := by
  obtain ⟨n, v, S', h1, L', h2, rfl⟩ := hc S h.mod
  exact calls_true hm hF h1 h.wf hv h.rel (fun k h3 _ => h.free k h3)
/-- a slice's stand-in -/
def ArgSl (L : Lg) (v : AV) (cs : List AV) (n size : Nat) : Prop := cs.length = n * size ∧ ((n = 0 ∧ v = .sl none 0 0 0) ∨ ∃ b cap, v = .sl (some (b, 0)) n cap 0 ∧ L b = some (.raw (.ro cs)))
theorem ArgSl.len {F : Nat → Option AFn} {L : Lg} {a : AV} {cs : List AV} {n size : Nat} (h : ArgSl L a cs n size) (M : Lg) (k : AV → Lg → Prop) : wpOp F .lenSl [a] M k = k (.i .i64 n) M := by
  obtain ⟨_, ⟨rfl, rfl⟩ | ⟨b, cap, rfl, _⟩⟩ := h
  · simp
  · simp
theorem ArgSl.get {L : Lg} {a : AV} {cs : List AV} {n size : Nat} (h : ArgSl L a cs n size) {i : Nat} (hi : i < n) : ∃ b cap, a = .sl (some (b, 0)) n cap 0 ∧ L b = some (.raw (.ro cs)) := by
  obtain ⟨_, ⟨rfl, rfl⟩ | ⟨b, cap, rfl, e⟩⟩ := h
  · omega
  · exact ⟨b, cap, rfl, e⟩
theorem ArgSl.ext {L L' : Lg} {v : AV} {cs : List AV} {n size : Nat} (h : ArgSl L v cs n size) (e : Ext2 L L') : ArgSl L' v cs n size := by
  obtain ⟨h1, h2 | ⟨b, cap, h2, h3⟩⟩ := h
  · exact ⟨h1, .inl h2⟩
  · exact ⟨h1, .inr ⟨b, cap, h2, e b _ h3⟩⟩
def icl (l : List Int) : List AV := l.map fun n => .i .i64 n
/-- a slice of numbers among the arguments -/
theorem AR.ints {H : Type} {enc : TypeId × Value → H} {P : Program} {W : World} {S : St} {β : Bt} {L : Lg} (h : AR W S β L) {t e : TypeId} {v : Value} {d : DataW H} {ps : List MemPlace} (ht : P.underlying t = some (.slice e)) (he : P.underlying e = some (.int .i64)) (hc : P.cellsOf e = 1)
    {base : Nat} (hval : Value.okWide P W .any base t v) (hd : DataW.Trod enc P W 0 (fun _ => true) true t v d ps) :
    ∃ (l : List Int) (S' : St) (β' : Bt) (L' : Lg) (a : AV), AR W S' β' L' ∧ Ext β β' ∧ Ext2 L L' ∧ VR β' a v ∧ ArgSl L' a (icl l) l.length 1 := by
  obtain ⟨a0, len, cap, rfl⟩ := Go.WideShapes.okWide_slice ht hval
  obtain ⟨fuel, hf⟩ := hd
  have hf : DataW.trod enc P W 0 (fun _ => true) true fuel t [.slice a0 len cap] = some (d, ps) := hf
  rcases Go.ChangeShapes.open_ints ht he hc hf with ⟨h0, _⟩ | ⟨a, len', cap', zs, h0, hb, hl, hm, hz, _, hcell, hw⟩
  · cases h0
    exact ⟨[], S, β, L, _, h, Ext.refl β, Ext2.refl L, .sln, by simp [icl], .inl ⟨rfl, rfl⟩⟩
  · cases h0
    have hok : Cell.ok P W .any base t (.slice (some a) len cap) := by
      simp only [Value.okWide, ht, Cell.okWide] at hval
      exact hval
    simp only [Cell.ok, ht] at hok
    obtain ⟨_, _, _, hsp, row, cells, hsh, _⟩ := hok
    obtain ⟨ab, aoff, asp⟩ := a
    simp only at hsp
    subst hsp
    have hsh' : ∃ cur t fr, W.heap[ab]? = some (.cells cur t fr) := by
      unfold World.shape? at hsh
      split at hsh
      · rename_i cur el fr hh; exact ⟨_, _, _, hh⟩
      · cases hsh
    obtain ⟨cur, tt, fr, hh⟩ := hsh'
    have hzl : zs.length = cap := by simpa using hz
    have hcr : CellsR β (icl (zs.take len)) aoff cur := by
      intro i x hx
      unfold icl at hx
      rw [List.getElem?_map] at hx
      simp only [Option.map_eq_some_iff] at hx
      obtain ⟨n, hn, rfl⟩ := hx
      have hi : i < zs.length := by
        have := (List.getElem?_eq_some_iff.1 hn).1
        simp at this; omega
      have := hcell i hi
      refine ⟨.int .i64 n, ?_, .i _ _⟩
      rw [Go.WideShapes.add_plain] at this
      simp only [World.cell?, hh, Option.isSome_none, Bool.false_eq_true, if_false] at this
      rw [this]
      have h5 : zs[i]? = some n := by
        rw [List.getElem?_take] at hn
        split at hn
        · exact hn
        · cases hn
      simp [List.getD, h5]
    have hlen : (zs.take len).length = len := by simp; omega
    refine ⟨zs.take len, _, _, _, .sl (some (S.nx, 0)) len cap 0, h.slice hh hcr, h.ext _, ?_, ?_, ?_⟩
    · exact (Ext2.refl L).put (h.mod.fresh (Nat.le_refl _)) _
    · exact .sl (b := ab) (o := aoff) (z := 0) (by simp [Bt.put]) hl (Nat.le_refl _) (fun _ => rfl) (fun h9 => absurd rfl h9) (.inr (by simp))
    · refine ⟨by simp [icl], .inr ⟨S.nx, cap, by rw [hlen], Lg.put_same _ _ _⟩⟩
end Go.AM

/- slices of numbers of one's own, with room behind them: Index, Clone. -/
set_option linter.unusedVariables false
set_option linter.unusedSimpArgs false
namespace Go.AM
variable {N : Nat → Nat} {F : Nat → Option AFn}
/-- a slice's value, its numbers, and the block it lies in -/
def KSl (v : AV) (l : List Int) (bo : Option Nat) (K : Lg) : Prop := match bo with
  | none => v = .sl none 0 0 0 ∧ l = []
  | some b => ∃ cap sp ex, v = .sl (some (b, 0)) l.length cap ex ∧ K b = some (.raw (.cells (icl l ++ sp))) ∧ l.length + sp.length = cap ∧ (ex = 0 ∨ ex = 1)
theorem icl_length (l : List Int) : (icl l).length = l.length := by simp [icl]
theorem icl_get (l : List Int) (sp : List AV) {i : Nat} (h : i < l.length) : (icl l ++ sp)[i]? = some (.i .i64 l[i]) := by
  rw [List.getElem?_append_left (by simpa [icl] using h)]
  simp [icl, h]
theorem KSl.len {v : AV} {l : List Int} {bo : Option Nat} {L : Lg} (h : KSl v l bo L) (M : Lg) (k : AV → Lg → Prop) : wpOp F .lenSl [v] M k = k (.i .i64 l.length) M := by
  cases bo with
  | none => obtain ⟨rfl, rfl⟩ := h; simp
  | some b => obtain ⟨cap, sp, ex, rfl, _⟩ := h; simp
theorem icl_one (l : List Int) : (icl l).all AV.one = true := by
  rw [List.all_eq_true]
  intro x hx
  simp only [icl, List.mem_map] at hx
  obtain ⟨n, _, rfl⟩ := hx
  rfl
theorem KSl.cells {b cap : Nat} {l : List Int} {sp : List AV} {K : Lg} (hb : K b = some (.raw (.cells (icl l ++ sp)))) : rdCellsL K (some (b, 0)) (l.length * 1) = some (icl l) := by
  have : l.length ≤ (icl l ++ sp).length := by rw [List.length_append, icl_length]; omega
  simp only [rdCellsL, hb, AB.read, cut, ble_nat, Nat.zero_add, Nat.mul_one, this, decide_true, cond_true, List.drop_zero]
  rw [← icl_length l, List.take_left]
theorem slcL {s r o len cap ex l : Nat} (h1 : l ≤ len) (h2 : len ≤ cap) (h4 : ex = 0 ∨ ex = s) : slcV s true false false [.sl (some (r, o)) len cap ex, .i .i64 (l : Int)] = some (.sl (some (r, o + l * s)) (len - l) (cap - l) ex) := by
  show (bif Nat.ble l len && Nat.ble len cap && Nat.ble cap cap && (Nat.beq ex 0 || Nat.beq ex s) then _ else _) = _
  have : (Nat.beq ex 0 || Nat.beq ex s) = true := by rcases h4 with rfl | rfl <;> simp [beq_nat]
  simp [ble_nat, h1, h2, this]
theorem splice_app (A X vs : List AV) : splice (A ++ X) A.length vs = A ++ vs ++ X.drop vs.length := by
  unfold splice
  rw [List.take_left, ← List.drop_drop, List.drop_left]
theorem icl_snoc (l : List Int) (x : Int) : icl (l ++ [x]) = icl l ++ [AV.i .i64 x] := by simp [icl]
/-- one is put behind -/
theorem KSl.push {K : Lg} {v : AV} {l : List Int} {bo : Option Nat} (h : KSl v l bo K) (hl : l.length ≤ 1000000) {x : Int} {src : Option (Nat × Nat)} {c e : Nat} (hr : rdCellsL K src (1 * 1) = some [.i .i64 x]) {k : AV → Lg → Prop}
    (hk : ∀ w q K', KSl w (l ++ [x]) (some q) K' → (bo = some q ∨ K q = none) → (∀ r, r ≠ q → bo ≠ some r → K' r = K r) → k w K') : appW 1 8 K k [v, .sl src 1 c e] := by
  cases bo with
  | none =>
    obtain ⟨rfl, rfl⟩ := h
    refine appW_grow (m := 1) hr (by simp) (by omega) (by omega) (old := []) (by simp [rdCellsL]) (by simp [goneL]; rfl) ?_
    intro b hb
    refine hk _ b _ ⟨1, [], 1, by simp, by simp [Lg.put_apply, icl], by simp, .inr rfl⟩ (.inr hb) ?_
    intro r hr _
    rw [Lg.put_ne _ _ _ hr]
  | some b =>
    obtain ⟨cap, sp, ex, rfl, hb, hc, he⟩ := h
    by_cases hcap : l.length + 1 ≤ cap
    · have hsp : ∃ y r, sp = y :: r := by
        cases sp with
        | nil => simp at hc; omega
        | cons y r => exact ⟨y, r, rfl⟩
      obtain ⟨y, r, rfl⟩ := hsp
      have hw : wrL K (b, 0 + l.length * 1) [.i .i64 x] = some (K.put b (.raw (.cells (icl (l ++ [x]) ++ r)))) := by
        have h1 : l.length + [AV.i .i64 x].length ≤ (icl l ++ y :: r).length := by simp [icl_length]
        have h2 := splice_app (icl l) (y :: r) [.i .i64 x]
        rw [icl_length] at h2
        simp only [wrL, hb, Nat.zero_add, Nat.mul_one, h1, h2, icl_snoc]
        simp
      refine appW_room (m := 1) hr (by simp) hcap (by omega) hw ?_
      refine hk _ b _ ⟨cap, r, ex, by simp, Lg.put_same _ _ _, by simp at hc ⊢; omega, he⟩ (.inl rfl) ?_
      intro q hq _
      rw [Lg.put_ne _ _ _ hq]
    · have hsp : sp = [] := List.length_eq_zero_iff.1 (by omega)
      subst hsp
      have hg : ∃ M, goneL K (some (b, 0)) ex 1 = some M ∧ (∀ r, r ≠ b → M r = K r) := by
        rcases he with rfl | rfl
        · exact ⟨K, by simp [goneL], fun _ _ => rfl⟩
        · exact ⟨K.del b, by simp [goneL, hb], fun r hr => by rw [Lg.del_apply, if_neg hr]⟩
      obtain ⟨M, hM, hMr⟩ := hg
      refine appW_grow (m := 1) hr (by simp) hcap (by omega) (KSl.cells (cap := cap) hb) hM ?_
      intro q hq
      refine hk _ q _ ⟨l.length + 1, [], 1, by simp, by simp [Lg.put_apply, icl_snoc], by simp, .inr rfl⟩ (.inr hq) ?_
      intro r hr hbr
      rw [Lg.put_ne _ _ _ hr]
      exact hMr r (fun h9 => hbr (by rw [h9]))
end Go.AM


/- chanq: signals: Signal, End. -/
set_option linter.unusedVariables false
set_option linter.unusedSimpArgs false
namespace Go.AM
variable {N : Nat → Nat} {F : Nat → Option AFn} {L : Lg}
/-- a slice of those who wake, as it may be read -/
def SlK (L : Lg) (s : AV) (ws : List Wk) : Prop := (ws = [] ∧ s = .sl none 0 0 0) ∨ ∃ b ex, s = .sl (some (b, 0)) ws.length ws.length ex ∧ L b = some (.raw (.cells (wkcells ws)))
theorem wkcells_append : ∀ (a b : List Wk), wkcells (a ++ b) = wkcells a ++ wkcells b
  | [], _ => rfl
  | w :: r, b => by simp [wkcells, wkcells_append r b]
theorem COpen.keep {c rg q1 q2 : Nat} {x : Ch} {K K' : Lg} (h : COpen L c x rg q1 q2 K) (e : ∀ r, (r = c ∨ r = rg ∨ r = q1 ∨ r = q2 ∨ L r ≠ (Option.none : Option LC)) → K' r = K r) : COpen L c x rg q1 q2 K' :=
  ⟨h.n1, h.n2, h.n3, h.n4, h.n5, h.n6, by rw [e c (.inl rfl)]; exact h.root, by rw [e rg (.inr (.inl rfl))]; exact h.ring, by rw [e q1 (.inr (.inr (.inl rfl)))]; exact h.rcv, by rw [e q2 (.inr (.inr (.inr (.inl rfl))))]; exact h.snd,
    fun b d h1 h2 h3 h4 hd => by rw [e b (.inr (.inr (.inr (.inr (by rw [hd]; simp)))))]; exact h.old b d h1 h2 h3 h4 hd, h.f1, h.f2, h.f3⟩
section
variable {c rg q1 q2 : Nat} {x : Ch} {K : Lg} {Q : AV → Lg → Prop}
/-- a slice of wakes of one's own, apart from a channel and from what was -/
structure EI (L : Lg) (c rg q1 q2 : Nat) (x : Ch) (acc : List Wk) (v : AV) (K : Lg) : Prop where
  op : COpen L c x rg q1 q2 K
  own : OwnSl K v (wkcells acc) acc.length 5
  ap : ∀ b, slB v = some b → b ≠ c ∧ b ≠ rg ∧ b ≠ q1 ∧ b ≠ q2 ∧ L b = Option.none
theorem EI.junk {acc : List Wk} {v : AV} (h : EI L c rg q1 q2 x acc v K) {a : Nat} (ha : K a = Option.none) (z : LC) : EI L c rg q1 q2 x acc v (K.put a z) := by
  refine ⟨h.op.ext ((Ext2.refl _).put ha _), ?_, h.ap⟩
  rcases h.own with h1 | ⟨b, h1, h2, h3, h4⟩
  · exact .inl h1
  · have hn : b ≠ a := by
      rintro rfl
      rw [ha] at h3; cases h3
    exact .inr ⟨b, h1, h2, by rw [Lg.put_ne _ _ _ hn]; exact h3, h4⟩
theorem EI.push {acc : List Wk} {v : AV} (h : EI L c rg q1 q2 x acc v K) {w : Wk} {src : AV} {b1 : Nat} {ex cp : Nat} (hs : src = .sl (some (b1, 0)) 1 cp ex) (hb : K b1 = some (.raw (.cells w.cells))) (hn : acc.length ≤ 1000000) {k : AV → Lg → Prop}
    (hk : ∀ v' K', EI L c rg q1 q2 x (acc ++ [w]) v' K' → (∀ r d, K r = some d → slB v ≠ some r → K' r = some d) → (∀ b, slB v' = some b → K b = none) → k v' K') : appW 5 32 K k [v, src] := by
  have h1 : w.cells.all AV.one = true := by simp [Wk.cells]
  refine h.own.app (m := 1) (by omega) hs (by omega) (new := w.cells) (by simp [rdCellsL, hb, AB.read, cut, ble_nat, Wk.cells]) (by simp [Wk.cells]) h1 (by omega) ?_
  intro b2 hb2
  have hd : ∀ r d, K r = some d → slB v ≠ some r → ((K.delO (slB v)).put b2 (.raw (.cells (wkcells acc ++ w.cells)))) r = some d := by
    intro r d hr hne
    have n2 : r ≠ b2 := by rintro rfl; rw [hb2] at hr; cases hr
    rw [Lg.put_ne _ _ _ n2]
    cases hh : slB v with
    | none => exact hr
    | some b => rw [hh] at hne; simp only [Lg.delO]; rw [Lg.del_apply, if_neg]; exact hr; intro h9; exact hne (by rw [h9])
  have hkeep : ∀ r, (r = c ∨ r = rg ∨ r = q1 ∨ r = q2 ∨ L r ≠ (Option.none : Option LC)) → ((K.delO (slB v)).put b2 (.raw (.cells (wkcells acc ++ w.cells)))) r = K r := by
    intro r hr
    have hne : slB v ≠ some r := by
      intro h9
      have := h.ap r h9
      rcases hr with h8 | h8 | h8 | h8 | h8
      · exact this.1 h8
      · exact this.2.1 h8
      · exact this.2.2.1 h8
      · exact this.2.2.2.1 h8
      · exact h8 this.2.2.2.2
    have hex : ∃ d, K r = some d := by
      rcases hr with rfl | rfl | rfl | rfl | h8
      · exact ⟨_, h.op.root⟩
      · exact ⟨_, h.op.ring⟩
      · exact ⟨_, h.op.rcv⟩
      · exact ⟨_, h.op.snd⟩
      · cases hL : L r with
        | none => exact absurd hL h8
        | some d =>
          by_cases e1 : r = c
          · subst e1; exact ⟨_, h.op.root⟩
          by_cases e2 : r = rg
          · subst e2; exact ⟨_, h.op.ring⟩
          by_cases e3 : r = q1
          · subst e3; exact ⟨_, h.op.rcv⟩
          by_cases e4 : r = q2
          · subst e4; exact ⟨_, h.op.snd⟩
          exact ⟨d, h.op.old r d e1 e2 e3 e4 hL⟩
    obtain ⟨d, hd1⟩ := hex
    rw [hd1]; exact hd r d hd1 hne
  have hw : wkcells acc ++ w.cells = wkcells (acc ++ [w]) := by rw [wkcells_append]; simp [wkcells]
  refine hk _ _ ⟨h.op.keep hkeep, ?_, ?_⟩ hd (fun b h9 => by simp [slB] at h9; subst h9; exact hb2)
  · have := h.own.of_app (m := 1) (b := b2) (new := w.cells) (by omega) (by simp [Wk.cells])
    rw [hw] at this
    rw [hw]
    simpa using this
  · intro b hb'
    simp [slB] at hb'
    subst hb'
    have nk : ∀ {y : Nat} {k : LC}, K y = some k → b2 ≠ y := fun hx hxr => by rw [← hxr, hb2] at hx; cases hx
    exact ⟨nk h.op.root, nk h.op.ring, nk h.op.rcv, nk h.op.snd, (h.op.none hb2).2⟩
end
end Go.AM


/- a row's arguments: slices of structs of scalars. -/
set_option linter.unusedVariables false
namespace Go.AM
open Go.RowKit
theorem flat_get {X : Type} {f : X → List AV} {z : Nat} : ∀ (l : List X), (∀ x ∈ l, (f x).length = z) → ∀ (k : Nat) (v : AV), (l.flatMap f)[k]? = some v → ∃ i j x, l[i]? = some x ∧ (f x)[j]? = some v ∧ k = i * z + j
  | [], _, k, v, h => by simp at h
  | y :: r, hz, k, v, h => by
    have hy := hz y (by simp)
    rw [List.flatMap_cons] at h
    by_cases hk : k < z
    · rw [List.getElem?_append_left (by omega)] at h
      exact ⟨0, k, y, rfl, h, by omega⟩
    · rw [List.getElem?_append_right (by omega), hy] at h
      obtain ⟨i, j, x, h1, h2, h3⟩ := flat_get r (fun x hx => hz x (by simp [hx])) (k - z) v h
      exact ⟨i + 1, j, x, by simpa using h1, h2, by rw [Nat.add_mul]; omega⟩
theorem flat_len {X : Type} {f : X → List AV} {z : Nat} : ∀ (l : List X), (∀ x ∈ l, (f x).length = z) → (l.flatMap f).length = l.length * z
  | [], _ => by simp
  | y :: r, hz => by
    rw [List.flatMap_cons, List.length_append, hz y (by simp), flat_len r (fun x hx => hz x (by simp [hx])), List.length_cons, Nat.add_mul]
    omega
/-- a slice of what is open by f -/
theorem AR.rows {X : Type} [Inhabited X] (f : X → List AV) {z : Nat} {H : Type} {enc : TypeId × Value → H} {P : Program} {W : World} {S : St} {β : Bt} {L : Lg} (h : AR W S β L) {t e : TypeId} {v : Value} {d : DataW H} {ps : List MemPlace} (ht : P.underlying t = some (.slice e)) (hc : P.cellsOf e = z) (hfz : ∀ x, (f x).length = z)
    (hX : ∀ n cs y, DataW.trod enc P W 0 (fun _ => true) true n e cs = some y → ∃ x, VRs (fun _ => none) (f x) cs) {base : Nat} (hval : Value.okWide P W .any base t v) (hd : DataW.Trod enc P W 0 (fun _ => true) true t v d ps) :
    ∃ (l : List X) (S' : St) (β' : Bt) (L' : Lg) (a : AV), AR W S' β' L' ∧ Ext β β' ∧ Ext2 L L' ∧ VR β' a v ∧ ArgSl L' a (l.flatMap f) l.length z := by
  obtain ⟨a0, len, cap, rfl⟩ := Go.WideShapes.okWide_slice ht hval
  obtain ⟨fuel, hf⟩ := hd
  have hf : DataW.trod enc P W 0 (fun _ => true) true fuel t [.slice a0 len cap] = some (d, ps) := hf
  rcases DataW.trod_slice ht hf with ⟨h0, _⟩ | ⟨a, len', cap', elems, rest, n, _, h0, _, hb, hl, hm, hlen, hel, _, _⟩
  · cases h0
    exact ⟨[], S, β, L, _, h, Ext.refl β, Ext2.refl L, .sln, by simp, .inl ⟨rfl, rfl⟩⟩
  · cases h0
    have hok : Cell.ok P W .any base t (.slice (some a) len cap) := by
      simp only [Value.okWide, ht, Cell.okWide] at hval
      exact hval
    simp only [Cell.ok, ht] at hok
    obtain ⟨_, _, _, hsp, row, cells, hsh, _⟩ := hok
    obtain ⟨ab, aoff, asp⟩ := a
    simp only at hsp
    subst hsp
    have hsh' : ∃ cur t fr, W.heap[ab]? = some (.cells cur t fr) := by
      unfold World.shape? at hsh
      split at hsh
      · rename_i cur el fr hh; exact ⟨_, _, _, hh⟩
      · cases hsh
    obtain ⟨cur, tt, fr, hh⟩ := hsh'
    have hx : ∀ i, ∃ x : X, i < len → ∀ (j : Nat) (u : AV), (f x)[j]? = some u → ∃ w, cur[aoff + (i * z + j)]? = some w ∧ VR (fun _ => none) u w := by
      intro i
      by_cases hi : i < len
      · have h1 := hel i hi
        have h2 : ∃ y, elems[i]? = some y := ⟨_, List.getElem?_eq_getElem (by omega)⟩
        obtain ⟨y, hy⟩ := h2
        rw [hy, Option.bind_eq_some_iff] at h1
        obtain ⟨cs, hcs, hty⟩ := h1
        obtain ⟨x, hxv⟩ := hX _ _ _ hty
        refine ⟨x, fun _ j u hu => ?_⟩
        obtain ⟨w, hw, hr⟩ := hxv.get hu
        refine ⟨w, ?_, hr⟩
        unfold World.cells? at hcs
        rw [if_pos (by omega)] at hcs
        have hjz : j < z := by have := (List.getElem?_eq_some_iff.1 hu).1; rw [hfz] at this; exact this
        have := mapM_some_get hcs j j (by simp [hc, hjz])
        rw [hw, hc, Go.WideShapes.add_plain, Go.WideShapes.add_plain] at this
        simp only [World.cell?, hh, Option.isSome_none, Bool.false_eq_true, if_false] at this
        rw [← this, Nat.add_assoc]
      · exact ⟨default, fun h9 => absurd h9 hi⟩
    obtain ⟨g, hg⟩ := Classical.axiomOfChoice hx
    have hall : ∀ x ∈ (List.range len).map g, (f x).length = z := fun x _ => hfz x
    have hcr : CellsR β (((List.range len).map g).flatMap f) aoff cur := by
      intro k u hu
      obtain ⟨i, j, x, h1, h2, h3⟩ := flat_get _ hall k u hu
      rw [List.getElem?_map] at h1
      simp only [Option.map_eq_some_iff] at h1
      obtain ⟨i', h4, h5⟩ := h1
      have hi : i < len ∧ i' = i := by
        have h6 := List.getElem?_eq_some_iff.1 h4
        obtain ⟨h7, h8⟩ := h6
        simp at h7 h8
        exact ⟨h7, h8.symm⟩
      obtain ⟨hi, rfl⟩ := hi
      subst h5
      obtain ⟨w, hw, hr⟩ := hg i' hi j u h2
      rw [h3]
      exact ⟨w, hw, hr.mono (fun _ _ h9 => by cases h9)⟩
    have hlen2 : ((List.range len).map g).length = len := by simp
    refine ⟨(List.range len).map g, _, _, _, .sl (some (S.nx, 0)) len cap 0, h.slice hh hcr, h.ext _, ?_, ?_, ?_⟩
    · exact (Ext2.refl L).put (h.mod.fresh (Nat.le_refl _)) _
    · exact .sl (b := ab) (o := aoff) (z := 0) (by simp [Bt.put]) hl (Nat.le_refl _) (fun _ => rfl) (fun h9 => absurd rfl h9) (.inr (by simp))
    · exact ⟨flat_len _ hall, .inr ⟨S.nx, cap, by rw [hlen2], Lg.put_same _ _ _⟩⟩
/-- a struct of three numbers -/
def t3 (x : Int × Int × Int) : List AV := [.i .i64 x.1, .i .i64 x.2.1, .i .i64 x.2.2]
def tcl (l : List (Int × Int × Int)) : List AV := l.flatMap t3
theorem open_t3 {H : Type} {enc : TypeId × Value → H} {P : Program} {W : World} {e ti : TypeId} {fs : Array Field} (he : P.underlying e = some (.struct fs)) (h3 : fs.size = 3) (hfs : ∀ (i : Nat) (f : Field), fs[i]? = some f → f.offset = i ∧ f.type = ti) (hi : P.underlying ti = some (.int .i64)) (hc1 : P.cellsOf ti = 1) (hc3 : P.cellsOf e = 3)
    (n : Nat) (cs : List Value) (y : DataW H × List MemPlace) (h : DataW.trod enc P W 0 (fun _ => true) true n e cs = some y) : ∃ x, VRs (fun _ => none) (t3 x) cs := by
  obtain ⟨xs, m, _, _, hl, hxl, hf⟩ := DataW.trod_struct he h
  rw [hc3] at hl
  match cs, hl with
  | [c0, c1, c2], _ =>
    have one : ∀ i, i < 3 → ∃ k, ([c0, c1, c2].drop i).take 1 = [.int .i64 k] := by
      intro i hi3
      have h5 : ∃ f, fs[i]? = some f := ⟨_, Array.getElem?_eq_getElem (by omega)⟩
      obtain ⟨f, hfi⟩ := h5
      have h6 := hf i f hfi
      obtain ⟨o1, o2⟩ := hfs i f hfi
      rw [o1, o2, hc1] at h6
      have h7 : ∃ y, xs[i]? = some y := ⟨_, List.getElem?_eq_getElem (by omega)⟩
      obtain ⟨y', hy'⟩ := h7
      rw [hy'] at h6
      obtain ⟨k, hk, _⟩ := DataW.trod_int hi h6
      exact ⟨k, hk⟩
    obtain ⟨k0, e0⟩ := one 0 (by omega)
    obtain ⟨k1, e1⟩ := one 1 (by omega)
    obtain ⟨k2, e2⟩ := one 2 (by omega)
    simp at e0 e1 e2
    subst e0 e1 e2
    exact ⟨(k0, k1, k2), .cons (.i _ _) (.cons (.i _ _) (.cons (.i _ _) .nil))⟩
theorem AR.acts {H : Type} {enc : TypeId × Value → H} {P : Program} {W : World} {S : St} {β : Bt} {L : Lg} (h : AR W S β L) {t e ti : TypeId} {fs : Array Field} {v : Value} {d : DataW H} {ps : List MemPlace} (ht : P.underlying t = some (.slice e)) (he : P.underlying e = some (.struct fs)) (h3 : fs.size = 3) (hfs : ∀ (i : Nat) (f : Field), fs[i]? = some f → f.offset = i ∧ f.type = ti)
    (hi : P.underlying ti = some (.int .i64)) (hc1 : P.cellsOf ti = 1) (hc3 : P.cellsOf e = 3) {base : Nat} (hval : Value.okWide P W .any base t v) (hd : DataW.Trod enc P W 0 (fun _ => true) true t v d ps) :
    ∃ (l : List (Int × Int × Int)) (S' : St) (β' : Bt) (L' : Lg) (a : AV), AR W S' β' L' ∧ Ext β β' ∧ Ext2 L L' ∧ VR β' a v ∧ ArgSl L' a (tcl l) l.length 3 :=
  h.rows t3 ht hc3 (fun x => rfl) (fun n cs y hy => open_t3 he h3 hfs hi hc1 hc3 n cs y hy) hval hd
def bcl (l : List Bool) : List AV := l.map fun n => .b n
theorem bcl_flat (l : List Bool) : (l.flatMap fun b => [AV.b b]) = bcl l := by
  induction l with
  | nil => rfl
  | cons a r ih => simp only [List.flatMap_cons, ih, bcl, List.map_cons]; rfl
/-- a slice of truths among the arguments -/
theorem AR.bools {H : Type} {enc : TypeId × Value → H} {P : Program} {W : World} {S : St} {β : Bt} {L : Lg} (h : AR W S β L) {t e : TypeId} {v : Value} {d : DataW H} {ps : List MemPlace} (ht : P.underlying t = some (.slice e)) (he : P.underlying e = some .bool) (hc : P.cellsOf e = 1)
    {base : Nat} (hval : Value.okWide P W .any base t v) (hd : DataW.Trod enc P W 0 (fun _ => true) true t v d ps) :
    ∃ (l : List Bool) (S' : St) (β' : Bt) (L' : Lg) (a : AV), AR W S' β' L' ∧ Ext β β' ∧ Ext2 L L' ∧ VR β' a v ∧ ArgSl L' a (bcl l) l.length 1 := by
  obtain ⟨l, S', β', L', a, h1, h2, h3, h4, h5⟩ := h.rows (fun b : Bool => [AV.b b]) ht hc (fun _ => rfl) (fun n cs y hy => by
    obtain ⟨b', hb, _⟩ := DataW.trod_bool he hy
    subst hb
    exact ⟨b', .cons (.b _) .nil⟩) hval hd
  rw [bcl_flat] at h5
  exact ⟨l, S', β', L', a, h1, h2, h3, h4, h5⟩
end Go.AM

/- Things, opened: what is hidden at a name lies over all else. -/
set_option linter.unusedVariables false
set_option linter.unusedSimpArgs false
namespace Go.AM
section
variable {M L : Lg} {r b : Nat} {d : LC}
theorem over_put (M L : Lg) (b : Nat) (d : LC) : (M.over L).put b d = (M.put b d).over L := by
  funext m; unfold Lg.put Lg.over; by_cases h : m = b <;> simp [h]
theorem over_putL (h : M b = none) (d : LC) : (M.over L).put b d = M.over (L.put b d) := by
  funext m; unfold Lg.put Lg.over; by_cases hm : m = b
  · subst hm; simp [h]
  · simp [hm]
theorem over_some (h : M b = some d) : (M.over L) b = some d := by simp [Lg.over, h]
theorem over_skip (h : M b = none) : (M.over L) b = L b := by simp [Lg.over, h]
theorem over_none : (M.over L) b = none ↔ M b = none ∧ L b = none := by
  unfold Lg.over; cases h : M b <;> simp
theorem over_delO (hL : L b = none) : (M.over L).del b = (M.del b).over L := by
  funext m; unfold Lg.del Lg.over; by_cases h : m = b
  · subst h; simp [hL]
  · simp [h]
theorem over_delL (hM : M b = none) : (M.over L).del b = M.over (L.del b) := by
  funext m; unfold Lg.del Lg.over; by_cases h : m = b
  · subst h; simp [hM]
  · simp [h]
/-- what lies over is not below, but for its root -/
def Apart (M L : Lg) (r : Nat) : Prop := ∀ b, b ≠ r → M b ≠ none → L b = none
theorem Apart.low (h : Apart M L r) (hb : b ≠ r) (e : L b = some d) : M b = none := by
  cases h1 : M b with
  | none => rfl
  | some c => have := h b hb (by rw [h1]; simp); rw [e] at this; cases this
theorem Apart.get (h : Apart M L r) (hb : b ≠ r) (e : L b = some d) : (M.over L) b = some d := by rw [over_skip (h.low hb e)]; exact e
theorem Apart.putL (h : Apart M L r) (hb : M b = none) (d : LC) : Apart M (L.put b d) r := by
  intro c hc hM
  have : c ≠ b := by rintro rfl; exact hM hb
  rw [Lg.put_ne _ _ _ this]; exact h c hc hM
theorem Apart.put (h : Apart M L r) (hb : b = r ∨ L b = none) (d : LC) : Apart (M.put b d) L r := by
  intro c hc hM
  by_cases e : c = b
  · subst e; rcases hb with h1 | h1
    · exact absurd h1 hc
    · exact h1
  · rw [Lg.put_ne _ _ _ e] at hM; exact h c hc hM
theorem Apart.own (h : Apart M L r) (hb : M b ≠ none) (d : LC) : Apart (M.put b d) L r := h.put (by by_cases e : b = r; exact .inl e; exact .inr (h b e hb)) d
theorem Apart.del (h : Apart M L r) (b : Nat) : Apart (M.del b) L r := by
  intro c hc hM
  rw [Lg.del_apply] at hM
  split at hM
  · exact absurd rfl hM
  · exact h c hc hM
theorem Apart.mono {L' : Lg} (h : Apart M L r) (hl : ∀ b, b ≠ r → M b ≠ none → L b = none → L' b = none) : Apart M L' r := fun c hc hM => hl c hc hM (h c hc hM)
def Thing (D : Lg → Prop) (hp : Hp) : Prop := ∃ M, D M ∧ Sat M hp
theorem CallL.openD {F : Nat → Option AFn} {f : Nat} {vs : List AV} {Q : AV → Lg → Prop} {D : Lg → Prop} (e : L r = some (.abs (Thing D))) (hr : ∀ M, D M → M r ≠ none)
    (H : ∀ M, D M → Apart M L r → CallL F f vs (M.over L) Q) : CallL F f vs L Q := by
  apply CallL.opens e
  rintro hm ⟨M, hD, hs⟩
  refine ⟨M, hs, hr M hD, fun hf => H M hD ?_⟩
  intro c hc hM
  cases h1 : M c with
  | none => exact absurd h1 hM
  | some x => exact hf c x h1 hc
theorem Sees.shutD {D : Lg → Prop} (hD : D M) (hr : ∃ cs, M r = some (.raw (.cells cs))) (ha : Apart M L r) : Sees (M.over L) (L.put r (.abs (Thing D))) :=
  Sees.shut (fun b c h hb => ha b hb (by rw [h]; simp)) (.inl hr) fun h hs => ⟨M, hD, hs⟩
theorem Sees.backD {D : Lg → Prop} (hD : D M) (hr : ∃ cs, M r = some (.raw (.cells cs))) (ha : Apart M L r) (e : L r = some (.abs (Thing D))) : Sees (M.over L) L := by
  have := Sees.shutD hD hr ha
  rwa [Lg.put_self L r _ e] at this
/-- another's block is let go -/
theorem Sees.junk {M L : Lg} (hb : L b = none) (d : LC) : Sees (M.over (L.put b d)) (M.over L) := by
  apply Sees.drop
  intro c e hc
  cases h1 : M c with
  | some x => rw [over_some h1] at hc ⊢; exact hc
  | none =>
    rw [over_skip h1] at hc ⊢
    rw [Lg.put_ne _ _ _ (by rintro rfl; rw [hb] at hc; cases hc)]; exact hc
theorem Sees.put {L L' : Lg} (h : ∀ b c, L' b = some c → L b = some c) (r : Nat) (d : LC) : Sees (L.put r d) (L'.put r d) := by
  apply Sees.drop
  intro c e hc
  rw [Lg.put_apply] at hc ⊢
  split
  · rename_i h9; rw [if_pos h9] at hc; exact hc
  · rename_i h9; rw [if_neg h9] at hc; exact h c e hc
end
/-! ### slices of one's own -/
/-- a slice of its own block, full, as it may be read and appended to -/
def OSl (K : Lg) (v : AV) (cs : List AV) (n size : Nat) : Prop :=
  (n = 0 ∧ cs = [] ∧ v = .sl none 0 0 0) ∨ ∃ b ex, 0 < n ∧ v = .sl (some (b, 0)) n n ex ∧ (ex = 0 ∨ ex = size) ∧ K b = some (.raw (.cells cs)) ∧ cs.length = n * size
section
variable {K K' : Lg} {v : AV} {cs : List AV} {n size : Nat}
theorem OSl.nil (K : Lg) (size : Nat) : OSl K (.sl none 0 0 0) [] 0 size := .inl ⟨rfl, rfl, rfl⟩
theorem OSl.mono (h : OSl K v cs n size) (e : ∀ b, slB v = some b → K' b = K b) : OSl K' v cs n size := by
  rcases h with h | ⟨b, ex, h1, h2, h3, h4, h5⟩
  · exact .inl h
  · exact .inr ⟨b, ex, h1, h2, h3, by rw [e b (by rw [h2]; rfl)]; exact h4, h5⟩
theorem OSl.block (h : OSl K v cs n size) {b : Nat} (e : slB v = some b) : K b = some (.raw (.cells cs)) := by
  rcases h with ⟨_, _, h3⟩ | ⟨b', ex, h1, h2, h3, h4, h5⟩
  · rw [h3] at e; cases e
  · rw [h2] at e; simp [slB] at e; subst e; exact h4
theorem OSl.len {F : Nat → Option AFn} (h : OSl K v cs n size) (L : Lg) (k : AV → Lg → Prop) : wpOp F .lenSl [v] L k = k (.i .i64 n) L := by
  rcases h with ⟨h1, _, h3⟩ | ⟨b', ex, h1, h2, h3, h4, h5⟩
  · rw [h3, h1]; simp
  · rw [h2]; simp
theorem OSl.iad {F : Nat → Option AFn} (h : OSl K v cs n size) {x : Int} (h0 : 0 ≤ x) (h1 : x < n) : ∃ b, slB v = some b ∧ K b = some (.raw (.cells cs)) ∧ cs.length = n * size ∧ ∀ (L : Lg) (k : AV → Lg → Prop) (j : IntKind), wpOp F (.iad size) [v, .i j x] L k = k (.p (some (b, x.toNat * size))) L := by
  rcases h with ⟨e1, _, h3⟩ | ⟨b', ex, g1, g2, g3, g4, g5⟩
  · omega
  · refine ⟨b', by rw [g2]; rfl, g4, g5, fun L k j => ?_⟩
    rw [g2, wp_iad F L k size b' 0 n n ex j x h0 h1]
    simp
theorem OSl.one (h : OSl K v cs n size) : v.one = true := by
  rcases h with ⟨_, _, h3⟩ | ⟨b', ex, g1, g2, g3, g4, g5⟩
  · rw [h3]; rfl
  · rw [g2]; rfl
theorem OSl.cellsOf (h : OSl K v cs n size) : v.cellsOf = some [v] := by
  rcases h with ⟨_, _, h3⟩ | ⟨b', ex, g1, g2, g3, g4, g5⟩
  · rw [h3]; rfl
  · rw [g2]; rfl
theorem OSl.rdAll (h : OSl K v cs n size) : ∃ a ex, v = .sl a n n ex ∧ rdCellsL K a (n * size) = some cs ∧ (n = 0 → ex = 0) := by
  rcases h with ⟨h1, h2, h3⟩ | ⟨b', ex, g1, g2, g3, g4, g5⟩
  · exact ⟨none, 0, by rw [h3, h1], by simp [rdCellsL, h1, h2], fun _ => rfl⟩
  · refine ⟨_, ex, g2, ?_, fun h => by omega⟩
    simp only [rdCellsL, g4, AB.read, cut, ble_nat, Nat.zero_add, g5, Nat.le_refl, decide_true, cond_true, List.drop_zero]
    rw [← g5, List.take_length]
/-- K1 is K, but that a slice's block may be gone and another has come -/
structure Grown (K : Lg) (v : AV) (b : Nat) (cs : List AV) (K1 : Lg) : Prop where
  fresh : K b = none
  now : K1 b = some (.raw (.cells cs))
  same : ∀ r, r ≠ b → slB v ≠ some r → K1 r = K r
  gone : ∀ r, r ≠ b → K1 r = none ∨ K1 r = K r
/-- a slice is appended to: it has another block then -/
theorem OSl.app {bytes m : Nat} {src : AV} {new : List AV} (h : OSl K v cs n size) (hsz : 0 < size) {a : Option (Nat × Nat)} {c e : Nat} (hs : src = .sl a m c e) (hm : 0 < m) (hr : rdCellsL K a (m * size) = some new) (hn : new.length = m * size) (h1 : new.all AV.one = true)
    (hb : (n + m) * bytes ≤ 70368744177664) {k : AV → Lg → Prop} (hk : ∀ b K1, Grown K v b (cs ++ new) K1 → OSl K1 (.sl (some (b, 0)) (n + m) (n + m) size) (cs ++ new) (n + m) size → k (.sl (some (b, 0)) (n + m) (n + m) size) K1) : appW size bytes K k [v, src] := by
  subst hs
  obtain ⟨av, ex, hv, hrd, hz⟩ := h.rdAll
  have hlen : cs.length = n * size := by
    rcases h with ⟨h1, h2, h3⟩ | ⟨b', ex, g1, g2, g3, g4, g5⟩
    · simp [h1, h2]
    · exact g5
  have key : ∀ K1 : Lg, (K1 = K ∨ ∃ q, slB v = some q ∧ K1 = K.del q) → goneL K av ex size = some K1 → appW size bytes K k [v, .sl a m c e] := by
    intro K1 hK1 hg
    rw [hv]
    refine appW_grow (L' := K1) hr h1 (by omega) hb hrd hg ?_
    intro b hbn
    refine hk b _ ⟨hbn, Lg.put_same _ _ _, ?_, ?_⟩ (.inr ⟨b, size, by omega, rfl, .inr rfl, Lg.put_same _ _ _, by simp [hlen, hn, Nat.add_mul]⟩)
    · intro r hr hq
      rw [Lg.put_ne _ _ _ hr]
      rcases hK1 with rfl | ⟨q, hq1, rfl⟩
      · rfl
      · rw [Lg.del_apply, if_neg]; rintro rfl; exact hq hq1
    · intro r hr
      rw [Lg.put_ne _ _ _ hr]
      rcases hK1 with rfl | ⟨q, hq1, rfl⟩
      · exact .inr rfl
      · rw [Lg.del_apply]; split
        · exact .inl rfl
        · exact .inr rfl
  rcases h with ⟨h1, h2, h3⟩ | ⟨b', ex', g1, g2, g3, g4, g5⟩
  · have : ex = 0 := hz h1
    exact key K (.inl rfl) (by rw [this]; simp [goneL])
  · have hv2 := hv
    rw [g2] at hv2
    cases hv2
    rcases g3 with g3 | g3
    · exact key K (.inl rfl) (by simp [goneL, g3])
    · refine key (K.del b') (.inr ⟨b', by rw [g2]; rfl, rfl⟩) ?_
      have : ¬ size = 0 := by omega
      simp [goneL, this, g4, g3]
theorem OSl.app0 {bytes : Nat} {src : AV} (h : OSl K v cs n size) {a : Option (Nat × Nat)} {c e : Nat} (hs : src = .sl a 0 c e) (hr : rdCellsL K a 0 = some []) {k : AV → Lg → Prop} (hk : k v K) : appW size bytes K k [v, src] := by
  subst hs
  rcases h with ⟨h1, h2, h3⟩ | ⟨b', ex', g1, g2, g3, g4, g5⟩
  · rw [h3]; rw [h3] at hk
    simp only [appW, Nat.zero_mul, hr, appL]
    simpa using hk
  · rw [g2]; rw [g2] at hk
    simp only [appW, Nat.zero_mul, hr, appL]
    simpa using hk
end
/-- the cells of structs in a row -/
def flatc {α : Type} (f : α → List AV) : List α → List AV
  | [] => []
  | x :: r => f x ++ flatc f r
section
variable {α : Type} {f : α → List AV} {k : Nat}
theorem flatc_append : ∀ (a b : List α), flatc f (a ++ b) = flatc f a ++ flatc f b
  | [], _ => rfl
  | x :: r, b => by simp [flatc, flatc_append r b]
theorem flatc_length (hf : ∀ x, (f x).length = k) : ∀ (a : List α), (flatc f a).length = a.length * k
  | [] => by simp [flatc]
  | x :: r => by
    simp only [flatc, List.length_append, hf, flatc_length hf r, List.length_cons, Nat.add_mul, Nat.one_mul]; omega
theorem flatc_one (h1 : ∀ x, (f x).all AV.one = true) : ∀ (a : List α), (flatc f a).all AV.one = true
  | [] => rfl
  | x :: r => by simp [flatc, List.all_append, h1, flatc_one h1 r]
theorem flatc_at (hf : ∀ x, (f x).length = k) : ∀ (l : List α) (i : Nat) (x : α), l[i]? = some x → ((flatc f l).drop (i * k)).take k = f x ∧ i * k + k ≤ (flatc f l).length
  | [], i, x, h => by simp at h
  | a :: r, 0, x, h => by
    simp at h; subst h
    have := hf a
    simp only [flatc, Nat.zero_mul, List.drop_zero, List.length_append, this, Nat.zero_add]
    exact ⟨by rw [← this, List.take_left], by omega⟩
  | a :: r, i + 1, x, h => by
    have := flatc_at hf r i x (by simpa using h)
    have e : (i + 1) * k = (f a).length + i * k := by rw [hf, Nat.add_mul]; omega
    rw [e]
    simp only [flatc, List.length_append]
    rw [← List.drop_drop, List.drop_left]
    exact ⟨this.1, by omega⟩
theorem flatc_get (hf : ∀ x, (f x).length = k) (l : List α) (i j : Nat) (x : α) (h : l[i]? = some x) (hj : j < k) : (flatc f l)[i * k + j]? = (f x)[j]? := by
  have h1 := flatc_at hf l i x h
  rw [← h1.1, List.getElem?_take_of_lt hj, List.getElem?_drop]
theorem flatc_setc (hf : ∀ x, (f x).length = k) : ∀ (l : List α) (i : Nat) (x y : α) (j : Nat) (v : AV), l[i]? = some x → j < k → (f x).set j v = f y → (flatc f l).set (i * k + j) v = flatc f (l.set i y)
  | [], i, x, y, j, v, h, _, _ => by simp at h
  | a :: r, 0, x, y, j, v, h, hj, e => by
    simp at h; subst h
    have := hf a
    simp only [flatc, Nat.zero_mul, Nat.zero_add, List.set_cons_zero]
    rw [List.set_append_left _ _ (by omega), e]
  | a :: r, i + 1, x, y, j, v, h, hj, e => by
    have := flatc_setc hf r i x y j v (by simpa using h) hj e
    have e2 : (i + 1) * k + j = (f a).length + (i * k + j) := by rw [hf, Nat.add_mul]; omega
    rw [e2]
    simp only [flatc, List.set_cons_succ]
    rw [List.set_append_right _ _ (by omega), Nat.add_sub_cancel_left, this]
end
end Go.AM

/- chanq: end, End, Closed: a channel is closed, and all wake. -/
set_option linter.unusedVariables false
set_option linter.unusedSimpArgs false
namespace Go.AM
variable {N : Nat → Nat} {F : Nat → Option AFn}
def wakeP (p : Bool) (acc : List Wk) (w : Wt) : List Wk := if (acc.any fun y => decide (y.t = w.t)) = true then acc else acc ++ [⟨w.t, w.c, 0, false, p⟩]
def Ch.wakes (x : Ch) : List Wk := x.sends.foldl (wakeP true) (x.recvs.foldl (wakeP false) [])
section
variable {L K : Lg} {c rg q1 q2 : Nat} {x : Ch} {Q : AV → Lg → Prop}
theorem EI.keep {acc : List Wk} {v : AV} (h : EI L c rg q1 q2 x acc v K) {K' : Lg} (e : ∀ r, (r = c ∨ r = rg ∨ r = q1 ∨ r = q2 ∨ L r ≠ (Option.none : Option LC) ∨ slB v = some r) → K' r = K r) : EI L c rg q1 q2 x acc v K' := by
  refine ⟨h.op.keep fun r hr => e r (by rcases hr with h | h | h | h | h <;> simp [h]), ?_, h.ap⟩
  rcases h.own with h1 | ⟨b, h1, h2, h3, h4⟩
  · exact .inl h1
  · exact .inr ⟨b, h1, h2, by rw [e b (by simp [h2, slB])]; exact h3, h4⟩
end
end Go.AM


/- chanq: end's loops. -/
set_option linter.unusedVariables false
set_option linter.unusedSimpArgs false
namespace Go.AM
variable {N : Nat → Nat} {F : Nat → Option AFn}
section
variable {L K : Lg} {c rg q1 q2 : Nat} {x : Ch} {Q : AV → Lg → Prop}
theorem EI.fresh {acc : List Wk} {v : AV} (h : EI L c rg q1 q2 x acc v K) {b : Nat} (hb : K b = Option.none) : slB v ≠ some b ∧ b ≠ c ∧ b ≠ rg ∧ b ≠ q1 ∧ b ≠ q2 ∧ L b = Option.none := by
  refine ⟨?_, ?_, ?_, ?_, ?_, (h.op.none hb).2⟩
  · intro h9
    rcases h.own with ⟨_, _, h1⟩ | ⟨b', h1, h2, h3, h4⟩
    · rw [h1] at h9; cases h9
    · rw [h2] at h9; simp [slB] at h9; subst h9; rw [hb] at h3; cases h3
  · rintro rfl; have := h.op.root; rw [hb] at this; cases this
  · rintro rfl; have := h.op.ring; rw [hb] at this; cases this
  · rintro rfl; have := h.op.rcv; rw [hb] at this; cases this
  · rintro rfl; have := h.op.snd; rw [hb] at this; cases this
end
end Go.AM


/- chanq: End, whole; Closed. -/
set_option linter.unusedVariables false
set_option linter.unusedSimpArgs false
namespace Go.AM
variable {N : Nat → Nat} {F : Nat → Option AFn}
section
variable {L K : Lg} {c rg q1 q2 : Nat} {x : Ch} {Q : AV → Lg → Prop}
theorem COpen.adopt (op : COpen L c x rg q1 q2 K) {b : Nat} {d : LC} (hb : K b = some d) (hn : b ≠ rg ∧ b ≠ q1 ∧ b ≠ q2) : COpen (L.put b d) c x rg q1 q2 K :=
  ⟨op.n1, op.n2, op.n3, op.n4, op.n5, op.n6, op.root, op.ring, op.rcv, op.snd, fun r e h1 h2 h3 h4 he => by
    rw [Lg.put_apply] at he
    split at he
    · rename_i h9; subst h9; cases he; exact hb
    · exact op.old r e h1 h2 h3 h4 he, by rw [Lg.put_ne _ _ _ (Ne.symm hn.1)]; exact op.f1, by rw [Lg.put_ne _ _ _ (Ne.symm hn.2.1)]; exact op.f2, by rw [Lg.put_ne _ _ _ (Ne.symm hn.2.2)]; exact op.f3⟩
/-- a new slice of wakes -/
def WkNew (L : Lg) (v : AV) (ws : List Wk) (L' : Lg) : Prop := (ws = [] ∧ v = .sl none 0 0 0 ∧ L' = L) ∨ ∃ b ex, L b = none ∧ 0 < ws.length ∧ v = .sl (some (b, 0)) ws.length ws.length ex ∧ (ex = 0 ∨ ex = 5) ∧ L' = L.put b (.raw (.cells (wkcells ws)))
theorem EI.fin {acc : List Wk} {v : AV} (h : EI L c rg q1 q2 x acc v K) (hL : ∃ d, L c = some d) : ∃ L', WkNew (L.put c (.abs (ChanP c x))) v acc L' ∧ Sees K L' := by
  rcases h.own with ⟨h1, h2, h3⟩ | ⟨b, h1, h2, h3, h4⟩
  · exact ⟨_, .inl ⟨List.length_eq_zero_iff.1 h1, h3, rfl⟩, h.op.shut⟩
  · have ap := h.ap b (by rw [h2]; rfl)
    have := (h.op.adopt h3 ⟨ap.2.1, ap.2.2.1, ap.2.2.2.1⟩).shut
    rw [Lg.put_comm _ ap.1] at this
    exact ⟨_, .inr ⟨b, 5, by rw [Lg.put_ne _ _ _ ap.1]; exact ap.2.2.2.2, h1, h2, .inr rfl, rfl⟩, this⟩
end
end Go.AM


/- tree: what its functions do. -/
set_option linter.unusedVariables false
set_option linter.unusedSimpArgs false
namespace Go.AM
variable {N : Nat → Nat} {F : Nat → Option AFn}
/-- one of a tree -/
structure Nd where
  parent : Int
  linked : Bool
  kids : List Int
def ncells : List Nd → (Nat → AV) → Nat → List AV
  | [], _, _ => []
  | n :: r, kv, j => [.i .i64 n.parent, .b n.linked, kv j] ++ ncells r kv (j + 1)
theorem ncells_link : ∀ (ns : List Nd) (kv : Nat → AV) (j i : Nat) (n : Nd) (b : Bool), ns[i]? = some n → (ncells ns kv j).set (i * 3 + 1) (.b b) = ncells (ns.set i { n with linked := b }) kv j
  | [], _, _, i, n, b, h => by simp at h
  | a :: r, kv, j, 0, n, b, h => by
    simp at h; subst h
    simp [ncells]
  | a :: r, kv, j, i + 1, n, b, h => by
    have := ncells_link r kv (j + 1) i n b (by simpa using h)
    have e : (i + 1) * 3 + 1 = (i * 3 + 1) + 1 + 1 + 1 := by omega
    rw [e]
    simp only [ncells, List.cons_append, List.nil_append, List.set_cons_succ, this]
def NSl (sv : AV) (ns : List Nd) (kv : Nat → AV) (nb : Option Nat) (t : Nat) (L K : Lg) : Prop := match nb with
  | none => sv = .sl none 0 0 0 ∧ ns = []
  | some b => sv = .sl (some (b, 0)) ns.length ns.length 3 ∧ K b = some (.raw (.cells (ncells ns kv 0))) ∧ b ≠ t ∧ L b = none ∧ 0 < ns.length
/-- a tree, opened -/
structure TOpen (L : Lg) (t : Nat) (ns : List Nd) (sv : AV) (kv : Nat → AV) (nb : Option Nat) (kb : Nat → Option Nat) (K : Lg) : Prop where
  root : K t = some (.raw (.cells [sv]))
  arr : NSl sv ns kv nb t L K
  kid : ∀ (j : Nat) (n : Nd), ns[j]? = some n → KSl (kv j) n.kids (kb j) K
  kne : ∀ (j q : Nat), j < ns.length → kb j = some q → q ≠ t ∧ nb ≠ some q ∧ L q = none
  kap : ∀ i j q : Nat, i < ns.length → j < ns.length → kb i = some q → kb j = some q → i = j
  old : ∀ r d, r ≠ t → L r = some d → K r = some d
def TreeP (t : Nat) (ns : List Nd) (hp : Hp) : Prop := ∃ sv kv nb kb M, TOpen Lg.nil t ns sv kv nb kb M ∧ Sat M hp
theorem KSl.mono {v : AV} {l : List Int} {bo : Option Nat} {K M : Lg} (h : KSl v l bo K) (e : ∀ q, bo = some q → M q = K q) : KSl v l bo M := by
  cases bo with
  | none => exact h
  | some b =>
    obtain ⟨cap, sp, ex, h1, h2, h3, h4⟩ := h
    exact ⟨cap, sp, ex, h1, by rw [e b rfl]; exact h2, h3, h4⟩
theorem NSl.mono {sv : AV} {ns : List Nd} {kv : Nat → AV} {nb : Option Nat} {t : Nat} {L L' K M : Lg} (h : NSl sv ns kv nb t L K) (e : ∀ q, nb = some q → M q = K q) (f : ∀ q, nb = some q → L' q = none) : NSl sv ns kv nb t L' M := by
  cases nb with
  | none => exact h
  | some b =>
    obtain ⟨h1, h2, h3, h4, h5⟩ := h
    exact ⟨h1, by rw [e b rfl]; exact h2, h3, f b rfl, h5⟩
section
variable {L L0 K : Lg} {t : Nat} {ns : List Nd} {sv : AV} {kv : Nat → AV} {nb : Option Nat} {kb : Nat → Option Nat}
theorem TOpen.shut (o : TOpen L t ns sv kv nb kb K) : Sees K (L.put t (.abs (TreeP t ns))) := by
  refine Sees.shutAt (fun r => r = t ∨ nb = some r ∨ ∃ j, j < ns.length ∧ kb j = some r) (.inl rfl) ?_ ?_ (.inl ⟨_, o.root⟩) ?_
  · intro r d hr hd; simp only [not_or] at hr; exact o.old r d hr.1 hd
  · rintro r (rfl | h | ⟨j, hj, hq⟩) hr
    · exact absurd rfl hr
    · have := o.arr; rw [h] at this; exact this.2.2.2.1
    · exact (o.kne j r hj hq).2.2
  · intro M hm hM hN hs
    refine ⟨sv, kv, nb, kb, M, ⟨by rw [hM t (.inl rfl)]; exact o.root, o.arr.mono (fun q hq => hM q (.inr (.inl hq))) (fun _ _ => rfl), ?_, ?_, o.kap, fun r d _ hd => by cases hd⟩, hs⟩
    · intro j n hn
      have hj : j < ns.length := (List.getElem?_eq_some_iff.1 hn).1
      exact (o.kid j n hn).mono fun q hq => hM q (.inr (.inr ⟨j, hj, hq⟩))
    · intro j q hj hq
      have := o.kne j q hj hq
      exact ⟨this.1, this.2.1, rfl⟩
theorem TOpen.back (o : TOpen L t ns sv kv nb kb K) (e : L t = some (.abs (TreeP t ns))) : Sees K L := by
  have := o.shut
  rwa [Lg.put_self L t _ e] at this
theorem TOpen.ne (o : TOpen L t ns sv kv nb kb K) {r : Nat} (hr : K r = none) : r ≠ t ∧ L r = none := by
  have n : r ≠ t := by rintro rfl; rw [o.root] at hr; cases hr
  refine ⟨n, ?_⟩
  cases e : L r with
  | none => rfl
  | some d => rw [o.old r d n e] at hr; cases hr
theorem NSl.len (h : NSl sv ns kv nb t L K) (M : Lg) (k : AV → Lg → Prop) : wpOp F .lenSl [sv] M k = k (.i .i64 ns.length) M := by
  cases nb with
  | none => obtain ⟨rfl, rfl⟩ := h; simp
  | some b => obtain ⟨rfl, _⟩ := h; simp
def hasT (ns : List Nd) (id : Int) : Bool := decide (0 ≤ id) && decide (id < ns.length)
theorem hasT_nat {ns : List Nd} {id : Int} (h : hasT ns id = true) : ∃ i : Nat, id = (i : Int) ∧ i < ns.length := by
  simp [hasT] at h
  obtain ⟨i, rfl⟩ := Int.eq_ofNat_of_zero_le h.1
  exact ⟨i, rfl, by omega⟩
end
end Go.AM


/- tree: Add. -/
set_option linter.unusedVariables false
set_option linter.unusedSimpArgs false
namespace Go.AM
variable {N : Nat → Nat} {F : Nat → Option AFn}
def addKid (ns : List Nd) (i : Nat) (x : Int) : List Nd := match ns[i]? with
  | some n => ns.set i { n with kids := n.kids ++ [x] }
  | none => ns
def treeAdd (ns : List Nd) (parent : Int) (linked : Bool) : List Nd × Int × Int :=
  if parent ≠ -1 ∧ hasT ns parent = false then (ns, 0, 1) else if 1000 ≤ ns.length then (ns, 0, 3)
  else ((if (linked && decide (parent ≠ -1)) = true then addKid ns parent.toNat ns.length else ns) ++ [⟨parent, linked && decide (parent ≠ -1), []⟩], ns.length, 0)
section
variable {L L0 K : Lg} {t : Nat} {ns : List Nd} {sv : AV} {kv : Nat → AV} {nb : Option Nat} {kb : Nat → Option Nat} {Q : AV → Lg → Prop}
theorem KSl.one {v : AV} {l : List Int} {bo : Option Nat} (h : KSl v l bo K) : v.one = true := by
  cases bo with
  | none => obtain ⟨rfl, _⟩ := h; rfl
  | some b => obtain ⟨_, _, _, rfl, _⟩ := h; rfl
theorem TOpen.sub (o : TOpen L0 t ns sv kv nb kb K) (hs : ∀ r d, r ≠ t → L r = some d → L0 r = some d) : TOpen L t ns sv kv nb kb K := by
  have hn : ∀ r, r ≠ t → L0 r = none → L r = none := by
    intro r hr h0
    cases e : L r with
    | none => rfl
    | some d => rw [hs r d hr e] at h0; cases h0
  refine ⟨o.root, o.arr.mono (fun _ _ => rfl) (fun q hq => ?_), o.kid, fun j q hj hq => ?_, o.kap, fun r d hr hd => o.old r d hr (hs r d hr hd)⟩
  · have := o.arr; rw [hq] at this; exact hn q this.2.2.1 this.2.2.2.1
  · have := o.kne j q hj hq; exact ⟨this.1, this.2.1, hn q this.1 this.2.2⟩
theorem KSl.cellsOf {v : AV} {l : List Int} {bo : Option Nat} (h : KSl v l bo K) : v.cellsOf = some [v] := by
  cases bo with
  | none => obtain ⟨rfl, _⟩ := h; rfl
  | some b => obtain ⟨_, _, _, rfl, _⟩ := h; rfl
end
end Go.AM


/- tree: Detach. -/
set_option linter.unusedVariables false
set_option linter.unusedSimpArgs false
namespace Go.AM
variable {N : Nat → Nat} {F : Nat → Option AFn}
section
variable {L L0 K : Lg} {t : Nat} {ns : List Nd} {sv : AV} {kv : Nat → AV} {nb : Option Nat} {kb : Nat → Option Nat} {Q : AV → Lg → Prop}
theorem TOpen.link (o : TOpen L t ns sv kv nb kb K) {i : Nat} {n : Nd} (hn : ns[i]? = some n) {b : Nat} (hb : nb = some b) (v : Bool) : TOpen L t (ns.set i { n with linked := v }) sv kv nb kb (K.put b (.raw (.cells ((ncells ns kv 0).set (i * 3 + 1) (.b v))))) := by
  have hi : i < ns.length := (List.getElem?_eq_some_iff.1 hn).1
  have ha := o.arr
  rw [hb] at ha
  obtain ⟨a1, a2, a3, a4, a5⟩ := ha
  refine ⟨by rw [Lg.put_ne _ _ _ (Ne.symm a3)]; exact o.root, ?_, ?_, ?_, ?_, ?_⟩
  · rw [hb]
    exact ⟨by simp [a1], by rw [Lg.put_same, ncells_link ns kv 0 i n v hn], a3, a4, by simpa using a5⟩
  · intro j m hm
    have hjl : j < ns.length := by have := (List.getElem?_eq_some_iff.1 hm).1; simpa using this
    have hkk : KSl (kv j) m.kids (kb j) K := by
      by_cases hj : j = i
      · subst hj
        rw [List.getElem?_set_self hi] at hm
        simp at hm; subst hm
        exact o.kid j n hn
      · rw [List.getElem?_set_ne (Ne.symm hj)] at hm
        exact o.kid j m hm
    refine hkk.mono fun r hr => ?_
    have h4 := o.kne j r hjl hr
    exact Lg.put_ne _ _ _ (fun h9 => h4.2.1 (by rw [hb, h9]))
  · intro j r hj hr
    simp at hj
    exact o.kne j r hj hr
  · intro j k r hj hk hrj hrk
    simp at hj hk
    exact o.kap j k r hj hk hrj hrk
  · intro r d hr hd
    have h1 : r ≠ b := by rintro rfl; rw [a4] at hd; cases hd
    rw [Lg.put_ne _ _ _ h1]; exact o.old r d hr hd
end
end Go.AM

