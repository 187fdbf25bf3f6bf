/- The texts GenW, GenP of a proof of ProgTells, merged. -/
import Derived.Test.YtkfcecaoaplfkaaDoorTellsG1
import Derived.KernelRfl
/- The code of functions, with names for their numbers, and what is left of its weakest preconditions. PRINTED by our printgen.py. -/
set_option linter.unusedVariables false
set_option maxRecDepth 100000
namespace Go.AM
def k_prog_register : Nat := 222
def k_prog_may : Nat := 223
def k_slices_IndexFunc_CaseCase : Nat := 224
def k_slices_ContainsFunc_CaseCase : Nat := 225
def k_prog_good_1 : Nat := 226
def k_prog_good : Nat := 227
def k_prog_Check_1 : Nat := 228
def k_slices_IndexFunc_InstrInstr : Nat := 229
def k_slices_ContainsFunc_InstrInstr : Nat := 230
def k_prog_Check : Nat := 231
def k_prog_starts : Nat := 232
def k_prog_All_1 : Nat := 233
def k_prog_All : Nat := 234
def q_prog_register_1 (N : TN) : ACode := (.seq (.reg [⟨.l 2, none, .mv, [.c (.b false)]⟩]) (.seq (.reg [⟨.t 3, none, .mv, [.l 0]⟩, ⟨.t 4, none, .bin .geq, [.t 3, .c (.i .i64 0)]⟩, ⟨.t 5, none, .mv, [.t 4]⟩, ⟨.t 6, some (.t 5, true), .mv, [.l 0]⟩, ⟨.t 7, some (.t 5, true), .bin .lss, [.t 6, .c (.i .i64 8)]⟩, ⟨.t 8, none, .pick, [.t 5, .t 7, .c (.b false)]⟩, ⟨.l 2, none, .mv, [.t 8]⟩]) .ret))
noncomputable def D_prog_register_1 (F : TF) (N : TN) (Q : TQ) (x0 : AV) (L : Lg) : Prop :=
 wpOp F (.bin .geq) [x0, (.i .i64 0)] L fun v1 L1 =>
 gdOp F v1 true .mv [x0] L1 fun v2 L2 =>
 gdOp F v1 true (.bin .lss) [v2, (.i .i64 8)] L2 fun v3 L3 =>
 wpOp F .pick [v1, v3, (.b false)] L3 fun v4 L4 =>
 fin1 (some v4) Q L4
theorem e_prog_register_1 (F : TF) (N : TN) (Q : TQ) (l t : Env) (L : Lg) : wp F (q_prog_register_1 N) l t L (fin [.tmp (.l 2)] Q) nE (fin [.tmp (.l 2)] Q) = D_prog_register_1 F N Q (l 0) L := by kernel_rfl
/-- tarpaulin/prog.register -/
def c_prog_register (N : TN) : AFn := ⟨q_prog_register_1 N, [.tmp (.l 2)]⟩
structure H_prog_register (N : TN) (F : TF) : Prop where
  code : F (N k_prog_register) = some (c_prog_register N)
theorem r_prog_register {F : TF} {N : TN} (h : F (N k_prog_register) = some (c_prog_register N)) {Q : TQ} {a0 : AV} {L : Lg} (e : D_prog_register_1 F N Q a0 L) : CallL F (N k_prog_register) [a0] L Q :=
  CallL.of_wp h (Eq.mpr (Eq.trans (e_prog_register_1 F N Q (initE [a0] 0) Env.nil L) (by kernel_rfl : _ = D_prog_register_1 F N Q a0 L)) e)
def q_prog_may_1 (N : TN) : ACode := (.seq (.reg [⟨.l 6, none, .mv, [.c (.b false)]⟩]) (.seq (.seq (.reg [⟨.l 7, none, .mv, [.l 0]⟩]) (.block 0 (.seq (.reg [⟨.t 9, none, .bin .eql, [.l 7, .c (.i .u8 114)]⟩, ⟨.t 8, none, .mv, [.t 9]⟩]) (.cond (.t 8) (.seq (.reg [⟨.t 10, none, .mv, [.l 1]⟩, ⟨.t 11, none, .call (N k_prog_register), [.t 10]⟩, ⟨.l 6, none, .mv, [.t 11]⟩]) .ret) (.seq (.reg [⟨.t 13, none, .bin .eql, [.l 7, .c (.i .u8 112)]⟩, ⟨.t 12, none, .mv, [.t 13]⟩]) (.cond (.t 12) (.seq (.reg [⟨.t 14, none, .mv, [.l 1]⟩, ⟨.t 15, none, .bin .geq, [.t 14, .c (.i .i64 0)]⟩, ⟨.t 16, none, .mv, [.t 15]⟩, ⟨.t 17, some (.t 16, true), .mv, [.l 1]⟩, ⟨.t 18, some (.t 16, true), .mv, [.l 2]⟩, ⟨.t 19, some (.t 16, true), .bin .leq, [.t 17, .t 18]⟩, ⟨.t 20, none, .pick, [.t 16, .t 19, .c (.b false)]⟩, ⟨.l 6, none, .mv, [.t 20]⟩]) .ret) (.seq (.reg [⟨.t 22, none, .bin .eql, [.l 7, .c (.i .u8 103)]⟩, ⟨.t 21, none, .mv, [.t 22]⟩]) (.cond (.t 21) (.seq (.reg [⟨.t 23, none, .mv, [.l 1]⟩, ⟨.t 24, none, .bin .geq, [.t 23, .c (.i .i64 0)]⟩, ⟨.t 25, none, .mv, [.t 24]⟩, ⟨.t 26, some (.t 25, true), .mv, [.l 1]⟩, ⟨.t 27, some (.t 25, true), .bin .lss, [.t 26, .c (.i .i64 16)]⟩, ⟨.t 28, none, .pick, [.t 25, .t 27, .c (.b false)]⟩, ⟨.l 6, none, .mv, [.t 28]⟩]) .ret) (.seq (.reg [⟨.t 30, none, .bin .eql, [.l 7, .c (.i .u8 45)]⟩, ⟨.t 29, none, .mv, [.t 30]⟩]) (.cond (.t 29) (.seq (.reg [⟨.t 31, none, .mv, [.l 1]⟩, ⟨.t 32, none, .bin .eql, [.t 31, .c (.i .i64 0)]⟩, ⟨.l 6, none, .mv, [.t 32]⟩]) .ret) .skip)))))))))) (.seq (.reg [⟨.l 6, none, .mv, [.c (.b true)]⟩]) .ret)))
noncomputable def D_prog_may_1 (F : TF) (N : TN) (Q : TQ) (x0 : AV) (x1 : AV) (x2 : AV) (L : Lg) : Prop :=
 wpOp F (.bin .eql) [x0, (.i .u8 114)] L fun v1 L1 =>
 condW v1
 (CallL F (N k_prog_register) [x1] L1 fun v2 L2 =>
 fin1 (some v2) Q L2)
 (wpOp F (.bin .eql) [x0, (.i .u8 112)] L1 fun v3 L3 =>
 condW v3
 (wpOp F (.bin .geq) [x1, (.i .i64 0)] L3 fun v4 L4 =>
 gdOp F v4 true .mv [x1] L4 fun v5 L5 =>
 gdOp F v4 true .mv [x2] L5 fun v6 L6 =>
 gdOp F v4 true (.bin .leq) [v5, v6] L6 fun v7 L7 =>
 wpOp F .pick [v4, v7, (.b false)] L7 fun v8 L8 =>
 fin1 (some v8) Q L8)
 (wpOp F (.bin .eql) [x0, (.i .u8 103)] L3 fun v9 L9 =>
 condW v9
 (wpOp F (.bin .geq) [x1, (.i .i64 0)] L9 fun v10 L10 =>
 gdOp F v10 true .mv [x1] L10 fun v11 L11 =>
 gdOp F v10 true (.bin .lss) [v11, (.i .i64 16)] L11 fun v12 L12 =>
 wpOp F .pick [v10, v12, (.b false)] L12 fun v13 L13 =>
 fin1 (some v13) Q L13)
 (wpOp F (.bin .eql) [x0, (.i .u8 45)] L9 fun v14 L14 =>
 condW v14
 (wpOp F (.bin .eql) [x1, (.i .i64 0)] L14 fun v15 L15 =>
 fin1 (some v15) Q L15)
 (fin1 (some (.b true)) Q L14))))
theorem e_prog_may_1 (F : TF) (N : TN) (Q : TQ) (l t : Env) (L : Lg) : wp F (q_prog_may_1 N) l t L (fin [.tmp (.l 6)] Q) nE (fin [.tmp (.l 6)] Q) = D_prog_may_1 F N Q (l 0) (l 1) (l 2) L := by kernel_rfl
/-- tarpaulin/prog.may -/
def c_prog_may (N : TN) : AFn := ⟨q_prog_may_1 N, [.tmp (.l 6)]⟩
structure H_prog_may (N : TN) (F : TF) : Prop where
  code : F (N k_prog_may) = some (c_prog_may N)
  prog_register : H_prog_register N F
theorem r_prog_may {F : TF} {N : TN} (h : F (N k_prog_may) = some (c_prog_may N)) {Q : TQ} {a0 a1 a2 : AV} {L : Lg} (e : D_prog_may_1 F N Q a0 a1 a2 L) : CallL F (N k_prog_may) [a0, a1, a2] L Q :=
  CallL.of_wp h (Eq.mpr (Eq.trans (e_prog_may_1 F N Q (initE [a0, a1, a2] 0) Env.nil L) (by kernel_rfl : _ = D_prog_may_1 F N Q a0 a1 a2 L)) e)
def q_slices_IndexFunc_CaseCase_3 (N : TN) : ACode := (.seq (.reg [⟨.l 4, none, .mv, [.c (.i .i64 (-1))]⟩]) .ret)
noncomputable def D_slices_IndexFunc_CaseCase_3 (F : TF) (N : TN) (Q : TQ) (L : Lg) : Prop :=
 fin1 (some (.i .i64 (-1))) Q L
theorem e_slices_IndexFunc_CaseCase_3 (F : TF) (N : TN) (Q : TQ) (l t : Env) (L : Lg) : wp F (q_slices_IndexFunc_CaseCase_3 N) l t L (fin [.tmp (.l 4)] Q) nE (fin [.tmp (.l 4)] Q) = D_slices_IndexFunc_CaseCase_3 F N Q L := by kernel_rfl
def w_slices_IndexFunc_CaseCase_2 (F : TF) (N : TN) (Q : TQ) : Kn := (fun (l t : Env) (L : Lg) => D_slices_IndexFunc_CaseCase_3 F N Q L)
def y_slices_IndexFunc_CaseCase_5 (F : TF) (N : TN) (Q : TQ) : Nat → Kn := (fun (j : Nat) (l t : Env) (L : Lg) => bif Nat.beq j 0 then (w_slices_IndexFunc_CaseCase_2 F N Q) l t L else nE j l t L)
def q_slices_IndexFunc_CaseCase_7 (N : TN) : ACode := (.seq (.reg [⟨.t 9, none, .bin .lss, [.l 8, .l 7]⟩]) (.seq (.cond (.t 9) .skip (.exit 0)) (.seq (.block 1 (.seq (.reg [⟨.t 10, none, .mv, [.l 8]⟩, ⟨.l 5, none, .mv, [.t 10]⟩]) (.seq (.reg [⟨.t 11, none, .mv, [.l 1]⟩, ⟨.t 12, none, .mv, [.l 0]⟩, ⟨.t 13, none, .mv, [.l 5]⟩, ⟨.t 14, none, .iad 3, [.t 12, .t 13]⟩, ⟨.t 15, none, .ld (some 3), [.t 14]⟩, ⟨.t 16, none, .callv, [.t 11, .t 15]⟩]) (.cond (.t 16) (.seq (.reg [⟨.t 17, none, .mv, [.l 5]⟩, ⟨.l 4, none, .mv, [.t 17]⟩]) .ret) .skip)))) (.reg [⟨.t 18, none, .bin .add, [.l 8, .c (.i .i64 1)]⟩, ⟨.l 8, none, .mv, [.t 18]⟩]))))
noncomputable def D_slices_IndexFunc_CaseCase_7 (F : TF) (N : TN) (Q : TQ) (k1 : TK) (l : Env) (L : Lg) : Prop :=
 wpOp F (.bin .lss) [(l 8), (l 7)] L fun v1 L1 =>
 condW v1
 (wpOp F (.iad 3) [(l 0), (l 8)] L1 fun v2 L2 =>
 wpOp F (.ld (some 3)) [v2] L2 fun v3 L3 =>
 wpOp F .callv [(l 1), v3] L3 fun v4 L4 =>
 condW v4
 (fin1 (some (l 8)) Q L4)
 (wpOp F (.bin .add) [(l 8), (.i .i64 1)] L4 fun v5 L5 =>
 k1 (Env.put (Env.put l 5 (l 8)) 8 v5) L5))
 (D_slices_IndexFunc_CaseCase_3 F N Q L1)
theorem e_slices_IndexFunc_CaseCase_7 (F : TF) (N : TN) (Q : TQ) (k1 : TK) (l t : Env) (L : Lg) : wp F (q_slices_IndexFunc_CaseCase_7 N) l t L (fun (l _ : Env) (L : Lg) => k1 l L) (y_slices_IndexFunc_CaseCase_5 F N Q) (fin [.tmp (.l 4)] Q) = D_slices_IndexFunc_CaseCase_7 F N Q k1 l L := by kernel_rfl
def q_slices_IndexFunc_CaseCase_6 (N : TN) : ACode := (.loop (q_slices_IndexFunc_CaseCase_7 N))
noncomputable def D_slices_IndexFunc_CaseCase_6 (F : TF) (N : TN) (Q : TQ) (l : Env) (L : Lg) : Prop :=
 loopW (fun l t L k1 => D_slices_IndexFunc_CaseCase_7 F N Q k1 l L) l L
theorem e_slices_IndexFunc_CaseCase_6 (F : TF) (N : TN) (Q : TQ) (l t : Env) (L : Lg) : wp F (q_slices_IndexFunc_CaseCase_6 N) l t L (w_slices_IndexFunc_CaseCase_2 F N Q) (y_slices_IndexFunc_CaseCase_5 F N Q) (fin [.tmp (.l 4)] Q) = D_slices_IndexFunc_CaseCase_6 F N Q l L := wpL (fun l t L k1 => e_slices_IndexFunc_CaseCase_7 F N Q k1 l t L) (by kernel_rfl)
def q_slices_IndexFunc_CaseCase_5 (N : TN) : ACode := (.block 0 (q_slices_IndexFunc_CaseCase_6 N))
theorem e_slices_IndexFunc_CaseCase_5 (F : TF) (N : TN) (Q : TQ) (l t : Env) (L : Lg) : wp F (q_slices_IndexFunc_CaseCase_5 N) l t L (w_slices_IndexFunc_CaseCase_2 F N Q) nE (fin [.tmp (.l 4)] Q) = D_slices_IndexFunc_CaseCase_6 F N Q l L := wpB (e_slices_IndexFunc_CaseCase_6 F N Q l t L)
def q_slices_IndexFunc_CaseCase_4a (N : TN) : ACode := (.reg [⟨.t 6, none, .mv, [.l 0]⟩, ⟨.l 7, none, .lenSl, [.t 6]⟩, ⟨.l 8, none, .mv, [.c (.i .i64 0)]⟩])
def q_slices_IndexFunc_CaseCase_4 (N : TN) : ACode := (.seq (q_slices_IndexFunc_CaseCase_4a N) (q_slices_IndexFunc_CaseCase_5 N))
noncomputable def D_slices_IndexFunc_CaseCase_4 (F : TF) (N : TN) (Q : TQ) (l : Env) (L : Lg) : Prop :=
 wpOp F .lenSl [(l 0)] L fun v1 L1 =>
 D_slices_IndexFunc_CaseCase_6 F N Q (Env.put (Env.put l 7 v1) 8 (.i .i64 0)) L1
theorem e_slices_IndexFunc_CaseCase_4 (F : TF) (N : TN) (Q : TQ) (l t : Env) (L : Lg) : wp F (q_slices_IndexFunc_CaseCase_4 N) l t L (w_slices_IndexFunc_CaseCase_2 F N Q) nE (fin [.tmp (.l 4)] Q) = D_slices_IndexFunc_CaseCase_4 F N Q l L := wpS (e_slices_IndexFunc_CaseCase_5 F N Q) (by kernel_rfl)
def q_slices_IndexFunc_CaseCase_2 (N : TN) : ACode := (.seq (q_slices_IndexFunc_CaseCase_4 N) (q_slices_IndexFunc_CaseCase_3 N))
theorem e_slices_IndexFunc_CaseCase_2 (F : TF) (N : TN) (Q : TQ) (l t : Env) (L : Lg) : wp F (q_slices_IndexFunc_CaseCase_2 N) l t L (fin [.tmp (.l 4)] Q) nE (fin [.tmp (.l 4)] Q) = D_slices_IndexFunc_CaseCase_4 F N Q l L := wpS (e_slices_IndexFunc_CaseCase_3 F N Q) (e_slices_IndexFunc_CaseCase_4 F N Q l t L)
def q_slices_IndexFunc_CaseCase_1a (N : TN) : ACode := (.reg [⟨.l 4, none, .mv, [.c (.i .i64 0)]⟩])
def q_slices_IndexFunc_CaseCase_1 (N : TN) : ACode := (.seq (q_slices_IndexFunc_CaseCase_1a N) (q_slices_IndexFunc_CaseCase_2 N))
noncomputable def D_slices_IndexFunc_CaseCase_1 (F : TF) (N : TN) (Q : TQ) (l : Env) (L : Lg) : Prop :=
 D_slices_IndexFunc_CaseCase_4 F N Q (Env.put l 4 (.i .i64 0)) L
theorem e_slices_IndexFunc_CaseCase_1 (F : TF) (N : TN) (Q : TQ) (l t : Env) (L : Lg) : wp F (q_slices_IndexFunc_CaseCase_1 N) l t L (fin [.tmp (.l 4)] Q) nE (fin [.tmp (.l 4)] Q) = D_slices_IndexFunc_CaseCase_1 F N Q l L := wpS (e_slices_IndexFunc_CaseCase_2 F N Q) (by kernel_rfl)
/-- slices.IndexFunc[[]tarpaulin/api.Case,tarpaulin/api.Case] -/
def c_slices_IndexFunc_CaseCase (N : TN) : AFn := ⟨q_slices_IndexFunc_CaseCase_1 N, [.tmp (.l 4)]⟩
structure H_slices_IndexFunc_CaseCase (N : TN) (F : TF) : Prop where
  code : F (N k_slices_IndexFunc_CaseCase) = some (c_slices_IndexFunc_CaseCase N)
theorem r_slices_IndexFunc_CaseCase {F : TF} {N : TN} (h : F (N k_slices_IndexFunc_CaseCase) = some (c_slices_IndexFunc_CaseCase N)) {Q : TQ} {a0 a1 : AV} {L : Lg} (e : D_slices_IndexFunc_CaseCase_1 F N Q (initE [a0, a1] 0) L) : CallL F (N k_slices_IndexFunc_CaseCase) [a0, a1] L Q :=
  CallL.of_wp h (Eq.mpr (Eq.trans (e_slices_IndexFunc_CaseCase_1 F N Q (initE [a0, a1] 0) Env.nil L) (by kernel_rfl : _ = D_slices_IndexFunc_CaseCase_1 F N Q (initE [a0, a1] 0) L)) e)
def q_slices_ContainsFunc_CaseCase_1 (N : TN) : ACode := (.seq (.reg [⟨.l 4, none, .mv, [.c (.b false)]⟩]) (.seq (.reg [⟨.t 5, none, .mv, [.l 0]⟩, ⟨.t 6, none, .mv, [.l 1]⟩, ⟨.t 7, none, .call (N k_slices_IndexFunc_CaseCase), [.t 5, .t 6]⟩, ⟨.t 8, none, .bin .geq, [.t 7, .c (.i .i64 0)]⟩, ⟨.l 4, none, .mv, [.t 8]⟩]) .ret))
noncomputable def D_slices_ContainsFunc_CaseCase_1 (F : TF) (N : TN) (Q : TQ) (x0 : AV) (x1 : AV) (L : Lg) : Prop :=
 CallL F (N k_slices_IndexFunc_CaseCase) [x0, x1] L fun v1 L1 =>
 wpOp F (.bin .geq) [v1, (.i .i64 0)] L1 fun v2 L2 =>
 fin1 (some v2) Q L2
theorem e_slices_ContainsFunc_CaseCase_1 (F : TF) (N : TN) (Q : TQ) (l t : Env) (L : Lg) : wp F (q_slices_ContainsFunc_CaseCase_1 N) l t L (fin [.tmp (.l 4)] Q) nE (fin [.tmp (.l 4)] Q) = D_slices_ContainsFunc_CaseCase_1 F N Q (l 0) (l 1) L := by kernel_rfl
/-- slices.ContainsFunc[[]tarpaulin/api.Case,tarpaulin/api.Case] -/
def c_slices_ContainsFunc_CaseCase (N : TN) : AFn := ⟨q_slices_ContainsFunc_CaseCase_1 N, [.tmp (.l 4)]⟩
structure H_slices_ContainsFunc_CaseCase (N : TN) (F : TF) : Prop where
  code : F (N k_slices_ContainsFunc_CaseCase) = some (c_slices_ContainsFunc_CaseCase N)
  slices_IndexFunc_CaseCase : H_slices_IndexFunc_CaseCase N F
theorem r_slices_ContainsFunc_CaseCase {F : TF} {N : TN} (h : F (N k_slices_ContainsFunc_CaseCase) = some (c_slices_ContainsFunc_CaseCase N)) {Q : TQ} {a0 a1 : AV} {L : Lg} (e : D_slices_ContainsFunc_CaseCase_1 F N Q a0 a1 L) : CallL F (N k_slices_ContainsFunc_CaseCase) [a0, a1] L Q :=
  CallL.of_wp h (Eq.mpr (Eq.trans (e_slices_ContainsFunc_CaseCase_1 F N Q (initE [a0, a1] 0) Env.nil L) (by kernel_rfl : _ = D_slices_ContainsFunc_CaseCase_1 F N Q a0 a1 L)) e)
def q_prog_good_1_1 (N : TN) : ACode := (.seq (.reg [⟨.l 1, none, .box, [.l 0]⟩, ⟨.l 2, none, .mv, [.c (.b false)]⟩]) (.seq (.reg [⟨.t 3, none, .fad 1, [.l 1]⟩, ⟨.t 4, none, .ld none, [.t 3]⟩, ⟨.t 5, none, .call (N k_prog_register), [.t 4]⟩, ⟨.t 6, none, .un .not, [.t 5]⟩, ⟨.t 7, none, .mv, [.t 6]⟩, ⟨.t 8, some (.t 7, false), .fad 2, [.l 1]⟩, ⟨.t 9, some (.t 7, false), .ld none, [.t 8]⟩, ⟨.t 10, some (.t 7, false), .call (N k_prog_register), [.t 9]⟩, ⟨.t 11, some (.t 7, false), .un .not, [.t 10]⟩, ⟨.t 12, none, .pick, [.t 7, .c (.b true), .t 11]⟩, ⟨.t 13, none, .mv, [.t 12]⟩, ⟨.t 14, some (.t 13, false), .fad 0, [.l 1]⟩, ⟨.t 15, some (.t 13, false), .ld none, [.t 14]⟩, ⟨.t 16, some (.t 13, false), .un .not, [.t 15]⟩, ⟨.t 17, some (.t 13, false), .mv, [.t 16]⟩, ⟨.t 18, some (.t 17, true), .fad 2, [.l 1]⟩, ⟨.t 19, some (.t 17, true), .ld none, [.t 18]⟩, ⟨.t 20, some (.t 17, true), .bin .neq, [.t 19, .c (.i .i64 0)]⟩, ⟨.t 21, some (.t 13, false), .pick, [.t 17, .t 20, .c (.b false)]⟩, ⟨.t 22, none, .pick, [.t 13, .c (.b true), .t 21]⟩, ⟨.l 2, none, .mv, [.t 22]⟩]) .ret))
noncomputable def D_prog_good_1_1 (F : TF) (N : TN) (Q : TQ) (x0 : AV) (L : Lg) : Prop :=
 wpOp F .box [x0] L fun v1 L1 =>
 wpOp F (.fad 1) [v1] L1 fun v2 L2 =>
 wpOp F (.ld none) [v2] L2 fun v3 L3 =>
 CallL F (N k_prog_register) [v3] L3 fun v4 L4 =>
 wpOp F (.un .not) [v4] L4 fun v5 L5 =>
 gdOp F v5 false (.fad 2) [v1] L5 fun v6 L6 =>
 gdOp F v5 false (.ld none) [v6] L6 fun v7 L7 =>
 gdOp F v5 false (.call (N k_prog_register)) [v7] L7 fun v8 L8 =>
 gdOp F v5 false (.un .not) [v8] L8 fun v9 L9 =>
 wpOp F .pick [v5, (.b true), v9] L9 fun v10 L10 =>
 gdOp F v10 false (.fad 0) [v1] L10 fun v11 L11 =>
 gdOp F v10 false (.ld none) [v11] L11 fun v12 L12 =>
 gdOp F v10 false (.un .not) [v12] L12 fun v13 L13 =>
 gdOp F v10 false .mv [v13] L13 fun v14 L14 =>
 gdOp F v14 true (.fad 2) [v1] L14 fun v15 L15 =>
 gdOp F v14 true (.ld none) [v15] L15 fun v16 L16 =>
 gdOp F v14 true (.bin .neq) [v16, (.i .i64 0)] L16 fun v17 L17 =>
 gdOp F v10 false .pick [v14, v17, (.b false)] L17 fun v18 L18 =>
 wpOp F .pick [v10, (.b true), v18] L18 fun v19 L19 =>
 fin1 (some v19) Q L19
theorem e_prog_good_1_1 (F : TF) (N : TN) (Q : TQ) (l t : Env) (L : Lg) : wp F (q_prog_good_1_1 N) l t L (fin [.tmp (.l 2)] Q) nE (fin [.tmp (.l 2)] Q) = D_prog_good_1_1 F N Q (l 0) L := by kernel_rfl
/-- tarpaulin/prog.good$1 -/
def c_prog_good_1 (N : TN) : AFn := ⟨q_prog_good_1_1 N, [.tmp (.l 2)]⟩
structure H_prog_good_1 (N : TN) (F : TF) : Prop where
  code : F (N k_prog_good_1) = some (c_prog_good_1 N)
  prog_register : H_prog_register N F
theorem r_prog_good_1 {F : TF} {N : TN} (h : F (N k_prog_good_1) = some (c_prog_good_1 N)) {Q : TQ} {a0 : AV} {L : Lg} (e : D_prog_good_1_1 F N Q a0 L) : CallL F (N k_prog_good_1) [a0] L Q :=
  CallL.of_wp h (Eq.mpr (Eq.trans (e_prog_good_1_1 F N Q (initE [a0] 0) Env.nil L) (by kernel_rfl : _ = D_prog_good_1_1 F N Q a0 L)) e)
def q_prog_good_4 (N : TN) : ACode := (.seq (.reg [⟨.t 61, none, .fad 4, [.l 2]⟩, ⟨.t 62, none, .ld none, [.t 61]⟩, ⟨.t 63, none, .call (N k_slices_ContainsFunc_CaseCase), [.t 62, .c (.fn (N k_prog_good_1) [] [])]⟩, ⟨.t 64, none, .un .not, [.t 63]⟩, ⟨.l 4, none, .mv, [.t 64]⟩]) .ret)
noncomputable def D_prog_good_4 (F : TF) (N : TN) (Q : TQ) (x2 : AV) (L : Lg) : Prop :=
 wpOp F (.fad 4) [x2] L fun v1 L1 =>
 wpOp F (.ld none) [v1] L1 fun v2 L2 =>
 CallL F (N k_slices_ContainsFunc_CaseCase) [v2, (.fn (N k_prog_good_1) [] [])] L2 fun v3 L3 =>
 wpOp F (.un .not) [v3] L3 fun v4 L4 =>
 fin1 (some v4) Q L4
theorem e_prog_good_4 (F : TF) (N : TN) (Q : TQ) (l t : Env) (L : Lg) : wp F (q_prog_good_4 N) l t L (fin [.tmp (.l 4)] Q) nE (fin [.tmp (.l 4)] Q) = D_prog_good_4 F N Q (l 2) L := by kernel_rfl
def y_prog_good_6 (F : TF) (N : TN) (Q : TQ) : Nat → Kn := (fun (j : Nat) (l t : Env) (L : Lg) => bif Nat.beq j 0 then (fun (l t : Env) (L : Lg) => D_prog_good_4 F N Q (l 2) L) l t L else nE j l t L)
def q_prog_good_8 (N : TN) : ACode := (.seq (.reg [⟨.t 45, none, .bin .lss, [.l 44, .l 43]⟩]) (.seq (.cond (.t 45) .skip (.exit 0)) (.seq (.block 1 (.seq (.reg [⟨.t 46, none, .mv, [.l 44]⟩, ⟨.t 47, none, .iad 1, [.l 42, .l 44]⟩, ⟨.t 48, none, .ld none, [.t 47]⟩, ⟨.l 5, none, .mv, [.t 46]⟩, ⟨.l 6, none, .mv, [.t 48]⟩]) (.seq (.reg [⟨.t 49, none, .fad 0, [.l 2]⟩, ⟨.t 50, none, .ld none, [.t 49]⟩, ⟨.t 51, none, .bin .sub, [.t 50, .c (.i .i64 1)]⟩, ⟨.t 52, none, .bin .mul, [.c (.i .i64 3), .t 51]⟩, ⟨.t 53, none, .mv, [.l 5]⟩, ⟨.t 54, none, .bin .add, [.t 52, .t 53]⟩, ⟨.t 55, none, .ixS, [.c (.s [114, 110, 45, 114, 114, 45, 114, 110, 45, 112, 45, 45, 114, 112, 45, 114, 45, 45, 45, 45, 45, 114, 103, 45, 114, 110, 45, 114, 114, 45, 114, 114, 114, 114, 45, 45, 114, 114, 45, 114, 114, 45, 114, 114, 114, 114, 45, 45, 114, 114, 114, 114, 114, 114, 114, 114, 103, 114, 114, 45, 114, 114, 114, 114, 114, 45, 114, 114, 114, 114, 114, 114, 114, 114, 45, 114, 114, 45, 114, 114, 45, 114, 114, 45, 114, 114, 45, 114, 114, 114, 114, 114, 103, 114, 114, 45]), .t 54]⟩, ⟨.t 56, none, .mv, [.l 6]⟩, ⟨.t 57, none, .mv, [.l 1]⟩, ⟨.t 58, none, .call (N k_prog_may), [.t 55, .t 56, .t 57]⟩, ⟨.t 59, none, .un .not, [.t 58]⟩]) (.cond (.t 59) (.seq (.reg [⟨.l 4, none, .mv, [.c (.b false)]⟩]) .ret) .skip)))) (.reg [⟨.t 60, none, .bin .add, [.l 44, .c (.i .i64 1)]⟩, ⟨.l 44, none, .mv, [.t 60]⟩]))))
noncomputable def D_prog_good_8 (F : TF) (N : TN) (Q : TQ) (k1 : TK) (l : Env) (L : Lg) : Prop :=
 wpOp F (.bin .lss) [(l 44), (l 43)] L fun v1 L1 =>
 condW v1
 (wpOp F (.iad 1) [(l 42), (l 44)] L1 fun v2 L2 =>
 wpOp F (.ld none) [v2] L2 fun v3 L3 =>
 wpOp F (.fad 0) [(l 2)] L3 fun v4 L4 =>
 wpOp F (.ld none) [v4] L4 fun v5 L5 =>
 wpOp F (.bin .sub) [v5, (.i .i64 1)] L5 fun v6 L6 =>
 wpOp F (.bin .mul) [(.i .i64 3), v6] L6 fun v7 L7 =>
 wpOp F (.bin .add) [v7, (l 44)] L7 fun v8 L8 =>
 wpOp F .ixS [(.s [114, 110, 45, 114, 114, 45, 114, 110, 45, 112, 45, 45, 114, 112, 45, 114, 45, 45, 45, 45, 45, 114, 103, 45, 114, 110, 45, 114, 114, 45, 114, 114, 114, 114, 45, 45, 114, 114, 45, 114, 114, 45, 114, 114, 114, 114, 45, 45, 114, 114, 114, 114, 114, 114, 114, 114, 103, 114, 114, 45, 114, 114, 114, 114, 114, 45, 114, 114, 114, 114, 114, 114, 114, 114, 45, 114, 114, 45, 114, 114, 45, 114, 114, 45, 114, 114, 45, 114, 114, 114, 114, 114, 103, 114, 114, 45]), v8] L8 fun v9 L9 =>
 CallL F (N k_prog_may) [v9, v3, (l 1)] L9 fun v10 L10 =>
 wpOp F (.un .not) [v10] L10 fun v11 L11 =>
 condW v11
 (fin1 (some (.b false)) Q L11)
 (wpOp F (.bin .add) [(l 44), (.i .i64 1)] L11 fun v12 L12 =>
 k1 (Env.put (Env.put (Env.put l 5 (l 44)) 6 v3) 44 v12) L12))
 (D_prog_good_4 F N Q (l 2) L1)
theorem e_prog_good_8 (F : TF) (N : TN) (Q : TQ) (k1 : TK) (l t : Env) (L : Lg) : wp F (q_prog_good_8 N) l t L (fun (l _ : Env) (L : Lg) => k1 l L) (y_prog_good_6 F N Q) (fin [.tmp (.l 4)] Q) = D_prog_good_8 F N Q k1 l L := by kernel_rfl
def q_prog_good_7 (N : TN) : ACode := (.loop (q_prog_good_8 N))
noncomputable def D_prog_good_7 (F : TF) (N : TN) (Q : TQ) (l : Env) (L : Lg) : Prop :=
 loopW (fun l t L k1 => D_prog_good_8 F N Q k1 l L) l L
theorem e_prog_good_7 (F : TF) (N : TN) (Q : TQ) (l t : Env) (L : Lg) : wp F (q_prog_good_7 N) l t L (fun (l t : Env) (L : Lg) => D_prog_good_4 F N Q (l 2) L) (y_prog_good_6 F N Q) (fin [.tmp (.l 4)] Q) = D_prog_good_7 F N Q l L := wpL (fun l t L k1 => e_prog_good_8 F N Q k1 l t L) (by kernel_rfl)
def q_prog_good_6 (N : TN) : ACode := (.block 0 (q_prog_good_7 N))
theorem e_prog_good_6 (F : TF) (N : TN) (Q : TQ) (l t : Env) (L : Lg) : wp F (q_prog_good_6 N) l t L (fun (l t : Env) (L : Lg) => D_prog_good_4 F N Q (l 2) L) nE (fin [.tmp (.l 4)] Q) = D_prog_good_7 F N Q l L := wpB (e_prog_good_7 F N Q l t L)
def q_prog_good_5a (N : TN) : ACode := (.reg [⟨.t 36, none, .fad 1, [.l 2]⟩, ⟨.t 37, none, .ld none, [.t 36]⟩, ⟨.t 38, none, .fad 2, [.l 2]⟩, ⟨.t 39, none, .ld none, [.t 38]⟩, ⟨.t 40, none, .fad 3, [.l 2]⟩, ⟨.t 41, none, .ld none, [.t 40]⟩, ⟨.l 42, none, .bslice [.i .i64 0] 3 1 [0, 1, 2], [.t 37, .t 39, .t 41]⟩, ⟨.l 43, none, .lenSl, [.l 42]⟩, ⟨.l 44, none, .mv, [.c (.i .i64 0)]⟩])
def q_prog_good_5 (N : TN) : ACode := (.seq (q_prog_good_5a N) (q_prog_good_6 N))
noncomputable def D_prog_good_5 (F : TF) (N : TN) (Q : TQ) (l : Env) (L : Lg) : Prop :=
 wpOp F (.fad 1) [(l 2)] L fun v1 L1 =>
 wpOp F (.ld none) [v1] L1 fun v2 L2 =>
 wpOp F (.fad 2) [(l 2)] L2 fun v3 L3 =>
 wpOp F (.ld none) [v3] L3 fun v4 L4 =>
 wpOp F (.fad 3) [(l 2)] L4 fun v5 L5 =>
 wpOp F (.ld none) [v5] L5 fun v6 L6 =>
 wpOp F (.bslice [.i .i64 0] 3 1 [0, 1, 2]) [v2, v4, v6] L6 fun v7 L7 =>
 wpOp F .lenSl [v7] L7 fun v8 L8 =>
 D_prog_good_7 F N Q (Env.put (Env.put (Env.put l 42 v7) 43 v8) 44 (.i .i64 0)) L8
theorem e_prog_good_5 (F : TF) (N : TN) (Q : TQ) (l t : Env) (L : Lg) : wp F (q_prog_good_5 N) l t L (fun (l t : Env) (L : Lg) => D_prog_good_4 F N Q (l 2) L) nE (fin [.tmp (.l 4)] Q) = D_prog_good_5 F N Q l L := wpS (e_prog_good_6 F N Q) (by kernel_rfl)
def q_prog_good_3 (N : TN) : ACode := (.seq (q_prog_good_5 N) (q_prog_good_4 N))
theorem e_prog_good_3 (F : TF) (N : TN) (Q : TQ) (l t : Env) (L : Lg) : wp F (q_prog_good_3 N) l t L (fin [.tmp (.l 4)] Q) nE (fin [.tmp (.l 4)] Q) = D_prog_good_5 F N Q l L := wpS (e_prog_good_4 F N Q) (e_prog_good_5 F N Q l t L)
def q_prog_good_2a (N : TN) : ACode := (.seq (.reg [⟨.t 7, none, .fad 0, [.l 2]⟩, ⟨.t 8, none, .ld none, [.t 7]⟩, ⟨.t 9, none, .bin .lss, [.t 8, .c (.i .i64 1)]⟩, ⟨.t 10, none, .mv, [.t 9]⟩, ⟨.t 11, some (.t 10, false), .fad 0, [.l 2]⟩, ⟨.t 12, some (.t 10, false), .ld none, [.t 11]⟩, ⟨.t 13, some (.t 10, false), .bin .gtr, [.t 12, .c (.i .i64 32)]⟩, ⟨.t 14, none, .pick, [.t 10, .c (.b true), .t 13]⟩, ⟨.t 15, none, .mv, [.t 14]⟩, ⟨.t 16, some (.t 15, false), .fad 0, [.l 2]⟩, ⟨.t 17, some (.t 15, false), .ld none, [.t 16]⟩, ⟨.t 18, some (.t 15, false), .bin .neq, [.t 17, .c (.i .i64 15)]⟩, ⟨.t 19, some (.t 15, false), .mv, [.t 18]⟩, ⟨.t 20, some (.t 19, true), .fad 4, [.l 2]⟩, ⟨.t 21, some (.t 19, true), .ld none, [.t 20]⟩, ⟨.t 22, some (.t 19, true), .lenSl, [.t 21]⟩, ⟨.t 23, some (.t 19, true), .bin .gtr, [.t 22, .c (.i .i64 0)]⟩, ⟨.t 24, some (.t 19, true), .mv, [.t 23]⟩, ⟨.t 25, some (.t 24, false), .fad 5, [.l 2]⟩, ⟨.t 26, some (.t 24, false), .ld none, [.t 25]⟩, ⟨.t 27, some (.t 19, true), .pick, [.t 24, .c (.b true), .t 26]⟩, ⟨.t 28, some (.t 15, false), .pick, [.t 19, .t 27, .c (.b false)]⟩, ⟨.t 29, none, .pick, [.t 15, .c (.b true), .t 28]⟩, ⟨.t 30, none, .mv, [.t 29]⟩, ⟨.t 31, some (.t 30, false), .fad 4, [.l 2]⟩, ⟨.t 32, some (.t 30, false), .ld none, [.t 31]⟩, ⟨.t 33, some (.t 30, false), .lenSl, [.t 32]⟩, ⟨.t 34, some (.t 30, false), .bin .gtr, [.t 33, .c (.i .i64 16)]⟩, ⟨.t 35, none, .pick, [.t 30, .c (.b true), .t 34]⟩]) (.cond (.t 35) (.seq (.reg [⟨.l 4, none, .mv, [.c (.b false)]⟩]) .ret) .skip))
def q_prog_good_2 (N : TN) : ACode := (.seq (q_prog_good_2a N) (q_prog_good_3 N))
noncomputable def D_prog_good_2 (F : TF) (N : TN) (Q : TQ) (l : Env) (L : Lg) : Prop :=
 wpOp F (.fad 0) [(l 2)] L fun v1 L1 =>
 wpOp F (.ld none) [v1] L1 fun v2 L2 =>
 wpOp F (.bin .lss) [v2, (.i .i64 1)] L2 fun v3 L3 =>
 gdOp F v3 false (.fad 0) [(l 2)] L3 fun v4 L4 =>
 gdOp F v3 false (.ld none) [v4] L4 fun v5 L5 =>
 gdOp F v3 false (.bin .gtr) [v5, (.i .i64 32)] L5 fun v6 L6 =>
 wpOp F .pick [v3, (.b true), v6] L6 fun v7 L7 =>
 gdOp F v7 false (.fad 0) [(l 2)] L7 fun v8 L8 =>
 gdOp F v7 false (.ld none) [v8] L8 fun v9 L9 =>
 gdOp F v7 false (.bin .neq) [v9, (.i .i64 15)] L9 fun v10 L10 =>
 gdOp F v7 false .mv [v10] L10 fun v11 L11 =>
 gdOp F v11 true (.fad 4) [(l 2)] L11 fun v12 L12 =>
 gdOp F v11 true (.ld none) [v12] L12 fun v13 L13 =>
 gdOp F v11 true .lenSl [v13] L13 fun v14 L14 =>
 gdOp F v11 true (.bin .gtr) [v14, (.i .i64 0)] L14 fun v15 L15 =>
 gdOp F v11 true .mv [v15] L15 fun v16 L16 =>
 gdOp F v16 false (.fad 5) [(l 2)] L16 fun v17 L17 =>
 gdOp F v16 false (.ld none) [v17] L17 fun v18 L18 =>
 gdOp F v11 true .pick [v16, (.b true), v18] L18 fun v19 L19 =>
 gdOp F v7 false .pick [v11, v19, (.b false)] L19 fun v20 L20 =>
 wpOp F .pick [v7, (.b true), v20] L20 fun v21 L21 =>
 gdOp F v21 false (.fad 4) [(l 2)] L21 fun v22 L22 =>
 gdOp F v21 false (.ld none) [v22] L22 fun v23 L23 =>
 gdOp F v21 false .lenSl [v23] L23 fun v24 L24 =>
 gdOp F v21 false (.bin .gtr) [v24, (.i .i64 16)] L24 fun v25 L25 =>
 wpOp F .pick [v21, (.b true), v25] L25 fun v26 L26 =>
 condW v26
 (fin1 (some (.b false)) Q L26)
 (D_prog_good_5 F N Q l L26)
theorem e_prog_good_2 (F : TF) (N : TN) (Q : TQ) (l t : Env) (L : Lg) : wp F (q_prog_good_2 N) l t L (fin [.tmp (.l 4)] Q) nE (fin [.tmp (.l 4)] Q) = D_prog_good_2 F N Q l L := wpS (e_prog_good_3 F N Q) (by kernel_rfl)
def q_prog_good_1a (N : TN) : ACode := (.reg [⟨.l 2, none, .box, [.l 0]⟩, ⟨.l 4, none, .mv, [.c (.b false)]⟩])
def q_prog_good_1 (N : TN) : ACode := (.seq (q_prog_good_1a N) (q_prog_good_2 N))
noncomputable def D_prog_good_1 (F : TF) (N : TN) (Q : TQ) (l : Env) (L : Lg) : Prop :=
 wpOp F .box [(l 0)] L fun v1 L1 =>
 D_prog_good_2 F N Q (Env.put (Env.put l 2 v1) 4 (.b false)) L1
theorem e_prog_good_1 (F : TF) (N : TN) (Q : TQ) (l t : Env) (L : Lg) : wp F (q_prog_good_1 N) l t L (fin [.tmp (.l 4)] Q) nE (fin [.tmp (.l 4)] Q) = D_prog_good_1 F N Q l L := wpS (e_prog_good_2 F N Q) (by kernel_rfl)
/-- tarpaulin/prog.good -/
def c_prog_good (N : TN) : AFn := ⟨q_prog_good_1 N, [.tmp (.l 4)]⟩
structure H_prog_good (N : TN) (F : TF) : Prop where
  code : F (N k_prog_good) = some (c_prog_good N)
  prog_may : H_prog_may N F
  slices_ContainsFunc_CaseCase : H_slices_ContainsFunc_CaseCase N F
  prog_good_1 : H_prog_good_1 N F
theorem r_prog_good {F : TF} {N : TN} (h : F (N k_prog_good) = some (c_prog_good N)) {Q : TQ} {a0 a1 : AV} {L : Lg} (e : D_prog_good_1 F N Q (initE [a0, a1] 0) L) : CallL F (N k_prog_good) [a0, a1] L Q :=
  CallL.of_wp h (Eq.mpr (Eq.trans (e_prog_good_1 F N Q (initE [a0, a1] 0) Env.nil L) (by kernel_rfl : _ = D_prog_good_1 F N Q (initE [a0, a1] 0) L)) e)
def q_prog_Check_1_1 (N : TN) : ACode := (.seq (.reg [⟨.l 2, none, .box, [.l 0]⟩, ⟨.l 3, none, .mv, [.c (.b false)]⟩]) (.seq (.reg [⟨.t 4, none, .ld (some 6), [.l 2]⟩, ⟨.t 5, none, .ld none, [.l 1]⟩, ⟨.t 6, none, .lenSl, [.t 5]⟩, ⟨.t 7, none, .call (N k_prog_good), [.t 4, .t 6]⟩, ⟨.t 8, none, .un .not, [.t 7]⟩, ⟨.l 3, none, .mv, [.t 8]⟩]) .ret))
noncomputable def D_prog_Check_1_1 (F : TF) (N : TN) (Q : TQ) (x0 : AV) (x1 : AV) (L : Lg) : Prop :=
 wpOp F .box [x0] L fun v1 L1 =>
 wpOp F (.ld (some 6)) [v1] L1 fun v2 L2 =>
 wpOp F (.ld none) [x1] L2 fun v3 L3 =>
 wpOp F .lenSl [v3] L3 fun v4 L4 =>
 CallL F (N k_prog_good) [v2, v4] L4 fun v5 L5 =>
 wpOp F (.un .not) [v5] L5 fun v6 L6 =>
 fin1 (some v6) Q L6
theorem e_prog_Check_1_1 (F : TF) (N : TN) (Q : TQ) (l t : Env) (L : Lg) : wp F (q_prog_Check_1_1 N) l t L (fin [.tmp (.l 3)] Q) nE (fin [.tmp (.l 3)] Q) = D_prog_Check_1_1 F N Q (l 0) (l 1) L := by kernel_rfl
/-- tarpaulin/prog.Check$1 -/
def c_prog_Check_1 (N : TN) : AFn := ⟨q_prog_Check_1_1 N, [.tmp (.l 3)]⟩
structure H_prog_Check_1 (N : TN) (F : TF) : Prop where
  code : F (N k_prog_Check_1) = some (c_prog_Check_1 N)
  prog_good : H_prog_good N F
theorem r_prog_Check_1 {F : TF} {N : TN} (h : F (N k_prog_Check_1) = some (c_prog_Check_1 N)) {Q : TQ} {a0 a1 : AV} {L : Lg} (e : D_prog_Check_1_1 F N Q a0 a1 L) : CallL F (N k_prog_Check_1) [a0, a1] L Q :=
  CallL.of_wp h (Eq.mpr (Eq.trans (e_prog_Check_1_1 F N Q (initE [a0, a1] 0) Env.nil L) (by kernel_rfl : _ = D_prog_Check_1_1 F N Q a0 a1 L)) e)
def q_slices_IndexFunc_InstrInstr_3 (N : TN) : ACode := (.seq (.reg [⟨.l 4, none, .mv, [.c (.i .i64 (-1))]⟩]) .ret)
noncomputable def D_slices_IndexFunc_InstrInstr_3 (F : TF) (N : TN) (Q : TQ) (L : Lg) : Prop :=
 fin1 (some (.i .i64 (-1))) Q L
theorem e_slices_IndexFunc_InstrInstr_3 (F : TF) (N : TN) (Q : TQ) (l t : Env) (L : Lg) : wp F (q_slices_IndexFunc_InstrInstr_3 N) l t L (fin [.tmp (.l 4)] Q) nE (fin [.tmp (.l 4)] Q) = D_slices_IndexFunc_InstrInstr_3 F N Q L := by kernel_rfl
def w_slices_IndexFunc_InstrInstr_2 (F : TF) (N : TN) (Q : TQ) : Kn := (fun (l t : Env) (L : Lg) => D_slices_IndexFunc_InstrInstr_3 F N Q L)
def y_slices_IndexFunc_InstrInstr_5 (F : TF) (N : TN) (Q : TQ) : Nat → Kn := (fun (j : Nat) (l t : Env) (L : Lg) => bif Nat.beq j 0 then (w_slices_IndexFunc_InstrInstr_2 F N Q) l t L else nE j l t L)
def q_slices_IndexFunc_InstrInstr_7 (N : TN) : ACode := (.seq (.reg [⟨.t 9, none, .bin .lss, [.l 8, .l 7]⟩]) (.seq (.cond (.t 9) .skip (.exit 0)) (.seq (.block 1 (.seq (.reg [⟨.t 10, none, .mv, [.l 8]⟩, ⟨.l 5, none, .mv, [.t 10]⟩]) (.seq (.reg [⟨.t 11, none, .mv, [.l 1]⟩, ⟨.t 12, none, .mv, [.l 0]⟩, ⟨.t 13, none, .mv, [.l 5]⟩, ⟨.t 14, none, .iad 6, [.t 12, .t 13]⟩, ⟨.t 15, none, .ld (some 6), [.t 14]⟩, ⟨.t 16, none, .callv, [.t 11, .t 15]⟩]) (.cond (.t 16) (.seq (.reg [⟨.t 17, none, .mv, [.l 5]⟩, ⟨.l 4, none, .mv, [.t 17]⟩]) .ret) .skip)))) (.reg [⟨.t 18, none, .bin .add, [.l 8, .c (.i .i64 1)]⟩, ⟨.l 8, none, .mv, [.t 18]⟩]))))
noncomputable def D_slices_IndexFunc_InstrInstr_7 (F : TF) (N : TN) (Q : TQ) (k1 : TK) (l : Env) (L : Lg) : Prop :=
 wpOp F (.bin .lss) [(l 8), (l 7)] L fun v1 L1 =>
 condW v1
 (wpOp F (.iad 6) [(l 0), (l 8)] L1 fun v2 L2 =>
 wpOp F (.ld (some 6)) [v2] L2 fun v3 L3 =>
 wpOp F .callv [(l 1), v3] L3 fun v4 L4 =>
 condW v4
 (fin1 (some (l 8)) Q L4)
 (wpOp F (.bin .add) [(l 8), (.i .i64 1)] L4 fun v5 L5 =>
 k1 (Env.put (Env.put l 5 (l 8)) 8 v5) L5))
 (D_slices_IndexFunc_InstrInstr_3 F N Q L1)
theorem e_slices_IndexFunc_InstrInstr_7 (F : TF) (N : TN) (Q : TQ) (k1 : TK) (l t : Env) (L : Lg) : wp F (q_slices_IndexFunc_InstrInstr_7 N) l t L (fun (l _ : Env) (L : Lg) => k1 l L) (y_slices_IndexFunc_InstrInstr_5 F N Q) (fin [.tmp (.l 4)] Q) = D_slices_IndexFunc_InstrInstr_7 F N Q k1 l L := by kernel_rfl
def q_slices_IndexFunc_InstrInstr_6 (N : TN) : ACode := (.loop (q_slices_IndexFunc_InstrInstr_7 N))
noncomputable def D_slices_IndexFunc_InstrInstr_6 (F : TF) (N : TN) (Q : TQ) (l : Env) (L : Lg) : Prop :=
 loopW (fun l t L k1 => D_slices_IndexFunc_InstrInstr_7 F N Q k1 l L) l L
theorem e_slices_IndexFunc_InstrInstr_6 (F : TF) (N : TN) (Q : TQ) (l t : Env) (L : Lg) : wp F (q_slices_IndexFunc_InstrInstr_6 N) l t L (w_slices_IndexFunc_InstrInstr_2 F N Q) (y_slices_IndexFunc_InstrInstr_5 F N Q) (fin [.tmp (.l 4)] Q) = D_slices_IndexFunc_InstrInstr_6 F N Q l L := wpL (fun l t L k1 => e_slices_IndexFunc_InstrInstr_7 F N Q k1 l t L) (by kernel_rfl)
def q_slices_IndexFunc_InstrInstr_5 (N : TN) : ACode := (.block 0 (q_slices_IndexFunc_InstrInstr_6 N))
theorem e_slices_IndexFunc_InstrInstr_5 (F : TF) (N : TN) (Q : TQ) (l t : Env) (L : Lg) : wp F (q_slices_IndexFunc_InstrInstr_5 N) l t L (w_slices_IndexFunc_InstrInstr_2 F N Q) nE (fin [.tmp (.l 4)] Q) = D_slices_IndexFunc_InstrInstr_6 F N Q l L := wpB (e_slices_IndexFunc_InstrInstr_6 F N Q l t L)
def q_slices_IndexFunc_InstrInstr_4a (N : TN) : ACode := (.reg [⟨.t 6, none, .mv, [.l 0]⟩, ⟨.l 7, none, .lenSl, [.t 6]⟩, ⟨.l 8, none, .mv, [.c (.i .i64 0)]⟩])
def q_slices_IndexFunc_InstrInstr_4 (N : TN) : ACode := (.seq (q_slices_IndexFunc_InstrInstr_4a N) (q_slices_IndexFunc_InstrInstr_5 N))
noncomputable def D_slices_IndexFunc_InstrInstr_4 (F : TF) (N : TN) (Q : TQ) (l : Env) (L : Lg) : Prop :=
 wpOp F .lenSl [(l 0)] L fun v1 L1 =>
 D_slices_IndexFunc_InstrInstr_6 F N Q (Env.put (Env.put l 7 v1) 8 (.i .i64 0)) L1
theorem e_slices_IndexFunc_InstrInstr_4 (F : TF) (N : TN) (Q : TQ) (l t : Env) (L : Lg) : wp F (q_slices_IndexFunc_InstrInstr_4 N) l t L (w_slices_IndexFunc_InstrInstr_2 F N Q) nE (fin [.tmp (.l 4)] Q) = D_slices_IndexFunc_InstrInstr_4 F N Q l L := wpS (e_slices_IndexFunc_InstrInstr_5 F N Q) (by kernel_rfl)
def q_slices_IndexFunc_InstrInstr_2 (N : TN) : ACode := (.seq (q_slices_IndexFunc_InstrInstr_4 N) (q_slices_IndexFunc_InstrInstr_3 N))
theorem e_slices_IndexFunc_InstrInstr_2 (F : TF) (N : TN) (Q : TQ) (l t : Env) (L : Lg) : wp F (q_slices_IndexFunc_InstrInstr_2 N) l t L (fin [.tmp (.l 4)] Q) nE (fin [.tmp (.l 4)] Q) = D_slices_IndexFunc_InstrInstr_4 F N Q l L := wpS (e_slices_IndexFunc_InstrInstr_3 F N Q) (e_slices_IndexFunc_InstrInstr_4 F N Q l t L)
def q_slices_IndexFunc_InstrInstr_1a (N : TN) : ACode := (.reg [⟨.l 4, none, .mv, [.c (.i .i64 0)]⟩])
def q_slices_IndexFunc_InstrInstr_1 (N : TN) : ACode := (.seq (q_slices_IndexFunc_InstrInstr_1a N) (q_slices_IndexFunc_InstrInstr_2 N))
noncomputable def D_slices_IndexFunc_InstrInstr_1 (F : TF) (N : TN) (Q : TQ) (l : Env) (L : Lg) : Prop :=
 D_slices_IndexFunc_InstrInstr_4 F N Q (Env.put l 4 (.i .i64 0)) L
theorem e_slices_IndexFunc_InstrInstr_1 (F : TF) (N : TN) (Q : TQ) (l t : Env) (L : Lg) : wp F (q_slices_IndexFunc_InstrInstr_1 N) l t L (fin [.tmp (.l 4)] Q) nE (fin [.tmp (.l 4)] Q) = D_slices_IndexFunc_InstrInstr_1 F N Q l L := wpS (e_slices_IndexFunc_InstrInstr_2 F N Q) (by kernel_rfl)
/-- slices.IndexFunc[[]tarpaulin/api.Instr,tarpaulin/api.Instr] -/
def c_slices_IndexFunc_InstrInstr (N : TN) : AFn := ⟨q_slices_IndexFunc_InstrInstr_1 N, [.tmp (.l 4)]⟩
structure H_slices_IndexFunc_InstrInstr (N : TN) (F : TF) : Prop where
  code : F (N k_slices_IndexFunc_InstrInstr) = some (c_slices_IndexFunc_InstrInstr N)
theorem r_slices_IndexFunc_InstrInstr {F : TF} {N : TN} (h : F (N k_slices_IndexFunc_InstrInstr) = some (c_slices_IndexFunc_InstrInstr N)) {Q : TQ} {a0 a1 : AV} {L : Lg} (e : D_slices_IndexFunc_InstrInstr_1 F N Q (initE [a0, a1] 0) L) : CallL F (N k_slices_IndexFunc_InstrInstr) [a0, a1] L Q :=
  CallL.of_wp h (Eq.mpr (Eq.trans (e_slices_IndexFunc_InstrInstr_1 F N Q (initE [a0, a1] 0) Env.nil L) (by kernel_rfl : _ = D_slices_IndexFunc_InstrInstr_1 F N Q (initE [a0, a1] 0) L)) e)
def q_slices_ContainsFunc_InstrInstr_1 (N : TN) : ACode := (.seq (.reg [⟨.l 4, none, .mv, [.c (.b false)]⟩]) (.seq (.reg [⟨.t 5, none, .mv, [.l 0]⟩, ⟨.t 6, none, .mv, [.l 1]⟩, ⟨.t 7, none, .call (N k_slices_IndexFunc_InstrInstr), [.t 5, .t 6]⟩, ⟨.t 8, none, .bin .geq, [.t 7, .c (.i .i64 0)]⟩, ⟨.l 4, none, .mv, [.t 8]⟩]) .ret))
noncomputable def D_slices_ContainsFunc_InstrInstr_1 (F : TF) (N : TN) (Q : TQ) (x0 : AV) (x1 : AV) (L : Lg) : Prop :=
 CallL F (N k_slices_IndexFunc_InstrInstr) [x0, x1] L fun v1 L1 =>
 wpOp F (.bin .geq) [v1, (.i .i64 0)] L1 fun v2 L2 =>
 fin1 (some v2) Q L2
theorem e_slices_ContainsFunc_InstrInstr_1 (F : TF) (N : TN) (Q : TQ) (l t : Env) (L : Lg) : wp F (q_slices_ContainsFunc_InstrInstr_1 N) l t L (fin [.tmp (.l 4)] Q) nE (fin [.tmp (.l 4)] Q) = D_slices_ContainsFunc_InstrInstr_1 F N Q (l 0) (l 1) L := by kernel_rfl
/-- slices.ContainsFunc[[]tarpaulin/api.Instr,tarpaulin/api.Instr] -/
def c_slices_ContainsFunc_InstrInstr (N : TN) : AFn := ⟨q_slices_ContainsFunc_InstrInstr_1 N, [.tmp (.l 4)]⟩
structure H_slices_ContainsFunc_InstrInstr (N : TN) (F : TF) : Prop where
  code : F (N k_slices_ContainsFunc_InstrInstr) = some (c_slices_ContainsFunc_InstrInstr N)
  slices_IndexFunc_InstrInstr : H_slices_IndexFunc_InstrInstr N F
theorem r_slices_ContainsFunc_InstrInstr {F : TF} {N : TN} (h : F (N k_slices_ContainsFunc_InstrInstr) = some (c_slices_ContainsFunc_InstrInstr N)) {Q : TQ} {a0 a1 : AV} {L : Lg} (e : D_slices_ContainsFunc_InstrInstr_1 F N Q a0 a1 L) : CallL F (N k_slices_ContainsFunc_InstrInstr) [a0, a1] L Q :=
  CallL.of_wp h (Eq.mpr (Eq.trans (e_slices_ContainsFunc_InstrInstr_1 F N Q (initE [a0, a1] 0) Env.nil L) (by kernel_rfl : _ = D_slices_ContainsFunc_InstrInstr_1 F N Q a0 a1 L)) e)
def q_prog_Check_1 (N : TN) : ACode := (.seq (.reg [⟨.l 1, none, .box, [.l 0]⟩, ⟨.l 2, none, .mv, [.c (.i .i64 0)]⟩]) (.seq (.seq (.reg [⟨.t 3, none, .ld none, [.l 1]⟩, ⟨.t 4, none, .lenSl, [.t 3]⟩, ⟨.t 5, none, .bin .gtr, [.t 4, .c (.i .i64 100)]⟩, ⟨.t 6, none, .mv, [.t 5]⟩, ⟨.t 7, some (.t 6, false), .ld none, [.l 1]⟩, ⟨.t 8, some (.t 6, false), .mkfn (N k_prog_Check_1) 0, [.l 1]⟩, ⟨.t 9, some (.t 6, false), .call (N k_slices_ContainsFunc_InstrInstr), [.t 7, .t 8]⟩, ⟨.t 10, none, .pick, [.t 6, .c (.b true), .t 9]⟩]) (.cond (.t 10) (.seq (.reg [⟨.l 2, none, .mv, [.c (.i .i64 1)]⟩]) .ret) .skip)) (.seq (.reg [⟨.l 2, none, .mv, [.c (.i .i64 0)]⟩]) .ret)))
noncomputable def D_prog_Check_1 (F : TF) (N : TN) (Q : TQ) (x0 : AV) (L : Lg) : Prop :=
 wpOp F .box [x0] L fun v1 L1 =>
 wpOp F (.ld none) [v1] L1 fun v2 L2 =>
 wpOp F .lenSl [v2] L2 fun v3 L3 =>
 wpOp F (.bin .gtr) [v3, (.i .i64 100)] L3 fun v4 L4 =>
 gdOp F v4 false (.ld none) [v1] L4 fun v5 L5 =>
 gdOp F v4 false (.mkfn (N k_prog_Check_1) 0) [v1] L5 fun v6 L6 =>
 gdOp F v4 false (.call (N k_slices_ContainsFunc_InstrInstr)) [v5, v6] L6 fun v7 L7 =>
 wpOp F .pick [v4, (.b true), v7] L7 fun v8 L8 =>
 condW v8
 (fin1 (some (.i .i64 1)) Q L8)
 (fin1 (some (.i .i64 0)) Q L8)
theorem e_prog_Check_1 (F : TF) (N : TN) (Q : TQ) (l t : Env) (L : Lg) : wp F (q_prog_Check_1 N) l t L (fin [.tmp (.l 2)] Q) nE (fin [.tmp (.l 2)] Q) = D_prog_Check_1 F N Q (l 0) L := by kernel_rfl
/-- tarpaulin/prog.Check -/
def c_prog_Check (N : TN) : AFn := ⟨q_prog_Check_1 N, [.tmp (.l 2)]⟩
structure H_prog_Check (N : TN) (F : TF) : Prop where
  code : F (N k_prog_Check) = some (c_prog_Check N)
  prog_Check_1 : H_prog_Check_1 N F
  slices_ContainsFunc_InstrInstr : H_slices_ContainsFunc_InstrInstr N F
theorem r_prog_Check {F : TF} {N : TN} (h : F (N k_prog_Check) = some (c_prog_Check N)) {Q : TQ} {a0 : AV} {L : Lg} (e : D_prog_Check_1 F N Q a0 L) : CallL F (N k_prog_Check) [a0] L Q :=
  CallL.of_wp h (Eq.mpr (Eq.trans (e_prog_Check_1 F N Q (initE [a0] 0) Env.nil L) (by kernel_rfl : _ = D_prog_Check_1 F N Q a0 L)) e)
def q_prog_starts_1 (N : TN) : ACode := (.seq (.reg [⟨.l 1, none, .box, [.l 0]⟩, ⟨.l 2, none, .mv, [.c (.i .i64 0)]⟩]) (.seq (.seq (.reg [⟨.t 3, none, .fad 0, [.l 1]⟩, ⟨.l 4, none, .ld none, [.t 3]⟩]) (.block 0 (.seq (.reg [⟨.t 6, none, .bin .eql, [.l 4, .c (.i .i64 8)]⟩, ⟨.t 5, none, .mv, [.t 6]⟩]) (.cond (.t 5) (.seq (.reg [⟨.t 7, none, .fad 2, [.l 1]⟩, ⟨.t 8, none, .ld none, [.t 7]⟩, ⟨.l 2, none, .mv, [.t 8]⟩]) .ret) (.seq (.seq (.reg [⟨.t 10, none, .bin .eql, [.l 4, .c (.i .i64 19)]⟩, ⟨.t 9, none, .mv, [.t 10]⟩]) (.cond (.t 9) .skip (.reg [⟨.t 11, none, .bin .eql, [.l 4, .c (.i .i64 31)]⟩, ⟨.t 9, none, .mv, [.t 11]⟩]))) (.cond (.t 9) (.seq (.reg [⟨.t 12, none, .fad 3, [.l 1]⟩, ⟨.t 13, none, .ld none, [.t 12]⟩, ⟨.l 2, none, .mv, [.t 13]⟩]) .ret) .skip)))))) (.seq (.reg [⟨.l 2, none, .mv, [.c (.i .i64 (-1))]⟩]) .ret)))
noncomputable def D_prog_starts_1 (F : TF) (N : TN) (Q : TQ) (x0 : AV) (L : Lg) : Prop :=
 wpOp F .box [x0] L fun v1 L1 =>
 wpOp F (.fad 0) [v1] L1 fun v2 L2 =>
 wpOp F (.ld none) [v2] L2 fun v3 L3 =>
 wpOp F (.bin .eql) [v3, (.i .i64 8)] L3 fun v4 L4 =>
 condW v4
 (wpOp F (.fad 2) [v1] L4 fun v5 L5 =>
 wpOp F (.ld none) [v5] L5 fun v6 L6 =>
 fin1 (some v6) Q L6)
 (wpOp F (.bin .eql) [v3, (.i .i64 19)] L4 fun v7 L7 =>
 condW v7
 (condW v7
 (wpOp F (.fad 3) [v1] L7 fun v8 L8 =>
 wpOp F (.ld none) [v8] L8 fun v9 L9 =>
 fin1 (some v9) Q L9)
 (fin1 (some (.i .i64 (-1))) Q L7))
 (wpOp F (.bin .eql) [v3, (.i .i64 31)] L7 fun v10 L10 =>
 condW v10
 (wpOp F (.fad 3) [v1] L10 fun v11 L11 =>
 wpOp F (.ld none) [v11] L11 fun v12 L12 =>
 fin1 (some v12) Q L12)
 (fin1 (some (.i .i64 (-1))) Q L10)))
theorem e_prog_starts_1 (F : TF) (N : TN) (Q : TQ) (l t : Env) (L : Lg) : wp F (q_prog_starts_1 N) l t L (fin [.tmp (.l 2)] Q) nE (fin [.tmp (.l 2)] Q) = D_prog_starts_1 F N Q (l 0) L := by kernel_rfl
/-- tarpaulin/prog.starts -/
def c_prog_starts (N : TN) : AFn := ⟨q_prog_starts_1 N, [.tmp (.l 2)]⟩
structure H_prog_starts (N : TN) (F : TF) : Prop where
  code : F (N k_prog_starts) = some (c_prog_starts N)
theorem r_prog_starts {F : TF} {N : TN} (h : F (N k_prog_starts) = some (c_prog_starts N)) {Q : TQ} {a0 : AV} {L : Lg} (e : D_prog_starts_1 F N Q a0 L) : CallL F (N k_prog_starts) [a0] L Q :=
  CallL.of_wp h (Eq.mpr (Eq.trans (e_prog_starts_1 F N Q (initE [a0] 0) Env.nil L) (by kernel_rfl : _ = D_prog_starts_1 F N Q a0 L)) e)
def q_prog_All_1_1 (N : TN) : ACode := (.seq (.reg [⟨.l 2, none, .box, [.l 0]⟩, ⟨.l 3, none, .mv, [.c (.b false)]⟩]) (.seq (.regD [⟨.t 4, none, .ld (some 6), [.l 2]⟩, ⟨.t 5, none, .call (N k_prog_starts), [.t 4]⟩, ⟨.t 6, none, .ld none, [.l 1]⟩, ⟨.t 7, none, .lenSl, [.t 6]⟩, ⟨.t 8, none, .bin .geq, [.t 5, .t 7]⟩, ⟨.l 3, none, .mv, [.t 8]⟩] [(2, 0)]) .ret))
noncomputable def D_prog_All_1_1 (F : TF) (N : TN) (Q : TQ) (x0 : AV) (x1 : AV) (L : Lg) : Prop :=
 wpOp F .box [x0] L fun v1 L1 =>
 wpOp F (.ld (some 6)) [v1] L1 fun v2 L2 =>
 CallL F (N k_prog_starts) [v2] L2 fun v3 L3 =>
 wpOp F (.ld none) [x1] L3 fun v4 L4 =>
 wpOp F .lenSl [v4] L4 fun v5 L5 =>
 wpOp F (.bin .geq) [v3, v5] L5 fun v6 L6 =>
 (againV (.ld none) [x1] L3 L1 ∧ True) ∧ (fin1 (some v6) Q L6)
theorem e_prog_All_1_1 (F : TF) (N : TN) (Q : TQ) (l t : Env) (L : Lg) : wp F (q_prog_All_1_1 N) l t L (fin [.tmp (.l 3)] Q) nE (fin [.tmp (.l 3)] Q) = D_prog_All_1_1 F N Q (l 0) (l 1) L := by kernel_rfl
/-- tarpaulin/prog.All$1 -/
def c_prog_All_1 (N : TN) : AFn := ⟨q_prog_All_1_1 N, [.tmp (.l 3)]⟩
structure H_prog_All_1 (N : TN) (F : TF) : Prop where
  code : F (N k_prog_All_1) = some (c_prog_All_1 N)
  prog_starts : H_prog_starts N F
theorem r_prog_All_1 {F : TF} {N : TN} (h : F (N k_prog_All_1) = some (c_prog_All_1 N)) {Q : TQ} {a0 a1 : AV} {L : Lg} (e : D_prog_All_1_1 F N Q a0 a1 L) : CallL F (N k_prog_All_1) [a0, a1] L Q :=
  CallL.of_wp h (Eq.mpr (Eq.trans (e_prog_All_1_1 F N Q (initE [a0, a1] 0) Env.nil L) (by kernel_rfl : _ = D_prog_All_1_1 F N Q a0 a1 L)) e)
def q_prog_All_4 (N : TN) : ACode := (.seq (.reg [⟨.l 2, none, .mv, [.c (.i .i64 0)]⟩]) .ret)
noncomputable def D_prog_All_4 (F : TF) (N : TN) (Q : TQ) (L : Lg) : Prop :=
 fin1 (some (.i .i64 0)) Q L
theorem e_prog_All_4 (F : TF) (N : TN) (Q : TQ) (l t : Env) (L : Lg) : wp F (q_prog_All_4 N) l t L (fin [.tmp (.l 2)] Q) nE (fin [.tmp (.l 2)] Q) = D_prog_All_4 F N Q L := by kernel_rfl
def y_prog_All_6 (F : TF) (N : TN) (Q : TQ) : Nat → Kn := (fun (j : Nat) (l t : Env) (L : Lg) => bif Nat.beq j 0 then (fun (l t : Env) (L : Lg) => D_prog_All_4 F N Q L) l t L else nE j l t L)
def q_prog_All_8 (N : TN) : ACode := (.seq (.reg [⟨.t 16, none, .bin .lss, [.l 15, .l 14]⟩]) (.seq (.cond (.t 16) .skip (.exit 0)) (.seq (.block 1 (.seq (.reg [⟨.t 17, none, .iad 1, [.l 13, .l 15]⟩, ⟨.t 18, none, .ld none, [.t 17]⟩, ⟨.l 4, none, .mv, [.t 18]⟩]) (.seq (.reg [⟨.t 19, none, .mv, [.l 4]⟩, ⟨.t 20, none, .call (N k_prog_Check), [.t 19]⟩, ⟨.t 21, none, .bin .neq, [.t 20, .c (.i .i64 0)]⟩, ⟨.t 22, none, .mv, [.t 21]⟩, ⟨.t 23, some (.t 22, false), .mv, [.l 4]⟩, ⟨.t 24, some (.t 22, false), .mkfn (N k_prog_All_1) 0, [.l 1]⟩, ⟨.t 25, some (.t 22, false), .call (N k_slices_ContainsFunc_InstrInstr), [.t 23, .t 24]⟩, ⟨.t 26, none, .pick, [.t 22, .c (.b true), .t 25]⟩]) (.cond (.t 26) (.seq (.reg [⟨.l 2, none, .mv, [.c (.i .i64 1)]⟩]) .ret) .skip)))) (.reg [⟨.t 27, none, .bin .add, [.l 15, .c (.i .i64 1)]⟩, ⟨.l 15, none, .mv, [.t 27]⟩]))))
noncomputable def D_prog_All_8 (F : TF) (N : TN) (Q : TQ) (k1 : TK) (l : Env) (L : Lg) : Prop :=
 wpOp F (.bin .lss) [(l 15), (l 14)] L fun v1 L1 =>
 condW v1
 (wpOp F (.iad 1) [(l 13), (l 15)] L1 fun v2 L2 =>
 wpOp F (.ld none) [v2] L2 fun v3 L3 =>
 CallL F (N k_prog_Check) [v3] L3 fun v4 L4 =>
 wpOp F (.bin .neq) [v4, (.i .i64 0)] L4 fun v5 L5 =>
 gdOp F v5 false .mv [v3] L5 fun v6 L6 =>
 gdOp F v5 false (.mkfn (N k_prog_All_1) 0) [(l 1)] L6 fun v7 L7 =>
 gdOp F v5 false (.call (N k_slices_ContainsFunc_InstrInstr)) [v6, v7] L7 fun v8 L8 =>
 wpOp F .pick [v5, (.b true), v8] L8 fun v9 L9 =>
 condW v9
 (fin1 (some (.i .i64 1)) Q L9)
 (wpOp F (.bin .add) [(l 15), (.i .i64 1)] L9 fun v10 L10 =>
 k1 (Env.put (Env.put l 4 v3) 15 v10) L10))
 (D_prog_All_4 F N Q L1)
theorem e_prog_All_8 (F : TF) (N : TN) (Q : TQ) (k1 : TK) (l t : Env) (L : Lg) : wp F (q_prog_All_8 N) l t L (fun (l _ : Env) (L : Lg) => k1 l L) (y_prog_All_6 F N Q) (fin [.tmp (.l 2)] Q) = D_prog_All_8 F N Q k1 l L := by kernel_rfl
def q_prog_All_7 (N : TN) : ACode := (.loop (q_prog_All_8 N))
noncomputable def D_prog_All_7 (F : TF) (N : TN) (Q : TQ) (l : Env) (L : Lg) : Prop :=
 loopW (fun l t L k1 => D_prog_All_8 F N Q k1 l L) l L
theorem e_prog_All_7 (F : TF) (N : TN) (Q : TQ) (l t : Env) (L : Lg) : wp F (q_prog_All_7 N) l t L (fun (l t : Env) (L : Lg) => D_prog_All_4 F N Q L) (y_prog_All_6 F N Q) (fin [.tmp (.l 2)] Q) = D_prog_All_7 F N Q l L := wpL (fun l t L k1 => e_prog_All_8 F N Q k1 l t L) (by kernel_rfl)
def q_prog_All_6 (N : TN) : ACode := (.block 0 (q_prog_All_7 N))
theorem e_prog_All_6 (F : TF) (N : TN) (Q : TQ) (l t : Env) (L : Lg) : wp F (q_prog_All_6 N) l t L (fun (l t : Env) (L : Lg) => D_prog_All_4 F N Q L) nE (fin [.tmp (.l 2)] Q) = D_prog_All_7 F N Q l L := wpB (e_prog_All_7 F N Q l t L)
def q_prog_All_5a (N : TN) : ACode := (.reg [⟨.l 13, none, .ld none, [.l 1]⟩, ⟨.l 14, none, .lenSl, [.l 13]⟩, ⟨.l 15, none, .mv, [.c (.i .i64 0)]⟩])
def q_prog_All_5 (N : TN) : ACode := (.seq (q_prog_All_5a N) (q_prog_All_6 N))
noncomputable def D_prog_All_5 (F : TF) (N : TN) (Q : TQ) (l : Env) (L : Lg) : Prop :=
 wpOp F (.ld none) [(l 1)] L fun v1 L1 =>
 wpOp F .lenSl [v1] L1 fun v2 L2 =>
 D_prog_All_7 F N Q (Env.put (Env.put (Env.put l 13 v1) 14 v2) 15 (.i .i64 0)) L2
theorem e_prog_All_5 (F : TF) (N : TN) (Q : TQ) (l t : Env) (L : Lg) : wp F (q_prog_All_5 N) l t L (fun (l t : Env) (L : Lg) => D_prog_All_4 F N Q L) nE (fin [.tmp (.l 2)] Q) = D_prog_All_5 F N Q l L := wpS (e_prog_All_6 F N Q) (by kernel_rfl)
def q_prog_All_3 (N : TN) : ACode := (.seq (q_prog_All_5 N) (q_prog_All_4 N))
theorem e_prog_All_3 (F : TF) (N : TN) (Q : TQ) (l t : Env) (L : Lg) : wp F (q_prog_All_3 N) l t L (fin [.tmp (.l 2)] Q) nE (fin [.tmp (.l 2)] Q) = D_prog_All_5 F N Q l L := wpS (e_prog_All_4 F N Q) (e_prog_All_5 F N Q l t L)
def q_prog_All_2a (N : TN) : ACode := (.seq (.reg [⟨.t 5, none, .ld none, [.l 1]⟩, ⟨.t 6, none, .lenSl, [.t 5]⟩, ⟨.t 7, none, .bin .lss, [.t 6, .c (.i .i64 1)]⟩, ⟨.t 8, none, .mv, [.t 7]⟩, ⟨.t 9, some (.t 8, false), .ld none, [.l 1]⟩, ⟨.t 10, some (.t 8, false), .lenSl, [.t 9]⟩, ⟨.t 11, some (.t 8, false), .bin .gtr, [.t 10, .c (.i .i64 16)]⟩, ⟨.t 12, none, .pick, [.t 8, .c (.b true), .t 11]⟩]) (.cond (.t 12) (.seq (.reg [⟨.l 2, none, .mv, [.c (.i .i64 1)]⟩]) .ret) .skip))
def q_prog_All_2 (N : TN) : ACode := (.seq (q_prog_All_2a N) (q_prog_All_3 N))
noncomputable def D_prog_All_2 (F : TF) (N : TN) (Q : TQ) (l : Env) (L : Lg) : Prop :=
 wpOp F (.ld none) [(l 1)] L fun v1 L1 =>
 wpOp F .lenSl [v1] L1 fun v2 L2 =>
 wpOp F (.bin .lss) [v2, (.i .i64 1)] L2 fun v3 L3 =>
 gdOp F v3 false (.ld none) [(l 1)] L3 fun v4 L4 =>
 gdOp F v3 false .lenSl [v4] L4 fun v5 L5 =>
 gdOp F v3 false (.bin .gtr) [v5, (.i .i64 16)] L5 fun v6 L6 =>
 wpOp F .pick [v3, (.b true), v6] L6 fun v7 L7 =>
 condW v7
 (fin1 (some (.i .i64 1)) Q L7)
 (D_prog_All_5 F N Q l L7)
theorem e_prog_All_2 (F : TF) (N : TN) (Q : TQ) (l t : Env) (L : Lg) : wp F (q_prog_All_2 N) l t L (fin [.tmp (.l 2)] Q) nE (fin [.tmp (.l 2)] Q) = D_prog_All_2 F N Q l L := wpS (e_prog_All_3 F N Q) (by kernel_rfl)
def q_prog_All_1a (N : TN) : ACode := (.reg [⟨.l 1, none, .box, [.l 0]⟩, ⟨.l 2, none, .mv, [.c (.i .i64 0)]⟩])
def q_prog_All_1 (N : TN) : ACode := (.seq (q_prog_All_1a N) (q_prog_All_2 N))
noncomputable def D_prog_All_1 (F : TF) (N : TN) (Q : TQ) (l : Env) (L : Lg) : Prop :=
 wpOp F .box [(l 0)] L fun v1 L1 =>
 D_prog_All_2 F N Q (Env.put (Env.put l 1 v1) 2 (.i .i64 0)) L1
theorem e_prog_All_1 (F : TF) (N : TN) (Q : TQ) (l t : Env) (L : Lg) : wp F (q_prog_All_1 N) l t L (fin [.tmp (.l 2)] Q) nE (fin [.tmp (.l 2)] Q) = D_prog_All_1 F N Q l L := wpS (e_prog_All_2 F N Q) (by kernel_rfl)
/-- tarpaulin/prog.All -/
def c_prog_All (N : TN) : AFn := ⟨q_prog_All_1 N, [.tmp (.l 2)]⟩
structure H_prog_All (N : TN) (F : TF) : Prop where
  code : F (N k_prog_All) = some (c_prog_All N)
  prog_Check : H_prog_Check N F
  prog_All_1 : H_prog_All_1 N F
  slices_ContainsFunc_InstrInstr : H_slices_ContainsFunc_InstrInstr N F
theorem r_prog_All {F : TF} {N : TN} (h : F (N k_prog_All) = some (c_prog_All N)) {Q : TQ} {a0 : AV} {L : Lg} (e : D_prog_All_1 F N Q (initE [a0] 0) L) : CallL F (N k_prog_All) [a0] L Q :=
  CallL.of_wp h (Eq.mpr (Eq.trans (e_prog_All_1 F N Q (initE [a0] 0) Env.nil L) (by kernel_rfl : _ = D_prog_All_1 F N Q (initE [a0] 0) L)) e)
end Go.AM

/- The code of functions, with names for their numbers, and what is left of its weakest preconditions. PRINTED by our printgen.py. -/
set_option linter.unusedVariables false
set_option maxRecDepth 100000
namespace Go.AM
def k_tarpaulinalike_Progs : Nat := 324
def k_tarpaulinlaw4_awake : Nat := 326
def q_tarpaulinalike_Progs_3 (N : TN) : ACode := (.seq (.reg [⟨.t 40, none, .mv, [.l 0]⟩, ⟨.t 41, none, .lenSl, [.t 40]⟩, ⟨.t 42, none, .bin .leq, [.t 41, .c (.i .i64 17)]⟩, ⟨.l 2, none, .mv, [.t 42]⟩]) .ret)
noncomputable def D_tarpaulinalike_Progs_3 (F : TF) (N : TN) (Q : TQ) (x0 : AV) (L : Lg) : Prop :=
 wpOp F .lenSl [x0] L fun v1 L1 =>
 wpOp F (.bin .leq) [v1, (.i .i64 17)] L1 fun v2 L2 =>
 fin1 (some v2) Q L2
theorem e_tarpaulinalike_Progs_3 (F : TF) (N : TN) (Q : TQ) (l t : Env) (L : Lg) : wp F (q_tarpaulinalike_Progs_3 N) l t L (fin [.tmp (.l 2)] Q) nE (fin [.tmp (.l 2)] Q) = D_tarpaulinalike_Progs_3 F N Q (l 0) L := by kernel_rfl
def w_tarpaulinalike_Progs_2 (F : TF) (N : TN) (Q : TQ) : Kn := (fun (l t : Env) (L : Lg) => D_tarpaulinalike_Progs_3 F N Q (l 0) L)
def y_tarpaulinalike_Progs_5 (F : TF) (N : TN) (Q : TQ) : Nat → Kn := (fun (j : Nat) (l t : Env) (L : Lg) => bif Nat.beq j 0 then (w_tarpaulinalike_Progs_2 F N Q) l t L else nE j l t L)
def q_tarpaulinalike_Progs_9 (N : TN) : ACode := (.reg [⟨.t 13, none, .mv, [.l 3]⟩, ⟨.t 14, none, .bin .add, [.t 13, .c (.i .i64 1)]⟩, ⟨.l 3, none, .mv, [.t 14]⟩])
noncomputable def D_tarpaulinalike_Progs_9 (F : TF) (N : TN) (Q : TQ) (k1 : TK) (l : Env) (L : Lg) : Prop :=
 wpOp F (.bin .add) [(l 3), (.i .i64 1)] L fun v1 L1 =>
 k1 (Env.put l 3 v1) L1
theorem e_tarpaulinalike_Progs_9 (F : TF) (N : TN) (Q : TQ) (k1 : TK) (l t : Env) (L : Lg) : wp F (q_tarpaulinalike_Progs_9 N) l t L (fun (l _ : Env) (L : Lg) => k1 l L) (y_tarpaulinalike_Progs_5 F N Q) (fin [.tmp (.l 2)] Q) = D_tarpaulinalike_Progs_9 F N Q k1 l L := by kernel_rfl
def w_tarpaulinalike_Progs_8 (F : TF) (N : TN) (Q : TQ) (k1 : TK) : Kn := (fun (l t : Env) (L : Lg) => D_tarpaulinalike_Progs_9 F N Q k1 l L)
def y_tarpaulinalike_Progs_10 (F : TF) (N : TN) (Q : TQ) (k1 : TK) : Nat → Kn := (fun (j : Nat) (l t : Env) (L : Lg) => bif Nat.beq j 1 then (w_tarpaulinalike_Progs_8 F N Q k1) l t L else (y_tarpaulinalike_Progs_5 F N Q) j l t L)
def y_tarpaulinalike_Progs_13 (F : TF) (N : TN) (Q : TQ) (k1 : TK) : Nat → Kn := (fun (j : Nat) (l t : Env) (L : Lg) => bif Nat.beq j 2 then (w_tarpaulinalike_Progs_8 F N Q k1) l t L else (y_tarpaulinalike_Progs_10 F N Q k1) j l t L)
def q_tarpaulinalike_Progs_15 (N : TN) : ACode := (.seq (.seq (.reg [⟨.t 21, none, .mv, [.l 4]⟩, ⟨.t 22, none, .mv, [.l 0]⟩, ⟨.t 23, none, .mv, [.l 3]⟩, ⟨.t 24, none, .iad 1, [.t 22, .t 23]⟩, ⟨.t 25, none, .ld none, [.t 24]⟩, ⟨.t 26, none, .lenSl, [.t 25]⟩, ⟨.t 27, none, .bin .lss, [.t 21, .t 26]⟩]) (.cond (.t 27) .skip (.exit 2))) (.seq (.block 3 (.seq (.reg [⟨.t 30, none, .mv, [.l 0]⟩, ⟨.t 31, none, .mv, [.l 3]⟩, ⟨.t 32, none, .iad 1, [.t 30, .t 31]⟩, ⟨.t 33, none, .ld none, [.t 32]⟩, ⟨.t 34, none, .mv, [.l 4]⟩, ⟨.t 35, none, .iad 6, [.t 33, .t 34]⟩, ⟨.t 36, none, .fad 4, [.t 35]⟩, ⟨.t 37, none, .ld none, [.t 36]⟩, ⟨.t 38, none, .lenSl, [.t 37]⟩, ⟨.t 39, none, .bin .gtr, [.t 38, .c (.i .i64 20)]⟩]) (.cond (.t 39) (.seq (.reg [⟨.l 2, none, .mv, [.c (.b false)]⟩]) .ret) .skip))) (.reg [⟨.t 28, none, .mv, [.l 4]⟩, ⟨.t 29, none, .bin .add, [.t 28, .c (.i .i64 1)]⟩, ⟨.l 4, none, .mv, [.t 29]⟩])))
noncomputable def D_tarpaulinalike_Progs_15 (F : TF) (N : TN) (Q : TQ) (k1 : TK) (k2 : TK) (l : Env) (L : Lg) : Prop :=
 wpOp F (.iad 1) [(l 0), (l 3)] L fun v1 L1 =>
 wpOp F (.ld none) [v1] L1 fun v2 L2 =>
 wpOp F .lenSl [v2] L2 fun v3 L3 =>
 wpOp F (.bin .lss) [(l 4), v3] L3 fun v4 L4 =>
 condW v4
 (wpOp F (.iad 1) [(l 0), (l 3)] L4 fun v5 L5 =>
 wpOp F (.ld none) [v5] L5 fun v6 L6 =>
 wpOp F (.iad 6) [v6, (l 4)] L6 fun v7 L7 =>
 wpOp F (.fad 4) [v7] L7 fun v8 L8 =>
 wpOp F (.ld none) [v8] L8 fun v9 L9 =>
 wpOp F .lenSl [v9] L9 fun v10 L10 =>
 wpOp F (.bin .gtr) [v10, (.i .i64 20)] L10 fun v11 L11 =>
 condW v11
 (fin1 (some (.b false)) Q L11)
 (wpOp F (.bin .add) [(l 4), (.i .i64 1)] L11 fun v12 L12 =>
 k2 (Env.put l 4 v12) L12))
 (D_tarpaulinalike_Progs_9 F N Q k1 l L4)
theorem e_tarpaulinalike_Progs_15 (F : TF) (N : TN) (Q : TQ) (k1 : TK) (k2 : TK) (l t : Env) (L : Lg) : wp F (q_tarpaulinalike_Progs_15 N) l t L (fun (l _ : Env) (L : Lg) => k2 l L) (y_tarpaulinalike_Progs_13 F N Q k1) (fin [.tmp (.l 2)] Q) = D_tarpaulinalike_Progs_15 F N Q k1 k2 l L := by kernel_rfl
def q_tarpaulinalike_Progs_14 (N : TN) : ACode := (.loop (q_tarpaulinalike_Progs_15 N))
noncomputable def D_tarpaulinalike_Progs_14 (F : TF) (N : TN) (Q : TQ) (k1 : TK) (l : Env) (L : Lg) : Prop :=
 loopW (fun l t L k2 => D_tarpaulinalike_Progs_15 F N Q k1 k2 l L) l L
theorem e_tarpaulinalike_Progs_14 (F : TF) (N : TN) (Q : TQ) (k1 : TK) (l t : Env) (L : Lg) : wp F (q_tarpaulinalike_Progs_14 N) l t L (w_tarpaulinalike_Progs_8 F N Q k1) (y_tarpaulinalike_Progs_13 F N Q k1) (fin [.tmp (.l 2)] Q) = D_tarpaulinalike_Progs_14 F N Q k1 l L := wpL (fun l t L k2 => e_tarpaulinalike_Progs_15 F N Q k1 k2 l t L) (by kernel_rfl)
def q_tarpaulinalike_Progs_13 (N : TN) : ACode := (.block 2 (q_tarpaulinalike_Progs_14 N))
theorem e_tarpaulinalike_Progs_13 (F : TF) (N : TN) (Q : TQ) (k1 : TK) (l t : Env) (L : Lg) : wp F (q_tarpaulinalike_Progs_13 N) l t L (w_tarpaulinalike_Progs_8 F N Q k1) (y_tarpaulinalike_Progs_10 F N Q k1) (fin [.tmp (.l 2)] Q) = D_tarpaulinalike_Progs_14 F N Q k1 l L := wpB (e_tarpaulinalike_Progs_14 F N Q k1 l t L)
def q_tarpaulinalike_Progs_12a (N : TN) : ACode := (.reg [⟨.l 4, none, .mv, [.c (.i .i64 0)]⟩])
def q_tarpaulinalike_Progs_12 (N : TN) : ACode := (.seq (q_tarpaulinalike_Progs_12a N) (q_tarpaulinalike_Progs_13 N))
noncomputable def D_tarpaulinalike_Progs_12 (F : TF) (N : TN) (Q : TQ) (k1 : TK) (l : Env) (L : Lg) : Prop :=
 D_tarpaulinalike_Progs_14 F N Q k1 (Env.put l 4 (.i .i64 0)) L
theorem e_tarpaulinalike_Progs_12 (F : TF) (N : TN) (Q : TQ) (k1 : TK) (l t : Env) (L : Lg) : wp F (q_tarpaulinalike_Progs_12 N) l t L (w_tarpaulinalike_Progs_8 F N Q k1) (y_tarpaulinalike_Progs_10 F N Q k1) (fin [.tmp (.l 2)] Q) = D_tarpaulinalike_Progs_12 F N Q k1 l L := wpS (e_tarpaulinalike_Progs_13 F N Q k1) (by kernel_rfl)
def q_tarpaulinalike_Progs_11a (N : TN) : ACode := (.seq (.reg [⟨.t 15, none, .mv, [.l 0]⟩, ⟨.t 16, none, .mv, [.l 3]⟩, ⟨.t 17, none, .iad 1, [.t 15, .t 16]⟩, ⟨.t 18, none, .ld none, [.t 17]⟩, ⟨.t 19, none, .lenSl, [.t 18]⟩, ⟨.t 20, none, .bin .gtr, [.t 19, .c (.i .i64 60)]⟩]) (.cond (.t 20) (.seq (.reg [⟨.l 2, none, .mv, [.c (.b false)]⟩]) .ret) .skip))
def q_tarpaulinalike_Progs_11 (N : TN) : ACode := (.seq (q_tarpaulinalike_Progs_11a N) (q_tarpaulinalike_Progs_12 N))
noncomputable def D_tarpaulinalike_Progs_11 (F : TF) (N : TN) (Q : TQ) (k1 : TK) (l : Env) (L : Lg) : Prop :=
 wpOp F (.iad 1) [(l 0), (l 3)] L fun v1 L1 =>
 wpOp F (.ld none) [v1] L1 fun v2 L2 =>
 wpOp F .lenSl [v2] L2 fun v3 L3 =>
 wpOp F (.bin .gtr) [v3, (.i .i64 60)] L3 fun v4 L4 =>
 condW v4
 (fin1 (some (.b false)) Q L4)
 (D_tarpaulinalike_Progs_12 F N Q k1 l L4)
theorem e_tarpaulinalike_Progs_11 (F : TF) (N : TN) (Q : TQ) (k1 : TK) (l t : Env) (L : Lg) : wp F (q_tarpaulinalike_Progs_11 N) l t L (w_tarpaulinalike_Progs_8 F N Q k1) (y_tarpaulinalike_Progs_10 F N Q k1) (fin [.tmp (.l 2)] Q) = D_tarpaulinalike_Progs_11 F N Q k1 l L := wpS (e_tarpaulinalike_Progs_12 F N Q k1) (by kernel_rfl)
def q_tarpaulinalike_Progs_10 (N : TN) : ACode := (.block 1 (q_tarpaulinalike_Progs_11 N))
theorem e_tarpaulinalike_Progs_10 (F : TF) (N : TN) (Q : TQ) (k1 : TK) (l t : Env) (L : Lg) : wp F (q_tarpaulinalike_Progs_10 N) l t L (w_tarpaulinalike_Progs_8 F N Q k1) (y_tarpaulinalike_Progs_5 F N Q) (fin [.tmp (.l 2)] Q) = D_tarpaulinalike_Progs_11 F N Q k1 l L := wpB (e_tarpaulinalike_Progs_11 F N Q k1 l t L)
def q_tarpaulinalike_Progs_8 (N : TN) : ACode := (.seq (q_tarpaulinalike_Progs_10 N) (q_tarpaulinalike_Progs_9 N))
theorem e_tarpaulinalike_Progs_8 (F : TF) (N : TN) (Q : TQ) (k1 : TK) (l t : Env) (L : Lg) : wp F (q_tarpaulinalike_Progs_8 N) l t L (fun (l _ : Env) (L : Lg) => k1 l L) (y_tarpaulinalike_Progs_5 F N Q) (fin [.tmp (.l 2)] Q) = D_tarpaulinalike_Progs_11 F N Q k1 l L := wpS (e_tarpaulinalike_Progs_9 F N Q k1) (e_tarpaulinalike_Progs_10 F N Q k1 l t L)
def q_tarpaulinalike_Progs_7a (N : TN) : ACode := (.seq (.reg [⟨.t 5, none, .mv, [.l 3]⟩, ⟨.t 6, none, .mv, [.l 0]⟩, ⟨.t 7, none, .lenSl, [.t 6]⟩, ⟨.t 8, none, .bin .lss, [.t 5, .t 7]⟩, ⟨.t 9, none, .mv, [.t 8]⟩, ⟨.t 10, some (.t 9, true), .mv, [.l 3]⟩, ⟨.t 11, some (.t 9, true), .bin .lss, [.t 10, .c (.i .i64 20)]⟩, ⟨.t 12, none, .pick, [.t 9, .t 11, .c (.b false)]⟩]) (.cond (.t 12) .skip (.exit 0)))
def q_tarpaulinalike_Progs_7 (N : TN) : ACode := (.seq (q_tarpaulinalike_Progs_7a N) (q_tarpaulinalike_Progs_8 N))
noncomputable def D_tarpaulinalike_Progs_7 (F : TF) (N : TN) (Q : TQ) (k1 : TK) (l : Env) (L : Lg) : Prop :=
 wpOp F .lenSl [(l 0)] L fun v1 L1 =>
 wpOp F (.bin .lss) [(l 3), v1] L1 fun v2 L2 =>
 gdOp F v2 true .mv [(l 3)] L2 fun v3 L3 =>
 gdOp F v2 true (.bin .lss) [v3, (.i .i64 20)] L3 fun v4 L4 =>
 wpOp F .pick [v2, v4, (.b false)] L4 fun v5 L5 =>
 condW v5
 (D_tarpaulinalike_Progs_11 F N Q k1 l L5)
 (D_tarpaulinalike_Progs_3 F N Q (l 0) L5)
theorem e_tarpaulinalike_Progs_7 (F : TF) (N : TN) (Q : TQ) (k1 : TK) (l t : Env) (L : Lg) : wp F (q_tarpaulinalike_Progs_7 N) l t L (fun (l _ : Env) (L : Lg) => k1 l L) (y_tarpaulinalike_Progs_5 F N Q) (fin [.tmp (.l 2)] Q) = D_tarpaulinalike_Progs_7 F N Q k1 l L := wpS (e_tarpaulinalike_Progs_8 F N Q k1) (by kernel_rfl)
def q_tarpaulinalike_Progs_6 (N : TN) : ACode := (.loop (q_tarpaulinalike_Progs_7 N))
noncomputable def D_tarpaulinalike_Progs_6 (F : TF) (N : TN) (Q : TQ) (l : Env) (L : Lg) : Prop :=
 loopW (fun l t L k1 => D_tarpaulinalike_Progs_7 F N Q k1 l L) l L
theorem e_tarpaulinalike_Progs_6 (F : TF) (N : TN) (Q : TQ) (l t : Env) (L : Lg) : wp F (q_tarpaulinalike_Progs_6 N) l t L (w_tarpaulinalike_Progs_2 F N Q) (y_tarpaulinalike_Progs_5 F N Q) (fin [.tmp (.l 2)] Q) = D_tarpaulinalike_Progs_6 F N Q l L := wpL (fun l t L k1 => e_tarpaulinalike_Progs_7 F N Q k1 l t L) (by kernel_rfl)
def q_tarpaulinalike_Progs_5 (N : TN) : ACode := (.block 0 (q_tarpaulinalike_Progs_6 N))
theorem e_tarpaulinalike_Progs_5 (F : TF) (N : TN) (Q : TQ) (l t : Env) (L : Lg) : wp F (q_tarpaulinalike_Progs_5 N) l t L (w_tarpaulinalike_Progs_2 F N Q) nE (fin [.tmp (.l 2)] Q) = D_tarpaulinalike_Progs_6 F N Q l L := wpB (e_tarpaulinalike_Progs_6 F N Q l t L)
def q_tarpaulinalike_Progs_4a (N : TN) : ACode := (.reg [⟨.l 3, none, .mv, [.c (.i .i64 0)]⟩])
def q_tarpaulinalike_Progs_4 (N : TN) : ACode := (.seq (q_tarpaulinalike_Progs_4a N) (q_tarpaulinalike_Progs_5 N))
noncomputable def D_tarpaulinalike_Progs_4 (F : TF) (N : TN) (Q : TQ) (l : Env) (L : Lg) : Prop :=
 D_tarpaulinalike_Progs_6 F N Q (Env.put l 3 (.i .i64 0)) L
theorem e_tarpaulinalike_Progs_4 (F : TF) (N : TN) (Q : TQ) (l t : Env) (L : Lg) : wp F (q_tarpaulinalike_Progs_4 N) l t L (w_tarpaulinalike_Progs_2 F N Q) nE (fin [.tmp (.l 2)] Q) = D_tarpaulinalike_Progs_4 F N Q l L := wpS (e_tarpaulinalike_Progs_5 F N Q) (by kernel_rfl)
def q_tarpaulinalike_Progs_2 (N : TN) : ACode := (.seq (q_tarpaulinalike_Progs_4 N) (q_tarpaulinalike_Progs_3 N))
theorem e_tarpaulinalike_Progs_2 (F : TF) (N : TN) (Q : TQ) (l t : Env) (L : Lg) : wp F (q_tarpaulinalike_Progs_2 N) l t L (fin [.tmp (.l 2)] Q) nE (fin [.tmp (.l 2)] Q) = D_tarpaulinalike_Progs_4 F N Q l L := wpS (e_tarpaulinalike_Progs_3 F N Q) (e_tarpaulinalike_Progs_4 F N Q l t L)
def q_tarpaulinalike_Progs_1a (N : TN) : ACode := (.reg [⟨.l 2, none, .mv, [.c (.b false)]⟩])
def q_tarpaulinalike_Progs_1 (N : TN) : ACode := (.seq (q_tarpaulinalike_Progs_1a N) (q_tarpaulinalike_Progs_2 N))
noncomputable def D_tarpaulinalike_Progs_1 (F : TF) (N : TN) (Q : TQ) (l : Env) (L : Lg) : Prop :=
 D_tarpaulinalike_Progs_4 F N Q (Env.put l 2 (.b false)) L
theorem e_tarpaulinalike_Progs_1 (F : TF) (N : TN) (Q : TQ) (l t : Env) (L : Lg) : wp F (q_tarpaulinalike_Progs_1 N) l t L (fin [.tmp (.l 2)] Q) nE (fin [.tmp (.l 2)] Q) = D_tarpaulinalike_Progs_1 F N Q l L := wpS (e_tarpaulinalike_Progs_2 F N Q) (by kernel_rfl)
/-- tarpaulin/tarpaulinalike.Progs -/
def c_tarpaulinalike_Progs (N : TN) : AFn := ⟨q_tarpaulinalike_Progs_1 N, [.tmp (.l 2)]⟩
structure H_tarpaulinalike_Progs (N : TN) (F : TF) : Prop where
  code : F (N k_tarpaulinalike_Progs) = some (c_tarpaulinalike_Progs N)
theorem r_tarpaulinalike_Progs {F : TF} {N : TN} (h : F (N k_tarpaulinalike_Progs) = some (c_tarpaulinalike_Progs N)) {Q : TQ} {a0 : AV} {L : Lg} (e : D_tarpaulinalike_Progs_1 F N Q (initE [a0] 0) L) : CallL F (N k_tarpaulinalike_Progs) [a0] L Q :=
  CallL.of_wp h (Eq.mpr (Eq.trans (e_tarpaulinalike_Progs_1 F N Q (initE [a0] 0) Env.nil L) (by kernel_rfl : _ = D_tarpaulinalike_Progs_1 F N Q (initE [a0] 0) L)) e)
end Go.AM
