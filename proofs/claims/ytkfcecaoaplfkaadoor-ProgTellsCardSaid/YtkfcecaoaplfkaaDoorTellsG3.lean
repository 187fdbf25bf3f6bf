/- The texts GenQ_p0, GenQ, LibClock of a proof of ProgTells, merged. -/
import Derived.Test.YtkfcecaoaplfkaaDoorTellsG2
import Derived.KernelRfl
/- The code of functions, with names for their numbers, and what is left of its weakest preconditions. PRINTED by our printgen.py. -/
set_option linter.unusedVariables false
set_option maxRecDepth 100000
set_option maxHeartbeats 400000
namespace Go.AM
def k_slices_Compact_intint : Nat := 327
def k_prog_rising : Nat := 328
def k_prog_Reads : Nat := 329
def k_prog_Writes : Nat := 330
def k_tarpaulinref1_form : Nat := 332
def k_tarpaulinref1_reg : Nat := 333
def k_tarpaulinref1_one : Nat := 334
def k_tarpaulinref1_Prog : Nat := 335
def k_tarpaulinref1_Progs : Nat := 336
def k_prog_Name : Nat := 337
def k_tarpaulinref1_Name : Nat := 338
def k_tarpaulinref1_rising : Nat := 339
def k_tarpaulinref1_Reads : Nat := 340
def k_tarpaulinalike_Ints : Nat := 341
def k_tarpaulinref1_Writes : Nat := 342
def k_tarpaulinlaw4_ProgTells : Nat := 343
def k_slices_Sort_intint : Nat := 344
def k_strings_Fields : Nat := 345
def q_slices_Compact_intint_4 (N : TN) : ACode := (.seq (.reg [⟨.t 60, none, .mv, [.l 0]⟩, ⟨.l 2, none, .mv, [.t 60]⟩]) .ret)
noncomputable def D_slices_Compact_intint_4 (F : TF) (N : TN) (Q : TQ) (x0 : AV) (L : Lg) : Prop :=
 fin1 (some x0) Q L
theorem e_slices_Compact_intint_4 (F : TF) (N : TN) (Q : TQ) (l t : Env) (L : Lg) : wp F (q_slices_Compact_intint_4 N) l t L (fin [.tmp (.l 2)] Q) nE (fin [.tmp (.l 2)] Q) = D_slices_Compact_intint_4 F N Q (l 0) L := by kernel_rfl
def w_slices_Compact_intint_3 (F : TF) (N : TN) (Q : TQ) : Kn := (fun (l t : Env) (L : Lg) => D_slices_Compact_intint_4 F N Q (l 0) L)
def y_slices_Compact_intint_6 (F : TF) (N : TN) (Q : TQ) : Nat → Kn := (fun (j : Nat) (l t : Env) (L : Lg) => bif Nat.beq j 0 then (w_slices_Compact_intint_3 F N Q) l t L else nE j l t L)
def q_slices_Compact_intint_10 (N : TN) : ACode := (.reg [⟨.t 14, none, .mv, [.l 3]⟩, ⟨.t 15, none, .bin .add, [.t 14, .c (.i .i64 1)]⟩, ⟨.l 3, none, .mv, [.t 15]⟩])
noncomputable def D_slices_Compact_intint_10 (F : TF) (N : TN) (Q : TQ) (k1 : TK) (l : Env) (L : Lg) : Prop :=
 wpOp F (.bin .add) [(l 3), (.i .i64 1)] L fun v1 L1 =>
 k1 (Env.put l 3 v1) L1
theorem e_slices_Compact_intint_10 (F : TF) (N : TN) (Q : TQ) (k1 : TK) (l t : Env) (L : Lg) : wp F (q_slices_Compact_intint_10 N) l t L (fun (l _ : Env) (L : Lg) => k1 l L) (y_slices_Compact_intint_6 F N Q) (fin [.tmp (.l 2)] Q) = D_slices_Compact_intint_10 F N Q k1 l L := by kernel_rfl
def w_slices_Compact_intint_9 (F : TF) (N : TN) (Q : TQ) (k1 : TK) : Kn := (fun (l t : Env) (L : Lg) => D_slices_Compact_intint_10 F N Q k1 l L)
def y_slices_Compact_intint_11 (F : TF) (N : TN) (Q : TQ) (k1 : TK) : Nat → Kn := (fun (j : Nat) (l t : Env) (L : Lg) => bif Nat.beq j 1 then (w_slices_Compact_intint_9 F N Q k1) l t L else (y_slices_Compact_intint_6 F N Q) j l t L)
def q_slices_Compact_intint_16 (N : TN) : ACode := (.seq (.reg [⟨.t 54, none, .mv, [.l 0]⟩, ⟨.t 55, none, .mv, [.l 3]⟩, ⟨.t 56, none, .slc 1 true false false, [.t 54, .t 55]⟩, ⟨.no, none, .clr [.i .i64 0], [.t 56]⟩]) (.seq (.reg [⟨.t 57, none, .mv, [.l 0]⟩, ⟨.t 58, none, .mv, [.l 3]⟩, ⟨.t 59, none, .slc 1 false true false, [.t 57, .t 58]⟩, ⟨.l 2, none, .mv, [.t 59]⟩]) .ret))
noncomputable def D_slices_Compact_intint_16 (F : TF) (N : TN) (Q : TQ) (k1 : TK) (x0 : AV) (x3 : AV) (L : Lg) : Prop :=
 wpOp F (.slc 1 true false false) [x0, x3] L fun v1 L1 =>
 wpOp F (.clr [.i .i64 0]) [v1] L1 fun _ L2 =>
 wpOp F (.slc 1 false true false) [x0, x3] L2 fun v3 L3 =>
 fin1 (some v3) Q L3
theorem e_slices_Compact_intint_16 (F : TF) (N : TN) (Q : TQ) (k1 : TK) (l t : Env) (L : Lg) : wp F (q_slices_Compact_intint_16 N) l t L (w_slices_Compact_intint_9 F N Q k1) (y_slices_Compact_intint_11 F N Q k1) (fin [.tmp (.l 2)] Q) = D_slices_Compact_intint_16 F N Q k1 (l 0) (l 3) L := by kernel_rfl
def w_slices_Compact_intint_15 (F : TF) (N : TN) (Q : TQ) (k1 : TK) : Kn := (fun (l t : Env) (L : Lg) => D_slices_Compact_intint_16 F N Q k1 (l 0) (l 3) L)
def y_slices_Compact_intint_18 (F : TF) (N : TN) (Q : TQ) (k1 : TK) : Nat → Kn := (fun (j : Nat) (l t : Env) (L : Lg) => bif Nat.beq j 2 then (w_slices_Compact_intint_15 F N Q k1) l t L else (y_slices_Compact_intint_11 F N Q k1) j l t L)
def q_slices_Compact_intint_20 (N : TN) : ACode := (.seq (.seq (.reg [⟨.t 29, none, .mv, [.l 5]⟩, ⟨.t 30, none, .mv, [.l 4]⟩, ⟨.t 31, none, .lenSl, [.t 30]⟩, ⟨.t 32, none, .bin .lss, [.t 29, .t 31]⟩]) (.cond (.t 32) .skip (.exit 2))) (.seq (.block 3 (.seq (.reg [⟨.t 35, none, .mv, [.l 4]⟩, ⟨.t 36, none, .mv, [.l 5]⟩, ⟨.t 37, none, .iad 1, [.t 35, .t 36]⟩, ⟨.t 38, none, .ld none, [.t 37]⟩, ⟨.t 39, none, .mv, [.l 4]⟩, ⟨.t 40, none, .mv, [.l 5]⟩, ⟨.t 41, none, .bin .sub, [.t 40, .c (.i .i64 1)]⟩, ⟨.t 42, none, .iad 1, [.t 39, .t 41]⟩, ⟨.t 43, none, .ld none, [.t 42]⟩, ⟨.t 44, none, .bin .neq, [.t 38, .t 43]⟩]) (.cond (.t 44) (.seq (.reg [⟨.t 45, none, .mv, [.l 0]⟩, ⟨.t 46, none, .mv, [.l 3]⟩, ⟨.t 47, none, .mv, [.l 4]⟩, ⟨.t 48, none, .mv, [.l 5]⟩, ⟨.t 49, none, .iad 1, [.t 47, .t 48]⟩, ⟨.t 50, none, .ld none, [.t 49]⟩, ⟨.t 51, none, .iad 1, [.t 45, .t 46]⟩, ⟨.no, none, .st 1, [.t 51, .t 50]⟩]) (.reg [⟨.t 52, none, .mv, [.l 3]⟩, ⟨.t 53, none, .bin .add, [.t 52, .c (.i .i64 1)]⟩, ⟨.l 3, none, .mv, [.t 53]⟩])) .skip))) (.reg [⟨.t 33, none, .mv, [.l 5]⟩, ⟨.t 34, none, .bin .add, [.t 33, .c (.i .i64 1)]⟩, ⟨.l 5, none, .mv, [.t 34]⟩])))
noncomputable def D_slices_Compact_intint_20 (F : TF) (N : TN) (Q : TQ) (k1 : TK) (k2 : TK) (l : Env) (L : Lg) : Prop :=
 wpOp F .lenSl [(l 4)] L fun v1 L1 =>
 wpOp F (.bin .lss) [(l 5), v1] L1 fun v2 L2 =>
 condW v2
 (wpOp F (.iad 1) [(l 4), (l 5)] L2 fun v3 L3 =>
 wpOp F (.ld none) [v3] L3 fun v4 L4 =>
 wpOp F (.bin .sub) [(l 5), (.i .i64 1)] L4 fun v5 L5 =>
 wpOp F (.iad 1) [(l 4), v5] L5 fun v6 L6 =>
 wpOp F (.ld none) [v6] L6 fun v7 L7 =>
 wpOp F (.bin .neq) [v4, v7] L7 fun v8 L8 =>
 condW v8
 (wpOp F (.iad 1) [(l 4), (l 5)] L8 fun v9 L9 =>
 wpOp F (.ld none) [v9] L9 fun v10 L10 =>
 wpOp F (.iad 1) [(l 0), (l 3)] L10 fun v11 L11 =>
 wpOp F (.st 1) [v11, v10] L11 fun _ L12 =>
 wpOp F (.bin .add) [(l 3), (.i .i64 1)] L12 fun v13 L13 =>
 wpOp F (.bin .add) [(l 5), (.i .i64 1)] L13 fun v14 L14 =>
 k2 (Env.put (Env.put l 3 v13) 5 v14) L14)
 (wpOp F (.bin .add) [(l 5), (.i .i64 1)] L8 fun v15 L15 =>
 k2 (Env.put l 5 v15) L15))
 (D_slices_Compact_intint_16 F N Q k1 (l 0) (l 3) L2)
theorem e_slices_Compact_intint_20 (F : TF) (N : TN) (Q : TQ) (k1 : TK) (k2 : TK) (l t : Env) (L : Lg) : wp F (q_slices_Compact_intint_20 N) l t L (fun (l _ : Env) (L : Lg) => k2 l L) (y_slices_Compact_intint_18 F N Q k1) (fin [.tmp (.l 2)] Q) = D_slices_Compact_intint_20 F N Q k1 k2 l L := by kernel_rfl
def q_slices_Compact_intint_19 (N : TN) : ACode := (.loop (q_slices_Compact_intint_20 N))
noncomputable def D_slices_Compact_intint_19 (F : TF) (N : TN) (Q : TQ) (k1 : TK) (l : Env) (L : Lg) : Prop :=
 loopW (fun l t L k2 => D_slices_Compact_intint_20 F N Q k1 k2 l L) l L
theorem e_slices_Compact_intint_19 (F : TF) (N : TN) (Q : TQ) (k1 : TK) (l t : Env) (L : Lg) : wp F (q_slices_Compact_intint_19 N) l t L (w_slices_Compact_intint_15 F N Q k1) (y_slices_Compact_intint_18 F N Q k1) (fin [.tmp (.l 2)] Q) = D_slices_Compact_intint_19 F N Q k1 l L := wpL (fun l t L k2 => e_slices_Compact_intint_20 F N Q k1 k2 l t L) (by kernel_rfl)
def q_slices_Compact_intint_18 (N : TN) : ACode := (.block 2 (q_slices_Compact_intint_19 N))
theorem e_slices_Compact_intint_18 (F : TF) (N : TN) (Q : TQ) (k1 : TK) (l t : Env) (L : Lg) : wp F (q_slices_Compact_intint_18 N) l t L (w_slices_Compact_intint_15 F N Q k1) (y_slices_Compact_intint_11 F N Q k1) (fin [.tmp (.l 2)] Q) = D_slices_Compact_intint_19 F N Q k1 l L := wpB (e_slices_Compact_intint_19 F N Q k1 l t L)
def q_slices_Compact_intint_17a (N : TN) : ACode := (.reg [⟨.l 5, none, .mv, [.c (.i .i64 1)]⟩])
def q_slices_Compact_intint_17 (N : TN) : ACode := (.seq (q_slices_Compact_intint_17a N) (q_slices_Compact_intint_18 N))
noncomputable def D_slices_Compact_intint_17 (F : TF) (N : TN) (Q : TQ) (k1 : TK) (l : Env) (L : Lg) : Prop :=
 D_slices_Compact_intint_19 F N Q k1 (Env.put l 5 (.i .i64 1)) L
theorem e_slices_Compact_intint_17 (F : TF) (N : TN) (Q : TQ) (k1 : TK) (l t : Env) (L : Lg) : wp F (q_slices_Compact_intint_17 N) l t L (w_slices_Compact_intint_15 F N Q k1) (y_slices_Compact_intint_11 F N Q k1) (fin [.tmp (.l 2)] Q) = D_slices_Compact_intint_17 F N Q k1 l L := wpS (e_slices_Compact_intint_18 F N Q k1) (by kernel_rfl)
def q_slices_Compact_intint_15 (N : TN) : ACode := (.seq (q_slices_Compact_intint_17 N) (q_slices_Compact_intint_16 N))
theorem e_slices_Compact_intint_15 (F : TF) (N : TN) (Q : TQ) (k1 : TK) (l t : Env) (L : Lg) : wp F (q_slices_Compact_intint_15 N) l t L (w_slices_Compact_intint_9 F N Q k1) (y_slices_Compact_intint_11 F N Q k1) (fin [.tmp (.l 2)] Q) = D_slices_Compact_intint_17 F N Q k1 l L := wpS (e_slices_Compact_intint_16 F N Q k1) (e_slices_Compact_intint_17 F N Q k1 l t L)
def q_slices_Compact_intint_14a (N : TN) : ACode := (.reg [⟨.t 26, none, .mv, [.l 0]⟩, ⟨.t 27, none, .mv, [.l 3]⟩, ⟨.t 28, none, .slc 1 true false false, [.t 26, .t 27]⟩, ⟨.l 4, none, .mv, [.t 28]⟩])
def q_slices_Compact_intint_14 (N : TN) : ACode := (.seq (q_slices_Compact_intint_14a N) (q_slices_Compact_intint_15 N))
noncomputable def D_slices_Compact_intint_14 (F : TF) (N : TN) (Q : TQ) (k1 : TK) (l : Env) (L : Lg) : Prop :=
 wpOp F (.slc 1 true false false) [(l 0), (l 3)] L fun v1 L1 =>
 D_slices_Compact_intint_17 F N Q k1 (Env.put l 4 v1) L1
theorem e_slices_Compact_intint_14 (F : TF) (N : TN) (Q : TQ) (k1 : TK) (l t : Env) (L : Lg) : wp F (q_slices_Compact_intint_14 N) l t L (w_slices_Compact_intint_9 F N Q k1) (y_slices_Compact_intint_11 F N Q k1) (fin [.tmp (.l 2)] Q) = D_slices_Compact_intint_14 F N Q k1 l L := wpS (e_slices_Compact_intint_15 F N Q k1) (by kernel_rfl)
def q_slices_Compact_intint_21 (N : TN) : ACode := .skip
noncomputable def D_slices_Compact_intint_21 (F : TF) (N : TN) (Q : TQ) (k1 : TK) (l : Env) (L : Lg) : Prop :=
 D_slices_Compact_intint_10 F N Q k1 l L
theorem e_slices_Compact_intint_21 (F : TF) (N : TN) (Q : TQ) (k1 : TK) (l t : Env) (L : Lg) : wp F (q_slices_Compact_intint_21 N) l t L (w_slices_Compact_intint_9 F N Q k1) (y_slices_Compact_intint_11 F N Q k1) (fin [.tmp (.l 2)] Q) = D_slices_Compact_intint_21 F N Q k1 l L := by kernel_rfl
def q_slices_Compact_intint_13 (N : TN) : ACode := (.cond (.t 25) (q_slices_Compact_intint_14 N) (q_slices_Compact_intint_21 N))
noncomputable def D_slices_Compact_intint_13 (F : TF) (N : TN) (Q : TQ) (k1 : TK) (l : Env) (t25 : AV) (L : Lg) : Prop :=
 condW t25
 (D_slices_Compact_intint_14 F N Q k1 l L)
 (D_slices_Compact_intint_21 F N Q k1 l L)
theorem e_slices_Compact_intint_13 (F : TF) (N : TN) (Q : TQ) (k1 : TK) (l t : Env) (L : Lg) : wp F (q_slices_Compact_intint_13 N) l t L (w_slices_Compact_intint_9 F N Q k1) (y_slices_Compact_intint_11 F N Q k1) (fin [.tmp (.l 2)] Q) = D_slices_Compact_intint_13 F N Q k1 l (t 25) L := wpC (e_slices_Compact_intint_14 F N Q k1 l t L) (e_slices_Compact_intint_21 F N Q k1 l t L) (by kernel_rfl)
def q_slices_Compact_intint_12a (N : TN) : ACode := (.reg [⟨.t 16, none, .mv, [.l 0]⟩, ⟨.t 17, none, .mv, [.l 3]⟩, ⟨.t 18, none, .iad 1, [.t 16, .t 17]⟩, ⟨.t 19, none, .ld none, [.t 18]⟩, ⟨.t 20, none, .mv, [.l 0]⟩, ⟨.t 21, none, .mv, [.l 3]⟩, ⟨.t 22, none, .bin .sub, [.t 21, .c (.i .i64 1)]⟩, ⟨.t 23, none, .iad 1, [.t 20, .t 22]⟩, ⟨.t 24, none, .ld none, [.t 23]⟩, ⟨.t 25, none, .bin .eql, [.t 19, .t 24]⟩])
def q_slices_Compact_intint_12 (N : TN) : ACode := (.seq (q_slices_Compact_intint_12a N) (q_slices_Compact_intint_13 N))
noncomputable def D_slices_Compact_intint_12 (F : TF) (N : TN) (Q : TQ) (k1 : TK) (l : Env) (L : Lg) : Prop :=
 wpOp F (.iad 1) [(l 0), (l 3)] L fun v1 L1 =>
 wpOp F (.ld none) [v1] L1 fun v2 L2 =>
 wpOp F (.bin .sub) [(l 3), (.i .i64 1)] L2 fun v3 L3 =>
 wpOp F (.iad 1) [(l 0), v3] L3 fun v4 L4 =>
 wpOp F (.ld none) [v4] L4 fun v5 L5 =>
 wpOp F (.bin .eql) [v2, v5] L5 fun v6 L6 =>
 D_slices_Compact_intint_13 F N Q k1 l v6 L6
theorem e_slices_Compact_intint_12 (F : TF) (N : TN) (Q : TQ) (k1 : TK) (l t : Env) (L : Lg) : wp F (q_slices_Compact_intint_12 N) l t L (w_slices_Compact_intint_9 F N Q k1) (y_slices_Compact_intint_11 F N Q k1) (fin [.tmp (.l 2)] Q) = D_slices_Compact_intint_12 F N Q k1 l L := wpS (e_slices_Compact_intint_13 F N Q k1) (by kernel_rfl)
def q_slices_Compact_intint_11 (N : TN) : ACode := (.block 1 (q_slices_Compact_intint_12 N))
theorem e_slices_Compact_intint_11 (F : TF) (N : TN) (Q : TQ) (k1 : TK) (l t : Env) (L : Lg) : wp F (q_slices_Compact_intint_11 N) l t L (w_slices_Compact_intint_9 F N Q k1) (y_slices_Compact_intint_6 F N Q) (fin [.tmp (.l 2)] Q) = D_slices_Compact_intint_12 F N Q k1 l L := wpB (e_slices_Compact_intint_12 F N Q k1 l t L)
def q_slices_Compact_intint_9 (N : TN) : ACode := (.seq (q_slices_Compact_intint_11 N) (q_slices_Compact_intint_10 N))
theorem e_slices_Compact_intint_9 (F : TF) (N : TN) (Q : TQ) (k1 : TK) (l t : Env) (L : Lg) : wp F (q_slices_Compact_intint_9 N) l t L (fun (l _ : Env) (L : Lg) => k1 l L) (y_slices_Compact_intint_6 F N Q) (fin [.tmp (.l 2)] Q) = D_slices_Compact_intint_12 F N Q k1 l L := wpS (e_slices_Compact_intint_10 F N Q k1) (e_slices_Compact_intint_11 F N Q k1 l t L)
def q_slices_Compact_intint_8a (N : TN) : ACode := (.seq (.reg [⟨.t 10, none, .mv, [.l 3]⟩, ⟨.t 11, none, .mv, [.l 0]⟩, ⟨.t 12, none, .lenSl, [.t 11]⟩, ⟨.t 13, none, .bin .lss, [.t 10, .t 12]⟩]) (.cond (.t 13) .skip (.exit 0)))
def q_slices_Compact_intint_8 (N : TN) : ACode := (.seq (q_slices_Compact_intint_8a N) (q_slices_Compact_intint_9 N))
noncomputable def D_slices_Compact_intint_8 (F : TF) (N : TN) (Q : TQ) (k1 : TK) (l : Env) (L : Lg) : Prop :=
 wpOp F .lenSl [(l 0)] L fun v1 L1 =>
 wpOp F (.bin .lss) [(l 3), v1] L1 fun v2 L2 =>
 condW v2
 (D_slices_Compact_intint_12 F N Q k1 l L2)
 (D_slices_Compact_intint_4 F N Q (l 0) L2)
theorem e_slices_Compact_intint_8 (F : TF) (N : TN) (Q : TQ) (k1 : TK) (l t : Env) (L : Lg) : wp F (q_slices_Compact_intint_8 N) l t L (fun (l _ : Env) (L : Lg) => k1 l L) (y_slices_Compact_intint_6 F N Q) (fin [.tmp (.l 2)] Q) = D_slices_Compact_intint_8 F N Q k1 l L := wpS (e_slices_Compact_intint_9 F N Q k1) (by kernel_rfl)
def q_slices_Compact_intint_7 (N : TN) : ACode := (.loop (q_slices_Compact_intint_8 N))
noncomputable def D_slices_Compact_intint_7 (F : TF) (N : TN) (Q : TQ) (l : Env) (L : Lg) : Prop :=
 loopW (fun l t L k1 => D_slices_Compact_intint_8 F N Q k1 l L) l L
theorem e_slices_Compact_intint_7 (F : TF) (N : TN) (Q : TQ) (l t : Env) (L : Lg) : wp F (q_slices_Compact_intint_7 N) l t L (w_slices_Compact_intint_3 F N Q) (y_slices_Compact_intint_6 F N Q) (fin [.tmp (.l 2)] Q) = D_slices_Compact_intint_7 F N Q l L := wpL (fun l t L k1 => e_slices_Compact_intint_8 F N Q k1 l t L) (by kernel_rfl)
def q_slices_Compact_intint_6 (N : TN) : ACode := (.block 0 (q_slices_Compact_intint_7 N))
theorem e_slices_Compact_intint_6 (F : TF) (N : TN) (Q : TQ) (l t : Env) (L : Lg) : wp F (q_slices_Compact_intint_6 N) l t L (w_slices_Compact_intint_3 F N Q) nE (fin [.tmp (.l 2)] Q) = D_slices_Compact_intint_7 F N Q l L := wpB (e_slices_Compact_intint_7 F N Q l t L)
def q_slices_Compact_intint_5a (N : TN) : ACode := (.reg [⟨.l 3, none, .mv, [.c (.i .i64 1)]⟩])
def q_slices_Compact_intint_5 (N : TN) : ACode := (.seq (q_slices_Compact_intint_5a N) (q_slices_Compact_intint_6 N))
noncomputable def D_slices_Compact_intint_5 (F : TF) (N : TN) (Q : TQ) (l : Env) (L : Lg) : Prop :=
 D_slices_Compact_intint_7 F N Q (Env.put l 3 (.i .i64 1)) L
theorem e_slices_Compact_intint_5 (F : TF) (N : TN) (Q : TQ) (l t : Env) (L : Lg) : wp F (q_slices_Compact_intint_5 N) l t L (w_slices_Compact_intint_3 F N Q) nE (fin [.tmp (.l 2)] Q) = D_slices_Compact_intint_5 F N Q l L := wpS (e_slices_Compact_intint_6 F N Q) (by kernel_rfl)
def q_slices_Compact_intint_3 (N : TN) : ACode := (.seq (q_slices_Compact_intint_5 N) (q_slices_Compact_intint_4 N))
theorem e_slices_Compact_intint_3 (F : TF) (N : TN) (Q : TQ) (l t : Env) (L : Lg) : wp F (q_slices_Compact_intint_3 N) l t L (fin [.tmp (.l 2)] Q) nE (fin [.tmp (.l 2)] Q) = D_slices_Compact_intint_5 F N Q l L := wpS (e_slices_Compact_intint_4 F N Q) (e_slices_Compact_intint_5 F N Q l t L)
def q_slices_Compact_intint_2a (N : TN) : ACode := (.seq (.reg [⟨.t 6, none, .mv, [.l 0]⟩, ⟨.t 7, none, .lenSl, [.t 6]⟩, ⟨.t 8, none, .bin .lss, [.t 7, .c (.i .i64 2)]⟩]) (.cond (.t 8) (.seq (.reg [⟨.t 9, none, .mv, [.l 0]⟩, ⟨.l 2, none, .mv, [.t 9]⟩]) .ret) .skip))
def q_slices_Compact_intint_2 (N : TN) : ACode := (.seq (q_slices_Compact_intint_2a N) (q_slices_Compact_intint_3 N))
noncomputable def D_slices_Compact_intint_2 (F : TF) (N : TN) (Q : TQ) (l : Env) (L : Lg) : Prop :=
 wpOp F .lenSl [(l 0)] L fun v1 L1 =>
 wpOp F (.bin .lss) [v1, (.i .i64 2)] L1 fun v2 L2 =>
 condW v2
 (fin1 (some (l 0)) Q L2)
 (D_slices_Compact_intint_5 F N Q l L2)
theorem e_slices_Compact_intint_2 (F : TF) (N : TN) (Q : TQ) (l t : Env) (L : Lg) : wp F (q_slices_Compact_intint_2 N) l t L (fin [.tmp (.l 2)] Q) nE (fin [.tmp (.l 2)] Q) = D_slices_Compact_intint_2 F N Q l L := wpS (e_slices_Compact_intint_3 F N Q) (by kernel_rfl)
def q_slices_Compact_intint_1a (N : TN) : ACode := (.reg [⟨.l 2, none, .mv, [.c (.sl none 0 0 0)]⟩])
def q_slices_Compact_intint_1 (N : TN) : ACode := (.seq (q_slices_Compact_intint_1a N) (q_slices_Compact_intint_2 N))
noncomputable def D_slices_Compact_intint_1 (F : TF) (N : TN) (Q : TQ) (l : Env) (L : Lg) : Prop :=
 D_slices_Compact_intint_2 F N Q (Env.put l 2 (.sl none 0 0 0)) L
theorem e_slices_Compact_intint_1 (F : TF) (N : TN) (Q : TQ) (l t : Env) (L : Lg) : wp F (q_slices_Compact_intint_1 N) l t L (fin [.tmp (.l 2)] Q) nE (fin [.tmp (.l 2)] Q) = D_slices_Compact_intint_1 F N Q l L := wpS (e_slices_Compact_intint_2 F N Q) (by kernel_rfl)
/-- slices.Compact[[]int,int] -/
def c_slices_Compact_intint (N : TN) : AFn := ⟨q_slices_Compact_intint_1 N, [.tmp (.l 2)]⟩
structure H_slices_Compact_intint (N : TN) (F : TF) : Prop where
  code : F (N k_slices_Compact_intint) = some (c_slices_Compact_intint N)
theorem r_slices_Compact_intint {F : TF} {N : TN} (h : F (N k_slices_Compact_intint) = some (c_slices_Compact_intint N)) {Q : TQ} {a0 : AV} {L : Lg} (e : D_slices_Compact_intint_1 F N Q (initE [a0] 0) L) : CallL F (N k_slices_Compact_intint) [a0] L Q :=
  CallL.of_wp h (Eq.mpr (Eq.trans (e_slices_Compact_intint_1 F N Q (initE [a0] 0) Env.nil L) (by kernel_rfl : _ = D_slices_Compact_intint_1 F N Q (initE [a0] 0) L)) e)
def q_prog_rising_1 (N : TN) : ACode := (.seq (.reg [⟨.l 2, none, .mv, [.c (.sl none 0 0 0)]⟩]) (.seq (.reg [⟨.t 3, none, .mv, [.l 0]⟩, ⟨.t 4, none, .call (N k_slices_Sort_intint), [.t 3]⟩]) (.seq (.reg [⟨.t 5, none, .mv, [.l 0]⟩, ⟨.t 6, none, .call (N k_slices_Compact_intint), [.t 5]⟩, ⟨.l 2, none, .mv, [.t 6]⟩]) .ret)))
noncomputable def D_prog_rising_1 (F : TF) (N : TN) (Q : TQ) (x0 : AV) (L : Lg) : Prop :=
 CallL F (N k_slices_Sort_intint) [x0] L fun v1 L1 =>
 CallL F (N k_slices_Compact_intint) [x0] L1 fun v2 L2 =>
 fin1 (some v2) Q L2
theorem e_prog_rising_1 (F : TF) (N : TN) (Q : TQ) (l t : Env) (L : Lg) : wp F (q_prog_rising_1 N) l t L (fin [.tmp (.l 2)] Q) nE (fin [.tmp (.l 2)] Q) = D_prog_rising_1 F N Q (l 0) L := by kernel_rfl
/-- tarpaulin/prog.rising -/
def c_prog_rising (N : TN) : AFn := ⟨q_prog_rising_1 N, [.tmp (.l 2)]⟩
structure H_prog_rising (N : TN) (F : TF) : Prop where
  code : F (N k_prog_rising) = some (c_prog_rising N)
  slices_Compact_intint : H_slices_Compact_intint N F
theorem r_prog_rising {F : TF} {N : TN} (h : F (N k_prog_rising) = some (c_prog_rising N)) {Q : TQ} {a0 : AV} {L : Lg} (e : D_prog_rising_1 F N Q a0 L) : CallL F (N k_prog_rising) [a0] L Q :=
  CallL.of_wp h (Eq.mpr (Eq.trans (e_prog_rising_1 F N Q (initE [a0] 0) Env.nil L) (by kernel_rfl : _ = D_prog_rising_1 F N Q a0 L)) e)
def q_prog_Reads_4 (N : TN) : ACode := (.seq (.reg [⟨.t 81, none, .mv, [.l 2]⟩, ⟨.t 82, none, .call (N k_prog_rising), [.t 81]⟩, ⟨.l 2, none, .mv, [.t 82]⟩]) .ret)
noncomputable def D_prog_Reads_4 (F : TF) (N : TN) (Q : TQ) (x2 : AV) (L : Lg) : Prop :=
 CallL F (N k_prog_rising) [x2] L fun v1 L1 =>
 fin1 (some v1) Q L1
theorem e_prog_Reads_4 (F : TF) (N : TN) (Q : TQ) (l t : Env) (L : Lg) : wp F (q_prog_Reads_4 N) l t L (fin [.tmp (.l 2)] Q) nE (fin [.tmp (.l 2)] Q) = D_prog_Reads_4 F N Q (l 2) L := by kernel_rfl
def y_prog_Reads_6 (F : TF) (N : TN) (Q : TQ) : Nat → Kn := (fun (j : Nat) (l t : Env) (L : Lg) => bif Nat.beq j 0 then (fun (l t : Env) (L : Lg) => D_prog_Reads_4 F N Q (l 2) L) l t L else nE j l t L)
def q_prog_Reads_9 (N : TN) : ACode := (.exit 0)
noncomputable def D_prog_Reads_9 (F : TF) (N : TN) (Q : TQ) (x2 : AV) (L : Lg) : Prop :=
 D_prog_Reads_4 F N Q x2 L
theorem e_prog_Reads_9 (F : TF) (N : TN) (Q : TQ) (l t : Env) (L : Lg) : wp F (q_prog_Reads_9 N) l t L (fun (l t : Env) (L : Lg) => D_prog_Reads_4 F N Q (l 2) L) (y_prog_Reads_6 F N Q) (fin [.tmp (.l 2)] Q) = D_prog_Reads_9 F N Q (l 2) L := by kernel_rfl
def y_prog_Reads_11 (F : TF) (N : TN) (Q : TQ) : Nat → Kn := (fun (j : Nat) (l t : Env) (L : Lg) => bif Nat.beq j 6 then (fun (l t : Env) (L : Lg) => D_prog_Reads_9 F N Q (l 2) L) l t L else (y_prog_Reads_6 F N Q) j l t L)
def q_prog_Reads_13 (N : TN) : ACode := (.seq (.reg [⟨.t 65, none, .bin .lss, [.l 64, .l 63]⟩]) (.seq (.cond (.t 65) .skip (.exit 6)) (.seq (.block 7 (.seq (.reg [⟨.t 66, none, .iad 3, [.l 62, .l 64]⟩, ⟨.t 67, none, .ld (some 3), [.t 66]⟩, ⟨.l 4, none, .alloc [.b false, .i .i64 0, .i .i64 0], []⟩, ⟨.no, none, .st 3, [.l 4, .t 67]⟩]) (.seq (.reg [⟨.t 68, none, .mv, [.l 2]⟩, ⟨.t 69, none, .fad 1, [.l 4]⟩, ⟨.t 70, none, .ld none, [.t 69]⟩, ⟨.t 71, none, .bslice [.i .i64 0] 1 1 [0], [.t 70]⟩, ⟨.t 72, none, .app 1 8, [.t 68, .t 71]⟩, ⟨.l 2, none, .mv, [.t 72]⟩]) (.seq (.reg [⟨.t 73, none, .fad 0, [.l 4]⟩, ⟨.t 74, none, .ld none, [.t 73]⟩]) (.cond (.t 74) (.reg [⟨.t 75, none, .mv, [.l 2]⟩, ⟨.t 76, none, .fad 2, [.l 4]⟩, ⟨.t 77, none, .ld none, [.t 76]⟩, ⟨.t 78, none, .bslice [.i .i64 0] 1 1 [0], [.t 77]⟩, ⟨.t 79, none, .app 1 8, [.t 75, .t 78]⟩, ⟨.l 2, none, .mv, [.t 79]⟩]) .skip))))) (.reg [⟨.t 80, none, .bin .add, [.l 64, .c (.i .i64 1)]⟩, ⟨.l 64, none, .mv, [.t 80]⟩]))))
noncomputable def D_prog_Reads_13 (F : TF) (N : TN) (Q : TQ) (k1 : TK) (l : Env) (L : Lg) : Prop :=
 wpOp F (.bin .lss) [(l 64), (l 63)] L fun v1 L1 =>
 condW v1
 (wpOp F (.iad 3) [(l 62), (l 64)] L1 fun v2 L2 =>
 wpOp F (.ld (some 3)) [v2] L2 fun v3 L3 =>
 wpOp F (.alloc [.b false, .i .i64 0, .i .i64 0]) [] L3 fun v4 L4 =>
 wpOp F (.st 3) [v4, v3] L4 fun _ L5 =>
 wpOp F (.fad 1) [v4] L5 fun v6 L6 =>
 wpOp F (.ld none) [v6] L6 fun v7 L7 =>
 wpOp F (.bslice [.i .i64 0] 1 1 [0]) [v7] L7 fun v8 L8 =>
 wpOp F (.app 1 8) [(l 2), v8] L8 fun v9 L9 =>
 wpOp F (.fad 0) [v4] L9 fun v10 L10 =>
 wpOp F (.ld none) [v10] L10 fun v11 L11 =>
 condW v11
 (wpOp F (.fad 2) [v4] L11 fun v12 L12 =>
 wpOp F (.ld none) [v12] L12 fun v13 L13 =>
 wpOp F (.bslice [.i .i64 0] 1 1 [0]) [v13] L13 fun v14 L14 =>
 wpOp F (.app 1 8) [v9, v14] L14 fun v15 L15 =>
 wpOp F (.bin .add) [(l 64), (.i .i64 1)] L15 fun v16 L16 =>
 k1 (Env.put (Env.put (Env.put (Env.put l 4 v4) 2 v9) 2 v15) 64 v16) L16)
 (wpOp F (.bin .add) [(l 64), (.i .i64 1)] L11 fun v17 L17 =>
 k1 (Env.put (Env.put (Env.put l 4 v4) 2 v9) 64 v17) L17))
 (D_prog_Reads_9 F N Q (l 2) L1)
theorem e_prog_Reads_13 (F : TF) (N : TN) (Q : TQ) (k1 : TK) (l t : Env) (L : Lg) : wp F (q_prog_Reads_13 N) l t L (fun (l _ : Env) (L : Lg) => k1 l L) (y_prog_Reads_11 F N Q) (fin [.tmp (.l 2)] Q) = D_prog_Reads_13 F N Q k1 l L := by kernel_rfl
def q_prog_Reads_12 (N : TN) : ACode := (.loop (q_prog_Reads_13 N))
noncomputable def D_prog_Reads_12 (F : TF) (N : TN) (Q : TQ) (l : Env) (L : Lg) : Prop :=
 loopW (fun l t L k1 => D_prog_Reads_13 F N Q k1 l L) l L
theorem e_prog_Reads_12 (F : TF) (N : TN) (Q : TQ) (l t : Env) (L : Lg) : wp F (q_prog_Reads_12 N) l t L (fun (l t : Env) (L : Lg) => D_prog_Reads_9 F N Q (l 2) L) (y_prog_Reads_11 F N Q) (fin [.tmp (.l 2)] Q) = D_prog_Reads_12 F N Q l L := wpL (fun l t L k1 => e_prog_Reads_13 F N Q k1 l t L) (by kernel_rfl)
def q_prog_Reads_11 (N : TN) : ACode := (.block 6 (q_prog_Reads_12 N))
theorem e_prog_Reads_11 (F : TF) (N : TN) (Q : TQ) (l t : Env) (L : Lg) : wp F (q_prog_Reads_11 N) l t L (fun (l t : Env) (L : Lg) => D_prog_Reads_9 F N Q (l 2) L) (y_prog_Reads_6 F N Q) (fin [.tmp (.l 2)] Q) = D_prog_Reads_12 F N Q l L := wpB (e_prog_Reads_12 F N Q l t L)
def q_prog_Reads_10a (N : TN) : ACode := (.reg [⟨.t 61, none, .fad 4, [.l 1]⟩, ⟨.l 62, none, .ld none, [.t 61]⟩, ⟨.l 63, none, .lenSl, [.l 62]⟩, ⟨.l 64, none, .mv, [.c (.i .i64 0)]⟩])
def q_prog_Reads_10 (N : TN) : ACode := (.seq (q_prog_Reads_10a N) (q_prog_Reads_11 N))
noncomputable def D_prog_Reads_10 (F : TF) (N : TN) (Q : TQ) (l : Env) (L : Lg) : Prop :=
 wpOp F (.fad 4) [(l 1)] L fun v1 L1 =>
 wpOp F (.ld none) [v1] L1 fun v2 L2 =>
 wpOp F .lenSl [v2] L2 fun v3 L3 =>
 D_prog_Reads_12 F N Q (Env.put (Env.put (Env.put l 62 v2) 63 v3) 64 (.i .i64 0)) L3
theorem e_prog_Reads_10 (F : TF) (N : TN) (Q : TQ) (l t : Env) (L : Lg) : wp F (q_prog_Reads_10 N) l t L (fun (l t : Env) (L : Lg) => D_prog_Reads_9 F N Q (l 2) L) (y_prog_Reads_6 F N Q) (fin [.tmp (.l 2)] Q) = D_prog_Reads_10 F N Q l L := wpS (e_prog_Reads_11 F N Q) (by kernel_rfl)
def q_prog_Reads_8 (N : TN) : ACode := (.seq (q_prog_Reads_10 N) (q_prog_Reads_9 N))
theorem e_prog_Reads_8 (F : TF) (N : TN) (Q : TQ) (l t : Env) (L : Lg) : wp F (q_prog_Reads_8 N) l t L (fun (l t : Env) (L : Lg) => D_prog_Reads_4 F N Q (l 2) L) (y_prog_Reads_6 F N Q) (fin [.tmp (.l 2)] Q) = D_prog_Reads_10 F N Q l L := wpS (e_prog_Reads_9 F N Q) (e_prog_Reads_10 F N Q l t L)
def y_prog_Reads_14 (F : TF) (N : TN) (Q : TQ) : Nat → Kn := (fun (j : Nat) (l t : Env) (L : Lg) => bif Nat.beq j 5 then (fun (l t : Env) (L : Lg) => D_prog_Reads_10 F N Q l L) l t L else (y_prog_Reads_6 F N Q) j l t L)
def q_prog_Reads_16 (N : TN) : ACode := (.seq (.reg [⟨.t 56, none, .mv, [.l 2]⟩, ⟨.t 57, none, .fad 1, [.l 1]⟩, ⟨.t 58, none, .ld none, [.t 57]⟩, ⟨.t 59, none, .bslice [.i .i64 0] 1 1 [0], [.t 58]⟩, ⟨.t 60, none, .app 1 8, [.t 56, .t 59]⟩, ⟨.l 2, none, .mv, [.t 60]⟩]) (.exit 0))
noncomputable def D_prog_Reads_16 (F : TF) (N : TN) (Q : TQ) (x1 : AV) (x2 : AV) (L : Lg) : Prop :=
 wpOp F (.fad 1) [x1] L fun v1 L1 =>
 wpOp F (.ld none) [v1] L1 fun v2 L2 =>
 wpOp F (.bslice [.i .i64 0] 1 1 [0]) [v2] L2 fun v3 L3 =>
 wpOp F (.app 1 8) [x2, v3] L3 fun v4 L4 =>
 D_prog_Reads_4 F N Q v4 L4
theorem e_prog_Reads_16 (F : TF) (N : TN) (Q : TQ) (l t : Env) (L : Lg) : wp F (q_prog_Reads_16 N) l t L (fun (l t : Env) (L : Lg) => D_prog_Reads_10 F N Q l L) (y_prog_Reads_14 F N Q) (fin [.tmp (.l 2)] Q) = D_prog_Reads_16 F N Q (l 1) (l 2) L := by kernel_rfl
def w_prog_Reads_15 (F : TF) (N : TN) (Q : TQ) : Kn := (fun (l t : Env) (L : Lg) => D_prog_Reads_16 F N Q (l 1) (l 2) L)
def y_prog_Reads_17 (F : TF) (N : TN) (Q : TQ) : Nat → Kn := (fun (j : Nat) (l t : Env) (L : Lg) => bif Nat.beq j 4 then (w_prog_Reads_15 F N Q) l t L else (y_prog_Reads_14 F N Q) j l t L)
def q_prog_Reads_19 (N : TN) : ACode := (.reg [⟨.t 51, none, .mv, [.l 2]⟩, ⟨.t 52, none, .fad 2, [.l 1]⟩, ⟨.t 53, none, .ld none, [.t 52]⟩, ⟨.t 54, none, .bslice [.i .i64 0] 1 1 [0], [.t 53]⟩, ⟨.t 55, none, .app 1 8, [.t 51, .t 54]⟩, ⟨.l 2, none, .mv, [.t 55]⟩])
noncomputable def D_prog_Reads_19 (F : TF) (N : TN) (Q : TQ) (x1 : AV) (x2 : AV) (L : Lg) : Prop :=
 wpOp F (.fad 2) [x1] L fun v1 L1 =>
 wpOp F (.ld none) [v1] L1 fun v2 L2 =>
 wpOp F (.bslice [.i .i64 0] 1 1 [0]) [v2] L2 fun v3 L3 =>
 wpOp F (.app 1 8) [x2, v3] L3 fun v4 L4 =>
 D_prog_Reads_16 F N Q x1 v4 L4
theorem e_prog_Reads_19 (F : TF) (N : TN) (Q : TQ) (l t : Env) (L : Lg) : wp F (q_prog_Reads_19 N) l t L (w_prog_Reads_15 F N Q) (y_prog_Reads_17 F N Q) (fin [.tmp (.l 2)] Q) = D_prog_Reads_19 F N Q (l 1) (l 2) L := by kernel_rfl
def w_prog_Reads_18 (F : TF) (N : TN) (Q : TQ) : Kn := (fun (l t : Env) (L : Lg) => D_prog_Reads_19 F N Q (l 1) (l 2) L)
def y_prog_Reads_20 (F : TF) (N : TN) (Q : TQ) : Nat → Kn := (fun (j : Nat) (l t : Env) (L : Lg) => bif Nat.beq j 3 then (w_prog_Reads_18 F N Q) l t L else (y_prog_Reads_17 F N Q) j l t L)
def q_prog_Reads_22 (N : TN) : ACode := (.seq (.reg [⟨.t 46, none, .mv, [.l 2]⟩, ⟨.t 47, none, .fad 2, [.l 1]⟩, ⟨.t 48, none, .ld none, [.t 47]⟩, ⟨.t 49, none, .bslice [.i .i64 0] 1 1 [0], [.t 48]⟩, ⟨.t 50, none, .app 1 8, [.t 46, .t 49]⟩, ⟨.l 2, none, .mv, [.t 50]⟩]) (.exit 0))
noncomputable def D_prog_Reads_22 (F : TF) (N : TN) (Q : TQ) (x1 : AV) (x2 : AV) (L : Lg) : Prop :=
 wpOp F (.fad 2) [x1] L fun v1 L1 =>
 wpOp F (.ld none) [v1] L1 fun v2 L2 =>
 wpOp F (.bslice [.i .i64 0] 1 1 [0]) [v2] L2 fun v3 L3 =>
 wpOp F (.app 1 8) [x2, v3] L3 fun v4 L4 =>
 D_prog_Reads_4 F N Q v4 L4
theorem e_prog_Reads_22 (F : TF) (N : TN) (Q : TQ) (l t : Env) (L : Lg) : wp F (q_prog_Reads_22 N) l t L (w_prog_Reads_18 F N Q) (y_prog_Reads_20 F N Q) (fin [.tmp (.l 2)] Q) = D_prog_Reads_22 F N Q (l 1) (l 2) L := by kernel_rfl
def w_prog_Reads_21 (F : TF) (N : TN) (Q : TQ) : Kn := (fun (l t : Env) (L : Lg) => D_prog_Reads_22 F N Q (l 1) (l 2) L)
def y_prog_Reads_23 (F : TF) (N : TN) (Q : TQ) : Nat → Kn := (fun (j : Nat) (l t : Env) (L : Lg) => bif Nat.beq j 2 then (w_prog_Reads_21 F N Q) l t L else (y_prog_Reads_20 F N Q) j l t L)
def q_prog_Reads_25 (N : TN) : ACode := (.reg [⟨.t 41, none, .mv, [.l 2]⟩, ⟨.t 42, none, .fad 3, [.l 1]⟩, ⟨.t 43, none, .ld none, [.t 42]⟩, ⟨.t 44, none, .bslice [.i .i64 0] 1 1 [0], [.t 43]⟩, ⟨.t 45, none, .app 1 8, [.t 41, .t 44]⟩, ⟨.l 2, none, .mv, [.t 45]⟩])
noncomputable def D_prog_Reads_25 (F : TF) (N : TN) (Q : TQ) (x1 : AV) (x2 : AV) (L : Lg) : Prop :=
 wpOp F (.fad 3) [x1] L fun v1 L1 =>
 wpOp F (.ld none) [v1] L1 fun v2 L2 =>
 wpOp F (.bslice [.i .i64 0] 1 1 [0]) [v2] L2 fun v3 L3 =>
 wpOp F (.app 1 8) [x2, v3] L3 fun v4 L4 =>
 D_prog_Reads_22 F N Q x1 v4 L4
theorem e_prog_Reads_25 (F : TF) (N : TN) (Q : TQ) (l t : Env) (L : Lg) : wp F (q_prog_Reads_25 N) l t L (w_prog_Reads_21 F N Q) (y_prog_Reads_23 F N Q) (fin [.tmp (.l 2)] Q) = D_prog_Reads_25 F N Q (l 1) (l 2) L := by kernel_rfl
def w_prog_Reads_24 (F : TF) (N : TN) (Q : TQ) : Kn := (fun (l t : Env) (L : Lg) => D_prog_Reads_25 F N Q (l 1) (l 2) L)
def y_prog_Reads_26 (F : TF) (N : TN) (Q : TQ) : Nat → Kn := (fun (j : Nat) (l t : Env) (L : Lg) => bif Nat.beq j 1 then (w_prog_Reads_24 F N Q) l t L else (y_prog_Reads_23 F N Q) j l t L)
def q_prog_Reads_28 (N : TN) : ACode := (.exit 0)
noncomputable def D_prog_Reads_28 (F : TF) (N : TN) (Q : TQ) (x2 : AV) (L : Lg) : Prop :=
 D_prog_Reads_4 F N Q x2 L
theorem e_prog_Reads_28 (F : TF) (N : TN) (Q : TQ) (l t : Env) (L : Lg) : wp F (q_prog_Reads_28 N) l t L (w_prog_Reads_24 F N Q) (y_prog_Reads_26 F N Q) (fin [.tmp (.l 2)] Q) = D_prog_Reads_28 F N Q (l 2) L := by kernel_rfl
def q_prog_Reads_33 (N : TN) : ACode := (.seq (.reg [⟨.t 40, none, .bin .eql, [.l 9, .c (.i .i64 15)]⟩, ⟨.t 39, none, .mv, [.t 40]⟩]) (.cond (.t 39) (.exit 5) .skip))
noncomputable def D_prog_Reads_33 (F : TF) (N : TN) (Q : TQ) (l : Env) (L : Lg) : Prop :=
 wpOp F (.bin .eql) [(l 9), (.i .i64 15)] L fun v1 L1 =>
 condW v1
 (D_prog_Reads_10 F N Q l L1)
 (D_prog_Reads_28 F N Q (l 2) L1)
theorem e_prog_Reads_33 (F : TF) (N : TN) (Q : TQ) (l t : Env) (L : Lg) : wp F (q_prog_Reads_33 N) l t L (fun (l t : Env) (L : Lg) => D_prog_Reads_28 F N Q (l 2) L) (y_prog_Reads_26 F N Q) (fin [.tmp (.l 2)] Q) = D_prog_Reads_33 F N Q l L := by kernel_rfl
def q_prog_Reads_32a (N : TN) : ACode := (.seq (.seq (.reg [⟨.t 26, none, .bin .eql, [.l 9, .c (.i .i64 3)]⟩, ⟨.t 25, none, .mv, [.t 26]⟩]) (.cond (.t 25) .skip (.seq (.reg [⟨.t 27, none, .bin .eql, [.l 9, .c (.i .i64 5)]⟩, ⟨.t 25, none, .mv, [.t 27]⟩]) (.cond (.t 25) .skip (.seq (.reg [⟨.t 28, none, .bin .eql, [.l 9, .c (.i .i64 6)]⟩, ⟨.t 25, none, .mv, [.t 28]⟩]) (.cond (.t 25) .skip (.seq (.reg [⟨.t 29, none, .bin .eql, [.l 9, .c (.i .i64 11)]⟩, ⟨.t 25, none, .mv, [.t 29]⟩]) (.cond (.t 25) .skip (.seq (.reg [⟨.t 30, none, .bin .eql, [.l 9, .c (.i .i64 12)]⟩, ⟨.t 25, none, .mv, [.t 30]⟩]) (.cond (.t 25) .skip (.seq (.reg [⟨.t 31, none, .bin .eql, [.l 9, .c (.i .i64 13)]⟩, ⟨.t 25, none, .mv, [.t 31]⟩]) (.cond (.t 25) .skip (.seq (.reg [⟨.t 32, none, .bin .eql, [.l 9, .c (.i .i64 14)]⟩, ⟨.t 25, none, .mv, [.t 32]⟩]) (.cond (.t 25) .skip (.seq (.reg [⟨.t 33, none, .bin .eql, [.l 9, .c (.i .i64 20)]⟩, ⟨.t 25, none, .mv, [.t 33]⟩]) (.cond (.t 25) .skip (.seq (.reg [⟨.t 34, none, .bin .eql, [.l 9, .c (.i .i64 27)]⟩, ⟨.t 25, none, .mv, [.t 34]⟩]) (.cond (.t 25) .skip (.seq (.reg [⟨.t 35, none, .bin .eql, [.l 9, .c (.i .i64 28)]⟩, ⟨.t 25, none, .mv, [.t 35]⟩]) (.cond (.t 25) .skip (.seq (.reg [⟨.t 36, none, .bin .eql, [.l 9, .c (.i .i64 29)]⟩, ⟨.t 25, none, .mv, [.t 36]⟩]) (.cond (.t 25) .skip (.seq (.reg [⟨.t 37, none, .bin .eql, [.l 9, .c (.i .i64 30)]⟩, ⟨.t 25, none, .mv, [.t 37]⟩]) (.cond (.t 25) .skip (.reg [⟨.t 38, none, .bin .eql, [.l 9, .c (.i .i64 32)]⟩, ⟨.t 25, none, .mv, [.t 38]⟩]))))))))))))))))))))))))) (.cond (.t 25) (.exit 4) .skip))
def q_prog_Reads_32 (N : TN) : ACode := (.seq (q_prog_Reads_32a N) (q_prog_Reads_33 N))
noncomputable def D_prog_Reads_32 (F : TF) (N : TN) (Q : TQ) (l : Env) (L : Lg) : Prop :=
 wpOp F (.bin .eql) [(l 9), (.i .i64 3)] L fun v1 L1 =>
 condW v1
 (condW v1
 (D_prog_Reads_16 F N Q (l 1) (l 2) L1)
 (D_prog_Reads_33 F N Q l L1))
 (wpOp F (.bin .eql) [(l 9), (.i .i64 5)] L1 fun v2 L2 =>
 condW v2
 (condW v2
 (D_prog_Reads_16 F N Q (l 1) (l 2) L2)
 (D_prog_Reads_33 F N Q l L2))
 (wpOp F (.bin .eql) [(l 9), (.i .i64 6)] L2 fun v3 L3 =>
 condW v3
 (condW v3
 (D_prog_Reads_16 F N Q (l 1) (l 2) L3)
 (D_prog_Reads_33 F N Q l L3))
 (wpOp F (.bin .eql) [(l 9), (.i .i64 11)] L3 fun v4 L4 =>
 condW v4
 (condW v4
 (D_prog_Reads_16 F N Q (l 1) (l 2) L4)
 (D_prog_Reads_33 F N Q l L4))
 (wpOp F (.bin .eql) [(l 9), (.i .i64 12)] L4 fun v5 L5 =>
 condW v5
 (condW v5
 (D_prog_Reads_16 F N Q (l 1) (l 2) L5)
 (D_prog_Reads_33 F N Q l L5))
 (wpOp F (.bin .eql) [(l 9), (.i .i64 13)] L5 fun v6 L6 =>
 condW v6
 (condW v6
 (D_prog_Reads_16 F N Q (l 1) (l 2) L6)
 (D_prog_Reads_33 F N Q l L6))
 (wpOp F (.bin .eql) [(l 9), (.i .i64 14)] L6 fun v7 L7 =>
 condW v7
 (condW v7
 (D_prog_Reads_16 F N Q (l 1) (l 2) L7)
 (D_prog_Reads_33 F N Q l L7))
 (wpOp F (.bin .eql) [(l 9), (.i .i64 20)] L7 fun v8 L8 =>
 condW v8
 (condW v8
 (D_prog_Reads_16 F N Q (l 1) (l 2) L8)
 (D_prog_Reads_33 F N Q l L8))
 (wpOp F (.bin .eql) [(l 9), (.i .i64 27)] L8 fun v9 L9 =>
 condW v9
 (condW v9
 (D_prog_Reads_16 F N Q (l 1) (l 2) L9)
 (D_prog_Reads_33 F N Q l L9))
 (wpOp F (.bin .eql) [(l 9), (.i .i64 28)] L9 fun v10 L10 =>
 condW v10
 (condW v10
 (D_prog_Reads_16 F N Q (l 1) (l 2) L10)
 (D_prog_Reads_33 F N Q l L10))
 (wpOp F (.bin .eql) [(l 9), (.i .i64 29)] L10 fun v11 L11 =>
 condW v11
 (condW v11
 (D_prog_Reads_16 F N Q (l 1) (l 2) L11)
 (D_prog_Reads_33 F N Q l L11))
 (wpOp F (.bin .eql) [(l 9), (.i .i64 30)] L11 fun v12 L12 =>
 condW v12
 (condW v12
 (D_prog_Reads_16 F N Q (l 1) (l 2) L12)
 (D_prog_Reads_33 F N Q l L12))
 (wpOp F (.bin .eql) [(l 9), (.i .i64 32)] L12 fun v13 L13 =>
 condW v13
 (D_prog_Reads_16 F N Q (l 1) (l 2) L13)
 (D_prog_Reads_33 F N Q l L13)))))))))))))
theorem e_prog_Reads_32 (F : TF) (N : TN) (Q : TQ) (l t : Env) (L : Lg) : wp F (q_prog_Reads_32 N) l t L (fun (l t : Env) (L : Lg) => D_prog_Reads_28 F N Q (l 2) L) (y_prog_Reads_26 F N Q) (fin [.tmp (.l 2)] Q) = D_prog_Reads_32 F N Q l L := wpS (e_prog_Reads_33 F N Q) (by kernel_rfl)
def q_prog_Reads_31a (N : TN) : ACode := (.seq (.seq (.reg [⟨.t 22, none, .bin .eql, [.l 9, .c (.i .i64 10)]⟩, ⟨.t 21, none, .mv, [.t 22]⟩]) (.cond (.t 21) .skip (.seq (.reg [⟨.t 23, none, .bin .eql, [.l 9, .c (.i .i64 21)]⟩, ⟨.t 21, none, .mv, [.t 23]⟩]) (.cond (.t 21) .skip (.reg [⟨.t 24, none, .bin .eql, [.l 9, .c (.i .i64 26)]⟩, ⟨.t 21, none, .mv, [.t 24]⟩]))))) (.cond (.t 21) (.exit 3) .skip))
def q_prog_Reads_31 (N : TN) : ACode := (.seq (q_prog_Reads_31a N) (q_prog_Reads_32 N))
noncomputable def D_prog_Reads_31 (F : TF) (N : TN) (Q : TQ) (l : Env) (L : Lg) : Prop :=
 wpOp F (.bin .eql) [(l 9), (.i .i64 10)] L fun v1 L1 =>
 condW v1
 (condW v1
 (D_prog_Reads_19 F N Q (l 1) (l 2) L1)
 (D_prog_Reads_32 F N Q l L1))
 (wpOp F (.bin .eql) [(l 9), (.i .i64 21)] L1 fun v2 L2 =>
 condW v2
 (condW v2
 (D_prog_Reads_19 F N Q (l 1) (l 2) L2)
 (D_prog_Reads_32 F N Q l L2))
 (wpOp F (.bin .eql) [(l 9), (.i .i64 26)] L2 fun v3 L3 =>
 condW v3
 (D_prog_Reads_19 F N Q (l 1) (l 2) L3)
 (D_prog_Reads_32 F N Q l L3)))
theorem e_prog_Reads_31 (F : TF) (N : TN) (Q : TQ) (l t : Env) (L : Lg) : wp F (q_prog_Reads_31 N) l t L (fun (l t : Env) (L : Lg) => D_prog_Reads_28 F N Q (l 2) L) (y_prog_Reads_26 F N Q) (fin [.tmp (.l 2)] Q) = D_prog_Reads_31 F N Q l L := wpS (e_prog_Reads_32 F N Q) (by kernel_rfl)
def q_prog_Reads_30a (N : TN) : ACode := (.seq (.seq (.reg [⟨.t 14, none, .bin .eql, [.l 9, .c (.i .i64 2)]⟩, ⟨.t 13, none, .mv, [.t 14]⟩]) (.cond (.t 13) .skip (.seq (.reg [⟨.t 15, none, .bin .eql, [.l 9, .c (.i .i64 17)]⟩, ⟨.t 13, none, .mv, [.t 15]⟩]) (.cond (.t 13) .skip (.seq (.reg [⟨.t 16, none, .bin .eql, [.l 9, .c (.i .i64 18)]⟩, ⟨.t 13, none, .mv, [.t 16]⟩]) (.cond (.t 13) .skip (.seq (.reg [⟨.t 17, none, .bin .eql, [.l 9, .c (.i .i64 19)]⟩, ⟨.t 13, none, .mv, [.t 17]⟩]) (.cond (.t 13) .skip (.seq (.reg [⟨.t 18, none, .bin .eql, [.l 9, .c (.i .i64 22)]⟩, ⟨.t 13, none, .mv, [.t 18]⟩]) (.cond (.t 13) .skip (.seq (.reg [⟨.t 19, none, .bin .eql, [.l 9, .c (.i .i64 25)]⟩, ⟨.t 13, none, .mv, [.t 19]⟩]) (.cond (.t 13) .skip (.reg [⟨.t 20, none, .bin .eql, [.l 9, .c (.i .i64 31)]⟩, ⟨.t 13, none, .mv, [.t 20]⟩]))))))))))))) (.cond (.t 13) (.exit 2) .skip))
def q_prog_Reads_30 (N : TN) : ACode := (.seq (q_prog_Reads_30a N) (q_prog_Reads_31 N))
noncomputable def D_prog_Reads_30 (F : TF) (N : TN) (Q : TQ) (l : Env) (L : Lg) : Prop :=
 wpOp F (.bin .eql) [(l 9), (.i .i64 2)] L fun v1 L1 =>
 condW v1
 (condW v1
 (D_prog_Reads_22 F N Q (l 1) (l 2) L1)
 (D_prog_Reads_31 F N Q l L1))
 (wpOp F (.bin .eql) [(l 9), (.i .i64 17)] L1 fun v2 L2 =>
 condW v2
 (condW v2
 (D_prog_Reads_22 F N Q (l 1) (l 2) L2)
 (D_prog_Reads_31 F N Q l L2))
 (wpOp F (.bin .eql) [(l 9), (.i .i64 18)] L2 fun v3 L3 =>
 condW v3
 (condW v3
 (D_prog_Reads_22 F N Q (l 1) (l 2) L3)
 (D_prog_Reads_31 F N Q l L3))
 (wpOp F (.bin .eql) [(l 9), (.i .i64 19)] L3 fun v4 L4 =>
 condW v4
 (condW v4
 (D_prog_Reads_22 F N Q (l 1) (l 2) L4)
 (D_prog_Reads_31 F N Q l L4))
 (wpOp F (.bin .eql) [(l 9), (.i .i64 22)] L4 fun v5 L5 =>
 condW v5
 (condW v5
 (D_prog_Reads_22 F N Q (l 1) (l 2) L5)
 (D_prog_Reads_31 F N Q l L5))
 (wpOp F (.bin .eql) [(l 9), (.i .i64 25)] L5 fun v6 L6 =>
 condW v6
 (condW v6
 (D_prog_Reads_22 F N Q (l 1) (l 2) L6)
 (D_prog_Reads_31 F N Q l L6))
 (wpOp F (.bin .eql) [(l 9), (.i .i64 31)] L6 fun v7 L7 =>
 condW v7
 (D_prog_Reads_22 F N Q (l 1) (l 2) L7)
 (D_prog_Reads_31 F N Q l L7)))))))
theorem e_prog_Reads_30 (F : TF) (N : TN) (Q : TQ) (l t : Env) (L : Lg) : wp F (q_prog_Reads_30 N) l t L (fun (l t : Env) (L : Lg) => D_prog_Reads_28 F N Q (l 2) L) (y_prog_Reads_26 F N Q) (fin [.tmp (.l 2)] Q) = D_prog_Reads_30 F N Q l L := wpS (e_prog_Reads_31 F N Q) (by kernel_rfl)
def q_prog_Reads_29a (N : TN) : ACode := (.seq (.seq (.reg [⟨.t 11, none, .bin .eql, [.l 9, .c (.i .i64 23)]⟩, ⟨.t 10, none, .mv, [.t 11]⟩]) (.cond (.t 10) .skip (.reg [⟨.t 12, none, .bin .eql, [.l 9, .c (.i .i64 24)]⟩, ⟨.t 10, none, .mv, [.t 12]⟩]))) (.cond (.t 10) (.exit 1) .skip))
def q_prog_Reads_29 (N : TN) : ACode := (.seq (q_prog_Reads_29a N) (q_prog_Reads_30 N))
noncomputable def D_prog_Reads_29 (F : TF) (N : TN) (Q : TQ) (l : Env) (L : Lg) : Prop :=
 wpOp F (.bin .eql) [(l 9), (.i .i64 23)] L fun v1 L1 =>
 condW v1
 (condW v1
 (D_prog_Reads_25 F N Q (l 1) (l 2) L1)
 (D_prog_Reads_30 F N Q l L1))
 (wpOp F (.bin .eql) [(l 9), (.i .i64 24)] L1 fun v2 L2 =>
 condW v2
 (D_prog_Reads_25 F N Q (l 1) (l 2) L2)
 (D_prog_Reads_30 F N Q l L2))
theorem e_prog_Reads_29 (F : TF) (N : TN) (Q : TQ) (l t : Env) (L : Lg) : wp F (q_prog_Reads_29 N) l t L (fun (l t : Env) (L : Lg) => D_prog_Reads_28 F N Q (l 2) L) (y_prog_Reads_26 F N Q) (fin [.tmp (.l 2)] Q) = D_prog_Reads_29 F N Q l L := wpS (e_prog_Reads_30 F N Q) (by kernel_rfl)
def q_prog_Reads_27 (N : TN) : ACode := (.seq (q_prog_Reads_29 N) (q_prog_Reads_28 N))
theorem e_prog_Reads_27 (F : TF) (N : TN) (Q : TQ) (l t : Env) (L : Lg) : wp F (q_prog_Reads_27 N) l t L (w_prog_Reads_24 F N Q) (y_prog_Reads_26 F N Q) (fin [.tmp (.l 2)] Q) = D_prog_Reads_29 F N Q l L := wpS (e_prog_Reads_28 F N Q) (e_prog_Reads_29 F N Q l t L)
def q_prog_Reads_26 (N : TN) : ACode := (.block 1 (q_prog_Reads_27 N))
theorem e_prog_Reads_26 (F : TF) (N : TN) (Q : TQ) (l t : Env) (L : Lg) : wp F (q_prog_Reads_26 N) l t L (w_prog_Reads_24 F N Q) (y_prog_Reads_23 F N Q) (fin [.tmp (.l 2)] Q) = D_prog_Reads_29 F N Q l L := wpB (e_prog_Reads_27 F N Q l t L)
def q_prog_Reads_24 (N : TN) : ACode := (.seq (q_prog_Reads_26 N) (q_prog_Reads_25 N))
theorem e_prog_Reads_24 (F : TF) (N : TN) (Q : TQ) (l t : Env) (L : Lg) : wp F (q_prog_Reads_24 N) l t L (w_prog_Reads_21 F N Q) (y_prog_Reads_23 F N Q) (fin [.tmp (.l 2)] Q) = D_prog_Reads_29 F N Q l L := wpS (e_prog_Reads_25 F N Q) (e_prog_Reads_26 F N Q l t L)
def q_prog_Reads_23 (N : TN) : ACode := (.block 2 (q_prog_Reads_24 N))
theorem e_prog_Reads_23 (F : TF) (N : TN) (Q : TQ) (l t : Env) (L : Lg) : wp F (q_prog_Reads_23 N) l t L (w_prog_Reads_21 F N Q) (y_prog_Reads_20 F N Q) (fin [.tmp (.l 2)] Q) = D_prog_Reads_29 F N Q l L := wpB (e_prog_Reads_24 F N Q l t L)
def q_prog_Reads_21 (N : TN) : ACode := (.seq (q_prog_Reads_23 N) (q_prog_Reads_22 N))
theorem e_prog_Reads_21 (F : TF) (N : TN) (Q : TQ) (l t : Env) (L : Lg) : wp F (q_prog_Reads_21 N) l t L (w_prog_Reads_18 F N Q) (y_prog_Reads_20 F N Q) (fin [.tmp (.l 2)] Q) = D_prog_Reads_29 F N Q l L := wpS (e_prog_Reads_22 F N Q) (e_prog_Reads_23 F N Q l t L)
def q_prog_Reads_20 (N : TN) : ACode := (.block 3 (q_prog_Reads_21 N))
theorem e_prog_Reads_20 (F : TF) (N : TN) (Q : TQ) (l t : Env) (L : Lg) : wp F (q_prog_Reads_20 N) l t L (w_prog_Reads_18 F N Q) (y_prog_Reads_17 F N Q) (fin [.tmp (.l 2)] Q) = D_prog_Reads_29 F N Q l L := wpB (e_prog_Reads_21 F N Q l t L)
def q_prog_Reads_18 (N : TN) : ACode := (.seq (q_prog_Reads_20 N) (q_prog_Reads_19 N))
theorem e_prog_Reads_18 (F : TF) (N : TN) (Q : TQ) (l t : Env) (L : Lg) : wp F (q_prog_Reads_18 N) l t L (w_prog_Reads_15 F N Q) (y_prog_Reads_17 F N Q) (fin [.tmp (.l 2)] Q) = D_prog_Reads_29 F N Q l L := wpS (e_prog_Reads_19 F N Q) (e_prog_Reads_20 F N Q l t L)
def q_prog_Reads_17 (N : TN) : ACode := (.block 4 (q_prog_Reads_18 N))
theorem e_prog_Reads_17 (F : TF) (N : TN) (Q : TQ) (l t : Env) (L : Lg) : wp F (q_prog_Reads_17 N) l t L (w_prog_Reads_15 F N Q) (y_prog_Reads_14 F N Q) (fin [.tmp (.l 2)] Q) = D_prog_Reads_29 F N Q l L := wpB (e_prog_Reads_18 F N Q l t L)
def q_prog_Reads_15 (N : TN) : ACode := (.seq (q_prog_Reads_17 N) (q_prog_Reads_16 N))
theorem e_prog_Reads_15 (F : TF) (N : TN) (Q : TQ) (l t : Env) (L : Lg) : wp F (q_prog_Reads_15 N) l t L (fun (l t : Env) (L : Lg) => D_prog_Reads_10 F N Q l L) (y_prog_Reads_14 F N Q) (fin [.tmp (.l 2)] Q) = D_prog_Reads_29 F N Q l L := wpS (e_prog_Reads_16 F N Q) (e_prog_Reads_17 F N Q l t L)
def q_prog_Reads_14 (N : TN) : ACode := (.block 5 (q_prog_Reads_15 N))
theorem e_prog_Reads_14 (F : TF) (N : TN) (Q : TQ) (l t : Env) (L : Lg) : wp F (q_prog_Reads_14 N) l t L (fun (l t : Env) (L : Lg) => D_prog_Reads_10 F N Q l L) (y_prog_Reads_6 F N Q) (fin [.tmp (.l 2)] Q) = D_prog_Reads_29 F N Q l L := wpB (e_prog_Reads_15 F N Q l t L)
def q_prog_Reads_7 (N : TN) : ACode := (.seq (q_prog_Reads_14 N) (q_prog_Reads_8 N))
theorem e_prog_Reads_7 (F : TF) (N : TN) (Q : TQ) (l t : Env) (L : Lg) : wp F (q_prog_Reads_7 N) l t L (fun (l t : Env) (L : Lg) => D_prog_Reads_4 F N Q (l 2) L) (y_prog_Reads_6 F N Q) (fin [.tmp (.l 2)] Q) = D_prog_Reads_29 F N Q l L := wpS (e_prog_Reads_8 F N Q) (e_prog_Reads_14 F N Q l t L)
def q_prog_Reads_6 (N : TN) : ACode := (.block 0 (q_prog_Reads_7 N))
theorem e_prog_Reads_6 (F : TF) (N : TN) (Q : TQ) (l t : Env) (L : Lg) : wp F (q_prog_Reads_6 N) l t L (fun (l t : Env) (L : Lg) => D_prog_Reads_4 F N Q (l 2) L) nE (fin [.tmp (.l 2)] Q) = D_prog_Reads_29 F N Q l L := wpB (e_prog_Reads_7 F N Q l t L)
def q_prog_Reads_5a (N : TN) : ACode := (.reg [⟨.t 8, none, .fad 0, [.l 1]⟩, ⟨.l 9, none, .ld none, [.t 8]⟩])
def q_prog_Reads_5 (N : TN) : ACode := (.seq (q_prog_Reads_5a N) (q_prog_Reads_6 N))
noncomputable def D_prog_Reads_5 (F : TF) (N : TN) (Q : TQ) (l : Env) (L : Lg) : Prop :=
 wpOp F (.fad 0) [(l 1)] L fun v1 L1 =>
 wpOp F (.ld none) [v1] L1 fun v2 L2 =>
 D_prog_Reads_29 F N Q (Env.put l 9 v2) L2
theorem e_prog_Reads_5 (F : TF) (N : TN) (Q : TQ) (l t : Env) (L : Lg) : wp F (q_prog_Reads_5 N) l t L (fun (l t : Env) (L : Lg) => D_prog_Reads_4 F N Q (l 2) L) nE (fin [.tmp (.l 2)] Q) = D_prog_Reads_5 F N Q l L := wpS (e_prog_Reads_6 F N Q) (by kernel_rfl)
def q_prog_Reads_3 (N : TN) : ACode := (.seq (q_prog_Reads_5 N) (q_prog_Reads_4 N))
theorem e_prog_Reads_3 (F : TF) (N : TN) (Q : TQ) (l t : Env) (L : Lg) : wp F (q_prog_Reads_3 N) l t L (fin [.tmp (.l 2)] Q) nE (fin [.tmp (.l 2)] Q) = D_prog_Reads_5 F N Q l L := wpS (e_prog_Reads_4 F N Q) (e_prog_Reads_5 F N Q l t L)
def q_prog_Reads_2a (N : TN) : ACode := (.seq (.reg [⟨.t 5, none, .ld (some 6), [.l 1]⟩, ⟨.t 6, none, .call (N k_prog_good), [.t 5, .c (.i .i64 100)]⟩, ⟨.t 7, none, .un .not, [.t 6]⟩]) (.cond (.t 7) (.seq (.reg [⟨.l 2, none, .mv, [.c (.sl none 0 0 0)]⟩]) .ret) .skip))
def q_prog_Reads_2 (N : TN) : ACode := (.seq (q_prog_Reads_2a N) (q_prog_Reads_3 N))
noncomputable def D_prog_Reads_2 (F : TF) (N : TN) (Q : TQ) (l : Env) (L : Lg) : Prop :=
 wpOp F (.ld (some 6)) [(l 1)] L fun v1 L1 =>
 CallL F (N k_prog_good) [v1, (.i .i64 100)] L1 fun v2 L2 =>
 wpOp F (.un .not) [v2] L2 fun v3 L3 =>
 condW v3
 (fin1 (some (.sl none 0 0 0)) Q L3)
 (D_prog_Reads_5 F N Q l L3)
theorem e_prog_Reads_2 (F : TF) (N : TN) (Q : TQ) (l t : Env) (L : Lg) : wp F (q_prog_Reads_2 N) l t L (fin [.tmp (.l 2)] Q) nE (fin [.tmp (.l 2)] Q) = D_prog_Reads_2 F N Q l L := wpS (e_prog_Reads_3 F N Q) (by kernel_rfl)
def q_prog_Reads_1a (N : TN) : ACode := (.reg [⟨.l 1, none, .box, [.l 0]⟩, ⟨.l 2, none, .mv, [.c (.sl none 0 0 0)]⟩])
def q_prog_Reads_1 (N : TN) : ACode := (.seq (q_prog_Reads_1a N) (q_prog_Reads_2 N))
noncomputable def D_prog_Reads_1 (F : TF) (N : TN) (Q : TQ) (l : Env) (L : Lg) : Prop :=
 wpOp F .box [(l 0)] L fun v1 L1 =>
 D_prog_Reads_2 F N Q (Env.put (Env.put l 1 v1) 2 (.sl none 0 0 0)) L1
theorem e_prog_Reads_1 (F : TF) (N : TN) (Q : TQ) (l t : Env) (L : Lg) : wp F (q_prog_Reads_1 N) l t L (fin [.tmp (.l 2)] Q) nE (fin [.tmp (.l 2)] Q) = D_prog_Reads_1 F N Q l L := wpS (e_prog_Reads_2 F N Q) (by kernel_rfl)
/-- tarpaulin/prog.Reads -/
def c_prog_Reads (N : TN) : AFn := ⟨q_prog_Reads_1 N, [.tmp (.l 2)]⟩
structure H_prog_Reads (N : TN) (F : TF) : Prop where
  code : F (N k_prog_Reads) = some (c_prog_Reads N)
  prog_good : H_prog_good N F
  prog_rising : H_prog_rising N F
theorem r_prog_Reads {F : TF} {N : TN} (h : F (N k_prog_Reads) = some (c_prog_Reads N)) {Q : TQ} {a0 : AV} {L : Lg} (e : D_prog_Reads_1 F N Q (initE [a0] 0) L) : CallL F (N k_prog_Reads) [a0] L Q :=
  CallL.of_wp h (Eq.mpr (Eq.trans (e_prog_Reads_1 F N Q (initE [a0] 0) Env.nil L) (by kernel_rfl : _ = D_prog_Reads_1 F N Q (initE [a0] 0) L)) e)
def q_prog_Writes_4 (N : TN) : ACode := (.seq (.reg [⟨.t 73, none, .mv, [.l 2]⟩, ⟨.t 74, none, .call (N k_prog_rising), [.t 73]⟩, ⟨.l 2, none, .mv, [.t 74]⟩]) .ret)
noncomputable def D_prog_Writes_4 (F : TF) (N : TN) (Q : TQ) (x2 : AV) (L : Lg) : Prop :=
 CallL F (N k_prog_rising) [x2] L fun v1 L1 =>
 fin1 (some v1) Q L1
theorem e_prog_Writes_4 (F : TF) (N : TN) (Q : TQ) (l t : Env) (L : Lg) : wp F (q_prog_Writes_4 N) l t L (fin [.tmp (.l 2)] Q) nE (fin [.tmp (.l 2)] Q) = D_prog_Writes_4 F N Q (l 2) L := by kernel_rfl
def y_prog_Writes_6 (F : TF) (N : TN) (Q : TQ) : Nat → Kn := (fun (j : Nat) (l t : Env) (L : Lg) => bif Nat.beq j 0 then (fun (l t : Env) (L : Lg) => D_prog_Writes_4 F N Q (l 2) L) l t L else nE j l t L)
def q_prog_Writes_8 (N : TN) : ACode := (.seq (.reg [⟨.t 64, none, .mv, [.l 2]⟩, ⟨.t 65, none, .fad 1, [.l 1]⟩, ⟨.t 66, none, .ld none, [.t 65]⟩, ⟨.t 67, none, .fad 2, [.l 1]⟩, ⟨.t 68, none, .ld none, [.t 67]⟩, ⟨.t 69, none, .fad 3, [.l 1]⟩, ⟨.t 70, none, .ld none, [.t 69]⟩, ⟨.t 71, none, .bslice [.i .i64 0] 3 1 [0, 1, 2], [.t 66, .t 68, .t 70]⟩, ⟨.t 72, none, .app 1 8, [.t 64, .t 71]⟩, ⟨.l 2, none, .mv, [.t 72]⟩]) (.exit 0))
noncomputable def D_prog_Writes_8 (F : TF) (N : TN) (Q : TQ) (x1 : AV) (x2 : AV) (L : Lg) : Prop :=
 wpOp F (.fad 1) [x1] L fun v1 L1 =>
 wpOp F (.ld none) [v1] L1 fun v2 L2 =>
 wpOp F (.fad 2) [x1] L2 fun v3 L3 =>
 wpOp F (.ld none) [v3] L3 fun v4 L4 =>
 wpOp F (.fad 3) [x1] L4 fun v5 L5 =>
 wpOp F (.ld none) [v5] L5 fun v6 L6 =>
 wpOp F (.bslice [.i .i64 0] 3 1 [0, 1, 2]) [v2, v4, v6] L6 fun v7 L7 =>
 wpOp F (.app 1 8) [x2, v7] L7 fun v8 L8 =>
 D_prog_Writes_4 F N Q v8 L8
theorem e_prog_Writes_8 (F : TF) (N : TN) (Q : TQ) (l t : Env) (L : Lg) : wp F (q_prog_Writes_8 N) l t L (fun (l t : Env) (L : Lg) => D_prog_Writes_4 F N Q (l 2) L) (y_prog_Writes_6 F N Q) (fin [.tmp (.l 2)] Q) = D_prog_Writes_8 F N Q (l 1) (l 2) L := by kernel_rfl
def w_prog_Writes_7 (F : TF) (N : TN) (Q : TQ) : Kn := (fun (l t : Env) (L : Lg) => D_prog_Writes_8 F N Q (l 1) (l 2) L)
def y_prog_Writes_9 (F : TF) (N : TN) (Q : TQ) : Nat → Kn := (fun (j : Nat) (l t : Env) (L : Lg) => bif Nat.beq j 6 then (w_prog_Writes_7 F N Q) l t L else (y_prog_Writes_6 F N Q) j l t L)
def q_prog_Writes_11 (N : TN) : ACode := (.seq (.reg [⟨.t 59, none, .mv, [.l 2]⟩, ⟨.t 60, none, .fad 3, [.l 1]⟩, ⟨.t 61, none, .ld none, [.t 60]⟩, ⟨.t 62, none, .bslice [.i .i64 0] 1 1 [0], [.t 61]⟩, ⟨.t 63, none, .app 1 8, [.t 59, .t 62]⟩, ⟨.l 2, none, .mv, [.t 63]⟩]) (.exit 0))
noncomputable def D_prog_Writes_11 (F : TF) (N : TN) (Q : TQ) (x1 : AV) (x2 : AV) (L : Lg) : Prop :=
 wpOp F (.fad 3) [x1] L fun v1 L1 =>
 wpOp F (.ld none) [v1] L1 fun v2 L2 =>
 wpOp F (.bslice [.i .i64 0] 1 1 [0]) [v2] L2 fun v3 L3 =>
 wpOp F (.app 1 8) [x2, v3] L3 fun v4 L4 =>
 D_prog_Writes_4 F N Q v4 L4
theorem e_prog_Writes_11 (F : TF) (N : TN) (Q : TQ) (l t : Env) (L : Lg) : wp F (q_prog_Writes_11 N) l t L (w_prog_Writes_7 F N Q) (y_prog_Writes_9 F N Q) (fin [.tmp (.l 2)] Q) = D_prog_Writes_11 F N Q (l 1) (l 2) L := by kernel_rfl
def w_prog_Writes_10 (F : TF) (N : TN) (Q : TQ) : Kn := (fun (l t : Env) (L : Lg) => D_prog_Writes_11 F N Q (l 1) (l 2) L)
def y_prog_Writes_12 (F : TF) (N : TN) (Q : TQ) : Nat → Kn := (fun (j : Nat) (l t : Env) (L : Lg) => bif Nat.beq j 5 then (w_prog_Writes_10 F N Q) l t L else (y_prog_Writes_9 F N Q) j l t L)
def q_prog_Writes_14 (N : TN) : ACode := (.seq (.reg [⟨.t 54, none, .mv, [.l 2]⟩, ⟨.t 55, none, .fad 1, [.l 1]⟩, ⟨.t 56, none, .ld none, [.t 55]⟩, ⟨.t 57, none, .bslice [.i .i64 0] 1 1 [0], [.t 56]⟩, ⟨.t 58, none, .app 1 8, [.t 54, .t 57]⟩, ⟨.l 2, none, .mv, [.t 58]⟩]) (.exit 0))
noncomputable def D_prog_Writes_14 (F : TF) (N : TN) (Q : TQ) (x1 : AV) (x2 : AV) (L : Lg) : Prop :=
 wpOp F (.fad 1) [x1] L fun v1 L1 =>
 wpOp F (.ld none) [v1] L1 fun v2 L2 =>
 wpOp F (.bslice [.i .i64 0] 1 1 [0]) [v2] L2 fun v3 L3 =>
 wpOp F (.app 1 8) [x2, v3] L3 fun v4 L4 =>
 D_prog_Writes_4 F N Q v4 L4
theorem e_prog_Writes_14 (F : TF) (N : TN) (Q : TQ) (l t : Env) (L : Lg) : wp F (q_prog_Writes_14 N) l t L (w_prog_Writes_10 F N Q) (y_prog_Writes_12 F N Q) (fin [.tmp (.l 2)] Q) = D_prog_Writes_14 F N Q (l 1) (l 2) L := by kernel_rfl
def w_prog_Writes_13 (F : TF) (N : TN) (Q : TQ) : Kn := (fun (l t : Env) (L : Lg) => D_prog_Writes_14 F N Q (l 1) (l 2) L)
def y_prog_Writes_15 (F : TF) (N : TN) (Q : TQ) : Nat → Kn := (fun (j : Nat) (l t : Env) (L : Lg) => bif Nat.beq j 4 then (w_prog_Writes_13 F N Q) l t L else (y_prog_Writes_12 F N Q) j l t L)
def q_prog_Writes_17 (N : TN) : ACode := (.reg [⟨.t 49, none, .mv, [.l 2]⟩, ⟨.t 50, none, .fad 3, [.l 1]⟩, ⟨.t 51, none, .ld none, [.t 50]⟩, ⟨.t 52, none, .bslice [.i .i64 0] 1 1 [0], [.t 51]⟩, ⟨.t 53, none, .app 1 8, [.t 49, .t 52]⟩, ⟨.l 2, none, .mv, [.t 53]⟩])
noncomputable def D_prog_Writes_17 (F : TF) (N : TN) (Q : TQ) (x1 : AV) (x2 : AV) (L : Lg) : Prop :=
 wpOp F (.fad 3) [x1] L fun v1 L1 =>
 wpOp F (.ld none) [v1] L1 fun v2 L2 =>
 wpOp F (.bslice [.i .i64 0] 1 1 [0]) [v2] L2 fun v3 L3 =>
 wpOp F (.app 1 8) [x2, v3] L3 fun v4 L4 =>
 D_prog_Writes_14 F N Q x1 v4 L4
theorem e_prog_Writes_17 (F : TF) (N : TN) (Q : TQ) (l t : Env) (L : Lg) : wp F (q_prog_Writes_17 N) l t L (w_prog_Writes_13 F N Q) (y_prog_Writes_15 F N Q) (fin [.tmp (.l 2)] Q) = D_prog_Writes_17 F N Q (l 1) (l 2) L := by kernel_rfl
def w_prog_Writes_16 (F : TF) (N : TN) (Q : TQ) : Kn := (fun (l t : Env) (L : Lg) => D_prog_Writes_17 F N Q (l 1) (l 2) L)
def y_prog_Writes_18 (F : TF) (N : TN) (Q : TQ) : Nat → Kn := (fun (j : Nat) (l t : Env) (L : Lg) => bif Nat.beq j 3 then (w_prog_Writes_16 F N Q) l t L else (y_prog_Writes_15 F N Q) j l t L)
def q_prog_Writes_20 (N : TN) : ACode := (.seq (.reg [⟨.t 44, none, .mv, [.l 2]⟩, ⟨.t 45, none, .fad 2, [.l 1]⟩, ⟨.t 46, none, .ld none, [.t 45]⟩, ⟨.t 47, none, .bslice [.i .i64 0] 1 1 [0], [.t 46]⟩, ⟨.t 48, none, .app 1 8, [.t 44, .t 47]⟩, ⟨.l 2, none, .mv, [.t 48]⟩]) (.exit 0))
noncomputable def D_prog_Writes_20 (F : TF) (N : TN) (Q : TQ) (x1 : AV) (x2 : AV) (L : Lg) : Prop :=
 wpOp F (.fad 2) [x1] L fun v1 L1 =>
 wpOp F (.ld none) [v1] L1 fun v2 L2 =>
 wpOp F (.bslice [.i .i64 0] 1 1 [0]) [v2] L2 fun v3 L3 =>
 wpOp F (.app 1 8) [x2, v3] L3 fun v4 L4 =>
 D_prog_Writes_4 F N Q v4 L4
theorem e_prog_Writes_20 (F : TF) (N : TN) (Q : TQ) (l t : Env) (L : Lg) : wp F (q_prog_Writes_20 N) l t L (w_prog_Writes_16 F N Q) (y_prog_Writes_18 F N Q) (fin [.tmp (.l 2)] Q) = D_prog_Writes_20 F N Q (l 1) (l 2) L := by kernel_rfl
def w_prog_Writes_19 (F : TF) (N : TN) (Q : TQ) : Kn := (fun (l t : Env) (L : Lg) => D_prog_Writes_20 F N Q (l 1) (l 2) L)
def y_prog_Writes_21 (F : TF) (N : TN) (Q : TQ) : Nat → Kn := (fun (j : Nat) (l t : Env) (L : Lg) => bif Nat.beq j 2 then (w_prog_Writes_19 F N Q) l t L else (y_prog_Writes_18 F N Q) j l t L)
def q_prog_Writes_23 (N : TN) : ACode := (.reg [⟨.t 39, none, .mv, [.l 2]⟩, ⟨.t 40, none, .fad 3, [.l 1]⟩, ⟨.t 41, none, .ld none, [.t 40]⟩, ⟨.t 42, none, .bslice [.i .i64 0] 1 1 [0], [.t 41]⟩, ⟨.t 43, none, .app 1 8, [.t 39, .t 42]⟩, ⟨.l 2, none, .mv, [.t 43]⟩])
noncomputable def D_prog_Writes_23 (F : TF) (N : TN) (Q : TQ) (x1 : AV) (x2 : AV) (L : Lg) : Prop :=
 wpOp F (.fad 3) [x1] L fun v1 L1 =>
 wpOp F (.ld none) [v1] L1 fun v2 L2 =>
 wpOp F (.bslice [.i .i64 0] 1 1 [0]) [v2] L2 fun v3 L3 =>
 wpOp F (.app 1 8) [x2, v3] L3 fun v4 L4 =>
 D_prog_Writes_20 F N Q x1 v4 L4
theorem e_prog_Writes_23 (F : TF) (N : TN) (Q : TQ) (l t : Env) (L : Lg) : wp F (q_prog_Writes_23 N) l t L (w_prog_Writes_19 F N Q) (y_prog_Writes_21 F N Q) (fin [.tmp (.l 2)] Q) = D_prog_Writes_23 F N Q (l 1) (l 2) L := by kernel_rfl
def w_prog_Writes_22 (F : TF) (N : TN) (Q : TQ) : Kn := (fun (l t : Env) (L : Lg) => D_prog_Writes_23 F N Q (l 1) (l 2) L)
def y_prog_Writes_24 (F : TF) (N : TN) (Q : TQ) : Nat → Kn := (fun (j : Nat) (l t : Env) (L : Lg) => bif Nat.beq j 1 then (w_prog_Writes_22 F N Q) l t L else (y_prog_Writes_21 F N Q) j l t L)
def q_prog_Writes_26 (N : TN) : ACode := (.exit 0)
noncomputable def D_prog_Writes_26 (F : TF) (N : TN) (Q : TQ) (x2 : AV) (L : Lg) : Prop :=
 D_prog_Writes_4 F N Q x2 L
theorem e_prog_Writes_26 (F : TF) (N : TN) (Q : TQ) (l t : Env) (L : Lg) : wp F (q_prog_Writes_26 N) l t L (w_prog_Writes_22 F N Q) (y_prog_Writes_24 F N Q) (fin [.tmp (.l 2)] Q) = D_prog_Writes_26 F N Q (l 2) L := by kernel_rfl
def q_prog_Writes_31 (N : TN) : ACode := (.seq (.seq (.reg [⟨.t 36, none, .bin .eql, [.l 7, .c (.i .i64 21)]⟩, ⟨.t 35, none, .mv, [.t 36]⟩]) (.cond (.t 35) (.exit 5) .skip)) (.seq (.reg [⟨.t 38, none, .bin .eql, [.l 7, .c (.i .i64 15)]⟩, ⟨.t 37, none, .mv, [.t 38]⟩]) (.cond (.t 37) (.exit 6) .skip)))
noncomputable def D_prog_Writes_31 (F : TF) (N : TN) (Q : TQ) (x1 : AV) (x2 : AV) (x7 : AV) (L : Lg) : Prop :=
 wpOp F (.bin .eql) [x7, (.i .i64 21)] L fun v1 L1 =>
 condW v1
 (D_prog_Writes_11 F N Q x1 x2 L1)
 (wpOp F (.bin .eql) [x7, (.i .i64 15)] L1 fun v2 L2 =>
 condW v2
 (D_prog_Writes_8 F N Q x1 x2 L2)
 (D_prog_Writes_26 F N Q x2 L2))
theorem e_prog_Writes_31 (F : TF) (N : TN) (Q : TQ) (l t : Env) (L : Lg) : wp F (q_prog_Writes_31 N) l t L (fun (l t : Env) (L : Lg) => D_prog_Writes_26 F N Q (l 2) L) (y_prog_Writes_24 F N Q) (fin [.tmp (.l 2)] Q) = D_prog_Writes_31 F N Q (l 1) (l 2) (l 7) L := by kernel_rfl
def q_prog_Writes_30a (N : TN) : ACode := (.seq (.seq (.reg [⟨.t 23, none, .bin .eql, [.l 7, .c (.i .i64 1)]⟩, ⟨.t 22, none, .mv, [.t 23]⟩]) (.cond (.t 22) .skip (.seq (.reg [⟨.t 24, none, .bin .eql, [.l 7, .c (.i .i64 2)]⟩, ⟨.t 22, none, .mv, [.t 24]⟩]) (.cond (.t 22) .skip (.seq (.reg [⟨.t 25, none, .bin .eql, [.l 7, .c (.i .i64 3)]⟩, ⟨.t 22, none, .mv, [.t 25]⟩]) (.cond (.t 22) .skip (.seq (.reg [⟨.t 26, none, .bin .eql, [.l 7, .c (.i .i64 8)]⟩, ⟨.t 22, none, .mv, [.t 26]⟩]) (.cond (.t 22) .skip (.seq (.reg [⟨.t 27, none, .bin .eql, [.l 7, .c (.i .i64 9)]⟩, ⟨.t 22, none, .mv, [.t 27]⟩]) (.cond (.t 22) .skip (.seq (.reg [⟨.t 28, none, .bin .eql, [.l 7, .c (.i .i64 16)]⟩, ⟨.t 22, none, .mv, [.t 28]⟩]) (.cond (.t 22) .skip (.seq (.reg [⟨.t 29, none, .bin .eql, [.l 7, .c (.i .i64 19)]⟩, ⟨.t 22, none, .mv, [.t 29]⟩]) (.cond (.t 22) .skip (.seq (.reg [⟨.t 30, none, .bin .eql, [.l 7, .c (.i .i64 22)]⟩, ⟨.t 22, none, .mv, [.t 30]⟩]) (.cond (.t 22) .skip (.seq (.reg [⟨.t 31, none, .bin .eql, [.l 7, .c (.i .i64 23)]⟩, ⟨.t 22, none, .mv, [.t 31]⟩]) (.cond (.t 22) .skip (.seq (.reg [⟨.t 32, none, .bin .eql, [.l 7, .c (.i .i64 24)]⟩, ⟨.t 22, none, .mv, [.t 32]⟩]) (.cond (.t 22) .skip (.seq (.reg [⟨.t 33, none, .bin .eql, [.l 7, .c (.i .i64 25)]⟩, ⟨.t 22, none, .mv, [.t 33]⟩]) (.cond (.t 22) .skip (.reg [⟨.t 34, none, .bin .eql, [.l 7, .c (.i .i64 31)]⟩, ⟨.t 22, none, .mv, [.t 34]⟩]))))))))))))))))))))))) (.cond (.t 22) (.exit 4) .skip))
def q_prog_Writes_30 (N : TN) : ACode := (.seq (q_prog_Writes_30a N) (q_prog_Writes_31 N))
noncomputable def D_prog_Writes_30 (F : TF) (N : TN) (Q : TQ) (x1 : AV) (x2 : AV) (x7 : AV) (L : Lg) : Prop :=
 wpOp F (.bin .eql) [x7, (.i .i64 1)] L fun v1 L1 =>
 condW v1
 (condW v1
 (D_prog_Writes_14 F N Q x1 x2 L1)
 (D_prog_Writes_31 F N Q x1 x2 x7 L1))
 (wpOp F (.bin .eql) [x7, (.i .i64 2)] L1 fun v2 L2 =>
 condW v2
 (condW v2
 (D_prog_Writes_14 F N Q x1 x2 L2)
 (D_prog_Writes_31 F N Q x1 x2 x7 L2))
 (wpOp F (.bin .eql) [x7, (.i .i64 3)] L2 fun v3 L3 =>
 condW v3
 (condW v3
 (D_prog_Writes_14 F N Q x1 x2 L3)
 (D_prog_Writes_31 F N Q x1 x2 x7 L3))
 (wpOp F (.bin .eql) [x7, (.i .i64 8)] L3 fun v4 L4 =>
 condW v4
 (condW v4
 (D_prog_Writes_14 F N Q x1 x2 L4)
 (D_prog_Writes_31 F N Q x1 x2 x7 L4))
 (wpOp F (.bin .eql) [x7, (.i .i64 9)] L4 fun v5 L5 =>
 condW v5
 (condW v5
 (D_prog_Writes_14 F N Q x1 x2 L5)
 (D_prog_Writes_31 F N Q x1 x2 x7 L5))
 (wpOp F (.bin .eql) [x7, (.i .i64 16)] L5 fun v6 L6 =>
 condW v6
 (condW v6
 (D_prog_Writes_14 F N Q x1 x2 L6)
 (D_prog_Writes_31 F N Q x1 x2 x7 L6))
 (wpOp F (.bin .eql) [x7, (.i .i64 19)] L6 fun v7 L7 =>
 condW v7
 (condW v7
 (D_prog_Writes_14 F N Q x1 x2 L7)
 (D_prog_Writes_31 F N Q x1 x2 x7 L7))
 (wpOp F (.bin .eql) [x7, (.i .i64 22)] L7 fun v8 L8 =>
 condW v8
 (condW v8
 (D_prog_Writes_14 F N Q x1 x2 L8)
 (D_prog_Writes_31 F N Q x1 x2 x7 L8))
 (wpOp F (.bin .eql) [x7, (.i .i64 23)] L8 fun v9 L9 =>
 condW v9
 (condW v9
 (D_prog_Writes_14 F N Q x1 x2 L9)
 (D_prog_Writes_31 F N Q x1 x2 x7 L9))
 (wpOp F (.bin .eql) [x7, (.i .i64 24)] L9 fun v10 L10 =>
 condW v10
 (condW v10
 (D_prog_Writes_14 F N Q x1 x2 L10)
 (D_prog_Writes_31 F N Q x1 x2 x7 L10))
 (wpOp F (.bin .eql) [x7, (.i .i64 25)] L10 fun v11 L11 =>
 condW v11
 (condW v11
 (D_prog_Writes_14 F N Q x1 x2 L11)
 (D_prog_Writes_31 F N Q x1 x2 x7 L11))
 (wpOp F (.bin .eql) [x7, (.i .i64 31)] L11 fun v12 L12 =>
 condW v12
 (D_prog_Writes_14 F N Q x1 x2 L12)
 (D_prog_Writes_31 F N Q x1 x2 x7 L12))))))))))))
theorem e_prog_Writes_30 (F : TF) (N : TN) (Q : TQ) (l t : Env) (L : Lg) : wp F (q_prog_Writes_30 N) l t L (fun (l t : Env) (L : Lg) => D_prog_Writes_26 F N Q (l 2) L) (y_prog_Writes_24 F N Q) (fin [.tmp (.l 2)] Q) = D_prog_Writes_30 F N Q (l 1) (l 2) (l 7) L := wpS (e_prog_Writes_31 F N Q) (by kernel_rfl)
def q_prog_Writes_29a (N : TN) : ACode := (.seq (.seq (.reg [⟨.t 20, none, .bin .eql, [.l 7, .c (.i .i64 17)]⟩, ⟨.t 19, none, .mv, [.t 20]⟩]) (.cond (.t 19) .skip (.reg [⟨.t 21, none, .bin .eql, [.l 7, .c (.i .i64 18)]⟩, ⟨.t 19, none, .mv, [.t 21]⟩]))) (.cond (.t 19) (.exit 3) .skip))
def q_prog_Writes_29 (N : TN) : ACode := (.seq (q_prog_Writes_29a N) (q_prog_Writes_30 N))
noncomputable def D_prog_Writes_29 (F : TF) (N : TN) (Q : TQ) (x1 : AV) (x2 : AV) (x7 : AV) (L : Lg) : Prop :=
 wpOp F (.bin .eql) [x7, (.i .i64 17)] L fun v1 L1 =>
 condW v1
 (condW v1
 (D_prog_Writes_17 F N Q x1 x2 L1)
 (D_prog_Writes_30 F N Q x1 x2 x7 L1))
 (wpOp F (.bin .eql) [x7, (.i .i64 18)] L1 fun v2 L2 =>
 condW v2
 (D_prog_Writes_17 F N Q x1 x2 L2)
 (D_prog_Writes_30 F N Q x1 x2 x7 L2))
theorem e_prog_Writes_29 (F : TF) (N : TN) (Q : TQ) (l t : Env) (L : Lg) : wp F (q_prog_Writes_29 N) l t L (fun (l t : Env) (L : Lg) => D_prog_Writes_26 F N Q (l 2) L) (y_prog_Writes_24 F N Q) (fin [.tmp (.l 2)] Q) = D_prog_Writes_29 F N Q (l 1) (l 2) (l 7) L := wpS (e_prog_Writes_30 F N Q) (by kernel_rfl)
def q_prog_Writes_28a (N : TN) : ACode := (.seq (.seq (.reg [⟨.t 12, none, .bin .eql, [.l 7, .c (.i .i64 13)]⟩, ⟨.t 11, none, .mv, [.t 12]⟩]) (.cond (.t 11) .skip (.seq (.reg [⟨.t 13, none, .bin .eql, [.l 7, .c (.i .i64 14)]⟩, ⟨.t 11, none, .mv, [.t 13]⟩]) (.cond (.t 11) .skip (.seq (.reg [⟨.t 14, none, .bin .eql, [.l 7, .c (.i .i64 20)]⟩, ⟨.t 11, none, .mv, [.t 14]⟩]) (.cond (.t 11) .skip (.seq (.reg [⟨.t 15, none, .bin .eql, [.l 7, .c (.i .i64 27)]⟩, ⟨.t 11, none, .mv, [.t 15]⟩]) (.cond (.t 11) .skip (.seq (.reg [⟨.t 16, none, .bin .eql, [.l 7, .c (.i .i64 28)]⟩, ⟨.t 11, none, .mv, [.t 16]⟩]) (.cond (.t 11) .skip (.seq (.reg [⟨.t 17, none, .bin .eql, [.l 7, .c (.i .i64 29)]⟩, ⟨.t 11, none, .mv, [.t 17]⟩]) (.cond (.t 11) .skip (.reg [⟨.t 18, none, .bin .eql, [.l 7, .c (.i .i64 32)]⟩, ⟨.t 11, none, .mv, [.t 18]⟩]))))))))))))) (.cond (.t 11) (.exit 2) .skip))
def q_prog_Writes_28 (N : TN) : ACode := (.seq (q_prog_Writes_28a N) (q_prog_Writes_29 N))
noncomputable def D_prog_Writes_28 (F : TF) (N : TN) (Q : TQ) (x1 : AV) (x2 : AV) (x7 : AV) (L : Lg) : Prop :=
 wpOp F (.bin .eql) [x7, (.i .i64 13)] L fun v1 L1 =>
 condW v1
 (condW v1
 (D_prog_Writes_20 F N Q x1 x2 L1)
 (D_prog_Writes_29 F N Q x1 x2 x7 L1))
 (wpOp F (.bin .eql) [x7, (.i .i64 14)] L1 fun v2 L2 =>
 condW v2
 (condW v2
 (D_prog_Writes_20 F N Q x1 x2 L2)
 (D_prog_Writes_29 F N Q x1 x2 x7 L2))
 (wpOp F (.bin .eql) [x7, (.i .i64 20)] L2 fun v3 L3 =>
 condW v3
 (condW v3
 (D_prog_Writes_20 F N Q x1 x2 L3)
 (D_prog_Writes_29 F N Q x1 x2 x7 L3))
 (wpOp F (.bin .eql) [x7, (.i .i64 27)] L3 fun v4 L4 =>
 condW v4
 (condW v4
 (D_prog_Writes_20 F N Q x1 x2 L4)
 (D_prog_Writes_29 F N Q x1 x2 x7 L4))
 (wpOp F (.bin .eql) [x7, (.i .i64 28)] L4 fun v5 L5 =>
 condW v5
 (condW v5
 (D_prog_Writes_20 F N Q x1 x2 L5)
 (D_prog_Writes_29 F N Q x1 x2 x7 L5))
 (wpOp F (.bin .eql) [x7, (.i .i64 29)] L5 fun v6 L6 =>
 condW v6
 (condW v6
 (D_prog_Writes_20 F N Q x1 x2 L6)
 (D_prog_Writes_29 F N Q x1 x2 x7 L6))
 (wpOp F (.bin .eql) [x7, (.i .i64 32)] L6 fun v7 L7 =>
 condW v7
 (D_prog_Writes_20 F N Q x1 x2 L7)
 (D_prog_Writes_29 F N Q x1 x2 x7 L7)))))))
theorem e_prog_Writes_28 (F : TF) (N : TN) (Q : TQ) (l t : Env) (L : Lg) : wp F (q_prog_Writes_28 N) l t L (fun (l t : Env) (L : Lg) => D_prog_Writes_26 F N Q (l 2) L) (y_prog_Writes_24 F N Q) (fin [.tmp (.l 2)] Q) = D_prog_Writes_28 F N Q (l 1) (l 2) (l 7) L := wpS (e_prog_Writes_29 F N Q) (by kernel_rfl)
def q_prog_Writes_27a (N : TN) : ACode := (.seq (.seq (.reg [⟨.t 9, none, .bin .eql, [.l 7, .c (.i .i64 11)]⟩, ⟨.t 8, none, .mv, [.t 9]⟩]) (.cond (.t 8) .skip (.reg [⟨.t 10, none, .bin .eql, [.l 7, .c (.i .i64 30)]⟩, ⟨.t 8, none, .mv, [.t 10]⟩]))) (.cond (.t 8) (.exit 1) .skip))
def q_prog_Writes_27 (N : TN) : ACode := (.seq (q_prog_Writes_27a N) (q_prog_Writes_28 N))
noncomputable def D_prog_Writes_27 (F : TF) (N : TN) (Q : TQ) (x1 : AV) (x2 : AV) (x7 : AV) (L : Lg) : Prop :=
 wpOp F (.bin .eql) [x7, (.i .i64 11)] L fun v1 L1 =>
 condW v1
 (condW v1
 (D_prog_Writes_23 F N Q x1 x2 L1)
 (D_prog_Writes_28 F N Q x1 x2 x7 L1))
 (wpOp F (.bin .eql) [x7, (.i .i64 30)] L1 fun v2 L2 =>
 condW v2
 (D_prog_Writes_23 F N Q x1 x2 L2)
 (D_prog_Writes_28 F N Q x1 x2 x7 L2))
theorem e_prog_Writes_27 (F : TF) (N : TN) (Q : TQ) (l t : Env) (L : Lg) : wp F (q_prog_Writes_27 N) l t L (fun (l t : Env) (L : Lg) => D_prog_Writes_26 F N Q (l 2) L) (y_prog_Writes_24 F N Q) (fin [.tmp (.l 2)] Q) = D_prog_Writes_27 F N Q (l 1) (l 2) (l 7) L := wpS (e_prog_Writes_28 F N Q) (by kernel_rfl)
def q_prog_Writes_25 (N : TN) : ACode := (.seq (q_prog_Writes_27 N) (q_prog_Writes_26 N))
theorem e_prog_Writes_25 (F : TF) (N : TN) (Q : TQ) (l t : Env) (L : Lg) : wp F (q_prog_Writes_25 N) l t L (w_prog_Writes_22 F N Q) (y_prog_Writes_24 F N Q) (fin [.tmp (.l 2)] Q) = D_prog_Writes_27 F N Q (l 1) (l 2) (l 7) L := wpS (e_prog_Writes_26 F N Q) (e_prog_Writes_27 F N Q l t L)
def q_prog_Writes_24 (N : TN) : ACode := (.block 1 (q_prog_Writes_25 N))
theorem e_prog_Writes_24 (F : TF) (N : TN) (Q : TQ) (l t : Env) (L : Lg) : wp F (q_prog_Writes_24 N) l t L (w_prog_Writes_22 F N Q) (y_prog_Writes_21 F N Q) (fin [.tmp (.l 2)] Q) = D_prog_Writes_27 F N Q (l 1) (l 2) (l 7) L := wpB (e_prog_Writes_25 F N Q l t L)
def q_prog_Writes_22 (N : TN) : ACode := (.seq (q_prog_Writes_24 N) (q_prog_Writes_23 N))
theorem e_prog_Writes_22 (F : TF) (N : TN) (Q : TQ) (l t : Env) (L : Lg) : wp F (q_prog_Writes_22 N) l t L (w_prog_Writes_19 F N Q) (y_prog_Writes_21 F N Q) (fin [.tmp (.l 2)] Q) = D_prog_Writes_27 F N Q (l 1) (l 2) (l 7) L := wpS (e_prog_Writes_23 F N Q) (e_prog_Writes_24 F N Q l t L)
def q_prog_Writes_21 (N : TN) : ACode := (.block 2 (q_prog_Writes_22 N))
theorem e_prog_Writes_21 (F : TF) (N : TN) (Q : TQ) (l t : Env) (L : Lg) : wp F (q_prog_Writes_21 N) l t L (w_prog_Writes_19 F N Q) (y_prog_Writes_18 F N Q) (fin [.tmp (.l 2)] Q) = D_prog_Writes_27 F N Q (l 1) (l 2) (l 7) L := wpB (e_prog_Writes_22 F N Q l t L)
def q_prog_Writes_19 (N : TN) : ACode := (.seq (q_prog_Writes_21 N) (q_prog_Writes_20 N))
theorem e_prog_Writes_19 (F : TF) (N : TN) (Q : TQ) (l t : Env) (L : Lg) : wp F (q_prog_Writes_19 N) l t L (w_prog_Writes_16 F N Q) (y_prog_Writes_18 F N Q) (fin [.tmp (.l 2)] Q) = D_prog_Writes_27 F N Q (l 1) (l 2) (l 7) L := wpS (e_prog_Writes_20 F N Q) (e_prog_Writes_21 F N Q l t L)
def q_prog_Writes_18 (N : TN) : ACode := (.block 3 (q_prog_Writes_19 N))
theorem e_prog_Writes_18 (F : TF) (N : TN) (Q : TQ) (l t : Env) (L : Lg) : wp F (q_prog_Writes_18 N) l t L (w_prog_Writes_16 F N Q) (y_prog_Writes_15 F N Q) (fin [.tmp (.l 2)] Q) = D_prog_Writes_27 F N Q (l 1) (l 2) (l 7) L := wpB (e_prog_Writes_19 F N Q l t L)
def q_prog_Writes_16 (N : TN) : ACode := (.seq (q_prog_Writes_18 N) (q_prog_Writes_17 N))
theorem e_prog_Writes_16 (F : TF) (N : TN) (Q : TQ) (l t : Env) (L : Lg) : wp F (q_prog_Writes_16 N) l t L (w_prog_Writes_13 F N Q) (y_prog_Writes_15 F N Q) (fin [.tmp (.l 2)] Q) = D_prog_Writes_27 F N Q (l 1) (l 2) (l 7) L := wpS (e_prog_Writes_17 F N Q) (e_prog_Writes_18 F N Q l t L)
def q_prog_Writes_15 (N : TN) : ACode := (.block 4 (q_prog_Writes_16 N))
theorem e_prog_Writes_15 (F : TF) (N : TN) (Q : TQ) (l t : Env) (L : Lg) : wp F (q_prog_Writes_15 N) l t L (w_prog_Writes_13 F N Q) (y_prog_Writes_12 F N Q) (fin [.tmp (.l 2)] Q) = D_prog_Writes_27 F N Q (l 1) (l 2) (l 7) L := wpB (e_prog_Writes_16 F N Q l t L)
def q_prog_Writes_13 (N : TN) : ACode := (.seq (q_prog_Writes_15 N) (q_prog_Writes_14 N))
theorem e_prog_Writes_13 (F : TF) (N : TN) (Q : TQ) (l t : Env) (L : Lg) : wp F (q_prog_Writes_13 N) l t L (w_prog_Writes_10 F N Q) (y_prog_Writes_12 F N Q) (fin [.tmp (.l 2)] Q) = D_prog_Writes_27 F N Q (l 1) (l 2) (l 7) L := wpS (e_prog_Writes_14 F N Q) (e_prog_Writes_15 F N Q l t L)
def q_prog_Writes_12 (N : TN) : ACode := (.block 5 (q_prog_Writes_13 N))
theorem e_prog_Writes_12 (F : TF) (N : TN) (Q : TQ) (l t : Env) (L : Lg) : wp F (q_prog_Writes_12 N) l t L (w_prog_Writes_10 F N Q) (y_prog_Writes_9 F N Q) (fin [.tmp (.l 2)] Q) = D_prog_Writes_27 F N Q (l 1) (l 2) (l 7) L := wpB (e_prog_Writes_13 F N Q l t L)
def q_prog_Writes_10 (N : TN) : ACode := (.seq (q_prog_Writes_12 N) (q_prog_Writes_11 N))
theorem e_prog_Writes_10 (F : TF) (N : TN) (Q : TQ) (l t : Env) (L : Lg) : wp F (q_prog_Writes_10 N) l t L (w_prog_Writes_7 F N Q) (y_prog_Writes_9 F N Q) (fin [.tmp (.l 2)] Q) = D_prog_Writes_27 F N Q (l 1) (l 2) (l 7) L := wpS (e_prog_Writes_11 F N Q) (e_prog_Writes_12 F N Q l t L)
def q_prog_Writes_9 (N : TN) : ACode := (.block 6 (q_prog_Writes_10 N))
theorem e_prog_Writes_9 (F : TF) (N : TN) (Q : TQ) (l t : Env) (L : Lg) : wp F (q_prog_Writes_9 N) l t L (w_prog_Writes_7 F N Q) (y_prog_Writes_6 F N Q) (fin [.tmp (.l 2)] Q) = D_prog_Writes_27 F N Q (l 1) (l 2) (l 7) L := wpB (e_prog_Writes_10 F N Q l t L)
def q_prog_Writes_7 (N : TN) : ACode := (.seq (q_prog_Writes_9 N) (q_prog_Writes_8 N))
theorem e_prog_Writes_7 (F : TF) (N : TN) (Q : TQ) (l t : Env) (L : Lg) : wp F (q_prog_Writes_7 N) l t L (fun (l t : Env) (L : Lg) => D_prog_Writes_4 F N Q (l 2) L) (y_prog_Writes_6 F N Q) (fin [.tmp (.l 2)] Q) = D_prog_Writes_27 F N Q (l 1) (l 2) (l 7) L := wpS (e_prog_Writes_8 F N Q) (e_prog_Writes_9 F N Q l t L)
def q_prog_Writes_6 (N : TN) : ACode := (.block 0 (q_prog_Writes_7 N))
theorem e_prog_Writes_6 (F : TF) (N : TN) (Q : TQ) (l t : Env) (L : Lg) : wp F (q_prog_Writes_6 N) l t L (fun (l t : Env) (L : Lg) => D_prog_Writes_4 F N Q (l 2) L) nE (fin [.tmp (.l 2)] Q) = D_prog_Writes_27 F N Q (l 1) (l 2) (l 7) L := wpB (e_prog_Writes_7 F N Q l t L)
def q_prog_Writes_5a (N : TN) : ACode := (.reg [⟨.t 6, none, .fad 0, [.l 1]⟩, ⟨.l 7, none, .ld none, [.t 6]⟩])
def q_prog_Writes_5 (N : TN) : ACode := (.seq (q_prog_Writes_5a N) (q_prog_Writes_6 N))
noncomputable def D_prog_Writes_5 (F : TF) (N : TN) (Q : TQ) (x1 : AV) (x2 : AV) (L : Lg) : Prop :=
 wpOp F (.fad 0) [x1] L fun v1 L1 =>
 wpOp F (.ld none) [v1] L1 fun v2 L2 =>
 D_prog_Writes_27 F N Q x1 x2 v2 L2
theorem e_prog_Writes_5 (F : TF) (N : TN) (Q : TQ) (l t : Env) (L : Lg) : wp F (q_prog_Writes_5 N) l t L (fun (l t : Env) (L : Lg) => D_prog_Writes_4 F N Q (l 2) L) nE (fin [.tmp (.l 2)] Q) = D_prog_Writes_5 F N Q (l 1) (l 2) L := wpS (e_prog_Writes_6 F N Q) (by kernel_rfl)
def q_prog_Writes_3 (N : TN) : ACode := (.seq (q_prog_Writes_5 N) (q_prog_Writes_4 N))
theorem e_prog_Writes_3 (F : TF) (N : TN) (Q : TQ) (l t : Env) (L : Lg) : wp F (q_prog_Writes_3 N) l t L (fin [.tmp (.l 2)] Q) nE (fin [.tmp (.l 2)] Q) = D_prog_Writes_5 F N Q (l 1) (l 2) L := wpS (e_prog_Writes_4 F N Q) (e_prog_Writes_5 F N Q l t L)
def q_prog_Writes_2a (N : TN) : ACode := (.seq (.reg [⟨.t 3, none, .ld (some 6), [.l 1]⟩, ⟨.t 4, none, .call (N k_prog_good), [.t 3, .c (.i .i64 100)]⟩, ⟨.t 5, none, .un .not, [.t 4]⟩]) (.cond (.t 5) (.seq (.reg [⟨.l 2, none, .mv, [.c (.sl none 0 0 0)]⟩]) .ret) .skip))
def q_prog_Writes_2 (N : TN) : ACode := (.seq (q_prog_Writes_2a N) (q_prog_Writes_3 N))
noncomputable def D_prog_Writes_2 (F : TF) (N : TN) (Q : TQ) (x1 : AV) (x2 : AV) (L : Lg) : Prop :=
 wpOp F (.ld (some 6)) [x1] L fun v1 L1 =>
 CallL F (N k_prog_good) [v1, (.i .i64 100)] L1 fun v2 L2 =>
 wpOp F (.un .not) [v2] L2 fun v3 L3 =>
 condW v3
 (fin1 (some (.sl none 0 0 0)) Q L3)
 (D_prog_Writes_5 F N Q x1 x2 L3)
theorem e_prog_Writes_2 (F : TF) (N : TN) (Q : TQ) (l t : Env) (L : Lg) : wp F (q_prog_Writes_2 N) l t L (fin [.tmp (.l 2)] Q) nE (fin [.tmp (.l 2)] Q) = D_prog_Writes_2 F N Q (l 1) (l 2) L := wpS (e_prog_Writes_3 F N Q) (by kernel_rfl)
def q_prog_Writes_1a (N : TN) : ACode := (.reg [⟨.l 1, none, .box, [.l 0]⟩, ⟨.l 2, none, .mv, [.c (.sl none 0 0 0)]⟩])
def q_prog_Writes_1 (N : TN) : ACode := (.seq (q_prog_Writes_1a N) (q_prog_Writes_2 N))
noncomputable def D_prog_Writes_1 (F : TF) (N : TN) (Q : TQ) (x0 : AV) (L : Lg) : Prop :=
 wpOp F .box [x0] L fun v1 L1 =>
 D_prog_Writes_2 F N Q v1 (.sl none 0 0 0) L1
theorem e_prog_Writes_1 (F : TF) (N : TN) (Q : TQ) (l t : Env) (L : Lg) : wp F (q_prog_Writes_1 N) l t L (fin [.tmp (.l 2)] Q) nE (fin [.tmp (.l 2)] Q) = D_prog_Writes_1 F N Q (l 0) L := wpS (e_prog_Writes_2 F N Q) (by kernel_rfl)
/-- tarpaulin/prog.Writes -/
def c_prog_Writes (N : TN) : AFn := ⟨q_prog_Writes_1 N, [.tmp (.l 2)]⟩
structure H_prog_Writes (N : TN) (F : TF) : Prop where
  code : F (N k_prog_Writes) = some (c_prog_Writes N)
  prog_good : H_prog_good N F
  prog_rising : H_prog_rising N F
theorem r_prog_Writes {F : TF} {N : TN} (h : F (N k_prog_Writes) = some (c_prog_Writes N)) {Q : TQ} {a0 : AV} {L : Lg} (e : D_prog_Writes_1 F N Q a0 L) : CallL F (N k_prog_Writes) [a0] L Q :=
  CallL.of_wp h (Eq.mpr (Eq.trans (e_prog_Writes_1 F N Q (initE [a0] 0) Env.nil L) (by kernel_rfl : _ = D_prog_Writes_1 F N Q a0 L)) e)
def q_tarpaulinref1_form_3 (N : TN) : ACode := (.seq (.reg [⟨.t 69, none, .build [.i .i64 0, .i .i64 0, .i .i64 0] [], []⟩, ⟨.no, none, .st 3, [.l 2, .t 69]⟩]) .ret)
noncomputable def D_tarpaulinref1_form_3 (F : TF) (N : TN) (Q : TQ) (x2 : AV) (L : Lg) : Prop :=
 wpOp F (.build [.i .i64 0, .i .i64 0, .i .i64 0] []) [] L fun v1 L1 =>
 wpOp F (.st 3) [x2, v1] L1 fun _ L2 =>
 fin1 (resVL Env.nil Env.nil L2 [.cell (.c x2) (some 3)]) Q L2
theorem e_tarpaulinref1_form_3 (F : TF) (N : TN) (Q : TQ) (l t : Env) (L : Lg) : wp F (q_tarpaulinref1_form_3 N) l t L (fin [.cell (.l 2) (some 3)] Q) nE (fin [.cell (.l 2) (some 3)] Q) = D_tarpaulinref1_form_3 F N Q (l 2) L := by kernel_rfl
def w_tarpaulinref1_form_2 (F : TF) (N : TN) (Q : TQ) : Kn := (fun (l t : Env) (L : Lg) => D_tarpaulinref1_form_3 F N Q (l 2) L)
def y_tarpaulinref1_form_5 (F : TF) (N : TN) (Q : TQ) : Nat → Kn := (fun (j : Nat) (l t : Env) (L : Lg) => bif Nat.beq j 0 then (w_tarpaulinref1_form_2 F N Q) l t L else nE j l t L)
def q_tarpaulinref1_form_8 (N : TN) : ACode := (.seq (.reg [⟨.t 7, none, .build [.i .i64 0, .i .i64 0, .i .i64 0] [(0, 1), (1, 1), (2, 1)], [.c (.i .i64 2), .c (.i .i64 5), .c (.i .i64 0)]⟩, ⟨.no, none, .st 3, [.l 2, .t 7]⟩]) .ret)
noncomputable def D_tarpaulinref1_form_8 (F : TF) (N : TN) (Q : TQ) (x2 : AV) (L : Lg) : Prop :=
 wpOp F (.build [.i .i64 0, .i .i64 0, .i .i64 0] [(0, 1), (1, 1), (2, 1)]) [(.i .i64 2), (.i .i64 5), (.i .i64 0)] L fun v1 L1 =>
 wpOp F (.st 3) [x2, v1] L1 fun _ L2 =>
 fin1 (resVL Env.nil Env.nil L2 [.cell (.c x2) (some 3)]) Q L2
theorem e_tarpaulinref1_form_8 (F : TF) (N : TN) (Q : TQ) (l t : Env) (L : Lg) : wp F (q_tarpaulinref1_form_8 N) l t L (w_tarpaulinref1_form_2 F N Q) (y_tarpaulinref1_form_5 F N Q) (fin [.cell (.l 2) (some 3)] Q) = D_tarpaulinref1_form_8 F N Q (l 2) L := by kernel_rfl
def q_tarpaulinref1_form_11 (N : TN) : ACode := (.seq (.reg [⟨.t 10, none, .build [.i .i64 0, .i .i64 0, .i .i64 0] [(0, 1), (1, 1), (2, 1)], [.c (.i .i64 2), .c (.i .i64 1), .c (.i .i64 0)]⟩, ⟨.no, none, .st 3, [.l 2, .t 10]⟩]) .ret)
noncomputable def D_tarpaulinref1_form_11 (F : TF) (N : TN) (Q : TQ) (x2 : AV) (L : Lg) : Prop :=
 wpOp F (.build [.i .i64 0, .i .i64 0, .i .i64 0] [(0, 1), (1, 1), (2, 1)]) [(.i .i64 2), (.i .i64 1), (.i .i64 0)] L fun v1 L1 =>
 wpOp F (.st 3) [x2, v1] L1 fun _ L2 =>
 fin1 (resVL Env.nil Env.nil L2 [.cell (.c x2) (some 3)]) Q L2
theorem e_tarpaulinref1_form_11 (F : TF) (N : TN) (Q : TQ) (l t : Env) (L : Lg) : wp F (q_tarpaulinref1_form_11 N) l t L (w_tarpaulinref1_form_2 F N Q) (y_tarpaulinref1_form_5 F N Q) (fin [.cell (.l 2) (some 3)] Q) = D_tarpaulinref1_form_11 F N Q (l 2) L := by kernel_rfl
def q_tarpaulinref1_form_14 (N : TN) : ACode := (.seq (.reg [⟨.t 13, none, .build [.i .i64 0, .i .i64 0, .i .i64 0] [(0, 1), (1, 1), (2, 1)], [.c (.i .i64 6), .c (.i .i64 5), .c (.i .i64 0)]⟩, ⟨.no, none, .st 3, [.l 2, .t 13]⟩]) .ret)
noncomputable def D_tarpaulinref1_form_14 (F : TF) (N : TN) (Q : TQ) (x2 : AV) (L : Lg) : Prop :=
 wpOp F (.build [.i .i64 0, .i .i64 0, .i .i64 0] [(0, 1), (1, 1), (2, 1)]) [(.i .i64 6), (.i .i64 5), (.i .i64 0)] L fun v1 L1 =>
 wpOp F (.st 3) [x2, v1] L1 fun _ L2 =>
 fin1 (resVL Env.nil Env.nil L2 [.cell (.c x2) (some 3)]) Q L2
theorem e_tarpaulinref1_form_14 (F : TF) (N : TN) (Q : TQ) (l t : Env) (L : Lg) : wp F (q_tarpaulinref1_form_14 N) l t L (w_tarpaulinref1_form_2 F N Q) (y_tarpaulinref1_form_5 F N Q) (fin [.cell (.l 2) (some 3)] Q) = D_tarpaulinref1_form_14 F N Q (l 2) L := by kernel_rfl
def q_tarpaulinref1_form_17 (N : TN) : ACode := (.seq (.reg [⟨.t 16, none, .build [.i .i64 0, .i .i64 0, .i .i64 0] [(0, 1), (1, 1), (2, 1)], [.c (.i .i64 3), .c (.i .i64 0), .c (.i .i64 0)]⟩, ⟨.no, none, .st 3, [.l 2, .t 16]⟩]) .ret)
noncomputable def D_tarpaulinref1_form_17 (F : TF) (N : TN) (Q : TQ) (x2 : AV) (L : Lg) : Prop :=
 wpOp F (.build [.i .i64 0, .i .i64 0, .i .i64 0] [(0, 1), (1, 1), (2, 1)]) [(.i .i64 3), (.i .i64 0), (.i .i64 0)] L fun v1 L1 =>
 wpOp F (.st 3) [x2, v1] L1 fun _ L2 =>
 fin1 (resVL Env.nil Env.nil L2 [.cell (.c x2) (some 3)]) Q L2
theorem e_tarpaulinref1_form_17 (F : TF) (N : TN) (Q : TQ) (l t : Env) (L : Lg) : wp F (q_tarpaulinref1_form_17 N) l t L (w_tarpaulinref1_form_2 F N Q) (y_tarpaulinref1_form_5 F N Q) (fin [.cell (.l 2) (some 3)] Q) = D_tarpaulinref1_form_17 F N Q (l 2) L := by kernel_rfl
def q_tarpaulinref1_form_20 (N : TN) : ACode := (.seq (.reg [⟨.t 19, none, .build [.i .i64 0, .i .i64 0, .i .i64 0] [(0, 1), (1, 1), (2, 1)], [.c (.i .i64 1), .c (.i .i64 3), .c (.i .i64 0)]⟩, ⟨.no, none, .st 3, [.l 2, .t 19]⟩]) .ret)
noncomputable def D_tarpaulinref1_form_20 (F : TF) (N : TN) (Q : TQ) (x2 : AV) (L : Lg) : Prop :=
 wpOp F (.build [.i .i64 0, .i .i64 0, .i .i64 0] [(0, 1), (1, 1), (2, 1)]) [(.i .i64 1), (.i .i64 3), (.i .i64 0)] L fun v1 L1 =>
 wpOp F (.st 3) [x2, v1] L1 fun _ L2 =>
 fin1 (resVL Env.nil Env.nil L2 [.cell (.c x2) (some 3)]) Q L2
theorem e_tarpaulinref1_form_20 (F : TF) (N : TN) (Q : TQ) (l t : Env) (L : Lg) : wp F (q_tarpaulinref1_form_20 N) l t L (w_tarpaulinref1_form_2 F N Q) (y_tarpaulinref1_form_5 F N Q) (fin [.cell (.l 2) (some 3)] Q) = D_tarpaulinref1_form_20 F N Q (l 2) L := by kernel_rfl
def q_tarpaulinref1_form_23 (N : TN) : ACode := (.seq (.reg [⟨.t 23, none, .build [.i .i64 0, .i .i64 0, .i .i64 0] [(0, 1), (1, 1), (2, 1)], [.c (.i .i64 1), .c (.i .i64 0), .c (.i .i64 0)]⟩, ⟨.no, none, .st 3, [.l 2, .t 23]⟩]) .ret)
noncomputable def D_tarpaulinref1_form_23 (F : TF) (N : TN) (Q : TQ) (x2 : AV) (L : Lg) : Prop :=
 wpOp F (.build [.i .i64 0, .i .i64 0, .i .i64 0] [(0, 1), (1, 1), (2, 1)]) [(.i .i64 1), (.i .i64 0), (.i .i64 0)] L fun v1 L1 =>
 wpOp F (.st 3) [x2, v1] L1 fun _ L2 =>
 fin1 (resVL Env.nil Env.nil L2 [.cell (.c x2) (some 3)]) Q L2
theorem e_tarpaulinref1_form_23 (F : TF) (N : TN) (Q : TQ) (l t : Env) (L : Lg) : wp F (q_tarpaulinref1_form_23 N) l t L (w_tarpaulinref1_form_2 F N Q) (y_tarpaulinref1_form_5 F N Q) (fin [.cell (.l 2) (some 3)] Q) = D_tarpaulinref1_form_23 F N Q (l 2) L := by kernel_rfl
def q_tarpaulinref1_form_26 (N : TN) : ACode := (.seq (.reg [⟨.t 26, none, .build [.i .i64 0, .i .i64 0, .i .i64 0] [(0, 1), (1, 1), (2, 1)], [.c (.i .i64 2), .c (.i .i64 4), .c (.i .i64 0)]⟩, ⟨.no, none, .st 3, [.l 2, .t 26]⟩]) .ret)
noncomputable def D_tarpaulinref1_form_26 (F : TF) (N : TN) (Q : TQ) (x2 : AV) (L : Lg) : Prop :=
 wpOp F (.build [.i .i64 0, .i .i64 0, .i .i64 0] [(0, 1), (1, 1), (2, 1)]) [(.i .i64 2), (.i .i64 4), (.i .i64 0)] L fun v1 L1 =>
 wpOp F (.st 3) [x2, v1] L1 fun _ L2 =>
 fin1 (resVL Env.nil Env.nil L2 [.cell (.c x2) (some 3)]) Q L2
theorem e_tarpaulinref1_form_26 (F : TF) (N : TN) (Q : TQ) (l t : Env) (L : Lg) : wp F (q_tarpaulinref1_form_26 N) l t L (w_tarpaulinref1_form_2 F N Q) (y_tarpaulinref1_form_5 F N Q) (fin [.cell (.l 2) (some 3)] Q) = D_tarpaulinref1_form_26 F N Q (l 2) L := by kernel_rfl
def q_tarpaulinref1_form_29 (N : TN) : ACode := (.seq (.reg [⟨.t 30, none, .build [.i .i64 0, .i .i64 0, .i .i64 0] [(0, 1), (1, 1), (2, 1)], [.c (.i .i64 1), .c (.i .i64 1), .c (.i .i64 0)]⟩, ⟨.no, none, .st 3, [.l 2, .t 30]⟩]) .ret)
noncomputable def D_tarpaulinref1_form_29 (F : TF) (N : TN) (Q : TQ) (x2 : AV) (L : Lg) : Prop :=
 wpOp F (.build [.i .i64 0, .i .i64 0, .i .i64 0] [(0, 1), (1, 1), (2, 1)]) [(.i .i64 1), (.i .i64 1), (.i .i64 0)] L fun v1 L1 =>
 wpOp F (.st 3) [x2, v1] L1 fun _ L2 =>
 fin1 (resVL Env.nil Env.nil L2 [.cell (.c x2) (some 3)]) Q L2
theorem e_tarpaulinref1_form_29 (F : TF) (N : TN) (Q : TQ) (l t : Env) (L : Lg) : wp F (q_tarpaulinref1_form_29 N) l t L (w_tarpaulinref1_form_2 F N Q) (y_tarpaulinref1_form_5 F N Q) (fin [.cell (.l 2) (some 3)] Q) = D_tarpaulinref1_form_29 F N Q (l 2) L := by kernel_rfl
def q_tarpaulinref1_form_32 (N : TN) : ACode := (.seq (.reg [⟨.t 34, none, .build [.i .i64 0, .i .i64 0, .i .i64 0] [(0, 1), (1, 1), (2, 1)], [.c (.i .i64 1), .c (.i .i64 2), .c (.i .i64 2)]⟩, ⟨.no, none, .st 3, [.l 2, .t 34]⟩]) .ret)
noncomputable def D_tarpaulinref1_form_32 (F : TF) (N : TN) (Q : TQ) (x2 : AV) (L : Lg) : Prop :=
 wpOp F (.build [.i .i64 0, .i .i64 0, .i .i64 0] [(0, 1), (1, 1), (2, 1)]) [(.i .i64 1), (.i .i64 2), (.i .i64 2)] L fun v1 L1 =>
 wpOp F (.st 3) [x2, v1] L1 fun _ L2 =>
 fin1 (resVL Env.nil Env.nil L2 [.cell (.c x2) (some 3)]) Q L2
theorem e_tarpaulinref1_form_32 (F : TF) (N : TN) (Q : TQ) (l t : Env) (L : Lg) : wp F (q_tarpaulinref1_form_32 N) l t L (w_tarpaulinref1_form_2 F N Q) (y_tarpaulinref1_form_5 F N Q) (fin [.cell (.l 2) (some 3)] Q) = D_tarpaulinref1_form_32 F N Q (l 2) L := by kernel_rfl
def q_tarpaulinref1_form_35 (N : TN) : ACode := (.seq (.reg [⟨.t 43, none, .build [.i .i64 0, .i .i64 0, .i .i64 0] [(0, 1), (1, 1), (2, 1)], [.c (.i .i64 1), .c (.i .i64 2), .c (.i .i64 0)]⟩, ⟨.no, none, .st 3, [.l 2, .t 43]⟩]) .ret)
noncomputable def D_tarpaulinref1_form_35 (F : TF) (N : TN) (Q : TQ) (x2 : AV) (L : Lg) : Prop :=
 wpOp F (.build [.i .i64 0, .i .i64 0, .i .i64 0] [(0, 1), (1, 1), (2, 1)]) [(.i .i64 1), (.i .i64 2), (.i .i64 0)] L fun v1 L1 =>
 wpOp F (.st 3) [x2, v1] L1 fun _ L2 =>
 fin1 (resVL Env.nil Env.nil L2 [.cell (.c x2) (some 3)]) Q L2
theorem e_tarpaulinref1_form_35 (F : TF) (N : TN) (Q : TQ) (l t : Env) (L : Lg) : wp F (q_tarpaulinref1_form_35 N) l t L (w_tarpaulinref1_form_2 F N Q) (y_tarpaulinref1_form_5 F N Q) (fin [.cell (.l 2) (some 3)] Q) = D_tarpaulinref1_form_35 F N Q (l 2) L := by kernel_rfl
def q_tarpaulinref1_form_38 (N : TN) : ACode := (.seq (.reg [⟨.t 46, none, .build [.i .i64 0, .i .i64 0, .i .i64 0] [(0, 1), (1, 1), (2, 1)], [.c (.i .i64 2), .c (.i .i64 2), .c (.i .i64 2)]⟩, ⟨.no, none, .st 3, [.l 2, .t 46]⟩]) .ret)
noncomputable def D_tarpaulinref1_form_38 (F : TF) (N : TN) (Q : TQ) (x2 : AV) (L : Lg) : Prop :=
 wpOp F (.build [.i .i64 0, .i .i64 0, .i .i64 0] [(0, 1), (1, 1), (2, 1)]) [(.i .i64 2), (.i .i64 2), (.i .i64 2)] L fun v1 L1 =>
 wpOp F (.st 3) [x2, v1] L1 fun _ L2 =>
 fin1 (resVL Env.nil Env.nil L2 [.cell (.c x2) (some 3)]) Q L2
theorem e_tarpaulinref1_form_38 (F : TF) (N : TN) (Q : TQ) (l t : Env) (L : Lg) : wp F (q_tarpaulinref1_form_38 N) l t L (w_tarpaulinref1_form_2 F N Q) (y_tarpaulinref1_form_5 F N Q) (fin [.cell (.l 2) (some 3)] Q) = D_tarpaulinref1_form_38 F N Q (l 2) L := by kernel_rfl
def q_tarpaulinref1_form_41 (N : TN) : ACode := (.seq (.reg [⟨.t 49, none, .build [.i .i64 0, .i .i64 0, .i .i64 0] [(0, 1), (1, 1), (2, 1)], [.c (.i .i64 2), .c (.i .i64 0), .c (.i .i64 0)]⟩, ⟨.no, none, .st 3, [.l 2, .t 49]⟩]) .ret)
noncomputable def D_tarpaulinref1_form_41 (F : TF) (N : TN) (Q : TQ) (x2 : AV) (L : Lg) : Prop :=
 wpOp F (.build [.i .i64 0, .i .i64 0, .i .i64 0] [(0, 1), (1, 1), (2, 1)]) [(.i .i64 2), (.i .i64 0), (.i .i64 0)] L fun v1 L1 =>
 wpOp F (.st 3) [x2, v1] L1 fun _ L2 =>
 fin1 (resVL Env.nil Env.nil L2 [.cell (.c x2) (some 3)]) Q L2
theorem e_tarpaulinref1_form_41 (F : TF) (N : TN) (Q : TQ) (l t : Env) (L : Lg) : wp F (q_tarpaulinref1_form_41 N) l t L (w_tarpaulinref1_form_2 F N Q) (y_tarpaulinref1_form_5 F N Q) (fin [.cell (.l 2) (some 3)] Q) = D_tarpaulinref1_form_41 F N Q (l 2) L := by kernel_rfl
def q_tarpaulinref1_form_44 (N : TN) : ACode := (.seq (.reg [⟨.t 53, none, .build [.i .i64 0, .i .i64 0, .i .i64 0] [(0, 1), (1, 1), (2, 1)], [.c (.i .i64 2), .c (.i .i64 1), .c (.i .i64 2)]⟩, ⟨.no, none, .st 3, [.l 2, .t 53]⟩]) .ret)
noncomputable def D_tarpaulinref1_form_44 (F : TF) (N : TN) (Q : TQ) (x2 : AV) (L : Lg) : Prop :=
 wpOp F (.build [.i .i64 0, .i .i64 0, .i .i64 0] [(0, 1), (1, 1), (2, 1)]) [(.i .i64 2), (.i .i64 1), (.i .i64 2)] L fun v1 L1 =>
 wpOp F (.st 3) [x2, v1] L1 fun _ L2 =>
 fin1 (resVL Env.nil Env.nil L2 [.cell (.c x2) (some 3)]) Q L2
theorem e_tarpaulinref1_form_44 (F : TF) (N : TN) (Q : TQ) (l t : Env) (L : Lg) : wp F (q_tarpaulinref1_form_44 N) l t L (w_tarpaulinref1_form_2 F N Q) (y_tarpaulinref1_form_5 F N Q) (fin [.cell (.l 2) (some 3)] Q) = D_tarpaulinref1_form_44 F N Q (l 2) L := by kernel_rfl
def q_tarpaulinref1_form_46 (N : TN) : ACode := (.cond (.t 54) (.seq (.reg [⟨.t 57, none, .build [.i .i64 0, .i .i64 0, .i .i64 0] [(0, 1), (1, 1), (2, 1)], [.c (.i .i64 2), .c (.i .i64 1), .c (.i .i64 4)]⟩, ⟨.no, none, .st 3, [.l 2, .t 57]⟩]) .ret) (.seq (.reg [⟨.t 59, none, .bin .eql, [.l 3, .c (.i .i64 21)]⟩, ⟨.t 58, none, .mv, [.t 59]⟩]) (.cond (.t 58) (.seq (.reg [⟨.t 60, none, .build [.i .i64 0, .i .i64 0, .i .i64 0] [(0, 1), (1, 1), (2, 1)], [.c (.i .i64 1), .c (.i .i64 1), .c (.i .i64 2)]⟩, ⟨.no, none, .st 3, [.l 2, .t 60]⟩]) .ret) (.seq (.seq (.reg [⟨.t 62, none, .bin .eql, [.l 3, .c (.i .i64 22)]⟩, ⟨.t 61, none, .mv, [.t 62]⟩]) (.cond (.t 61) .skip (.reg [⟨.t 63, none, .bin .eql, [.l 3, .c (.i .i64 25)]⟩, ⟨.t 61, none, .mv, [.t 63]⟩]))) (.cond (.t 61) (.seq (.reg [⟨.t 64, none, .build [.i .i64 0, .i .i64 0, .i .i64 0] [(0, 1), (1, 1), (2, 1)], [.c (.i .i64 2), .c (.i .i64 1), .c (.i .i64 0)]⟩, ⟨.no, none, .st 3, [.l 2, .t 64]⟩]) .ret) (.seq (.seq (.reg [⟨.t 66, none, .bin .eql, [.l 3, .c (.i .i64 23)]⟩, ⟨.t 65, none, .mv, [.t 66]⟩]) (.cond (.t 65) .skip (.reg [⟨.t 67, none, .bin .eql, [.l 3, .c (.i .i64 24)]⟩, ⟨.t 65, none, .mv, [.t 67]⟩]))) (.cond (.t 65) (.seq (.reg [⟨.t 68, none, .build [.i .i64 0, .i .i64 0, .i .i64 0] [(0, 1), (1, 1), (2, 1)], [.c (.i .i64 2), .c (.i .i64 1), .c (.i .i64 1)]⟩, ⟨.no, none, .st 3, [.l 2, .t 68]⟩]) .ret) .skip)))))))
noncomputable def D_tarpaulinref1_form_46 (F : TF) (N : TN) (Q : TQ) (x2 : AV) (x3 : AV) (t54 : AV) (L : Lg) : Prop :=
 condW t54
 (wpOp F (.build [.i .i64 0, .i .i64 0, .i .i64 0] [(0, 1), (1, 1), (2, 1)]) [(.i .i64 2), (.i .i64 1), (.i .i64 4)] L fun v1 L1 =>
 wpOp F (.st 3) [x2, v1] L1 fun _ L2 =>
 fin1 (resVL Env.nil Env.nil L2 [.cell (.c x2) (some 3)]) Q L2)
 (wpOp F (.bin .eql) [x3, (.i .i64 21)] L fun v3 L3 =>
 condW v3
 (wpOp F (.build [.i .i64 0, .i .i64 0, .i .i64 0] [(0, 1), (1, 1), (2, 1)]) [(.i .i64 1), (.i .i64 1), (.i .i64 2)] L3 fun v4 L4 =>
 wpOp F (.st 3) [x2, v4] L4 fun _ L5 =>
 fin1 (resVL Env.nil Env.nil L5 [.cell (.c x2) (some 3)]) Q L5)
 (wpOp F (.bin .eql) [x3, (.i .i64 22)] L3 fun v6 L6 =>
 condW v6
 (condW v6
 (wpOp F (.build [.i .i64 0, .i .i64 0, .i .i64 0] [(0, 1), (1, 1), (2, 1)]) [(.i .i64 2), (.i .i64 1), (.i .i64 0)] L6 fun v7 L7 =>
 wpOp F (.st 3) [x2, v7] L7 fun _ L8 =>
 fin1 (resVL Env.nil Env.nil L8 [.cell (.c x2) (some 3)]) Q L8)
 (wpOp F (.bin .eql) [x3, (.i .i64 23)] L6 fun v9 L9 =>
 condW v9
 (condW v9
 (wpOp F (.build [.i .i64 0, .i .i64 0, .i .i64 0] [(0, 1), (1, 1), (2, 1)]) [(.i .i64 2), (.i .i64 1), (.i .i64 1)] L9 fun v10 L10 =>
 wpOp F (.st 3) [x2, v10] L10 fun _ L11 =>
 fin1 (resVL Env.nil Env.nil L11 [.cell (.c x2) (some 3)]) Q L11)
 (D_tarpaulinref1_form_3 F N Q x2 L9))
 (wpOp F (.bin .eql) [x3, (.i .i64 24)] L9 fun v12 L12 =>
 condW v12
 (wpOp F (.build [.i .i64 0, .i .i64 0, .i .i64 0] [(0, 1), (1, 1), (2, 1)]) [(.i .i64 2), (.i .i64 1), (.i .i64 1)] L12 fun v13 L13 =>
 wpOp F (.st 3) [x2, v13] L13 fun _ L14 =>
 fin1 (resVL Env.nil Env.nil L14 [.cell (.c x2) (some 3)]) Q L14)
 (D_tarpaulinref1_form_3 F N Q x2 L12))))
 (wpOp F (.bin .eql) [x3, (.i .i64 25)] L6 fun v15 L15 =>
 condW v15
 (wpOp F (.build [.i .i64 0, .i .i64 0, .i .i64 0] [(0, 1), (1, 1), (2, 1)]) [(.i .i64 2), (.i .i64 1), (.i .i64 0)] L15 fun v16 L16 =>
 wpOp F (.st 3) [x2, v16] L16 fun _ L17 =>
 fin1 (resVL Env.nil Env.nil L17 [.cell (.c x2) (some 3)]) Q L17)
 (wpOp F (.bin .eql) [x3, (.i .i64 23)] L15 fun v18 L18 =>
 condW v18
 (condW v18
 (wpOp F (.build [.i .i64 0, .i .i64 0, .i .i64 0] [(0, 1), (1, 1), (2, 1)]) [(.i .i64 2), (.i .i64 1), (.i .i64 1)] L18 fun v19 L19 =>
 wpOp F (.st 3) [x2, v19] L19 fun _ L20 =>
 fin1 (resVL Env.nil Env.nil L20 [.cell (.c x2) (some 3)]) Q L20)
 (D_tarpaulinref1_form_3 F N Q x2 L18))
 (wpOp F (.bin .eql) [x3, (.i .i64 24)] L18 fun v21 L21 =>
 condW v21
 (wpOp F (.build [.i .i64 0, .i .i64 0, .i .i64 0] [(0, 1), (1, 1), (2, 1)]) [(.i .i64 2), (.i .i64 1), (.i .i64 1)] L21 fun v22 L22 =>
 wpOp F (.st 3) [x2, v22] L22 fun _ L23 =>
 fin1 (resVL Env.nil Env.nil L23 [.cell (.c x2) (some 3)]) Q L23)
 (D_tarpaulinref1_form_3 F N Q x2 L21))))))
theorem e_tarpaulinref1_form_46 (F : TF) (N : TN) (Q : TQ) (l t : Env) (L : Lg) : wp F (q_tarpaulinref1_form_46 N) l t L (w_tarpaulinref1_form_2 F N Q) (y_tarpaulinref1_form_5 F N Q) (fin [.cell (.l 2) (some 3)] Q) = D_tarpaulinref1_form_46 F N Q (l 2) (l 3) (t 54) L := by kernel_rfl
def q_tarpaulinref1_form_45a (N : TN) : ACode := (.seq (.reg [⟨.t 55, none, .bin .eql, [.l 3, .c (.i .i64 19)]⟩, ⟨.t 54, none, .mv, [.t 55]⟩]) (.cond (.t 54) .skip (.reg [⟨.t 56, none, .bin .eql, [.l 3, .c (.i .i64 31)]⟩, ⟨.t 54, none, .mv, [.t 56]⟩])))
def q_tarpaulinref1_form_45 (N : TN) : ACode := (.seq (q_tarpaulinref1_form_45a N) (q_tarpaulinref1_form_46 N))
noncomputable def D_tarpaulinref1_form_45 (F : TF) (N : TN) (Q : TQ) (x2 : AV) (x3 : AV) (L : Lg) : Prop :=
 wpOp F (.bin .eql) [x3, (.i .i64 19)] L fun v1 L1 =>
 condW v1
 (D_tarpaulinref1_form_46 F N Q x2 x3 v1 L1)
 (wpOp F (.bin .eql) [x3, (.i .i64 31)] L1 fun v2 L2 =>
 D_tarpaulinref1_form_46 F N Q x2 x3 v2 L2)
theorem e_tarpaulinref1_form_45 (F : TF) (N : TN) (Q : TQ) (l t : Env) (L : Lg) : wp F (q_tarpaulinref1_form_45 N) l t L (w_tarpaulinref1_form_2 F N Q) (y_tarpaulinref1_form_5 F N Q) (fin [.cell (.l 2) (some 3)] Q) = D_tarpaulinref1_form_45 F N Q (l 2) (l 3) L := wpS (e_tarpaulinref1_form_46 F N Q) (by kernel_rfl)
def q_tarpaulinref1_form_43 (N : TN) : ACode := (.cond (.t 50) (q_tarpaulinref1_form_44 N) (q_tarpaulinref1_form_45 N))
noncomputable def D_tarpaulinref1_form_43 (F : TF) (N : TN) (Q : TQ) (x2 : AV) (x3 : AV) (t50 : AV) (L : Lg) : Prop :=
 condW t50
 (D_tarpaulinref1_form_44 F N Q x2 L)
 (D_tarpaulinref1_form_45 F N Q x2 x3 L)
theorem e_tarpaulinref1_form_43 (F : TF) (N : TN) (Q : TQ) (l t : Env) (L : Lg) : wp F (q_tarpaulinref1_form_43 N) l t L (w_tarpaulinref1_form_2 F N Q) (y_tarpaulinref1_form_5 F N Q) (fin [.cell (.l 2) (some 3)] Q) = D_tarpaulinref1_form_43 F N Q (l 2) (l 3) (t 50) L := wpC (e_tarpaulinref1_form_44 F N Q l t L) (e_tarpaulinref1_form_45 F N Q l t L) (by kernel_rfl)
def q_tarpaulinref1_form_42a (N : TN) : ACode := (.seq (.reg [⟨.t 51, none, .bin .eql, [.l 3, .c (.i .i64 17)]⟩, ⟨.t 50, none, .mv, [.t 51]⟩]) (.cond (.t 50) .skip (.reg [⟨.t 52, none, .bin .eql, [.l 3, .c (.i .i64 18)]⟩, ⟨.t 50, none, .mv, [.t 52]⟩])))
def q_tarpaulinref1_form_42 (N : TN) : ACode := (.seq (q_tarpaulinref1_form_42a N) (q_tarpaulinref1_form_43 N))
noncomputable def D_tarpaulinref1_form_42 (F : TF) (N : TN) (Q : TQ) (x2 : AV) (x3 : AV) (L : Lg) : Prop :=
 wpOp F (.bin .eql) [x3, (.i .i64 17)] L fun v1 L1 =>
 condW v1
 (D_tarpaulinref1_form_43 F N Q x2 x3 v1 L1)
 (wpOp F (.bin .eql) [x3, (.i .i64 18)] L1 fun v2 L2 =>
 D_tarpaulinref1_form_43 F N Q x2 x3 v2 L2)
theorem e_tarpaulinref1_form_42 (F : TF) (N : TN) (Q : TQ) (l t : Env) (L : Lg) : wp F (q_tarpaulinref1_form_42 N) l t L (w_tarpaulinref1_form_2 F N Q) (y_tarpaulinref1_form_5 F N Q) (fin [.cell (.l 2) (some 3)] Q) = D_tarpaulinref1_form_42 F N Q (l 2) (l 3) L := wpS (e_tarpaulinref1_form_43 F N Q) (by kernel_rfl)
def q_tarpaulinref1_form_40 (N : TN) : ACode := (.cond (.t 47) (q_tarpaulinref1_form_41 N) (q_tarpaulinref1_form_42 N))
noncomputable def D_tarpaulinref1_form_40 (F : TF) (N : TN) (Q : TQ) (x2 : AV) (x3 : AV) (t47 : AV) (L : Lg) : Prop :=
 condW t47
 (D_tarpaulinref1_form_41 F N Q x2 L)
 (D_tarpaulinref1_form_42 F N Q x2 x3 L)
theorem e_tarpaulinref1_form_40 (F : TF) (N : TN) (Q : TQ) (l t : Env) (L : Lg) : wp F (q_tarpaulinref1_form_40 N) l t L (w_tarpaulinref1_form_2 F N Q) (y_tarpaulinref1_form_5 F N Q) (fin [.cell (.l 2) (some 3)] Q) = D_tarpaulinref1_form_40 F N Q (l 2) (l 3) (t 47) L := wpC (e_tarpaulinref1_form_41 F N Q l t L) (e_tarpaulinref1_form_42 F N Q l t L) (by kernel_rfl)
def q_tarpaulinref1_form_39a (N : TN) : ACode := (.reg [⟨.t 48, none, .bin .eql, [.l 3, .c (.i .i64 16)]⟩, ⟨.t 47, none, .mv, [.t 48]⟩])
def q_tarpaulinref1_form_39 (N : TN) : ACode := (.seq (q_tarpaulinref1_form_39a N) (q_tarpaulinref1_form_40 N))
noncomputable def D_tarpaulinref1_form_39 (F : TF) (N : TN) (Q : TQ) (x2 : AV) (x3 : AV) (L : Lg) : Prop :=
 wpOp F (.bin .eql) [x3, (.i .i64 16)] L fun v1 L1 =>
 D_tarpaulinref1_form_40 F N Q x2 x3 v1 L1
theorem e_tarpaulinref1_form_39 (F : TF) (N : TN) (Q : TQ) (l t : Env) (L : Lg) : wp F (q_tarpaulinref1_form_39 N) l t L (w_tarpaulinref1_form_2 F N Q) (y_tarpaulinref1_form_5 F N Q) (fin [.cell (.l 2) (some 3)] Q) = D_tarpaulinref1_form_39 F N Q (l 2) (l 3) L := wpS (e_tarpaulinref1_form_40 F N Q) (by kernel_rfl)
def q_tarpaulinref1_form_37 (N : TN) : ACode := (.cond (.t 44) (q_tarpaulinref1_form_38 N) (q_tarpaulinref1_form_39 N))
noncomputable def D_tarpaulinref1_form_37 (F : TF) (N : TN) (Q : TQ) (x2 : AV) (x3 : AV) (t44 : AV) (L : Lg) : Prop :=
 condW t44
 (D_tarpaulinref1_form_38 F N Q x2 L)
 (D_tarpaulinref1_form_39 F N Q x2 x3 L)
theorem e_tarpaulinref1_form_37 (F : TF) (N : TN) (Q : TQ) (l t : Env) (L : Lg) : wp F (q_tarpaulinref1_form_37 N) l t L (w_tarpaulinref1_form_2 F N Q) (y_tarpaulinref1_form_5 F N Q) (fin [.cell (.l 2) (some 3)] Q) = D_tarpaulinref1_form_37 F N Q (l 2) (l 3) (t 44) L := wpC (e_tarpaulinref1_form_38 F N Q l t L) (e_tarpaulinref1_form_39 F N Q l t L) (by kernel_rfl)
def q_tarpaulinref1_form_36a (N : TN) : ACode := (.reg [⟨.t 45, none, .bin .eql, [.l 3, .c (.i .i64 15)]⟩, ⟨.t 44, none, .mv, [.t 45]⟩])
def q_tarpaulinref1_form_36 (N : TN) : ACode := (.seq (q_tarpaulinref1_form_36a N) (q_tarpaulinref1_form_37 N))
noncomputable def D_tarpaulinref1_form_36 (F : TF) (N : TN) (Q : TQ) (x2 : AV) (x3 : AV) (L : Lg) : Prop :=
 wpOp F (.bin .eql) [x3, (.i .i64 15)] L fun v1 L1 =>
 D_tarpaulinref1_form_37 F N Q x2 x3 v1 L1
theorem e_tarpaulinref1_form_36 (F : TF) (N : TN) (Q : TQ) (l t : Env) (L : Lg) : wp F (q_tarpaulinref1_form_36 N) l t L (w_tarpaulinref1_form_2 F N Q) (y_tarpaulinref1_form_5 F N Q) (fin [.cell (.l 2) (some 3)] Q) = D_tarpaulinref1_form_36 F N Q (l 2) (l 3) L := wpS (e_tarpaulinref1_form_37 F N Q) (by kernel_rfl)
def q_tarpaulinref1_form_34 (N : TN) : ACode := (.cond (.t 35) (q_tarpaulinref1_form_35 N) (q_tarpaulinref1_form_36 N))
noncomputable def D_tarpaulinref1_form_34 (F : TF) (N : TN) (Q : TQ) (x2 : AV) (x3 : AV) (t35 : AV) (L : Lg) : Prop :=
 condW t35
 (D_tarpaulinref1_form_35 F N Q x2 L)
 (D_tarpaulinref1_form_36 F N Q x2 x3 L)
theorem e_tarpaulinref1_form_34 (F : TF) (N : TN) (Q : TQ) (l t : Env) (L : Lg) : wp F (q_tarpaulinref1_form_34 N) l t L (w_tarpaulinref1_form_2 F N Q) (y_tarpaulinref1_form_5 F N Q) (fin [.cell (.l 2) (some 3)] Q) = D_tarpaulinref1_form_34 F N Q (l 2) (l 3) (t 35) L := wpC (e_tarpaulinref1_form_35 F N Q l t L) (e_tarpaulinref1_form_36 F N Q l t L) (by kernel_rfl)
def q_tarpaulinref1_form_33a (N : TN) : ACode := (.seq (.reg [⟨.t 36, none, .bin .eql, [.l 3, .c (.i .i64 13)]⟩, ⟨.t 35, none, .mv, [.t 36]⟩]) (.cond (.t 35) .skip (.seq (.reg [⟨.t 37, none, .bin .eql, [.l 3, .c (.i .i64 14)]⟩, ⟨.t 35, none, .mv, [.t 37]⟩]) (.cond (.t 35) .skip (.seq (.reg [⟨.t 38, none, .bin .eql, [.l 3, .c (.i .i64 20)]⟩, ⟨.t 35, none, .mv, [.t 38]⟩]) (.cond (.t 35) .skip (.seq (.reg [⟨.t 39, none, .bin .eql, [.l 3, .c (.i .i64 27)]⟩, ⟨.t 35, none, .mv, [.t 39]⟩]) (.cond (.t 35) .skip (.seq (.reg [⟨.t 40, none, .bin .eql, [.l 3, .c (.i .i64 28)]⟩, ⟨.t 35, none, .mv, [.t 40]⟩]) (.cond (.t 35) .skip (.seq (.reg [⟨.t 41, none, .bin .eql, [.l 3, .c (.i .i64 29)]⟩, ⟨.t 35, none, .mv, [.t 41]⟩]) (.cond (.t 35) .skip (.reg [⟨.t 42, none, .bin .eql, [.l 3, .c (.i .i64 32)]⟩, ⟨.t 35, none, .mv, [.t 42]⟩])))))))))))))
def q_tarpaulinref1_form_33 (N : TN) : ACode := (.seq (q_tarpaulinref1_form_33a N) (q_tarpaulinref1_form_34 N))
noncomputable def D_tarpaulinref1_form_33 (F : TF) (N : TN) (Q : TQ) (x2 : AV) (x3 : AV) (L : Lg) : Prop :=
 wpOp F (.bin .eql) [x3, (.i .i64 13)] L fun v1 L1 =>
 condW v1
 (D_tarpaulinref1_form_34 F N Q x2 x3 v1 L1)
 (wpOp F (.bin .eql) [x3, (.i .i64 14)] L1 fun v2 L2 =>
 condW v2
 (D_tarpaulinref1_form_34 F N Q x2 x3 v2 L2)
 (wpOp F (.bin .eql) [x3, (.i .i64 20)] L2 fun v3 L3 =>
 condW v3
 (D_tarpaulinref1_form_34 F N Q x2 x3 v3 L3)
 (wpOp F (.bin .eql) [x3, (.i .i64 27)] L3 fun v4 L4 =>
 condW v4
 (D_tarpaulinref1_form_34 F N Q x2 x3 v4 L4)
 (wpOp F (.bin .eql) [x3, (.i .i64 28)] L4 fun v5 L5 =>
 condW v5
 (D_tarpaulinref1_form_34 F N Q x2 x3 v5 L5)
 (wpOp F (.bin .eql) [x3, (.i .i64 29)] L5 fun v6 L6 =>
 condW v6
 (D_tarpaulinref1_form_34 F N Q x2 x3 v6 L6)
 (wpOp F (.bin .eql) [x3, (.i .i64 32)] L6 fun v7 L7 =>
 D_tarpaulinref1_form_34 F N Q x2 x3 v7 L7))))))
theorem e_tarpaulinref1_form_33 (F : TF) (N : TN) (Q : TQ) (l t : Env) (L : Lg) : wp F (q_tarpaulinref1_form_33 N) l t L (w_tarpaulinref1_form_2 F N Q) (y_tarpaulinref1_form_5 F N Q) (fin [.cell (.l 2) (some 3)] Q) = D_tarpaulinref1_form_33 F N Q (l 2) (l 3) L := wpS (e_tarpaulinref1_form_34 F N Q) (by kernel_rfl)
def q_tarpaulinref1_form_31 (N : TN) : ACode := (.cond (.t 31) (q_tarpaulinref1_form_32 N) (q_tarpaulinref1_form_33 N))
noncomputable def D_tarpaulinref1_form_31 (F : TF) (N : TN) (Q : TQ) (x2 : AV) (x3 : AV) (t31 : AV) (L : Lg) : Prop :=
 condW t31
 (D_tarpaulinref1_form_32 F N Q x2 L)
 (D_tarpaulinref1_form_33 F N Q x2 x3 L)
theorem e_tarpaulinref1_form_31 (F : TF) (N : TN) (Q : TQ) (l t : Env) (L : Lg) : wp F (q_tarpaulinref1_form_31 N) l t L (w_tarpaulinref1_form_2 F N Q) (y_tarpaulinref1_form_5 F N Q) (fin [.cell (.l 2) (some 3)] Q) = D_tarpaulinref1_form_31 F N Q (l 2) (l 3) (t 31) L := wpC (e_tarpaulinref1_form_32 F N Q l t L) (e_tarpaulinref1_form_33 F N Q l t L) (by kernel_rfl)
def q_tarpaulinref1_form_30a (N : TN) : ACode := (.seq (.reg [⟨.t 32, none, .bin .eql, [.l 3, .c (.i .i64 11)]⟩, ⟨.t 31, none, .mv, [.t 32]⟩]) (.cond (.t 31) .skip (.reg [⟨.t 33, none, .bin .eql, [.l 3, .c (.i .i64 30)]⟩, ⟨.t 31, none, .mv, [.t 33]⟩])))
def q_tarpaulinref1_form_30 (N : TN) : ACode := (.seq (q_tarpaulinref1_form_30a N) (q_tarpaulinref1_form_31 N))
noncomputable def D_tarpaulinref1_form_30 (F : TF) (N : TN) (Q : TQ) (x2 : AV) (x3 : AV) (L : Lg) : Prop :=
 wpOp F (.bin .eql) [x3, (.i .i64 11)] L fun v1 L1 =>
 condW v1
 (D_tarpaulinref1_form_31 F N Q x2 x3 v1 L1)
 (wpOp F (.bin .eql) [x3, (.i .i64 30)] L1 fun v2 L2 =>
 D_tarpaulinref1_form_31 F N Q x2 x3 v2 L2)
theorem e_tarpaulinref1_form_30 (F : TF) (N : TN) (Q : TQ) (l t : Env) (L : Lg) : wp F (q_tarpaulinref1_form_30 N) l t L (w_tarpaulinref1_form_2 F N Q) (y_tarpaulinref1_form_5 F N Q) (fin [.cell (.l 2) (some 3)] Q) = D_tarpaulinref1_form_30 F N Q (l 2) (l 3) L := wpS (e_tarpaulinref1_form_31 F N Q) (by kernel_rfl)
def q_tarpaulinref1_form_28 (N : TN) : ACode := (.cond (.t 27) (q_tarpaulinref1_form_29 N) (q_tarpaulinref1_form_30 N))
noncomputable def D_tarpaulinref1_form_28 (F : TF) (N : TN) (Q : TQ) (x2 : AV) (x3 : AV) (t27 : AV) (L : Lg) : Prop :=
 condW t27
 (D_tarpaulinref1_form_29 F N Q x2 L)
 (D_tarpaulinref1_form_30 F N Q x2 x3 L)
theorem e_tarpaulinref1_form_28 (F : TF) (N : TN) (Q : TQ) (l t : Env) (L : Lg) : wp F (q_tarpaulinref1_form_28 N) l t L (w_tarpaulinref1_form_2 F N Q) (y_tarpaulinref1_form_5 F N Q) (fin [.cell (.l 2) (some 3)] Q) = D_tarpaulinref1_form_28 F N Q (l 2) (l 3) (t 27) L := wpC (e_tarpaulinref1_form_29 F N Q l t L) (e_tarpaulinref1_form_30 F N Q l t L) (by kernel_rfl)
def q_tarpaulinref1_form_27a (N : TN) : ACode := (.seq (.reg [⟨.t 28, none, .bin .eql, [.l 3, .c (.i .i64 10)]⟩, ⟨.t 27, none, .mv, [.t 28]⟩]) (.cond (.t 27) .skip (.reg [⟨.t 29, none, .bin .eql, [.l 3, .c (.i .i64 26)]⟩, ⟨.t 27, none, .mv, [.t 29]⟩])))
def q_tarpaulinref1_form_27 (N : TN) : ACode := (.seq (q_tarpaulinref1_form_27a N) (q_tarpaulinref1_form_28 N))
noncomputable def D_tarpaulinref1_form_27 (F : TF) (N : TN) (Q : TQ) (x2 : AV) (x3 : AV) (L : Lg) : Prop :=
 wpOp F (.bin .eql) [x3, (.i .i64 10)] L fun v1 L1 =>
 condW v1
 (D_tarpaulinref1_form_28 F N Q x2 x3 v1 L1)
 (wpOp F (.bin .eql) [x3, (.i .i64 26)] L1 fun v2 L2 =>
 D_tarpaulinref1_form_28 F N Q x2 x3 v2 L2)
theorem e_tarpaulinref1_form_27 (F : TF) (N : TN) (Q : TQ) (l t : Env) (L : Lg) : wp F (q_tarpaulinref1_form_27 N) l t L (w_tarpaulinref1_form_2 F N Q) (y_tarpaulinref1_form_5 F N Q) (fin [.cell (.l 2) (some 3)] Q) = D_tarpaulinref1_form_27 F N Q (l 2) (l 3) L := wpS (e_tarpaulinref1_form_28 F N Q) (by kernel_rfl)
def q_tarpaulinref1_form_25 (N : TN) : ACode := (.cond (.t 24) (q_tarpaulinref1_form_26 N) (q_tarpaulinref1_form_27 N))
noncomputable def D_tarpaulinref1_form_25 (F : TF) (N : TN) (Q : TQ) (x2 : AV) (x3 : AV) (t24 : AV) (L : Lg) : Prop :=
 condW t24
 (D_tarpaulinref1_form_26 F N Q x2 L)
 (D_tarpaulinref1_form_27 F N Q x2 x3 L)
theorem e_tarpaulinref1_form_25 (F : TF) (N : TN) (Q : TQ) (l t : Env) (L : Lg) : wp F (q_tarpaulinref1_form_25 N) l t L (w_tarpaulinref1_form_2 F N Q) (y_tarpaulinref1_form_5 F N Q) (fin [.cell (.l 2) (some 3)] Q) = D_tarpaulinref1_form_25 F N Q (l 2) (l 3) (t 24) L := wpC (e_tarpaulinref1_form_26 F N Q l t L) (e_tarpaulinref1_form_27 F N Q l t L) (by kernel_rfl)
def q_tarpaulinref1_form_24a (N : TN) : ACode := (.reg [⟨.t 25, none, .bin .eql, [.l 3, .c (.i .i64 8)]⟩, ⟨.t 24, none, .mv, [.t 25]⟩])
def q_tarpaulinref1_form_24 (N : TN) : ACode := (.seq (q_tarpaulinref1_form_24a N) (q_tarpaulinref1_form_25 N))
noncomputable def D_tarpaulinref1_form_24 (F : TF) (N : TN) (Q : TQ) (x2 : AV) (x3 : AV) (L : Lg) : Prop :=
 wpOp F (.bin .eql) [x3, (.i .i64 8)] L fun v1 L1 =>
 D_tarpaulinref1_form_25 F N Q x2 x3 v1 L1
theorem e_tarpaulinref1_form_24 (F : TF) (N : TN) (Q : TQ) (l t : Env) (L : Lg) : wp F (q_tarpaulinref1_form_24 N) l t L (w_tarpaulinref1_form_2 F N Q) (y_tarpaulinref1_form_5 F N Q) (fin [.cell (.l 2) (some 3)] Q) = D_tarpaulinref1_form_24 F N Q (l 2) (l 3) L := wpS (e_tarpaulinref1_form_25 F N Q) (by kernel_rfl)
def q_tarpaulinref1_form_22 (N : TN) : ACode := (.cond (.t 20) (q_tarpaulinref1_form_23 N) (q_tarpaulinref1_form_24 N))
noncomputable def D_tarpaulinref1_form_22 (F : TF) (N : TN) (Q : TQ) (x2 : AV) (x3 : AV) (t20 : AV) (L : Lg) : Prop :=
 condW t20
 (D_tarpaulinref1_form_23 F N Q x2 L)
 (D_tarpaulinref1_form_24 F N Q x2 x3 L)
theorem e_tarpaulinref1_form_22 (F : TF) (N : TN) (Q : TQ) (l t : Env) (L : Lg) : wp F (q_tarpaulinref1_form_22 N) l t L (w_tarpaulinref1_form_2 F N Q) (y_tarpaulinref1_form_5 F N Q) (fin [.cell (.l 2) (some 3)] Q) = D_tarpaulinref1_form_22 F N Q (l 2) (l 3) (t 20) L := wpC (e_tarpaulinref1_form_23 F N Q l t L) (e_tarpaulinref1_form_24 F N Q l t L) (by kernel_rfl)
def q_tarpaulinref1_form_21a (N : TN) : ACode := (.seq (.reg [⟨.t 21, none, .bin .eql, [.l 3, .c (.i .i64 6)]⟩, ⟨.t 20, none, .mv, [.t 21]⟩]) (.cond (.t 20) .skip (.reg [⟨.t 22, none, .bin .eql, [.l 3, .c (.i .i64 12)]⟩, ⟨.t 20, none, .mv, [.t 22]⟩])))
def q_tarpaulinref1_form_21 (N : TN) : ACode := (.seq (q_tarpaulinref1_form_21a N) (q_tarpaulinref1_form_22 N))
noncomputable def D_tarpaulinref1_form_21 (F : TF) (N : TN) (Q : TQ) (x2 : AV) (x3 : AV) (L : Lg) : Prop :=
 wpOp F (.bin .eql) [x3, (.i .i64 6)] L fun v1 L1 =>
 condW v1
 (D_tarpaulinref1_form_22 F N Q x2 x3 v1 L1)
 (wpOp F (.bin .eql) [x3, (.i .i64 12)] L1 fun v2 L2 =>
 D_tarpaulinref1_form_22 F N Q x2 x3 v2 L2)
theorem e_tarpaulinref1_form_21 (F : TF) (N : TN) (Q : TQ) (l t : Env) (L : Lg) : wp F (q_tarpaulinref1_form_21 N) l t L (w_tarpaulinref1_form_2 F N Q) (y_tarpaulinref1_form_5 F N Q) (fin [.cell (.l 2) (some 3)] Q) = D_tarpaulinref1_form_21 F N Q (l 2) (l 3) L := wpS (e_tarpaulinref1_form_22 F N Q) (by kernel_rfl)
def q_tarpaulinref1_form_19 (N : TN) : ACode := (.cond (.t 17) (q_tarpaulinref1_form_20 N) (q_tarpaulinref1_form_21 N))
noncomputable def D_tarpaulinref1_form_19 (F : TF) (N : TN) (Q : TQ) (x2 : AV) (x3 : AV) (t17 : AV) (L : Lg) : Prop :=
 condW t17
 (D_tarpaulinref1_form_20 F N Q x2 L)
 (D_tarpaulinref1_form_21 F N Q x2 x3 L)
theorem e_tarpaulinref1_form_19 (F : TF) (N : TN) (Q : TQ) (l t : Env) (L : Lg) : wp F (q_tarpaulinref1_form_19 N) l t L (w_tarpaulinref1_form_2 F N Q) (y_tarpaulinref1_form_5 F N Q) (fin [.cell (.l 2) (some 3)] Q) = D_tarpaulinref1_form_19 F N Q (l 2) (l 3) (t 17) L := wpC (e_tarpaulinref1_form_20 F N Q l t L) (e_tarpaulinref1_form_21 F N Q l t L) (by kernel_rfl)
def q_tarpaulinref1_form_18a (N : TN) : ACode := (.reg [⟨.t 18, none, .bin .eql, [.l 3, .c (.i .i64 5)]⟩, ⟨.t 17, none, .mv, [.t 18]⟩])
def q_tarpaulinref1_form_18 (N : TN) : ACode := (.seq (q_tarpaulinref1_form_18a N) (q_tarpaulinref1_form_19 N))
noncomputable def D_tarpaulinref1_form_18 (F : TF) (N : TN) (Q : TQ) (x2 : AV) (x3 : AV) (L : Lg) : Prop :=
 wpOp F (.bin .eql) [x3, (.i .i64 5)] L fun v1 L1 =>
 D_tarpaulinref1_form_19 F N Q x2 x3 v1 L1
theorem e_tarpaulinref1_form_18 (F : TF) (N : TN) (Q : TQ) (l t : Env) (L : Lg) : wp F (q_tarpaulinref1_form_18 N) l t L (w_tarpaulinref1_form_2 F N Q) (y_tarpaulinref1_form_5 F N Q) (fin [.cell (.l 2) (some 3)] Q) = D_tarpaulinref1_form_18 F N Q (l 2) (l 3) L := wpS (e_tarpaulinref1_form_19 F N Q) (by kernel_rfl)
def q_tarpaulinref1_form_16 (N : TN) : ACode := (.cond (.t 14) (q_tarpaulinref1_form_17 N) (q_tarpaulinref1_form_18 N))
noncomputable def D_tarpaulinref1_form_16 (F : TF) (N : TN) (Q : TQ) (x2 : AV) (x3 : AV) (t14 : AV) (L : Lg) : Prop :=
 condW t14
 (D_tarpaulinref1_form_17 F N Q x2 L)
 (D_tarpaulinref1_form_18 F N Q x2 x3 L)
theorem e_tarpaulinref1_form_16 (F : TF) (N : TN) (Q : TQ) (l t : Env) (L : Lg) : wp F (q_tarpaulinref1_form_16 N) l t L (w_tarpaulinref1_form_2 F N Q) (y_tarpaulinref1_form_5 F N Q) (fin [.cell (.l 2) (some 3)] Q) = D_tarpaulinref1_form_16 F N Q (l 2) (l 3) (t 14) L := wpC (e_tarpaulinref1_form_17 F N Q l t L) (e_tarpaulinref1_form_18 F N Q l t L) (by kernel_rfl)
def q_tarpaulinref1_form_15a (N : TN) : ACode := (.reg [⟨.t 15, none, .bin .eql, [.l 3, .c (.i .i64 4)]⟩, ⟨.t 14, none, .mv, [.t 15]⟩])
def q_tarpaulinref1_form_15 (N : TN) : ACode := (.seq (q_tarpaulinref1_form_15a N) (q_tarpaulinref1_form_16 N))
noncomputable def D_tarpaulinref1_form_15 (F : TF) (N : TN) (Q : TQ) (x2 : AV) (x3 : AV) (L : Lg) : Prop :=
 wpOp F (.bin .eql) [x3, (.i .i64 4)] L fun v1 L1 =>
 D_tarpaulinref1_form_16 F N Q x2 x3 v1 L1
theorem e_tarpaulinref1_form_15 (F : TF) (N : TN) (Q : TQ) (l t : Env) (L : Lg) : wp F (q_tarpaulinref1_form_15 N) l t L (w_tarpaulinref1_form_2 F N Q) (y_tarpaulinref1_form_5 F N Q) (fin [.cell (.l 2) (some 3)] Q) = D_tarpaulinref1_form_15 F N Q (l 2) (l 3) L := wpS (e_tarpaulinref1_form_16 F N Q) (by kernel_rfl)
def q_tarpaulinref1_form_13 (N : TN) : ACode := (.cond (.t 11) (q_tarpaulinref1_form_14 N) (q_tarpaulinref1_form_15 N))
noncomputable def D_tarpaulinref1_form_13 (F : TF) (N : TN) (Q : TQ) (x2 : AV) (x3 : AV) (t11 : AV) (L : Lg) : Prop :=
 condW t11
 (D_tarpaulinref1_form_14 F N Q x2 L)
 (D_tarpaulinref1_form_15 F N Q x2 x3 L)
theorem e_tarpaulinref1_form_13 (F : TF) (N : TN) (Q : TQ) (l t : Env) (L : Lg) : wp F (q_tarpaulinref1_form_13 N) l t L (w_tarpaulinref1_form_2 F N Q) (y_tarpaulinref1_form_5 F N Q) (fin [.cell (.l 2) (some 3)] Q) = D_tarpaulinref1_form_13 F N Q (l 2) (l 3) (t 11) L := wpC (e_tarpaulinref1_form_14 F N Q l t L) (e_tarpaulinref1_form_15 F N Q l t L) (by kernel_rfl)
def q_tarpaulinref1_form_12a (N : TN) : ACode := (.reg [⟨.t 12, none, .bin .eql, [.l 3, .c (.i .i64 3)]⟩, ⟨.t 11, none, .mv, [.t 12]⟩])
def q_tarpaulinref1_form_12 (N : TN) : ACode := (.seq (q_tarpaulinref1_form_12a N) (q_tarpaulinref1_form_13 N))
noncomputable def D_tarpaulinref1_form_12 (F : TF) (N : TN) (Q : TQ) (x2 : AV) (x3 : AV) (L : Lg) : Prop :=
 wpOp F (.bin .eql) [x3, (.i .i64 3)] L fun v1 L1 =>
 D_tarpaulinref1_form_13 F N Q x2 x3 v1 L1
theorem e_tarpaulinref1_form_12 (F : TF) (N : TN) (Q : TQ) (l t : Env) (L : Lg) : wp F (q_tarpaulinref1_form_12 N) l t L (w_tarpaulinref1_form_2 F N Q) (y_tarpaulinref1_form_5 F N Q) (fin [.cell (.l 2) (some 3)] Q) = D_tarpaulinref1_form_12 F N Q (l 2) (l 3) L := wpS (e_tarpaulinref1_form_13 F N Q) (by kernel_rfl)
def q_tarpaulinref1_form_10 (N : TN) : ACode := (.cond (.t 8) (q_tarpaulinref1_form_11 N) (q_tarpaulinref1_form_12 N))
noncomputable def D_tarpaulinref1_form_10 (F : TF) (N : TN) (Q : TQ) (x2 : AV) (x3 : AV) (t8 : AV) (L : Lg) : Prop :=
 condW t8
 (D_tarpaulinref1_form_11 F N Q x2 L)
 (D_tarpaulinref1_form_12 F N Q x2 x3 L)
theorem e_tarpaulinref1_form_10 (F : TF) (N : TN) (Q : TQ) (l t : Env) (L : Lg) : wp F (q_tarpaulinref1_form_10 N) l t L (w_tarpaulinref1_form_2 F N Q) (y_tarpaulinref1_form_5 F N Q) (fin [.cell (.l 2) (some 3)] Q) = D_tarpaulinref1_form_10 F N Q (l 2) (l 3) (t 8) L := wpC (e_tarpaulinref1_form_11 F N Q l t L) (e_tarpaulinref1_form_12 F N Q l t L) (by kernel_rfl)
def q_tarpaulinref1_form_9a (N : TN) : ACode := (.reg [⟨.t 9, none, .bin .eql, [.l 3, .c (.i .i64 2)]⟩, ⟨.t 8, none, .mv, [.t 9]⟩])
def q_tarpaulinref1_form_9 (N : TN) : ACode := (.seq (q_tarpaulinref1_form_9a N) (q_tarpaulinref1_form_10 N))
noncomputable def D_tarpaulinref1_form_9 (F : TF) (N : TN) (Q : TQ) (x2 : AV) (x3 : AV) (L : Lg) : Prop :=
 wpOp F (.bin .eql) [x3, (.i .i64 2)] L fun v1 L1 =>
 D_tarpaulinref1_form_10 F N Q x2 x3 v1 L1
theorem e_tarpaulinref1_form_9 (F : TF) (N : TN) (Q : TQ) (l t : Env) (L : Lg) : wp F (q_tarpaulinref1_form_9 N) l t L (w_tarpaulinref1_form_2 F N Q) (y_tarpaulinref1_form_5 F N Q) (fin [.cell (.l 2) (some 3)] Q) = D_tarpaulinref1_form_9 F N Q (l 2) (l 3) L := wpS (e_tarpaulinref1_form_10 F N Q) (by kernel_rfl)
def q_tarpaulinref1_form_7 (N : TN) : ACode := (.cond (.t 4) (q_tarpaulinref1_form_8 N) (q_tarpaulinref1_form_9 N))
noncomputable def D_tarpaulinref1_form_7 (F : TF) (N : TN) (Q : TQ) (x2 : AV) (x3 : AV) (t4 : AV) (L : Lg) : Prop :=
 condW t4
 (D_tarpaulinref1_form_8 F N Q x2 L)
 (D_tarpaulinref1_form_9 F N Q x2 x3 L)
theorem e_tarpaulinref1_form_7 (F : TF) (N : TN) (Q : TQ) (l t : Env) (L : Lg) : wp F (q_tarpaulinref1_form_7 N) l t L (w_tarpaulinref1_form_2 F N Q) (y_tarpaulinref1_form_5 F N Q) (fin [.cell (.l 2) (some 3)] Q) = D_tarpaulinref1_form_7 F N Q (l 2) (l 3) (t 4) L := wpC (e_tarpaulinref1_form_8 F N Q l t L) (e_tarpaulinref1_form_9 F N Q l t L) (by kernel_rfl)
def q_tarpaulinref1_form_6a (N : TN) : ACode := (.seq (.reg [⟨.t 5, none, .bin .eql, [.l 3, .c (.i .i64 1)]⟩, ⟨.t 4, none, .mv, [.t 5]⟩]) (.cond (.t 4) .skip (.reg [⟨.t 6, none, .bin .eql, [.l 3, .c (.i .i64 9)]⟩, ⟨.t 4, none, .mv, [.t 6]⟩])))
def q_tarpaulinref1_form_6 (N : TN) : ACode := (.seq (q_tarpaulinref1_form_6a N) (q_tarpaulinref1_form_7 N))
noncomputable def D_tarpaulinref1_form_6 (F : TF) (N : TN) (Q : TQ) (x2 : AV) (x3 : AV) (L : Lg) : Prop :=
 wpOp F (.bin .eql) [x3, (.i .i64 1)] L fun v1 L1 =>
 condW v1
 (D_tarpaulinref1_form_7 F N Q x2 x3 v1 L1)
 (wpOp F (.bin .eql) [x3, (.i .i64 9)] L1 fun v2 L2 =>
 D_tarpaulinref1_form_7 F N Q x2 x3 v2 L2)
theorem e_tarpaulinref1_form_6 (F : TF) (N : TN) (Q : TQ) (l t : Env) (L : Lg) : wp F (q_tarpaulinref1_form_6 N) l t L (w_tarpaulinref1_form_2 F N Q) (y_tarpaulinref1_form_5 F N Q) (fin [.cell (.l 2) (some 3)] Q) = D_tarpaulinref1_form_6 F N Q (l 2) (l 3) L := wpS (e_tarpaulinref1_form_7 F N Q) (by kernel_rfl)
def q_tarpaulinref1_form_5 (N : TN) : ACode := (.block 0 (q_tarpaulinref1_form_6 N))
theorem e_tarpaulinref1_form_5 (F : TF) (N : TN) (Q : TQ) (l t : Env) (L : Lg) : wp F (q_tarpaulinref1_form_5 N) l t L (w_tarpaulinref1_form_2 F N Q) nE (fin [.cell (.l 2) (some 3)] Q) = D_tarpaulinref1_form_6 F N Q (l 2) (l 3) L := wpB (e_tarpaulinref1_form_6 F N Q l t L)
def q_tarpaulinref1_form_4a (N : TN) : ACode := (.reg [⟨.l 3, none, .mv, [.l 0]⟩])
def q_tarpaulinref1_form_4 (N : TN) : ACode := (.seq (q_tarpaulinref1_form_4a N) (q_tarpaulinref1_form_5 N))
noncomputable def D_tarpaulinref1_form_4 (F : TF) (N : TN) (Q : TQ) (x0 : AV) (x2 : AV) (L : Lg) : Prop :=
 D_tarpaulinref1_form_6 F N Q x2 x0 L
theorem e_tarpaulinref1_form_4 (F : TF) (N : TN) (Q : TQ) (l t : Env) (L : Lg) : wp F (q_tarpaulinref1_form_4 N) l t L (w_tarpaulinref1_form_2 F N Q) nE (fin [.cell (.l 2) (some 3)] Q) = D_tarpaulinref1_form_4 F N Q (l 0) (l 2) L := wpS (e_tarpaulinref1_form_5 F N Q) (by kernel_rfl)
def q_tarpaulinref1_form_2 (N : TN) : ACode := (.seq (q_tarpaulinref1_form_4 N) (q_tarpaulinref1_form_3 N))
theorem e_tarpaulinref1_form_2 (F : TF) (N : TN) (Q : TQ) (l t : Env) (L : Lg) : wp F (q_tarpaulinref1_form_2 N) l t L (fin [.cell (.l 2) (some 3)] Q) nE (fin [.cell (.l 2) (some 3)] Q) = D_tarpaulinref1_form_4 F N Q (l 0) (l 2) L := wpS (e_tarpaulinref1_form_3 F N Q) (e_tarpaulinref1_form_4 F N Q l t L)
def q_tarpaulinref1_form_1a (N : TN) : ACode := (.reg [⟨.l 2, none, .alloc [.i .i64 0, .i .i64 0, .i .i64 0], []⟩])
def q_tarpaulinref1_form_1 (N : TN) : ACode := (.seq (q_tarpaulinref1_form_1a N) (q_tarpaulinref1_form_2 N))
noncomputable def D_tarpaulinref1_form_1 (F : TF) (N : TN) (Q : TQ) (x0 : AV) (L : Lg) : Prop :=
 wpOp F (.alloc [.i .i64 0, .i .i64 0, .i .i64 0]) [] L fun v1 L1 =>
 D_tarpaulinref1_form_4 F N Q x0 v1 L1
theorem e_tarpaulinref1_form_1 (F : TF) (N : TN) (Q : TQ) (l t : Env) (L : Lg) : wp F (q_tarpaulinref1_form_1 N) l t L (fin [.cell (.l 2) (some 3)] Q) nE (fin [.cell (.l 2) (some 3)] Q) = D_tarpaulinref1_form_1 F N Q (l 0) L := wpS (e_tarpaulinref1_form_2 F N Q) (by kernel_rfl)
/-- tarpaulin/tarpaulinref1.form -/
def c_tarpaulinref1_form (N : TN) : AFn := ⟨q_tarpaulinref1_form_1 N, [.cell (.l 2) (some 3)]⟩
structure H_tarpaulinref1_form (N : TN) (F : TF) : Prop where
  code : F (N k_tarpaulinref1_form) = some (c_tarpaulinref1_form N)
theorem r_tarpaulinref1_form {F : TF} {N : TN} (h : F (N k_tarpaulinref1_form) = some (c_tarpaulinref1_form N)) {Q : TQ} {a0 : AV} {L : Lg} (e : D_tarpaulinref1_form_1 F N Q a0 L) : CallL F (N k_tarpaulinref1_form) [a0] L Q :=
  CallL.of_wp h (Eq.mpr (Eq.trans (e_tarpaulinref1_form_1 F N Q (initE [a0] 0) Env.nil L) (by kernel_rfl : _ = D_tarpaulinref1_form_1 F N Q a0 L)) e)
def q_tarpaulinref1_reg_1 (N : TN) : ACode := (.seq (.reg [⟨.l 2, none, .mv, [.c (.b false)]⟩]) (.seq (.reg [⟨.t 3, none, .mv, [.l 0]⟩, ⟨.t 4, none, .bin .geq, [.t 3, .c (.i .i64 0)]⟩, ⟨.t 5, none, .mv, [.t 4]⟩, ⟨.t 6, some (.t 5, true), .mv, [.l 0]⟩, ⟨.t 7, some (.t 5, true), .bin .lss, [.t 6, .c (.i .i64 8)]⟩, ⟨.t 8, none, .pick, [.t 5, .t 7, .c (.b false)]⟩, ⟨.l 2, none, .mv, [.t 8]⟩]) .ret))
noncomputable def D_tarpaulinref1_reg_1 (F : TF) (N : TN) (Q : TQ) (x0 : AV) (L : Lg) : Prop :=
 wpOp F (.bin .geq) [x0, (.i .i64 0)] L fun v1 L1 =>
 gdOp F v1 true .mv [x0] L1 fun v2 L2 =>
 gdOp F v1 true (.bin .lss) [v2, (.i .i64 8)] L2 fun v3 L3 =>
 wpOp F .pick [v1, v3, (.b false)] L3 fun v4 L4 =>
 fin1 (some v4) Q L4
theorem e_tarpaulinref1_reg_1 (F : TF) (N : TN) (Q : TQ) (l t : Env) (L : Lg) : wp F (q_tarpaulinref1_reg_1 N) l t L (fin [.tmp (.l 2)] Q) nE (fin [.tmp (.l 2)] Q) = D_tarpaulinref1_reg_1 F N Q (l 0) L := by kernel_rfl
/-- tarpaulin/tarpaulinref1.reg -/
def c_tarpaulinref1_reg (N : TN) : AFn := ⟨q_tarpaulinref1_reg_1 N, [.tmp (.l 2)]⟩
structure H_tarpaulinref1_reg (N : TN) (F : TF) : Prop where
  code : F (N k_tarpaulinref1_reg) = some (c_tarpaulinref1_reg N)
theorem r_tarpaulinref1_reg {F : TF} {N : TN} (h : F (N k_tarpaulinref1_reg) = some (c_tarpaulinref1_reg N)) {Q : TQ} {a0 : AV} {L : Lg} (e : D_tarpaulinref1_reg_1 F N Q a0 L) : CallL F (N k_tarpaulinref1_reg) [a0] L Q :=
  CallL.of_wp h (Eq.mpr (Eq.trans (e_tarpaulinref1_reg_1 F N Q (initE [a0] 0) Env.nil L) (by kernel_rfl : _ = D_tarpaulinref1_reg_1 F N Q a0 L)) e)
def q_tarpaulinref1_one_7 (N : TN) : ACode := (.seq (.reg [⟨.t 121, none, .fad 4, [.l 2]⟩, ⟨.t 122, none, .ld none, [.t 121]⟩, ⟨.t 123, none, .lenSl, [.t 122]⟩, ⟨.t 124, none, .bin .leq, [.t 123, .c (.i .i64 16)]⟩, ⟨.l 4, none, .mv, [.t 124]⟩]) .ret)
noncomputable def D_tarpaulinref1_one_7 (F : TF) (N : TN) (Q : TQ) (x2 : AV) (L : Lg) : Prop :=
 wpOp F (.fad 4) [x2] L fun v1 L1 =>
 wpOp F (.ld none) [v1] L1 fun v2 L2 =>
 wpOp F .lenSl [v2] L2 fun v3 L3 =>
 wpOp F (.bin .leq) [v3, (.i .i64 16)] L3 fun v4 L4 =>
 fin1 (some v4) Q L4
theorem e_tarpaulinref1_one_7 (F : TF) (N : TN) (Q : TQ) (l t : Env) (L : Lg) : wp F (q_tarpaulinref1_one_7 N) l t L (fin [.tmp (.l 4)] Q) nE (fin [.tmp (.l 4)] Q) = D_tarpaulinref1_one_7 F N Q (l 2) L := by kernel_rfl
def w_tarpaulinref1_one_6 (F : TF) (N : TN) (Q : TQ) : Kn := (fun (l t : Env) (L : Lg) => D_tarpaulinref1_one_7 F N Q (l 2) L)
def y_tarpaulinref1_one_9 (F : TF) (N : TN) (Q : TQ) : Nat → Kn := (fun (j : Nat) (l t : Env) (L : Lg) => bif Nat.beq j 3 then (w_tarpaulinref1_one_6 F N Q) l t L else nE j l t L)
def q_tarpaulinref1_one_11 (N : TN) : ACode := (.seq (.seq (.reg [⟨.t 85, none, .mv, [.l 8]⟩, ⟨.t 86, none, .fad 4, [.l 2]⟩, ⟨.t 87, none, .ld none, [.t 86]⟩, ⟨.t 88, none, .lenSl, [.t 87]⟩, ⟨.t 89, none, .bin .lss, [.t 85, .t 88]⟩]) (.cond (.t 89) .skip (.exit 3))) (.seq (.block 4 (.seq (.reg [⟨.t 92, none, .fad 4, [.l 2]⟩, ⟨.t 93, none, .ld none, [.t 92]⟩, ⟨.t 94, none, .mv, [.l 8]⟩, ⟨.t 95, none, .iad 3, [.t 93, .t 94]⟩, ⟨.t 96, none, .ld (some 3), [.t 95]⟩, ⟨.l 9, none, .alloc [.b false, .i .i64 0, .i .i64 0], []⟩, ⟨.no, none, .st 3, [.l 9, .t 96]⟩]) (.seq (.reg [⟨.t 97, none, .fad 1, [.l 9]⟩, ⟨.t 98, none, .ld none, [.t 97]⟩, ⟨.t 99, none, .call (N k_tarpaulinref1_reg), [.t 98]⟩, ⟨.t 100, none, .un .not, [.t 99]⟩, ⟨.t 101, none, .mv, [.t 100]⟩, ⟨.t 102, some (.t 101, false), .fad 0, [.l 9]⟩, ⟨.t 103, some (.t 101, false), .ld none, [.t 102]⟩, ⟨.t 104, some (.t 101, false), .mv, [.t 103]⟩, ⟨.t 105, some (.t 104, true), .fad 2, [.l 9]⟩, ⟨.t 106, some (.t 104, true), .ld none, [.t 105]⟩, ⟨.t 107, some (.t 104, true), .call (N k_tarpaulinref1_reg), [.t 106]⟩, ⟨.t 108, some (.t 104, true), .un .not, [.t 107]⟩, ⟨.t 109, some (.t 101, false), .pick, [.t 104, .t 108, .c (.b false)]⟩, ⟨.t 110, none, .pick, [.t 101, .c (.b true), .t 109]⟩, ⟨.t 111, none, .mv, [.t 110]⟩, ⟨.t 112, some (.t 111, false), .fad 0, [.l 9]⟩, ⟨.t 113, some (.t 111, false), .ld none, [.t 112]⟩, ⟨.t 114, some (.t 111, false), .un .not, [.t 113]⟩, ⟨.t 115, some (.t 111, false), .mv, [.t 114]⟩, ⟨.t 116, some (.t 115, true), .fad 2, [.l 9]⟩, ⟨.t 117, some (.t 115, true), .ld none, [.t 116]⟩, ⟨.t 118, some (.t 115, true), .bin .neq, [.t 117, .c (.i .i64 0)]⟩, ⟨.t 119, some (.t 111, false), .pick, [.t 115, .t 118, .c (.b false)]⟩, ⟨.t 120, none, .pick, [.t 111, .c (.b true), .t 119]⟩]) (.cond (.t 120) (.seq (.reg [⟨.l 4, none, .mv, [.c (.b false)]⟩]) .ret) .skip)))) (.reg [⟨.t 90, none, .mv, [.l 8]⟩, ⟨.t 91, none, .bin .add, [.t 90, .c (.i .i64 1)]⟩, ⟨.l 8, none, .mv, [.t 91]⟩])))
noncomputable def D_tarpaulinref1_one_11 (F : TF) (N : TN) (Q : TQ) (k1 : TK) (l : Env) (L : Lg) : Prop :=
 wpOp F (.fad 4) [(l 2)] L fun v1 L1 =>
 wpOp F (.ld none) [v1] L1 fun v2 L2 =>
 wpOp F .lenSl [v2] L2 fun v3 L3 =>
 wpOp F (.bin .lss) [(l 8), v3] L3 fun v4 L4 =>
 condW v4
 (wpOp F (.fad 4) [(l 2)] L4 fun v5 L5 =>
 wpOp F (.ld none) [v5] L5 fun v6 L6 =>
 wpOp F (.iad 3) [v6, (l 8)] L6 fun v7 L7 =>
 wpOp F (.ld (some 3)) [v7] L7 fun v8 L8 =>
 wpOp F (.alloc [.b false, .i .i64 0, .i .i64 0]) [] L8 fun v9 L9 =>
 wpOp F (.st 3) [v9, v8] L9 fun _ L10 =>
 wpOp F (.fad 1) [v9] L10 fun v11 L11 =>
 wpOp F (.ld none) [v11] L11 fun v12 L12 =>
 CallL F (N k_tarpaulinref1_reg) [v12] L12 fun v13 L13 =>
 wpOp F (.un .not) [v13] L13 fun v14 L14 =>
 gdOp F v14 false (.fad 0) [v9] L14 fun v15 L15 =>
 gdOp F v14 false (.ld none) [v15] L15 fun v16 L16 =>
 gdOp F v14 false .mv [v16] L16 fun v17 L17 =>
 gdOp F v17 true (.fad 2) [v9] L17 fun v18 L18 =>
 gdOp F v17 true (.ld none) [v18] L18 fun v19 L19 =>
 gdOp F v17 true (.call (N k_tarpaulinref1_reg)) [v19] L19 fun v20 L20 =>
 gdOp F v17 true (.un .not) [v20] L20 fun v21 L21 =>
 gdOp F v14 false .pick [v17, v21, (.b false)] L21 fun v22 L22 =>
 wpOp F .pick [v14, (.b true), v22] L22 fun v23 L23 =>
 gdOp F v23 false (.fad 0) [v9] L23 fun v24 L24 =>
 gdOp F v23 false (.ld none) [v24] L24 fun v25 L25 =>
 gdOp F v23 false (.un .not) [v25] L25 fun v26 L26 =>
 gdOp F v23 false .mv [v26] L26 fun v27 L27 =>
 gdOp F v27 true (.fad 2) [v9] L27 fun v28 L28 =>
 gdOp F v27 true (.ld none) [v28] L28 fun v29 L29 =>
 gdOp F v27 true (.bin .neq) [v29, (.i .i64 0)] L29 fun v30 L30 =>
 gdOp F v23 false .pick [v27, v30, (.b false)] L30 fun v31 L31 =>
 wpOp F .pick [v23, (.b true), v31] L31 fun v32 L32 =>
 condW v32
 (fin1 (some (.b false)) Q L32)
 (wpOp F (.bin .add) [(l 8), (.i .i64 1)] L32 fun v33 L33 =>
 k1 (Env.put (Env.put l 9 v9) 8 v33) L33))
 (D_tarpaulinref1_one_7 F N Q (l 2) L4)
theorem e_tarpaulinref1_one_11 (F : TF) (N : TN) (Q : TQ) (k1 : TK) (l t : Env) (L : Lg) : wp F (q_tarpaulinref1_one_11 N) l t L (fun (l _ : Env) (L : Lg) => k1 l L) (y_tarpaulinref1_one_9 F N Q) (fin [.tmp (.l 4)] Q) = D_tarpaulinref1_one_11 F N Q k1 l L := by kernel_rfl
def q_tarpaulinref1_one_10 (N : TN) : ACode := (.loop (q_tarpaulinref1_one_11 N))
noncomputable def D_tarpaulinref1_one_10 (F : TF) (N : TN) (Q : TQ) (l : Env) (L : Lg) : Prop :=
 loopW (fun l t L k1 => D_tarpaulinref1_one_11 F N Q k1 l L) l L
theorem e_tarpaulinref1_one_10 (F : TF) (N : TN) (Q : TQ) (l t : Env) (L : Lg) : wp F (q_tarpaulinref1_one_10 N) l t L (w_tarpaulinref1_one_6 F N Q) (y_tarpaulinref1_one_9 F N Q) (fin [.tmp (.l 4)] Q) = D_tarpaulinref1_one_10 F N Q l L := wpL (fun l t L k1 => e_tarpaulinref1_one_11 F N Q k1 l t L) (by kernel_rfl)
def q_tarpaulinref1_one_9 (N : TN) : ACode := (.block 3 (q_tarpaulinref1_one_10 N))
theorem e_tarpaulinref1_one_9 (F : TF) (N : TN) (Q : TQ) (l t : Env) (L : Lg) : wp F (q_tarpaulinref1_one_9 N) l t L (w_tarpaulinref1_one_6 F N Q) nE (fin [.tmp (.l 4)] Q) = D_tarpaulinref1_one_10 F N Q l L := wpB (e_tarpaulinref1_one_10 F N Q l t L)
def q_tarpaulinref1_one_8a (N : TN) : ACode := (.reg [⟨.l 8, none, .mv, [.c (.i .i64 0)]⟩])
def q_tarpaulinref1_one_8 (N : TN) : ACode := (.seq (q_tarpaulinref1_one_8a N) (q_tarpaulinref1_one_9 N))
noncomputable def D_tarpaulinref1_one_8 (F : TF) (N : TN) (Q : TQ) (l : Env) (L : Lg) : Prop :=
 D_tarpaulinref1_one_10 F N Q (Env.put l 8 (.i .i64 0)) L
theorem e_tarpaulinref1_one_8 (F : TF) (N : TN) (Q : TQ) (l t : Env) (L : Lg) : wp F (q_tarpaulinref1_one_8 N) l t L (w_tarpaulinref1_one_6 F N Q) nE (fin [.tmp (.l 4)] Q) = D_tarpaulinref1_one_8 F N Q l L := wpS (e_tarpaulinref1_one_9 F N Q) (by kernel_rfl)
def q_tarpaulinref1_one_6 (N : TN) : ACode := (.seq (q_tarpaulinref1_one_8 N) (q_tarpaulinref1_one_7 N))
theorem e_tarpaulinref1_one_6 (F : TF) (N : TN) (Q : TQ) (l t : Env) (L : Lg) : wp F (q_tarpaulinref1_one_6 N) l t L (fin [.tmp (.l 4)] Q) nE (fin [.tmp (.l 4)] Q) = D_tarpaulinref1_one_8 F N Q l L := wpS (e_tarpaulinref1_one_7 F N Q) (e_tarpaulinref1_one_8 F N Q l t L)
def q_tarpaulinref1_one_5a (N : TN) : ACode := (.seq (.reg [⟨.t 73, none, .fad 0, [.l 2]⟩, ⟨.t 74, none, .ld none, [.t 73]⟩, ⟨.t 75, none, .bin .neq, [.t 74, .c (.i .i64 15)]⟩]) (.cond (.t 75) (.seq (.reg [⟨.t 76, none, .fad 4, [.l 2]⟩, ⟨.t 77, none, .ld none, [.t 76]⟩, ⟨.t 78, none, .lenSl, [.t 77]⟩, ⟨.t 79, none, .bin .eql, [.t 78, .c (.i .i64 0)]⟩, ⟨.t 80, none, .mv, [.t 79]⟩, ⟨.t 81, some (.t 80, true), .fad 5, [.l 2]⟩, ⟨.t 82, some (.t 80, true), .ld none, [.t 81]⟩, ⟨.t 83, some (.t 80, true), .un .not, [.t 82]⟩, ⟨.t 84, none, .pick, [.t 80, .t 83, .c (.b false)]⟩, ⟨.l 4, none, .mv, [.t 84]⟩]) .ret) .skip))
def q_tarpaulinref1_one_5 (N : TN) : ACode := (.seq (q_tarpaulinref1_one_5a N) (q_tarpaulinref1_one_6 N))
noncomputable def D_tarpaulinref1_one_5 (F : TF) (N : TN) (Q : TQ) (l : Env) (L : Lg) : Prop :=
 wpOp F (.fad 0) [(l 2)] L fun v1 L1 =>
 wpOp F (.ld none) [v1] L1 fun v2 L2 =>
 wpOp F (.bin .neq) [v2, (.i .i64 15)] L2 fun v3 L3 =>
 condW v3
 (wpOp F (.fad 4) [(l 2)] L3 fun v4 L4 =>
 wpOp F (.ld none) [v4] L4 fun v5 L5 =>
 wpOp F .lenSl [v5] L5 fun v6 L6 =>
 wpOp F (.bin .eql) [v6, (.i .i64 0)] L6 fun v7 L7 =>
 gdOp F v7 true (.fad 5) [(l 2)] L7 fun v8 L8 =>
 gdOp F v7 true (.ld none) [v8] L8 fun v9 L9 =>
 gdOp F v7 true (.un .not) [v9] L9 fun v10 L10 =>
 wpOp F .pick [v7, v10, (.b false)] L10 fun v11 L11 =>
 fin1 (some v11) Q L11)
 (D_tarpaulinref1_one_8 F N Q l L3)
theorem e_tarpaulinref1_one_5 (F : TF) (N : TN) (Q : TQ) (l t : Env) (L : Lg) : wp F (q_tarpaulinref1_one_5 N) l t L (fin [.tmp (.l 4)] Q) nE (fin [.tmp (.l 4)] Q) = D_tarpaulinref1_one_5 F N Q l L := wpS (e_tarpaulinref1_one_6 F N Q) (by kernel_rfl)
def w_tarpaulinref1_one_4 (F : TF) (N : TN) (Q : TQ) : Kn := (fun (l t : Env) (L : Lg) => D_tarpaulinref1_one_5 F N Q l L)
def y_tarpaulinref1_one_13 (F : TF) (N : TN) (Q : TQ) : Nat → Kn := (fun (j : Nat) (l t : Env) (L : Lg) => bif Nat.beq j 0 then (w_tarpaulinref1_one_4 F N Q) l t L else nE j l t L)
def q_tarpaulinref1_one_17 (N : TN) : ACode := (.reg [⟨.t 30, none, .mv, [.l 7]⟩, ⟨.t 31, none, .bin .add, [.t 30, .c (.i .i64 1)]⟩, ⟨.l 7, none, .mv, [.t 31]⟩])
noncomputable def D_tarpaulinref1_one_17 (F : TF) (N : TN) (Q : TQ) (k1 : TK) (l : Env) (L : Lg) : Prop :=
 wpOp F (.bin .add) [(l 7), (.i .i64 1)] L fun v1 L1 =>
 k1 (Env.put l 7 v1) L1
theorem e_tarpaulinref1_one_17 (F : TF) (N : TN) (Q : TQ) (k1 : TK) (l t : Env) (L : Lg) : wp F (q_tarpaulinref1_one_17 N) l t L (fun (l _ : Env) (L : Lg) => k1 l L) (y_tarpaulinref1_one_13 F N Q) (fin [.tmp (.l 4)] Q) = D_tarpaulinref1_one_17 F N Q k1 l L := by kernel_rfl
def w_tarpaulinref1_one_16 (F : TF) (N : TN) (Q : TQ) (k1 : TK) : Kn := (fun (l t : Env) (L : Lg) => D_tarpaulinref1_one_17 F N Q k1 l L)
def y_tarpaulinref1_one_18 (F : TF) (N : TN) (Q : TQ) (k1 : TK) : Nat → Kn := (fun (j : Nat) (l t : Env) (L : Lg) => bif Nat.beq j 1 then (w_tarpaulinref1_one_16 F N Q k1) l t L else (y_tarpaulinref1_one_13 F N Q) j l t L)
def y_tarpaulinref1_one_20 (F : TF) (N : TN) (Q : TQ) (k1 : TK) : Nat → Kn := (fun (j : Nat) (l t : Env) (L : Lg) => bif Nat.beq j 2 then (w_tarpaulinref1_one_16 F N Q k1) l t L else (y_tarpaulinref1_one_18 F N Q k1) j l t L)
def q_tarpaulinref1_one_22 (N : TN) : ACode := (.cond (.t 40) (.seq (.reg [⟨.t 42, none, .mv, [.l 7]⟩, ⟨.t 43, none, .iadA 3 1, [.l 6, .t 42]⟩, ⟨.t 44, none, .ld none, [.t 43]⟩, ⟨.t 45, none, .bin .neq, [.t 44, .c (.i .i64 0)]⟩]) (.cond (.t 45) (.seq (.reg [⟨.l 4, none, .mv, [.c (.b false)]⟩]) .ret) .skip)) (.seq (.reg [⟨.t 47, none, .bin .eql, [.l 34, .c (.i .i64 3)]⟩, ⟨.t 46, none, .mv, [.t 47]⟩]) (.cond (.t 46) (.seq (.reg [⟨.t 48, none, .mv, [.l 7]⟩, ⟨.t 49, none, .iadA 3 1, [.l 6, .t 48]⟩, ⟨.t 50, none, .ld none, [.t 49]⟩, ⟨.t 51, none, .bin .lss, [.t 50, .c (.i .i64 0)]⟩, ⟨.t 52, none, .mv, [.t 51]⟩, ⟨.t 53, some (.t 52, false), .mv, [.l 7]⟩, ⟨.t 54, some (.t 52, false), .iadA 3 1, [.l 6, .t 53]⟩, ⟨.t 55, some (.t 52, false), .ld none, [.t 54]⟩, ⟨.t 56, some (.t 52, false), .mv, [.l 1]⟩, ⟨.t 57, some (.t 52, false), .bin .gtr, [.t 55, .t 56]⟩, ⟨.t 58, none, .pick, [.t 52, .c (.b true), .t 57]⟩]) (.cond (.t 58) (.seq (.reg [⟨.l 4, none, .mv, [.c (.b false)]⟩]) .ret) .skip)) (.seq (.reg [⟨.t 60, none, .bin .eql, [.l 34, .c (.i .i64 4)]⟩, ⟨.t 59, none, .mv, [.t 60]⟩]) (.cond (.t 59) (.seq (.reg [⟨.t 61, none, .mv, [.l 7]⟩, ⟨.t 62, none, .iadA 3 1, [.l 6, .t 61]⟩, ⟨.t 63, none, .ld none, [.t 62]⟩, ⟨.t 64, none, .bin .lss, [.t 63, .c (.i .i64 0)]⟩, ⟨.t 65, none, .mv, [.t 64]⟩, ⟨.t 66, some (.t 65, false), .mv, [.l 7]⟩, ⟨.t 67, some (.t 65, false), .iadA 3 1, [.l 6, .t 66]⟩, ⟨.t 68, some (.t 65, false), .ld none, [.t 67]⟩, ⟨.t 69, some (.t 65, false), .bin .geq, [.t 68, .c (.i .i64 16)]⟩, ⟨.t 70, none, .pick, [.t 65, .c (.b true), .t 69]⟩]) (.cond (.t 70) (.seq (.reg [⟨.l 4, none, .mv, [.c (.b false)]⟩]) .ret) .skip)) (.seq (.reg [⟨.t 72, none, .bin .eql, [.l 34, .c (.i .i64 5)]⟩, ⟨.t 71, none, .mv, [.t 72]⟩]) (.cond (.t 71) .skip (.seq (.reg [⟨.t 35, none, .mv, [.l 7]⟩, ⟨.t 36, none, .iadA 3 1, [.l 6, .t 35]⟩, ⟨.t 37, none, .ld none, [.t 36]⟩, ⟨.t 38, none, .call (N k_tarpaulinref1_reg), [.t 37]⟩, ⟨.t 39, none, .un .not, [.t 38]⟩]) (.cond (.t 39) (.seq (.reg [⟨.l 4, none, .mv, [.c (.b false)]⟩]) .ret) .skip)))))))))
noncomputable def D_tarpaulinref1_one_22 (F : TF) (N : TN) (Q : TQ) (k1 : TK) (l : Env) (t40 : AV) (L : Lg) : Prop :=
 condW t40
 (wpOp F (.iadA 3 1) [(l 6), (l 7)] L fun v1 L1 =>
 wpOp F (.ld none) [v1] L1 fun v2 L2 =>
 wpOp F (.bin .neq) [v2, (.i .i64 0)] L2 fun v3 L3 =>
 condW v3
 (fin1 (some (.b false)) Q L3)
 (D_tarpaulinref1_one_17 F N Q k1 l L3))
 (wpOp F (.bin .eql) [(l 34), (.i .i64 3)] L fun v4 L4 =>
 condW v4
 (wpOp F (.iadA 3 1) [(l 6), (l 7)] L4 fun v5 L5 =>
 wpOp F (.ld none) [v5] L5 fun v6 L6 =>
 wpOp F (.bin .lss) [v6, (.i .i64 0)] L6 fun v7 L7 =>
 gdOp F v7 false .mv [(l 7)] L7 fun v8 L8 =>
 gdOp F v7 false (.iadA 3 1) [(l 6), v8] L8 fun v9 L9 =>
 gdOp F v7 false (.ld none) [v9] L9 fun v10 L10 =>
 gdOp F v7 false .mv [(l 1)] L10 fun v11 L11 =>
 gdOp F v7 false (.bin .gtr) [v10, v11] L11 fun v12 L12 =>
 wpOp F .pick [v7, (.b true), v12] L12 fun v13 L13 =>
 condW v13
 (fin1 (some (.b false)) Q L13)
 (D_tarpaulinref1_one_17 F N Q k1 l L13))
 (wpOp F (.bin .eql) [(l 34), (.i .i64 4)] L4 fun v14 L14 =>
 condW v14
 (wpOp F (.iadA 3 1) [(l 6), (l 7)] L14 fun v15 L15 =>
 wpOp F (.ld none) [v15] L15 fun v16 L16 =>
 wpOp F (.bin .lss) [v16, (.i .i64 0)] L16 fun v17 L17 =>
 gdOp F v17 false .mv [(l 7)] L17 fun v18 L18 =>
 gdOp F v17 false (.iadA 3 1) [(l 6), v18] L18 fun v19 L19 =>
 gdOp F v17 false (.ld none) [v19] L19 fun v20 L20 =>
 gdOp F v17 false (.bin .geq) [v20, (.i .i64 16)] L20 fun v21 L21 =>
 wpOp F .pick [v17, (.b true), v21] L21 fun v22 L22 =>
 condW v22
 (fin1 (some (.b false)) Q L22)
 (D_tarpaulinref1_one_17 F N Q k1 l L22))
 (wpOp F (.bin .eql) [(l 34), (.i .i64 5)] L14 fun v23 L23 =>
 condW v23
 (D_tarpaulinref1_one_17 F N Q k1 l L23)
 (wpOp F (.iadA 3 1) [(l 6), (l 7)] L23 fun v24 L24 =>
 wpOp F (.ld none) [v24] L24 fun v25 L25 =>
 CallL F (N k_tarpaulinref1_reg) [v25] L25 fun v26 L26 =>
 wpOp F (.un .not) [v26] L26 fun v27 L27 =>
 condW v27
 (fin1 (some (.b false)) Q L27)
 (D_tarpaulinref1_one_17 F N Q k1 l L27)))))
theorem e_tarpaulinref1_one_22 (F : TF) (N : TN) (Q : TQ) (k1 : TK) (l t : Env) (L : Lg) : wp F (q_tarpaulinref1_one_22 N) l t L (w_tarpaulinref1_one_16 F N Q k1) (y_tarpaulinref1_one_20 F N Q k1) (fin [.tmp (.l 4)] Q) = D_tarpaulinref1_one_22 F N Q k1 l (t 40) L := by kernel_rfl
def q_tarpaulinref1_one_21a (N : TN) : ACode := (.reg [⟨.t 41, none, .bin .eql, [.l 34, .c (.i .i64 0)]⟩, ⟨.t 40, none, .mv, [.t 41]⟩])
def q_tarpaulinref1_one_21 (N : TN) : ACode := (.seq (q_tarpaulinref1_one_21a N) (q_tarpaulinref1_one_22 N))
noncomputable def D_tarpaulinref1_one_21 (F : TF) (N : TN) (Q : TQ) (k1 : TK) (l : Env) (L : Lg) : Prop :=
 wpOp F (.bin .eql) [(l 34), (.i .i64 0)] L fun v1 L1 =>
 D_tarpaulinref1_one_22 F N Q k1 l v1 L1
theorem e_tarpaulinref1_one_21 (F : TF) (N : TN) (Q : TQ) (k1 : TK) (l t : Env) (L : Lg) : wp F (q_tarpaulinref1_one_21 N) l t L (w_tarpaulinref1_one_16 F N Q k1) (y_tarpaulinref1_one_20 F N Q k1) (fin [.tmp (.l 4)] Q) = D_tarpaulinref1_one_21 F N Q k1 l L := wpS (e_tarpaulinref1_one_22 F N Q k1) (by kernel_rfl)
def q_tarpaulinref1_one_20 (N : TN) : ACode := (.block 2 (q_tarpaulinref1_one_21 N))
theorem e_tarpaulinref1_one_20 (F : TF) (N : TN) (Q : TQ) (k1 : TK) (l t : Env) (L : Lg) : wp F (q_tarpaulinref1_one_20 N) l t L (w_tarpaulinref1_one_16 F N Q k1) (y_tarpaulinref1_one_18 F N Q k1) (fin [.tmp (.l 4)] Q) = D_tarpaulinref1_one_21 F N Q k1 l L := wpB (e_tarpaulinref1_one_21 F N Q k1 l t L)
def q_tarpaulinref1_one_19a (N : TN) : ACode := (.reg [⟨.t 32, none, .mv, [.l 7]⟩, ⟨.t 33, none, .iadA 3 1, [.l 5, .t 32]⟩, ⟨.l 34, none, .ld none, [.t 33]⟩])
def q_tarpaulinref1_one_19 (N : TN) : ACode := (.seq (q_tarpaulinref1_one_19a N) (q_tarpaulinref1_one_20 N))
noncomputable def D_tarpaulinref1_one_19 (F : TF) (N : TN) (Q : TQ) (k1 : TK) (l : Env) (L : Lg) : Prop :=
 wpOp F (.iadA 3 1) [(l 5), (l 7)] L fun v1 L1 =>
 wpOp F (.ld none) [v1] L1 fun v2 L2 =>
 D_tarpaulinref1_one_21 F N Q k1 (Env.put l 34 v2) L2
theorem e_tarpaulinref1_one_19 (F : TF) (N : TN) (Q : TQ) (k1 : TK) (l t : Env) (L : Lg) : wp F (q_tarpaulinref1_one_19 N) l t L (w_tarpaulinref1_one_16 F N Q k1) (y_tarpaulinref1_one_18 F N Q k1) (fin [.tmp (.l 4)] Q) = D_tarpaulinref1_one_19 F N Q k1 l L := wpS (e_tarpaulinref1_one_20 F N Q k1) (by kernel_rfl)
def q_tarpaulinref1_one_18 (N : TN) : ACode := (.block 1 (q_tarpaulinref1_one_19 N))
theorem e_tarpaulinref1_one_18 (F : TF) (N : TN) (Q : TQ) (k1 : TK) (l t : Env) (L : Lg) : wp F (q_tarpaulinref1_one_18 N) l t L (w_tarpaulinref1_one_16 F N Q k1) (y_tarpaulinref1_one_13 F N Q) (fin [.tmp (.l 4)] Q) = D_tarpaulinref1_one_19 F N Q k1 l L := wpB (e_tarpaulinref1_one_19 F N Q k1 l t L)
def q_tarpaulinref1_one_16 (N : TN) : ACode := (.seq (q_tarpaulinref1_one_18 N) (q_tarpaulinref1_one_17 N))
theorem e_tarpaulinref1_one_16 (F : TF) (N : TN) (Q : TQ) (k1 : TK) (l t : Env) (L : Lg) : wp F (q_tarpaulinref1_one_16 N) l t L (fun (l _ : Env) (L : Lg) => k1 l L) (y_tarpaulinref1_one_13 F N Q) (fin [.tmp (.l 4)] Q) = D_tarpaulinref1_one_19 F N Q k1 l L := wpS (e_tarpaulinref1_one_17 F N Q k1) (e_tarpaulinref1_one_18 F N Q k1 l t L)
def q_tarpaulinref1_one_15a (N : TN) : ACode := (.seq (.reg [⟨.t 28, none, .mv, [.l 7]⟩, ⟨.t 29, none, .bin .lss, [.t 28, .c (.i .i64 3)]⟩]) (.cond (.t 29) .skip (.exit 0)))
def q_tarpaulinref1_one_15 (N : TN) : ACode := (.seq (q_tarpaulinref1_one_15a N) (q_tarpaulinref1_one_16 N))
noncomputable def D_tarpaulinref1_one_15 (F : TF) (N : TN) (Q : TQ) (k1 : TK) (l : Env) (L : Lg) : Prop :=
 wpOp F (.bin .lss) [(l 7), (.i .i64 3)] L fun v1 L1 =>
 condW v1
 (D_tarpaulinref1_one_19 F N Q k1 l L1)
 (D_tarpaulinref1_one_5 F N Q l L1)
theorem e_tarpaulinref1_one_15 (F : TF) (N : TN) (Q : TQ) (k1 : TK) (l t : Env) (L : Lg) : wp F (q_tarpaulinref1_one_15 N) l t L (fun (l _ : Env) (L : Lg) => k1 l L) (y_tarpaulinref1_one_13 F N Q) (fin [.tmp (.l 4)] Q) = D_tarpaulinref1_one_15 F N Q k1 l L := wpS (e_tarpaulinref1_one_16 F N Q k1) (by kernel_rfl)
def q_tarpaulinref1_one_14 (N : TN) : ACode := (.loop (q_tarpaulinref1_one_15 N))
noncomputable def D_tarpaulinref1_one_14 (F : TF) (N : TN) (Q : TQ) (l : Env) (L : Lg) : Prop :=
 loopW (fun l t L k1 => D_tarpaulinref1_one_15 F N Q k1 l L) l L
theorem e_tarpaulinref1_one_14 (F : TF) (N : TN) (Q : TQ) (l t : Env) (L : Lg) : wp F (q_tarpaulinref1_one_14 N) l t L (w_tarpaulinref1_one_4 F N Q) (y_tarpaulinref1_one_13 F N Q) (fin [.tmp (.l 4)] Q) = D_tarpaulinref1_one_14 F N Q l L := wpL (fun l t L k1 => e_tarpaulinref1_one_15 F N Q k1 l t L) (by kernel_rfl)
def q_tarpaulinref1_one_13 (N : TN) : ACode := (.block 0 (q_tarpaulinref1_one_14 N))
theorem e_tarpaulinref1_one_13 (F : TF) (N : TN) (Q : TQ) (l t : Env) (L : Lg) : wp F (q_tarpaulinref1_one_13 N) l t L (w_tarpaulinref1_one_4 F N Q) nE (fin [.tmp (.l 4)] Q) = D_tarpaulinref1_one_14 F N Q l L := wpB (e_tarpaulinref1_one_14 F N Q l t L)
def q_tarpaulinref1_one_12a (N : TN) : ACode := (.reg [⟨.l 7, none, .mv, [.c (.i .i64 0)]⟩])
def q_tarpaulinref1_one_12 (N : TN) : ACode := (.seq (q_tarpaulinref1_one_12a N) (q_tarpaulinref1_one_13 N))
noncomputable def D_tarpaulinref1_one_12 (F : TF) (N : TN) (Q : TQ) (l : Env) (L : Lg) : Prop :=
 D_tarpaulinref1_one_14 F N Q (Env.put l 7 (.i .i64 0)) L
theorem e_tarpaulinref1_one_12 (F : TF) (N : TN) (Q : TQ) (l t : Env) (L : Lg) : wp F (q_tarpaulinref1_one_12 N) l t L (w_tarpaulinref1_one_4 F N Q) nE (fin [.tmp (.l 4)] Q) = D_tarpaulinref1_one_12 F N Q l L := wpS (e_tarpaulinref1_one_13 F N Q) (by kernel_rfl)
def q_tarpaulinref1_one_4 (N : TN) : ACode := (.seq (q_tarpaulinref1_one_12 N) (q_tarpaulinref1_one_5 N))
theorem e_tarpaulinref1_one_4 (F : TF) (N : TN) (Q : TQ) (l t : Env) (L : Lg) : wp F (q_tarpaulinref1_one_4 N) l t L (fin [.tmp (.l 4)] Q) nE (fin [.tmp (.l 4)] Q) = D_tarpaulinref1_one_12 F N Q l L := wpS (e_tarpaulinref1_one_5 F N Q) (e_tarpaulinref1_one_12 F N Q l t L)
def q_tarpaulinref1_one_3a (N : TN) : ACode := (.regD [⟨.t 18, none, .fad 0, [.l 2]⟩, ⟨.t 19, none, .ld none, [.t 18]⟩, ⟨.t 20, none, .call (N k_tarpaulinref1_form), [.t 19]⟩, ⟨.t 21, none, .fad 1, [.l 2]⟩, ⟨.t 22, none, .ld none, [.t 21]⟩, ⟨.t 23, none, .fad 2, [.l 2]⟩, ⟨.t 24, none, .ld none, [.t 23]⟩, ⟨.t 25, none, .fad 3, [.l 2]⟩, ⟨.t 26, none, .ld none, [.t 25]⟩, ⟨.t 27, none, .build [.i .i64 0, .i .i64 0, .i .i64 0] [(0, 1), (1, 1), (2, 1)], [.t 22, .t 24, .t 26]⟩, ⟨.l 5, none, .alloc [.i .i64 0, .i .i64 0, .i .i64 0], []⟩, ⟨.l 6, none, .alloc [.i .i64 0, .i .i64 0, .i .i64 0], []⟩, ⟨.no, none, .st 3, [.l 5, .t 20]⟩, ⟨.no, none, .st 3, [.l 6, .t 27]⟩] [(4, 0), (4, 13), (6, 0), (6, 13), (8, 0), (8, 13)])
def q_tarpaulinref1_one_3 (N : TN) : ACode := (.seq (q_tarpaulinref1_one_3a N) (q_tarpaulinref1_one_4 N))
noncomputable def D_tarpaulinref1_one_3 (F : TF) (N : TN) (Q : TQ) (l : Env) (L : Lg) : Prop :=
 wpOp F (.fad 0) [(l 2)] L fun v1 L1 =>
 wpOp F (.ld none) [v1] L1 fun v2 L2 =>
 CallL F (N k_tarpaulinref1_form) [v2] L2 fun v3 L3 =>
 wpOp F (.fad 1) [(l 2)] L3 fun v4 L4 =>
 wpOp F (.ld none) [v4] L4 fun v5 L5 =>
 wpOp F (.fad 2) [(l 2)] L5 fun v6 L6 =>
 wpOp F (.ld none) [v6] L6 fun v7 L7 =>
 wpOp F (.fad 3) [(l 2)] L7 fun v8 L8 =>
 wpOp F (.ld none) [v8] L8 fun v9 L9 =>
 wpOp F (.build [.i .i64 0, .i .i64 0, .i .i64 0] [(0, 1), (1, 1), (2, 1)]) [v5, v7, v9] L9 fun v10 L10 =>
 wpOp F (.alloc [.i .i64 0, .i .i64 0, .i .i64 0]) [] L10 fun v11 L11 =>
 wpOp F (.alloc [.i .i64 0, .i .i64 0, .i .i64 0]) [] L11 fun v12 L12 =>
 wpOp F (.st 3) [v11, v3] L12 fun _ L13 =>
 wpOp F (.st 3) [v12, v10] L13 fun _ L14 =>
 (againV (.ld none) [v4] L4 L ∧ againV (.ld none) [v4] L4 L13 ∧ againV (.ld none) [v6] L6 L ∧ againV (.ld none) [v6] L6 L13 ∧ againV (.ld none) [v8] L8 L ∧ againV (.ld none) [v8] L8 L13 ∧ True) ∧ (D_tarpaulinref1_one_12 F N Q (Env.put (Env.put l 5 v11) 6 v12) L14)
theorem e_tarpaulinref1_one_3 (F : TF) (N : TN) (Q : TQ) (l t : Env) (L : Lg) : wp F (q_tarpaulinref1_one_3 N) l t L (fin [.tmp (.l 4)] Q) nE (fin [.tmp (.l 4)] Q) = D_tarpaulinref1_one_3 F N Q l L := wpS (e_tarpaulinref1_one_4 F N Q) (by kernel_rfl)
def q_tarpaulinref1_one_2a (N : TN) : ACode := (.seq (.reg [⟨.t 10, none, .fad 0, [.l 2]⟩, ⟨.t 11, none, .ld none, [.t 10]⟩, ⟨.t 12, none, .bin .lss, [.t 11, .c (.i .i64 1)]⟩, ⟨.t 13, none, .mv, [.t 12]⟩, ⟨.t 14, some (.t 13, false), .fad 0, [.l 2]⟩, ⟨.t 15, some (.t 13, false), .ld none, [.t 14]⟩, ⟨.t 16, some (.t 13, false), .bin .gtr, [.t 15, .c (.i .i64 32)]⟩, ⟨.t 17, none, .pick, [.t 13, .c (.b true), .t 16]⟩]) (.cond (.t 17) (.seq (.reg [⟨.l 4, none, .mv, [.c (.b false)]⟩]) .ret) .skip))
def q_tarpaulinref1_one_2 (N : TN) : ACode := (.seq (q_tarpaulinref1_one_2a N) (q_tarpaulinref1_one_3 N))
noncomputable def D_tarpaulinref1_one_2 (F : TF) (N : TN) (Q : TQ) (l : Env) (L : Lg) : Prop :=
 wpOp F (.fad 0) [(l 2)] L fun v1 L1 =>
 wpOp F (.ld none) [v1] L1 fun v2 L2 =>
 wpOp F (.bin .lss) [v2, (.i .i64 1)] L2 fun v3 L3 =>
 gdOp F v3 false (.fad 0) [(l 2)] L3 fun v4 L4 =>
 gdOp F v3 false (.ld none) [v4] L4 fun v5 L5 =>
 gdOp F v3 false (.bin .gtr) [v5, (.i .i64 32)] L5 fun v6 L6 =>
 wpOp F .pick [v3, (.b true), v6] L6 fun v7 L7 =>
 condW v7
 (fin1 (some (.b false)) Q L7)
 (D_tarpaulinref1_one_3 F N Q l L7)
theorem e_tarpaulinref1_one_2 (F : TF) (N : TN) (Q : TQ) (l t : Env) (L : Lg) : wp F (q_tarpaulinref1_one_2 N) l t L (fin [.tmp (.l 4)] Q) nE (fin [.tmp (.l 4)] Q) = D_tarpaulinref1_one_2 F N Q l L := wpS (e_tarpaulinref1_one_3 F N Q) (by kernel_rfl)
def q_tarpaulinref1_one_1a (N : TN) : ACode := (.reg [⟨.l 2, none, .box, [.l 0]⟩, ⟨.l 4, none, .mv, [.c (.b false)]⟩])
def q_tarpaulinref1_one_1 (N : TN) : ACode := (.seq (q_tarpaulinref1_one_1a N) (q_tarpaulinref1_one_2 N))
noncomputable def D_tarpaulinref1_one_1 (F : TF) (N : TN) (Q : TQ) (l : Env) (L : Lg) : Prop :=
 wpOp F .box [(l 0)] L fun v1 L1 =>
 D_tarpaulinref1_one_2 F N Q (Env.put (Env.put l 2 v1) 4 (.b false)) L1
theorem e_tarpaulinref1_one_1 (F : TF) (N : TN) (Q : TQ) (l t : Env) (L : Lg) : wp F (q_tarpaulinref1_one_1 N) l t L (fin [.tmp (.l 4)] Q) nE (fin [.tmp (.l 4)] Q) = D_tarpaulinref1_one_1 F N Q l L := wpS (e_tarpaulinref1_one_2 F N Q) (by kernel_rfl)
/-- tarpaulin/tarpaulinref1.one -/
def c_tarpaulinref1_one (N : TN) : AFn := ⟨q_tarpaulinref1_one_1 N, [.tmp (.l 4)]⟩
structure H_tarpaulinref1_one (N : TN) (F : TF) : Prop where
  code : F (N k_tarpaulinref1_one) = some (c_tarpaulinref1_one N)
  tarpaulinref1_form : H_tarpaulinref1_form N F
  tarpaulinref1_reg : H_tarpaulinref1_reg N F
theorem r_tarpaulinref1_one {F : TF} {N : TN} (h : F (N k_tarpaulinref1_one) = some (c_tarpaulinref1_one N)) {Q : TQ} {a0 a1 : AV} {L : Lg} (e : D_tarpaulinref1_one_1 F N Q (initE [a0, a1] 0) L) : CallL F (N k_tarpaulinref1_one) [a0, a1] L Q :=
  CallL.of_wp h (Eq.mpr (Eq.trans (e_tarpaulinref1_one_1 F N Q (initE [a0, a1] 0) Env.nil L) (by kernel_rfl : _ = D_tarpaulinref1_one_1 F N Q (initE [a0, a1] 0) L)) e)
def q_tarpaulinref1_Prog_4 (N : TN) : ACode := (.seq (.reg [⟨.l 2, none, .mv, [.c (.b true)]⟩]) .ret)
noncomputable def D_tarpaulinref1_Prog_4 (F : TF) (N : TN) (Q : TQ) (L : Lg) : Prop :=
 fin1 (some (.b true)) Q L
theorem e_tarpaulinref1_Prog_4 (F : TF) (N : TN) (Q : TQ) (l t : Env) (L : Lg) : wp F (q_tarpaulinref1_Prog_4 N) l t L (fin [.tmp (.l 2)] Q) nE (fin [.tmp (.l 2)] Q) = D_tarpaulinref1_Prog_4 F N Q L := by kernel_rfl
def y_tarpaulinref1_Prog_6 (F : TF) (N : TN) (Q : TQ) : Nat → Kn := (fun (j : Nat) (l t : Env) (L : Lg) => bif Nat.beq j 0 then (fun (l t : Env) (L : Lg) => D_tarpaulinref1_Prog_4 F N Q L) l t L else nE j l t L)
def q_tarpaulinref1_Prog_8 (N : TN) : ACode := (.seq (.seq (.reg [⟨.t 7, none, .mv, [.l 3]⟩, ⟨.t 8, none, .mv, [.l 0]⟩, ⟨.t 9, none, .lenSl, [.t 8]⟩, ⟨.t 10, none, .bin .lss, [.t 7, .t 9]⟩]) (.cond (.t 10) .skip (.exit 0))) (.seq (.block 1 (.seq (.reg [⟨.t 13, none, .mv, [.l 0]⟩, ⟨.t 14, none, .mv, [.l 3]⟩, ⟨.t 15, none, .iad 6, [.t 13, .t 14]⟩, ⟨.t 16, none, .ld (some 6), [.t 15]⟩, ⟨.t 17, none, .mv, [.l 0]⟩, ⟨.t 18, none, .lenSl, [.t 17]⟩, ⟨.t 19, none, .call (N k_tarpaulinref1_one), [.t 16, .t 18]⟩, ⟨.t 20, none, .un .not, [.t 19]⟩]) (.cond (.t 20) (.seq (.reg [⟨.l 2, none, .mv, [.c (.b false)]⟩]) .ret) .skip))) (.reg [⟨.t 11, none, .mv, [.l 3]⟩, ⟨.t 12, none, .bin .add, [.t 11, .c (.i .i64 1)]⟩, ⟨.l 3, none, .mv, [.t 12]⟩])))
noncomputable def D_tarpaulinref1_Prog_8 (F : TF) (N : TN) (Q : TQ) (k1 : TK) (l : Env) (L : Lg) : Prop :=
 wpOp F .lenSl [(l 0)] L fun v1 L1 =>
 wpOp F (.bin .lss) [(l 3), v1] L1 fun v2 L2 =>
 condW v2
 (wpOp F (.iad 6) [(l 0), (l 3)] L2 fun v3 L3 =>
 wpOp F (.ld (some 6)) [v3] L3 fun v4 L4 =>
 wpOp F .lenSl [(l 0)] L4 fun v5 L5 =>
 CallL F (N k_tarpaulinref1_one) [v4, v5] L5 fun v6 L6 =>
 wpOp F (.un .not) [v6] L6 fun v7 L7 =>
 condW v7
 (fin1 (some (.b false)) Q L7)
 (wpOp F (.bin .add) [(l 3), (.i .i64 1)] L7 fun v8 L8 =>
 k1 (Env.put l 3 v8) L8))
 (D_tarpaulinref1_Prog_4 F N Q L2)
theorem e_tarpaulinref1_Prog_8 (F : TF) (N : TN) (Q : TQ) (k1 : TK) (l t : Env) (L : Lg) : wp F (q_tarpaulinref1_Prog_8 N) l t L (fun (l _ : Env) (L : Lg) => k1 l L) (y_tarpaulinref1_Prog_6 F N Q) (fin [.tmp (.l 2)] Q) = D_tarpaulinref1_Prog_8 F N Q k1 l L := by kernel_rfl
def q_tarpaulinref1_Prog_7 (N : TN) : ACode := (.loop (q_tarpaulinref1_Prog_8 N))
noncomputable def D_tarpaulinref1_Prog_7 (F : TF) (N : TN) (Q : TQ) (l : Env) (L : Lg) : Prop :=
 loopW (fun l t L k1 => D_tarpaulinref1_Prog_8 F N Q k1 l L) l L
theorem e_tarpaulinref1_Prog_7 (F : TF) (N : TN) (Q : TQ) (l t : Env) (L : Lg) : wp F (q_tarpaulinref1_Prog_7 N) l t L (fun (l t : Env) (L : Lg) => D_tarpaulinref1_Prog_4 F N Q L) (y_tarpaulinref1_Prog_6 F N Q) (fin [.tmp (.l 2)] Q) = D_tarpaulinref1_Prog_7 F N Q l L := wpL (fun l t L k1 => e_tarpaulinref1_Prog_8 F N Q k1 l t L) (by kernel_rfl)
def q_tarpaulinref1_Prog_6 (N : TN) : ACode := (.block 0 (q_tarpaulinref1_Prog_7 N))
theorem e_tarpaulinref1_Prog_6 (F : TF) (N : TN) (Q : TQ) (l t : Env) (L : Lg) : wp F (q_tarpaulinref1_Prog_6 N) l t L (fun (l t : Env) (L : Lg) => D_tarpaulinref1_Prog_4 F N Q L) nE (fin [.tmp (.l 2)] Q) = D_tarpaulinref1_Prog_7 F N Q l L := wpB (e_tarpaulinref1_Prog_7 F N Q l t L)
def q_tarpaulinref1_Prog_5a (N : TN) : ACode := (.reg [⟨.l 3, none, .mv, [.c (.i .i64 0)]⟩])
def q_tarpaulinref1_Prog_5 (N : TN) : ACode := (.seq (q_tarpaulinref1_Prog_5a N) (q_tarpaulinref1_Prog_6 N))
noncomputable def D_tarpaulinref1_Prog_5 (F : TF) (N : TN) (Q : TQ) (l : Env) (L : Lg) : Prop :=
 D_tarpaulinref1_Prog_7 F N Q (Env.put l 3 (.i .i64 0)) L
theorem e_tarpaulinref1_Prog_5 (F : TF) (N : TN) (Q : TQ) (l t : Env) (L : Lg) : wp F (q_tarpaulinref1_Prog_5 N) l t L (fun (l t : Env) (L : Lg) => D_tarpaulinref1_Prog_4 F N Q L) nE (fin [.tmp (.l 2)] Q) = D_tarpaulinref1_Prog_5 F N Q l L := wpS (e_tarpaulinref1_Prog_6 F N Q) (by kernel_rfl)
def q_tarpaulinref1_Prog_3 (N : TN) : ACode := (.seq (q_tarpaulinref1_Prog_5 N) (q_tarpaulinref1_Prog_4 N))
theorem e_tarpaulinref1_Prog_3 (F : TF) (N : TN) (Q : TQ) (l t : Env) (L : Lg) : wp F (q_tarpaulinref1_Prog_3 N) l t L (fin [.tmp (.l 2)] Q) nE (fin [.tmp (.l 2)] Q) = D_tarpaulinref1_Prog_5 F N Q l L := wpS (e_tarpaulinref1_Prog_4 F N Q) (e_tarpaulinref1_Prog_5 F N Q l t L)
def q_tarpaulinref1_Prog_2a (N : TN) : ACode := (.seq (.reg [⟨.t 4, none, .mv, [.l 0]⟩, ⟨.t 5, none, .lenSl, [.t 4]⟩, ⟨.t 6, none, .bin .gtr, [.t 5, .c (.i .i64 100)]⟩]) (.cond (.t 6) (.seq (.reg [⟨.l 2, none, .mv, [.c (.b false)]⟩]) .ret) .skip))
def q_tarpaulinref1_Prog_2 (N : TN) : ACode := (.seq (q_tarpaulinref1_Prog_2a N) (q_tarpaulinref1_Prog_3 N))
noncomputable def D_tarpaulinref1_Prog_2 (F : TF) (N : TN) (Q : TQ) (l : Env) (L : Lg) : Prop :=
 wpOp F .lenSl [(l 0)] L fun v1 L1 =>
 wpOp F (.bin .gtr) [v1, (.i .i64 100)] L1 fun v2 L2 =>
 condW v2
 (fin1 (some (.b false)) Q L2)
 (D_tarpaulinref1_Prog_5 F N Q l L2)
theorem e_tarpaulinref1_Prog_2 (F : TF) (N : TN) (Q : TQ) (l t : Env) (L : Lg) : wp F (q_tarpaulinref1_Prog_2 N) l t L (fin [.tmp (.l 2)] Q) nE (fin [.tmp (.l 2)] Q) = D_tarpaulinref1_Prog_2 F N Q l L := wpS (e_tarpaulinref1_Prog_3 F N Q) (by kernel_rfl)
def q_tarpaulinref1_Prog_1a (N : TN) : ACode := (.reg [⟨.l 2, none, .mv, [.c (.b false)]⟩])
def q_tarpaulinref1_Prog_1 (N : TN) : ACode := (.seq (q_tarpaulinref1_Prog_1a N) (q_tarpaulinref1_Prog_2 N))
noncomputable def D_tarpaulinref1_Prog_1 (F : TF) (N : TN) (Q : TQ) (l : Env) (L : Lg) : Prop :=
 D_tarpaulinref1_Prog_2 F N Q (Env.put l 2 (.b false)) L
theorem e_tarpaulinref1_Prog_1 (F : TF) (N : TN) (Q : TQ) (l t : Env) (L : Lg) : wp F (q_tarpaulinref1_Prog_1 N) l t L (fin [.tmp (.l 2)] Q) nE (fin [.tmp (.l 2)] Q) = D_tarpaulinref1_Prog_1 F N Q l L := wpS (e_tarpaulinref1_Prog_2 F N Q) (by kernel_rfl)
/-- tarpaulin/tarpaulinref1.Prog -/
def c_tarpaulinref1_Prog (N : TN) : AFn := ⟨q_tarpaulinref1_Prog_1 N, [.tmp (.l 2)]⟩
structure H_tarpaulinref1_Prog (N : TN) (F : TF) : Prop where
  code : F (N k_tarpaulinref1_Prog) = some (c_tarpaulinref1_Prog N)
  tarpaulinref1_one : H_tarpaulinref1_one N F
theorem r_tarpaulinref1_Prog {F : TF} {N : TN} (h : F (N k_tarpaulinref1_Prog) = some (c_tarpaulinref1_Prog N)) {Q : TQ} {a0 : AV} {L : Lg} (e : D_tarpaulinref1_Prog_1 F N Q (initE [a0] 0) L) : CallL F (N k_tarpaulinref1_Prog) [a0] L Q :=
  CallL.of_wp h (Eq.mpr (Eq.trans (e_tarpaulinref1_Prog_1 F N Q (initE [a0] 0) Env.nil L) (by kernel_rfl : _ = D_tarpaulinref1_Prog_1 F N Q (initE [a0] 0) L)) e)
def q_tarpaulinref1_Progs_4 (N : TN) : ACode := (.seq (.reg [⟨.l 2, none, .mv, [.c (.b true)]⟩]) .ret)
noncomputable def D_tarpaulinref1_Progs_4 (F : TF) (N : TN) (Q : TQ) (L : Lg) : Prop :=
 fin1 (some (.b true)) Q L
theorem e_tarpaulinref1_Progs_4 (F : TF) (N : TN) (Q : TQ) (l t : Env) (L : Lg) : wp F (q_tarpaulinref1_Progs_4 N) l t L (fin [.tmp (.l 2)] Q) nE (fin [.tmp (.l 2)] Q) = D_tarpaulinref1_Progs_4 F N Q L := by kernel_rfl
def w_tarpaulinref1_Progs_3 (F : TF) (N : TN) (Q : TQ) : Kn := (fun (l t : Env) (L : Lg) => D_tarpaulinref1_Progs_4 F N Q L)
def y_tarpaulinref1_Progs_6 (F : TF) (N : TN) (Q : TQ) : Nat → Kn := (fun (j : Nat) (l t : Env) (L : Lg) => bif Nat.beq j 0 then (w_tarpaulinref1_Progs_3 F N Q) l t L else nE j l t L)
def q_tarpaulinref1_Progs_10 (N : TN) : ACode := (.reg [⟨.t 18, none, .mv, [.l 3]⟩, ⟨.t 19, none, .bin .add, [.t 18, .c (.i .i64 1)]⟩, ⟨.l 3, none, .mv, [.t 19]⟩])
noncomputable def D_tarpaulinref1_Progs_10 (F : TF) (N : TN) (Q : TQ) (k1 : TK) (l : Env) (L : Lg) : Prop :=
 wpOp F (.bin .add) [(l 3), (.i .i64 1)] L fun v1 L1 =>
 k1 (Env.put l 3 v1) L1
theorem e_tarpaulinref1_Progs_10 (F : TF) (N : TN) (Q : TQ) (k1 : TK) (l t : Env) (L : Lg) : wp F (q_tarpaulinref1_Progs_10 N) l t L (fun (l _ : Env) (L : Lg) => k1 l L) (y_tarpaulinref1_Progs_6 F N Q) (fin [.tmp (.l 2)] Q) = D_tarpaulinref1_Progs_10 F N Q k1 l L := by kernel_rfl
def w_tarpaulinref1_Progs_9 (F : TF) (N : TN) (Q : TQ) (k1 : TK) : Kn := (fun (l t : Env) (L : Lg) => D_tarpaulinref1_Progs_10 F N Q k1 l L)
def y_tarpaulinref1_Progs_11 (F : TF) (N : TN) (Q : TQ) (k1 : TK) : Nat → Kn := (fun (j : Nat) (l t : Env) (L : Lg) => bif Nat.beq j 1 then (w_tarpaulinref1_Progs_9 F N Q k1) l t L else (y_tarpaulinref1_Progs_6 F N Q) j l t L)
def y_tarpaulinref1_Progs_14 (F : TF) (N : TN) (Q : TQ) (k1 : TK) : Nat → Kn := (fun (j : Nat) (l t : Env) (L : Lg) => bif Nat.beq j 2 then (w_tarpaulinref1_Progs_9 F N Q k1) l t L else (y_tarpaulinref1_Progs_11 F N Q k1) j l t L)
def q_tarpaulinref1_Progs_17 (N : TN) : ACode := (.seq (.block 3 (.seq (.reg [⟨.t 35, none, .mv, [.l 0]⟩, ⟨.t 36, none, .mv, [.l 3]⟩, ⟨.t 37, none, .iad 1, [.t 35, .t 36]⟩, ⟨.t 38, none, .ld none, [.t 37]⟩, ⟨.t 39, none, .mv, [.l 4]⟩, ⟨.t 40, none, .iad 6, [.t 38, .t 39]⟩, ⟨.t 41, none, .ld (some 6), [.t 40]⟩, ⟨.l 5, none, .alloc [.i .i64 0, .i .i64 0, .i .i64 0, .i .i64 0, .sl none 0 0 0, .b false], []⟩, ⟨.no, none, .st 6, [.l 5, .t 41]⟩]) (.seq (.reg [⟨.t 42, none, .fad 0, [.l 5]⟩, ⟨.t 43, none, .ld none, [.t 42]⟩, ⟨.t 44, none, .bin .eql, [.t 43, .c (.i .i64 8)]⟩, ⟨.t 45, none, .mv, [.t 44]⟩, ⟨.t 46, some (.t 45, true), .fad 2, [.l 5]⟩, ⟨.t 47, some (.t 45, true), .ld none, [.t 46]⟩, ⟨.t 48, some (.t 45, true), .mv, [.l 0]⟩, ⟨.t 49, some (.t 45, true), .lenSl, [.t 48]⟩, ⟨.t 50, some (.t 45, true), .bin .geq, [.t 47, .t 49]⟩, ⟨.t 51, none, .pick, [.t 45, .t 50, .c (.b false)]⟩, ⟨.t 52, none, .mv, [.t 51]⟩, ⟨.t 53, some (.t 52, false), .fad 0, [.l 5]⟩, ⟨.t 54, some (.t 52, false), .ld none, [.t 53]⟩, ⟨.t 55, some (.t 52, false), .bin .eql, [.t 54, .c (.i .i64 19)]⟩, ⟨.t 56, some (.t 52, false), .mv, [.t 55]⟩, ⟨.t 57, some (.t 56, false), .fad 0, [.l 5]⟩, ⟨.t 58, some (.t 56, false), .ld none, [.t 57]⟩, ⟨.t 59, some (.t 56, false), .bin .eql, [.t 58, .c (.i .i64 31)]⟩, ⟨.t 60, some (.t 52, false), .pick, [.t 56, .c (.b true), .t 59]⟩, ⟨.t 61, some (.t 52, false), .mv, [.t 60]⟩, ⟨.t 62, some (.t 61, true), .fad 3, [.l 5]⟩, ⟨.t 63, some (.t 61, true), .ld none, [.t 62]⟩, ⟨.t 64, some (.t 61, true), .mv, [.l 0]⟩, ⟨.t 65, some (.t 61, true), .lenSl, [.t 64]⟩, ⟨.t 66, some (.t 61, true), .bin .geq, [.t 63, .t 65]⟩, ⟨.t 67, some (.t 52, false), .pick, [.t 61, .t 66, .c (.b false)]⟩, ⟨.t 68, none, .pick, [.t 52, .c (.b true), .t 67]⟩]) (.cond (.t 68) (.seq (.reg [⟨.l 2, none, .mv, [.c (.b false)]⟩]) .ret) .skip)))) (.reg [⟨.t 33, none, .mv, [.l 4]⟩, ⟨.t 34, none, .bin .add, [.t 33, .c (.i .i64 1)]⟩, ⟨.l 4, none, .mv, [.t 34]⟩]))
noncomputable def D_tarpaulinref1_Progs_17 (F : TF) (N : TN) (Q : TQ) (k1 : TK) (k2 : TK) (l : Env) (L : Lg) : Prop :=
 wpOp F (.iad 1) [(l 0), (l 3)] L fun v1 L1 =>
 wpOp F (.ld none) [v1] L1 fun v2 L2 =>
 wpOp F (.iad 6) [v2, (l 4)] L2 fun v3 L3 =>
 wpOp F (.ld (some 6)) [v3] L3 fun v4 L4 =>
 wpOp F (.alloc [.i .i64 0, .i .i64 0, .i .i64 0, .i .i64 0, .sl none 0 0 0, .b false]) [] L4 fun v5 L5 =>
 wpOp F (.st 6) [v5, v4] L5 fun _ L6 =>
 wpOp F (.fad 0) [v5] L6 fun v7 L7 =>
 wpOp F (.ld none) [v7] L7 fun v8 L8 =>
 wpOp F (.bin .eql) [v8, (.i .i64 8)] L8 fun v9 L9 =>
 gdOp F v9 true (.fad 2) [v5] L9 fun v10 L10 =>
 gdOp F v9 true (.ld none) [v10] L10 fun v11 L11 =>
 gdOp F v9 true .mv [(l 0)] L11 fun v12 L12 =>
 gdOp F v9 true .lenSl [v12] L12 fun v13 L13 =>
 gdOp F v9 true (.bin .geq) [v11, v13] L13 fun v14 L14 =>
 wpOp F .pick [v9, v14, (.b false)] L14 fun v15 L15 =>
 gdOp F v15 false (.fad 0) [v5] L15 fun v16 L16 =>
 gdOp F v15 false (.ld none) [v16] L16 fun v17 L17 =>
 gdOp F v15 false (.bin .eql) [v17, (.i .i64 19)] L17 fun v18 L18 =>
 gdOp F v15 false .mv [v18] L18 fun v19 L19 =>
 gdOp F v19 false (.fad 0) [v5] L19 fun v20 L20 =>
 gdOp F v19 false (.ld none) [v20] L20 fun v21 L21 =>
 gdOp F v19 false (.bin .eql) [v21, (.i .i64 31)] L21 fun v22 L22 =>
 gdOp F v15 false .pick [v19, (.b true), v22] L22 fun v23 L23 =>
 gdOp F v15 false .mv [v23] L23 fun v24 L24 =>
 gdOp F v24 true (.fad 3) [v5] L24 fun v25 L25 =>
 gdOp F v24 true (.ld none) [v25] L25 fun v26 L26 =>
 gdOp F v24 true .mv [(l 0)] L26 fun v27 L27 =>
 gdOp F v24 true .lenSl [v27] L27 fun v28 L28 =>
 gdOp F v24 true (.bin .geq) [v26, v28] L28 fun v29 L29 =>
 gdOp F v15 false .pick [v24, v29, (.b false)] L29 fun v30 L30 =>
 wpOp F .pick [v15, (.b true), v30] L30 fun v31 L31 =>
 condW v31
 (fin1 (some (.b false)) Q L31)
 (wpOp F (.bin .add) [(l 4), (.i .i64 1)] L31 fun v32 L32 =>
 k2 (Env.put (Env.put l 5 v5) 4 v32) L32)
theorem e_tarpaulinref1_Progs_17 (F : TF) (N : TN) (Q : TQ) (k1 : TK) (k2 : TK) (l t : Env) (L : Lg) : wp F (q_tarpaulinref1_Progs_17 N) l t L (fun (l _ : Env) (L : Lg) => k2 l L) (y_tarpaulinref1_Progs_14 F N Q k1) (fin [.tmp (.l 2)] Q) = D_tarpaulinref1_Progs_17 F N Q k1 k2 l L := by kernel_rfl
def q_tarpaulinref1_Progs_16a (N : TN) : ACode := (.seq (.reg [⟨.t 26, none, .mv, [.l 4]⟩, ⟨.t 27, none, .mv, [.l 0]⟩, ⟨.t 28, none, .mv, [.l 3]⟩, ⟨.t 29, none, .iad 1, [.t 27, .t 28]⟩, ⟨.t 30, none, .ld none, [.t 29]⟩, ⟨.t 31, none, .lenSl, [.t 30]⟩, ⟨.t 32, none, .bin .lss, [.t 26, .t 31]⟩]) (.cond (.t 32) .skip (.exit 2)))
def q_tarpaulinref1_Progs_16 (N : TN) : ACode := (.seq (q_tarpaulinref1_Progs_16a N) (q_tarpaulinref1_Progs_17 N))
noncomputable def D_tarpaulinref1_Progs_16 (F : TF) (N : TN) (Q : TQ) (k1 : TK) (k2 : TK) (l : Env) (L : Lg) : Prop :=
 wpOp F (.iad 1) [(l 0), (l 3)] L fun v1 L1 =>
 wpOp F (.ld none) [v1] L1 fun v2 L2 =>
 wpOp F .lenSl [v2] L2 fun v3 L3 =>
 wpOp F (.bin .lss) [(l 4), v3] L3 fun v4 L4 =>
 condW v4
 (D_tarpaulinref1_Progs_17 F N Q k1 k2 l L4)
 (D_tarpaulinref1_Progs_10 F N Q k1 l L4)
theorem e_tarpaulinref1_Progs_16 (F : TF) (N : TN) (Q : TQ) (k1 : TK) (k2 : TK) (l t : Env) (L : Lg) : wp F (q_tarpaulinref1_Progs_16 N) l t L (fun (l _ : Env) (L : Lg) => k2 l L) (y_tarpaulinref1_Progs_14 F N Q k1) (fin [.tmp (.l 2)] Q) = D_tarpaulinref1_Progs_16 F N Q k1 k2 l L := wpS (e_tarpaulinref1_Progs_17 F N Q k1 k2) (by kernel_rfl)
def q_tarpaulinref1_Progs_15 (N : TN) : ACode := (.loop (q_tarpaulinref1_Progs_16 N))
noncomputable def D_tarpaulinref1_Progs_15 (F : TF) (N : TN) (Q : TQ) (k1 : TK) (l : Env) (L : Lg) : Prop :=
 loopW (fun l t L k2 => D_tarpaulinref1_Progs_16 F N Q k1 k2 l L) l L
theorem e_tarpaulinref1_Progs_15 (F : TF) (N : TN) (Q : TQ) (k1 : TK) (l t : Env) (L : Lg) : wp F (q_tarpaulinref1_Progs_15 N) l t L (w_tarpaulinref1_Progs_9 F N Q k1) (y_tarpaulinref1_Progs_14 F N Q k1) (fin [.tmp (.l 2)] Q) = D_tarpaulinref1_Progs_15 F N Q k1 l L := wpL (fun l t L k2 => e_tarpaulinref1_Progs_16 F N Q k1 k2 l t L) (by kernel_rfl)
def q_tarpaulinref1_Progs_14 (N : TN) : ACode := (.block 2 (q_tarpaulinref1_Progs_15 N))
theorem e_tarpaulinref1_Progs_14 (F : TF) (N : TN) (Q : TQ) (k1 : TK) (l t : Env) (L : Lg) : wp F (q_tarpaulinref1_Progs_14 N) l t L (w_tarpaulinref1_Progs_9 F N Q k1) (y_tarpaulinref1_Progs_11 F N Q k1) (fin [.tmp (.l 2)] Q) = D_tarpaulinref1_Progs_15 F N Q k1 l L := wpB (e_tarpaulinref1_Progs_15 F N Q k1 l t L)
def q_tarpaulinref1_Progs_13a (N : TN) : ACode := (.reg [⟨.l 4, none, .mv, [.c (.i .i64 0)]⟩])
def q_tarpaulinref1_Progs_13 (N : TN) : ACode := (.seq (q_tarpaulinref1_Progs_13a N) (q_tarpaulinref1_Progs_14 N))
noncomputable def D_tarpaulinref1_Progs_13 (F : TF) (N : TN) (Q : TQ) (k1 : TK) (l : Env) (L : Lg) : Prop :=
 D_tarpaulinref1_Progs_15 F N Q k1 (Env.put l 4 (.i .i64 0)) L
theorem e_tarpaulinref1_Progs_13 (F : TF) (N : TN) (Q : TQ) (k1 : TK) (l t : Env) (L : Lg) : wp F (q_tarpaulinref1_Progs_13 N) l t L (w_tarpaulinref1_Progs_9 F N Q k1) (y_tarpaulinref1_Progs_11 F N Q k1) (fin [.tmp (.l 2)] Q) = D_tarpaulinref1_Progs_13 F N Q k1 l L := wpS (e_tarpaulinref1_Progs_14 F N Q k1) (by kernel_rfl)
def q_tarpaulinref1_Progs_12a (N : TN) : ACode := (.seq (.reg [⟨.t 20, none, .mv, [.l 0]⟩, ⟨.t 21, none, .mv, [.l 3]⟩, ⟨.t 22, none, .iad 1, [.t 20, .t 21]⟩, ⟨.t 23, none, .ld none, [.t 22]⟩, ⟨.t 24, none, .call (N k_tarpaulinref1_Prog), [.t 23]⟩, ⟨.t 25, none, .un .not, [.t 24]⟩]) (.cond (.t 25) (.seq (.reg [⟨.l 2, none, .mv, [.c (.b false)]⟩]) .ret) .skip))
def q_tarpaulinref1_Progs_12 (N : TN) : ACode := (.seq (q_tarpaulinref1_Progs_12a N) (q_tarpaulinref1_Progs_13 N))
noncomputable def D_tarpaulinref1_Progs_12 (F : TF) (N : TN) (Q : TQ) (k1 : TK) (l : Env) (L : Lg) : Prop :=
 wpOp F (.iad 1) [(l 0), (l 3)] L fun v1 L1 =>
 wpOp F (.ld none) [v1] L1 fun v2 L2 =>
 CallL F (N k_tarpaulinref1_Prog) [v2] L2 fun v3 L3 =>
 wpOp F (.un .not) [v3] L3 fun v4 L4 =>
 condW v4
 (fin1 (some (.b false)) Q L4)
 (D_tarpaulinref1_Progs_13 F N Q k1 l L4)
theorem e_tarpaulinref1_Progs_12 (F : TF) (N : TN) (Q : TQ) (k1 : TK) (l t : Env) (L : Lg) : wp F (q_tarpaulinref1_Progs_12 N) l t L (w_tarpaulinref1_Progs_9 F N Q k1) (y_tarpaulinref1_Progs_11 F N Q k1) (fin [.tmp (.l 2)] Q) = D_tarpaulinref1_Progs_12 F N Q k1 l L := wpS (e_tarpaulinref1_Progs_13 F N Q k1) (by kernel_rfl)
def q_tarpaulinref1_Progs_11 (N : TN) : ACode := (.block 1 (q_tarpaulinref1_Progs_12 N))
theorem e_tarpaulinref1_Progs_11 (F : TF) (N : TN) (Q : TQ) (k1 : TK) (l t : Env) (L : Lg) : wp F (q_tarpaulinref1_Progs_11 N) l t L (w_tarpaulinref1_Progs_9 F N Q k1) (y_tarpaulinref1_Progs_6 F N Q) (fin [.tmp (.l 2)] Q) = D_tarpaulinref1_Progs_12 F N Q k1 l L := wpB (e_tarpaulinref1_Progs_12 F N Q k1 l t L)
def q_tarpaulinref1_Progs_9 (N : TN) : ACode := (.seq (q_tarpaulinref1_Progs_11 N) (q_tarpaulinref1_Progs_10 N))
theorem e_tarpaulinref1_Progs_9 (F : TF) (N : TN) (Q : TQ) (k1 : TK) (l t : Env) (L : Lg) : wp F (q_tarpaulinref1_Progs_9 N) l t L (fun (l _ : Env) (L : Lg) => k1 l L) (y_tarpaulinref1_Progs_6 F N Q) (fin [.tmp (.l 2)] Q) = D_tarpaulinref1_Progs_12 F N Q k1 l L := wpS (e_tarpaulinref1_Progs_10 F N Q k1) (e_tarpaulinref1_Progs_11 F N Q k1 l t L)
def q_tarpaulinref1_Progs_8a (N : TN) : ACode := (.seq (.reg [⟨.t 14, none, .mv, [.l 3]⟩, ⟨.t 15, none, .mv, [.l 0]⟩, ⟨.t 16, none, .lenSl, [.t 15]⟩, ⟨.t 17, none, .bin .lss, [.t 14, .t 16]⟩]) (.cond (.t 17) .skip (.exit 0)))
def q_tarpaulinref1_Progs_8 (N : TN) : ACode := (.seq (q_tarpaulinref1_Progs_8a N) (q_tarpaulinref1_Progs_9 N))
noncomputable def D_tarpaulinref1_Progs_8 (F : TF) (N : TN) (Q : TQ) (k1 : TK) (l : Env) (L : Lg) : Prop :=
 wpOp F .lenSl [(l 0)] L fun v1 L1 =>
 wpOp F (.bin .lss) [(l 3), v1] L1 fun v2 L2 =>
 condW v2
 (D_tarpaulinref1_Progs_12 F N Q k1 l L2)
 (D_tarpaulinref1_Progs_4 F N Q L2)
theorem e_tarpaulinref1_Progs_8 (F : TF) (N : TN) (Q : TQ) (k1 : TK) (l t : Env) (L : Lg) : wp F (q_tarpaulinref1_Progs_8 N) l t L (fun (l _ : Env) (L : Lg) => k1 l L) (y_tarpaulinref1_Progs_6 F N Q) (fin [.tmp (.l 2)] Q) = D_tarpaulinref1_Progs_8 F N Q k1 l L := wpS (e_tarpaulinref1_Progs_9 F N Q k1) (by kernel_rfl)
def q_tarpaulinref1_Progs_7 (N : TN) : ACode := (.loop (q_tarpaulinref1_Progs_8 N))
noncomputable def D_tarpaulinref1_Progs_7 (F : TF) (N : TN) (Q : TQ) (l : Env) (L : Lg) : Prop :=
 loopW (fun l t L k1 => D_tarpaulinref1_Progs_8 F N Q k1 l L) l L
theorem e_tarpaulinref1_Progs_7 (F : TF) (N : TN) (Q : TQ) (l t : Env) (L : Lg) : wp F (q_tarpaulinref1_Progs_7 N) l t L (w_tarpaulinref1_Progs_3 F N Q) (y_tarpaulinref1_Progs_6 F N Q) (fin [.tmp (.l 2)] Q) = D_tarpaulinref1_Progs_7 F N Q l L := wpL (fun l t L k1 => e_tarpaulinref1_Progs_8 F N Q k1 l t L) (by kernel_rfl)
def q_tarpaulinref1_Progs_6 (N : TN) : ACode := (.block 0 (q_tarpaulinref1_Progs_7 N))
theorem e_tarpaulinref1_Progs_6 (F : TF) (N : TN) (Q : TQ) (l t : Env) (L : Lg) : wp F (q_tarpaulinref1_Progs_6 N) l t L (w_tarpaulinref1_Progs_3 F N Q) nE (fin [.tmp (.l 2)] Q) = D_tarpaulinref1_Progs_7 F N Q l L := wpB (e_tarpaulinref1_Progs_7 F N Q l t L)
def q_tarpaulinref1_Progs_5a (N : TN) : ACode := (.reg [⟨.l 3, none, .mv, [.c (.i .i64 0)]⟩])
def q_tarpaulinref1_Progs_5 (N : TN) : ACode := (.seq (q_tarpaulinref1_Progs_5a N) (q_tarpaulinref1_Progs_6 N))
noncomputable def D_tarpaulinref1_Progs_5 (F : TF) (N : TN) (Q : TQ) (l : Env) (L : Lg) : Prop :=
 D_tarpaulinref1_Progs_7 F N Q (Env.put l 3 (.i .i64 0)) L
theorem e_tarpaulinref1_Progs_5 (F : TF) (N : TN) (Q : TQ) (l t : Env) (L : Lg) : wp F (q_tarpaulinref1_Progs_5 N) l t L (w_tarpaulinref1_Progs_3 F N Q) nE (fin [.tmp (.l 2)] Q) = D_tarpaulinref1_Progs_5 F N Q l L := wpS (e_tarpaulinref1_Progs_6 F N Q) (by kernel_rfl)
def q_tarpaulinref1_Progs_3 (N : TN) : ACode := (.seq (q_tarpaulinref1_Progs_5 N) (q_tarpaulinref1_Progs_4 N))
theorem e_tarpaulinref1_Progs_3 (F : TF) (N : TN) (Q : TQ) (l t : Env) (L : Lg) : wp F (q_tarpaulinref1_Progs_3 N) l t L (fin [.tmp (.l 2)] Q) nE (fin [.tmp (.l 2)] Q) = D_tarpaulinref1_Progs_5 F N Q l L := wpS (e_tarpaulinref1_Progs_4 F N Q) (e_tarpaulinref1_Progs_5 F N Q l t L)
def q_tarpaulinref1_Progs_2a (N : TN) : ACode := (.seq (.reg [⟨.t 6, none, .mv, [.l 0]⟩, ⟨.t 7, none, .lenSl, [.t 6]⟩, ⟨.t 8, none, .bin .lss, [.t 7, .c (.i .i64 1)]⟩, ⟨.t 9, none, .mv, [.t 8]⟩, ⟨.t 10, some (.t 9, false), .mv, [.l 0]⟩, ⟨.t 11, some (.t 9, false), .lenSl, [.t 10]⟩, ⟨.t 12, some (.t 9, false), .bin .gtr, [.t 11, .c (.i .i64 16)]⟩, ⟨.t 13, none, .pick, [.t 9, .c (.b true), .t 12]⟩]) (.cond (.t 13) (.seq (.reg [⟨.l 2, none, .mv, [.c (.b false)]⟩]) .ret) .skip))
def q_tarpaulinref1_Progs_2 (N : TN) : ACode := (.seq (q_tarpaulinref1_Progs_2a N) (q_tarpaulinref1_Progs_3 N))
noncomputable def D_tarpaulinref1_Progs_2 (F : TF) (N : TN) (Q : TQ) (l : Env) (L : Lg) : Prop :=
 wpOp F .lenSl [(l 0)] L fun v1 L1 =>
 wpOp F (.bin .lss) [v1, (.i .i64 1)] L1 fun v2 L2 =>
 gdOp F v2 false .mv [(l 0)] L2 fun v3 L3 =>
 gdOp F v2 false .lenSl [v3] L3 fun v4 L4 =>
 gdOp F v2 false (.bin .gtr) [v4, (.i .i64 16)] L4 fun v5 L5 =>
 wpOp F .pick [v2, (.b true), v5] L5 fun v6 L6 =>
 condW v6
 (fin1 (some (.b false)) Q L6)
 (D_tarpaulinref1_Progs_5 F N Q l L6)
theorem e_tarpaulinref1_Progs_2 (F : TF) (N : TN) (Q : TQ) (l t : Env) (L : Lg) : wp F (q_tarpaulinref1_Progs_2 N) l t L (fin [.tmp (.l 2)] Q) nE (fin [.tmp (.l 2)] Q) = D_tarpaulinref1_Progs_2 F N Q l L := wpS (e_tarpaulinref1_Progs_3 F N Q) (by kernel_rfl)
def q_tarpaulinref1_Progs_1a (N : TN) : ACode := (.reg [⟨.l 2, none, .mv, [.c (.b false)]⟩])
def q_tarpaulinref1_Progs_1 (N : TN) : ACode := (.seq (q_tarpaulinref1_Progs_1a N) (q_tarpaulinref1_Progs_2 N))
noncomputable def D_tarpaulinref1_Progs_1 (F : TF) (N : TN) (Q : TQ) (l : Env) (L : Lg) : Prop :=
 D_tarpaulinref1_Progs_2 F N Q (Env.put l 2 (.b false)) L
theorem e_tarpaulinref1_Progs_1 (F : TF) (N : TN) (Q : TQ) (l t : Env) (L : Lg) : wp F (q_tarpaulinref1_Progs_1 N) l t L (fin [.tmp (.l 2)] Q) nE (fin [.tmp (.l 2)] Q) = D_tarpaulinref1_Progs_1 F N Q l L := wpS (e_tarpaulinref1_Progs_2 F N Q) (by kernel_rfl)
/-- tarpaulin/tarpaulinref1.Progs -/
def c_tarpaulinref1_Progs (N : TN) : AFn := ⟨q_tarpaulinref1_Progs_1 N, [.tmp (.l 2)]⟩
structure H_tarpaulinref1_Progs (N : TN) (F : TF) : Prop where
  code : F (N k_tarpaulinref1_Progs) = some (c_tarpaulinref1_Progs N)
  tarpaulinref1_Prog : H_tarpaulinref1_Prog N F
theorem r_tarpaulinref1_Progs {F : TF} {N : TN} (h : F (N k_tarpaulinref1_Progs) = some (c_tarpaulinref1_Progs N)) {Q : TQ} {a0 : AV} {L : Lg} (e : D_tarpaulinref1_Progs_1 F N Q (initE [a0] 0) L) : CallL F (N k_tarpaulinref1_Progs) [a0] L Q :=
  CallL.of_wp h (Eq.mpr (Eq.trans (e_tarpaulinref1_Progs_1 F N Q (initE [a0] 0) Env.nil L) (by kernel_rfl : _ = D_tarpaulinref1_Progs_1 F N Q (initE [a0] 0) L)) e)
def q_prog_Name_1 (N : TN) : ACode := (.seq (.reg [⟨.l 2, none, .mv, [.c (.s [])]⟩]) (.seq (.seq (.reg [⟨.t 3, none, .mv, [.l 0]⟩, ⟨.t 4, none, .bin .lss, [.t 3, .c (.i .i64 1)]⟩, ⟨.t 5, none, .mv, [.t 4]⟩, ⟨.t 6, some (.t 5, false), .mv, [.l 0]⟩, ⟨.t 7, some (.t 5, false), .bin .gtr, [.t 6, .c (.i .i64 32)]⟩, ⟨.t 8, none, .pick, [.t 5, .c (.b true), .t 7]⟩]) (.cond (.t 8) (.seq (.reg [⟨.l 2, none, .mv, [.c (.s [])]⟩]) .ret) .skip)) (.seq (.reg [⟨.t 9, none, .call (N k_strings_Fields), [.c (.s [115, 101, 116, 32, 109, 111, 118, 101, 32, 105, 110, 99, 32, 106, 117, 109, 112, 32, 122, 101, 114, 111, 32, 101, 109, 105, 116, 32, 101, 120, 105, 116, 32, 103, 111, 32, 109, 97, 107, 101, 32, 115, 101, 110, 100, 32, 114, 101, 99, 118, 32, 99, 108, 111, 115, 101, 32, 108, 101, 110, 32, 99, 97, 112, 32, 115, 101, 108, 101, 99, 116, 32, 110, 111, 119, 32, 110, 101, 119, 116, 105, 109, 101, 114, 32, 116, 105, 99, 107, 101, 114, 32, 102, 117, 110, 99, 32, 115, 116, 111, 112, 32, 114, 101, 115, 101, 116, 32, 99, 97, 110, 99, 101, 108, 115, 32, 100, 101, 97, 100, 108, 105, 110, 101, 32, 116, 105, 109, 101, 111, 117, 116, 32, 119, 105, 116, 104, 111, 117, 116, 32, 99, 97, 110, 99, 101, 108, 32, 101, 114, 114, 32, 99, 97, 117, 115, 101, 32, 100, 111, 110, 101, 32, 117, 110, 116, 105, 108, 32, 97, 102, 116, 101, 114, 32, 117, 110, 97, 102, 116, 101, 114])]⟩, ⟨.t 10, none, .mv, [.l 0]⟩, ⟨.t 11, none, .bin .sub, [.t 10, .c (.i .i64 1)]⟩, ⟨.t 12, none, .iad 1, [.t 9, .t 11]⟩, ⟨.t 13, none, .ld none, [.t 12]⟩, ⟨.l 2, none, .mv, [.t 13]⟩]) .ret)))
noncomputable def D_prog_Name_1 (F : TF) (N : TN) (Q : TQ) (x0 : AV) (L : Lg) : Prop :=
 wpOp F (.bin .lss) [x0, (.i .i64 1)] L fun v1 L1 =>
 gdOp F v1 false .mv [x0] L1 fun v2 L2 =>
 gdOp F v1 false (.bin .gtr) [v2, (.i .i64 32)] L2 fun v3 L3 =>
 wpOp F .pick [v1, (.b true), v3] L3 fun v4 L4 =>
 condW v4
 (fin1 (some (.s [])) Q L4)
 (CallL F (N k_strings_Fields) [(.s [115, 101, 116, 32, 109, 111, 118, 101, 32, 105, 110, 99, 32, 106, 117, 109, 112, 32, 122, 101, 114, 111, 32, 101, 109, 105, 116, 32, 101, 120, 105, 116, 32, 103, 111, 32, 109, 97, 107, 101, 32, 115, 101, 110, 100, 32, 114, 101, 99, 118, 32, 99, 108, 111, 115, 101, 32, 108, 101, 110, 32, 99, 97, 112, 32, 115, 101, 108, 101, 99, 116, 32, 110, 111, 119, 32, 110, 101, 119, 116, 105, 109, 101, 114, 32, 116, 105, 99, 107, 101, 114, 32, 102, 117, 110, 99, 32, 115, 116, 111, 112, 32, 114, 101, 115, 101, 116, 32, 99, 97, 110, 99, 101, 108, 115, 32, 100, 101, 97, 100, 108, 105, 110, 101, 32, 116, 105, 109, 101, 111, 117, 116, 32, 119, 105, 116, 104, 111, 117, 116, 32, 99, 97, 110, 99, 101, 108, 32, 101, 114, 114, 32, 99, 97, 117, 115, 101, 32, 100, 111, 110, 101, 32, 117, 110, 116, 105, 108, 32, 97, 102, 116, 101, 114, 32, 117, 110, 97, 102, 116, 101, 114])] L4 fun v5 L5 =>
 wpOp F (.bin .sub) [x0, (.i .i64 1)] L5 fun v6 L6 =>
 wpOp F (.iad 1) [v5, v6] L6 fun v7 L7 =>
 wpOp F (.ld none) [v7] L7 fun v8 L8 =>
 fin1 (some v8) Q L8)
theorem e_prog_Name_1 (F : TF) (N : TN) (Q : TQ) (l t : Env) (L : Lg) : wp F (q_prog_Name_1 N) l t L (fin [.tmp (.l 2)] Q) nE (fin [.tmp (.l 2)] Q) = D_prog_Name_1 F N Q (l 0) L := by kernel_rfl
/-- tarpaulin/prog.Name -/
def c_prog_Name (N : TN) : AFn := ⟨q_prog_Name_1 N, [.tmp (.l 2)]⟩
structure H_prog_Name (N : TN) (F : TF) : Prop where
  code : F (N k_prog_Name) = some (c_prog_Name N)
theorem r_prog_Name {F : TF} {N : TN} (h : F (N k_prog_Name) = some (c_prog_Name N)) {Q : TQ} {a0 : AV} {L : Lg} (e : D_prog_Name_1 F N Q a0 L) : CallL F (N k_prog_Name) [a0] L Q :=
  CallL.of_wp h (Eq.mpr (Eq.trans (e_prog_Name_1 F N Q (initE [a0] 0) Env.nil L) (by kernel_rfl : _ = D_prog_Name_1 F N Q a0 L)) e)
def q_tarpaulinref1_Name_1 (N : TN) : ACode := (.seq (.reg [⟨.l 2, none, .mv, [.c (.s [])]⟩]) (.seq (.reg [⟨.t 4, none, .bslice [.s []] 33 1 [0, 1, 2, 3, 4, 5, 6, 7, 8, 9, 10, 11, 12, 13, 14, 15, 16, 17, 18, 19, 20, 21, 22, 23, 24, 25, 26, 27, 28, 29, 30, 31, 32], [.c (.s []), .c (.s [115, 101, 116]), .c (.s [109, 111, 118, 101]), .c (.s [105, 110, 99]), .c (.s [106, 117, 109, 112]), .c (.s [122, 101, 114, 111]), .c (.s [101, 109, 105, 116]), .c (.s [101, 120, 105, 116]), .c (.s [103, 111]), .c (.s [109, 97, 107, 101]), .c (.s [115, 101, 110, 100]), .c (.s [114, 101, 99, 118]), .c (.s [99, 108, 111, 115, 101]), .c (.s [108, 101, 110]), .c (.s [99, 97, 112]), .c (.s [115, 101, 108, 101, 99, 116]), .c (.s [110, 111, 119]), .c (.s [110, 101, 119, 116, 105, 109, 101, 114]), .c (.s [116, 105, 99, 107, 101, 114]), .c (.s [102, 117, 110, 99]), .c (.s [115, 116, 111, 112]), .c (.s [114, 101, 115, 101, 116]), .c (.s [99, 97, 110, 99, 101, 108, 115]), .c (.s [100, 101, 97, 100, 108, 105, 110, 101]), .c (.s [116, 105, 109, 101, 111, 117, 116]), .c (.s [119, 105, 116, 104, 111, 117, 116]), .c (.s [99, 97, 110, 99, 101, 108]), .c (.s [101, 114, 114]), .c (.s [99, 97, 117, 115, 101]), .c (.s [100, 111, 110, 101]), .c (.s [117, 110, 116, 105, 108]), .c (.s [97, 102, 116, 101, 114]), .c (.s [117, 110, 97, 102, 116, 101, 114])]⟩, ⟨.l 3, none, .mv, [.t 4]⟩]) (.seq (.seq (.reg [⟨.t 5, none, .mv, [.l 0]⟩, ⟨.t 6, none, .bin .lss, [.t 5, .c (.i .i64 0)]⟩, ⟨.t 7, none, .mv, [.t 6]⟩, ⟨.t 8, some (.t 7, false), .mv, [.l 0]⟩, ⟨.t 9, some (.t 7, false), .mv, [.l 3]⟩, ⟨.t 10, some (.t 7, false), .lenSl, [.t 9]⟩, ⟨.t 11, some (.t 7, false), .bin .geq, [.t 8, .t 10]⟩, ⟨.t 12, none, .pick, [.t 7, .c (.b true), .t 11]⟩]) (.cond (.t 12) (.seq (.reg [⟨.l 2, none, .mv, [.c (.s [])]⟩]) .ret) .skip)) (.seq (.reg [⟨.t 13, none, .mv, [.l 3]⟩, ⟨.t 14, none, .mv, [.l 0]⟩, ⟨.t 15, none, .iad 1, [.t 13, .t 14]⟩, ⟨.t 16, none, .ld none, [.t 15]⟩, ⟨.l 2, none, .mv, [.t 16]⟩]) .ret))))
noncomputable def D_tarpaulinref1_Name_1 (F : TF) (N : TN) (Q : TQ) (x0 : AV) (L : Lg) : Prop :=
 wpOp F (.bslice [.s []] 33 1 [0, 1, 2, 3, 4, 5, 6, 7, 8, 9, 10, 11, 12, 13, 14, 15, 16, 17, 18, 19, 20, 21, 22, 23, 24, 25, 26, 27, 28, 29, 30, 31, 32]) [(.s []), (.s [115, 101, 116]), (.s [109, 111, 118, 101]), (.s [105, 110, 99]), (.s [106, 117, 109, 112]), (.s [122, 101, 114, 111]), (.s [101, 109, 105, 116]), (.s [101, 120, 105, 116]), (.s [103, 111]), (.s [109, 97, 107, 101]), (.s [115, 101, 110, 100]), (.s [114, 101, 99, 118]), (.s [99, 108, 111, 115, 101]), (.s [108, 101, 110]), (.s [99, 97, 112]), (.s [115, 101, 108, 101, 99, 116]), (.s [110, 111, 119]), (.s [110, 101, 119, 116, 105, 109, 101, 114]), (.s [116, 105, 99, 107, 101, 114]), (.s [102, 117, 110, 99]), (.s [115, 116, 111, 112]), (.s [114, 101, 115, 101, 116]), (.s [99, 97, 110, 99, 101, 108, 115]), (.s [100, 101, 97, 100, 108, 105, 110, 101]), (.s [116, 105, 109, 101, 111, 117, 116]), (.s [119, 105, 116, 104, 111, 117, 116]), (.s [99, 97, 110, 99, 101, 108]), (.s [101, 114, 114]), (.s [99, 97, 117, 115, 101]), (.s [100, 111, 110, 101]), (.s [117, 110, 116, 105, 108]), (.s [97, 102, 116, 101, 114]), (.s [117, 110, 97, 102, 116, 101, 114])] L fun v1 L1 =>
 wpOp F (.bin .lss) [x0, (.i .i64 0)] L1 fun v2 L2 =>
 gdOp F v2 false .mv [x0] L2 fun v3 L3 =>
 gdOp F v2 false .mv [v1] L3 fun v4 L4 =>
 gdOp F v2 false .lenSl [v4] L4 fun v5 L5 =>
 gdOp F v2 false (.bin .geq) [v3, v5] L5 fun v6 L6 =>
 wpOp F .pick [v2, (.b true), v6] L6 fun v7 L7 =>
 condW v7
 (fin1 (some (.s [])) Q L7)
 (wpOp F (.iad 1) [v1, x0] L7 fun v8 L8 =>
 wpOp F (.ld none) [v8] L8 fun v9 L9 =>
 fin1 (some v9) Q L9)
theorem e_tarpaulinref1_Name_1 (F : TF) (N : TN) (Q : TQ) (l t : Env) (L : Lg) : wp F (q_tarpaulinref1_Name_1 N) l t L (fin [.tmp (.l 2)] Q) nE (fin [.tmp (.l 2)] Q) = D_tarpaulinref1_Name_1 F N Q (l 0) L := by kernel_rfl
/-- tarpaulin/tarpaulinref1.Name -/
def c_tarpaulinref1_Name (N : TN) : AFn := ⟨q_tarpaulinref1_Name_1 N, [.tmp (.l 2)]⟩
structure H_tarpaulinref1_Name (N : TN) (F : TF) : Prop where
  code : F (N k_tarpaulinref1_Name) = some (c_tarpaulinref1_Name N)
attribute [local irreducible] wpOp in
theorem r_tarpaulinref1_Name {F : TF} {N : TN} (h : F (N k_tarpaulinref1_Name) = some (c_tarpaulinref1_Name N)) {Q : TQ} {a0 : AV} {L : Lg} (e : D_tarpaulinref1_Name_1 F N Q a0 L) : CallL F (N k_tarpaulinref1_Name) [a0] L Q :=
  CallL.of_wp h (Eq.mpr (Eq.trans (e_tarpaulinref1_Name_1 F N Q (initE [a0] 0) Env.nil L) (by kernel_rfl : _ = D_tarpaulinref1_Name_1 F N Q a0 L)) e)
def q_tarpaulinref1_rising_4 (N : TN) : ACode := (.seq (.reg [⟨.t 16, none, .mv, [.l 3]⟩, ⟨.l 2, none, .mv, [.t 16]⟩]) .ret)
noncomputable def D_tarpaulinref1_rising_4 (F : TF) (N : TN) (Q : TQ) (x3 : AV) (L : Lg) : Prop :=
 fin1 (some x3) Q L
theorem e_tarpaulinref1_rising_4 (F : TF) (N : TN) (Q : TQ) (l t : Env) (L : Lg) : wp F (q_tarpaulinref1_rising_4 N) l t L (fin [.tmp (.l 2)] Q) nE (fin [.tmp (.l 2)] Q) = D_tarpaulinref1_rising_4 F N Q (l 3) L := by kernel_rfl
def w_tarpaulinref1_rising_3 (F : TF) (N : TN) (Q : TQ) : Kn := (fun (l t : Env) (L : Lg) => D_tarpaulinref1_rising_4 F N Q (l 3) L)
def y_tarpaulinref1_rising_6 (F : TF) (N : TN) (Q : TQ) : Nat → Kn := (fun (j : Nat) (l t : Env) (L : Lg) => bif Nat.beq j 0 then (w_tarpaulinref1_rising_3 F N Q) l t L else nE j l t L)
def q_tarpaulinref1_rising_8 (N : TN) : ACode := (.seq (.seq (.reg [⟨.t 5, none, .mv, [.l 4]⟩, ⟨.t 6, none, .bin .lss, [.t 5, .c (.i .i64 8)]⟩]) (.cond (.t 6) .skip (.exit 0))) (.seq (.block 1 (.seq (.reg [⟨.t 9, none, .mv, [.l 4]⟩, ⟨.t 10, none, .iadA 8 1, [.l 1, .t 9]⟩, ⟨.t 11, none, .ld none, [.t 10]⟩]) (.cond (.t 11) (.reg [⟨.t 12, none, .mv, [.l 3]⟩, ⟨.t 13, none, .mv, [.l 4]⟩, ⟨.t 14, none, .bslice [.i .i64 0] 1 1 [0], [.t 13]⟩, ⟨.t 15, none, .app 1 8, [.t 12, .t 14]⟩, ⟨.l 3, none, .mv, [.t 15]⟩]) .skip))) (.reg [⟨.t 7, none, .mv, [.l 4]⟩, ⟨.t 8, none, .bin .add, [.t 7, .c (.i .i64 1)]⟩, ⟨.l 4, none, .mv, [.t 8]⟩])))
noncomputable def D_tarpaulinref1_rising_8 (F : TF) (N : TN) (Q : TQ) (k1 : TK) (l : Env) (L : Lg) : Prop :=
 wpOp F (.bin .lss) [(l 4), (.i .i64 8)] L fun v1 L1 =>
 condW v1
 (wpOp F (.iadA 8 1) [(l 1), (l 4)] L1 fun v2 L2 =>
 wpOp F (.ld none) [v2] L2 fun v3 L3 =>
 condW v3
 (wpOp F (.bslice [.i .i64 0] 1 1 [0]) [(l 4)] L3 fun v4 L4 =>
 wpOp F (.app 1 8) [(l 3), v4] L4 fun v5 L5 =>
 wpOp F (.bin .add) [(l 4), (.i .i64 1)] L5 fun v6 L6 =>
 k1 (Env.put (Env.put l 3 v5) 4 v6) L6)
 (wpOp F (.bin .add) [(l 4), (.i .i64 1)] L3 fun v7 L7 =>
 k1 (Env.put l 4 v7) L7))
 (D_tarpaulinref1_rising_4 F N Q (l 3) L1)
theorem e_tarpaulinref1_rising_8 (F : TF) (N : TN) (Q : TQ) (k1 : TK) (l t : Env) (L : Lg) : wp F (q_tarpaulinref1_rising_8 N) l t L (fun (l _ : Env) (L : Lg) => k1 l L) (y_tarpaulinref1_rising_6 F N Q) (fin [.tmp (.l 2)] Q) = D_tarpaulinref1_rising_8 F N Q k1 l L := by kernel_rfl
def q_tarpaulinref1_rising_7 (N : TN) : ACode := (.loop (q_tarpaulinref1_rising_8 N))
noncomputable def D_tarpaulinref1_rising_7 (F : TF) (N : TN) (Q : TQ) (l : Env) (L : Lg) : Prop :=
 loopW (fun l t L k1 => D_tarpaulinref1_rising_8 F N Q k1 l L) l L
theorem e_tarpaulinref1_rising_7 (F : TF) (N : TN) (Q : TQ) (l t : Env) (L : Lg) : wp F (q_tarpaulinref1_rising_7 N) l t L (w_tarpaulinref1_rising_3 F N Q) (y_tarpaulinref1_rising_6 F N Q) (fin [.tmp (.l 2)] Q) = D_tarpaulinref1_rising_7 F N Q l L := wpL (fun l t L k1 => e_tarpaulinref1_rising_8 F N Q k1 l t L) (by kernel_rfl)
def q_tarpaulinref1_rising_6 (N : TN) : ACode := (.block 0 (q_tarpaulinref1_rising_7 N))
theorem e_tarpaulinref1_rising_6 (F : TF) (N : TN) (Q : TQ) (l t : Env) (L : Lg) : wp F (q_tarpaulinref1_rising_6 N) l t L (w_tarpaulinref1_rising_3 F N Q) nE (fin [.tmp (.l 2)] Q) = D_tarpaulinref1_rising_7 F N Q l L := wpB (e_tarpaulinref1_rising_7 F N Q l t L)
def q_tarpaulinref1_rising_5a (N : TN) : ACode := (.reg [⟨.l 4, none, .mv, [.c (.i .i64 0)]⟩])
def q_tarpaulinref1_rising_5 (N : TN) : ACode := (.seq (q_tarpaulinref1_rising_5a N) (q_tarpaulinref1_rising_6 N))
noncomputable def D_tarpaulinref1_rising_5 (F : TF) (N : TN) (Q : TQ) (l : Env) (L : Lg) : Prop :=
 D_tarpaulinref1_rising_7 F N Q (Env.put l 4 (.i .i64 0)) L
theorem e_tarpaulinref1_rising_5 (F : TF) (N : TN) (Q : TQ) (l t : Env) (L : Lg) : wp F (q_tarpaulinref1_rising_5 N) l t L (w_tarpaulinref1_rising_3 F N Q) nE (fin [.tmp (.l 2)] Q) = D_tarpaulinref1_rising_5 F N Q l L := wpS (e_tarpaulinref1_rising_6 F N Q) (by kernel_rfl)
def q_tarpaulinref1_rising_3 (N : TN) : ACode := (.seq (q_tarpaulinref1_rising_5 N) (q_tarpaulinref1_rising_4 N))
theorem e_tarpaulinref1_rising_3 (F : TF) (N : TN) (Q : TQ) (l t : Env) (L : Lg) : wp F (q_tarpaulinref1_rising_3 N) l t L (fin [.tmp (.l 2)] Q) nE (fin [.tmp (.l 2)] Q) = D_tarpaulinref1_rising_5 F N Q l L := wpS (e_tarpaulinref1_rising_4 F N Q) (e_tarpaulinref1_rising_5 F N Q l t L)
def q_tarpaulinref1_rising_2a (N : TN) : ACode := (.reg [⟨.l 3, none, .mv, [.c (.sl none 0 0 0)]⟩])
def q_tarpaulinref1_rising_2 (N : TN) : ACode := (.seq (q_tarpaulinref1_rising_2a N) (q_tarpaulinref1_rising_3 N))
noncomputable def D_tarpaulinref1_rising_2 (F : TF) (N : TN) (Q : TQ) (l : Env) (L : Lg) : Prop :=
 D_tarpaulinref1_rising_5 F N Q (Env.put l 3 (.sl none 0 0 0)) L
theorem e_tarpaulinref1_rising_2 (F : TF) (N : TN) (Q : TQ) (l t : Env) (L : Lg) : wp F (q_tarpaulinref1_rising_2 N) l t L (fin [.tmp (.l 2)] Q) nE (fin [.tmp (.l 2)] Q) = D_tarpaulinref1_rising_2 F N Q l L := wpS (e_tarpaulinref1_rising_3 F N Q) (by kernel_rfl)
def q_tarpaulinref1_rising_1a (N : TN) : ACode := (.reg [⟨.l 1, none, .box, [.l 0]⟩, ⟨.l 2, none, .mv, [.c (.sl none 0 0 0)]⟩])
def q_tarpaulinref1_rising_1 (N : TN) : ACode := (.seq (q_tarpaulinref1_rising_1a N) (q_tarpaulinref1_rising_2 N))
noncomputable def D_tarpaulinref1_rising_1 (F : TF) (N : TN) (Q : TQ) (l : Env) (L : Lg) : Prop :=
 wpOp F .box [(l 0)] L fun v1 L1 =>
 D_tarpaulinref1_rising_2 F N Q (Env.put (Env.put l 1 v1) 2 (.sl none 0 0 0)) L1
theorem e_tarpaulinref1_rising_1 (F : TF) (N : TN) (Q : TQ) (l t : Env) (L : Lg) : wp F (q_tarpaulinref1_rising_1 N) l t L (fin [.tmp (.l 2)] Q) nE (fin [.tmp (.l 2)] Q) = D_tarpaulinref1_rising_1 F N Q l L := wpS (e_tarpaulinref1_rising_2 F N Q) (by kernel_rfl)
/-- tarpaulin/tarpaulinref1.rising -/
def c_tarpaulinref1_rising (N : TN) : AFn := ⟨q_tarpaulinref1_rising_1 N, [.tmp (.l 2)]⟩
structure H_tarpaulinref1_rising (N : TN) (F : TF) : Prop where
  code : F (N k_tarpaulinref1_rising) = some (c_tarpaulinref1_rising N)
theorem r_tarpaulinref1_rising {F : TF} {N : TN} (h : F (N k_tarpaulinref1_rising) = some (c_tarpaulinref1_rising N)) {Q : TQ} {a0 : AV} {L : Lg} (e : D_tarpaulinref1_rising_1 F N Q (initE [a0] 0) L) : CallL F (N k_tarpaulinref1_rising) [a0] L Q :=
  CallL.of_wp h (Eq.mpr (Eq.trans (e_tarpaulinref1_rising_1 F N Q (initE [a0] 0) Env.nil L) (by kernel_rfl : _ = D_tarpaulinref1_rising_1 F N Q (initE [a0] 0) L)) e)
def q_tarpaulinref1_Reads_7 (N : TN) : ACode := (.seq (.reg [⟨.t 66, none, .ld (some 8), [.l 3]⟩, ⟨.t 67, none, .call (N k_tarpaulinref1_rising), [.t 66]⟩, ⟨.l 2, none, .mv, [.t 67]⟩]) .ret)
noncomputable def D_tarpaulinref1_Reads_7 (F : TF) (N : TN) (Q : TQ) (x3 : AV) (L : Lg) : Prop :=
 wpOp F (.ld (some 8)) [x3] L fun v1 L1 =>
 CallL F (N k_tarpaulinref1_rising) [v1] L1 fun v2 L2 =>
 fin1 (some v2) Q L2
theorem e_tarpaulinref1_Reads_7 (F : TF) (N : TN) (Q : TQ) (l t : Env) (L : Lg) : wp F (q_tarpaulinref1_Reads_7 N) l t L (fin [.tmp (.l 2)] Q) nE (fin [.tmp (.l 2)] Q) = D_tarpaulinref1_Reads_7 F N Q (l 3) L := by kernel_rfl
def w_tarpaulinref1_Reads_6 (F : TF) (N : TN) (Q : TQ) : Kn := (fun (l t : Env) (L : Lg) => D_tarpaulinref1_Reads_7 F N Q (l 3) L)
def y_tarpaulinref1_Reads_9 (F : TF) (N : TN) (Q : TQ) : Nat → Kn := (fun (j : Nat) (l t : Env) (L : Lg) => bif Nat.beq j 2 then (w_tarpaulinref1_Reads_6 F N Q) l t L else nE j l t L)
def q_tarpaulinref1_Reads_11 (N : TN) : ACode := (.seq (.seq (.reg [⟨.t 39, none, .mv, [.l 7]⟩, ⟨.t 40, none, .fad 4, [.l 1]⟩, ⟨.t 41, none, .ld none, [.t 40]⟩, ⟨.t 42, none, .lenSl, [.t 41]⟩, ⟨.t 43, none, .bin .lss, [.t 39, .t 42]⟩]) (.cond (.t 43) .skip (.exit 2))) (.seq (.block 3 (.seq (.reg [⟨.t 46, none, .fad 4, [.l 1]⟩, ⟨.t 47, none, .ld none, [.t 46]⟩, ⟨.t 48, none, .mv, [.l 7]⟩, ⟨.t 49, none, .iad 3, [.t 47, .t 48]⟩, ⟨.t 50, none, .fad 1, [.t 49]⟩, ⟨.t 51, none, .ld none, [.t 50]⟩, ⟨.t 52, none, .iadA 8 1, [.l 3, .t 51]⟩, ⟨.no, none, .st 1, [.t 52, .c (.b true)]⟩]) (.seq (.reg [⟨.t 53, none, .fad 4, [.l 1]⟩, ⟨.t 54, none, .ld none, [.t 53]⟩, ⟨.t 55, none, .mv, [.l 7]⟩, ⟨.t 56, none, .iad 3, [.t 54, .t 55]⟩, ⟨.t 57, none, .fad 0, [.t 56]⟩, ⟨.t 58, none, .ld none, [.t 57]⟩]) (.cond (.t 58) (.reg [⟨.t 59, none, .fad 4, [.l 1]⟩, ⟨.t 60, none, .ld none, [.t 59]⟩, ⟨.t 61, none, .mv, [.l 7]⟩, ⟨.t 62, none, .iad 3, [.t 60, .t 61]⟩, ⟨.t 63, none, .fad 2, [.t 62]⟩, ⟨.t 64, none, .ld none, [.t 63]⟩, ⟨.t 65, none, .iadA 8 1, [.l 3, .t 64]⟩, ⟨.no, none, .st 1, [.t 65, .c (.b true)]⟩]) .skip)))) (.reg [⟨.t 44, none, .mv, [.l 7]⟩, ⟨.t 45, none, .bin .add, [.t 44, .c (.i .i64 1)]⟩, ⟨.l 7, none, .mv, [.t 45]⟩])))
noncomputable def D_tarpaulinref1_Reads_11 (F : TF) (N : TN) (Q : TQ) (k1 : TK) (l : Env) (L : Lg) : Prop :=
 wpOp F (.fad 4) [(l 1)] L fun v1 L1 =>
 wpOp F (.ld none) [v1] L1 fun v2 L2 =>
 wpOp F .lenSl [v2] L2 fun v3 L3 =>
 wpOp F (.bin .lss) [(l 7), v3] L3 fun v4 L4 =>
 condW v4
 (wpOp F (.fad 4) [(l 1)] L4 fun v5 L5 =>
 wpOp F (.ld none) [v5] L5 fun v6 L6 =>
 wpOp F (.iad 3) [v6, (l 7)] L6 fun v7 L7 =>
 wpOp F (.fad 1) [v7] L7 fun v8 L8 =>
 wpOp F (.ld none) [v8] L8 fun v9 L9 =>
 wpOp F (.iadA 8 1) [(l 3), v9] L9 fun v10 L10 =>
 wpOp F (.st 1) [v10, (.b true)] L10 fun _ L11 =>
 wpOp F (.fad 4) [(l 1)] L11 fun v12 L12 =>
 wpOp F (.ld none) [v12] L12 fun v13 L13 =>
 wpOp F (.iad 3) [v13, (l 7)] L13 fun v14 L14 =>
 wpOp F (.fad 0) [v14] L14 fun v15 L15 =>
 wpOp F (.ld none) [v15] L15 fun v16 L16 =>
 condW v16
 (wpOp F (.fad 4) [(l 1)] L16 fun v17 L17 =>
 wpOp F (.ld none) [v17] L17 fun v18 L18 =>
 wpOp F (.iad 3) [v18, (l 7)] L18 fun v19 L19 =>
 wpOp F (.fad 2) [v19] L19 fun v20 L20 =>
 wpOp F (.ld none) [v20] L20 fun v21 L21 =>
 wpOp F (.iadA 8 1) [(l 3), v21] L21 fun v22 L22 =>
 wpOp F (.st 1) [v22, (.b true)] L22 fun _ L23 =>
 wpOp F (.bin .add) [(l 7), (.i .i64 1)] L23 fun v24 L24 =>
 k1 (Env.put l 7 v24) L24)
 (wpOp F (.bin .add) [(l 7), (.i .i64 1)] L16 fun v25 L25 =>
 k1 (Env.put l 7 v25) L25))
 (D_tarpaulinref1_Reads_7 F N Q (l 3) L4)
theorem e_tarpaulinref1_Reads_11 (F : TF) (N : TN) (Q : TQ) (k1 : TK) (l t : Env) (L : Lg) : wp F (q_tarpaulinref1_Reads_11 N) l t L (fun (l _ : Env) (L : Lg) => k1 l L) (y_tarpaulinref1_Reads_9 F N Q) (fin [.tmp (.l 2)] Q) = D_tarpaulinref1_Reads_11 F N Q k1 l L := by kernel_rfl
def q_tarpaulinref1_Reads_10 (N : TN) : ACode := (.loop (q_tarpaulinref1_Reads_11 N))
noncomputable def D_tarpaulinref1_Reads_10 (F : TF) (N : TN) (Q : TQ) (l : Env) (L : Lg) : Prop :=
 loopW (fun l t L k1 => D_tarpaulinref1_Reads_11 F N Q k1 l L) l L
theorem e_tarpaulinref1_Reads_10 (F : TF) (N : TN) (Q : TQ) (l t : Env) (L : Lg) : wp F (q_tarpaulinref1_Reads_10 N) l t L (w_tarpaulinref1_Reads_6 F N Q) (y_tarpaulinref1_Reads_9 F N Q) (fin [.tmp (.l 2)] Q) = D_tarpaulinref1_Reads_10 F N Q l L := wpL (fun l t L k1 => e_tarpaulinref1_Reads_11 F N Q k1 l t L) (by kernel_rfl)
def q_tarpaulinref1_Reads_9 (N : TN) : ACode := (.block 2 (q_tarpaulinref1_Reads_10 N))
theorem e_tarpaulinref1_Reads_9 (F : TF) (N : TN) (Q : TQ) (l t : Env) (L : Lg) : wp F (q_tarpaulinref1_Reads_9 N) l t L (w_tarpaulinref1_Reads_6 F N Q) nE (fin [.tmp (.l 2)] Q) = D_tarpaulinref1_Reads_10 F N Q l L := wpB (e_tarpaulinref1_Reads_10 F N Q l t L)
def q_tarpaulinref1_Reads_8a (N : TN) : ACode := (.reg [⟨.l 7, none, .mv, [.c (.i .i64 0)]⟩])
def q_tarpaulinref1_Reads_8 (N : TN) : ACode := (.seq (q_tarpaulinref1_Reads_8a N) (q_tarpaulinref1_Reads_9 N))
noncomputable def D_tarpaulinref1_Reads_8 (F : TF) (N : TN) (Q : TQ) (l : Env) (L : Lg) : Prop :=
 D_tarpaulinref1_Reads_10 F N Q (Env.put l 7 (.i .i64 0)) L
theorem e_tarpaulinref1_Reads_8 (F : TF) (N : TN) (Q : TQ) (l t : Env) (L : Lg) : wp F (q_tarpaulinref1_Reads_8 N) l t L (w_tarpaulinref1_Reads_6 F N Q) nE (fin [.tmp (.l 2)] Q) = D_tarpaulinref1_Reads_8 F N Q l L := wpS (e_tarpaulinref1_Reads_9 F N Q) (by kernel_rfl)
def q_tarpaulinref1_Reads_6 (N : TN) : ACode := (.seq (q_tarpaulinref1_Reads_8 N) (q_tarpaulinref1_Reads_7 N))
theorem e_tarpaulinref1_Reads_6 (F : TF) (N : TN) (Q : TQ) (l t : Env) (L : Lg) : wp F (q_tarpaulinref1_Reads_6 N) l t L (fin [.tmp (.l 2)] Q) nE (fin [.tmp (.l 2)] Q) = D_tarpaulinref1_Reads_8 F N Q l L := wpS (e_tarpaulinref1_Reads_7 F N Q) (e_tarpaulinref1_Reads_8 F N Q l t L)
def w_tarpaulinref1_Reads_5 (F : TF) (N : TN) (Q : TQ) : Kn := (fun (l t : Env) (L : Lg) => D_tarpaulinref1_Reads_8 F N Q l L)
def y_tarpaulinref1_Reads_13 (F : TF) (N : TN) (Q : TQ) : Nat → Kn := (fun (j : Nat) (l t : Env) (L : Lg) => bif Nat.beq j 0 then (w_tarpaulinref1_Reads_5 F N Q) l t L else nE j l t L)
def q_tarpaulinref1_Reads_15 (N : TN) : ACode := (.seq (.seq (.reg [⟨.t 21, none, .mv, [.l 6]⟩, ⟨.t 22, none, .bin .lss, [.t 21, .c (.i .i64 3)]⟩]) (.cond (.t 22) .skip (.exit 0))) (.seq (.block 1 (.seq (.reg [⟨.t 25, none, .mv, [.l 6]⟩, ⟨.t 26, none, .iadA 3 1, [.l 4, .t 25]⟩, ⟨.t 27, none, .ld none, [.t 26]⟩, ⟨.t 28, none, .bin .eql, [.t 27, .c (.i .i64 1)]⟩, ⟨.t 29, none, .mv, [.t 28]⟩, ⟨.t 30, some (.t 29, false), .mv, [.l 6]⟩, ⟨.t 31, some (.t 29, false), .iadA 3 1, [.l 4, .t 30]⟩, ⟨.t 32, some (.t 29, false), .ld none, [.t 31]⟩, ⟨.t 33, some (.t 29, false), .bin .eql, [.t 32, .c (.i .i64 6)]⟩, ⟨.t 34, none, .pick, [.t 29, .c (.b true), .t 33]⟩]) (.cond (.t 34) (.reg [⟨.t 35, none, .mv, [.l 6]⟩, ⟨.t 36, none, .iadA 3 1, [.l 5, .t 35]⟩, ⟨.t 37, none, .ld none, [.t 36]⟩, ⟨.t 38, none, .iadA 8 1, [.l 3, .t 37]⟩, ⟨.no, none, .st 1, [.t 38, .c (.b true)]⟩]) .skip))) (.reg [⟨.t 23, none, .mv, [.l 6]⟩, ⟨.t 24, none, .bin .add, [.t 23, .c (.i .i64 1)]⟩, ⟨.l 6, none, .mv, [.t 24]⟩])))
noncomputable def D_tarpaulinref1_Reads_15 (F : TF) (N : TN) (Q : TQ) (k1 : TK) (l : Env) (L : Lg) : Prop :=
 wpOp F (.bin .lss) [(l 6), (.i .i64 3)] L fun v1 L1 =>
 condW v1
 (wpOp F (.iadA 3 1) [(l 4), (l 6)] L1 fun v2 L2 =>
 wpOp F (.ld none) [v2] L2 fun v3 L3 =>
 wpOp F (.bin .eql) [v3, (.i .i64 1)] L3 fun v4 L4 =>
 gdOp F v4 false .mv [(l 6)] L4 fun v5 L5 =>
 gdOp F v4 false (.iadA 3 1) [(l 4), v5] L5 fun v6 L6 =>
 gdOp F v4 false (.ld none) [v6] L6 fun v7 L7 =>
 gdOp F v4 false (.bin .eql) [v7, (.i .i64 6)] L7 fun v8 L8 =>
 wpOp F .pick [v4, (.b true), v8] L8 fun v9 L9 =>
 condW v9
 (wpOp F (.iadA 3 1) [(l 5), (l 6)] L9 fun v10 L10 =>
 wpOp F (.ld none) [v10] L10 fun v11 L11 =>
 wpOp F (.iadA 8 1) [(l 3), v11] L11 fun v12 L12 =>
 wpOp F (.st 1) [v12, (.b true)] L12 fun _ L13 =>
 wpOp F (.bin .add) [(l 6), (.i .i64 1)] L13 fun v14 L14 =>
 k1 (Env.put l 6 v14) L14)
 (wpOp F (.bin .add) [(l 6), (.i .i64 1)] L9 fun v15 L15 =>
 k1 (Env.put l 6 v15) L15))
 (D_tarpaulinref1_Reads_8 F N Q l L1)
theorem e_tarpaulinref1_Reads_15 (F : TF) (N : TN) (Q : TQ) (k1 : TK) (l t : Env) (L : Lg) : wp F (q_tarpaulinref1_Reads_15 N) l t L (fun (l _ : Env) (L : Lg) => k1 l L) (y_tarpaulinref1_Reads_13 F N Q) (fin [.tmp (.l 2)] Q) = D_tarpaulinref1_Reads_15 F N Q k1 l L := by kernel_rfl
def q_tarpaulinref1_Reads_14 (N : TN) : ACode := (.loop (q_tarpaulinref1_Reads_15 N))
noncomputable def D_tarpaulinref1_Reads_14 (F : TF) (N : TN) (Q : TQ) (l : Env) (L : Lg) : Prop :=
 loopW (fun l t L k1 => D_tarpaulinref1_Reads_15 F N Q k1 l L) l L
theorem e_tarpaulinref1_Reads_14 (F : TF) (N : TN) (Q : TQ) (l t : Env) (L : Lg) : wp F (q_tarpaulinref1_Reads_14 N) l t L (w_tarpaulinref1_Reads_5 F N Q) (y_tarpaulinref1_Reads_13 F N Q) (fin [.tmp (.l 2)] Q) = D_tarpaulinref1_Reads_14 F N Q l L := wpL (fun l t L k1 => e_tarpaulinref1_Reads_15 F N Q k1 l t L) (by kernel_rfl)
def q_tarpaulinref1_Reads_13 (N : TN) : ACode := (.block 0 (q_tarpaulinref1_Reads_14 N))
theorem e_tarpaulinref1_Reads_13 (F : TF) (N : TN) (Q : TQ) (l t : Env) (L : Lg) : wp F (q_tarpaulinref1_Reads_13 N) l t L (w_tarpaulinref1_Reads_5 F N Q) nE (fin [.tmp (.l 2)] Q) = D_tarpaulinref1_Reads_14 F N Q l L := wpB (e_tarpaulinref1_Reads_14 F N Q l t L)
def q_tarpaulinref1_Reads_12a (N : TN) : ACode := (.reg [⟨.l 6, none, .mv, [.c (.i .i64 0)]⟩])
def q_tarpaulinref1_Reads_12 (N : TN) : ACode := (.seq (q_tarpaulinref1_Reads_12a N) (q_tarpaulinref1_Reads_13 N))
noncomputable def D_tarpaulinref1_Reads_12 (F : TF) (N : TN) (Q : TQ) (l : Env) (L : Lg) : Prop :=
 D_tarpaulinref1_Reads_14 F N Q (Env.put l 6 (.i .i64 0)) L
theorem e_tarpaulinref1_Reads_12 (F : TF) (N : TN) (Q : TQ) (l t : Env) (L : Lg) : wp F (q_tarpaulinref1_Reads_12 N) l t L (w_tarpaulinref1_Reads_5 F N Q) nE (fin [.tmp (.l 2)] Q) = D_tarpaulinref1_Reads_12 F N Q l L := wpS (e_tarpaulinref1_Reads_13 F N Q) (by kernel_rfl)
def q_tarpaulinref1_Reads_5 (N : TN) : ACode := (.seq (q_tarpaulinref1_Reads_12 N) (q_tarpaulinref1_Reads_6 N))
theorem e_tarpaulinref1_Reads_5 (F : TF) (N : TN) (Q : TQ) (l t : Env) (L : Lg) : wp F (q_tarpaulinref1_Reads_5 N) l t L (fin [.tmp (.l 2)] Q) nE (fin [.tmp (.l 2)] Q) = D_tarpaulinref1_Reads_12 F N Q l L := wpS (e_tarpaulinref1_Reads_6 F N Q) (e_tarpaulinref1_Reads_12 F N Q l t L)
def q_tarpaulinref1_Reads_4a (N : TN) : ACode := (.regD [⟨.t 11, none, .fad 0, [.l 1]⟩, ⟨.t 12, none, .ld none, [.t 11]⟩, ⟨.t 13, none, .call (N k_tarpaulinref1_form), [.t 12]⟩, ⟨.t 14, none, .fad 1, [.l 1]⟩, ⟨.t 15, none, .ld none, [.t 14]⟩, ⟨.t 16, none, .fad 2, [.l 1]⟩, ⟨.t 17, none, .ld none, [.t 16]⟩, ⟨.t 18, none, .fad 3, [.l 1]⟩, ⟨.t 19, none, .ld none, [.t 18]⟩, ⟨.t 20, none, .build [.i .i64 0, .i .i64 0, .i .i64 0] [(0, 1), (1, 1), (2, 1)], [.t 15, .t 17, .t 19]⟩, ⟨.l 4, none, .alloc [.i .i64 0, .i .i64 0, .i .i64 0], []⟩, ⟨.l 5, none, .alloc [.i .i64 0, .i .i64 0, .i .i64 0], []⟩, ⟨.no, none, .st 3, [.l 4, .t 13]⟩, ⟨.no, none, .st 3, [.l 5, .t 20]⟩] [(4, 0), (4, 13), (6, 0), (6, 13), (8, 0), (8, 13)])
def q_tarpaulinref1_Reads_4 (N : TN) : ACode := (.seq (q_tarpaulinref1_Reads_4a N) (q_tarpaulinref1_Reads_5 N))
noncomputable def D_tarpaulinref1_Reads_4 (F : TF) (N : TN) (Q : TQ) (l : Env) (L : Lg) : Prop :=
 wpOp F (.fad 0) [(l 1)] L fun v1 L1 =>
 wpOp F (.ld none) [v1] L1 fun v2 L2 =>
 CallL F (N k_tarpaulinref1_form) [v2] L2 fun v3 L3 =>
 wpOp F (.fad 1) [(l 1)] L3 fun v4 L4 =>
 wpOp F (.ld none) [v4] L4 fun v5 L5 =>
 wpOp F (.fad 2) [(l 1)] L5 fun v6 L6 =>
 wpOp F (.ld none) [v6] L6 fun v7 L7 =>
 wpOp F (.fad 3) [(l 1)] L7 fun v8 L8 =>
 wpOp F (.ld none) [v8] L8 fun v9 L9 =>
 wpOp F (.build [.i .i64 0, .i .i64 0, .i .i64 0] [(0, 1), (1, 1), (2, 1)]) [v5, v7, v9] L9 fun v10 L10 =>
 wpOp F (.alloc [.i .i64 0, .i .i64 0, .i .i64 0]) [] L10 fun v11 L11 =>
 wpOp F (.alloc [.i .i64 0, .i .i64 0, .i .i64 0]) [] L11 fun v12 L12 =>
 wpOp F (.st 3) [v11, v3] L12 fun _ L13 =>
 wpOp F (.st 3) [v12, v10] L13 fun _ L14 =>
 (againV (.ld none) [v4] L4 L ∧ againV (.ld none) [v4] L4 L13 ∧ againV (.ld none) [v6] L6 L ∧ againV (.ld none) [v6] L6 L13 ∧ againV (.ld none) [v8] L8 L ∧ againV (.ld none) [v8] L8 L13 ∧ True) ∧ (D_tarpaulinref1_Reads_12 F N Q (Env.put (Env.put l 4 v11) 5 v12) L14)
theorem e_tarpaulinref1_Reads_4 (F : TF) (N : TN) (Q : TQ) (l t : Env) (L : Lg) : wp F (q_tarpaulinref1_Reads_4 N) l t L (fin [.tmp (.l 2)] Q) nE (fin [.tmp (.l 2)] Q) = D_tarpaulinref1_Reads_4 F N Q l L := wpS (e_tarpaulinref1_Reads_5 F N Q) (by kernel_rfl)
def q_tarpaulinref1_Reads_3a (N : TN) : ACode := (.seq (.reg [⟨.t 8, none, .ld (some 6), [.l 1]⟩, ⟨.t 9, none, .call (N k_tarpaulinref1_one), [.t 8, .c (.i .i64 100)]⟩, ⟨.t 10, none, .un .not, [.t 9]⟩]) (.cond (.t 10) (.seq (.reg [⟨.l 2, none, .mv, [.c (.sl none 0 0 0)]⟩]) .ret) .skip))
def q_tarpaulinref1_Reads_3 (N : TN) : ACode := (.seq (q_tarpaulinref1_Reads_3a N) (q_tarpaulinref1_Reads_4 N))
noncomputable def D_tarpaulinref1_Reads_3 (F : TF) (N : TN) (Q : TQ) (l : Env) (L : Lg) : Prop :=
 wpOp F (.ld (some 6)) [(l 1)] L fun v1 L1 =>
 CallL F (N k_tarpaulinref1_one) [v1, (.i .i64 100)] L1 fun v2 L2 =>
 wpOp F (.un .not) [v2] L2 fun v3 L3 =>
 condW v3
 (fin1 (some (.sl none 0 0 0)) Q L3)
 (D_tarpaulinref1_Reads_4 F N Q l L3)
theorem e_tarpaulinref1_Reads_3 (F : TF) (N : TN) (Q : TQ) (l t : Env) (L : Lg) : wp F (q_tarpaulinref1_Reads_3 N) l t L (fin [.tmp (.l 2)] Q) nE (fin [.tmp (.l 2)] Q) = D_tarpaulinref1_Reads_3 F N Q l L := wpS (e_tarpaulinref1_Reads_4 F N Q) (by kernel_rfl)
def q_tarpaulinref1_Reads_2a (N : TN) : ACode := (.reg [⟨.l 3, none, .alloc [.b false, .b false, .b false, .b false, .b false, .b false, .b false, .b false], []⟩])
def q_tarpaulinref1_Reads_2 (N : TN) : ACode := (.seq (q_tarpaulinref1_Reads_2a N) (q_tarpaulinref1_Reads_3 N))
noncomputable def D_tarpaulinref1_Reads_2 (F : TF) (N : TN) (Q : TQ) (l : Env) (L : Lg) : Prop :=
 wpOp F (.alloc [.b false, .b false, .b false, .b false, .b false, .b false, .b false, .b false]) [] L fun v1 L1 =>
 D_tarpaulinref1_Reads_3 F N Q (Env.put l 3 v1) L1
theorem e_tarpaulinref1_Reads_2 (F : TF) (N : TN) (Q : TQ) (l t : Env) (L : Lg) : wp F (q_tarpaulinref1_Reads_2 N) l t L (fin [.tmp (.l 2)] Q) nE (fin [.tmp (.l 2)] Q) = D_tarpaulinref1_Reads_2 F N Q l L := wpS (e_tarpaulinref1_Reads_3 F N Q) (by kernel_rfl)
def q_tarpaulinref1_Reads_1a (N : TN) : ACode := (.reg [⟨.l 1, none, .box, [.l 0]⟩, ⟨.l 2, none, .mv, [.c (.sl none 0 0 0)]⟩])
def q_tarpaulinref1_Reads_1 (N : TN) : ACode := (.seq (q_tarpaulinref1_Reads_1a N) (q_tarpaulinref1_Reads_2 N))
noncomputable def D_tarpaulinref1_Reads_1 (F : TF) (N : TN) (Q : TQ) (l : Env) (L : Lg) : Prop :=
 wpOp F .box [(l 0)] L fun v1 L1 =>
 D_tarpaulinref1_Reads_2 F N Q (Env.put (Env.put l 1 v1) 2 (.sl none 0 0 0)) L1
theorem e_tarpaulinref1_Reads_1 (F : TF) (N : TN) (Q : TQ) (l t : Env) (L : Lg) : wp F (q_tarpaulinref1_Reads_1 N) l t L (fin [.tmp (.l 2)] Q) nE (fin [.tmp (.l 2)] Q) = D_tarpaulinref1_Reads_1 F N Q l L := wpS (e_tarpaulinref1_Reads_2 F N Q) (by kernel_rfl)
/-- tarpaulin/tarpaulinref1.Reads -/
def c_tarpaulinref1_Reads (N : TN) : AFn := ⟨q_tarpaulinref1_Reads_1 N, [.tmp (.l 2)]⟩
structure H_tarpaulinref1_Reads (N : TN) (F : TF) : Prop where
  code : F (N k_tarpaulinref1_Reads) = some (c_tarpaulinref1_Reads N)
  tarpaulinref1_one : H_tarpaulinref1_one N F
  tarpaulinref1_form : H_tarpaulinref1_form N F
  tarpaulinref1_rising : H_tarpaulinref1_rising N F
theorem r_tarpaulinref1_Reads {F : TF} {N : TN} (h : F (N k_tarpaulinref1_Reads) = some (c_tarpaulinref1_Reads N)) {Q : TQ} {a0 : AV} {L : Lg} (e : D_tarpaulinref1_Reads_1 F N Q (initE [a0] 0) L) : CallL F (N k_tarpaulinref1_Reads) [a0] L Q :=
  CallL.of_wp h (Eq.mpr (Eq.trans (e_tarpaulinref1_Reads_1 F N Q (initE [a0] 0) Env.nil L) (by kernel_rfl : _ = D_tarpaulinref1_Reads_1 F N Q (initE [a0] 0) L)) e)
end Go.AM

/- The code of functions, with names for their numbers, and what is left of its weakest preconditions. PRINTED by our printgen.py. -/
set_option linter.unusedVariables false
set_option maxRecDepth 100000
set_option maxHeartbeats 400000
namespace Go.AM
def q_tarpaulinalike_Ints_4 (N : TN) : ACode := (.seq (.reg [⟨.l 4, none, .mv, [.c (.b true)]⟩]) .ret)
noncomputable def D_tarpaulinalike_Ints_4 (F : TF) (N : TN) (Q : TQ) (L : Lg) : Prop :=
 fin1 (some (.b true)) Q L
theorem e_tarpaulinalike_Ints_4 (F : TF) (N : TN) (Q : TQ) (l t : Env) (L : Lg) : wp F (q_tarpaulinalike_Ints_4 N) l t L (fin [.tmp (.l 4)] Q) nE (fin [.tmp (.l 4)] Q) = D_tarpaulinalike_Ints_4 F N Q L := by kernel_rfl
def w_tarpaulinalike_Ints_3 (F : TF) (N : TN) (Q : TQ) : Kn := (fun (l t : Env) (L : Lg) => D_tarpaulinalike_Ints_4 F N Q L)
def y_tarpaulinalike_Ints_6 (F : TF) (N : TN) (Q : TQ) : Nat → Kn := (fun (j : Nat) (l t : Env) (L : Lg) => bif Nat.beq j 0 then (w_tarpaulinalike_Ints_3 F N Q) l t L else nE j l t L)
def q_tarpaulinalike_Ints_8 (N : TN) : ACode := (.seq (.seq (.reg [⟨.t 11, none, .mv, [.l 5]⟩, ⟨.t 12, none, .mv, [.l 0]⟩, ⟨.t 13, none, .lenSl, [.t 12]⟩, ⟨.t 14, none, .bin .lss, [.t 11, .t 13]⟩]) (.cond (.t 14) .skip (.exit 0))) (.seq (.block 1 (.seq (.reg [⟨.t 17, none, .mv, [.l 0]⟩, ⟨.t 18, none, .mv, [.l 5]⟩, ⟨.t 19, none, .iad 1, [.t 17, .t 18]⟩, ⟨.t 20, none, .ld none, [.t 19]⟩, ⟨.t 21, none, .mv, [.l 1]⟩, ⟨.t 22, none, .mv, [.l 5]⟩, ⟨.t 23, none, .iad 1, [.t 21, .t 22]⟩, ⟨.t 24, none, .ld none, [.t 23]⟩, ⟨.t 25, none, .bin .neq, [.t 20, .t 24]⟩]) (.cond (.t 25) (.seq (.reg [⟨.l 4, none, .mv, [.c (.b false)]⟩]) .ret) .skip))) (.reg [⟨.t 15, none, .mv, [.l 5]⟩, ⟨.t 16, none, .bin .add, [.t 15, .c (.i .i64 1)]⟩, ⟨.l 5, none, .mv, [.t 16]⟩])))
noncomputable def D_tarpaulinalike_Ints_8 (F : TF) (N : TN) (Q : TQ) (k1 : TK) (l : Env) (L : Lg) : Prop :=
 wpOp F .lenSl [(l 0)] L fun v1 L1 =>
 wpOp F (.bin .lss) [(l 5), v1] L1 fun v2 L2 =>
 condW v2
 (wpOp F (.iad 1) [(l 0), (l 5)] L2 fun v3 L3 =>
 wpOp F (.ld none) [v3] L3 fun v4 L4 =>
 wpOp F (.iad 1) [(l 1), (l 5)] L4 fun v5 L5 =>
 wpOp F (.ld none) [v5] L5 fun v6 L6 =>
 wpOp F (.bin .neq) [v4, v6] L6 fun v7 L7 =>
 condW v7
 (fin1 (some (.b false)) Q L7)
 (wpOp F (.bin .add) [(l 5), (.i .i64 1)] L7 fun v8 L8 =>
 k1 (Env.put l 5 v8) L8))
 (D_tarpaulinalike_Ints_4 F N Q L2)
theorem e_tarpaulinalike_Ints_8 (F : TF) (N : TN) (Q : TQ) (k1 : TK) (l t : Env) (L : Lg) : wp F (q_tarpaulinalike_Ints_8 N) l t L (fun (l _ : Env) (L : Lg) => k1 l L) (y_tarpaulinalike_Ints_6 F N Q) (fin [.tmp (.l 4)] Q) = D_tarpaulinalike_Ints_8 F N Q k1 l L := by kernel_rfl
def q_tarpaulinalike_Ints_7 (N : TN) : ACode := (.loop (q_tarpaulinalike_Ints_8 N))
noncomputable def D_tarpaulinalike_Ints_7 (F : TF) (N : TN) (Q : TQ) (l : Env) (L : Lg) : Prop :=
 loopW (fun l t L k1 => D_tarpaulinalike_Ints_8 F N Q k1 l L) l L
theorem e_tarpaulinalike_Ints_7 (F : TF) (N : TN) (Q : TQ) (l t : Env) (L : Lg) : wp F (q_tarpaulinalike_Ints_7 N) l t L (w_tarpaulinalike_Ints_3 F N Q) (y_tarpaulinalike_Ints_6 F N Q) (fin [.tmp (.l 4)] Q) = D_tarpaulinalike_Ints_7 F N Q l L := wpL (fun l t L k1 => e_tarpaulinalike_Ints_8 F N Q k1 l t L) (by kernel_rfl)
def q_tarpaulinalike_Ints_6 (N : TN) : ACode := (.block 0 (q_tarpaulinalike_Ints_7 N))
theorem e_tarpaulinalike_Ints_6 (F : TF) (N : TN) (Q : TQ) (l t : Env) (L : Lg) : wp F (q_tarpaulinalike_Ints_6 N) l t L (w_tarpaulinalike_Ints_3 F N Q) nE (fin [.tmp (.l 4)] Q) = D_tarpaulinalike_Ints_7 F N Q l L := wpB (e_tarpaulinalike_Ints_7 F N Q l t L)
def q_tarpaulinalike_Ints_5a (N : TN) : ACode := (.reg [⟨.l 5, none, .mv, [.c (.i .i64 0)]⟩])
def q_tarpaulinalike_Ints_5 (N : TN) : ACode := (.seq (q_tarpaulinalike_Ints_5a N) (q_tarpaulinalike_Ints_6 N))
noncomputable def D_tarpaulinalike_Ints_5 (F : TF) (N : TN) (Q : TQ) (l : Env) (L : Lg) : Prop :=
 D_tarpaulinalike_Ints_7 F N Q (Env.put l 5 (.i .i64 0)) L
theorem e_tarpaulinalike_Ints_5 (F : TF) (N : TN) (Q : TQ) (l t : Env) (L : Lg) : wp F (q_tarpaulinalike_Ints_5 N) l t L (w_tarpaulinalike_Ints_3 F N Q) nE (fin [.tmp (.l 4)] Q) = D_tarpaulinalike_Ints_5 F N Q l L := wpS (e_tarpaulinalike_Ints_6 F N Q) (by kernel_rfl)
def q_tarpaulinalike_Ints_3 (N : TN) : ACode := (.seq (q_tarpaulinalike_Ints_5 N) (q_tarpaulinalike_Ints_4 N))
theorem e_tarpaulinalike_Ints_3 (F : TF) (N : TN) (Q : TQ) (l t : Env) (L : Lg) : wp F (q_tarpaulinalike_Ints_3 N) l t L (fin [.tmp (.l 4)] Q) nE (fin [.tmp (.l 4)] Q) = D_tarpaulinalike_Ints_5 F N Q l L := wpS (e_tarpaulinalike_Ints_4 F N Q) (e_tarpaulinalike_Ints_5 F N Q l t L)
def q_tarpaulinalike_Ints_2a (N : TN) : ACode := (.seq (.reg [⟨.t 6, none, .mv, [.l 0]⟩, ⟨.t 7, none, .lenSl, [.t 6]⟩, ⟨.t 8, none, .mv, [.l 1]⟩, ⟨.t 9, none, .lenSl, [.t 8]⟩, ⟨.t 10, none, .bin .neq, [.t 7, .t 9]⟩]) (.cond (.t 10) (.seq (.reg [⟨.l 4, none, .mv, [.c (.b false)]⟩]) .ret) .skip))
def q_tarpaulinalike_Ints_2 (N : TN) : ACode := (.seq (q_tarpaulinalike_Ints_2a N) (q_tarpaulinalike_Ints_3 N))
noncomputable def D_tarpaulinalike_Ints_2 (F : TF) (N : TN) (Q : TQ) (l : Env) (L : Lg) : Prop :=
 wpOp F .lenSl [(l 0)] L fun v1 L1 =>
 wpOp F .lenSl [(l 1)] L1 fun v2 L2 =>
 wpOp F (.bin .neq) [v1, v2] L2 fun v3 L3 =>
 condW v3
 (fin1 (some (.b false)) Q L3)
 (D_tarpaulinalike_Ints_5 F N Q l L3)
theorem e_tarpaulinalike_Ints_2 (F : TF) (N : TN) (Q : TQ) (l t : Env) (L : Lg) : wp F (q_tarpaulinalike_Ints_2 N) l t L (fin [.tmp (.l 4)] Q) nE (fin [.tmp (.l 4)] Q) = D_tarpaulinalike_Ints_2 F N Q l L := wpS (e_tarpaulinalike_Ints_3 F N Q) (by kernel_rfl)
def q_tarpaulinalike_Ints_1a (N : TN) : ACode := (.reg [⟨.l 4, none, .mv, [.c (.b false)]⟩])
def q_tarpaulinalike_Ints_1 (N : TN) : ACode := (.seq (q_tarpaulinalike_Ints_1a N) (q_tarpaulinalike_Ints_2 N))
noncomputable def D_tarpaulinalike_Ints_1 (F : TF) (N : TN) (Q : TQ) (l : Env) (L : Lg) : Prop :=
 D_tarpaulinalike_Ints_2 F N Q (Env.put l 4 (.b false)) L
theorem e_tarpaulinalike_Ints_1 (F : TF) (N : TN) (Q : TQ) (l t : Env) (L : Lg) : wp F (q_tarpaulinalike_Ints_1 N) l t L (fin [.tmp (.l 4)] Q) nE (fin [.tmp (.l 4)] Q) = D_tarpaulinalike_Ints_1 F N Q l L := wpS (e_tarpaulinalike_Ints_2 F N Q) (by kernel_rfl)
/-- tarpaulin/tarpaulinalike.Ints -/
def c_tarpaulinalike_Ints (N : TN) : AFn := ⟨q_tarpaulinalike_Ints_1 N, [.tmp (.l 4)]⟩
structure H_tarpaulinalike_Ints (N : TN) (F : TF) : Prop where
  code : F (N k_tarpaulinalike_Ints) = some (c_tarpaulinalike_Ints N)
theorem r_tarpaulinalike_Ints {F : TF} {N : TN} (h : F (N k_tarpaulinalike_Ints) = some (c_tarpaulinalike_Ints N)) {Q : TQ} {a0 a1 : AV} {L : Lg} (e : D_tarpaulinalike_Ints_1 F N Q (initE [a0, a1] 0) L) : CallL F (N k_tarpaulinalike_Ints) [a0, a1] L Q :=
  CallL.of_wp h (Eq.mpr (Eq.trans (e_tarpaulinalike_Ints_1 F N Q (initE [a0, a1] 0) Env.nil L) (by kernel_rfl : _ = D_tarpaulinalike_Ints_1 F N Q (initE [a0, a1] 0) L)) e)
def q_tarpaulinref1_Writes_6 (N : TN) : ACode := (.seq (.reg [⟨.t 38, none, .ld (some 8), [.l 3]⟩, ⟨.t 39, none, .call (N k_tarpaulinref1_rising), [.t 38]⟩, ⟨.l 2, none, .mv, [.t 39]⟩]) .ret)
noncomputable def D_tarpaulinref1_Writes_6 (F : TF) (N : TN) (Q : TQ) (x3 : AV) (L : Lg) : Prop :=
 wpOp F (.ld (some 8)) [x3] L fun v1 L1 =>
 CallL F (N k_tarpaulinref1_rising) [v1] L1 fun v2 L2 =>
 fin1 (some v2) Q L2
theorem e_tarpaulinref1_Writes_6 (F : TF) (N : TN) (Q : TQ) (l t : Env) (L : Lg) : wp F (q_tarpaulinref1_Writes_6 N) l t L (fin [.tmp (.l 2)] Q) nE (fin [.tmp (.l 2)] Q) = D_tarpaulinref1_Writes_6 F N Q (l 3) L := by kernel_rfl
def w_tarpaulinref1_Writes_5 (F : TF) (N : TN) (Q : TQ) : Kn := (fun (l t : Env) (L : Lg) => D_tarpaulinref1_Writes_6 F N Q (l 3) L)
def y_tarpaulinref1_Writes_8 (F : TF) (N : TN) (Q : TQ) : Nat → Kn := (fun (j : Nat) (l t : Env) (L : Lg) => bif Nat.beq j 0 then (w_tarpaulinref1_Writes_5 F N Q) l t L else nE j l t L)
def q_tarpaulinref1_Writes_10 (N : TN) : ACode := (.seq (.seq (.reg [⟨.t 20, none, .mv, [.l 6]⟩, ⟨.t 21, none, .bin .lss, [.t 20, .c (.i .i64 3)]⟩]) (.cond (.t 21) .skip (.exit 0))) (.seq (.block 1 (.seq (.reg [⟨.t 24, none, .mv, [.l 6]⟩, ⟨.t 25, none, .iadA 3 1, [.l 4, .t 24]⟩, ⟨.t 26, none, .ld none, [.t 25]⟩, ⟨.t 27, none, .bin .eql, [.t 26, .c (.i .i64 2)]⟩, ⟨.t 28, none, .mv, [.t 27]⟩, ⟨.t 29, some (.t 28, false), .mv, [.l 6]⟩, ⟨.t 30, some (.t 28, false), .iadA 3 1, [.l 4, .t 29]⟩, ⟨.t 31, some (.t 28, false), .ld none, [.t 30]⟩, ⟨.t 32, some (.t 28, false), .bin .eql, [.t 31, .c (.i .i64 6)]⟩, ⟨.t 33, none, .pick, [.t 28, .c (.b true), .t 32]⟩]) (.cond (.t 33) (.reg [⟨.t 34, none, .mv, [.l 6]⟩, ⟨.t 35, none, .iadA 3 1, [.l 5, .t 34]⟩, ⟨.t 36, none, .ld none, [.t 35]⟩, ⟨.t 37, none, .iadA 8 1, [.l 3, .t 36]⟩, ⟨.no, none, .st 1, [.t 37, .c (.b true)]⟩]) .skip))) (.reg [⟨.t 22, none, .mv, [.l 6]⟩, ⟨.t 23, none, .bin .add, [.t 22, .c (.i .i64 1)]⟩, ⟨.l 6, none, .mv, [.t 23]⟩])))
noncomputable def D_tarpaulinref1_Writes_10 (F : TF) (N : TN) (Q : TQ) (k1 : TK) (l : Env) (L : Lg) : Prop :=
 wpOp F (.bin .lss) [(l 6), (.i .i64 3)] L fun v1 L1 =>
 condW v1
 (wpOp F (.iadA 3 1) [(l 4), (l 6)] L1 fun v2 L2 =>
 wpOp F (.ld none) [v2] L2 fun v3 L3 =>
 wpOp F (.bin .eql) [v3, (.i .i64 2)] L3 fun v4 L4 =>
 gdOp F v4 false .mv [(l 6)] L4 fun v5 L5 =>
 gdOp F v4 false (.iadA 3 1) [(l 4), v5] L5 fun v6 L6 =>
 gdOp F v4 false (.ld none) [v6] L6 fun v7 L7 =>
 gdOp F v4 false (.bin .eql) [v7, (.i .i64 6)] L7 fun v8 L8 =>
 wpOp F .pick [v4, (.b true), v8] L8 fun v9 L9 =>
 condW v9
 (wpOp F (.iadA 3 1) [(l 5), (l 6)] L9 fun v10 L10 =>
 wpOp F (.ld none) [v10] L10 fun v11 L11 =>
 wpOp F (.iadA 8 1) [(l 3), v11] L11 fun v12 L12 =>
 wpOp F (.st 1) [v12, (.b true)] L12 fun _ L13 =>
 wpOp F (.bin .add) [(l 6), (.i .i64 1)] L13 fun v14 L14 =>
 k1 (Env.put l 6 v14) L14)
 (wpOp F (.bin .add) [(l 6), (.i .i64 1)] L9 fun v15 L15 =>
 k1 (Env.put l 6 v15) L15))
 (D_tarpaulinref1_Writes_6 F N Q (l 3) L1)
theorem e_tarpaulinref1_Writes_10 (F : TF) (N : TN) (Q : TQ) (k1 : TK) (l t : Env) (L : Lg) : wp F (q_tarpaulinref1_Writes_10 N) l t L (fun (l _ : Env) (L : Lg) => k1 l L) (y_tarpaulinref1_Writes_8 F N Q) (fin [.tmp (.l 2)] Q) = D_tarpaulinref1_Writes_10 F N Q k1 l L := by kernel_rfl
def q_tarpaulinref1_Writes_9 (N : TN) : ACode := (.loop (q_tarpaulinref1_Writes_10 N))
noncomputable def D_tarpaulinref1_Writes_9 (F : TF) (N : TN) (Q : TQ) (l : Env) (L : Lg) : Prop :=
 loopW (fun l t L k1 => D_tarpaulinref1_Writes_10 F N Q k1 l L) l L
theorem e_tarpaulinref1_Writes_9 (F : TF) (N : TN) (Q : TQ) (l t : Env) (L : Lg) : wp F (q_tarpaulinref1_Writes_9 N) l t L (w_tarpaulinref1_Writes_5 F N Q) (y_tarpaulinref1_Writes_8 F N Q) (fin [.tmp (.l 2)] Q) = D_tarpaulinref1_Writes_9 F N Q l L := wpL (fun l t L k1 => e_tarpaulinref1_Writes_10 F N Q k1 l t L) (by kernel_rfl)
def q_tarpaulinref1_Writes_8 (N : TN) : ACode := (.block 0 (q_tarpaulinref1_Writes_9 N))
theorem e_tarpaulinref1_Writes_8 (F : TF) (N : TN) (Q : TQ) (l t : Env) (L : Lg) : wp F (q_tarpaulinref1_Writes_8 N) l t L (w_tarpaulinref1_Writes_5 F N Q) nE (fin [.tmp (.l 2)] Q) = D_tarpaulinref1_Writes_9 F N Q l L := wpB (e_tarpaulinref1_Writes_9 F N Q l t L)
def q_tarpaulinref1_Writes_7a (N : TN) : ACode := (.reg [⟨.l 6, none, .mv, [.c (.i .i64 0)]⟩])
def q_tarpaulinref1_Writes_7 (N : TN) : ACode := (.seq (q_tarpaulinref1_Writes_7a N) (q_tarpaulinref1_Writes_8 N))
noncomputable def D_tarpaulinref1_Writes_7 (F : TF) (N : TN) (Q : TQ) (l : Env) (L : Lg) : Prop :=
 D_tarpaulinref1_Writes_9 F N Q (Env.put l 6 (.i .i64 0)) L
theorem e_tarpaulinref1_Writes_7 (F : TF) (N : TN) (Q : TQ) (l t : Env) (L : Lg) : wp F (q_tarpaulinref1_Writes_7 N) l t L (w_tarpaulinref1_Writes_5 F N Q) nE (fin [.tmp (.l 2)] Q) = D_tarpaulinref1_Writes_7 F N Q l L := wpS (e_tarpaulinref1_Writes_8 F N Q) (by kernel_rfl)
def q_tarpaulinref1_Writes_5 (N : TN) : ACode := (.seq (q_tarpaulinref1_Writes_7 N) (q_tarpaulinref1_Writes_6 N))
theorem e_tarpaulinref1_Writes_5 (F : TF) (N : TN) (Q : TQ) (l t : Env) (L : Lg) : wp F (q_tarpaulinref1_Writes_5 N) l t L (fin [.tmp (.l 2)] Q) nE (fin [.tmp (.l 2)] Q) = D_tarpaulinref1_Writes_7 F N Q l L := wpS (e_tarpaulinref1_Writes_6 F N Q) (e_tarpaulinref1_Writes_7 F N Q l t L)
def q_tarpaulinref1_Writes_4a (N : TN) : ACode := (.regD [⟨.t 10, none, .fad 0, [.l 1]⟩, ⟨.t 11, none, .ld none, [.t 10]⟩, ⟨.t 12, none, .call (N k_tarpaulinref1_form), [.t 11]⟩, ⟨.t 13, none, .fad 1, [.l 1]⟩, ⟨.t 14, none, .ld none, [.t 13]⟩, ⟨.t 15, none, .fad 2, [.l 1]⟩, ⟨.t 16, none, .ld none, [.t 15]⟩, ⟨.t 17, none, .fad 3, [.l 1]⟩, ⟨.t 18, none, .ld none, [.t 17]⟩, ⟨.t 19, none, .build [.i .i64 0, .i .i64 0, .i .i64 0] [(0, 1), (1, 1), (2, 1)], [.t 14, .t 16, .t 18]⟩, ⟨.l 4, none, .alloc [.i .i64 0, .i .i64 0, .i .i64 0], []⟩, ⟨.l 5, none, .alloc [.i .i64 0, .i .i64 0, .i .i64 0], []⟩, ⟨.no, none, .st 3, [.l 4, .t 12]⟩, ⟨.no, none, .st 3, [.l 5, .t 19]⟩] [(4, 0), (4, 13), (6, 0), (6, 13), (8, 0), (8, 13)])
def q_tarpaulinref1_Writes_4 (N : TN) : ACode := (.seq (q_tarpaulinref1_Writes_4a N) (q_tarpaulinref1_Writes_5 N))
noncomputable def D_tarpaulinref1_Writes_4 (F : TF) (N : TN) (Q : TQ) (l : Env) (L : Lg) : Prop :=
 wpOp F (.fad 0) [(l 1)] L fun v1 L1 =>
 wpOp F (.ld none) [v1] L1 fun v2 L2 =>
 CallL F (N k_tarpaulinref1_form) [v2] L2 fun v3 L3 =>
 wpOp F (.fad 1) [(l 1)] L3 fun v4 L4 =>
 wpOp F (.ld none) [v4] L4 fun v5 L5 =>
 wpOp F (.fad 2) [(l 1)] L5 fun v6 L6 =>
 wpOp F (.ld none) [v6] L6 fun v7 L7 =>
 wpOp F (.fad 3) [(l 1)] L7 fun v8 L8 =>
 wpOp F (.ld none) [v8] L8 fun v9 L9 =>
 wpOp F (.build [.i .i64 0, .i .i64 0, .i .i64 0] [(0, 1), (1, 1), (2, 1)]) [v5, v7, v9] L9 fun v10 L10 =>
 wpOp F (.alloc [.i .i64 0, .i .i64 0, .i .i64 0]) [] L10 fun v11 L11 =>
 wpOp F (.alloc [.i .i64 0, .i .i64 0, .i .i64 0]) [] L11 fun v12 L12 =>
 wpOp F (.st 3) [v11, v3] L12 fun _ L13 =>
 wpOp F (.st 3) [v12, v10] L13 fun _ L14 =>
 (againV (.ld none) [v4] L4 L ∧ againV (.ld none) [v4] L4 L13 ∧ againV (.ld none) [v6] L6 L ∧ againV (.ld none) [v6] L6 L13 ∧ againV (.ld none) [v8] L8 L ∧ againV (.ld none) [v8] L8 L13 ∧ True) ∧ (D_tarpaulinref1_Writes_7 F N Q (Env.put (Env.put l 4 v11) 5 v12) L14)
theorem e_tarpaulinref1_Writes_4 (F : TF) (N : TN) (Q : TQ) (l t : Env) (L : Lg) : wp F (q_tarpaulinref1_Writes_4 N) l t L (fin [.tmp (.l 2)] Q) nE (fin [.tmp (.l 2)] Q) = D_tarpaulinref1_Writes_4 F N Q l L := wpS (e_tarpaulinref1_Writes_5 F N Q) (by kernel_rfl)
def q_tarpaulinref1_Writes_3a (N : TN) : ACode := (.seq (.reg [⟨.t 7, none, .ld (some 6), [.l 1]⟩, ⟨.t 8, none, .call (N k_tarpaulinref1_one), [.t 7, .c (.i .i64 100)]⟩, ⟨.t 9, none, .un .not, [.t 8]⟩]) (.cond (.t 9) (.seq (.reg [⟨.l 2, none, .mv, [.c (.sl none 0 0 0)]⟩]) .ret) .skip))
def q_tarpaulinref1_Writes_3 (N : TN) : ACode := (.seq (q_tarpaulinref1_Writes_3a N) (q_tarpaulinref1_Writes_4 N))
noncomputable def D_tarpaulinref1_Writes_3 (F : TF) (N : TN) (Q : TQ) (l : Env) (L : Lg) : Prop :=
 wpOp F (.ld (some 6)) [(l 1)] L fun v1 L1 =>
 CallL F (N k_tarpaulinref1_one) [v1, (.i .i64 100)] L1 fun v2 L2 =>
 wpOp F (.un .not) [v2] L2 fun v3 L3 =>
 condW v3
 (fin1 (some (.sl none 0 0 0)) Q L3)
 (D_tarpaulinref1_Writes_4 F N Q l L3)
theorem e_tarpaulinref1_Writes_3 (F : TF) (N : TN) (Q : TQ) (l t : Env) (L : Lg) : wp F (q_tarpaulinref1_Writes_3 N) l t L (fin [.tmp (.l 2)] Q) nE (fin [.tmp (.l 2)] Q) = D_tarpaulinref1_Writes_3 F N Q l L := wpS (e_tarpaulinref1_Writes_4 F N Q) (by kernel_rfl)
def q_tarpaulinref1_Writes_2a (N : TN) : ACode := (.reg [⟨.l 3, none, .alloc [.b false, .b false, .b false, .b false, .b false, .b false, .b false, .b false], []⟩])
def q_tarpaulinref1_Writes_2 (N : TN) : ACode := (.seq (q_tarpaulinref1_Writes_2a N) (q_tarpaulinref1_Writes_3 N))
noncomputable def D_tarpaulinref1_Writes_2 (F : TF) (N : TN) (Q : TQ) (l : Env) (L : Lg) : Prop :=
 wpOp F (.alloc [.b false, .b false, .b false, .b false, .b false, .b false, .b false, .b false]) [] L fun v1 L1 =>
 D_tarpaulinref1_Writes_3 F N Q (Env.put l 3 v1) L1
theorem e_tarpaulinref1_Writes_2 (F : TF) (N : TN) (Q : TQ) (l t : Env) (L : Lg) : wp F (q_tarpaulinref1_Writes_2 N) l t L (fin [.tmp (.l 2)] Q) nE (fin [.tmp (.l 2)] Q) = D_tarpaulinref1_Writes_2 F N Q l L := wpS (e_tarpaulinref1_Writes_3 F N Q) (by kernel_rfl)
def q_tarpaulinref1_Writes_1a (N : TN) : ACode := (.reg [⟨.l 1, none, .box, [.l 0]⟩, ⟨.l 2, none, .mv, [.c (.sl none 0 0 0)]⟩])
def q_tarpaulinref1_Writes_1 (N : TN) : ACode := (.seq (q_tarpaulinref1_Writes_1a N) (q_tarpaulinref1_Writes_2 N))
noncomputable def D_tarpaulinref1_Writes_1 (F : TF) (N : TN) (Q : TQ) (l : Env) (L : Lg) : Prop :=
 wpOp F .box [(l 0)] L fun v1 L1 =>
 D_tarpaulinref1_Writes_2 F N Q (Env.put (Env.put l 1 v1) 2 (.sl none 0 0 0)) L1
theorem e_tarpaulinref1_Writes_1 (F : TF) (N : TN) (Q : TQ) (l t : Env) (L : Lg) : wp F (q_tarpaulinref1_Writes_1 N) l t L (fin [.tmp (.l 2)] Q) nE (fin [.tmp (.l 2)] Q) = D_tarpaulinref1_Writes_1 F N Q l L := wpS (e_tarpaulinref1_Writes_2 F N Q) (by kernel_rfl)
/-- tarpaulin/tarpaulinref1.Writes -/
def c_tarpaulinref1_Writes (N : TN) : AFn := ⟨q_tarpaulinref1_Writes_1 N, [.tmp (.l 2)]⟩
structure H_tarpaulinref1_Writes (N : TN) (F : TF) : Prop where
  code : F (N k_tarpaulinref1_Writes) = some (c_tarpaulinref1_Writes N)
  tarpaulinref1_one : H_tarpaulinref1_one N F
  tarpaulinref1_form : H_tarpaulinref1_form N F
  tarpaulinref1_rising : H_tarpaulinref1_rising N F
theorem r_tarpaulinref1_Writes {F : TF} {N : TN} (h : F (N k_tarpaulinref1_Writes) = some (c_tarpaulinref1_Writes N)) {Q : TQ} {a0 : AV} {L : Lg} (e : D_tarpaulinref1_Writes_1 F N Q (initE [a0] 0) L) : CallL F (N k_tarpaulinref1_Writes) [a0] L Q :=
  CallL.of_wp h (Eq.mpr (Eq.trans (e_tarpaulinref1_Writes_1 F N Q (initE [a0] 0) Env.nil L) (by kernel_rfl : _ = D_tarpaulinref1_Writes_1 F N Q (initE [a0] 0) L)) e)
def q_tarpaulinlaw4_ProgTells_5 (N : TN) : ACode := (.seq (.reg [⟨.t 99, none, .call (N k_tarpaulinlaw4_awake), []⟩, ⟨.l 4, none, .mv, [.t 99]⟩]) .ret)
noncomputable def D_tarpaulinlaw4_ProgTells_5 (F : TF) (N : TN) (Q : TQ) (L : Lg) : Prop :=
 CallL F (N k_tarpaulinlaw4_awake) [] L fun v1 L1 =>
 fin1 (some v1) Q L1
theorem e_tarpaulinlaw4_ProgTells_5 (F : TF) (N : TN) (Q : TQ) (l t : Env) (L : Lg) : wp F (q_tarpaulinlaw4_ProgTells_5 N) l t L (fin [.tmp (.l 4)] Q) nE (fin [.tmp (.l 4)] Q) = D_tarpaulinlaw4_ProgTells_5 F N Q L := by kernel_rfl
def w_tarpaulinlaw4_ProgTells_4 (F : TF) (N : TN) (Q : TQ) : Kn := (fun (l t : Env) (L : Lg) => D_tarpaulinlaw4_ProgTells_5 F N Q L)
def y_tarpaulinlaw4_ProgTells_7 (F : TF) (N : TN) (Q : TQ) : Nat → Kn := (fun (j : Nat) (l t : Env) (L : Lg) => bif Nat.beq j 0 then (w_tarpaulinlaw4_ProgTells_4 F N Q) l t L else nE j l t L)
def q_tarpaulinlaw4_ProgTells_11 (N : TN) : ACode := (.reg [⟨.t 29, none, .mv, [.l 5]⟩, ⟨.t 30, none, .bin .add, [.t 29, .c (.i .i64 1)]⟩, ⟨.l 5, none, .mv, [.t 30]⟩])
noncomputable def D_tarpaulinlaw4_ProgTells_11 (F : TF) (N : TN) (Q : TQ) (k1 : TK) (l : Env) (L : Lg) : Prop :=
 wpOp F (.bin .add) [(l 5), (.i .i64 1)] L fun v1 L1 =>
 k1 (Env.put l 5 v1) L1
theorem e_tarpaulinlaw4_ProgTells_11 (F : TF) (N : TN) (Q : TQ) (k1 : TK) (l t : Env) (L : Lg) : wp F (q_tarpaulinlaw4_ProgTells_11 N) l t L (fun (l _ : Env) (L : Lg) => k1 l L) (y_tarpaulinlaw4_ProgTells_7 F N Q) (fin [.tmp (.l 4)] Q) = D_tarpaulinlaw4_ProgTells_11 F N Q k1 l L := by kernel_rfl
def w_tarpaulinlaw4_ProgTells_10 (F : TF) (N : TN) (Q : TQ) (k1 : TK) : Kn := (fun (l t : Env) (L : Lg) => D_tarpaulinlaw4_ProgTells_11 F N Q k1 l L)
def y_tarpaulinlaw4_ProgTells_12 (F : TF) (N : TN) (Q : TQ) (k1 : TK) : Nat → Kn := (fun (j : Nat) (l t : Env) (L : Lg) => bif Nat.beq j 1 then (w_tarpaulinlaw4_ProgTells_10 F N Q k1) l t L else (y_tarpaulinlaw4_ProgTells_7 F N Q) j l t L)
def y_tarpaulinlaw4_ProgTells_16 (F : TF) (N : TN) (Q : TQ) (k1 : TK) : Nat → Kn := (fun (j : Nat) (l t : Env) (L : Lg) => bif Nat.beq j 2 then (w_tarpaulinlaw4_ProgTells_10 F N Q k1) l t L else (y_tarpaulinlaw4_ProgTells_12 F N Q k1) j l t L)
def q_tarpaulinlaw4_ProgTells_20 (N : TN) : ACode := (.reg [⟨.t 59, none, .mv, [.l 7]⟩, ⟨.t 60, none, .bin .add, [.t 59, .c (.i .i64 1)]⟩, ⟨.l 7, none, .mv, [.t 60]⟩])
noncomputable def D_tarpaulinlaw4_ProgTells_20 (F : TF) (N : TN) (Q : TQ) (k1 : TK) (k2 : TK) (l : Env) (L : Lg) : Prop :=
 wpOp F (.bin .add) [(l 7), (.i .i64 1)] L fun v1 L1 =>
 k2 (Env.put l 7 v1) L1
theorem e_tarpaulinlaw4_ProgTells_20 (F : TF) (N : TN) (Q : TQ) (k1 : TK) (k2 : TK) (l t : Env) (L : Lg) : wp F (q_tarpaulinlaw4_ProgTells_20 N) l t L (fun (l _ : Env) (L : Lg) => k2 l L) (y_tarpaulinlaw4_ProgTells_16 F N Q k1) (fin [.tmp (.l 4)] Q) = D_tarpaulinlaw4_ProgTells_20 F N Q k1 k2 l L := by kernel_rfl
def q_tarpaulinlaw4_ProgTells_19a (N : TN) : ACode := (.block 3 (.seq (.regD [⟨.t 61, none, .mv, [.l 0]⟩, ⟨.t 62, none, .mv, [.l 5]⟩, ⟨.t 63, none, .iad 1, [.t 61, .t 62]⟩, ⟨.t 64, none, .ld none, [.t 63]⟩, ⟨.t 65, none, .mv, [.l 7]⟩, ⟨.t 66, none, .iad 6, [.t 64, .t 65]⟩, ⟨.t 67, none, .ld (some 6), [.t 66]⟩, ⟨.t 68, none, .call (N k_prog_Reads), [.t 67]⟩, ⟨.t 69, none, .mv, [.l 0]⟩, ⟨.t 70, none, .mv, [.l 5]⟩, ⟨.t 71, none, .iad 1, [.t 69, .t 70]⟩, ⟨.t 72, none, .ld none, [.t 71]⟩, ⟨.t 73, none, .mv, [.l 7]⟩, ⟨.t 74, none, .iad 6, [.t 72, .t 73]⟩, ⟨.t 75, none, .ld (some 6), [.t 74]⟩, ⟨.t 76, none, .call (N k_tarpaulinref1_Reads), [.t 75]⟩, ⟨.t 77, none, .call (N k_tarpaulinalike_Ints), [.t 68, .t 76]⟩, ⟨.t 78, none, .un .not, [.t 77]⟩, ⟨.t 79, none, .mv, [.t 78]⟩, ⟨.t 80, some (.t 79, false), .mv, [.l 0]⟩, ⟨.t 81, some (.t 79, false), .mv, [.l 5]⟩, ⟨.t 82, some (.t 79, false), .iad 1, [.t 80, .t 81]⟩, ⟨.t 83, some (.t 79, false), .ld none, [.t 82]⟩, ⟨.t 84, some (.t 79, false), .mv, [.l 7]⟩, ⟨.t 85, some (.t 79, false), .iad 6, [.t 83, .t 84]⟩, ⟨.t 86, some (.t 79, false), .ld (some 6), [.t 85]⟩, ⟨.t 87, some (.t 79, false), .call (N k_prog_Writes), [.t 86]⟩, ⟨.t 88, some (.t 79, false), .mv, [.l 0]⟩, ⟨.t 89, some (.t 79, false), .mv, [.l 5]⟩, ⟨.t 90, some (.t 79, false), .iad 1, [.t 88, .t 89]⟩, ⟨.t 91, some (.t 79, false), .ld none, [.t 90]⟩, ⟨.t 92, some (.t 79, false), .mv, [.l 7]⟩, ⟨.t 93, some (.t 79, false), .iad 6, [.t 91, .t 92]⟩, ⟨.t 94, some (.t 79, false), .ld (some 6), [.t 93]⟩, ⟨.t 95, some (.t 79, false), .call (N k_tarpaulinref1_Writes), [.t 94]⟩, ⟨.t 96, some (.t 79, false), .call (N k_tarpaulinalike_Ints), [.t 87, .t 95]⟩, ⟨.t 97, some (.t 79, false), .un .not, [.t 96]⟩, ⟨.t 98, none, .pick, [.t 79, .c (.b true), .t 97]⟩] [(11, 0), (14, 0), (30, 17), (33, 17)]) (.cond (.t 98) (.seq (.reg [⟨.l 4, none, .mv, [.c (.b false)]⟩]) .ret) .skip)))
def q_tarpaulinlaw4_ProgTells_19 (N : TN) : ACode := (.seq (q_tarpaulinlaw4_ProgTells_19a N) (q_tarpaulinlaw4_ProgTells_20 N))
noncomputable def D_tarpaulinlaw4_ProgTells_19 (F : TF) (N : TN) (Q : TQ) (k1 : TK) (k2 : TK) (l : Env) (L : Lg) : Prop :=
 wpOp F (.iad 1) [(l 0), (l 5)] L fun v1 L1 =>
 wpOp F (.ld none) [v1] L1 fun v2 L2 =>
 wpOp F (.iad 6) [v2, (l 7)] L2 fun v3 L3 =>
 wpOp F (.ld (some 6)) [v3] L3 fun v4 L4 =>
 CallL F (N k_prog_Reads) [v4] L4 fun v5 L5 =>
 wpOp F (.iad 1) [(l 0), (l 5)] L5 fun v6 L6 =>
 wpOp F (.ld none) [v6] L6 fun v7 L7 =>
 wpOp F (.iad 6) [v7, (l 7)] L7 fun v8 L8 =>
 wpOp F (.ld (some 6)) [v8] L8 fun v9 L9 =>
 CallL F (N k_tarpaulinref1_Reads) [v9] L9 fun v10 L10 =>
 CallL F (N k_tarpaulinalike_Ints) [v5, v10] L10 fun v11 L11 =>
 wpOp F (.un .not) [v11] L11 fun v12 L12 =>
 gdOp F v12 false .mv [(l 0)] L12 fun v13 L13 =>
 gdOp F v12 false .mv [(l 5)] L13 fun v14 L14 =>
 gdOp F v12 false (.iad 1) [v13, v14] L14 fun v15 L15 =>
 gdOp F v12 false (.ld none) [v15] L15 fun v16 L16 =>
 gdOp F v12 false .mv [(l 7)] L16 fun v17 L17 =>
 gdOp F v12 false (.iad 6) [v16, v17] L17 fun v18 L18 =>
 gdOp F v12 false (.ld (some 6)) [v18] L18 fun v19 L19 =>
 gdOp F v12 false (.call (N k_prog_Writes)) [v19] L19 fun v20 L20 =>
 gdOp F v12 false .mv [(l 0)] L20 fun v21 L21 =>
 gdOp F v12 false .mv [(l 5)] L21 fun v22 L22 =>
 gdOp F v12 false (.iad 1) [v21, v22] L22 fun v23 L23 =>
 gdOp F v12 false (.ld none) [v23] L23 fun v24 L24 =>
 gdOp F v12 false .mv [(l 7)] L24 fun v25 L25 =>
 gdOp F v12 false (.iad 6) [v24, v25] L25 fun v26 L26 =>
 gdOp F v12 false (.ld (some 6)) [v26] L26 fun v27 L27 =>
 gdOp F v12 false (.call (N k_tarpaulinref1_Writes)) [v27] L27 fun v28 L28 =>
 gdOp F v12 false (.call (N k_tarpaulinalike_Ints)) [v20, v28] L28 fun v29 L29 =>
 gdOp F v12 false (.un .not) [v29] L29 fun v30 L30 =>
 wpOp F .pick [v12, (.b true), v30] L30 fun v31 L31 =>
 (againV (.ld none) [v6] L6 L ∧ againV (.ld (some 6)) [v8] L8 L ∧ againG v12 false (againV (.ld none) [v23] L23 L11) ∧ againG v12 false (againV (.ld (some 6)) [v26] L26 L11) ∧ True) ∧ (condW v31
 (fin1 (some (.b false)) Q L31)
 (D_tarpaulinlaw4_ProgTells_20 F N Q k1 k2 l L31))
theorem e_tarpaulinlaw4_ProgTells_19 (F : TF) (N : TN) (Q : TQ) (k1 : TK) (k2 : TK) (l t : Env) (L : Lg) : wp F (q_tarpaulinlaw4_ProgTells_19 N) l t L (fun (l _ : Env) (L : Lg) => k2 l L) (y_tarpaulinlaw4_ProgTells_16 F N Q k1) (fin [.tmp (.l 4)] Q) = D_tarpaulinlaw4_ProgTells_19 F N Q k1 k2 l L := wpS (e_tarpaulinlaw4_ProgTells_20 F N Q k1 k2) (by kernel_rfl)
def q_tarpaulinlaw4_ProgTells_18a (N : TN) : ACode := (.seq (.reg [⟨.t 52, none, .mv, [.l 7]⟩, ⟨.t 53, none, .mv, [.l 0]⟩, ⟨.t 54, none, .mv, [.l 5]⟩, ⟨.t 55, none, .iad 1, [.t 53, .t 54]⟩, ⟨.t 56, none, .ld none, [.t 55]⟩, ⟨.t 57, none, .lenSl, [.t 56]⟩, ⟨.t 58, none, .bin .lss, [.t 52, .t 57]⟩]) (.cond (.t 58) .skip (.exit 2)))
def q_tarpaulinlaw4_ProgTells_18 (N : TN) : ACode := (.seq (q_tarpaulinlaw4_ProgTells_18a N) (q_tarpaulinlaw4_ProgTells_19 N))
noncomputable def D_tarpaulinlaw4_ProgTells_18 (F : TF) (N : TN) (Q : TQ) (k1 : TK) (k2 : TK) (l : Env) (L : Lg) : Prop :=
 wpOp F (.iad 1) [(l 0), (l 5)] L fun v1 L1 =>
 wpOp F (.ld none) [v1] L1 fun v2 L2 =>
 wpOp F .lenSl [v2] L2 fun v3 L3 =>
 wpOp F (.bin .lss) [(l 7), v3] L3 fun v4 L4 =>
 condW v4
 (D_tarpaulinlaw4_ProgTells_19 F N Q k1 k2 l L4)
 (D_tarpaulinlaw4_ProgTells_11 F N Q k1 l L4)
theorem e_tarpaulinlaw4_ProgTells_18 (F : TF) (N : TN) (Q : TQ) (k1 : TK) (k2 : TK) (l t : Env) (L : Lg) : wp F (q_tarpaulinlaw4_ProgTells_18 N) l t L (fun (l _ : Env) (L : Lg) => k2 l L) (y_tarpaulinlaw4_ProgTells_16 F N Q k1) (fin [.tmp (.l 4)] Q) = D_tarpaulinlaw4_ProgTells_18 F N Q k1 k2 l L := wpS (e_tarpaulinlaw4_ProgTells_19 F N Q k1 k2) (by kernel_rfl)
def q_tarpaulinlaw4_ProgTells_17 (N : TN) : ACode := (.loop (q_tarpaulinlaw4_ProgTells_18 N))
noncomputable def D_tarpaulinlaw4_ProgTells_17 (F : TF) (N : TN) (Q : TQ) (k1 : TK) (l : Env) (L : Lg) : Prop :=
 loopW (fun l t L k2 => D_tarpaulinlaw4_ProgTells_18 F N Q k1 k2 l L) l L
theorem e_tarpaulinlaw4_ProgTells_17 (F : TF) (N : TN) (Q : TQ) (k1 : TK) (l t : Env) (L : Lg) : wp F (q_tarpaulinlaw4_ProgTells_17 N) l t L (w_tarpaulinlaw4_ProgTells_10 F N Q k1) (y_tarpaulinlaw4_ProgTells_16 F N Q k1) (fin [.tmp (.l 4)] Q) = D_tarpaulinlaw4_ProgTells_17 F N Q k1 l L := wpL (fun l t L k2 => e_tarpaulinlaw4_ProgTells_18 F N Q k1 k2 l t L) (by kernel_rfl)
def q_tarpaulinlaw4_ProgTells_16 (N : TN) : ACode := (.block 2 (q_tarpaulinlaw4_ProgTells_17 N))
theorem e_tarpaulinlaw4_ProgTells_16 (F : TF) (N : TN) (Q : TQ) (k1 : TK) (l t : Env) (L : Lg) : wp F (q_tarpaulinlaw4_ProgTells_16 N) l t L (w_tarpaulinlaw4_ProgTells_10 F N Q k1) (y_tarpaulinlaw4_ProgTells_12 F N Q k1) (fin [.tmp (.l 4)] Q) = D_tarpaulinlaw4_ProgTells_17 F N Q k1 l L := wpB (e_tarpaulinlaw4_ProgTells_17 F N Q k1 l t L)
def q_tarpaulinlaw4_ProgTells_15a (N : TN) : ACode := (.reg [⟨.l 7, none, .mv, [.c (.i .i64 0)]⟩])
def q_tarpaulinlaw4_ProgTells_15 (N : TN) : ACode := (.seq (q_tarpaulinlaw4_ProgTells_15a N) (q_tarpaulinlaw4_ProgTells_16 N))
noncomputable def D_tarpaulinlaw4_ProgTells_15 (F : TF) (N : TN) (Q : TQ) (k1 : TK) (l : Env) (L : Lg) : Prop :=
 D_tarpaulinlaw4_ProgTells_17 F N Q k1 (Env.put l 7 (.i .i64 0)) L
theorem e_tarpaulinlaw4_ProgTells_15 (F : TF) (N : TN) (Q : TQ) (k1 : TK) (l t : Env) (L : Lg) : wp F (q_tarpaulinlaw4_ProgTells_15 N) l t L (w_tarpaulinlaw4_ProgTells_10 F N Q k1) (y_tarpaulinlaw4_ProgTells_12 F N Q k1) (fin [.tmp (.l 4)] Q) = D_tarpaulinlaw4_ProgTells_15 F N Q k1 l L := wpS (e_tarpaulinlaw4_ProgTells_16 F N Q k1) (by kernel_rfl)
def q_tarpaulinlaw4_ProgTells_14a (N : TN) : ACode := (.seq (.reg [⟨.t 36, none, .mv, [.l 6]⟩, ⟨.t 37, none, .bin .eql, [.t 36, .c (.i .i64 0)]⟩, ⟨.t 38, none, .mv, [.l 0]⟩, ⟨.t 39, none, .mv, [.l 5]⟩, ⟨.t 40, none, .iad 1, [.t 38, .t 39]⟩, ⟨.t 41, none, .ld none, [.t 40]⟩, ⟨.t 42, none, .call (N k_tarpaulinref1_Prog), [.t 41]⟩, ⟨.t 43, none, .eq true .bool, [.t 37, .t 42]⟩, ⟨.t 44, none, .mv, [.t 43]⟩, ⟨.t 45, some (.t 44, false), .mv, [.l 6]⟩, ⟨.t 46, some (.t 44, false), .bin .neq, [.t 45, .c (.i .i64 0)]⟩, ⟨.t 47, some (.t 44, false), .mv, [.t 46]⟩, ⟨.t 48, some (.t 47, true), .mv, [.l 6]⟩, ⟨.t 49, some (.t 47, true), .bin .neq, [.t 48, .c (.i .i64 1)]⟩, ⟨.t 50, some (.t 44, false), .pick, [.t 47, .t 49, .c (.b false)]⟩, ⟨.t 51, none, .pick, [.t 44, .c (.b true), .t 50]⟩]) (.cond (.t 51) (.seq (.reg [⟨.l 4, none, .mv, [.c (.b false)]⟩]) .ret) .skip))
def q_tarpaulinlaw4_ProgTells_14 (N : TN) : ACode := (.seq (q_tarpaulinlaw4_ProgTells_14a N) (q_tarpaulinlaw4_ProgTells_15 N))
noncomputable def D_tarpaulinlaw4_ProgTells_14 (F : TF) (N : TN) (Q : TQ) (k1 : TK) (l : Env) (L : Lg) : Prop :=
 wpOp F (.bin .eql) [(l 6), (.i .i64 0)] L fun v1 L1 =>
 wpOp F (.iad 1) [(l 0), (l 5)] L1 fun v2 L2 =>
 wpOp F (.ld none) [v2] L2 fun v3 L3 =>
 CallL F (N k_tarpaulinref1_Prog) [v3] L3 fun v4 L4 =>
 wpOp F (.eq true .bool) [v1, v4] L4 fun v5 L5 =>
 gdOp F v5 false .mv [(l 6)] L5 fun v6 L6 =>
 gdOp F v5 false (.bin .neq) [v6, (.i .i64 0)] L6 fun v7 L7 =>
 gdOp F v5 false .mv [v7] L7 fun v8 L8 =>
 gdOp F v8 true .mv [(l 6)] L8 fun v9 L9 =>
 gdOp F v8 true (.bin .neq) [v9, (.i .i64 1)] L9 fun v10 L10 =>
 gdOp F v5 false .pick [v8, v10, (.b false)] L10 fun v11 L11 =>
 wpOp F .pick [v5, (.b true), v11] L11 fun v12 L12 =>
 condW v12
 (fin1 (some (.b false)) Q L12)
 (D_tarpaulinlaw4_ProgTells_15 F N Q k1 l L12)
theorem e_tarpaulinlaw4_ProgTells_14 (F : TF) (N : TN) (Q : TQ) (k1 : TK) (l t : Env) (L : Lg) : wp F (q_tarpaulinlaw4_ProgTells_14 N) l t L (w_tarpaulinlaw4_ProgTells_10 F N Q k1) (y_tarpaulinlaw4_ProgTells_12 F N Q k1) (fin [.tmp (.l 4)] Q) = D_tarpaulinlaw4_ProgTells_14 F N Q k1 l L := wpS (e_tarpaulinlaw4_ProgTells_15 F N Q k1) (by kernel_rfl)
def q_tarpaulinlaw4_ProgTells_13a (N : TN) : ACode := (.reg [⟨.t 31, none, .mv, [.l 0]⟩, ⟨.t 32, none, .mv, [.l 5]⟩, ⟨.t 33, none, .iad 1, [.t 31, .t 32]⟩, ⟨.t 34, none, .ld none, [.t 33]⟩, ⟨.t 35, none, .call (N k_prog_Check), [.t 34]⟩, ⟨.l 6, none, .mv, [.t 35]⟩])
def q_tarpaulinlaw4_ProgTells_13 (N : TN) : ACode := (.seq (q_tarpaulinlaw4_ProgTells_13a N) (q_tarpaulinlaw4_ProgTells_14 N))
noncomputable def D_tarpaulinlaw4_ProgTells_13 (F : TF) (N : TN) (Q : TQ) (k1 : TK) (l : Env) (L : Lg) : Prop :=
 wpOp F (.iad 1) [(l 0), (l 5)] L fun v1 L1 =>
 wpOp F (.ld none) [v1] L1 fun v2 L2 =>
 CallL F (N k_prog_Check) [v2] L2 fun v3 L3 =>
 D_tarpaulinlaw4_ProgTells_14 F N Q k1 (Env.put l 6 v3) L3
theorem e_tarpaulinlaw4_ProgTells_13 (F : TF) (N : TN) (Q : TQ) (k1 : TK) (l t : Env) (L : Lg) : wp F (q_tarpaulinlaw4_ProgTells_13 N) l t L (w_tarpaulinlaw4_ProgTells_10 F N Q k1) (y_tarpaulinlaw4_ProgTells_12 F N Q k1) (fin [.tmp (.l 4)] Q) = D_tarpaulinlaw4_ProgTells_13 F N Q k1 l L := wpS (e_tarpaulinlaw4_ProgTells_14 F N Q k1) (by kernel_rfl)
def q_tarpaulinlaw4_ProgTells_12 (N : TN) : ACode := (.block 1 (q_tarpaulinlaw4_ProgTells_13 N))
theorem e_tarpaulinlaw4_ProgTells_12 (F : TF) (N : TN) (Q : TQ) (k1 : TK) (l t : Env) (L : Lg) : wp F (q_tarpaulinlaw4_ProgTells_12 N) l t L (w_tarpaulinlaw4_ProgTells_10 F N Q k1) (y_tarpaulinlaw4_ProgTells_7 F N Q) (fin [.tmp (.l 4)] Q) = D_tarpaulinlaw4_ProgTells_13 F N Q k1 l L := wpB (e_tarpaulinlaw4_ProgTells_13 F N Q k1 l t L)
def q_tarpaulinlaw4_ProgTells_10 (N : TN) : ACode := (.seq (q_tarpaulinlaw4_ProgTells_12 N) (q_tarpaulinlaw4_ProgTells_11 N))
theorem e_tarpaulinlaw4_ProgTells_10 (F : TF) (N : TN) (Q : TQ) (k1 : TK) (l t : Env) (L : Lg) : wp F (q_tarpaulinlaw4_ProgTells_10 N) l t L (fun (l _ : Env) (L : Lg) => k1 l L) (y_tarpaulinlaw4_ProgTells_7 F N Q) (fin [.tmp (.l 4)] Q) = D_tarpaulinlaw4_ProgTells_13 F N Q k1 l L := wpS (e_tarpaulinlaw4_ProgTells_11 F N Q k1) (e_tarpaulinlaw4_ProgTells_12 F N Q k1 l t L)
def q_tarpaulinlaw4_ProgTells_9a (N : TN) : ACode := (.seq (.reg [⟨.t 25, none, .mv, [.l 5]⟩, ⟨.t 26, none, .mv, [.l 0]⟩, ⟨.t 27, none, .lenSl, [.t 26]⟩, ⟨.t 28, none, .bin .lss, [.t 25, .t 27]⟩]) (.cond (.t 28) .skip (.exit 0)))
def q_tarpaulinlaw4_ProgTells_9 (N : TN) : ACode := (.seq (q_tarpaulinlaw4_ProgTells_9a N) (q_tarpaulinlaw4_ProgTells_10 N))
noncomputable def D_tarpaulinlaw4_ProgTells_9 (F : TF) (N : TN) (Q : TQ) (k1 : TK) (l : Env) (L : Lg) : Prop :=
 wpOp F .lenSl [(l 0)] L fun v1 L1 =>
 wpOp F (.bin .lss) [(l 5), v1] L1 fun v2 L2 =>
 condW v2
 (D_tarpaulinlaw4_ProgTells_13 F N Q k1 l L2)
 (D_tarpaulinlaw4_ProgTells_5 F N Q L2)
theorem e_tarpaulinlaw4_ProgTells_9 (F : TF) (N : TN) (Q : TQ) (k1 : TK) (l t : Env) (L : Lg) : wp F (q_tarpaulinlaw4_ProgTells_9 N) l t L (fun (l _ : Env) (L : Lg) => k1 l L) (y_tarpaulinlaw4_ProgTells_7 F N Q) (fin [.tmp (.l 4)] Q) = D_tarpaulinlaw4_ProgTells_9 F N Q k1 l L := wpS (e_tarpaulinlaw4_ProgTells_10 F N Q k1) (by kernel_rfl)
def q_tarpaulinlaw4_ProgTells_8 (N : TN) : ACode := (.loop (q_tarpaulinlaw4_ProgTells_9 N))
noncomputable def D_tarpaulinlaw4_ProgTells_8 (F : TF) (N : TN) (Q : TQ) (l : Env) (L : Lg) : Prop :=
 loopW (fun l t L k1 => D_tarpaulinlaw4_ProgTells_9 F N Q k1 l L) l L
theorem e_tarpaulinlaw4_ProgTells_8 (F : TF) (N : TN) (Q : TQ) (l t : Env) (L : Lg) : wp F (q_tarpaulinlaw4_ProgTells_8 N) l t L (w_tarpaulinlaw4_ProgTells_4 F N Q) (y_tarpaulinlaw4_ProgTells_7 F N Q) (fin [.tmp (.l 4)] Q) = D_tarpaulinlaw4_ProgTells_8 F N Q l L := wpL (fun l t L k1 => e_tarpaulinlaw4_ProgTells_9 F N Q k1 l t L) (by kernel_rfl)
def q_tarpaulinlaw4_ProgTells_7 (N : TN) : ACode := (.block 0 (q_tarpaulinlaw4_ProgTells_8 N))
theorem e_tarpaulinlaw4_ProgTells_7 (F : TF) (N : TN) (Q : TQ) (l t : Env) (L : Lg) : wp F (q_tarpaulinlaw4_ProgTells_7 N) l t L (w_tarpaulinlaw4_ProgTells_4 F N Q) nE (fin [.tmp (.l 4)] Q) = D_tarpaulinlaw4_ProgTells_8 F N Q l L := wpB (e_tarpaulinlaw4_ProgTells_8 F N Q l t L)
def q_tarpaulinlaw4_ProgTells_6a (N : TN) : ACode := (.reg [⟨.l 5, none, .mv, [.c (.i .i64 0)]⟩])
def q_tarpaulinlaw4_ProgTells_6 (N : TN) : ACode := (.seq (q_tarpaulinlaw4_ProgTells_6a N) (q_tarpaulinlaw4_ProgTells_7 N))
noncomputable def D_tarpaulinlaw4_ProgTells_6 (F : TF) (N : TN) (Q : TQ) (l : Env) (L : Lg) : Prop :=
 D_tarpaulinlaw4_ProgTells_8 F N Q (Env.put l 5 (.i .i64 0)) L
theorem e_tarpaulinlaw4_ProgTells_6 (F : TF) (N : TN) (Q : TQ) (l t : Env) (L : Lg) : wp F (q_tarpaulinlaw4_ProgTells_6 N) l t L (w_tarpaulinlaw4_ProgTells_4 F N Q) nE (fin [.tmp (.l 4)] Q) = D_tarpaulinlaw4_ProgTells_6 F N Q l L := wpS (e_tarpaulinlaw4_ProgTells_7 F N Q) (by kernel_rfl)
def q_tarpaulinlaw4_ProgTells_4 (N : TN) : ACode := (.seq (q_tarpaulinlaw4_ProgTells_6 N) (q_tarpaulinlaw4_ProgTells_5 N))
theorem e_tarpaulinlaw4_ProgTells_4 (F : TF) (N : TN) (Q : TQ) (l t : Env) (L : Lg) : wp F (q_tarpaulinlaw4_ProgTells_4 N) l t L (fin [.tmp (.l 4)] Q) nE (fin [.tmp (.l 4)] Q) = D_tarpaulinlaw4_ProgTells_6 F N Q l L := wpS (e_tarpaulinlaw4_ProgTells_5 F N Q) (e_tarpaulinlaw4_ProgTells_6 F N Q l t L)
def q_tarpaulinlaw4_ProgTells_3a (N : TN) : ACode := (.seq (.reg [⟨.t 12, none, .mv, [.l 0]⟩, ⟨.t 13, none, .call (N k_prog_All), [.t 12]⟩, ⟨.t 14, none, .bin .eql, [.t 13, .c (.i .i64 0)]⟩, ⟨.t 15, none, .mv, [.l 0]⟩, ⟨.t 16, none, .call (N k_tarpaulinref1_Progs), [.t 15]⟩, ⟨.t 17, none, .eq true .bool, [.t 14, .t 16]⟩, ⟨.t 18, none, .mv, [.t 17]⟩, ⟨.t 19, some (.t 18, false), .mv, [.l 1]⟩, ⟨.t 20, some (.t 18, false), .call (N k_prog_Name), [.t 19]⟩, ⟨.t 21, some (.t 18, false), .mv, [.l 1]⟩, ⟨.t 22, some (.t 18, false), .call (N k_tarpaulinref1_Name), [.t 21]⟩, ⟨.t 23, some (.t 18, false), .sbin .neq, [.t 20, .t 22]⟩, ⟨.t 24, none, .pick, [.t 18, .c (.b true), .t 23]⟩]) (.cond (.t 24) (.seq (.reg [⟨.l 4, none, .mv, [.c (.b false)]⟩]) .ret) .skip))
def q_tarpaulinlaw4_ProgTells_3 (N : TN) : ACode := (.seq (q_tarpaulinlaw4_ProgTells_3a N) (q_tarpaulinlaw4_ProgTells_4 N))
noncomputable def D_tarpaulinlaw4_ProgTells_3 (F : TF) (N : TN) (Q : TQ) (l : Env) (L : Lg) : Prop :=
 CallL F (N k_prog_All) [(l 0)] L fun v1 L1 =>
 wpOp F (.bin .eql) [v1, (.i .i64 0)] L1 fun v2 L2 =>
 CallL F (N k_tarpaulinref1_Progs) [(l 0)] L2 fun v3 L3 =>
 wpOp F (.eq true .bool) [v2, v3] L3 fun v4 L4 =>
 gdOp F v4 false .mv [(l 1)] L4 fun v5 L5 =>
 gdOp F v4 false (.call (N k_prog_Name)) [v5] L5 fun v6 L6 =>
 gdOp F v4 false .mv [(l 1)] L6 fun v7 L7 =>
 gdOp F v4 false (.call (N k_tarpaulinref1_Name)) [v7] L7 fun v8 L8 =>
 gdOp F v4 false (.sbin .neq) [v6, v8] L8 fun v9 L9 =>
 wpOp F .pick [v4, (.b true), v9] L9 fun v10 L10 =>
 condW v10
 (fin1 (some (.b false)) Q L10)
 (D_tarpaulinlaw4_ProgTells_6 F N Q l L10)
theorem e_tarpaulinlaw4_ProgTells_3 (F : TF) (N : TN) (Q : TQ) (l t : Env) (L : Lg) : wp F (q_tarpaulinlaw4_ProgTells_3 N) l t L (fin [.tmp (.l 4)] Q) nE (fin [.tmp (.l 4)] Q) = D_tarpaulinlaw4_ProgTells_3 F N Q l L := wpS (e_tarpaulinlaw4_ProgTells_4 F N Q) (by kernel_rfl)
def q_tarpaulinlaw4_ProgTells_2a (N : TN) : ACode := (.seq (.reg [⟨.t 8, none, .mv, [.l 0]⟩, ⟨.t 9, none, .call (N k_tarpaulinalike_Progs), [.t 8]⟩, ⟨.t 10, none, .un .not, [.t 9]⟩]) (.cond (.t 10) (.seq (.reg [⟨.t 11, none, .call (N k_tarpaulinlaw4_awake), []⟩, ⟨.l 4, none, .mv, [.t 11]⟩]) .ret) .skip))
def q_tarpaulinlaw4_ProgTells_2 (N : TN) : ACode := (.seq (q_tarpaulinlaw4_ProgTells_2a N) (q_tarpaulinlaw4_ProgTells_3 N))
noncomputable def D_tarpaulinlaw4_ProgTells_2 (F : TF) (N : TN) (Q : TQ) (l : Env) (L : Lg) : Prop :=
 CallL F (N k_tarpaulinalike_Progs) [(l 0)] L fun v1 L1 =>
 wpOp F (.un .not) [v1] L1 fun v2 L2 =>
 condW v2
 (CallL F (N k_tarpaulinlaw4_awake) [] L2 fun v3 L3 =>
 fin1 (some v3) Q L3)
 (D_tarpaulinlaw4_ProgTells_3 F N Q l L2)
theorem e_tarpaulinlaw4_ProgTells_2 (F : TF) (N : TN) (Q : TQ) (l t : Env) (L : Lg) : wp F (q_tarpaulinlaw4_ProgTells_2 N) l t L (fin [.tmp (.l 4)] Q) nE (fin [.tmp (.l 4)] Q) = D_tarpaulinlaw4_ProgTells_2 F N Q l L := wpS (e_tarpaulinlaw4_ProgTells_3 F N Q) (by kernel_rfl)
def q_tarpaulinlaw4_ProgTells_1a (N : TN) : ACode := (.reg [⟨.l 4, none, .mv, [.c (.b false)]⟩])
def q_tarpaulinlaw4_ProgTells_1 (N : TN) : ACode := (.seq (q_tarpaulinlaw4_ProgTells_1a N) (q_tarpaulinlaw4_ProgTells_2 N))
noncomputable def D_tarpaulinlaw4_ProgTells_1 (F : TF) (N : TN) (Q : TQ) (l : Env) (L : Lg) : Prop :=
 D_tarpaulinlaw4_ProgTells_2 F N Q (Env.put l 4 (.b false)) L
theorem e_tarpaulinlaw4_ProgTells_1 (F : TF) (N : TN) (Q : TQ) (l t : Env) (L : Lg) : wp F (q_tarpaulinlaw4_ProgTells_1 N) l t L (fin [.tmp (.l 4)] Q) nE (fin [.tmp (.l 4)] Q) = D_tarpaulinlaw4_ProgTells_1 F N Q l L := wpS (e_tarpaulinlaw4_ProgTells_2 F N Q) (by kernel_rfl)
/-- tarpaulin/tarpaulinlaw4.ProgTells -/
def c_tarpaulinlaw4_ProgTells (N : TN) : AFn := ⟨q_tarpaulinlaw4_ProgTells_1 N, [.tmp (.l 4)]⟩
theorem r_tarpaulinlaw4_ProgTells {F : TF} {N : TN} (h : F (N k_tarpaulinlaw4_ProgTells) = some (c_tarpaulinlaw4_ProgTells N)) {Q : TQ} {a0 a1 : AV} {L : Lg} (e : D_tarpaulinlaw4_ProgTells_1 F N Q (initE [a0, a1] 0) L) : CallL F (N k_tarpaulinlaw4_ProgTells) [a0, a1] L Q :=
  CallL.of_wp h (Eq.mpr (Eq.trans (e_tarpaulinlaw4_ProgTells_1 F N Q (initE [a0, a1] 0) Env.nil L) (by kernel_rfl : _ = D_tarpaulinlaw4_ProgTells_1 F N Q (initE [a0, a1] 0) L)) e)
end Go.AM

/- clock: what its functions do. -/
set_option linter.unusedVariables false
set_option linter.unusedSimpArgs false
namespace Go.AM
variable {N : Nat → Nat} {F : Nat → Option AFn}

def held (t : Int) : Int := min (max t (-4611686018427387904)) 4611686018427387904
def clockAdd (t d : Int) : Int := held (held t + held d)
/-- the first of a row behind now -/
def clockNext (w p n : Int) : Int × Int :=
  if p < 1 ∨ min w n < 0 ∨ 4611686018427387904 < max w (max p n) then (0, 1)
  else if n < w then (w, 0) else (clockAdd n (p - (n - w).tmod p), 0)
end Go.AM

