/- The texts GenD, LgR, LibSlice, LibSignal, LgT, LgO, LibEnd of a proof of CtxAfters, merged. -/
import Derived.Test.YtddabelahpdekaaCtxAftersG2
import Derived.KernelRfl
import Derived.ChangeSlices
import Derived.WideShapes
import Derived.ChangeOld
import Derived.Carry
import Derived.ChangeArms
/- The code of functions, with names for their numbers, and what is left of its weakest preconditions. PRINTED by our printgen.py. -/
set_option linter.unusedVariables false
set_option maxRecDepth 100000
namespace Go.AM
def k_tree_New : Nat := 117
def k_tree_Tree_Len : Nat := 118
def k_tree_Tree_has : Nat := 119
def k_tree_Tree_Add : Nat := 120
def k_ctx_Set_add : Nat := 121
def k_ctx_New : Nat := 122
def k_ctx_Set_has : Nat := 127
def k_ctx_Set_room : Nat := 128
def k_chanq_Signal : Nat := 129
def k_chanq_Chan_end_1 : Nat := 130
def k_slices_IndexFunc_WakeWake : Nat := 131
def k_slices_ContainsFunc_WakeWake : Nat := 132
def k_chanq_Chan_end : Nat := 133
def k_chanq_Chan_End : Nat := 134
def k_slices_Clone_intint : Nat := 135
def k_tree_Tree_Kids : Nat := 136
def k_slices_Index_intint : Nat := 137
def k_slices_Delete_intint : Nat := 138
def k_tree_Tree_Detach : Nat := 139
def k_ctx_Set_start : Nat := 140
def k_ctx_Set_cancel : Nat := 141
def k_ctx_Set_begin : Nat := 142
def k_ctx_Set_Cancels : Nat := 143
def k_ctx_Set_After : Nat := 146
def k_ctx_Set_Cancel : Nat := 148
def k_ctx_Set_Unafter : Nat := 151
def k_tarpaulinlaw15_awake : Nat := 152
def k_tarpaulinlaw15_CtxAfters : Nat := 154
def q_tree_New_1 (N : TN) : ACode := (.seq (.reg [⟨.l 0, none, .mv, [.c (.p none)]⟩]) (.seq (.reg [⟨.t 1, none, .build [.sl none 0 0 0] [], []⟩, ⟨.t 2, none, .box, [.t 1]⟩, ⟨.l 0, none, .mv, [.t 2]⟩]) .ret))
noncomputable def D_tree_New_1 (F : TF) (N : TN) (Q : TQ) (L : Lg) : Prop :=
 wpOp F (.build [.sl none 0 0 0] []) [] L fun v1 L1 =>
 wpOp F .box [v1] L1 fun v2 L2 =>
 fin1 (some v2) Q L2
theorem e_tree_New_1 (F : TF) (N : TN) (Q : TQ) (l t : Env) (L : Lg) : wp F (q_tree_New_1 N) l t L (fin [.tmp (.l 0)] Q) nE (fin [.tmp (.l 0)] Q) = D_tree_New_1 F N Q L := by kernel_rfl
/-- tarpaulin/tree.New -/
def c_tree_New (N : TN) : AFn := ⟨q_tree_New_1 N, [.tmp (.l 0)]⟩
structure H_tree_New (N : TN) (F : TF) : Prop where
  code : F (N k_tree_New) = some (c_tree_New N)
theorem r_tree_New {F : TF} {N : TN} (h : F (N k_tree_New) = some (c_tree_New N)) {Q : TQ} {L : Lg} (e : D_tree_New_1 F N Q L) : CallL F (N k_tree_New) [] L Q :=
  CallL.of_wp h (Eq.mpr (Eq.trans (e_tree_New_1 F N Q (initE [] 0) Env.nil L) (by kernel_rfl : _ = D_tree_New_1 F N Q L)) e)
def q_tree_Tree_Len_1 (N : TN) : ACode := (.seq (.reg [⟨.l 2, none, .mv, [.c (.i .i64 0)]⟩]) (.seq (.seq (.reg [⟨.t 3, none, .mv, [.l 0]⟩, ⟨.t 4, none, .eq false .ptr, [.t 3, .c (.p none)]⟩]) (.cond (.t 4) (.seq (.reg [⟨.l 2, none, .mv, [.c (.i .i64 0)]⟩]) .ret) .skip)) (.seq (.reg [⟨.t 5, none, .mv, [.l 0]⟩, ⟨.t 6, none, .nilchk, [.t 5]⟩, ⟨.t 7, none, .fad 0, [.t 6]⟩, ⟨.t 8, none, .ld none, [.t 7]⟩, ⟨.t 9, none, .lenSl, [.t 8]⟩, ⟨.l 2, none, .mv, [.t 9]⟩]) .ret)))
noncomputable def D_tree_Tree_Len_1 (F : TF) (N : TN) (Q : TQ) (x0 : AV) (L : Lg) : Prop :=
 wpOp F (.eq false .ptr) [x0, (.p none)] L fun v1 L1 =>
 condW v1
 (fin1 (some (.i .i64 0)) Q L1)
 (wpOp F .nilchk [x0] L1 fun v2 L2 =>
 wpOp F (.fad 0) [v2] L2 fun v3 L3 =>
 wpOp F (.ld none) [v3] L3 fun v4 L4 =>
 wpOp F .lenSl [v4] L4 fun v5 L5 =>
 fin1 (some v5) Q L5)
theorem e_tree_Tree_Len_1 (F : TF) (N : TN) (Q : TQ) (l t : Env) (L : Lg) : wp F (q_tree_Tree_Len_1 N) l t L (fin [.tmp (.l 2)] Q) nE (fin [.tmp (.l 2)] Q) = D_tree_Tree_Len_1 F N Q (l 0) L := by kernel_rfl
/-- (*tarpaulin/tree.Tree).Len -/
def c_tree_Tree_Len (N : TN) : AFn := ⟨q_tree_Tree_Len_1 N, [.tmp (.l 2)]⟩
structure H_tree_Tree_Len (N : TN) (F : TF) : Prop where
  code : F (N k_tree_Tree_Len) = some (c_tree_Tree_Len N)
theorem r_tree_Tree_Len {F : TF} {N : TN} (h : F (N k_tree_Tree_Len) = some (c_tree_Tree_Len N)) {Q : TQ} {a0 : AV} {L : Lg} (e : D_tree_Tree_Len_1 F N Q a0 L) : CallL F (N k_tree_Tree_Len) [a0] L Q :=
  CallL.of_wp h (Eq.mpr (Eq.trans (e_tree_Tree_Len_1 F N Q (initE [a0] 0) Env.nil L) (by kernel_rfl : _ = D_tree_Tree_Len_1 F N Q a0 L)) e)
def q_tree_Tree_has_1 (N : TN) : ACode := (.seq (.reg [⟨.l 4, none, .mv, [.c (.b false)]⟩]) (.seq (.reg [⟨.t 5, none, .mv, [.l 1]⟩, ⟨.t 6, none, .bin .geq, [.t 5, .c (.i .i64 0)]⟩, ⟨.t 7, none, .mv, [.t 6]⟩, ⟨.t 8, some (.t 7, true), .mv, [.l 1]⟩, ⟨.t 9, some (.t 7, true), .mv, [.l 0]⟩, ⟨.t 10, some (.t 7, true), .call (N k_tree_Tree_Len), [.t 9]⟩, ⟨.t 11, some (.t 7, true), .bin .lss, [.t 8, .t 10]⟩, ⟨.t 12, none, .pick, [.t 7, .t 11, .c (.b false)]⟩, ⟨.l 4, none, .mv, [.t 12]⟩]) .ret))
noncomputable def D_tree_Tree_has_1 (F : TF) (N : TN) (Q : TQ) (x0 : AV) (x1 : AV) (L : Lg) : Prop :=
 wpOp F (.bin .geq) [x1, (.i .i64 0)] L fun v1 L1 =>
 gdOp F v1 true .mv [x1] L1 fun v2 L2 =>
 gdOp F v1 true .mv [x0] L2 fun v3 L3 =>
 gdOp F v1 true (.call (N k_tree_Tree_Len)) [v3] L3 fun v4 L4 =>
 gdOp F v1 true (.bin .lss) [v2, v4] L4 fun v5 L5 =>
 wpOp F .pick [v1, v5, (.b false)] L5 fun v6 L6 =>
 fin1 (some v6) Q L6
theorem e_tree_Tree_has_1 (F : TF) (N : TN) (Q : TQ) (l t : Env) (L : Lg) : wp F (q_tree_Tree_has_1 N) l t L (fin [.tmp (.l 4)] Q) nE (fin [.tmp (.l 4)] Q) = D_tree_Tree_has_1 F N Q (l 0) (l 1) L := by kernel_rfl
/-- (*tarpaulin/tree.Tree).has -/
def c_tree_Tree_has (N : TN) : AFn := ⟨q_tree_Tree_has_1 N, [.tmp (.l 4)]⟩
structure H_tree_Tree_has (N : TN) (F : TF) : Prop where
  code : F (N k_tree_Tree_has) = some (c_tree_Tree_has N)
  tree_Tree_Len : H_tree_Tree_Len N F
theorem r_tree_Tree_has {F : TF} {N : TN} (h : F (N k_tree_Tree_has) = some (c_tree_Tree_has N)) {Q : TQ} {a0 a1 : AV} {L : Lg} (e : D_tree_Tree_has_1 F N Q a0 a1 L) : CallL F (N k_tree_Tree_has) [a0, a1] L Q :=
  CallL.of_wp h (Eq.mpr (Eq.trans (e_tree_Tree_has_1 F N Q (initE [a0, a1] 0) Env.nil L) (by kernel_rfl : _ = D_tree_Tree_has_1 F N Q a0 a1 L)) e)
def q_tree_Tree_Add_6 (N : TN) : ACode := (.seq (.reg [⟨.t 56, none, .mv, [.l 0]⟩, ⟨.t 57, none, .mv, [.l 0]⟩, ⟨.t 58, none, .nilchk, [.t 57]⟩, ⟨.t 59, none, .fad 0, [.t 58]⟩, ⟨.t 60, none, .ld none, [.t 59]⟩, ⟨.t 61, none, .mv, [.l 1]⟩, ⟨.t 62, none, .mv, [.l 2]⟩, ⟨.t 63, none, .build [.i .i64 0, .b false, .sl none 0 0 0] [(0, 1), (1, 1)], [.t 61, .t 62]⟩, ⟨.t 64, none, .bslice [.i .i64 0, .b false, .sl none 0 0 0] 1 3 [0], [.t 63]⟩, ⟨.t 65, none, .app 3 40, [.t 60, .t 64]⟩, ⟨.t 66, none, .nilchk, [.t 56]⟩, ⟨.t 67, none, .fad 0, [.t 66]⟩, ⟨.no, none, .st 1, [.t 67, .t 65]⟩]) (.seq (.reg [⟨.t 68, none, .mv, [.l 8]⟩, ⟨.l 6, none, .mv, [.t 68]⟩, ⟨.l 7, none, .mv, [.c (.i .i64 0)]⟩]) .ret))
noncomputable def D_tree_Tree_Add_6 (F : TF) (N : TN) (Q : TQ) (x0 : AV) (x1 : AV) (x2 : AV) (x8 : AV) (L : Lg) : Prop :=
 wpOp F .nilchk [x0] L fun v1 L1 =>
 wpOp F (.fad 0) [v1] L1 fun v2 L2 =>
 wpOp F (.ld none) [v2] L2 fun v3 L3 =>
 wpOp F (.build [.i .i64 0, .b false, .sl none 0 0 0] [(0, 1), (1, 1)]) [x1, x2] L3 fun v4 L4 =>
 wpOp F (.bslice [.i .i64 0, .b false, .sl none 0 0 0] 1 3 [0]) [v4] L4 fun v5 L5 =>
 wpOp F (.app 3 40) [v3, v5] L5 fun v6 L6 =>
 wpOp F .nilchk [x0] L6 fun v7 L7 =>
 wpOp F (.fad 0) [v7] L7 fun v8 L8 =>
 wpOp F (.st 1) [v8, v6] L8 fun _ L9 =>
 fin1 (some (.tup [x8, (.i .i64 0)])) Q L9
theorem e_tree_Tree_Add_6 (F : TF) (N : TN) (Q : TQ) (l t : Env) (L : Lg) : wp F (q_tree_Tree_Add_6 N) l t L (fin [.tmp (.l 6), .tmp (.l 7)] Q) nE (fin [.tmp (.l 6), .tmp (.l 7)] Q) = D_tree_Tree_Add_6 F N Q (l 0) (l 1) (l 2) (l 8) L := by kernel_rfl
def q_tree_Tree_Add_5a (N : TN) : ACode := (.seq (.reg [⟨.t 37, none, .mv, [.l 2]⟩]) (.cond (.t 37) (.regD [⟨.t 38, none, .mv, [.l 0]⟩, ⟨.t 39, none, .nilchk, [.t 38]⟩, ⟨.t 40, none, .fad 0, [.t 39]⟩, ⟨.t 41, none, .ld none, [.t 40]⟩, ⟨.t 42, none, .mv, [.l 1]⟩, ⟨.t 43, none, .mv, [.l 0]⟩, ⟨.t 44, none, .nilchk, [.t 43]⟩, ⟨.t 45, none, .fad 0, [.t 44]⟩, ⟨.t 46, none, .ld none, [.t 45]⟩, ⟨.t 47, none, .mv, [.l 1]⟩, ⟨.t 48, none, .iad 3, [.t 46, .t 47]⟩, ⟨.t 49, none, .fad 2, [.t 48]⟩, ⟨.t 50, none, .ld none, [.t 49]⟩, ⟨.t 51, none, .mv, [.l 8]⟩, ⟨.t 52, none, .bslice [.i .i64 0] 1 1 [0], [.t 51]⟩, ⟨.t 53, none, .app 1 8, [.t 50, .t 52]⟩, ⟨.t 54, none, .iad 3, [.t 41, .t 42]⟩, ⟨.t 55, none, .fad 2, [.t 54]⟩, ⟨.no, none, .st 1, [.t 55, .t 53]⟩] [(3, 16)]) .skip))
def q_tree_Tree_Add_5 (N : TN) : ACode := (.seq (q_tree_Tree_Add_5a N) (q_tree_Tree_Add_6 N))
noncomputable def D_tree_Tree_Add_5 (F : TF) (N : TN) (Q : TQ) (x0 : AV) (x1 : AV) (x2 : AV) (x8 : AV) (L : Lg) : Prop :=
 condW x2
 (wpOp F .nilchk [x0] L fun v1 L1 =>
 wpOp F (.fad 0) [v1] L1 fun v2 L2 =>
 wpOp F (.ld none) [v2] L2 fun v3 L3 =>
 wpOp F .nilchk [x0] L3 fun v4 L4 =>
 wpOp F (.fad 0) [v4] L4 fun v5 L5 =>
 wpOp F (.ld none) [v5] L5 fun v6 L6 =>
 wpOp F (.iad 3) [v6, x1] L6 fun v7 L7 =>
 wpOp F (.fad 2) [v7] L7 fun v8 L8 =>
 wpOp F (.ld none) [v8] L8 fun v9 L9 =>
 wpOp F (.bslice [.i .i64 0] 1 1 [0]) [x8] L9 fun v10 L10 =>
 wpOp F (.app 1 8) [v9, v10] L10 fun v11 L11 =>
 wpOp F (.iad 3) [v3, x1] L11 fun v12 L12 =>
 wpOp F (.fad 2) [v12] L12 fun v13 L13 =>
 wpOp F (.st 1) [v13, v11] L13 fun _ L14 =>
 (againV (.ld none) [v2] L2 L11 ∧ True) ∧ (D_tree_Tree_Add_6 F N Q x0 x1 x2 x8 L14))
 (D_tree_Tree_Add_6 F N Q x0 x1 x2 x8 L)
theorem e_tree_Tree_Add_5 (F : TF) (N : TN) (Q : TQ) (l t : Env) (L : Lg) : wp F (q_tree_Tree_Add_5 N) l t L (fin [.tmp (.l 6), .tmp (.l 7)] Q) nE (fin [.tmp (.l 6), .tmp (.l 7)] Q) = D_tree_Tree_Add_5 F N Q (l 0) (l 1) (l 2) (l 8) L := wpS (e_tree_Tree_Add_6 F N Q) (by kernel_rfl)
def q_tree_Tree_Add_4a (N : TN) : ACode := (.reg [⟨.t 32, none, .mv, [.l 2]⟩, ⟨.t 33, none, .mv, [.t 32]⟩, ⟨.t 34, some (.t 33, true), .mv, [.l 1]⟩, ⟨.t 35, some (.t 33, true), .bin .neq, [.t 34, .c (.i .i64 (-1))]⟩, ⟨.t 36, none, .pick, [.t 33, .t 35, .c (.b false)]⟩, ⟨.l 2, none, .mv, [.t 36]⟩])
def q_tree_Tree_Add_4 (N : TN) : ACode := (.seq (q_tree_Tree_Add_4a N) (q_tree_Tree_Add_5 N))
noncomputable def D_tree_Tree_Add_4 (F : TF) (N : TN) (Q : TQ) (x0 : AV) (x1 : AV) (x2 : AV) (x8 : AV) (L : Lg) : Prop :=
 gdOp F x2 true .mv [x1] L fun v1 L1 =>
 gdOp F x2 true (.bin .neq) [v1, (.i .i64 (-1))] L1 fun v2 L2 =>
 wpOp F .pick [x2, v2, (.b false)] L2 fun v3 L3 =>
 D_tree_Tree_Add_5 F N Q x0 x1 v3 x8 L3
theorem e_tree_Tree_Add_4 (F : TF) (N : TN) (Q : TQ) (l t : Env) (L : Lg) : wp F (q_tree_Tree_Add_4 N) l t L (fin [.tmp (.l 6), .tmp (.l 7)] Q) nE (fin [.tmp (.l 6), .tmp (.l 7)] Q) = D_tree_Tree_Add_4 F N Q (l 0) (l 1) (l 2) (l 8) L := wpS (e_tree_Tree_Add_5 F N Q) (by kernel_rfl)
def q_tree_Tree_Add_3a (N : TN) : ACode := (.reg [⟨.t 27, none, .mv, [.l 0]⟩, ⟨.t 28, none, .nilchk, [.t 27]⟩, ⟨.t 29, none, .fad 0, [.t 28]⟩, ⟨.t 30, none, .ld none, [.t 29]⟩, ⟨.t 31, none, .lenSl, [.t 30]⟩, ⟨.l 8, none, .mv, [.t 31]⟩])
def q_tree_Tree_Add_3 (N : TN) : ACode := (.seq (q_tree_Tree_Add_3a N) (q_tree_Tree_Add_4 N))
noncomputable def D_tree_Tree_Add_3 (F : TF) (N : TN) (Q : TQ) (x0 : AV) (x1 : AV) (x2 : AV) (L : Lg) : Prop :=
 wpOp F .nilchk [x0] L fun v1 L1 =>
 wpOp F (.fad 0) [v1] L1 fun v2 L2 =>
 wpOp F (.ld none) [v2] L2 fun v3 L3 =>
 wpOp F .lenSl [v3] L3 fun v4 L4 =>
 D_tree_Tree_Add_4 F N Q x0 x1 x2 v4 L4
theorem e_tree_Tree_Add_3 (F : TF) (N : TN) (Q : TQ) (l t : Env) (L : Lg) : wp F (q_tree_Tree_Add_3 N) l t L (fin [.tmp (.l 6), .tmp (.l 7)] Q) nE (fin [.tmp (.l 6), .tmp (.l 7)] Q) = D_tree_Tree_Add_3 F N Q (l 0) (l 1) (l 2) L := wpS (e_tree_Tree_Add_4 F N Q) (by kernel_rfl)
def q_tree_Tree_Add_2a (N : TN) : ACode := (.block 0 (.seq (.seq (.reg [⟨.t 10, none, .mv, [.l 0]⟩, ⟨.t 11, none, .eq false .ptr, [.t 10, .c (.p none)]⟩, ⟨.t 9, none, .mv, [.t 11]⟩]) (.cond (.t 9) .skip (.reg [⟨.t 12, none, .mv, [.l 1]⟩, ⟨.t 13, none, .bin .neq, [.t 12, .c (.i .i64 (-1))]⟩, ⟨.t 14, none, .mv, [.t 13]⟩, ⟨.t 15, some (.t 14, true), .mv, [.l 0]⟩, ⟨.t 16, some (.t 14, true), .mv, [.l 1]⟩, ⟨.t 17, some (.t 14, true), .call (N k_tree_Tree_has), [.t 15, .t 16]⟩, ⟨.t 18, some (.t 14, true), .un .not, [.t 17]⟩, ⟨.t 19, none, .pick, [.t 14, .t 18, .c (.b false)]⟩, ⟨.t 9, none, .mv, [.t 19]⟩]))) (.cond (.t 9) (.seq (.reg [⟨.l 6, none, .mv, [.c (.i .i64 0)]⟩, ⟨.l 7, none, .mv, [.c (.i .i64 1)]⟩]) .ret) (.seq (.reg [⟨.t 21, none, .mv, [.l 0]⟩, ⟨.t 22, none, .nilchk, [.t 21]⟩, ⟨.t 23, none, .fad 0, [.t 22]⟩, ⟨.t 24, none, .ld none, [.t 23]⟩, ⟨.t 25, none, .lenSl, [.t 24]⟩, ⟨.t 26, none, .bin .geq, [.t 25, .c (.i .i64 1000)]⟩, ⟨.t 20, none, .mv, [.t 26]⟩]) (.cond (.t 20) (.seq (.reg [⟨.l 6, none, .mv, [.c (.i .i64 0)]⟩, ⟨.l 7, none, .mv, [.c (.i .i64 3)]⟩]) .ret) .skip)))))
def q_tree_Tree_Add_2 (N : TN) : ACode := (.seq (q_tree_Tree_Add_2a N) (q_tree_Tree_Add_3 N))
noncomputable def D_tree_Tree_Add_2 (F : TF) (N : TN) (Q : TQ) (x0 : AV) (x1 : AV) (x2 : AV) (L : Lg) : Prop :=
 wpOp F (.eq false .ptr) [x0, (.p none)] L fun v1 L1 =>
 condW v1
 (condW v1
 (fin1 (some (.tup [(.i .i64 0), (.i .i64 1)])) Q L1)
 (wpOp F .nilchk [x0] L1 fun v2 L2 =>
 wpOp F (.fad 0) [v2] L2 fun v3 L3 =>
 wpOp F (.ld none) [v3] L3 fun v4 L4 =>
 wpOp F .lenSl [v4] L4 fun v5 L5 =>
 wpOp F (.bin .geq) [v5, (.i .i64 1000)] L5 fun v6 L6 =>
 condW v6
 (fin1 (some (.tup [(.i .i64 0), (.i .i64 3)])) Q L6)
 (D_tree_Tree_Add_3 F N Q x0 x1 x2 L6)))
 (wpOp F (.bin .neq) [x1, (.i .i64 (-1))] L1 fun v7 L7 =>
 gdOp F v7 true .mv [x0] L7 fun v8 L8 =>
 gdOp F v7 true .mv [x1] L8 fun v9 L9 =>
 gdOp F v7 true (.call (N k_tree_Tree_has)) [v8, v9] L9 fun v10 L10 =>
 gdOp F v7 true (.un .not) [v10] L10 fun v11 L11 =>
 wpOp F .pick [v7, v11, (.b false)] L11 fun v12 L12 =>
 condW v12
 (fin1 (some (.tup [(.i .i64 0), (.i .i64 1)])) Q L12)
 (wpOp F .nilchk [x0] L12 fun v13 L13 =>
 wpOp F (.fad 0) [v13] L13 fun v14 L14 =>
 wpOp F (.ld none) [v14] L14 fun v15 L15 =>
 wpOp F .lenSl [v15] L15 fun v16 L16 =>
 wpOp F (.bin .geq) [v16, (.i .i64 1000)] L16 fun v17 L17 =>
 condW v17
 (fin1 (some (.tup [(.i .i64 0), (.i .i64 3)])) Q L17)
 (D_tree_Tree_Add_3 F N Q x0 x1 x2 L17)))
theorem e_tree_Tree_Add_2 (F : TF) (N : TN) (Q : TQ) (l t : Env) (L : Lg) : wp F (q_tree_Tree_Add_2 N) l t L (fin [.tmp (.l 6), .tmp (.l 7)] Q) nE (fin [.tmp (.l 6), .tmp (.l 7)] Q) = D_tree_Tree_Add_2 F N Q (l 0) (l 1) (l 2) L := wpS (e_tree_Tree_Add_3 F N Q) (by kernel_rfl)
def q_tree_Tree_Add_1a (N : TN) : ACode := (.reg [⟨.l 6, none, .mv, [.c (.i .i64 0)]⟩, ⟨.l 7, none, .mv, [.c (.i .i64 0)]⟩])
def q_tree_Tree_Add_1 (N : TN) : ACode := (.seq (q_tree_Tree_Add_1a N) (q_tree_Tree_Add_2 N))
noncomputable def D_tree_Tree_Add_1 (F : TF) (N : TN) (Q : TQ) (x0 : AV) (x1 : AV) (x2 : AV) (L : Lg) : Prop :=
 D_tree_Tree_Add_2 F N Q x0 x1 x2 L
theorem e_tree_Tree_Add_1 (F : TF) (N : TN) (Q : TQ) (l t : Env) (L : Lg) : wp F (q_tree_Tree_Add_1 N) l t L (fin [.tmp (.l 6), .tmp (.l 7)] Q) nE (fin [.tmp (.l 6), .tmp (.l 7)] Q) = D_tree_Tree_Add_1 F N Q (l 0) (l 1) (l 2) L := wpS (e_tree_Tree_Add_2 F N Q) (by kernel_rfl)
/-- (*tarpaulin/tree.Tree).Add -/
def c_tree_Tree_Add (N : TN) : AFn := ⟨q_tree_Tree_Add_1 N, [.tmp (.l 6), .tmp (.l 7)]⟩
structure H_tree_Tree_Add (N : TN) (F : TF) : Prop where
  code : F (N k_tree_Tree_Add) = some (c_tree_Tree_Add N)
  tree_Tree_has : H_tree_Tree_has N F
theorem r_tree_Tree_Add {F : TF} {N : TN} (h : F (N k_tree_Tree_Add) = some (c_tree_Tree_Add N)) {Q : TQ} {a0 a1 a2 : AV} {L : Lg} (e : D_tree_Tree_Add_1 F N Q a0 a1 a2 L) : CallL F (N k_tree_Tree_Add) [a0, a1, a2] L Q :=
  CallL.of_wp h (Eq.mpr (Eq.trans (e_tree_Tree_Add_1 F N Q (initE [a0, a1, a2] 0) Env.nil L) (by kernel_rfl : _ = D_tree_Tree_Add_1 F N Q a0 a1 a2 L)) e)
def q_ctx_Set_add_3 (N : TN) : ACode := (.seq (.reg [⟨.t 20, none, .fad 8, [.l 4]⟩, ⟨.no, none, .st 1, [.t 20, .c (.i .i64 (-1))]⟩]) (.seq (.reg [⟨.t 21, none, .mv, [.l 0]⟩, ⟨.t 22, none, .nilchk, [.t 21]⟩, ⟨.t 23, none, .fad 4, [.t 22]⟩, ⟨.t 24, none, .ld none, [.t 23]⟩, ⟨.t 25, none, .fad 0, [.l 4]⟩, ⟨.t 26, none, .ld none, [.t 25]⟩, ⟨.t 27, none, .mv, [.l 0]⟩, ⟨.t 28, none, .nilchk, [.t 27]⟩, ⟨.t 29, none, .fad 2, [.t 28]⟩, ⟨.t 30, none, .ld none, [.t 29]⟩, ⟨.t 31, none, .lenSl, [.t 30]⟩, ⟨.no, none, .mset, [.t 24, .t 26, .t 31]⟩]) (.seq (.reg [⟨.t 32, none, .mv, [.l 0]⟩, ⟨.t 33, none, .mv, [.l 0]⟩, ⟨.t 34, none, .nilchk, [.t 33]⟩, ⟨.t 35, none, .fad 2, [.t 34]⟩, ⟨.t 36, none, .ld none, [.t 35]⟩, ⟨.t 37, none, .ld (some 9), [.l 4]⟩, ⟨.t 38, none, .bslice [.i .i64 0, .b false, .p none, .i .i64 0, .i .i64 0, .i .i64 0, .b false, .b false, .i .i64 0] 1 9 [0], [.t 37]⟩, ⟨.t 39, none, .app 9 64, [.t 36, .t 38]⟩, ⟨.t 40, none, .nilchk, [.t 32]⟩, ⟨.t 41, none, .fad 2, [.t 40]⟩, ⟨.no, none, .st 1, [.t 41, .t 39]⟩]) (.seq (.reg [⟨.t 42, none, .mv, [.l 0]⟩, ⟨.t 43, none, .nilchk, [.t 42]⟩, ⟨.t 44, none, .fad 2, [.t 43]⟩, ⟨.t 45, none, .ld none, [.t 44]⟩, ⟨.t 46, none, .lenSl, [.t 45]⟩, ⟨.t 47, none, .bin .sub, [.t 46, .c (.i .i64 1)]⟩, ⟨.l 6, none, .mv, [.t 47]⟩]) .ret))))
noncomputable def D_ctx_Set_add_3 (F : TF) (N : TN) (Q : TQ) (x0 : AV) (x4 : AV) (L : Lg) : Prop :=
 wpOp F (.fad 8) [x4] L fun v1 L1 =>
 wpOp F (.st 1) [v1, (.i .i64 (-1))] L1 fun _ L2 =>
 wpOp F .nilchk [x0] L2 fun v3 L3 =>
 wpOp F (.fad 4) [v3] L3 fun v4 L4 =>
 wpOp F (.ld none) [v4] L4 fun v5 L5 =>
 wpOp F (.fad 0) [x4] L5 fun v6 L6 =>
 wpOp F (.ld none) [v6] L6 fun v7 L7 =>
 wpOp F .nilchk [x0] L7 fun v8 L8 =>
 wpOp F (.fad 2) [v8] L8 fun v9 L9 =>
 wpOp F (.ld none) [v9] L9 fun v10 L10 =>
 wpOp F .lenSl [v10] L10 fun v11 L11 =>
 wpOp F .mset [v5, v7, v11] L11 fun _ L12 =>
 wpOp F .nilchk [x0] L12 fun v13 L13 =>
 wpOp F (.fad 2) [v13] L13 fun v14 L14 =>
 wpOp F (.ld none) [v14] L14 fun v15 L15 =>
 wpOp F (.ld (some 9)) [x4] L15 fun v16 L16 =>
 wpOp F (.bslice [.i .i64 0, .b false, .p none, .i .i64 0, .i .i64 0, .i .i64 0, .b false, .b false, .i .i64 0] 1 9 [0]) [v16] L16 fun v17 L17 =>
 wpOp F (.app 9 64) [v15, v17] L17 fun v18 L18 =>
 wpOp F .nilchk [x0] L18 fun v19 L19 =>
 wpOp F (.fad 2) [v19] L19 fun v20 L20 =>
 wpOp F (.st 1) [v20, v18] L20 fun _ L21 =>
 wpOp F .nilchk [x0] L21 fun v22 L22 =>
 wpOp F (.fad 2) [v22] L22 fun v23 L23 =>
 wpOp F (.ld none) [v23] L23 fun v24 L24 =>
 wpOp F .lenSl [v24] L24 fun v25 L25 =>
 wpOp F (.bin .sub) [v25, (.i .i64 1)] L25 fun v26 L26 =>
 fin1 (some v26) Q L26
theorem e_ctx_Set_add_3 (F : TF) (N : TN) (Q : TQ) (l t : Env) (L : Lg) : wp F (q_ctx_Set_add_3 N) l t L (fin [.tmp (.l 6)] Q) nE (fin [.tmp (.l 6)] Q) = D_ctx_Set_add_3 F N Q (l 0) (l 4) L := by kernel_rfl
def q_ctx_Set_add_2a (N : TN) : ACode := (.reg [⟨.t 8, none, .mv, [.l 0]⟩, ⟨.t 9, none, .nilchk, [.t 8]⟩, ⟨.t 10, none, .fad 1, [.t 9]⟩, ⟨.t 11, none, .ld none, [.t 10]⟩, ⟨.t 12, none, .mv, [.l 2]⟩, ⟨.t 13, none, .fad 1, [.l 4]⟩, ⟨.t 14, none, .ld none, [.t 13]⟩, ⟨.t 15, none, .un .not, [.t 14]⟩, ⟨.t 16, none, .call (N k_tree_Tree_Add), [.t 11, .t 12, .t 15]⟩, ⟨.t 7, none, .mv, [.t 16]⟩, ⟨.t 17, none, .ext 0, [.t 7]⟩, ⟨.t 18, none, .ext 1, [.t 7]⟩, ⟨.t 19, none, .fad 0, [.l 4]⟩, ⟨.no, none, .st 1, [.t 19, .t 17]⟩])
def q_ctx_Set_add_2 (N : TN) : ACode := (.seq (q_ctx_Set_add_2a N) (q_ctx_Set_add_3 N))
noncomputable def D_ctx_Set_add_2 (F : TF) (N : TN) (Q : TQ) (x0 : AV) (x2 : AV) (x4 : AV) (L : Lg) : Prop :=
 wpOp F .nilchk [x0] L fun v1 L1 =>
 wpOp F (.fad 1) [v1] L1 fun v2 L2 =>
 wpOp F (.ld none) [v2] L2 fun v3 L3 =>
 wpOp F (.fad 1) [x4] L3 fun v4 L4 =>
 wpOp F (.ld none) [v4] L4 fun v5 L5 =>
 wpOp F (.un .not) [v5] L5 fun v6 L6 =>
 CallL F (N k_tree_Tree_Add) [v3, x2, v6] L6 fun v7 L7 =>
 wpOp F (.ext 0) [v7] L7 fun v8 L8 =>
 wpOp F (.ext 1) [v7] L8 fun v9 L9 =>
 wpOp F (.fad 0) [x4] L9 fun v10 L10 =>
 wpOp F (.st 1) [v10, v8] L10 fun _ L11 =>
 D_ctx_Set_add_3 F N Q x0 x4 L11
theorem e_ctx_Set_add_2 (F : TF) (N : TN) (Q : TQ) (l t : Env) (L : Lg) : wp F (q_ctx_Set_add_2 N) l t L (fin [.tmp (.l 6)] Q) nE (fin [.tmp (.l 6)] Q) = D_ctx_Set_add_2 F N Q (l 0) (l 2) (l 4) L := wpS (e_ctx_Set_add_3 F N Q) (by kernel_rfl)
def q_ctx_Set_add_1a (N : TN) : ACode := (.reg [⟨.l 4, none, .box, [.l 1]⟩, ⟨.l 6, none, .mv, [.c (.i .i64 0)]⟩])
def q_ctx_Set_add_1 (N : TN) : ACode := (.seq (q_ctx_Set_add_1a N) (q_ctx_Set_add_2 N))
noncomputable def D_ctx_Set_add_1 (F : TF) (N : TN) (Q : TQ) (x0 : AV) (x1 : AV) (x2 : AV) (L : Lg) : Prop :=
 wpOp F .box [x1] L fun v1 L1 =>
 D_ctx_Set_add_2 F N Q x0 x2 v1 L1
theorem e_ctx_Set_add_1 (F : TF) (N : TN) (Q : TQ) (l t : Env) (L : Lg) : wp F (q_ctx_Set_add_1 N) l t L (fin [.tmp (.l 6)] Q) nE (fin [.tmp (.l 6)] Q) = D_ctx_Set_add_1 F N Q (l 0) (l 1) (l 2) L := wpS (e_ctx_Set_add_2 F N Q) (by kernel_rfl)
/-- (*tarpaulin/ctx.Set).add -/
def c_ctx_Set_add (N : TN) : AFn := ⟨q_ctx_Set_add_1 N, [.tmp (.l 6)]⟩
structure H_ctx_Set_add (N : TN) (F : TF) : Prop where
  code : F (N k_ctx_Set_add) = some (c_ctx_Set_add N)
  tree_Tree_Add : H_tree_Tree_Add N F
theorem r_ctx_Set_add {F : TF} {N : TN} (h : F (N k_ctx_Set_add) = some (c_ctx_Set_add N)) {Q : TQ} {a0 a1 a2 : AV} {L : Lg} (e : D_ctx_Set_add_1 F N Q a0 a1 a2 L) : CallL F (N k_ctx_Set_add) [a0, a1, a2] L Q :=
  CallL.of_wp h (Eq.mpr (Eq.trans (e_ctx_Set_add_1 F N Q (initE [a0, a1, a2] 0) Env.nil L) (by kernel_rfl : _ = D_ctx_Set_add_1 F N Q a0 a1 a2 L)) e)
def q_ctx_New_1 (N : TN) : ACode := (.seq (.reg [⟨.l 2, none, .mv, [.c (.p none)]⟩]) (.seq (.reg [⟨.t 4, none, .mv, [.l 0]⟩, ⟨.t 5, none, .call (N k_tree_New), []⟩, ⟨.t 6, none, .mkmap, []⟩, ⟨.t 7, none, .build [.p none, .p none, .sl none 0 0 0, .sl none 0 0 0, .m none] [(0, 1), (1, 1), (4, 1)], [.t 4, .t 5, .t 6]⟩, ⟨.t 8, none, .box, [.t 7]⟩, ⟨.l 3, none, .mv, [.t 8]⟩]) (.seq (.reg [⟨.t 9, none, .mv, [.l 3]⟩, ⟨.t 10, none, .build [.i .i64 0, .b false, .p none, .i .i64 0, .i .i64 0, .i .i64 0, .b false, .b false, .i .i64 0] [(1, 1)], [.c (.b true)]⟩, ⟨.t 11, none, .call (N k_ctx_Set_add), [.t 9, .t 10, .c (.i .i64 (-1))]⟩]) (.seq (.reg [⟨.t 12, none, .mv, [.l 3]⟩, ⟨.l 2, none, .mv, [.t 12]⟩]) .ret))))
noncomputable def D_ctx_New_1 (F : TF) (N : TN) (Q : TQ) (x0 : AV) (L : Lg) : Prop :=
 CallL F (N k_tree_New) [] L fun v1 L1 =>
 wpOp F .mkmap [] L1 fun v2 L2 =>
 wpOp F (.build [.p none, .p none, .sl none 0 0 0, .sl none 0 0 0, .m none] [(0, 1), (1, 1), (4, 1)]) [x0, v1, v2] L2 fun v3 L3 =>
 wpOp F .box [v3] L3 fun v4 L4 =>
 wpOp F (.build [.i .i64 0, .b false, .p none, .i .i64 0, .i .i64 0, .i .i64 0, .b false, .b false, .i .i64 0] [(1, 1)]) [(.b true)] L4 fun v5 L5 =>
 CallL F (N k_ctx_Set_add) [v4, v5, (.i .i64 (-1))] L5 fun v6 L6 =>
 fin1 (some v4) Q L6
theorem e_ctx_New_1 (F : TF) (N : TN) (Q : TQ) (l t : Env) (L : Lg) : wp F (q_ctx_New_1 N) l t L (fin [.tmp (.l 2)] Q) nE (fin [.tmp (.l 2)] Q) = D_ctx_New_1 F N Q (l 0) L := by kernel_rfl
/-- tarpaulin/ctx.New -/
def c_ctx_New (N : TN) : AFn := ⟨q_ctx_New_1 N, [.tmp (.l 2)]⟩
structure H_ctx_New (N : TN) (F : TF) : Prop where
  code : F (N k_ctx_New) = some (c_ctx_New N)
  tree_New : H_tree_New N F
  ctx_Set_add : H_ctx_Set_add N F
theorem r_ctx_New {F : TF} {N : TN} (h : F (N k_ctx_New) = some (c_ctx_New N)) {Q : TQ} {a0 : AV} {L : Lg} (e : D_ctx_New_1 F N Q a0 L) : CallL F (N k_ctx_New) [a0] L Q :=
  CallL.of_wp h (Eq.mpr (Eq.trans (e_ctx_New_1 F N Q (initE [a0] 0) Env.nil L) (by kernel_rfl : _ = D_ctx_New_1 F N Q a0 L)) e)
def q_ctx_Set_has_1 (N : TN) : ACode := (.seq (.reg [⟨.l 4, none, .mv, [.c (.b false)]⟩]) (.seq (.reg [⟨.t 5, none, .mv, [.l 0]⟩, ⟨.t 6, none, .eq true .ptr, [.t 5, .c (.p none)]⟩, ⟨.t 7, none, .mv, [.t 6]⟩, ⟨.t 8, some (.t 7, true), .mv, [.l 1]⟩, ⟨.t 9, some (.t 7, true), .bin .geq, [.t 8, .c (.i .i64 0)]⟩, ⟨.t 10, none, .pick, [.t 7, .t 9, .c (.b false)]⟩, ⟨.t 11, none, .mv, [.t 10]⟩, ⟨.t 12, some (.t 11, true), .mv, [.l 1]⟩, ⟨.t 13, some (.t 11, true), .mv, [.l 0]⟩, ⟨.t 14, some (.t 11, true), .nilchk, [.t 13]⟩, ⟨.t 15, some (.t 11, true), .fad 2, [.t 14]⟩, ⟨.t 16, some (.t 11, true), .ld none, [.t 15]⟩, ⟨.t 17, some (.t 11, true), .lenSl, [.t 16]⟩, ⟨.t 18, some (.t 11, true), .bin .lss, [.t 12, .t 17]⟩, ⟨.t 19, none, .pick, [.t 11, .t 18, .c (.b false)]⟩, ⟨.l 4, none, .mv, [.t 19]⟩]) .ret))
noncomputable def D_ctx_Set_has_1 (F : TF) (N : TN) (Q : TQ) (x0 : AV) (x1 : AV) (L : Lg) : Prop :=
 wpOp F (.eq true .ptr) [x0, (.p none)] L fun v1 L1 =>
 gdOp F v1 true .mv [x1] L1 fun v2 L2 =>
 gdOp F v1 true (.bin .geq) [v2, (.i .i64 0)] L2 fun v3 L3 =>
 wpOp F .pick [v1, v3, (.b false)] L3 fun v4 L4 =>
 gdOp F v4 true .mv [x1] L4 fun v5 L5 =>
 gdOp F v4 true .mv [x0] L5 fun v6 L6 =>
 gdOp F v4 true .nilchk [v6] L6 fun v7 L7 =>
 gdOp F v4 true (.fad 2) [v7] L7 fun v8 L8 =>
 gdOp F v4 true (.ld none) [v8] L8 fun v9 L9 =>
 gdOp F v4 true .lenSl [v9] L9 fun v10 L10 =>
 gdOp F v4 true (.bin .lss) [v5, v10] L10 fun v11 L11 =>
 wpOp F .pick [v4, v11, (.b false)] L11 fun v12 L12 =>
 fin1 (some v12) Q L12
theorem e_ctx_Set_has_1 (F : TF) (N : TN) (Q : TQ) (l t : Env) (L : Lg) : wp F (q_ctx_Set_has_1 N) l t L (fin [.tmp (.l 4)] Q) nE (fin [.tmp (.l 4)] Q) = D_ctx_Set_has_1 F N Q (l 0) (l 1) L := by kernel_rfl
/-- (*tarpaulin/ctx.Set).has -/
def c_ctx_Set_has (N : TN) : AFn := ⟨q_ctx_Set_has_1 N, [.tmp (.l 4)]⟩
structure H_ctx_Set_has (N : TN) (F : TF) : Prop where
  code : F (N k_ctx_Set_has) = some (c_ctx_Set_has N)
theorem r_ctx_Set_has {F : TF} {N : TN} (h : F (N k_ctx_Set_has) = some (c_ctx_Set_has N)) {Q : TQ} {a0 a1 : AV} {L : Lg} (e : D_ctx_Set_has_1 F N Q a0 a1 L) : CallL F (N k_ctx_Set_has) [a0, a1] L Q :=
  CallL.of_wp h (Eq.mpr (Eq.trans (e_ctx_Set_has_1 F N Q (initE [a0, a1] 0) Env.nil L) (by kernel_rfl : _ = D_ctx_Set_has_1 F N Q a0 a1 L)) e)
def q_ctx_Set_room_1 (N : TN) : ACode := (.seq (.reg [⟨.l 4, none, .mv, [.c (.i .i64 0)]⟩]) (.seq (.block 0 (.seq (.reg [⟨.t 6, none, .mv, [.l 0]⟩, ⟨.t 7, none, .mv, [.l 1]⟩, ⟨.t 8, none, .call (N k_ctx_Set_has), [.t 6, .t 7]⟩, ⟨.t 9, none, .un .not, [.t 8]⟩, ⟨.t 5, none, .mv, [.t 9]⟩]) (.cond (.t 5) (.seq (.reg [⟨.l 4, none, .mv, [.c (.i .i64 4)]⟩]) .ret) (.seq (.reg [⟨.t 11, none, .mv, [.l 0]⟩, ⟨.t 12, none, .nilchk, [.t 11]⟩, ⟨.t 13, none, .fad 2, [.t 12]⟩, ⟨.t 14, none, .ld none, [.t 13]⟩, ⟨.t 15, none, .lenSl, [.t 14]⟩, ⟨.t 16, none, .bin .geq, [.t 15, .c (.i .i64 64)]⟩, ⟨.t 10, none, .mv, [.t 16]⟩]) (.cond (.t 10) (.seq (.reg [⟨.l 4, none, .mv, [.c (.i .i64 3)]⟩]) .ret) .skip))))) (.seq (.reg [⟨.l 4, none, .mv, [.c (.i .i64 0)]⟩]) .ret)))
noncomputable def D_ctx_Set_room_1 (F : TF) (N : TN) (Q : TQ) (x0 : AV) (x1 : AV) (L : Lg) : Prop :=
 CallL F (N k_ctx_Set_has) [x0, x1] L fun v1 L1 =>
 wpOp F (.un .not) [v1] L1 fun v2 L2 =>
 condW v2
 (fin1 (some (.i .i64 4)) Q L2)
 (wpOp F .nilchk [x0] L2 fun v3 L3 =>
 wpOp F (.fad 2) [v3] L3 fun v4 L4 =>
 wpOp F (.ld none) [v4] L4 fun v5 L5 =>
 wpOp F .lenSl [v5] L5 fun v6 L6 =>
 wpOp F (.bin .geq) [v6, (.i .i64 64)] L6 fun v7 L7 =>
 condW v7
 (fin1 (some (.i .i64 3)) Q L7)
 (fin1 (some (.i .i64 0)) Q L7))
theorem e_ctx_Set_room_1 (F : TF) (N : TN) (Q : TQ) (l t : Env) (L : Lg) : wp F (q_ctx_Set_room_1 N) l t L (fin [.tmp (.l 4)] Q) nE (fin [.tmp (.l 4)] Q) = D_ctx_Set_room_1 F N Q (l 0) (l 1) L := by kernel_rfl
/-- (*tarpaulin/ctx.Set).room -/
def c_ctx_Set_room (N : TN) : AFn := ⟨q_ctx_Set_room_1 N, [.tmp (.l 4)]⟩
structure H_ctx_Set_room (N : TN) (F : TF) : Prop where
  code : F (N k_ctx_Set_room) = some (c_ctx_Set_room N)
  ctx_Set_has : H_ctx_Set_has N F
theorem r_ctx_Set_room {F : TF} {N : TN} (h : F (N k_ctx_Set_room) = some (c_ctx_Set_room N)) {Q : TQ} {a0 a1 : AV} {L : Lg} (e : D_ctx_Set_room_1 F N Q a0 a1 L) : CallL F (N k_ctx_Set_room) [a0, a1] L Q :=
  CallL.of_wp h (Eq.mpr (Eq.trans (e_ctx_Set_room_1 F N Q (initE [a0, a1] 0) Env.nil L) (by kernel_rfl : _ = D_ctx_Set_room_1 F N Q a0 a1 L)) e)
def q_chanq_Signal_1 (N : TN) : ACode := (.seq (.reg [⟨.l 0, none, .mv, [.c (.p none)]⟩]) (.seq (.reg [⟨.t 4, none, .call (N k_chanq_New), [.c (.i .i64 0)]⟩, ⟨.t 3, none, .mv, [.t 4]⟩, ⟨.t 5, none, .ext 0, [.t 3]⟩, ⟨.t 6, none, .ext 1, [.t 3]⟩, ⟨.l 1, none, .mv, [.t 5]⟩, ⟨.t 2, none, .mv, [.t 6]⟩]) (.seq (.reg [⟨.t 7, none, .mv, [.l 1]⟩, ⟨.t 8, none, .nilchk, [.t 7]⟩, ⟨.t 9, none, .fad 4, [.t 8]⟩, ⟨.no, none, .st 1, [.t 9, .c (.b true)]⟩]) (.seq (.reg [⟨.t 10, none, .mv, [.l 1]⟩, ⟨.l 0, none, .mv, [.t 10]⟩]) .ret))))
noncomputable def D_chanq_Signal_1 (F : TF) (N : TN) (Q : TQ) (L : Lg) : Prop :=
 CallL F (N k_chanq_New) [(.i .i64 0)] L fun v1 L1 =>
 wpOp F (.ext 0) [v1] L1 fun v2 L2 =>
 wpOp F (.ext 1) [v1] L2 fun v3 L3 =>
 wpOp F .nilchk [v2] L3 fun v4 L4 =>
 wpOp F (.fad 4) [v4] L4 fun v5 L5 =>
 wpOp F (.st 1) [v5, (.b true)] L5 fun _ L6 =>
 fin1 (some v2) Q L6
theorem e_chanq_Signal_1 (F : TF) (N : TN) (Q : TQ) (l t : Env) (L : Lg) : wp F (q_chanq_Signal_1 N) l t L (fin [.tmp (.l 0)] Q) nE (fin [.tmp (.l 0)] Q) = D_chanq_Signal_1 F N Q L := by kernel_rfl
/-- tarpaulin/chanq.Signal -/
def c_chanq_Signal (N : TN) : AFn := ⟨q_chanq_Signal_1 N, [.tmp (.l 0)]⟩
structure H_chanq_Signal (N : TN) (F : TF) : Prop where
  code : F (N k_chanq_Signal) = some (c_chanq_Signal N)
  chanq_New : H_chanq_New N F
theorem r_chanq_Signal {F : TF} {N : TN} (h : F (N k_chanq_Signal) = some (c_chanq_Signal N)) {Q : TQ} {L : Lg} (e : D_chanq_Signal_1 F N Q L) : CallL F (N k_chanq_Signal) [] L Q :=
  CallL.of_wp h (Eq.mpr (Eq.trans (e_chanq_Signal_1 F N Q (initE [] 0) Env.nil L) (by kernel_rfl : _ = D_chanq_Signal_1 F N Q L)) e)
def q_chanq_Chan_end_1_1 (N : TN) : ACode := (.seq (.reg [⟨.l 2, none, .box, [.l 0]⟩, ⟨.l 3, none, .mv, [.c (.b false)]⟩]) (.seq (.reg [⟨.t 4, none, .fad 0, [.l 2]⟩, ⟨.t 5, none, .ld none, [.t 4]⟩, ⟨.t 6, none, .fad 0, [.l 1]⟩, ⟨.t 7, none, .ld none, [.t 6]⟩, ⟨.t 8, none, .bin .eql, [.t 5, .t 7]⟩, ⟨.l 3, none, .mv, [.t 8]⟩]) .ret))
noncomputable def D_chanq_Chan_end_1_1 (F : TF) (N : TN) (Q : TQ) (x0 : AV) (x1 : AV) (L : Lg) : Prop :=
 wpOp F .box [x0] L fun v1 L1 =>
 wpOp F (.fad 0) [v1] L1 fun v2 L2 =>
 wpOp F (.ld none) [v2] L2 fun v3 L3 =>
 wpOp F (.fad 0) [x1] L3 fun v4 L4 =>
 wpOp F (.ld none) [v4] L4 fun v5 L5 =>
 wpOp F (.bin .eql) [v3, v5] L5 fun v6 L6 =>
 fin1 (some v6) Q L6
theorem e_chanq_Chan_end_1_1 (F : TF) (N : TN) (Q : TQ) (l t : Env) (L : Lg) : wp F (q_chanq_Chan_end_1_1 N) l t L (fin [.tmp (.l 3)] Q) nE (fin [.tmp (.l 3)] Q) = D_chanq_Chan_end_1_1 F N Q (l 0) (l 1) L := by kernel_rfl
/-- (*tarpaulin/chanq.Chan).end$1 -/
def c_chanq_Chan_end_1 (N : TN) : AFn := ⟨q_chanq_Chan_end_1_1 N, [.tmp (.l 3)]⟩
structure H_chanq_Chan_end_1 (N : TN) (F : TF) : Prop where
  code : F (N k_chanq_Chan_end_1) = some (c_chanq_Chan_end_1 N)
theorem r_chanq_Chan_end_1 {F : TF} {N : TN} (h : F (N k_chanq_Chan_end_1) = some (c_chanq_Chan_end_1 N)) {Q : TQ} {a0 a1 : AV} {L : Lg} (e : D_chanq_Chan_end_1_1 F N Q a0 a1 L) : CallL F (N k_chanq_Chan_end_1) [a0, a1] L Q :=
  CallL.of_wp h (Eq.mpr (Eq.trans (e_chanq_Chan_end_1_1 F N Q (initE [a0, a1] 0) Env.nil L) (by kernel_rfl : _ = D_chanq_Chan_end_1_1 F N Q a0 a1 L)) e)
def q_slices_IndexFunc_WakeWake_3 (N : TN) : ACode := (.seq (.reg [⟨.l 4, none, .mv, [.c (.i .i64 (-1))]⟩]) .ret)
noncomputable def D_slices_IndexFunc_WakeWake_3 (F : TF) (N : TN) (Q : TQ) (L : Lg) : Prop :=
 fin1 (some (.i .i64 (-1))) Q L
theorem e_slices_IndexFunc_WakeWake_3 (F : TF) (N : TN) (Q : TQ) (l t : Env) (L : Lg) : wp F (q_slices_IndexFunc_WakeWake_3 N) l t L (fin [.tmp (.l 4)] Q) nE (fin [.tmp (.l 4)] Q) = D_slices_IndexFunc_WakeWake_3 F N Q L := by kernel_rfl
def w_slices_IndexFunc_WakeWake_2 (F : TF) (N : TN) (Q : TQ) : Kn := (fun (l t : Env) (L : Lg) => D_slices_IndexFunc_WakeWake_3 F N Q L)
def y_slices_IndexFunc_WakeWake_5 (F : TF) (N : TN) (Q : TQ) : Nat → Kn := (fun (j : Nat) (l t : Env) (L : Lg) => bif Nat.beq j 0 then (w_slices_IndexFunc_WakeWake_2 F N Q) l t L else nE j l t L)
def q_slices_IndexFunc_WakeWake_7 (N : TN) : ACode := (.seq (.reg [⟨.t 9, none, .bin .lss, [.l 8, .l 7]⟩]) (.seq (.cond (.t 9) .skip (.exit 0)) (.seq (.block 1 (.seq (.reg [⟨.t 10, none, .mv, [.l 8]⟩, ⟨.l 5, none, .mv, [.t 10]⟩]) (.seq (.reg [⟨.t 11, none, .mv, [.l 1]⟩, ⟨.t 12, none, .mv, [.l 0]⟩, ⟨.t 13, none, .mv, [.l 5]⟩, ⟨.t 14, none, .iad 5, [.t 12, .t 13]⟩, ⟨.t 15, none, .ld (some 5), [.t 14]⟩, ⟨.t 16, none, .callv, [.t 11, .t 15]⟩]) (.cond (.t 16) (.seq (.reg [⟨.t 17, none, .mv, [.l 5]⟩, ⟨.l 4, none, .mv, [.t 17]⟩]) .ret) .skip)))) (.reg [⟨.t 18, none, .bin .add, [.l 8, .c (.i .i64 1)]⟩, ⟨.l 8, none, .mv, [.t 18]⟩]))))
noncomputable def D_slices_IndexFunc_WakeWake_7 (F : TF) (N : TN) (Q : TQ) (k1 : TK) (l : Env) (L : Lg) : Prop :=
 wpOp F (.bin .lss) [(l 8), (l 7)] L fun v1 L1 =>
 condW v1
 (wpOp F (.iad 5) [(l 0), (l 8)] L1 fun v2 L2 =>
 wpOp F (.ld (some 5)) [v2] L2 fun v3 L3 =>
 wpOp F .callv [(l 1), v3] L3 fun v4 L4 =>
 condW v4
 (fin1 (some (l 8)) Q L4)
 (wpOp F (.bin .add) [(l 8), (.i .i64 1)] L4 fun v5 L5 =>
 k1 (Env.put (Env.put l 5 (l 8)) 8 v5) L5))
 (D_slices_IndexFunc_WakeWake_3 F N Q L1)
theorem e_slices_IndexFunc_WakeWake_7 (F : TF) (N : TN) (Q : TQ) (k1 : TK) (l t : Env) (L : Lg) : wp F (q_slices_IndexFunc_WakeWake_7 N) l t L (fun (l _ : Env) (L : Lg) => k1 l L) (y_slices_IndexFunc_WakeWake_5 F N Q) (fin [.tmp (.l 4)] Q) = D_slices_IndexFunc_WakeWake_7 F N Q k1 l L := by kernel_rfl
def q_slices_IndexFunc_WakeWake_6 (N : TN) : ACode := (.loop (q_slices_IndexFunc_WakeWake_7 N))
noncomputable def D_slices_IndexFunc_WakeWake_6 (F : TF) (N : TN) (Q : TQ) (l : Env) (L : Lg) : Prop :=
 loopW (fun l t L k1 => D_slices_IndexFunc_WakeWake_7 F N Q k1 l L) l L
theorem e_slices_IndexFunc_WakeWake_6 (F : TF) (N : TN) (Q : TQ) (l t : Env) (L : Lg) : wp F (q_slices_IndexFunc_WakeWake_6 N) l t L (w_slices_IndexFunc_WakeWake_2 F N Q) (y_slices_IndexFunc_WakeWake_5 F N Q) (fin [.tmp (.l 4)] Q) = D_slices_IndexFunc_WakeWake_6 F N Q l L := wpL (fun l t L k1 => e_slices_IndexFunc_WakeWake_7 F N Q k1 l t L) (by kernel_rfl)
def q_slices_IndexFunc_WakeWake_5 (N : TN) : ACode := (.block 0 (q_slices_IndexFunc_WakeWake_6 N))
theorem e_slices_IndexFunc_WakeWake_5 (F : TF) (N : TN) (Q : TQ) (l t : Env) (L : Lg) : wp F (q_slices_IndexFunc_WakeWake_5 N) l t L (w_slices_IndexFunc_WakeWake_2 F N Q) nE (fin [.tmp (.l 4)] Q) = D_slices_IndexFunc_WakeWake_6 F N Q l L := wpB (e_slices_IndexFunc_WakeWake_6 F N Q l t L)
def q_slices_IndexFunc_WakeWake_4a (N : TN) : ACode := (.reg [⟨.t 6, none, .mv, [.l 0]⟩, ⟨.l 7, none, .lenSl, [.t 6]⟩, ⟨.l 8, none, .mv, [.c (.i .i64 0)]⟩])
def q_slices_IndexFunc_WakeWake_4 (N : TN) : ACode := (.seq (q_slices_IndexFunc_WakeWake_4a N) (q_slices_IndexFunc_WakeWake_5 N))
noncomputable def D_slices_IndexFunc_WakeWake_4 (F : TF) (N : TN) (Q : TQ) (l : Env) (L : Lg) : Prop :=
 wpOp F .lenSl [(l 0)] L fun v1 L1 =>
 D_slices_IndexFunc_WakeWake_6 F N Q (Env.put (Env.put l 7 v1) 8 (.i .i64 0)) L1
theorem e_slices_IndexFunc_WakeWake_4 (F : TF) (N : TN) (Q : TQ) (l t : Env) (L : Lg) : wp F (q_slices_IndexFunc_WakeWake_4 N) l t L (w_slices_IndexFunc_WakeWake_2 F N Q) nE (fin [.tmp (.l 4)] Q) = D_slices_IndexFunc_WakeWake_4 F N Q l L := wpS (e_slices_IndexFunc_WakeWake_5 F N Q) (by kernel_rfl)
def q_slices_IndexFunc_WakeWake_2 (N : TN) : ACode := (.seq (q_slices_IndexFunc_WakeWake_4 N) (q_slices_IndexFunc_WakeWake_3 N))
theorem e_slices_IndexFunc_WakeWake_2 (F : TF) (N : TN) (Q : TQ) (l t : Env) (L : Lg) : wp F (q_slices_IndexFunc_WakeWake_2 N) l t L (fin [.tmp (.l 4)] Q) nE (fin [.tmp (.l 4)] Q) = D_slices_IndexFunc_WakeWake_4 F N Q l L := wpS (e_slices_IndexFunc_WakeWake_3 F N Q) (e_slices_IndexFunc_WakeWake_4 F N Q l t L)
def q_slices_IndexFunc_WakeWake_1a (N : TN) : ACode := (.reg [⟨.l 4, none, .mv, [.c (.i .i64 0)]⟩])
def q_slices_IndexFunc_WakeWake_1 (N : TN) : ACode := (.seq (q_slices_IndexFunc_WakeWake_1a N) (q_slices_IndexFunc_WakeWake_2 N))
noncomputable def D_slices_IndexFunc_WakeWake_1 (F : TF) (N : TN) (Q : TQ) (l : Env) (L : Lg) : Prop :=
 D_slices_IndexFunc_WakeWake_4 F N Q (Env.put l 4 (.i .i64 0)) L
theorem e_slices_IndexFunc_WakeWake_1 (F : TF) (N : TN) (Q : TQ) (l t : Env) (L : Lg) : wp F (q_slices_IndexFunc_WakeWake_1 N) l t L (fin [.tmp (.l 4)] Q) nE (fin [.tmp (.l 4)] Q) = D_slices_IndexFunc_WakeWake_1 F N Q l L := wpS (e_slices_IndexFunc_WakeWake_2 F N Q) (by kernel_rfl)
/-- slices.IndexFunc[[]tarpaulin/api.Wake,tarpaulin/api.Wake] -/
def c_slices_IndexFunc_WakeWake (N : TN) : AFn := ⟨q_slices_IndexFunc_WakeWake_1 N, [.tmp (.l 4)]⟩
structure H_slices_IndexFunc_WakeWake (N : TN) (F : TF) : Prop where
  code : F (N k_slices_IndexFunc_WakeWake) = some (c_slices_IndexFunc_WakeWake N)
theorem r_slices_IndexFunc_WakeWake {F : TF} {N : TN} (h : F (N k_slices_IndexFunc_WakeWake) = some (c_slices_IndexFunc_WakeWake N)) {Q : TQ} {a0 a1 : AV} {L : Lg} (e : D_slices_IndexFunc_WakeWake_1 F N Q (initE [a0, a1] 0) L) : CallL F (N k_slices_IndexFunc_WakeWake) [a0, a1] L Q :=
  CallL.of_wp h (Eq.mpr (Eq.trans (e_slices_IndexFunc_WakeWake_1 F N Q (initE [a0, a1] 0) Env.nil L) (by kernel_rfl : _ = D_slices_IndexFunc_WakeWake_1 F N Q (initE [a0, a1] 0) L)) e)
def q_slices_ContainsFunc_WakeWake_1 (N : TN) : ACode := (.seq (.reg [⟨.l 4, none, .mv, [.c (.b false)]⟩]) (.seq (.reg [⟨.t 5, none, .mv, [.l 0]⟩, ⟨.t 6, none, .mv, [.l 1]⟩, ⟨.t 7, none, .call (N k_slices_IndexFunc_WakeWake), [.t 5, .t 6]⟩, ⟨.t 8, none, .bin .geq, [.t 7, .c (.i .i64 0)]⟩, ⟨.l 4, none, .mv, [.t 8]⟩]) .ret))
noncomputable def D_slices_ContainsFunc_WakeWake_1 (F : TF) (N : TN) (Q : TQ) (x0 : AV) (x1 : AV) (L : Lg) : Prop :=
 CallL F (N k_slices_IndexFunc_WakeWake) [x0, x1] L fun v1 L1 =>
 wpOp F (.bin .geq) [v1, (.i .i64 0)] L1 fun v2 L2 =>
 fin1 (some v2) Q L2
theorem e_slices_ContainsFunc_WakeWake_1 (F : TF) (N : TN) (Q : TQ) (l t : Env) (L : Lg) : wp F (q_slices_ContainsFunc_WakeWake_1 N) l t L (fin [.tmp (.l 4)] Q) nE (fin [.tmp (.l 4)] Q) = D_slices_ContainsFunc_WakeWake_1 F N Q (l 0) (l 1) L := by kernel_rfl
/-- slices.ContainsFunc[[]tarpaulin/api.Wake,tarpaulin/api.Wake] -/
def c_slices_ContainsFunc_WakeWake (N : TN) : AFn := ⟨q_slices_ContainsFunc_WakeWake_1 N, [.tmp (.l 4)]⟩
structure H_slices_ContainsFunc_WakeWake (N : TN) (F : TF) : Prop where
  code : F (N k_slices_ContainsFunc_WakeWake) = some (c_slices_ContainsFunc_WakeWake N)
  slices_IndexFunc_WakeWake : H_slices_IndexFunc_WakeWake N F
theorem r_slices_ContainsFunc_WakeWake {F : TF} {N : TN} (h : F (N k_slices_ContainsFunc_WakeWake) = some (c_slices_ContainsFunc_WakeWake N)) {Q : TQ} {a0 a1 : AV} {L : Lg} (e : D_slices_ContainsFunc_WakeWake_1 F N Q a0 a1 L) : CallL F (N k_slices_ContainsFunc_WakeWake) [a0, a1] L Q :=
  CallL.of_wp h (Eq.mpr (Eq.trans (e_slices_ContainsFunc_WakeWake_1 F N Q (initE [a0, a1] 0) Env.nil L) (by kernel_rfl : _ = D_slices_ContainsFunc_WakeWake_1 F N Q a0 a1 L)) e)
def q_chanq_Chan_end_4 (N : TN) : ACode := (.seq (.reg [⟨.t 55, none, .mv, [.l 2]⟩, ⟨.l 2, none, .mv, [.t 55]⟩]) .ret)
noncomputable def D_chanq_Chan_end_4 (F : TF) (N : TN) (Q : TQ) (x2 : AV) (L : Lg) : Prop :=
 fin1 (some x2) Q L
theorem e_chanq_Chan_end_4 (F : TF) (N : TN) (Q : TQ) (l t : Env) (L : Lg) : wp F (q_chanq_Chan_end_4 N) l t L (fin [.tmp (.l 2)] Q) nE (fin [.tmp (.l 2)] Q) = D_chanq_Chan_end_4 F N Q (l 2) L := by kernel_rfl
def w_chanq_Chan_end_3 (F : TF) (N : TN) (Q : TQ) : Kn := (fun (l t : Env) (L : Lg) => D_chanq_Chan_end_4 F N Q (l 2) L)
def y_chanq_Chan_end_6 (F : TF) (N : TN) (Q : TQ) : Nat → Kn := (fun (j : Nat) (l t : Env) (L : Lg) => bif Nat.beq j 0 then (w_chanq_Chan_end_3 F N Q) l t L else nE j l t L)
def q_chanq_Chan_end_11 (N : TN) : ACode := (.reg [⟨.t 54, none, .bin .add, [.l 20, .c (.i .i64 1)]⟩, ⟨.l 20, none, .mv, [.t 54]⟩])
noncomputable def D_chanq_Chan_end_11 (F : TF) (N : TN) (Q : TQ) (k1 : TK) (l : Env) (L : Lg) : Prop :=
 wpOp F (.bin .add) [(l 20), (.i .i64 1)] L fun v1 L1 =>
 k1 (Env.put l 20 v1) L1
theorem e_chanq_Chan_end_11 (F : TF) (N : TN) (Q : TQ) (k1 : TK) (l t : Env) (L : Lg) : wp F (q_chanq_Chan_end_11 N) l t L (fun (l _ : Env) (L : Lg) => k1 l L) (y_chanq_Chan_end_6 F N Q) (fin [.tmp (.l 2)] Q) = D_chanq_Chan_end_11 F N Q k1 l L := by kernel_rfl
def w_chanq_Chan_end_10 (F : TF) (N : TN) (Q : TQ) (k1 : TK) : Kn := (fun (l t : Env) (L : Lg) => D_chanq_Chan_end_11 F N Q k1 l L)
def y_chanq_Chan_end_12 (F : TF) (N : TN) (Q : TQ) (k1 : TK) : Nat → Kn := (fun (j : Nat) (l t : Env) (L : Lg) => bif Nat.beq j 1 then (w_chanq_Chan_end_10 F N Q k1) l t L else (y_chanq_Chan_end_6 F N Q) j l t L)
def y_chanq_Chan_end_15 (F : TF) (N : TN) (Q : TQ) (k1 : TK) : Nat → Kn := (fun (j : Nat) (l t : Env) (L : Lg) => bif Nat.beq j 2 then (w_chanq_Chan_end_10 F N Q k1) l t L else (y_chanq_Chan_end_12 F N Q k1) j l t L)
def q_chanq_Chan_end_17 (N : TN) : ACode := (.seq (.seq (.reg [⟨.t 29, none, .mv, [.l 6]⟩]) (.cond (.t 29) .skip (.exit 2))) (.seq (.block 3 (.seq (.reg [⟨.t 35, none, .mv, [.l 2]⟩, ⟨.t 36, none, .mkfn (N k_chanq_Chan_end_1) 0, [.l 5]⟩, ⟨.t 37, none, .call (N k_slices_ContainsFunc_WakeWake), [.t 35, .t 36]⟩, ⟨.t 38, none, .un .not, [.t 37]⟩]) (.cond (.t 38) (.reg [⟨.t 39, none, .mv, [.l 2]⟩, ⟨.t 40, none, .fad 0, [.l 5]⟩, ⟨.t 41, none, .ld none, [.t 40]⟩, ⟨.t 42, none, .fad 1, [.l 5]⟩, ⟨.t 43, none, .ld none, [.t 42]⟩, ⟨.t 44, none, .mv, [.l 4]⟩, ⟨.t 45, none, .mv, [.l 0]⟩, ⟨.t 46, none, .nilchk, [.t 45]⟩, ⟨.t 47, none, .fad 2, [.t 46]⟩, ⟨.t 48, none, .ld none, [.t 47]⟩, ⟨.t 49, none, .eq false .ptr, [.t 44, .t 48]⟩, ⟨.t 50, none, .build [.i .i64 0, .i .i64 0, .i .i64 0, .b false, .b false] [(0, 1), (1, 1), (4, 1)], [.t 41, .t 43, .t 49]⟩, ⟨.t 51, none, .bslice [.i .i64 0, .i .i64 0, .i .i64 0, .b false, .b false] 1 5 [0], [.t 50]⟩, ⟨.t 52, none, .app 5 32, [.t 39, .t 51]⟩, ⟨.l 2, none, .mv, [.t 52]⟩]) .skip))) (.seq (.seq (.reg [⟨.l 53, none, .ld (some 3), [.l 5]⟩]) (.reg [⟨.l 5, none, .alloc [.i .i64 0, .i .i64 0, .i .i64 0], []⟩, ⟨.no, none, .st 3, [.l 5, .l 53]⟩])) (.reg [⟨.t 31, none, .mv, [.l 4]⟩, ⟨.t 32, none, .call (N k_wait_Queue_Pop), [.t 31]⟩, ⟨.t 30, none, .mv, [.t 32]⟩, ⟨.t 33, none, .ext 0, [.t 30]⟩, ⟨.t 34, none, .ext 1, [.t 30]⟩, ⟨.no, none, .st 3, [.l 5, .t 33]⟩, ⟨.l 6, none, .mv, [.t 34]⟩]))))
noncomputable def D_chanq_Chan_end_17 (F : TF) (N : TN) (Q : TQ) (k1 : TK) (k2 : TK) (l : Env) (L : Lg) : Prop :=
 condW (l 6)
 (wpOp F (.mkfn (N k_chanq_Chan_end_1) 0) [(l 5)] L fun v1 L1 =>
 CallL F (N k_slices_ContainsFunc_WakeWake) [(l 2), v1] L1 fun v2 L2 =>
 wpOp F (.un .not) [v2] L2 fun v3 L3 =>
 condW v3
 (wpOp F (.fad 0) [(l 5)] L3 fun v4 L4 =>
 wpOp F (.ld none) [v4] L4 fun v5 L5 =>
 wpOp F (.fad 1) [(l 5)] L5 fun v6 L6 =>
 wpOp F (.ld none) [v6] L6 fun v7 L7 =>
 wpOp F .nilchk [(l 0)] L7 fun v8 L8 =>
 wpOp F (.fad 2) [v8] L8 fun v9 L9 =>
 wpOp F (.ld none) [v9] L9 fun v10 L10 =>
 wpOp F (.eq false .ptr) [(l 4), v10] L10 fun v11 L11 =>
 wpOp F (.build [.i .i64 0, .i .i64 0, .i .i64 0, .b false, .b false] [(0, 1), (1, 1), (4, 1)]) [v5, v7, v11] L11 fun v12 L12 =>
 wpOp F (.bslice [.i .i64 0, .i .i64 0, .i .i64 0, .b false, .b false] 1 5 [0]) [v12] L12 fun v13 L13 =>
 wpOp F (.app 5 32) [(l 2), v13] L13 fun v14 L14 =>
 wpOp F (.ld (some 3)) [(l 5)] L14 fun v15 L15 =>
 wpOp F (.alloc [.i .i64 0, .i .i64 0, .i .i64 0]) [] L15 fun v16 L16 =>
 wpOp F (.st 3) [v16, v15] L16 fun _ L17 =>
 CallL F (N k_wait_Queue_Pop) [(l 4)] L17 fun v18 L18 =>
 wpOp F (.ext 0) [v18] L18 fun v19 L19 =>
 wpOp F (.ext 1) [v18] L19 fun v20 L20 =>
 wpOp F (.st 3) [v16, v19] L20 fun _ L21 =>
 k2 (Env.put (Env.put (Env.put (Env.put l 2 v14) 53 v15) 5 v16) 6 v20) L21)
 (wpOp F (.ld (some 3)) [(l 5)] L3 fun v22 L22 =>
 wpOp F (.alloc [.i .i64 0, .i .i64 0, .i .i64 0]) [] L22 fun v23 L23 =>
 wpOp F (.st 3) [v23, v22] L23 fun _ L24 =>
 CallL F (N k_wait_Queue_Pop) [(l 4)] L24 fun v25 L25 =>
 wpOp F (.ext 0) [v25] L25 fun v26 L26 =>
 wpOp F (.ext 1) [v25] L26 fun v27 L27 =>
 wpOp F (.st 3) [v23, v26] L27 fun _ L28 =>
 k2 (Env.put (Env.put (Env.put l 53 v22) 5 v23) 6 v27) L28))
 (D_chanq_Chan_end_11 F N Q k1 l L)
theorem e_chanq_Chan_end_17 (F : TF) (N : TN) (Q : TQ) (k1 : TK) (k2 : TK) (l t : Env) (L : Lg) : wp F (q_chanq_Chan_end_17 N) l t L (fun (l _ : Env) (L : Lg) => k2 l L) (y_chanq_Chan_end_15 F N Q k1) (fin [.tmp (.l 2)] Q) = D_chanq_Chan_end_17 F N Q k1 k2 l L := by kernel_rfl
def q_chanq_Chan_end_16 (N : TN) : ACode := (.loop (q_chanq_Chan_end_17 N))
noncomputable def D_chanq_Chan_end_16 (F : TF) (N : TN) (Q : TQ) (k1 : TK) (l : Env) (L : Lg) : Prop :=
 loopW (fun l t L k2 => D_chanq_Chan_end_17 F N Q k1 k2 l L) l L
theorem e_chanq_Chan_end_16 (F : TF) (N : TN) (Q : TQ) (k1 : TK) (l t : Env) (L : Lg) : wp F (q_chanq_Chan_end_16 N) l t L (w_chanq_Chan_end_10 F N Q k1) (y_chanq_Chan_end_15 F N Q k1) (fin [.tmp (.l 2)] Q) = D_chanq_Chan_end_16 F N Q k1 l L := wpL (fun l t L k2 => e_chanq_Chan_end_17 F N Q k1 k2 l t L) (by kernel_rfl)
def q_chanq_Chan_end_15 (N : TN) : ACode := (.block 2 (q_chanq_Chan_end_16 N))
theorem e_chanq_Chan_end_15 (F : TF) (N : TN) (Q : TQ) (k1 : TK) (l t : Env) (L : Lg) : wp F (q_chanq_Chan_end_15 N) l t L (w_chanq_Chan_end_10 F N Q k1) (y_chanq_Chan_end_12 F N Q k1) (fin [.tmp (.l 2)] Q) = D_chanq_Chan_end_16 F N Q k1 l L := wpB (e_chanq_Chan_end_16 F N Q k1 l t L)
def q_chanq_Chan_end_14a (N : TN) : ACode := (.reg [⟨.t 25, none, .mv, [.l 4]⟩, ⟨.t 26, none, .call (N k_wait_Queue_Pop), [.t 25]⟩, ⟨.t 24, none, .mv, [.t 26]⟩, ⟨.t 27, none, .ext 0, [.t 24]⟩, ⟨.t 28, none, .ext 1, [.t 24]⟩, ⟨.l 5, none, .alloc [.i .i64 0, .i .i64 0, .i .i64 0], []⟩, ⟨.no, none, .st 3, [.l 5, .t 27]⟩, ⟨.l 6, none, .mv, [.t 28]⟩])
def q_chanq_Chan_end_14 (N : TN) : ACode := (.seq (q_chanq_Chan_end_14a N) (q_chanq_Chan_end_15 N))
noncomputable def D_chanq_Chan_end_14 (F : TF) (N : TN) (Q : TQ) (k1 : TK) (l : Env) (L : Lg) : Prop :=
 CallL F (N k_wait_Queue_Pop) [(l 4)] L fun v1 L1 =>
 wpOp F (.ext 0) [v1] L1 fun v2 L2 =>
 wpOp F (.ext 1) [v1] L2 fun v3 L3 =>
 wpOp F (.alloc [.i .i64 0, .i .i64 0, .i .i64 0]) [] L3 fun v4 L4 =>
 wpOp F (.st 3) [v4, v2] L4 fun _ L5 =>
 D_chanq_Chan_end_16 F N Q k1 (Env.put (Env.put l 5 v4) 6 v3) L5
theorem e_chanq_Chan_end_14 (F : TF) (N : TN) (Q : TQ) (k1 : TK) (l t : Env) (L : Lg) : wp F (q_chanq_Chan_end_14 N) l t L (w_chanq_Chan_end_10 F N Q k1) (y_chanq_Chan_end_12 F N Q k1) (fin [.tmp (.l 2)] Q) = D_chanq_Chan_end_14 F N Q k1 l L := wpS (e_chanq_Chan_end_15 F N Q k1) (by kernel_rfl)
def q_chanq_Chan_end_13a (N : TN) : ACode := (.reg [⟨.t 22, none, .iad 1, [.l 18, .l 20]⟩, ⟨.t 23, none, .ld none, [.t 22]⟩, ⟨.l 4, none, .mv, [.t 23]⟩])
def q_chanq_Chan_end_13 (N : TN) : ACode := (.seq (q_chanq_Chan_end_13a N) (q_chanq_Chan_end_14 N))
noncomputable def D_chanq_Chan_end_13 (F : TF) (N : TN) (Q : TQ) (k1 : TK) (l : Env) (L : Lg) : Prop :=
 wpOp F (.iad 1) [(l 18), (l 20)] L fun v1 L1 =>
 wpOp F (.ld none) [v1] L1 fun v2 L2 =>
 D_chanq_Chan_end_14 F N Q k1 (Env.put l 4 v2) L2
theorem e_chanq_Chan_end_13 (F : TF) (N : TN) (Q : TQ) (k1 : TK) (l t : Env) (L : Lg) : wp F (q_chanq_Chan_end_13 N) l t L (w_chanq_Chan_end_10 F N Q k1) (y_chanq_Chan_end_12 F N Q k1) (fin [.tmp (.l 2)] Q) = D_chanq_Chan_end_13 F N Q k1 l L := wpS (e_chanq_Chan_end_14 F N Q k1) (by kernel_rfl)
def q_chanq_Chan_end_12 (N : TN) : ACode := (.block 1 (q_chanq_Chan_end_13 N))
theorem e_chanq_Chan_end_12 (F : TF) (N : TN) (Q : TQ) (k1 : TK) (l t : Env) (L : Lg) : wp F (q_chanq_Chan_end_12 N) l t L (w_chanq_Chan_end_10 F N Q k1) (y_chanq_Chan_end_6 F N Q) (fin [.tmp (.l 2)] Q) = D_chanq_Chan_end_13 F N Q k1 l L := wpB (e_chanq_Chan_end_13 F N Q k1 l t L)
def q_chanq_Chan_end_10 (N : TN) : ACode := (.seq (q_chanq_Chan_end_12 N) (q_chanq_Chan_end_11 N))
theorem e_chanq_Chan_end_10 (F : TF) (N : TN) (Q : TQ) (k1 : TK) (l t : Env) (L : Lg) : wp F (q_chanq_Chan_end_10 N) l t L (fun (l _ : Env) (L : Lg) => k1 l L) (y_chanq_Chan_end_6 F N Q) (fin [.tmp (.l 2)] Q) = D_chanq_Chan_end_13 F N Q k1 l L := wpS (e_chanq_Chan_end_11 F N Q k1) (e_chanq_Chan_end_12 F N Q k1 l t L)
def q_chanq_Chan_end_9a (N : TN) : ACode := (.cond (.t 21) .skip (.exit 0))
def q_chanq_Chan_end_9 (N : TN) : ACode := (.seq (q_chanq_Chan_end_9a N) (q_chanq_Chan_end_10 N))
noncomputable def D_chanq_Chan_end_9 (F : TF) (N : TN) (Q : TQ) (k1 : TK) (l : Env) (t21 : AV) (L : Lg) : Prop :=
 condW t21
 (D_chanq_Chan_end_13 F N Q k1 l L)
 (D_chanq_Chan_end_4 F N Q (l 2) L)
theorem e_chanq_Chan_end_9 (F : TF) (N : TN) (Q : TQ) (k1 : TK) (l t : Env) (L : Lg) : wp F (q_chanq_Chan_end_9 N) l t L (fun (l _ : Env) (L : Lg) => k1 l L) (y_chanq_Chan_end_6 F N Q) (fin [.tmp (.l 2)] Q) = D_chanq_Chan_end_9 F N Q k1 l (t 21) L := wpS (e_chanq_Chan_end_10 F N Q k1) (by kernel_rfl)
def q_chanq_Chan_end_8a (N : TN) : ACode := (.reg [⟨.t 21, none, .bin .lss, [.l 20, .l 19]⟩])
def q_chanq_Chan_end_8 (N : TN) : ACode := (.seq (q_chanq_Chan_end_8a N) (q_chanq_Chan_end_9 N))
noncomputable def D_chanq_Chan_end_8 (F : TF) (N : TN) (Q : TQ) (k1 : TK) (l : Env) (L : Lg) : Prop :=
 wpOp F (.bin .lss) [(l 20), (l 19)] L fun v1 L1 =>
 D_chanq_Chan_end_9 F N Q k1 l v1 L1
theorem e_chanq_Chan_end_8 (F : TF) (N : TN) (Q : TQ) (k1 : TK) (l t : Env) (L : Lg) : wp F (q_chanq_Chan_end_8 N) l t L (fun (l _ : Env) (L : Lg) => k1 l L) (y_chanq_Chan_end_6 F N Q) (fin [.tmp (.l 2)] Q) = D_chanq_Chan_end_8 F N Q k1 l L := wpS (e_chanq_Chan_end_9 F N Q k1) (by kernel_rfl)
def q_chanq_Chan_end_7 (N : TN) : ACode := (.loop (q_chanq_Chan_end_8 N))
noncomputable def D_chanq_Chan_end_7 (F : TF) (N : TN) (Q : TQ) (l : Env) (L : Lg) : Prop :=
 loopW (fun l t L k1 => D_chanq_Chan_end_8 F N Q k1 l L) l L
theorem e_chanq_Chan_end_7 (F : TF) (N : TN) (Q : TQ) (l t : Env) (L : Lg) : wp F (q_chanq_Chan_end_7 N) l t L (w_chanq_Chan_end_3 F N Q) (y_chanq_Chan_end_6 F N Q) (fin [.tmp (.l 2)] Q) = D_chanq_Chan_end_7 F N Q l L := wpL (fun l t L k1 => e_chanq_Chan_end_8 F N Q k1 l t L) (by kernel_rfl)
def q_chanq_Chan_end_6 (N : TN) : ACode := (.block 0 (q_chanq_Chan_end_7 N))
theorem e_chanq_Chan_end_6 (F : TF) (N : TN) (Q : TQ) (l t : Env) (L : Lg) : wp F (q_chanq_Chan_end_6 N) l t L (w_chanq_Chan_end_3 F N Q) nE (fin [.tmp (.l 2)] Q) = D_chanq_Chan_end_7 F N Q l L := wpB (e_chanq_Chan_end_7 F N Q l t L)
def q_chanq_Chan_end_5a (N : TN) : ACode := (.reg [⟨.t 10, none, .mv, [.l 0]⟩, ⟨.t 11, none, .nilchk, [.t 10]⟩, ⟨.t 12, none, .fad 1, [.t 11]⟩, ⟨.t 13, none, .ld none, [.t 12]⟩, ⟨.t 14, none, .mv, [.l 0]⟩, ⟨.t 15, none, .nilchk, [.t 14]⟩, ⟨.t 16, none, .fad 2, [.t 15]⟩, ⟨.t 17, none, .ld none, [.t 16]⟩, ⟨.l 18, none, .bslice [.p none] 2 1 [0, 1], [.t 13, .t 17]⟩, ⟨.l 19, none, .lenSl, [.l 18]⟩, ⟨.l 20, none, .mv, [.c (.i .i64 0)]⟩])
def q_chanq_Chan_end_5 (N : TN) : ACode := (.seq (q_chanq_Chan_end_5a N) (q_chanq_Chan_end_6 N))
noncomputable def D_chanq_Chan_end_5 (F : TF) (N : TN) (Q : TQ) (l : Env) (L : Lg) : Prop :=
 wpOp F .nilchk [(l 0)] L fun v1 L1 =>
 wpOp F (.fad 1) [v1] L1 fun v2 L2 =>
 wpOp F (.ld none) [v2] L2 fun v3 L3 =>
 wpOp F .nilchk [(l 0)] L3 fun v4 L4 =>
 wpOp F (.fad 2) [v4] L4 fun v5 L5 =>
 wpOp F (.ld none) [v5] L5 fun v6 L6 =>
 wpOp F (.bslice [.p none] 2 1 [0, 1]) [v3, v6] L6 fun v7 L7 =>
 wpOp F .lenSl [v7] L7 fun v8 L8 =>
 D_chanq_Chan_end_7 F N Q (Env.put (Env.put (Env.put l 18 v7) 19 v8) 20 (.i .i64 0)) L8
theorem e_chanq_Chan_end_5 (F : TF) (N : TN) (Q : TQ) (l t : Env) (L : Lg) : wp F (q_chanq_Chan_end_5 N) l t L (w_chanq_Chan_end_3 F N Q) nE (fin [.tmp (.l 2)] Q) = D_chanq_Chan_end_5 F N Q l L := wpS (e_chanq_Chan_end_6 F N Q) (by kernel_rfl)
def q_chanq_Chan_end_3 (N : TN) : ACode := (.seq (q_chanq_Chan_end_5 N) (q_chanq_Chan_end_4 N))
theorem e_chanq_Chan_end_3 (F : TF) (N : TN) (Q : TQ) (l t : Env) (L : Lg) : wp F (q_chanq_Chan_end_3 N) l t L (fin [.tmp (.l 2)] Q) nE (fin [.tmp (.l 2)] Q) = D_chanq_Chan_end_5 F N Q l L := wpS (e_chanq_Chan_end_4 F N Q) (e_chanq_Chan_end_5 F N Q l t L)
def q_chanq_Chan_end_2a (N : TN) : ACode := (.reg [⟨.t 7, none, .mv, [.l 0]⟩, ⟨.t 8, none, .nilchk, [.t 7]⟩, ⟨.t 9, none, .fad 5, [.t 8]⟩, ⟨.no, none, .st 1, [.t 9, .c (.b true)]⟩])
def q_chanq_Chan_end_2 (N : TN) : ACode := (.seq (q_chanq_Chan_end_2a N) (q_chanq_Chan_end_3 N))
noncomputable def D_chanq_Chan_end_2 (F : TF) (N : TN) (Q : TQ) (l : Env) (L : Lg) : Prop :=
 wpOp F .nilchk [(l 0)] L fun v1 L1 =>
 wpOp F (.fad 5) [v1] L1 fun v2 L2 =>
 wpOp F (.st 1) [v2, (.b true)] L2 fun _ L3 =>
 D_chanq_Chan_end_5 F N Q l L3
theorem e_chanq_Chan_end_2 (F : TF) (N : TN) (Q : TQ) (l t : Env) (L : Lg) : wp F (q_chanq_Chan_end_2 N) l t L (fin [.tmp (.l 2)] Q) nE (fin [.tmp (.l 2)] Q) = D_chanq_Chan_end_2 F N Q l L := wpS (e_chanq_Chan_end_3 F N Q) (by kernel_rfl)
def q_chanq_Chan_end_1a (N : TN) : ACode := (.reg [⟨.l 2, none, .mv, [.c (.sl none 0 0 0)]⟩])
def q_chanq_Chan_end_1 (N : TN) : ACode := (.seq (q_chanq_Chan_end_1a N) (q_chanq_Chan_end_2 N))
noncomputable def D_chanq_Chan_end_1 (F : TF) (N : TN) (Q : TQ) (l : Env) (L : Lg) : Prop :=
 D_chanq_Chan_end_2 F N Q (Env.put l 2 (.sl none 0 0 0)) L
theorem e_chanq_Chan_end_1 (F : TF) (N : TN) (Q : TQ) (l t : Env) (L : Lg) : wp F (q_chanq_Chan_end_1 N) l t L (fin [.tmp (.l 2)] Q) nE (fin [.tmp (.l 2)] Q) = D_chanq_Chan_end_1 F N Q l L := wpS (e_chanq_Chan_end_2 F N Q) (by kernel_rfl)
/-- (*tarpaulin/chanq.Chan).end -/
def c_chanq_Chan_end (N : TN) : AFn := ⟨q_chanq_Chan_end_1 N, [.tmp (.l 2)]⟩
structure H_chanq_Chan_end (N : TN) (F : TF) : Prop where
  code : F (N k_chanq_Chan_end) = some (c_chanq_Chan_end N)
  wait_Queue_Pop : H_wait_Queue_Pop N F
  chanq_Chan_end_1 : H_chanq_Chan_end_1 N F
  slices_ContainsFunc_WakeWake : H_slices_ContainsFunc_WakeWake N F
theorem r_chanq_Chan_end {F : TF} {N : TN} (h : F (N k_chanq_Chan_end) = some (c_chanq_Chan_end N)) {Q : TQ} {a0 : AV} {L : Lg} (e : D_chanq_Chan_end_1 F N Q (initE [a0] 0) L) : CallL F (N k_chanq_Chan_end) [a0] L Q :=
  CallL.of_wp h (Eq.mpr (Eq.trans (e_chanq_Chan_end_1 F N Q (initE [a0] 0) Env.nil L) (by kernel_rfl : _ = D_chanq_Chan_end_1 F N Q (initE [a0] 0) L)) e)
def q_chanq_Chan_End_1 (N : TN) : ACode := (.seq (.reg [⟨.l 2, none, .mv, [.c (.sl none 0 0 0)]⟩]) (.seq (.seq (.reg [⟨.t 3, none, .mv, [.l 0]⟩, ⟨.t 4, none, .eq false .ptr, [.t 3, .c (.p none)]⟩, ⟨.t 5, none, .mv, [.t 4]⟩, ⟨.t 6, some (.t 5, false), .mv, [.l 0]⟩, ⟨.t 7, some (.t 5, false), .nilchk, [.t 6]⟩, ⟨.t 8, some (.t 5, false), .fad 4, [.t 7]⟩, ⟨.t 9, some (.t 5, false), .ld none, [.t 8]⟩, ⟨.t 10, some (.t 5, false), .un .not, [.t 9]⟩, ⟨.t 11, none, .pick, [.t 5, .c (.b true), .t 10]⟩, ⟨.t 12, none, .mv, [.t 11]⟩, ⟨.t 13, some (.t 12, false), .mv, [.l 0]⟩, ⟨.t 14, some (.t 12, false), .nilchk, [.t 13]⟩, ⟨.t 15, some (.t 12, false), .fad 5, [.t 14]⟩, ⟨.t 16, some (.t 12, false), .ld none, [.t 15]⟩, ⟨.t 17, none, .pick, [.t 12, .c (.b true), .t 16]⟩]) (.cond (.t 17) (.seq (.reg [⟨.l 2, none, .mv, [.c (.sl none 0 0 0)]⟩]) .ret) .skip)) (.seq (.reg [⟨.t 18, none, .mv, [.l 0]⟩, ⟨.t 19, none, .call (N k_chanq_Chan_end), [.t 18]⟩, ⟨.l 2, none, .mv, [.t 19]⟩]) .ret)))
noncomputable def D_chanq_Chan_End_1 (F : TF) (N : TN) (Q : TQ) (x0 : AV) (L : Lg) : Prop :=
 wpOp F (.eq false .ptr) [x0, (.p none)] L fun v1 L1 =>
 gdOp F v1 false .mv [x0] L1 fun v2 L2 =>
 gdOp F v1 false .nilchk [v2] L2 fun v3 L3 =>
 gdOp F v1 false (.fad 4) [v3] L3 fun v4 L4 =>
 gdOp F v1 false (.ld none) [v4] L4 fun v5 L5 =>
 gdOp F v1 false (.un .not) [v5] L5 fun v6 L6 =>
 wpOp F .pick [v1, (.b true), v6] L6 fun v7 L7 =>
 gdOp F v7 false .mv [x0] L7 fun v8 L8 =>
 gdOp F v7 false .nilchk [v8] L8 fun v9 L9 =>
 gdOp F v7 false (.fad 5) [v9] L9 fun v10 L10 =>
 gdOp F v7 false (.ld none) [v10] L10 fun v11 L11 =>
 wpOp F .pick [v7, (.b true), v11] L11 fun v12 L12 =>
 condW v12
 (fin1 (some (.sl none 0 0 0)) Q L12)
 (CallL F (N k_chanq_Chan_end) [x0] L12 fun v13 L13 =>
 fin1 (some v13) Q L13)
theorem e_chanq_Chan_End_1 (F : TF) (N : TN) (Q : TQ) (l t : Env) (L : Lg) : wp F (q_chanq_Chan_End_1 N) l t L (fin [.tmp (.l 2)] Q) nE (fin [.tmp (.l 2)] Q) = D_chanq_Chan_End_1 F N Q (l 0) L := by kernel_rfl
/-- (*tarpaulin/chanq.Chan).End -/
def c_chanq_Chan_End (N : TN) : AFn := ⟨q_chanq_Chan_End_1 N, [.tmp (.l 2)]⟩
structure H_chanq_Chan_End (N : TN) (F : TF) : Prop where
  code : F (N k_chanq_Chan_End) = some (c_chanq_Chan_End N)
  chanq_Chan_end : H_chanq_Chan_end N F
theorem r_chanq_Chan_End {F : TF} {N : TN} (h : F (N k_chanq_Chan_End) = some (c_chanq_Chan_End N)) {Q : TQ} {a0 : AV} {L : Lg} (e : D_chanq_Chan_End_1 F N Q a0 L) : CallL F (N k_chanq_Chan_End) [a0] L Q :=
  CallL.of_wp h (Eq.mpr (Eq.trans (e_chanq_Chan_End_1 F N Q (initE [a0] 0) Env.nil L) (by kernel_rfl : _ = D_chanq_Chan_End_1 F N Q a0 L)) e)
def q_slices_Clone_intint_1 (N : TN) : ACode := (.seq (.reg [⟨.l 2, none, .mv, [.c (.sl none 0 0 0)]⟩]) (.seq (.seq (.reg [⟨.t 3, none, .mv, [.l 0]⟩, ⟨.t 4, none, .eq false .slnil, [.t 3, .c (.sl none 0 0 0)]⟩]) (.cond (.t 4) (.seq (.reg [⟨.l 2, none, .mv, [.c (.sl none 0 0 0)]⟩]) .ret) .skip)) (.seq (.reg [⟨.t 5, none, .bslice [.i .i64 0] 0 1 [], []⟩, ⟨.t 6, none, .mv, [.l 0]⟩, ⟨.t 7, none, .app 1 8, [.t 5, .t 6]⟩, ⟨.l 2, none, .mv, [.t 7]⟩]) .ret)))
noncomputable def D_slices_Clone_intint_1 (F : TF) (N : TN) (Q : TQ) (x0 : AV) (L : Lg) : Prop :=
 wpOp F (.eq false .slnil) [x0, (.sl none 0 0 0)] L fun v1 L1 =>
 condW v1
 (fin1 (some (.sl none 0 0 0)) Q L1)
 (wpOp F (.bslice [.i .i64 0] 0 1 []) [] L1 fun v2 L2 =>
 wpOp F (.app 1 8) [v2, x0] L2 fun v3 L3 =>
 fin1 (some v3) Q L3)
theorem e_slices_Clone_intint_1 (F : TF) (N : TN) (Q : TQ) (l t : Env) (L : Lg) : wp F (q_slices_Clone_intint_1 N) l t L (fin [.tmp (.l 2)] Q) nE (fin [.tmp (.l 2)] Q) = D_slices_Clone_intint_1 F N Q (l 0) L := by kernel_rfl
/-- slices.Clone[[]int,int] -/
def c_slices_Clone_intint (N : TN) : AFn := ⟨q_slices_Clone_intint_1 N, [.tmp (.l 2)]⟩
structure H_slices_Clone_intint (N : TN) (F : TF) : Prop where
  code : F (N k_slices_Clone_intint) = some (c_slices_Clone_intint N)
theorem r_slices_Clone_intint {F : TF} {N : TN} (h : F (N k_slices_Clone_intint) = some (c_slices_Clone_intint N)) {Q : TQ} {a0 : AV} {L : Lg} (e : D_slices_Clone_intint_1 F N Q a0 L) : CallL F (N k_slices_Clone_intint) [a0] L Q :=
  CallL.of_wp h (Eq.mpr (Eq.trans (e_slices_Clone_intint_1 F N Q (initE [a0] 0) Env.nil L) (by kernel_rfl : _ = D_slices_Clone_intint_1 F N Q a0 L)) e)
def q_tree_Tree_Kids_1 (N : TN) : ACode := (.seq (.reg [⟨.l 4, none, .mv, [.c (.sl none 0 0 0)]⟩]) (.seq (.seq (.reg [⟨.t 5, none, .mv, [.l 0]⟩, ⟨.t 6, none, .mv, [.l 1]⟩, ⟨.t 7, none, .call (N k_tree_Tree_has), [.t 5, .t 6]⟩, ⟨.t 8, none, .un .not, [.t 7]⟩]) (.cond (.t 8) (.seq (.reg [⟨.l 4, none, .mv, [.c (.sl none 0 0 0)]⟩]) .ret) .skip)) (.seq (.reg [⟨.t 9, none, .mv, [.l 0]⟩, ⟨.t 10, none, .nilchk, [.t 9]⟩, ⟨.t 11, none, .fad 0, [.t 10]⟩, ⟨.t 12, none, .ld none, [.t 11]⟩, ⟨.t 13, none, .mv, [.l 1]⟩, ⟨.t 14, none, .iad 3, [.t 12, .t 13]⟩, ⟨.t 15, none, .fad 2, [.t 14]⟩, ⟨.t 16, none, .ld none, [.t 15]⟩, ⟨.t 17, none, .call (N k_slices_Clone_intint), [.t 16]⟩, ⟨.l 4, none, .mv, [.t 17]⟩]) .ret)))
noncomputable def D_tree_Tree_Kids_1 (F : TF) (N : TN) (Q : TQ) (x0 : AV) (x1 : AV) (L : Lg) : Prop :=
 CallL F (N k_tree_Tree_has) [x0, x1] L fun v1 L1 =>
 wpOp F (.un .not) [v1] L1 fun v2 L2 =>
 condW v2
 (fin1 (some (.sl none 0 0 0)) Q L2)
 (wpOp F .nilchk [x0] L2 fun v3 L3 =>
 wpOp F (.fad 0) [v3] L3 fun v4 L4 =>
 wpOp F (.ld none) [v4] L4 fun v5 L5 =>
 wpOp F (.iad 3) [v5, x1] L5 fun v6 L6 =>
 wpOp F (.fad 2) [v6] L6 fun v7 L7 =>
 wpOp F (.ld none) [v7] L7 fun v8 L8 =>
 CallL F (N k_slices_Clone_intint) [v8] L8 fun v9 L9 =>
 fin1 (some v9) Q L9)
theorem e_tree_Tree_Kids_1 (F : TF) (N : TN) (Q : TQ) (l t : Env) (L : Lg) : wp F (q_tree_Tree_Kids_1 N) l t L (fin [.tmp (.l 4)] Q) nE (fin [.tmp (.l 4)] Q) = D_tree_Tree_Kids_1 F N Q (l 0) (l 1) L := by kernel_rfl
/-- (*tarpaulin/tree.Tree).Kids -/
def c_tree_Tree_Kids (N : TN) : AFn := ⟨q_tree_Tree_Kids_1 N, [.tmp (.l 4)]⟩
structure H_tree_Tree_Kids (N : TN) (F : TF) : Prop where
  code : F (N k_tree_Tree_Kids) = some (c_tree_Tree_Kids N)
  tree_Tree_has : H_tree_Tree_has N F
  slices_Clone_intint : H_slices_Clone_intint N F
theorem r_tree_Tree_Kids {F : TF} {N : TN} (h : F (N k_tree_Tree_Kids) = some (c_tree_Tree_Kids N)) {Q : TQ} {a0 a1 : AV} {L : Lg} (e : D_tree_Tree_Kids_1 F N Q a0 a1 L) : CallL F (N k_tree_Tree_Kids) [a0, a1] L Q :=
  CallL.of_wp h (Eq.mpr (Eq.trans (e_tree_Tree_Kids_1 F N Q (initE [a0, a1] 0) Env.nil L) (by kernel_rfl : _ = D_tree_Tree_Kids_1 F N Q a0 a1 L)) e)
def q_slices_Index_intint_3 (N : TN) : ACode := (.seq (.reg [⟨.l 4, none, .mv, [.c (.i .i64 (-1))]⟩]) .ret)
noncomputable def D_slices_Index_intint_3 (F : TF) (N : TN) (Q : TQ) (L : Lg) : Prop :=
 fin1 (some (.i .i64 (-1))) Q L
theorem e_slices_Index_intint_3 (F : TF) (N : TN) (Q : TQ) (l t : Env) (L : Lg) : wp F (q_slices_Index_intint_3 N) l t L (fin [.tmp (.l 4)] Q) nE (fin [.tmp (.l 4)] Q) = D_slices_Index_intint_3 F N Q L := by kernel_rfl
def w_slices_Index_intint_2 (F : TF) (N : TN) (Q : TQ) : Kn := (fun (l t : Env) (L : Lg) => D_slices_Index_intint_3 F N Q L)
def y_slices_Index_intint_5 (F : TF) (N : TN) (Q : TQ) : Nat → Kn := (fun (j : Nat) (l t : Env) (L : Lg) => bif Nat.beq j 0 then (w_slices_Index_intint_2 F N Q) l t L else nE j l t L)
def q_slices_Index_intint_7 (N : TN) : ACode := (.seq (.reg [⟨.t 9, none, .bin .lss, [.l 8, .l 7]⟩]) (.seq (.cond (.t 9) .skip (.exit 0)) (.seq (.block 1 (.seq (.reg [⟨.t 10, none, .mv, [.l 8]⟩, ⟨.l 5, none, .mv, [.t 10]⟩]) (.seq (.reg [⟨.t 11, none, .mv, [.l 1]⟩, ⟨.t 12, none, .mv, [.l 0]⟩, ⟨.t 13, none, .mv, [.l 5]⟩, ⟨.t 14, none, .iad 1, [.t 12, .t 13]⟩, ⟨.t 15, none, .ld none, [.t 14]⟩, ⟨.t 16, none, .bin .eql, [.t 11, .t 15]⟩]) (.cond (.t 16) (.seq (.reg [⟨.t 17, none, .mv, [.l 5]⟩, ⟨.l 4, none, .mv, [.t 17]⟩]) .ret) .skip)))) (.reg [⟨.t 18, none, .bin .add, [.l 8, .c (.i .i64 1)]⟩, ⟨.l 8, none, .mv, [.t 18]⟩]))))
noncomputable def D_slices_Index_intint_7 (F : TF) (N : TN) (Q : TQ) (k1 : TK) (l : Env) (L : Lg) : Prop :=
 wpOp F (.bin .lss) [(l 8), (l 7)] L fun v1 L1 =>
 condW v1
 (wpOp F (.iad 1) [(l 0), (l 8)] L1 fun v2 L2 =>
 wpOp F (.ld none) [v2] L2 fun v3 L3 =>
 wpOp F (.bin .eql) [(l 1), v3] L3 fun v4 L4 =>
 condW v4
 (fin1 (some (l 8)) Q L4)
 (wpOp F (.bin .add) [(l 8), (.i .i64 1)] L4 fun v5 L5 =>
 k1 (Env.put (Env.put l 5 (l 8)) 8 v5) L5))
 (D_slices_Index_intint_3 F N Q L1)
theorem e_slices_Index_intint_7 (F : TF) (N : TN) (Q : TQ) (k1 : TK) (l t : Env) (L : Lg) : wp F (q_slices_Index_intint_7 N) l t L (fun (l _ : Env) (L : Lg) => k1 l L) (y_slices_Index_intint_5 F N Q) (fin [.tmp (.l 4)] Q) = D_slices_Index_intint_7 F N Q k1 l L := by kernel_rfl
def q_slices_Index_intint_6 (N : TN) : ACode := (.loop (q_slices_Index_intint_7 N))
noncomputable def D_slices_Index_intint_6 (F : TF) (N : TN) (Q : TQ) (l : Env) (L : Lg) : Prop :=
 loopW (fun l t L k1 => D_slices_Index_intint_7 F N Q k1 l L) l L
theorem e_slices_Index_intint_6 (F : TF) (N : TN) (Q : TQ) (l t : Env) (L : Lg) : wp F (q_slices_Index_intint_6 N) l t L (w_slices_Index_intint_2 F N Q) (y_slices_Index_intint_5 F N Q) (fin [.tmp (.l 4)] Q) = D_slices_Index_intint_6 F N Q l L := wpL (fun l t L k1 => e_slices_Index_intint_7 F N Q k1 l t L) (by kernel_rfl)
def q_slices_Index_intint_5 (N : TN) : ACode := (.block 0 (q_slices_Index_intint_6 N))
theorem e_slices_Index_intint_5 (F : TF) (N : TN) (Q : TQ) (l t : Env) (L : Lg) : wp F (q_slices_Index_intint_5 N) l t L (w_slices_Index_intint_2 F N Q) nE (fin [.tmp (.l 4)] Q) = D_slices_Index_intint_6 F N Q l L := wpB (e_slices_Index_intint_6 F N Q l t L)
def q_slices_Index_intint_4a (N : TN) : ACode := (.reg [⟨.t 6, none, .mv, [.l 0]⟩, ⟨.l 7, none, .lenSl, [.t 6]⟩, ⟨.l 8, none, .mv, [.c (.i .i64 0)]⟩])
def q_slices_Index_intint_4 (N : TN) : ACode := (.seq (q_slices_Index_intint_4a N) (q_slices_Index_intint_5 N))
noncomputable def D_slices_Index_intint_4 (F : TF) (N : TN) (Q : TQ) (l : Env) (L : Lg) : Prop :=
 wpOp F .lenSl [(l 0)] L fun v1 L1 =>
 D_slices_Index_intint_6 F N Q (Env.put (Env.put l 7 v1) 8 (.i .i64 0)) L1
theorem e_slices_Index_intint_4 (F : TF) (N : TN) (Q : TQ) (l t : Env) (L : Lg) : wp F (q_slices_Index_intint_4 N) l t L (w_slices_Index_intint_2 F N Q) nE (fin [.tmp (.l 4)] Q) = D_slices_Index_intint_4 F N Q l L := wpS (e_slices_Index_intint_5 F N Q) (by kernel_rfl)
def q_slices_Index_intint_2 (N : TN) : ACode := (.seq (q_slices_Index_intint_4 N) (q_slices_Index_intint_3 N))
theorem e_slices_Index_intint_2 (F : TF) (N : TN) (Q : TQ) (l t : Env) (L : Lg) : wp F (q_slices_Index_intint_2 N) l t L (fin [.tmp (.l 4)] Q) nE (fin [.tmp (.l 4)] Q) = D_slices_Index_intint_4 F N Q l L := wpS (e_slices_Index_intint_3 F N Q) (e_slices_Index_intint_4 F N Q l t L)
def q_slices_Index_intint_1a (N : TN) : ACode := (.reg [⟨.l 4, none, .mv, [.c (.i .i64 0)]⟩])
def q_slices_Index_intint_1 (N : TN) : ACode := (.seq (q_slices_Index_intint_1a N) (q_slices_Index_intint_2 N))
noncomputable def D_slices_Index_intint_1 (F : TF) (N : TN) (Q : TQ) (l : Env) (L : Lg) : Prop :=
 D_slices_Index_intint_4 F N Q (Env.put l 4 (.i .i64 0)) L
theorem e_slices_Index_intint_1 (F : TF) (N : TN) (Q : TQ) (l t : Env) (L : Lg) : wp F (q_slices_Index_intint_1 N) l t L (fin [.tmp (.l 4)] Q) nE (fin [.tmp (.l 4)] Q) = D_slices_Index_intint_1 F N Q l L := wpS (e_slices_Index_intint_2 F N Q) (by kernel_rfl)
/-- slices.Index[[]int,int] -/
def c_slices_Index_intint (N : TN) : AFn := ⟨q_slices_Index_intint_1 N, [.tmp (.l 4)]⟩
structure H_slices_Index_intint (N : TN) (F : TF) : Prop where
  code : F (N k_slices_Index_intint) = some (c_slices_Index_intint N)
theorem r_slices_Index_intint {F : TF} {N : TN} (h : F (N k_slices_Index_intint) = some (c_slices_Index_intint N)) {Q : TQ} {a0 a1 : AV} {L : Lg} (e : D_slices_Index_intint_1 F N Q (initE [a0, a1] 0) L) : CallL F (N k_slices_Index_intint) [a0, a1] L Q :=
  CallL.of_wp h (Eq.mpr (Eq.trans (e_slices_Index_intint_1 F N Q (initE [a0, a1] 0) Env.nil L) (by kernel_rfl : _ = D_slices_Index_intint_1 F N Q (initE [a0, a1] 0) L)) e)
def q_slices_Delete_intint_1 (N : TN) : ACode := (.seq (.reg [⟨.l 6, none, .mv, [.c (.sl none 0 0 0)]⟩]) (.seq (.reg [⟨.t 8, none, .mv, [.l 0]⟩, ⟨.t 9, none, .mv, [.l 1]⟩, ⟨.t 10, none, .mv, [.l 2]⟩, ⟨.t 11, none, .mv, [.l 0]⟩, ⟨.t 12, none, .lenSl, [.t 11]⟩, ⟨.t 13, none, .slc 1 true true true, [.t 8, .t 9, .t 10, .t 12]⟩]) (.seq (.seq (.reg [⟨.t 14, none, .mv, [.l 1]⟩, ⟨.t 15, none, .mv, [.l 2]⟩, ⟨.t 16, none, .bin .eql, [.t 14, .t 15]⟩]) (.cond (.t 16) (.seq (.reg [⟨.t 17, none, .mv, [.l 0]⟩, ⟨.l 6, none, .mv, [.t 17]⟩]) .ret) .skip)) (.seq (.reg [⟨.t 18, none, .mv, [.l 0]⟩, ⟨.t 19, none, .lenSl, [.t 18]⟩, ⟨.l 7, none, .mv, [.t 19]⟩]) (.seq (.reg [⟨.t 20, none, .mv, [.l 0]⟩, ⟨.t 21, none, .mv, [.l 1]⟩, ⟨.t 22, none, .slc 1 false true false, [.t 20, .t 21]⟩, ⟨.t 23, none, .mv, [.l 0]⟩, ⟨.t 24, none, .mv, [.l 2]⟩, ⟨.t 25, none, .slc 1 true false false, [.t 23, .t 24]⟩, ⟨.t 26, none, .app 1 8, [.t 22, .t 25]⟩, ⟨.l 0, none, .mv, [.t 26]⟩]) (.seq (.reg [⟨.t 27, none, .mv, [.l 0]⟩, ⟨.t 28, none, .mv, [.l 0]⟩, ⟨.t 29, none, .lenSl, [.t 28]⟩, ⟨.t 30, none, .mv, [.l 7]⟩, ⟨.t 31, none, .slc 1 true true false, [.t 27, .t 29, .t 30]⟩, ⟨.no, none, .clr [.i .i64 0], [.t 31]⟩]) (.seq (.reg [⟨.t 32, none, .mv, [.l 0]⟩, ⟨.l 6, none, .mv, [.t 32]⟩]) .ret)))))))
noncomputable def D_slices_Delete_intint_1 (F : TF) (N : TN) (Q : TQ) (x0 : AV) (x1 : AV) (x2 : AV) (L : Lg) : Prop :=
 wpOp F .lenSl [x0] L fun v1 L1 =>
 wpOp F (.slc 1 true true true) [x0, x1, x2, v1] L1 fun v2 L2 =>
 wpOp F (.bin .eql) [x1, x2] L2 fun v3 L3 =>
 condW v3
 (fin1 (some x0) Q L3)
 (wpOp F .lenSl [x0] L3 fun v4 L4 =>
 wpOp F (.slc 1 false true false) [x0, x1] L4 fun v5 L5 =>
 wpOp F (.slc 1 true false false) [x0, x2] L5 fun v6 L6 =>
 wpOp F (.app 1 8) [v5, v6] L6 fun v7 L7 =>
 wpOp F .lenSl [v7] L7 fun v8 L8 =>
 wpOp F (.slc 1 true true false) [v7, v8, v4] L8 fun v9 L9 =>
 wpOp F (.clr [.i .i64 0]) [v9] L9 fun _ L10 =>
 fin1 (some v7) Q L10)
theorem e_slices_Delete_intint_1 (F : TF) (N : TN) (Q : TQ) (l t : Env) (L : Lg) : wp F (q_slices_Delete_intint_1 N) l t L (fin [.tmp (.l 6)] Q) nE (fin [.tmp (.l 6)] Q) = D_slices_Delete_intint_1 F N Q (l 0) (l 1) (l 2) L := by kernel_rfl
/-- slices.Delete[[]int,int] -/
def c_slices_Delete_intint (N : TN) : AFn := ⟨q_slices_Delete_intint_1 N, [.tmp (.l 6)]⟩
structure H_slices_Delete_intint (N : TN) (F : TF) : Prop where
  code : F (N k_slices_Delete_intint) = some (c_slices_Delete_intint N)
theorem r_slices_Delete_intint {F : TF} {N : TN} (h : F (N k_slices_Delete_intint) = some (c_slices_Delete_intint N)) {Q : TQ} {a0 a1 a2 : AV} {L : Lg} (e : D_slices_Delete_intint_1 F N Q a0 a1 a2 L) : CallL F (N k_slices_Delete_intint) [a0, a1, a2] L Q :=
  CallL.of_wp h (Eq.mpr (Eq.trans (e_slices_Delete_intint_1 F N Q (initE [a0, a1, a2] 0) Env.nil L) (by kernel_rfl : _ = D_slices_Delete_intint_1 F N Q a0 a1 a2 L)) e)
def q_tree_Tree_Detach_4 (N : TN) : ACode := (.seq (.reg [⟨.t 29, none, .mv, [.l 0]⟩, ⟨.t 30, none, .nilchk, [.t 29]⟩, ⟨.t 31, none, .fad 0, [.t 30]⟩, ⟨.t 32, none, .ld none, [.t 31]⟩, ⟨.t 33, none, .mv, [.l 0]⟩, ⟨.t 34, none, .nilchk, [.t 33]⟩, ⟨.t 35, none, .fad 0, [.t 34]⟩, ⟨.t 36, none, .ld none, [.t 35]⟩, ⟨.t 37, none, .mv, [.l 1]⟩, ⟨.t 38, none, .iad 3, [.t 36, .t 37]⟩, ⟨.t 39, none, .fad 0, [.t 38]⟩, ⟨.t 40, none, .ld none, [.t 39]⟩, ⟨.t 41, none, .iad 3, [.t 32, .t 40]⟩, ⟨.l 5, none, .mv, [.t 41]⟩]) (.seq (.reg [⟨.t 42, none, .mv, [.l 5]⟩, ⟨.t 43, none, .nilchk, [.t 42]⟩, ⟨.t 44, none, .fad 2, [.t 43]⟩, ⟨.t 45, none, .ld none, [.t 44]⟩, ⟨.t 46, none, .mv, [.l 1]⟩, ⟨.t 47, none, .call (N k_slices_Index_intint), [.t 45, .t 46]⟩, ⟨.l 6, none, .mv, [.t 47]⟩]) (.seq (.reg [⟨.t 48, none, .mv, [.l 5]⟩, ⟨.t 49, none, .mv, [.l 5]⟩, ⟨.t 50, none, .nilchk, [.t 49]⟩, ⟨.t 51, none, .fad 2, [.t 50]⟩, ⟨.t 52, none, .ld none, [.t 51]⟩, ⟨.t 53, none, .mv, [.l 6]⟩, ⟨.t 54, none, .mv, [.l 6]⟩, ⟨.t 55, none, .bin .add, [.t 54, .c (.i .i64 1)]⟩, ⟨.t 56, none, .call (N k_slices_Delete_intint), [.t 52, .t 53, .t 55]⟩, ⟨.t 57, none, .nilchk, [.t 48]⟩, ⟨.t 58, none, .fad 2, [.t 57]⟩, ⟨.no, none, .st 1, [.t 58, .t 56]⟩]) (.seq (.reg [⟨.l 4, none, .mv, [.c (.b true)]⟩]) .ret))))
noncomputable def D_tree_Tree_Detach_4 (F : TF) (N : TN) (Q : TQ) (x0 : AV) (x1 : AV) (L : Lg) : Prop :=
 wpOp F .nilchk [x0] L fun v1 L1 =>
 wpOp F (.fad 0) [v1] L1 fun v2 L2 =>
 wpOp F (.ld none) [v2] L2 fun v3 L3 =>
 wpOp F .nilchk [x0] L3 fun v4 L4 =>
 wpOp F (.fad 0) [v4] L4 fun v5 L5 =>
 wpOp F (.ld none) [v5] L5 fun v6 L6 =>
 wpOp F (.iad 3) [v6, x1] L6 fun v7 L7 =>
 wpOp F (.fad 0) [v7] L7 fun v8 L8 =>
 wpOp F (.ld none) [v8] L8 fun v9 L9 =>
 wpOp F (.iad 3) [v3, v9] L9 fun v10 L10 =>
 wpOp F .nilchk [v10] L10 fun v11 L11 =>
 wpOp F (.fad 2) [v11] L11 fun v12 L12 =>
 wpOp F (.ld none) [v12] L12 fun v13 L13 =>
 CallL F (N k_slices_Index_intint) [v13, x1] L13 fun v14 L14 =>
 wpOp F .nilchk [v10] L14 fun v15 L15 =>
 wpOp F (.fad 2) [v15] L15 fun v16 L16 =>
 wpOp F (.ld none) [v16] L16 fun v17 L17 =>
 wpOp F (.bin .add) [v14, (.i .i64 1)] L17 fun v18 L18 =>
 CallL F (N k_slices_Delete_intint) [v17, v14, v18] L18 fun v19 L19 =>
 wpOp F .nilchk [v10] L19 fun v20 L20 =>
 wpOp F (.fad 2) [v20] L20 fun v21 L21 =>
 wpOp F (.st 1) [v21, v19] L21 fun _ L22 =>
 fin1 (some (.b true)) Q L22
theorem e_tree_Tree_Detach_4 (F : TF) (N : TN) (Q : TQ) (l t : Env) (L : Lg) : wp F (q_tree_Tree_Detach_4 N) l t L (fin [.tmp (.l 4)] Q) nE (fin [.tmp (.l 4)] Q) = D_tree_Tree_Detach_4 F N Q (l 0) (l 1) L := by kernel_rfl
def q_tree_Tree_Detach_3a (N : TN) : ACode := (.reg [⟨.t 22, none, .mv, [.l 0]⟩, ⟨.t 23, none, .nilchk, [.t 22]⟩, ⟨.t 24, none, .fad 0, [.t 23]⟩, ⟨.t 25, none, .ld none, [.t 24]⟩, ⟨.t 26, none, .mv, [.l 1]⟩, ⟨.t 27, none, .iad 3, [.t 25, .t 26]⟩, ⟨.t 28, none, .fad 1, [.t 27]⟩, ⟨.no, none, .st 1, [.t 28, .c (.b false)]⟩])
def q_tree_Tree_Detach_3 (N : TN) : ACode := (.seq (q_tree_Tree_Detach_3a N) (q_tree_Tree_Detach_4 N))
noncomputable def D_tree_Tree_Detach_3 (F : TF) (N : TN) (Q : TQ) (x0 : AV) (x1 : AV) (L : Lg) : Prop :=
 wpOp F .nilchk [x0] L fun v1 L1 =>
 wpOp F (.fad 0) [v1] L1 fun v2 L2 =>
 wpOp F (.ld none) [v2] L2 fun v3 L3 =>
 wpOp F (.iad 3) [v3, x1] L3 fun v4 L4 =>
 wpOp F (.fad 1) [v4] L4 fun v5 L5 =>
 wpOp F (.st 1) [v5, (.b false)] L5 fun _ L6 =>
 D_tree_Tree_Detach_4 F N Q x0 x1 L6
theorem e_tree_Tree_Detach_3 (F : TF) (N : TN) (Q : TQ) (l t : Env) (L : Lg) : wp F (q_tree_Tree_Detach_3 N) l t L (fin [.tmp (.l 4)] Q) nE (fin [.tmp (.l 4)] Q) = D_tree_Tree_Detach_3 F N Q (l 0) (l 1) L := wpS (e_tree_Tree_Detach_4 F N Q) (by kernel_rfl)
def q_tree_Tree_Detach_2a (N : TN) : ACode := (.seq (.reg [⟨.t 7, none, .mv, [.l 0]⟩, ⟨.t 8, none, .mv, [.l 1]⟩, ⟨.t 9, none, .call (N k_tree_Tree_has), [.t 7, .t 8]⟩, ⟨.t 10, none, .un .not, [.t 9]⟩, ⟨.t 11, none, .mv, [.t 10]⟩, ⟨.t 12, some (.t 11, false), .mv, [.l 0]⟩, ⟨.t 13, some (.t 11, false), .nilchk, [.t 12]⟩, ⟨.t 14, some (.t 11, false), .fad 0, [.t 13]⟩, ⟨.t 15, some (.t 11, false), .ld none, [.t 14]⟩, ⟨.t 16, some (.t 11, false), .mv, [.l 1]⟩, ⟨.t 17, some (.t 11, false), .iad 3, [.t 15, .t 16]⟩, ⟨.t 18, some (.t 11, false), .fad 1, [.t 17]⟩, ⟨.t 19, some (.t 11, false), .ld none, [.t 18]⟩, ⟨.t 20, some (.t 11, false), .un .not, [.t 19]⟩, ⟨.t 21, none, .pick, [.t 11, .c (.b true), .t 20]⟩]) (.cond (.t 21) (.seq (.reg [⟨.l 4, none, .mv, [.c (.b false)]⟩]) .ret) .skip))
def q_tree_Tree_Detach_2 (N : TN) : ACode := (.seq (q_tree_Tree_Detach_2a N) (q_tree_Tree_Detach_3 N))
noncomputable def D_tree_Tree_Detach_2 (F : TF) (N : TN) (Q : TQ) (x0 : AV) (x1 : AV) (L : Lg) : Prop :=
 CallL F (N k_tree_Tree_has) [x0, x1] L fun v1 L1 =>
 wpOp F (.un .not) [v1] L1 fun v2 L2 =>
 gdOp F v2 false .mv [x0] L2 fun v3 L3 =>
 gdOp F v2 false .nilchk [v3] L3 fun v4 L4 =>
 gdOp F v2 false (.fad 0) [v4] L4 fun v5 L5 =>
 gdOp F v2 false (.ld none) [v5] L5 fun v6 L6 =>
 gdOp F v2 false .mv [x1] L6 fun v7 L7 =>
 gdOp F v2 false (.iad 3) [v6, v7] L7 fun v8 L8 =>
 gdOp F v2 false (.fad 1) [v8] L8 fun v9 L9 =>
 gdOp F v2 false (.ld none) [v9] L9 fun v10 L10 =>
 gdOp F v2 false (.un .not) [v10] L10 fun v11 L11 =>
 wpOp F .pick [v2, (.b true), v11] L11 fun v12 L12 =>
 condW v12
 (fin1 (some (.b false)) Q L12)
 (D_tree_Tree_Detach_3 F N Q x0 x1 L12)
theorem e_tree_Tree_Detach_2 (F : TF) (N : TN) (Q : TQ) (l t : Env) (L : Lg) : wp F (q_tree_Tree_Detach_2 N) l t L (fin [.tmp (.l 4)] Q) nE (fin [.tmp (.l 4)] Q) = D_tree_Tree_Detach_2 F N Q (l 0) (l 1) L := wpS (e_tree_Tree_Detach_3 F N Q) (by kernel_rfl)
def q_tree_Tree_Detach_1a (N : TN) : ACode := (.reg [⟨.l 4, none, .mv, [.c (.b false)]⟩])
def q_tree_Tree_Detach_1 (N : TN) : ACode := (.seq (q_tree_Tree_Detach_1a N) (q_tree_Tree_Detach_2 N))
noncomputable def D_tree_Tree_Detach_1 (F : TF) (N : TN) (Q : TQ) (x0 : AV) (x1 : AV) (L : Lg) : Prop :=
 D_tree_Tree_Detach_2 F N Q x0 x1 L
theorem e_tree_Tree_Detach_1 (F : TF) (N : TN) (Q : TQ) (l t : Env) (L : Lg) : wp F (q_tree_Tree_Detach_1 N) l t L (fin [.tmp (.l 4)] Q) nE (fin [.tmp (.l 4)] Q) = D_tree_Tree_Detach_1 F N Q (l 0) (l 1) L := wpS (e_tree_Tree_Detach_2 F N Q) (by kernel_rfl)
/-- (*tarpaulin/tree.Tree).Detach -/
def c_tree_Tree_Detach (N : TN) : AFn := ⟨q_tree_Tree_Detach_1 N, [.tmp (.l 4)]⟩
structure H_tree_Tree_Detach (N : TN) (F : TF) : Prop where
  code : F (N k_tree_Tree_Detach) = some (c_tree_Tree_Detach N)
  tree_Tree_has : H_tree_Tree_has N F
  slices_Index_intint : H_slices_Index_intint N F
  slices_Delete_intint : H_slices_Delete_intint N F
theorem r_tree_Tree_Detach {F : TF} {N : TN} (h : F (N k_tree_Tree_Detach) = some (c_tree_Tree_Detach N)) {Q : TQ} {a0 a1 : AV} {L : Lg} (e : D_tree_Tree_Detach_1 F N Q a0 a1 L) : CallL F (N k_tree_Tree_Detach) [a0, a1] L Q :=
  CallL.of_wp h (Eq.mpr (Eq.trans (e_tree_Tree_Detach_1 F N Q (initE [a0, a1] 0) Env.nil L) (by kernel_rfl : _ = D_tree_Tree_Detach_1 F N Q a0 a1 L)) e)
def q_ctx_Set_start_1 (N : TN) : ACode := (.seq (.reg [⟨.l 4, none, .alloc [.i .i64 0, .i .i64 0], []⟩]) (.seq (.reg [⟨.t 6, none, .mv, [.l 0]⟩, ⟨.t 7, none, .nilchk, [.t 6]⟩, ⟨.t 8, none, .fad 3, [.t 7]⟩, ⟨.t 9, none, .ld none, [.t 8]⟩, ⟨.t 10, none, .mv, [.l 1]⟩, ⟨.t 11, none, .iad 3, [.t 9, .t 10]⟩, ⟨.l 5, none, .mv, [.t 11]⟩]) (.seq (.reg [⟨.t 12, none, .mv, [.l 5]⟩, ⟨.t 13, none, .nilchk, [.t 12]⟩, ⟨.t 14, none, .fad 2, [.t 13]⟩, ⟨.no, none, .st 1, [.t 14, .c (.b true)]⟩]) (.seq (.reg [⟨.t 15, none, .mv, [.l 0]⟩, ⟨.t 16, none, .nilchk, [.t 15]⟩, ⟨.t 17, none, .fad 1, [.t 16]⟩, ⟨.t 18, none, .ld none, [.t 17]⟩, ⟨.t 19, none, .mv, [.l 5]⟩, ⟨.t 20, none, .nilchk, [.t 19]⟩, ⟨.t 21, none, .fad 0, [.t 20]⟩, ⟨.t 22, none, .ld none, [.t 21]⟩, ⟨.t 23, none, .call (N k_tree_Tree_Detach), [.t 18, .t 22]⟩]) (.seq (.reg [⟨.t 24, none, .mv, [.l 1]⟩, ⟨.t 25, none, .mv, [.l 5]⟩, ⟨.t 26, none, .nilchk, [.t 25]⟩, ⟨.t 27, none, .fad 1, [.t 26]⟩, ⟨.t 28, none, .ld none, [.t 27]⟩, ⟨.t 29, none, .build [.i .i64 0, .i .i64 0] [(0, 1), (1, 1)], [.t 24, .t 28]⟩, ⟨.no, none, .st 2, [.l 4, .t 29]⟩]) .ret)))))
noncomputable def D_ctx_Set_start_1 (F : TF) (N : TN) (Q : TQ) (x0 : AV) (x1 : AV) (L : Lg) : Prop :=
 wpOp F (.alloc [.i .i64 0, .i .i64 0]) [] L fun v1 L1 =>
 wpOp F .nilchk [x0] L1 fun v2 L2 =>
 wpOp F (.fad 3) [v2] L2 fun v3 L3 =>
 wpOp F (.ld none) [v3] L3 fun v4 L4 =>
 wpOp F (.iad 3) [v4, x1] L4 fun v5 L5 =>
 wpOp F .nilchk [v5] L5 fun v6 L6 =>
 wpOp F (.fad 2) [v6] L6 fun v7 L7 =>
 wpOp F (.st 1) [v7, (.b true)] L7 fun _ L8 =>
 wpOp F .nilchk [x0] L8 fun v9 L9 =>
 wpOp F (.fad 1) [v9] L9 fun v10 L10 =>
 wpOp F (.ld none) [v10] L10 fun v11 L11 =>
 wpOp F .nilchk [v5] L11 fun v12 L12 =>
 wpOp F (.fad 0) [v12] L12 fun v13 L13 =>
 wpOp F (.ld none) [v13] L13 fun v14 L14 =>
 CallL F (N k_tree_Tree_Detach) [v11, v14] L14 fun v15 L15 =>
 wpOp F .nilchk [v5] L15 fun v16 L16 =>
 wpOp F (.fad 1) [v16] L16 fun v17 L17 =>
 wpOp F (.ld none) [v17] L17 fun v18 L18 =>
 wpOp F (.build [.i .i64 0, .i .i64 0] [(0, 1), (1, 1)]) [x1, v18] L18 fun v19 L19 =>
 wpOp F (.st 2) [v1, v19] L19 fun _ L20 =>
 fin1 (resVL Env.nil Env.nil L20 [.cell (.c v1) (some 2)]) Q L20
theorem e_ctx_Set_start_1 (F : TF) (N : TN) (Q : TQ) (l t : Env) (L : Lg) : wp F (q_ctx_Set_start_1 N) l t L (fin [.cell (.l 4) (some 2)] Q) nE (fin [.cell (.l 4) (some 2)] Q) = D_ctx_Set_start_1 F N Q (l 0) (l 1) L := by kernel_rfl
/-- (*tarpaulin/ctx.Set).start -/
def c_ctx_Set_start (N : TN) : AFn := ⟨q_ctx_Set_start_1 N, [.cell (.l 4) (some 2)]⟩
structure H_ctx_Set_start (N : TN) (F : TF) : Prop where
  code : F (N k_ctx_Set_start) = some (c_ctx_Set_start N)
  tree_Tree_Detach : H_tree_Tree_Detach N F
theorem r_ctx_Set_start {F : TF} {N : TN} (h : F (N k_ctx_Set_start) = some (c_ctx_Set_start N)) {Q : TQ} {a0 a1 : AV} {L : Lg} (e : D_ctx_Set_start_1 F N Q a0 a1 L) : CallL F (N k_ctx_Set_start) [a0, a1] L Q :=
  CallL.of_wp h (Eq.mpr (Eq.trans (e_ctx_Set_start_1 F N Q (initE [a0, a1] 0) Env.nil L) (by kernel_rfl : _ = D_ctx_Set_start_1 F N Q a0 a1 L)) e)
def q_ctx_Set_cancel_8 (N : TN) : ACode := (.seq (.reg [⟨.t 105, none, .mv, [.l 0]⟩, ⟨.t 106, none, .nilchk, [.t 105]⟩, ⟨.t 107, none, .fad 1, [.t 106]⟩, ⟨.t 108, none, .ld none, [.t 107]⟩, ⟨.t 109, none, .mv, [.l 10]⟩, ⟨.t 110, none, .nilchk, [.t 109]⟩, ⟨.t 111, none, .fad 0, [.t 110]⟩, ⟨.t 112, none, .ld none, [.t 111]⟩, ⟨.t 113, none, .call (N k_tree_Tree_Detach), [.t 108, .t 112]⟩]) (.seq (.reg [⟨.t 114, none, .mv, [.l 8]⟩, ⟨.t 115, none, .mv, [.l 9]⟩, ⟨.l 8, none, .mv, [.t 114]⟩, ⟨.l 9, none, .mv, [.t 115]⟩]) .ret))
noncomputable def D_ctx_Set_cancel_8 (F : TF) (N : TN) (Q : TQ) (x0 : AV) (x8 : AV) (x9 : AV) (x10 : AV) (L : Lg) : Prop :=
 wpOp F .nilchk [x0] L fun v1 L1 =>
 wpOp F (.fad 1) [v1] L1 fun v2 L2 =>
 wpOp F (.ld none) [v2] L2 fun v3 L3 =>
 wpOp F .nilchk [x10] L3 fun v4 L4 =>
 wpOp F (.fad 0) [v4] L4 fun v5 L5 =>
 wpOp F (.ld none) [v5] L5 fun v6 L6 =>
 CallL F (N k_tree_Tree_Detach) [v3, v6] L6 fun v7 L7 =>
 fin1 (some (.tup [x8, x9])) Q L7
theorem e_ctx_Set_cancel_8 (F : TF) (N : TN) (Q : TQ) (l t : Env) (L : Lg) : wp F (q_ctx_Set_cancel_8 N) l t L (fin [.tmp (.l 8), .tmp (.l 9)] Q) nE (fin [.tmp (.l 8), .tmp (.l 9)] Q) = D_ctx_Set_cancel_8 F N Q (l 0) (l 8) (l 9) (l 10) L := by kernel_rfl
def w_ctx_Set_cancel_7 (F : TF) (N : TN) (Q : TQ) : Kn := (fun (l t : Env) (L : Lg) => D_ctx_Set_cancel_8 F N Q (l 0) (l 8) (l 9) (l 10) L)
def y_ctx_Set_cancel_10 (F : TF) (N : TN) (Q : TQ) : Nat → Kn := (fun (j : Nat) (l t : Env) (L : Lg) => bif Nat.beq j 0 then (w_ctx_Set_cancel_7 F N Q) l t L else nE j l t L)
def q_ctx_Set_cancel_15 (N : TN) : ACode := (.reg [⟨.t 104, none, .bin .add, [.l 70, .c (.i .i64 1)]⟩, ⟨.l 70, none, .mv, [.t 104]⟩])
noncomputable def D_ctx_Set_cancel_15 (F : TF) (N : TN) (Q : TQ) (k1 : TK) (l : Env) (L : Lg) : Prop :=
 wpOp F (.bin .add) [(l 70), (.i .i64 1)] L fun v1 L1 =>
 k1 (Env.put l 70 v1) L1
theorem e_ctx_Set_cancel_15 (F : TF) (N : TN) (Q : TQ) (k1 : TK) (l t : Env) (L : Lg) : wp F (q_ctx_Set_cancel_15 N) l t L (fun (l _ : Env) (L : Lg) => k1 l L) (y_ctx_Set_cancel_10 F N Q) (fin [.tmp (.l 8), .tmp (.l 9)] Q) = D_ctx_Set_cancel_15 F N Q k1 l L := by kernel_rfl
def q_ctx_Set_cancel_14a (N : TN) : ACode := (.block 1 (.seq (.reg [⟨.t 72, none, .iad 1, [.l 68, .l 70]⟩, ⟨.t 73, none, .ld none, [.t 72]⟩, ⟨.l 12, none, .mv, [.t 73]⟩]) (.seq (.reg [⟨.t 74, none, .mv, [.l 0]⟩, ⟨.t 75, none, .nilchk, [.t 74]⟩, ⟨.t 76, none, .fad 4, [.t 75]⟩, ⟨.t 77, none, .ld none, [.t 76]⟩, ⟨.t 78, none, .mv, [.l 12]⟩, ⟨.t 79, none, .lkup (.i .i64 0) false, [.t 77, .t 78]⟩, ⟨.l 13, none, .mv, [.t 79]⟩]) (.seq (.seq (.reg [⟨.t 80, none, .mv, [.l 13]⟩, ⟨.t 81, none, .bin .lss, [.t 80, .c (.i .i64 0)]⟩]) (.cond (.t 81) (.seq (.reg [⟨.t 82, none, .mv, [.l 9]⟩, ⟨.t 83, none, .mv, [.l 0]⟩, ⟨.t 84, none, .mv, [.l 13]⟩, ⟨.t 85, none, .un .neg, [.t 84]⟩, ⟨.t 86, none, .bin .sub, [.t 85, .c (.i .i64 1)]⟩, ⟨.t 87, none, .call (N k_ctx_Set_start), [.t 83, .t 86]⟩, ⟨.t 88, none, .bslice [.i .i64 0, .i .i64 0] 1 2 [0], [.t 87]⟩, ⟨.t 89, none, .app 2 16, [.t 82, .t 88]⟩, ⟨.l 9, none, .mv, [.t 89]⟩]) (.exit 1)) .skip)) (.seq (.reg [⟨.t 91, none, .mv, [.l 0]⟩, ⟨.t 92, none, .mv, [.l 13]⟩, ⟨.t 93, none, .mv, [.l 2]⟩, ⟨.t 94, none, .mv, [.l 3]⟩, ⟨.t 95, none, .call (N k_ctx_Set_cancel), [.t 91, .t 92, .t 93, .t 94]⟩, ⟨.t 90, none, .mv, [.t 95]⟩, ⟨.t 96, none, .ext 0, [.t 90]⟩, ⟨.t 97, none, .ext 1, [.t 90]⟩, ⟨.l 14, none, .mv, [.t 96]⟩, ⟨.l 15, none, .mv, [.t 97]⟩]) (.reg [⟨.t 98, none, .mv, [.l 8]⟩, ⟨.t 99, none, .mv, [.l 14]⟩, ⟨.t 100, none, .app 4 48, [.t 98, .t 99]⟩, ⟨.t 101, none, .mv, [.l 9]⟩, ⟨.t 102, none, .mv, [.l 15]⟩, ⟨.t 103, none, .app 2 16, [.t 101, .t 102]⟩, ⟨.l 8, none, .mv, [.t 100]⟩, ⟨.l 9, none, .mv, [.t 103]⟩]))))))
def q_ctx_Set_cancel_14 (N : TN) : ACode := (.seq (q_ctx_Set_cancel_14a N) (q_ctx_Set_cancel_15 N))
noncomputable def D_ctx_Set_cancel_14 (F : TF) (N : TN) (Q : TQ) (k1 : TK) (l : Env) (L : Lg) : Prop :=
 wpOp F (.iad 1) [(l 68), (l 70)] L fun v1 L1 =>
 wpOp F (.ld none) [v1] L1 fun v2 L2 =>
 wpOp F .nilchk [(l 0)] L2 fun v3 L3 =>
 wpOp F (.fad 4) [v3] L3 fun v4 L4 =>
 wpOp F (.ld none) [v4] L4 fun v5 L5 =>
 wpOp F (.lkup (.i .i64 0) false) [v5, v2] L5 fun v6 L6 =>
 wpOp F (.bin .lss) [v6, (.i .i64 0)] L6 fun v7 L7 =>
 condW v7
 (wpOp F (.un .neg) [v6] L7 fun v8 L8 =>
 wpOp F (.bin .sub) [v8, (.i .i64 1)] L8 fun v9 L9 =>
 CallL F (N k_ctx_Set_start) [(l 0), v9] L9 fun v10 L10 =>
 wpOp F (.bslice [.i .i64 0, .i .i64 0] 1 2 [0]) [v10] L10 fun v11 L11 =>
 wpOp F (.app 2 16) [(l 9), v11] L11 fun v12 L12 =>
 D_ctx_Set_cancel_15 F N Q k1 (Env.put (Env.put (Env.put l 12 v2) 13 v6) 9 v12) L12)
 (CallL F (N k_ctx_Set_cancel) [(l 0), v6, (l 2), (l 3)] L7 fun v13 L13 =>
 wpOp F (.ext 0) [v13] L13 fun v14 L14 =>
 wpOp F (.ext 1) [v13] L14 fun v15 L15 =>
 wpOp F (.app 4 48) [(l 8), v14] L15 fun v16 L16 =>
 wpOp F (.app 2 16) [(l 9), v15] L16 fun v17 L17 =>
 D_ctx_Set_cancel_15 F N Q k1 (Env.put (Env.put (Env.put (Env.put (Env.put (Env.put l 12 v2) 13 v6) 14 v14) 15 v15) 8 v16) 9 v17) L17)
theorem e_ctx_Set_cancel_14 (F : TF) (N : TN) (Q : TQ) (k1 : TK) (l t : Env) (L : Lg) : wp F (q_ctx_Set_cancel_14 N) l t L (fun (l _ : Env) (L : Lg) => k1 l L) (y_ctx_Set_cancel_10 F N Q) (fin [.tmp (.l 8), .tmp (.l 9)] Q) = D_ctx_Set_cancel_14 F N Q k1 l L := wpS (e_ctx_Set_cancel_15 F N Q k1) (by kernel_rfl)
def q_ctx_Set_cancel_13a (N : TN) : ACode := (.cond (.t 71) .skip (.exit 0))
def q_ctx_Set_cancel_13 (N : TN) : ACode := (.seq (q_ctx_Set_cancel_13a N) (q_ctx_Set_cancel_14 N))
noncomputable def D_ctx_Set_cancel_13 (F : TF) (N : TN) (Q : TQ) (k1 : TK) (l : Env) (t71 : AV) (L : Lg) : Prop :=
 condW t71
 (D_ctx_Set_cancel_14 F N Q k1 l L)
 (D_ctx_Set_cancel_8 F N Q (l 0) (l 8) (l 9) (l 10) L)
theorem e_ctx_Set_cancel_13 (F : TF) (N : TN) (Q : TQ) (k1 : TK) (l t : Env) (L : Lg) : wp F (q_ctx_Set_cancel_13 N) l t L (fun (l _ : Env) (L : Lg) => k1 l L) (y_ctx_Set_cancel_10 F N Q) (fin [.tmp (.l 8), .tmp (.l 9)] Q) = D_ctx_Set_cancel_13 F N Q k1 l (t 71) L := wpS (e_ctx_Set_cancel_14 F N Q k1) (by kernel_rfl)
def q_ctx_Set_cancel_12a (N : TN) : ACode := (.reg [⟨.t 71, none, .bin .lss, [.l 70, .l 69]⟩])
def q_ctx_Set_cancel_12 (N : TN) : ACode := (.seq (q_ctx_Set_cancel_12a N) (q_ctx_Set_cancel_13 N))
noncomputable def D_ctx_Set_cancel_12 (F : TF) (N : TN) (Q : TQ) (k1 : TK) (l : Env) (L : Lg) : Prop :=
 wpOp F (.bin .lss) [(l 70), (l 69)] L fun v1 L1 =>
 D_ctx_Set_cancel_13 F N Q k1 l v1 L1
theorem e_ctx_Set_cancel_12 (F : TF) (N : TN) (Q : TQ) (k1 : TK) (l t : Env) (L : Lg) : wp F (q_ctx_Set_cancel_12 N) l t L (fun (l _ : Env) (L : Lg) => k1 l L) (y_ctx_Set_cancel_10 F N Q) (fin [.tmp (.l 8), .tmp (.l 9)] Q) = D_ctx_Set_cancel_12 F N Q k1 l L := wpS (e_ctx_Set_cancel_13 F N Q k1) (by kernel_rfl)
def q_ctx_Set_cancel_11 (N : TN) : ACode := (.loop (q_ctx_Set_cancel_12 N))
noncomputable def D_ctx_Set_cancel_11 (F : TF) (N : TN) (Q : TQ) (l : Env) (L : Lg) : Prop :=
 loopW (fun l t L k1 => D_ctx_Set_cancel_12 F N Q k1 l L) l L
theorem e_ctx_Set_cancel_11 (F : TF) (N : TN) (Q : TQ) (l t : Env) (L : Lg) : wp F (q_ctx_Set_cancel_11 N) l t L (w_ctx_Set_cancel_7 F N Q) (y_ctx_Set_cancel_10 F N Q) (fin [.tmp (.l 8), .tmp (.l 9)] Q) = D_ctx_Set_cancel_11 F N Q l L := wpL (fun l t L k1 => e_ctx_Set_cancel_12 F N Q k1 l t L) (by kernel_rfl)
def q_ctx_Set_cancel_10 (N : TN) : ACode := (.block 0 (q_ctx_Set_cancel_11 N))
theorem e_ctx_Set_cancel_10 (F : TF) (N : TN) (Q : TQ) (l t : Env) (L : Lg) : wp F (q_ctx_Set_cancel_10 N) l t L (w_ctx_Set_cancel_7 F N Q) nE (fin [.tmp (.l 8), .tmp (.l 9)] Q) = D_ctx_Set_cancel_11 F N Q l L := wpB (e_ctx_Set_cancel_11 F N Q l t L)
def q_ctx_Set_cancel_9a (N : TN) : ACode := (.reg [⟨.t 60, none, .mv, [.l 0]⟩, ⟨.t 61, none, .nilchk, [.t 60]⟩, ⟨.t 62, none, .fad 1, [.t 61]⟩, ⟨.t 63, none, .ld none, [.t 62]⟩, ⟨.t 64, none, .mv, [.l 10]⟩, ⟨.t 65, none, .nilchk, [.t 64]⟩, ⟨.t 66, none, .fad 0, [.t 65]⟩, ⟨.t 67, none, .ld none, [.t 66]⟩, ⟨.l 68, none, .call (N k_tree_Tree_Kids), [.t 63, .t 67]⟩, ⟨.l 69, none, .lenSl, [.l 68]⟩, ⟨.l 70, none, .mv, [.c (.i .i64 0)]⟩])
def q_ctx_Set_cancel_9 (N : TN) : ACode := (.seq (q_ctx_Set_cancel_9a N) (q_ctx_Set_cancel_10 N))
noncomputable def D_ctx_Set_cancel_9 (F : TF) (N : TN) (Q : TQ) (l : Env) (L : Lg) : Prop :=
 wpOp F .nilchk [(l 0)] L fun v1 L1 =>
 wpOp F (.fad 1) [v1] L1 fun v2 L2 =>
 wpOp F (.ld none) [v2] L2 fun v3 L3 =>
 wpOp F .nilchk [(l 10)] L3 fun v4 L4 =>
 wpOp F (.fad 0) [v4] L4 fun v5 L5 =>
 wpOp F (.ld none) [v5] L5 fun v6 L6 =>
 CallL F (N k_tree_Tree_Kids) [v3, v6] L6 fun v7 L7 =>
 wpOp F .lenSl [v7] L7 fun v8 L8 =>
 D_ctx_Set_cancel_11 F N Q (Env.put (Env.put (Env.put l 68 v7) 69 v8) 70 (.i .i64 0)) L8
theorem e_ctx_Set_cancel_9 (F : TF) (N : TN) (Q : TQ) (l t : Env) (L : Lg) : wp F (q_ctx_Set_cancel_9 N) l t L (w_ctx_Set_cancel_7 F N Q) nE (fin [.tmp (.l 8), .tmp (.l 9)] Q) = D_ctx_Set_cancel_9 F N Q l L := wpS (e_ctx_Set_cancel_10 F N Q) (by kernel_rfl)
def q_ctx_Set_cancel_7 (N : TN) : ACode := (.seq (q_ctx_Set_cancel_9 N) (q_ctx_Set_cancel_8 N))
theorem e_ctx_Set_cancel_7 (F : TF) (N : TN) (Q : TQ) (l t : Env) (L : Lg) : wp F (q_ctx_Set_cancel_7 N) l t L (fin [.tmp (.l 8), .tmp (.l 9)] Q) nE (fin [.tmp (.l 8), .tmp (.l 9)] Q) = D_ctx_Set_cancel_9 F N Q l L := wpS (e_ctx_Set_cancel_8 F N Q) (e_ctx_Set_cancel_9 F N Q l t L)
def q_ctx_Set_cancel_6a (N : TN) : ACode := (.reg [⟨.t 51, none, .mv, [.l 0]⟩, ⟨.t 52, none, .nilchk, [.t 51]⟩, ⟨.t 53, none, .fad 0, [.t 52]⟩, ⟨.t 54, none, .ld none, [.t 53]⟩, ⟨.t 55, none, .mv, [.l 10]⟩, ⟨.t 56, none, .nilchk, [.t 55]⟩, ⟨.t 57, none, .fad 8, [.t 56]⟩, ⟨.t 58, none, .ld none, [.t 57]⟩, ⟨.t 59, none, .call (N k_timer_Set_Stop), [.t 54, .t 58]⟩])
def q_ctx_Set_cancel_6 (N : TN) : ACode := (.seq (q_ctx_Set_cancel_6a N) (q_ctx_Set_cancel_7 N))
noncomputable def D_ctx_Set_cancel_6 (F : TF) (N : TN) (Q : TQ) (l : Env) (L : Lg) : Prop :=
 wpOp F .nilchk [(l 0)] L fun v1 L1 =>
 wpOp F (.fad 0) [v1] L1 fun v2 L2 =>
 wpOp F (.ld none) [v2] L2 fun v3 L3 =>
 wpOp F .nilchk [(l 10)] L3 fun v4 L4 =>
 wpOp F (.fad 8) [v4] L4 fun v5 L5 =>
 wpOp F (.ld none) [v5] L5 fun v6 L6 =>
 CallL F (N k_timer_Set_Stop) [v3, v6] L6 fun v7 L7 =>
 D_ctx_Set_cancel_9 F N Q l L7
theorem e_ctx_Set_cancel_6 (F : TF) (N : TN) (Q : TQ) (l t : Env) (L : Lg) : wp F (q_ctx_Set_cancel_6 N) l t L (fin [.tmp (.l 8), .tmp (.l 9)] Q) nE (fin [.tmp (.l 8), .tmp (.l 9)] Q) = D_ctx_Set_cancel_6 F N Q l L := wpS (e_ctx_Set_cancel_7 F N Q) (by kernel_rfl)
def q_ctx_Set_cancel_5a (N : TN) : ACode := (.reg [⟨.t 41, none, .mv, [.l 1]⟩, ⟨.t 42, none, .mv, [.l 2]⟩, ⟨.t 43, none, .mv, [.l 3]⟩, ⟨.t 44, none, .mv, [.l 10]⟩, ⟨.t 45, none, .nilchk, [.t 44]⟩, ⟨.t 46, none, .fad 2, [.t 45]⟩, ⟨.t 47, none, .ld none, [.t 46]⟩, ⟨.t 48, none, .call (N k_chanq_Chan_End), [.t 47]⟩, ⟨.t 49, none, .build [.i .i64 0, .i .i64 0, .i .i64 0, .sl none 0 0 0] [(0, 1), (1, 1), (2, 1), (3, 1)], [.t 41, .t 42, .t 43, .t 48]⟩, ⟨.t 50, none, .bslice [.i .i64 0, .i .i64 0, .i .i64 0, .sl none 0 0 0] 1 4 [0], [.t 49]⟩, ⟨.l 8, none, .mv, [.t 50]⟩])
def q_ctx_Set_cancel_5 (N : TN) : ACode := (.seq (q_ctx_Set_cancel_5a N) (q_ctx_Set_cancel_6 N))
noncomputable def D_ctx_Set_cancel_5 (F : TF) (N : TN) (Q : TQ) (l : Env) (L : Lg) : Prop :=
 wpOp F .nilchk [(l 10)] L fun v1 L1 =>
 wpOp F (.fad 2) [v1] L1 fun v2 L2 =>
 wpOp F (.ld none) [v2] L2 fun v3 L3 =>
 CallL F (N k_chanq_Chan_End) [v3] L3 fun v4 L4 =>
 wpOp F (.build [.i .i64 0, .i .i64 0, .i .i64 0, .sl none 0 0 0] [(0, 1), (1, 1), (2, 1), (3, 1)]) [(l 1), (l 2), (l 3), v4] L4 fun v5 L5 =>
 wpOp F (.bslice [.i .i64 0, .i .i64 0, .i .i64 0, .sl none 0 0 0] 1 4 [0]) [v5] L5 fun v6 L6 =>
 D_ctx_Set_cancel_6 F N Q (Env.put l 8 v6) L6
theorem e_ctx_Set_cancel_5 (F : TF) (N : TN) (Q : TQ) (l t : Env) (L : Lg) : wp F (q_ctx_Set_cancel_5 N) l t L (fin [.tmp (.l 8), .tmp (.l 9)] Q) nE (fin [.tmp (.l 8), .tmp (.l 9)] Q) = D_ctx_Set_cancel_5 F N Q l L := wpS (e_ctx_Set_cancel_6 F N Q) (by kernel_rfl)
def q_ctx_Set_cancel_4a (N : TN) : ACode := (.reg [⟨.t 33, none, .mv, [.l 10]⟩, ⟨.t 34, none, .mv, [.l 10]⟩, ⟨.t 35, none, .mv, [.l 2]⟩, ⟨.t 36, none, .mv, [.l 3]⟩, ⟨.t 37, none, .nilchk, [.t 33]⟩, ⟨.t 38, none, .fad 3, [.t 37]⟩, ⟨.no, none, .st 1, [.t 38, .t 35]⟩, ⟨.t 39, none, .nilchk, [.t 34]⟩, ⟨.t 40, none, .fad 4, [.t 39]⟩, ⟨.no, none, .st 1, [.t 40, .t 36]⟩])
def q_ctx_Set_cancel_4 (N : TN) : ACode := (.seq (q_ctx_Set_cancel_4a N) (q_ctx_Set_cancel_5 N))
noncomputable def D_ctx_Set_cancel_4 (F : TF) (N : TN) (Q : TQ) (l : Env) (L : Lg) : Prop :=
 wpOp F .nilchk [(l 10)] L fun v1 L1 =>
 wpOp F (.fad 3) [v1] L1 fun v2 L2 =>
 wpOp F (.st 1) [v2, (l 2)] L2 fun _ L3 =>
 wpOp F .nilchk [(l 10)] L3 fun v4 L4 =>
 wpOp F (.fad 4) [v4] L4 fun v5 L5 =>
 wpOp F (.st 1) [v5, (l 3)] L5 fun _ L6 =>
 D_ctx_Set_cancel_5 F N Q l L6
theorem e_ctx_Set_cancel_4 (F : TF) (N : TN) (Q : TQ) (l t : Env) (L : Lg) : wp F (q_ctx_Set_cancel_4 N) l t L (fin [.tmp (.l 8), .tmp (.l 9)] Q) nE (fin [.tmp (.l 8), .tmp (.l 9)] Q) = D_ctx_Set_cancel_4 F N Q l L := wpS (e_ctx_Set_cancel_5 F N Q) (by kernel_rfl)
def q_ctx_Set_cancel_3a (N : TN) : ACode := (.seq (.reg [⟨.t 22, none, .mv, [.l 10]⟩, ⟨.t 23, none, .nilchk, [.t 22]⟩, ⟨.t 24, none, .fad 1, [.t 23]⟩, ⟨.t 25, none, .ld none, [.t 24]⟩, ⟨.t 26, none, .mv, [.t 25]⟩, ⟨.t 27, some (.t 26, false), .mv, [.l 10]⟩, ⟨.t 28, some (.t 26, false), .nilchk, [.t 27]⟩, ⟨.t 29, some (.t 26, false), .fad 3, [.t 28]⟩, ⟨.t 30, some (.t 26, false), .ld none, [.t 29]⟩, ⟨.t 31, some (.t 26, false), .bin .neq, [.t 30, .c (.i .i64 0)]⟩, ⟨.t 32, none, .pick, [.t 26, .c (.b true), .t 31]⟩]) (.cond (.t 32) (.seq (.reg [⟨.l 8, none, .mv, [.c (.sl none 0 0 0)]⟩, ⟨.l 9, none, .mv, [.c (.sl none 0 0 0)]⟩]) .ret) .skip))
def q_ctx_Set_cancel_3 (N : TN) : ACode := (.seq (q_ctx_Set_cancel_3a N) (q_ctx_Set_cancel_4 N))
noncomputable def D_ctx_Set_cancel_3 (F : TF) (N : TN) (Q : TQ) (l : Env) (L : Lg) : Prop :=
 wpOp F .nilchk [(l 10)] L fun v1 L1 =>
 wpOp F (.fad 1) [v1] L1 fun v2 L2 =>
 wpOp F (.ld none) [v2] L2 fun v3 L3 =>
 gdOp F v3 false .mv [(l 10)] L3 fun v4 L4 =>
 gdOp F v3 false .nilchk [v4] L4 fun v5 L5 =>
 gdOp F v3 false (.fad 3) [v5] L5 fun v6 L6 =>
 gdOp F v3 false (.ld none) [v6] L6 fun v7 L7 =>
 gdOp F v3 false (.bin .neq) [v7, (.i .i64 0)] L7 fun v8 L8 =>
 wpOp F .pick [v3, (.b true), v8] L8 fun v9 L9 =>
 condW v9
 (fin1 (some (.tup [(.sl none 0 0 0), (.sl none 0 0 0)])) Q L9)
 (D_ctx_Set_cancel_4 F N Q l L9)
theorem e_ctx_Set_cancel_3 (F : TF) (N : TN) (Q : TQ) (l t : Env) (L : Lg) : wp F (q_ctx_Set_cancel_3 N) l t L (fin [.tmp (.l 8), .tmp (.l 9)] Q) nE (fin [.tmp (.l 8), .tmp (.l 9)] Q) = D_ctx_Set_cancel_3 F N Q l L := wpS (e_ctx_Set_cancel_4 F N Q) (by kernel_rfl)
def q_ctx_Set_cancel_2a (N : TN) : ACode := (.reg [⟨.t 16, none, .mv, [.l 0]⟩, ⟨.t 17, none, .nilchk, [.t 16]⟩, ⟨.t 18, none, .fad 2, [.t 17]⟩, ⟨.t 19, none, .ld none, [.t 18]⟩, ⟨.t 20, none, .mv, [.l 1]⟩, ⟨.t 21, none, .iad 9, [.t 19, .t 20]⟩, ⟨.l 10, none, .mv, [.t 21]⟩])
def q_ctx_Set_cancel_2 (N : TN) : ACode := (.seq (q_ctx_Set_cancel_2a N) (q_ctx_Set_cancel_3 N))
noncomputable def D_ctx_Set_cancel_2 (F : TF) (N : TN) (Q : TQ) (l : Env) (L : Lg) : Prop :=
 wpOp F .nilchk [(l 0)] L fun v1 L1 =>
 wpOp F (.fad 2) [v1] L1 fun v2 L2 =>
 wpOp F (.ld none) [v2] L2 fun v3 L3 =>
 wpOp F (.iad 9) [v3, (l 1)] L3 fun v4 L4 =>
 D_ctx_Set_cancel_3 F N Q (Env.put l 10 v4) L4
theorem e_ctx_Set_cancel_2 (F : TF) (N : TN) (Q : TQ) (l t : Env) (L : Lg) : wp F (q_ctx_Set_cancel_2 N) l t L (fin [.tmp (.l 8), .tmp (.l 9)] Q) nE (fin [.tmp (.l 8), .tmp (.l 9)] Q) = D_ctx_Set_cancel_2 F N Q l L := wpS (e_ctx_Set_cancel_3 F N Q) (by kernel_rfl)
def q_ctx_Set_cancel_1a (N : TN) : ACode := (.reg [⟨.l 8, none, .mv, [.c (.sl none 0 0 0)]⟩, ⟨.l 9, none, .mv, [.c (.sl none 0 0 0)]⟩])
def q_ctx_Set_cancel_1 (N : TN) : ACode := (.seq (q_ctx_Set_cancel_1a N) (q_ctx_Set_cancel_2 N))
noncomputable def D_ctx_Set_cancel_1 (F : TF) (N : TN) (Q : TQ) (l : Env) (L : Lg) : Prop :=
 D_ctx_Set_cancel_2 F N Q (Env.put (Env.put l 8 (.sl none 0 0 0)) 9 (.sl none 0 0 0)) L
theorem e_ctx_Set_cancel_1 (F : TF) (N : TN) (Q : TQ) (l t : Env) (L : Lg) : wp F (q_ctx_Set_cancel_1 N) l t L (fin [.tmp (.l 8), .tmp (.l 9)] Q) nE (fin [.tmp (.l 8), .tmp (.l 9)] Q) = D_ctx_Set_cancel_1 F N Q l L := wpS (e_ctx_Set_cancel_2 F N Q) (by kernel_rfl)
/-- (*tarpaulin/ctx.Set).cancel -/
def c_ctx_Set_cancel (N : TN) : AFn := ⟨q_ctx_Set_cancel_1 N, [.tmp (.l 8), .tmp (.l 9)]⟩
structure H_ctx_Set_cancel (N : TN) (F : TF) : Prop where
  code : F (N k_ctx_Set_cancel) = some (c_ctx_Set_cancel N)
  chanq_Chan_End : H_chanq_Chan_End N F
  timer_Set_Stop : H_timer_Set_Stop N F
  tree_Tree_Kids : H_tree_Tree_Kids N F
  ctx_Set_start : H_ctx_Set_start N F
  tree_Tree_Detach : H_tree_Tree_Detach N F
theorem r_ctx_Set_cancel {F : TF} {N : TN} (h : F (N k_ctx_Set_cancel) = some (c_ctx_Set_cancel N)) {Q : TQ} {a0 a1 a2 a3 : AV} {L : Lg} (e : D_ctx_Set_cancel_1 F N Q (initE [a0, a1, a2, a3] 0) L) : CallL F (N k_ctx_Set_cancel) [a0, a1, a2, a3] L Q :=
  CallL.of_wp h (Eq.mpr (Eq.trans (e_ctx_Set_cancel_1 F N Q (initE [a0, a1, a2, a3] 0) Env.nil L) (by kernel_rfl : _ = D_ctx_Set_cancel_1 F N Q (initE [a0, a1, a2, a3] 0) L)) e)
def q_ctx_Set_begin_1 (N : TN) : ACode := (.seq (.reg [⟨.l 6, none, .mv, [.c (.sl none 0 0 0)]⟩]) (.seq (.reg [⟨.t 10, none, .mv, [.l 0]⟩, ⟨.t 11, none, .nilchk, [.t 10]⟩, ⟨.t 12, none, .fad 2, [.t 11]⟩, ⟨.t 13, none, .ld none, [.t 12]⟩, ⟨.t 14, none, .mv, [.l 2]⟩, ⟨.t 15, none, .iad 9, [.t 13, .t 14]⟩, ⟨.t 16, none, .ld (some 9), [.t 15]⟩, ⟨.l 7, none, .alloc [.i .i64 0, .b false, .p none, .i .i64 0, .i .i64 0, .i .i64 0, .b false, .b false, .i .i64 0], []⟩, ⟨.no, none, .st 9, [.l 7, .t 16]⟩]) (.seq (.seq (.reg [⟨.t 17, none, .fad 3, [.l 7]⟩, ⟨.t 18, none, .ld none, [.t 17]⟩, ⟨.t 19, none, .bin .eql, [.t 18, .c (.i .i64 0)]⟩]) (.cond (.t 19) (.seq (.reg [⟨.l 6, none, .mv, [.c (.sl none 0 0 0)]⟩]) .ret) .skip)) (.seq (.reg [⟨.t 21, none, .mv, [.l 0]⟩, ⟨.t 22, none, .mv, [.l 1]⟩, ⟨.t 23, none, .fad 3, [.l 7]⟩, ⟨.t 24, none, .ld none, [.t 23]⟩, ⟨.t 25, none, .fad 4, [.l 7]⟩, ⟨.t 26, none, .ld none, [.t 25]⟩, ⟨.t 27, none, .call (N k_ctx_Set_cancel), [.t 21, .t 22, .t 24, .t 26]⟩, ⟨.t 20, none, .mv, [.t 27]⟩, ⟨.t 28, none, .ext 0, [.t 20]⟩, ⟨.t 29, none, .ext 1, [.t 20]⟩, ⟨.l 8, none, .mv, [.t 28]⟩, ⟨.t 9, none, .mv, [.t 29]⟩]) (.seq (.reg [⟨.t 30, none, .mv, [.l 8]⟩, ⟨.l 6, none, .mv, [.t 30]⟩]) .ret)))))
noncomputable def D_ctx_Set_begin_1 (F : TF) (N : TN) (Q : TQ) (x0 : AV) (x1 : AV) (x2 : AV) (L : Lg) : Prop :=
 wpOp F .nilchk [x0] L fun v1 L1 =>
 wpOp F (.fad 2) [v1] L1 fun v2 L2 =>
 wpOp F (.ld none) [v2] L2 fun v3 L3 =>
 wpOp F (.iad 9) [v3, x2] L3 fun v4 L4 =>
 wpOp F (.ld (some 9)) [v4] L4 fun v5 L5 =>
 wpOp F (.alloc [.i .i64 0, .b false, .p none, .i .i64 0, .i .i64 0, .i .i64 0, .b false, .b false, .i .i64 0]) [] L5 fun v6 L6 =>
 wpOp F (.st 9) [v6, v5] L6 fun _ L7 =>
 wpOp F (.fad 3) [v6] L7 fun v8 L8 =>
 wpOp F (.ld none) [v8] L8 fun v9 L9 =>
 wpOp F (.bin .eql) [v9, (.i .i64 0)] L9 fun v10 L10 =>
 condW v10
 (fin1 (some (.sl none 0 0 0)) Q L10)
 (wpOp F (.fad 3) [v6] L10 fun v11 L11 =>
 wpOp F (.ld none) [v11] L11 fun v12 L12 =>
 wpOp F (.fad 4) [v6] L12 fun v13 L13 =>
 wpOp F (.ld none) [v13] L13 fun v14 L14 =>
 CallL F (N k_ctx_Set_cancel) [x0, x1, v12, v14] L14 fun v15 L15 =>
 wpOp F (.ext 0) [v15] L15 fun v16 L16 =>
 wpOp F (.ext 1) [v15] L16 fun v17 L17 =>
 fin1 (some v16) Q L17)
theorem e_ctx_Set_begin_1 (F : TF) (N : TN) (Q : TQ) (l t : Env) (L : Lg) : wp F (q_ctx_Set_begin_1 N) l t L (fin [.tmp (.l 6)] Q) nE (fin [.tmp (.l 6)] Q) = D_ctx_Set_begin_1 F N Q (l 0) (l 1) (l 2) L := by kernel_rfl
/-- (*tarpaulin/ctx.Set).begin -/
def c_ctx_Set_begin (N : TN) : AFn := ⟨q_ctx_Set_begin_1 N, [.tmp (.l 6)]⟩
structure H_ctx_Set_begin (N : TN) (F : TF) : Prop where
  code : F (N k_ctx_Set_begin) = some (c_ctx_Set_begin N)
  ctx_Set_cancel : H_ctx_Set_cancel N F
theorem r_ctx_Set_begin {F : TF} {N : TN} (h : F (N k_ctx_Set_begin) = some (c_ctx_Set_begin N)) {Q : TQ} {a0 a1 a2 : AV} {L : Lg} (e : D_ctx_Set_begin_1 F N Q a0 a1 a2 L) : CallL F (N k_ctx_Set_begin) [a0, a1, a2] L Q :=
  CallL.of_wp h (Eq.mpr (Eq.trans (e_ctx_Set_begin_1 F N Q (initE [a0, a1, a2] 0) Env.nil L) (by kernel_rfl : _ = D_ctx_Set_begin_1 F N Q a0 a1 a2 L)) e)
def q_ctx_Set_Cancels_2 (N : TN) : ACode := (.seq (.seq (.reg [⟨.t 10, none, .mv, [.l 0]⟩, ⟨.t 11, none, .mv, [.l 1]⟩, ⟨.t 12, none, .call (N k_ctx_Set_room), [.t 10, .t 11]⟩, ⟨.l 7, none, .mv, [.t 12]⟩]) (.seq (.reg [⟨.t 13, none, .mv, [.l 7]⟩, ⟨.t 14, none, .bin .neq, [.t 13, .c (.i .i64 0)]⟩]) (.cond (.t 14) (.seq (.reg [⟨.t 15, none, .mv, [.l 7]⟩, ⟨.l 4, none, .mv, [.c (.i .i64 0)]⟩, ⟨.l 5, none, .mv, [.c (.sl none 0 0 0)]⟩, ⟨.l 6, none, .mv, [.t 15]⟩]) .ret) .skip))) (.seq (.reg [⟨.t 16, none, .mv, [.l 0]⟩, ⟨.t 17, none, .nilchk, [.t 16]⟩, ⟨.t 18, none, .fad 2, [.t 17]⟩, ⟨.t 19, none, .ld none, [.t 18]⟩, ⟨.t 20, none, .mv, [.l 1]⟩, ⟨.t 21, none, .iad 9, [.t 19, .t 20]⟩, ⟨.t 22, none, .ld (some 9), [.t 21]⟩, ⟨.l 8, none, .alloc [.i .i64 0, .b false, .p none, .i .i64 0, .i .i64 0, .i .i64 0, .b false, .b false, .i .i64 0], []⟩, ⟨.no, none, .st 9, [.l 8, .t 22]⟩]) (.seq (.regD [⟨.t 23, none, .mv, [.l 0]⟩, ⟨.t 24, none, .call (N k_chanq_Signal), []⟩, ⟨.t 25, none, .fad 5, [.l 8]⟩, ⟨.t 26, none, .ld none, [.t 25]⟩, ⟨.t 27, none, .fad 6, [.l 8]⟩, ⟨.t 28, none, .ld none, [.t 27]⟩, ⟨.t 29, none, .build [.i .i64 0, .b false, .p none, .i .i64 0, .i .i64 0, .i .i64 0, .b false, .b false, .i .i64 0] [(2, 1), (5, 1), (6, 1)], [.t 24, .t 26, .t 28]⟩, ⟨.t 30, none, .fad 0, [.l 8]⟩, ⟨.t 31, none, .ld none, [.t 30]⟩, ⟨.t 32, none, .call (N k_ctx_Set_add), [.t 23, .t 29, .t 31]⟩, ⟨.l 9, none, .mv, [.t 32]⟩] [(3, 0), (5, 0), (8, 0)]) (.seq (.reg [⟨.t 33, none, .mv, [.l 9]⟩, ⟨.t 34, none, .mv, [.l 0]⟩, ⟨.t 35, none, .mv, [.l 9]⟩, ⟨.t 36, none, .mv, [.l 1]⟩, ⟨.t 37, none, .call (N k_ctx_Set_begin), [.t 34, .t 35, .t 36]⟩, ⟨.l 4, none, .mv, [.t 33]⟩, ⟨.l 5, none, .mv, [.t 37]⟩, ⟨.l 6, none, .mv, [.c (.i .i64 0)]⟩]) .ret))))
noncomputable def D_ctx_Set_Cancels_2 (F : TF) (N : TN) (Q : TQ) (x0 : AV) (x1 : AV) (L : Lg) : Prop :=
 CallL F (N k_ctx_Set_room) [x0, x1] L fun v1 L1 =>
 wpOp F (.bin .neq) [v1, (.i .i64 0)] L1 fun v2 L2 =>
 condW v2
 (fin1 (some (.tup [(.i .i64 0), (.sl none 0 0 0), v1])) Q L2)
 (wpOp F .nilchk [x0] L2 fun v3 L3 =>
 wpOp F (.fad 2) [v3] L3 fun v4 L4 =>
 wpOp F (.ld none) [v4] L4 fun v5 L5 =>
 wpOp F (.iad 9) [v5, x1] L5 fun v6 L6 =>
 wpOp F (.ld (some 9)) [v6] L6 fun v7 L7 =>
 wpOp F (.alloc [.i .i64 0, .b false, .p none, .i .i64 0, .i .i64 0, .i .i64 0, .b false, .b false, .i .i64 0]) [] L7 fun v8 L8 =>
 wpOp F (.st 9) [v8, v7] L8 fun _ L9 =>
 CallL F (N k_chanq_Signal) [] L9 fun v10 L10 =>
 wpOp F (.fad 5) [v8] L10 fun v11 L11 =>
 wpOp F (.ld none) [v11] L11 fun v12 L12 =>
 wpOp F (.fad 6) [v8] L12 fun v13 L13 =>
 wpOp F (.ld none) [v13] L13 fun v14 L14 =>
 wpOp F (.build [.i .i64 0, .b false, .p none, .i .i64 0, .i .i64 0, .i .i64 0, .b false, .b false, .i .i64 0] [(2, 1), (5, 1), (6, 1)]) [v10, v12, v14] L14 fun v15 L15 =>
 wpOp F (.fad 0) [v8] L15 fun v16 L16 =>
 wpOp F (.ld none) [v16] L16 fun v17 L17 =>
 CallL F (N k_ctx_Set_add) [x0, v15, v17] L17 fun v18 L18 =>
 (againV (.ld none) [v11] L11 L9 ∧ againV (.ld none) [v13] L13 L9 ∧ againV (.ld none) [v16] L16 L9 ∧ True) ∧ (CallL F (N k_ctx_Set_begin) [x0, v18, x1] L18 fun v19 L19 =>
 fin1 (some (.tup [v18, v19, (.i .i64 0)])) Q L19))
theorem e_ctx_Set_Cancels_2 (F : TF) (N : TN) (Q : TQ) (l t : Env) (L : Lg) : wp F (q_ctx_Set_Cancels_2 N) l t L (fin [.tmp (.l 4), .tmp (.l 5), .tmp (.l 6)] Q) nE (fin [.tmp (.l 4), .tmp (.l 5), .tmp (.l 6)] Q) = D_ctx_Set_Cancels_2 F N Q (l 0) (l 1) L := by kernel_rfl
def q_ctx_Set_Cancels_1a (N : TN) : ACode := (.reg [⟨.l 4, none, .mv, [.c (.i .i64 0)]⟩, ⟨.l 5, none, .mv, [.c (.sl none 0 0 0)]⟩, ⟨.l 6, none, .mv, [.c (.i .i64 0)]⟩])
def q_ctx_Set_Cancels_1 (N : TN) : ACode := (.seq (q_ctx_Set_Cancels_1a N) (q_ctx_Set_Cancels_2 N))
noncomputable def D_ctx_Set_Cancels_1 (F : TF) (N : TN) (Q : TQ) (x0 : AV) (x1 : AV) (L : Lg) : Prop :=
 D_ctx_Set_Cancels_2 F N Q x0 x1 L
theorem e_ctx_Set_Cancels_1 (F : TF) (N : TN) (Q : TQ) (l t : Env) (L : Lg) : wp F (q_ctx_Set_Cancels_1 N) l t L (fin [.tmp (.l 4), .tmp (.l 5), .tmp (.l 6)] Q) nE (fin [.tmp (.l 4), .tmp (.l 5), .tmp (.l 6)] Q) = D_ctx_Set_Cancels_1 F N Q (l 0) (l 1) L := wpS (e_ctx_Set_Cancels_2 F N Q) (by kernel_rfl)
/-- (*tarpaulin/ctx.Set).Cancels -/
def c_ctx_Set_Cancels (N : TN) : AFn := ⟨q_ctx_Set_Cancels_1 N, [.tmp (.l 4), .tmp (.l 5), .tmp (.l 6)]⟩
structure H_ctx_Set_Cancels (N : TN) (F : TF) : Prop where
  code : F (N k_ctx_Set_Cancels) = some (c_ctx_Set_Cancels N)
  ctx_Set_room : H_ctx_Set_room N F
  chanq_Signal : H_chanq_Signal N F
  ctx_Set_add : H_ctx_Set_add N F
  ctx_Set_begin : H_ctx_Set_begin N F
theorem r_ctx_Set_Cancels {F : TF} {N : TN} (h : F (N k_ctx_Set_Cancels) = some (c_ctx_Set_Cancels N)) {Q : TQ} {a0 a1 : AV} {L : Lg} (e : D_ctx_Set_Cancels_1 F N Q a0 a1 L) : CallL F (N k_ctx_Set_Cancels) [a0, a1] L Q :=
  CallL.of_wp h (Eq.mpr (Eq.trans (e_ctx_Set_Cancels_1 F N Q (initE [a0, a1] 0) Env.nil L) (by kernel_rfl : _ = D_ctx_Set_Cancels_1 F N Q a0 a1 L)) e)
def q_ctx_Set_After_6 (N : TN) : ACode := (.seq (.reg [⟨.t 56, none, .mv, [.l 0]⟩, ⟨.t 57, none, .mv, [.l 0]⟩, ⟨.t 58, none, .nilchk, [.t 57]⟩, ⟨.t 59, none, .fad 3, [.t 58]⟩, ⟨.t 60, none, .ld none, [.t 59]⟩, ⟨.t 61, none, .mv, [.l 9]⟩, ⟨.t 62, none, .mv, [.l 2]⟩, ⟨.t 63, none, .build [.i .i64 0, .i .i64 0, .b false] [(0, 1), (1, 1)], [.t 61, .t 62]⟩, ⟨.t 64, none, .bslice [.i .i64 0, .i .i64 0, .b false] 1 3 [0], [.t 63]⟩, ⟨.t 65, none, .app 3 24, [.t 60, .t 64]⟩, ⟨.t 66, none, .nilchk, [.t 56]⟩, ⟨.t 67, none, .fad 3, [.t 66]⟩, ⟨.no, none, .st 1, [.t 67, .t 65]⟩]) (.seq (.seq (.reg [⟨.t 68, none, .mv, [.l 0]⟩, ⟨.t 69, none, .nilchk, [.t 68]⟩, ⟨.t 70, none, .fad 2, [.t 69]⟩, ⟨.t 71, none, .ld none, [.t 70]⟩, ⟨.t 72, none, .mv, [.l 1]⟩, ⟨.t 73, none, .iad 9, [.t 71, .t 72]⟩, ⟨.t 74, none, .fad 3, [.t 73]⟩, ⟨.t 75, none, .ld none, [.t 74]⟩, ⟨.t 76, none, .bin .neq, [.t 75, .c (.i .i64 0)]⟩]) (.cond (.t 76) (.seq (.reg [⟨.t 77, none, .mv, [.l 11]⟩, ⟨.t 78, none, .mv, [.l 0]⟩, ⟨.t 79, none, .mv, [.l 11]⟩, ⟨.t 80, none, .call (N k_ctx_Set_start), [.t 78, .t 79]⟩, ⟨.t 81, none, .bslice [.i .i64 0, .i .i64 0] 1 2 [0], [.t 80]⟩, ⟨.l 6, none, .mv, [.t 77]⟩, ⟨.l 7, none, .mv, [.t 81]⟩, ⟨.l 8, none, .mv, [.c (.i .i64 0)]⟩]) .ret) .skip)) (.seq (.reg [⟨.t 82, none, .mv, [.l 11]⟩, ⟨.l 6, none, .mv, [.t 82]⟩, ⟨.l 7, none, .mv, [.c (.sl none 0 0 0)]⟩, ⟨.l 8, none, .mv, [.c (.i .i64 0)]⟩]) .ret)))
noncomputable def D_ctx_Set_After_6 (F : TF) (N : TN) (Q : TQ) (x0 : AV) (x1 : AV) (x2 : AV) (x9 : AV) (x11 : AV) (L : Lg) : Prop :=
 wpOp F .nilchk [x0] L fun v1 L1 =>
 wpOp F (.fad 3) [v1] L1 fun v2 L2 =>
 wpOp F (.ld none) [v2] L2 fun v3 L3 =>
 wpOp F (.build [.i .i64 0, .i .i64 0, .b false] [(0, 1), (1, 1)]) [x9, x2] L3 fun v4 L4 =>
 wpOp F (.bslice [.i .i64 0, .i .i64 0, .b false] 1 3 [0]) [v4] L4 fun v5 L5 =>
 wpOp F (.app 3 24) [v3, v5] L5 fun v6 L6 =>
 wpOp F .nilchk [x0] L6 fun v7 L7 =>
 wpOp F (.fad 3) [v7] L7 fun v8 L8 =>
 wpOp F (.st 1) [v8, v6] L8 fun _ L9 =>
 wpOp F .nilchk [x0] L9 fun v10 L10 =>
 wpOp F (.fad 2) [v10] L10 fun v11 L11 =>
 wpOp F (.ld none) [v11] L11 fun v12 L12 =>
 wpOp F (.iad 9) [v12, x1] L12 fun v13 L13 =>
 wpOp F (.fad 3) [v13] L13 fun v14 L14 =>
 wpOp F (.ld none) [v14] L14 fun v15 L15 =>
 wpOp F (.bin .neq) [v15, (.i .i64 0)] L15 fun v16 L16 =>
 condW v16
 (CallL F (N k_ctx_Set_start) [x0, x11] L16 fun v17 L17 =>
 wpOp F (.bslice [.i .i64 0, .i .i64 0] 1 2 [0]) [v17] L17 fun v18 L18 =>
 fin1 (some (.tup [x11, v18, (.i .i64 0)])) Q L18)
 (fin1 (some (.tup [x11, (.sl none 0 0 0), (.i .i64 0)])) Q L16)
theorem e_ctx_Set_After_6 (F : TF) (N : TN) (Q : TQ) (l t : Env) (L : Lg) : wp F (q_ctx_Set_After_6 N) l t L (fin [.tmp (.l 6), .tmp (.l 7), .tmp (.l 8)] Q) nE (fin [.tmp (.l 6), .tmp (.l 7), .tmp (.l 8)] Q) = D_ctx_Set_After_6 F N Q (l 0) (l 1) (l 2) (l 9) (l 11) L := by kernel_rfl
def q_ctx_Set_After_5a (N : TN) : ACode := (.reg [⟨.t 48, none, .mv, [.l 0]⟩, ⟨.t 49, none, .nilchk, [.t 48]⟩, ⟨.t 50, none, .fad 4, [.t 49]⟩, ⟨.t 51, none, .ld none, [.t 50]⟩, ⟨.t 52, none, .mv, [.l 9]⟩, ⟨.t 53, none, .mv, [.l 11]⟩, ⟨.t 54, none, .un .neg, [.t 53]⟩, ⟨.t 55, none, .bin .sub, [.t 54, .c (.i .i64 1)]⟩, ⟨.no, none, .mset, [.t 51, .t 52, .t 55]⟩])
def q_ctx_Set_After_5 (N : TN) : ACode := (.seq (q_ctx_Set_After_5a N) (q_ctx_Set_After_6 N))
noncomputable def D_ctx_Set_After_5 (F : TF) (N : TN) (Q : TQ) (x0 : AV) (x1 : AV) (x2 : AV) (x9 : AV) (x11 : AV) (L : Lg) : Prop :=
 wpOp F .nilchk [x0] L fun v1 L1 =>
 wpOp F (.fad 4) [v1] L1 fun v2 L2 =>
 wpOp F (.ld none) [v2] L2 fun v3 L3 =>
 wpOp F (.un .neg) [x11] L3 fun v4 L4 =>
 wpOp F (.bin .sub) [v4, (.i .i64 1)] L4 fun v5 L5 =>
 wpOp F .mset [v3, x9, v5] L5 fun _ L6 =>
 D_ctx_Set_After_6 F N Q x0 x1 x2 x9 x11 L6
theorem e_ctx_Set_After_5 (F : TF) (N : TN) (Q : TQ) (l t : Env) (L : Lg) : wp F (q_ctx_Set_After_5 N) l t L (fin [.tmp (.l 6), .tmp (.l 7), .tmp (.l 8)] Q) nE (fin [.tmp (.l 6), .tmp (.l 7), .tmp (.l 8)] Q) = D_ctx_Set_After_5 F N Q (l 0) (l 1) (l 2) (l 9) (l 11) L := wpS (e_ctx_Set_After_6 F N Q) (by kernel_rfl)
def q_ctx_Set_After_4a (N : TN) : ACode := (.reg [⟨.t 43, none, .mv, [.l 0]⟩, ⟨.t 44, none, .nilchk, [.t 43]⟩, ⟨.t 45, none, .fad 3, [.t 44]⟩, ⟨.t 46, none, .ld none, [.t 45]⟩, ⟨.t 47, none, .lenSl, [.t 46]⟩, ⟨.l 11, none, .mv, [.t 47]⟩])
def q_ctx_Set_After_4 (N : TN) : ACode := (.seq (q_ctx_Set_After_4a N) (q_ctx_Set_After_5 N))
noncomputable def D_ctx_Set_After_4 (F : TF) (N : TN) (Q : TQ) (x0 : AV) (x1 : AV) (x2 : AV) (x9 : AV) (L : Lg) : Prop :=
 wpOp F .nilchk [x0] L fun v1 L1 =>
 wpOp F (.fad 3) [v1] L1 fun v2 L2 =>
 wpOp F (.ld none) [v2] L2 fun v3 L3 =>
 wpOp F .lenSl [v3] L3 fun v4 L4 =>
 D_ctx_Set_After_5 F N Q x0 x1 x2 x9 v4 L4
theorem e_ctx_Set_After_4 (F : TF) (N : TN) (Q : TQ) (l t : Env) (L : Lg) : wp F (q_ctx_Set_After_4 N) l t L (fin [.tmp (.l 6), .tmp (.l 7), .tmp (.l 8)] Q) nE (fin [.tmp (.l 6), .tmp (.l 7), .tmp (.l 8)] Q) = D_ctx_Set_After_4 F N Q (l 0) (l 1) (l 2) (l 9) L := wpS (e_ctx_Set_After_5 F N Q) (by kernel_rfl)
def q_ctx_Set_After_3a (N : TN) : ACode := (.reg [⟨.t 28, none, .mv, [.l 0]⟩, ⟨.t 29, none, .nilchk, [.t 28]⟩, ⟨.t 30, none, .fad 1, [.t 29]⟩, ⟨.t 31, none, .ld none, [.t 30]⟩, ⟨.t 32, none, .mv, [.l 0]⟩, ⟨.t 33, none, .nilchk, [.t 32]⟩, ⟨.t 34, none, .fad 2, [.t 33]⟩, ⟨.t 35, none, .ld none, [.t 34]⟩, ⟨.t 36, none, .mv, [.l 1]⟩, ⟨.t 37, none, .iad 9, [.t 35, .t 36]⟩, ⟨.t 38, none, .fad 0, [.t 37]⟩, ⟨.t 39, none, .ld none, [.t 38]⟩, ⟨.t 40, none, .call (N k_tree_Tree_Add), [.t 31, .t 39, .c (.b true)]⟩, ⟨.t 27, none, .mv, [.t 40]⟩, ⟨.t 41, none, .ext 0, [.t 27]⟩, ⟨.t 42, none, .ext 1, [.t 27]⟩, ⟨.l 9, none, .mv, [.t 41]⟩, ⟨.t 10, none, .mv, [.t 42]⟩])
def q_ctx_Set_After_3 (N : TN) : ACode := (.seq (q_ctx_Set_After_3a N) (q_ctx_Set_After_4 N))
noncomputable def D_ctx_Set_After_3 (F : TF) (N : TN) (Q : TQ) (x0 : AV) (x1 : AV) (x2 : AV) (L : Lg) : Prop :=
 wpOp F .nilchk [x0] L fun v1 L1 =>
 wpOp F (.fad 1) [v1] L1 fun v2 L2 =>
 wpOp F (.ld none) [v2] L2 fun v3 L3 =>
 wpOp F .nilchk [x0] L3 fun v4 L4 =>
 wpOp F (.fad 2) [v4] L4 fun v5 L5 =>
 wpOp F (.ld none) [v5] L5 fun v6 L6 =>
 wpOp F (.iad 9) [v6, x1] L6 fun v7 L7 =>
 wpOp F (.fad 0) [v7] L7 fun v8 L8 =>
 wpOp F (.ld none) [v8] L8 fun v9 L9 =>
 CallL F (N k_tree_Tree_Add) [v3, v9, (.b true)] L9 fun v10 L10 =>
 wpOp F (.ext 0) [v10] L10 fun v11 L11 =>
 wpOp F (.ext 1) [v10] L11 fun v12 L12 =>
 D_ctx_Set_After_4 F N Q x0 x1 x2 v11 L12
theorem e_ctx_Set_After_3 (F : TF) (N : TN) (Q : TQ) (l t : Env) (L : Lg) : wp F (q_ctx_Set_After_3 N) l t L (fin [.tmp (.l 6), .tmp (.l 7), .tmp (.l 8)] Q) nE (fin [.tmp (.l 6), .tmp (.l 7), .tmp (.l 8)] Q) = D_ctx_Set_After_3 F N Q (l 0) (l 1) (l 2) L := wpS (e_ctx_Set_After_4 F N Q) (by kernel_rfl)
def q_ctx_Set_After_2a (N : TN) : ACode := (.block 0 (.seq (.reg [⟨.t 13, none, .mv, [.l 0]⟩, ⟨.t 14, none, .mv, [.l 1]⟩, ⟨.t 15, none, .call (N k_ctx_Set_has), [.t 13, .t 14]⟩, ⟨.t 16, none, .un .not, [.t 15]⟩, ⟨.t 12, none, .mv, [.t 16]⟩]) (.cond (.t 12) (.seq (.reg [⟨.l 6, none, .mv, [.c (.i .i64 0)]⟩, ⟨.l 7, none, .mv, [.c (.sl none 0 0 0)]⟩, ⟨.l 8, none, .mv, [.c (.i .i64 4)]⟩]) .ret) (.seq (.reg [⟨.t 18, none, .mv, [.l 2]⟩, ⟨.t 19, none, .bin .lss, [.t 18, .c (.i .i64 0)]⟩, ⟨.t 17, none, .mv, [.t 19]⟩]) (.cond (.t 17) (.seq (.reg [⟨.l 6, none, .mv, [.c (.i .i64 0)]⟩, ⟨.l 7, none, .mv, [.c (.sl none 0 0 0)]⟩, ⟨.l 8, none, .mv, [.c (.i .i64 1)]⟩]) .ret) (.seq (.reg [⟨.t 21, none, .mv, [.l 0]⟩, ⟨.t 22, none, .nilchk, [.t 21]⟩, ⟨.t 23, none, .fad 3, [.t 22]⟩, ⟨.t 24, none, .ld none, [.t 23]⟩, ⟨.t 25, none, .lenSl, [.t 24]⟩, ⟨.t 26, none, .bin .geq, [.t 25, .c (.i .i64 64)]⟩, ⟨.t 20, none, .mv, [.t 26]⟩]) (.cond (.t 20) (.seq (.reg [⟨.l 6, none, .mv, [.c (.i .i64 0)]⟩, ⟨.l 7, none, .mv, [.c (.sl none 0 0 0)]⟩, ⟨.l 8, none, .mv, [.c (.i .i64 3)]⟩]) .ret) .skip)))))))
def q_ctx_Set_After_2 (N : TN) : ACode := (.seq (q_ctx_Set_After_2a N) (q_ctx_Set_After_3 N))
noncomputable def D_ctx_Set_After_2 (F : TF) (N : TN) (Q : TQ) (x0 : AV) (x1 : AV) (x2 : AV) (L : Lg) : Prop :=
 CallL F (N k_ctx_Set_has) [x0, x1] L fun v1 L1 =>
 wpOp F (.un .not) [v1] L1 fun v2 L2 =>
 condW v2
 (fin1 (some (.tup [(.i .i64 0), (.sl none 0 0 0), (.i .i64 4)])) Q L2)
 (wpOp F (.bin .lss) [x2, (.i .i64 0)] L2 fun v3 L3 =>
 condW v3
 (fin1 (some (.tup [(.i .i64 0), (.sl none 0 0 0), (.i .i64 1)])) Q L3)
 (wpOp F .nilchk [x0] L3 fun v4 L4 =>
 wpOp F (.fad 3) [v4] L4 fun v5 L5 =>
 wpOp F (.ld none) [v5] L5 fun v6 L6 =>
 wpOp F .lenSl [v6] L6 fun v7 L7 =>
 wpOp F (.bin .geq) [v7, (.i .i64 64)] L7 fun v8 L8 =>
 condW v8
 (fin1 (some (.tup [(.i .i64 0), (.sl none 0 0 0), (.i .i64 3)])) Q L8)
 (D_ctx_Set_After_3 F N Q x0 x1 x2 L8)))
theorem e_ctx_Set_After_2 (F : TF) (N : TN) (Q : TQ) (l t : Env) (L : Lg) : wp F (q_ctx_Set_After_2 N) l t L (fin [.tmp (.l 6), .tmp (.l 7), .tmp (.l 8)] Q) nE (fin [.tmp (.l 6), .tmp (.l 7), .tmp (.l 8)] Q) = D_ctx_Set_After_2 F N Q (l 0) (l 1) (l 2) L := wpS (e_ctx_Set_After_3 F N Q) (by kernel_rfl)
def q_ctx_Set_After_1a (N : TN) : ACode := (.reg [⟨.l 6, none, .mv, [.c (.i .i64 0)]⟩, ⟨.l 7, none, .mv, [.c (.sl none 0 0 0)]⟩, ⟨.l 8, none, .mv, [.c (.i .i64 0)]⟩])
def q_ctx_Set_After_1 (N : TN) : ACode := (.seq (q_ctx_Set_After_1a N) (q_ctx_Set_After_2 N))
noncomputable def D_ctx_Set_After_1 (F : TF) (N : TN) (Q : TQ) (x0 : AV) (x1 : AV) (x2 : AV) (L : Lg) : Prop :=
 D_ctx_Set_After_2 F N Q x0 x1 x2 L
theorem e_ctx_Set_After_1 (F : TF) (N : TN) (Q : TQ) (l t : Env) (L : Lg) : wp F (q_ctx_Set_After_1 N) l t L (fin [.tmp (.l 6), .tmp (.l 7), .tmp (.l 8)] Q) nE (fin [.tmp (.l 6), .tmp (.l 7), .tmp (.l 8)] Q) = D_ctx_Set_After_1 F N Q (l 0) (l 1) (l 2) L := wpS (e_ctx_Set_After_2 F N Q) (by kernel_rfl)
/-- (*tarpaulin/ctx.Set).After -/
def c_ctx_Set_After (N : TN) : AFn := ⟨q_ctx_Set_After_1 N, [.tmp (.l 6), .tmp (.l 7), .tmp (.l 8)]⟩
structure H_ctx_Set_After (N : TN) (F : TF) : Prop where
  code : F (N k_ctx_Set_After) = some (c_ctx_Set_After N)
  ctx_Set_has : H_ctx_Set_has N F
  tree_Tree_Add : H_tree_Tree_Add N F
  ctx_Set_start : H_ctx_Set_start N F
theorem r_ctx_Set_After {F : TF} {N : TN} (h : F (N k_ctx_Set_After) = some (c_ctx_Set_After N)) {Q : TQ} {a0 a1 a2 : AV} {L : Lg} (e : D_ctx_Set_After_1 F N Q a0 a1 a2 L) : CallL F (N k_ctx_Set_After) [a0, a1, a2] L Q :=
  CallL.of_wp h (Eq.mpr (Eq.trans (e_ctx_Set_After_1 F N Q (initE [a0, a1, a2] 0) Env.nil L) (by kernel_rfl : _ = D_ctx_Set_After_1 F N Q a0 a1 a2 L)) e)
def q_ctx_Set_Cancel_3 (N : TN) : ACode := (.seq (.reg [⟨.t 29, none, .mv, [.l 0]⟩, ⟨.t 30, none, .mv, [.l 1]⟩, ⟨.t 31, none, .mv, [.l 2]⟩, ⟨.t 32, none, .call (N k_ctx_Set_cancel), [.t 29, .t 30, .c (.i .i64 1), .t 31]⟩, ⟨.t 28, none, .mv, [.t 32]⟩, ⟨.t 33, none, .ext 0, [.t 28]⟩, ⟨.t 34, none, .ext 1, [.t 28]⟩, ⟨.l 9, none, .mv, [.t 33]⟩, ⟨.l 10, none, .mv, [.t 34]⟩]) (.seq (.reg [⟨.t 35, none, .mv, [.l 9]⟩, ⟨.t 36, none, .mv, [.l 10]⟩, ⟨.l 6, none, .mv, [.t 35]⟩, ⟨.l 7, none, .mv, [.t 36]⟩, ⟨.l 8, none, .mv, [.c (.i .i64 0)]⟩]) .ret))
noncomputable def D_ctx_Set_Cancel_3 (F : TF) (N : TN) (Q : TQ) (x0 : AV) (x1 : AV) (x2 : AV) (L : Lg) : Prop :=
 CallL F (N k_ctx_Set_cancel) [x0, x1, (.i .i64 1), x2] L fun v1 L1 =>
 wpOp F (.ext 0) [v1] L1 fun v2 L2 =>
 wpOp F (.ext 1) [v1] L2 fun v3 L3 =>
 fin1 (some (.tup [v2, v3, (.i .i64 0)])) Q L3
theorem e_ctx_Set_Cancel_3 (F : TF) (N : TN) (Q : TQ) (l t : Env) (L : Lg) : wp F (q_ctx_Set_Cancel_3 N) l t L (fin [.tmp (.l 6), .tmp (.l 7), .tmp (.l 8)] Q) nE (fin [.tmp (.l 6), .tmp (.l 7), .tmp (.l 8)] Q) = D_ctx_Set_Cancel_3 F N Q (l 0) (l 1) (l 2) L := by kernel_rfl
def q_ctx_Set_Cancel_2a (N : TN) : ACode := (.block 0 (.seq (.reg [⟨.t 12, none, .mv, [.l 0]⟩, ⟨.t 13, none, .mv, [.l 1]⟩, ⟨.t 14, none, .call (N k_ctx_Set_has), [.t 12, .t 13]⟩, ⟨.t 15, none, .un .not, [.t 14]⟩, ⟨.t 11, none, .mv, [.t 15]⟩]) (.cond (.t 11) (.seq (.reg [⟨.l 6, none, .mv, [.c (.sl none 0 0 0)]⟩, ⟨.l 7, none, .mv, [.c (.sl none 0 0 0)]⟩, ⟨.l 8, none, .mv, [.c (.i .i64 4)]⟩]) .ret) (.seq (.reg [⟨.t 17, none, .mv, [.l 0]⟩, ⟨.t 18, none, .nilchk, [.t 17]⟩, ⟨.t 19, none, .fad 2, [.t 18]⟩, ⟨.t 20, none, .ld none, [.t 19]⟩, ⟨.t 21, none, .mv, [.l 1]⟩, ⟨.t 22, none, .iad 9, [.t 20, .t 21]⟩, ⟨.t 23, none, .fad 1, [.t 22]⟩, ⟨.t 24, none, .ld none, [.t 23]⟩, ⟨.t 16, none, .mv, [.t 24]⟩]) (.cond (.t 16) (.seq (.reg [⟨.l 6, none, .mv, [.c (.sl none 0 0 0)]⟩, ⟨.l 7, none, .mv, [.c (.sl none 0 0 0)]⟩, ⟨.l 8, none, .mv, [.c (.i .i64 1)]⟩]) .ret) (.seq (.reg [⟨.t 26, none, .mv, [.l 2]⟩, ⟨.t 27, none, .bin .lss, [.t 26, .c (.i .i64 1)]⟩, ⟨.t 25, none, .mv, [.t 27]⟩]) (.cond (.t 25) (.reg [⟨.l 2, none, .mv, [.c (.i .i64 1)]⟩]) .skip)))))))
def q_ctx_Set_Cancel_2 (N : TN) : ACode := (.seq (q_ctx_Set_Cancel_2a N) (q_ctx_Set_Cancel_3 N))
noncomputable def D_ctx_Set_Cancel_2 (F : TF) (N : TN) (Q : TQ) (x0 : AV) (x1 : AV) (x2 : AV) (L : Lg) : Prop :=
 CallL F (N k_ctx_Set_has) [x0, x1] L fun v1 L1 =>
 wpOp F (.un .not) [v1] L1 fun v2 L2 =>
 condW v2
 (fin1 (some (.tup [(.sl none 0 0 0), (.sl none 0 0 0), (.i .i64 4)])) Q L2)
 (wpOp F .nilchk [x0] L2 fun v3 L3 =>
 wpOp F (.fad 2) [v3] L3 fun v4 L4 =>
 wpOp F (.ld none) [v4] L4 fun v5 L5 =>
 wpOp F (.iad 9) [v5, x1] L5 fun v6 L6 =>
 wpOp F (.fad 1) [v6] L6 fun v7 L7 =>
 wpOp F (.ld none) [v7] L7 fun v8 L8 =>
 condW v8
 (fin1 (some (.tup [(.sl none 0 0 0), (.sl none 0 0 0), (.i .i64 1)])) Q L8)
 (wpOp F (.bin .lss) [x2, (.i .i64 1)] L8 fun v9 L9 =>
 condW v9
 (D_ctx_Set_Cancel_3 F N Q x0 x1 (.i .i64 1) L9)
 (D_ctx_Set_Cancel_3 F N Q x0 x1 x2 L9)))
theorem e_ctx_Set_Cancel_2 (F : TF) (N : TN) (Q : TQ) (l t : Env) (L : Lg) : wp F (q_ctx_Set_Cancel_2 N) l t L (fin [.tmp (.l 6), .tmp (.l 7), .tmp (.l 8)] Q) nE (fin [.tmp (.l 6), .tmp (.l 7), .tmp (.l 8)] Q) = D_ctx_Set_Cancel_2 F N Q (l 0) (l 1) (l 2) L := wpS (e_ctx_Set_Cancel_3 F N Q) (by kernel_rfl)
def q_ctx_Set_Cancel_1a (N : TN) : ACode := (.reg [⟨.l 6, none, .mv, [.c (.sl none 0 0 0)]⟩, ⟨.l 7, none, .mv, [.c (.sl none 0 0 0)]⟩, ⟨.l 8, none, .mv, [.c (.i .i64 0)]⟩])
def q_ctx_Set_Cancel_1 (N : TN) : ACode := (.seq (q_ctx_Set_Cancel_1a N) (q_ctx_Set_Cancel_2 N))
noncomputable def D_ctx_Set_Cancel_1 (F : TF) (N : TN) (Q : TQ) (x0 : AV) (x1 : AV) (x2 : AV) (L : Lg) : Prop :=
 D_ctx_Set_Cancel_2 F N Q x0 x1 x2 L
theorem e_ctx_Set_Cancel_1 (F : TF) (N : TN) (Q : TQ) (l t : Env) (L : Lg) : wp F (q_ctx_Set_Cancel_1 N) l t L (fin [.tmp (.l 6), .tmp (.l 7), .tmp (.l 8)] Q) nE (fin [.tmp (.l 6), .tmp (.l 7), .tmp (.l 8)] Q) = D_ctx_Set_Cancel_1 F N Q (l 0) (l 1) (l 2) L := wpS (e_ctx_Set_Cancel_2 F N Q) (by kernel_rfl)
/-- (*tarpaulin/ctx.Set).Cancel -/
def c_ctx_Set_Cancel (N : TN) : AFn := ⟨q_ctx_Set_Cancel_1 N, [.tmp (.l 6), .tmp (.l 7), .tmp (.l 8)]⟩
structure H_ctx_Set_Cancel (N : TN) (F : TF) : Prop where
  code : F (N k_ctx_Set_Cancel) = some (c_ctx_Set_Cancel N)
  ctx_Set_has : H_ctx_Set_has N F
  ctx_Set_cancel : H_ctx_Set_cancel N F
theorem r_ctx_Set_Cancel {F : TF} {N : TN} (h : F (N k_ctx_Set_Cancel) = some (c_ctx_Set_Cancel N)) {Q : TQ} {a0 a1 a2 : AV} {L : Lg} (e : D_ctx_Set_Cancel_1 F N Q a0 a1 a2 L) : CallL F (N k_ctx_Set_Cancel) [a0, a1, a2] L Q :=
  CallL.of_wp h (Eq.mpr (Eq.trans (e_ctx_Set_Cancel_1 F N Q (initE [a0, a1, a2] 0) Env.nil L) (by kernel_rfl : _ = D_ctx_Set_Cancel_1 F N Q a0 a1 a2 L)) e)
def q_ctx_Set_Unafter_3 (N : TN) : ACode := (.seq (.reg [⟨.t 23, none, .mv, [.l 0]⟩, ⟨.t 24, none, .nilchk, [.t 23]⟩, ⟨.t 25, none, .fad 3, [.t 24]⟩, ⟨.t 26, none, .ld none, [.t 25]⟩, ⟨.t 27, none, .mv, [.l 1]⟩, ⟨.t 28, none, .iad 3, [.t 26, .t 27]⟩, ⟨.l 6, none, .mv, [.t 28]⟩]) (.seq (.reg [⟨.t 29, none, .mv, [.l 6]⟩, ⟨.t 30, none, .nilchk, [.t 29]⟩, ⟨.t 31, none, .fad 2, [.t 30]⟩, ⟨.t 32, none, .ld none, [.t 31]⟩, ⟨.t 33, none, .un .not, [.t 32]⟩, ⟨.l 7, none, .mv, [.t 33]⟩]) (.seq (.reg [⟨.t 34, none, .mv, [.l 6]⟩, ⟨.t 35, none, .nilchk, [.t 34]⟩, ⟨.t 36, none, .fad 2, [.t 35]⟩, ⟨.no, none, .st 1, [.t 36, .c (.b true)]⟩]) (.seq (.reg [⟨.t 37, none, .mv, [.l 0]⟩, ⟨.t 38, none, .nilchk, [.t 37]⟩, ⟨.t 39, none, .fad 1, [.t 38]⟩, ⟨.t 40, none, .ld none, [.t 39]⟩, ⟨.t 41, none, .mv, [.l 6]⟩, ⟨.t 42, none, .nilchk, [.t 41]⟩, ⟨.t 43, none, .fad 0, [.t 42]⟩, ⟨.t 44, none, .ld none, [.t 43]⟩, ⟨.t 45, none, .call (N k_tree_Tree_Detach), [.t 40, .t 44]⟩]) (.seq (.reg [⟨.t 46, none, .mv, [.l 7]⟩, ⟨.l 4, none, .mv, [.t 46]⟩, ⟨.l 5, none, .mv, [.c (.i .i64 0)]⟩]) .ret)))))
noncomputable def D_ctx_Set_Unafter_3 (F : TF) (N : TN) (Q : TQ) (x0 : AV) (x1 : AV) (L : Lg) : Prop :=
 wpOp F .nilchk [x0] L fun v1 L1 =>
 wpOp F (.fad 3) [v1] L1 fun v2 L2 =>
 wpOp F (.ld none) [v2] L2 fun v3 L3 =>
 wpOp F (.iad 3) [v3, x1] L3 fun v4 L4 =>
 wpOp F .nilchk [v4] L4 fun v5 L5 =>
 wpOp F (.fad 2) [v5] L5 fun v6 L6 =>
 wpOp F (.ld none) [v6] L6 fun v7 L7 =>
 wpOp F (.un .not) [v7] L7 fun v8 L8 =>
 wpOp F .nilchk [v4] L8 fun v9 L9 =>
 wpOp F (.fad 2) [v9] L9 fun v10 L10 =>
 wpOp F (.st 1) [v10, (.b true)] L10 fun _ L11 =>
 wpOp F .nilchk [x0] L11 fun v12 L12 =>
 wpOp F (.fad 1) [v12] L12 fun v13 L13 =>
 wpOp F (.ld none) [v13] L13 fun v14 L14 =>
 wpOp F .nilchk [v4] L14 fun v15 L15 =>
 wpOp F (.fad 0) [v15] L15 fun v16 L16 =>
 wpOp F (.ld none) [v16] L16 fun v17 L17 =>
 CallL F (N k_tree_Tree_Detach) [v14, v17] L17 fun v18 L18 =>
 fin1 (some (.tup [v8, (.i .i64 0)])) Q L18
theorem e_ctx_Set_Unafter_3 (F : TF) (N : TN) (Q : TQ) (l t : Env) (L : Lg) : wp F (q_ctx_Set_Unafter_3 N) l t L (fin [.tmp (.l 4), .tmp (.l 5)] Q) nE (fin [.tmp (.l 4), .tmp (.l 5)] Q) = D_ctx_Set_Unafter_3 F N Q (l 0) (l 1) L := by kernel_rfl
def q_ctx_Set_Unafter_2a (N : TN) : ACode := (.seq (.reg [⟨.t 8, none, .mv, [.l 0]⟩, ⟨.t 9, none, .eq false .ptr, [.t 8, .c (.p none)]⟩, ⟨.t 10, none, .mv, [.t 9]⟩, ⟨.t 11, some (.t 10, false), .mv, [.l 1]⟩, ⟨.t 12, some (.t 10, false), .bin .lss, [.t 11, .c (.i .i64 0)]⟩, ⟨.t 13, none, .pick, [.t 10, .c (.b true), .t 12]⟩, ⟨.t 14, none, .mv, [.t 13]⟩, ⟨.t 15, some (.t 14, false), .mv, [.l 1]⟩, ⟨.t 16, some (.t 14, false), .mv, [.l 0]⟩, ⟨.t 17, some (.t 14, false), .nilchk, [.t 16]⟩, ⟨.t 18, some (.t 14, false), .fad 3, [.t 17]⟩, ⟨.t 19, some (.t 14, false), .ld none, [.t 18]⟩, ⟨.t 20, some (.t 14, false), .lenSl, [.t 19]⟩, ⟨.t 21, some (.t 14, false), .bin .geq, [.t 15, .t 20]⟩, ⟨.t 22, none, .pick, [.t 14, .c (.b true), .t 21]⟩]) (.cond (.t 22) (.seq (.reg [⟨.l 4, none, .mv, [.c (.b false)]⟩, ⟨.l 5, none, .mv, [.c (.i .i64 4)]⟩]) .ret) .skip))
def q_ctx_Set_Unafter_2 (N : TN) : ACode := (.seq (q_ctx_Set_Unafter_2a N) (q_ctx_Set_Unafter_3 N))
noncomputable def D_ctx_Set_Unafter_2 (F : TF) (N : TN) (Q : TQ) (x0 : AV) (x1 : AV) (L : Lg) : Prop :=
 wpOp F (.eq false .ptr) [x0, (.p none)] L fun v1 L1 =>
 gdOp F v1 false .mv [x1] L1 fun v2 L2 =>
 gdOp F v1 false (.bin .lss) [v2, (.i .i64 0)] L2 fun v3 L3 =>
 wpOp F .pick [v1, (.b true), v3] L3 fun v4 L4 =>
 gdOp F v4 false .mv [x1] L4 fun v5 L5 =>
 gdOp F v4 false .mv [x0] L5 fun v6 L6 =>
 gdOp F v4 false .nilchk [v6] L6 fun v7 L7 =>
 gdOp F v4 false (.fad 3) [v7] L7 fun v8 L8 =>
 gdOp F v4 false (.ld none) [v8] L8 fun v9 L9 =>
 gdOp F v4 false .lenSl [v9] L9 fun v10 L10 =>
 gdOp F v4 false (.bin .geq) [v5, v10] L10 fun v11 L11 =>
 wpOp F .pick [v4, (.b true), v11] L11 fun v12 L12 =>
 condW v12
 (fin1 (some (.tup [(.b false), (.i .i64 4)])) Q L12)
 (D_ctx_Set_Unafter_3 F N Q x0 x1 L12)
theorem e_ctx_Set_Unafter_2 (F : TF) (N : TN) (Q : TQ) (l t : Env) (L : Lg) : wp F (q_ctx_Set_Unafter_2 N) l t L (fin [.tmp (.l 4), .tmp (.l 5)] Q) nE (fin [.tmp (.l 4), .tmp (.l 5)] Q) = D_ctx_Set_Unafter_2 F N Q (l 0) (l 1) L := wpS (e_ctx_Set_Unafter_3 F N Q) (by kernel_rfl)
def q_ctx_Set_Unafter_1a (N : TN) : ACode := (.reg [⟨.l 4, none, .mv, [.c (.b false)]⟩, ⟨.l 5, none, .mv, [.c (.i .i64 0)]⟩])
def q_ctx_Set_Unafter_1 (N : TN) : ACode := (.seq (q_ctx_Set_Unafter_1a N) (q_ctx_Set_Unafter_2 N))
noncomputable def D_ctx_Set_Unafter_1 (F : TF) (N : TN) (Q : TQ) (x0 : AV) (x1 : AV) (L : Lg) : Prop :=
 D_ctx_Set_Unafter_2 F N Q x0 x1 L
theorem e_ctx_Set_Unafter_1 (F : TF) (N : TN) (Q : TQ) (l t : Env) (L : Lg) : wp F (q_ctx_Set_Unafter_1 N) l t L (fin [.tmp (.l 4), .tmp (.l 5)] Q) nE (fin [.tmp (.l 4), .tmp (.l 5)] Q) = D_ctx_Set_Unafter_1 F N Q (l 0) (l 1) L := wpS (e_ctx_Set_Unafter_2 F N Q) (by kernel_rfl)
/-- (*tarpaulin/ctx.Set).Unafter -/
def c_ctx_Set_Unafter (N : TN) : AFn := ⟨q_ctx_Set_Unafter_1 N, [.tmp (.l 4), .tmp (.l 5)]⟩
structure H_ctx_Set_Unafter (N : TN) (F : TF) : Prop where
  code : F (N k_ctx_Set_Unafter) = some (c_ctx_Set_Unafter N)
  tree_Tree_Detach : H_tree_Tree_Detach N F
theorem r_ctx_Set_Unafter {F : TF} {N : TN} (h : F (N k_ctx_Set_Unafter) = some (c_ctx_Set_Unafter N)) {Q : TQ} {a0 a1 : AV} {L : Lg} (e : D_ctx_Set_Unafter_1 F N Q a0 a1 L) : CallL F (N k_ctx_Set_Unafter) [a0, a1] L Q :=
  CallL.of_wp h (Eq.mpr (Eq.trans (e_ctx_Set_Unafter_1 F N Q (initE [a0, a1] 0) Env.nil L) (by kernel_rfl : _ = D_ctx_Set_Unafter_1 F N Q a0 a1 L)) e)
def q_tarpaulinlaw15_CtxAfters_18 (N : TN) : ACode := (.seq (.regD [⟨.t 240, none, .mv, [.l 31]⟩, ⟨.t 241, none, .lenSl, [.t 240]⟩, ⟨.t 242, none, .bin .eql, [.t 241, .c (.i .i64 0)]⟩, ⟨.t 243, none, .mv, [.t 242]⟩, ⟨.t 244, some (.t 243, true), .mv, [.l 35]⟩, ⟨.t 245, some (.t 243, true), .bin .eql, [.t 244, .c (.i .i64 0)]⟩, ⟨.t 246, none, .pick, [.t 243, .t 245, .c (.b false)]⟩, ⟨.t 247, none, .mv, [.t 246]⟩, ⟨.t 248, some (.t 247, true), .mv, [.l 34]⟩, ⟨.t 249, some (.t 247, true), .lenSl, [.t 248]⟩, ⟨.t 250, some (.t 247, true), .bin .eql, [.t 249, .c (.i .i64 1)]⟩, ⟨.t 251, none, .pick, [.t 247, .t 250, .c (.b false)]⟩, ⟨.t 252, none, .mv, [.t 251]⟩, ⟨.t 253, some (.t 252, true), .mv, [.l 34]⟩, ⟨.t 254, some (.t 252, true), .iad 2, [.t 253, .c (.i .i64 0)]⟩, ⟨.t 255, some (.t 252, true), .fad 0, [.t 254]⟩, ⟨.t 256, some (.t 252, true), .ld none, [.t 255]⟩, ⟨.t 257, some (.t 252, true), .mv, [.l 33]⟩, ⟨.t 258, some (.t 252, true), .bin .eql, [.t 256, .t 257]⟩, ⟨.t 259, none, .pick, [.t 252, .t 258, .c (.b false)]⟩, ⟨.t 260, none, .mv, [.t 259]⟩, ⟨.t 261, some (.t 260, true), .mv, [.l 34]⟩, ⟨.t 262, some (.t 260, true), .iad 2, [.t 261, .c (.i .i64 0)]⟩, ⟨.t 263, some (.t 260, true), .fad 1, [.t 262]⟩, ⟨.t 264, some (.t 260, true), .ld none, [.t 263]⟩, ⟨.t 265, some (.t 260, true), .mv, [.l 2]⟩, ⟨.t 266, some (.t 260, true), .call (N k_tarpaulinalike_Round), [.t 265, .c (.i .i64 16)]⟩, ⟨.t 267, some (.t 260, true), .bin .eql, [.t 264, .t 266]⟩, ⟨.t 268, none, .pick, [.t 260, .t 267, .c (.b false)]⟩, ⟨.t 269, none, .mv, [.t 268]⟩, ⟨.t 270, some (.t 269, true), .mv, [.l 36]⟩, ⟨.t 271, some (.t 269, true), .un .not, [.t 270]⟩, ⟨.t 272, none, .pick, [.t 269, .t 271, .c (.b false)]⟩, ⟨.t 273, none, .mv, [.t 272]⟩, ⟨.t 274, some (.t 273, true), .call (N k_tarpaulinlaw15_awake), []⟩, ⟨.t 275, none, .pick, [.t 273, .t 274, .c (.b false)]⟩, ⟨.l 6, none, .mv, [.t 275]⟩] [(24, 27)]) .ret)
noncomputable def D_tarpaulinlaw15_CtxAfters_18 (F : TF) (N : TN) (Q : TQ) (x2 : AV) (x31 : AV) (x33 : AV) (x34 : AV) (x35 : AV) (x36 : AV) (L : Lg) : Prop :=
 wpOp F .lenSl [x31] L fun v1 L1 =>
 wpOp F (.bin .eql) [v1, (.i .i64 0)] L1 fun v2 L2 =>
 gdOp F v2 true .mv [x35] L2 fun v3 L3 =>
 gdOp F v2 true (.bin .eql) [v3, (.i .i64 0)] L3 fun v4 L4 =>
 wpOp F .pick [v2, v4, (.b false)] L4 fun v5 L5 =>
 gdOp F v5 true .mv [x34] L5 fun v6 L6 =>
 gdOp F v5 true .lenSl [v6] L6 fun v7 L7 =>
 gdOp F v5 true (.bin .eql) [v7, (.i .i64 1)] L7 fun v8 L8 =>
 wpOp F .pick [v5, v8, (.b false)] L8 fun v9 L9 =>
 gdOp F v9 true .mv [x34] L9 fun v10 L10 =>
 gdOp F v9 true (.iad 2) [v10, (.i .i64 0)] L10 fun v11 L11 =>
 gdOp F v9 true (.fad 0) [v11] L11 fun v12 L12 =>
 gdOp F v9 true (.ld none) [v12] L12 fun v13 L13 =>
 gdOp F v9 true .mv [x33] L13 fun v14 L14 =>
 gdOp F v9 true (.bin .eql) [v13, v14] L14 fun v15 L15 =>
 wpOp F .pick [v9, v15, (.b false)] L15 fun v16 L16 =>
 gdOp F v16 true .mv [x34] L16 fun v17 L17 =>
 gdOp F v16 true (.iad 2) [v17, (.i .i64 0)] L17 fun v18 L18 =>
 gdOp F v16 true (.fad 1) [v18] L18 fun v19 L19 =>
 gdOp F v16 true (.ld none) [v19] L19 fun v20 L20 =>
 gdOp F v16 true .mv [x2] L20 fun v21 L21 =>
 gdOp F v16 true (.call (N k_tarpaulinalike_Round)) [v21, (.i .i64 16)] L21 fun v22 L22 =>
 gdOp F v16 true (.bin .eql) [v20, v22] L22 fun v23 L23 =>
 wpOp F .pick [v16, v23, (.b false)] L23 fun v24 L24 =>
 gdOp F v24 true .mv [x36] L24 fun v25 L25 =>
 gdOp F v24 true (.un .not) [v25] L25 fun v26 L26 =>
 wpOp F .pick [v24, v26, (.b false)] L26 fun v27 L27 =>
 gdOp F v27 true (.call (N k_tarpaulinlaw15_awake)) [] L27 fun v28 L28 =>
 wpOp F .pick [v27, v28, (.b false)] L28 fun v29 L29 =>
 (againG v16 true (againV (.ld none) [v19] L19 L22) ∧ True) ∧ (fin1 (some v29) Q L29)
theorem e_tarpaulinlaw15_CtxAfters_18 (F : TF) (N : TN) (Q : TQ) (l t : Env) (L : Lg) : wp F (q_tarpaulinlaw15_CtxAfters_18 N) l t L (fin [.tmp (.l 6)] Q) nE (fin [.tmp (.l 6)] Q) = D_tarpaulinlaw15_CtxAfters_18 F N Q (l 2) (l 31) (l 33) (l 34) (l 35) (l 36) L := by kernel_rfl
def q_tarpaulinlaw15_CtxAfters_17a (N : TN) : ACode := (.reg [⟨.t 235, none, .mv, [.l 7]⟩, ⟨.t 236, none, .mv, [.l 33]⟩, ⟨.t 237, none, .call (N k_ctx_Set_Unafter), [.t 235, .t 236]⟩, ⟨.t 234, none, .mv, [.t 237]⟩, ⟨.t 238, none, .ext 0, [.t 234]⟩, ⟨.t 239, none, .ext 1, [.t 234]⟩, ⟨.l 36, none, .mv, [.t 238]⟩, ⟨.t 37, none, .mv, [.t 239]⟩])
def q_tarpaulinlaw15_CtxAfters_17 (N : TN) : ACode := (.seq (q_tarpaulinlaw15_CtxAfters_17a N) (q_tarpaulinlaw15_CtxAfters_18 N))
noncomputable def D_tarpaulinlaw15_CtxAfters_17 (F : TF) (N : TN) (Q : TQ) (x2 : AV) (x7 : AV) (x31 : AV) (x33 : AV) (x34 : AV) (x35 : AV) (L : Lg) : Prop :=
 CallL F (N k_ctx_Set_Unafter) [x7, x33] L fun v1 L1 =>
 wpOp F (.ext 0) [v1] L1 fun v2 L2 =>
 wpOp F (.ext 1) [v1] L2 fun v3 L3 =>
 D_tarpaulinlaw15_CtxAfters_18 F N Q x2 x31 x33 x34 x35 v2 L3
theorem e_tarpaulinlaw15_CtxAfters_17 (F : TF) (N : TN) (Q : TQ) (l t : Env) (L : Lg) : wp F (q_tarpaulinlaw15_CtxAfters_17 N) l t L (fin [.tmp (.l 6)] Q) nE (fin [.tmp (.l 6)] Q) = D_tarpaulinlaw15_CtxAfters_17 F N Q (l 2) (l 7) (l 31) (l 33) (l 34) (l 35) L := wpS (e_tarpaulinlaw15_CtxAfters_18 F N Q) (by kernel_rfl)
def q_tarpaulinlaw15_CtxAfters_16a (N : TN) : ACode := (.reg [⟨.t 226, none, .mv, [.l 7]⟩, ⟨.t 227, none, .mv, [.l 11]⟩, ⟨.t 228, none, .mv, [.l 2]⟩, ⟨.t 229, none, .call (N k_tarpaulinalike_Round), [.t 228, .c (.i .i64 16)]⟩, ⟨.t 230, none, .call (N k_ctx_Set_After), [.t 226, .t 227, .t 229]⟩, ⟨.t 225, none, .mv, [.t 230]⟩, ⟨.t 231, none, .ext 0, [.t 225]⟩, ⟨.t 232, none, .ext 1, [.t 225]⟩, ⟨.t 233, none, .ext 2, [.t 225]⟩, ⟨.l 33, none, .mv, [.t 231]⟩, ⟨.l 34, none, .mv, [.t 232]⟩, ⟨.l 35, none, .mv, [.t 233]⟩])
def q_tarpaulinlaw15_CtxAfters_16 (N : TN) : ACode := (.seq (q_tarpaulinlaw15_CtxAfters_16a N) (q_tarpaulinlaw15_CtxAfters_17 N))
noncomputable def D_tarpaulinlaw15_CtxAfters_16 (F : TF) (N : TN) (Q : TQ) (x2 : AV) (x7 : AV) (x11 : AV) (x31 : AV) (L : Lg) : Prop :=
 CallL F (N k_tarpaulinalike_Round) [x2, (.i .i64 16)] L fun v1 L1 =>
 CallL F (N k_ctx_Set_After) [x7, x11, v1] L1 fun v2 L2 =>
 wpOp F (.ext 0) [v2] L2 fun v3 L3 =>
 wpOp F (.ext 1) [v2] L3 fun v4 L4 =>
 wpOp F (.ext 2) [v2] L4 fun v5 L5 =>
 D_tarpaulinlaw15_CtxAfters_17 F N Q x2 x7 x31 v3 v4 v5 L5
theorem e_tarpaulinlaw15_CtxAfters_16 (F : TF) (N : TN) (Q : TQ) (l t : Env) (L : Lg) : wp F (q_tarpaulinlaw15_CtxAfters_16 N) l t L (fin [.tmp (.l 6)] Q) nE (fin [.tmp (.l 6)] Q) = D_tarpaulinlaw15_CtxAfters_16 F N Q (l 2) (l 7) (l 11) (l 31) L := wpS (e_tarpaulinlaw15_CtxAfters_17 F N Q) (by kernel_rfl)
def q_tarpaulinlaw15_CtxAfters_15a (N : TN) : ACode := (.reg [⟨.t 219, none, .mv, [.l 7]⟩, ⟨.t 220, none, .mv, [.l 8]⟩, ⟨.t 221, none, .call (N k_ctx_Set_Cancel), [.t 219, .t 220, .c (.i .i64 0)]⟩, ⟨.t 218, none, .mv, [.t 221]⟩, ⟨.t 222, none, .ext 0, [.t 218]⟩, ⟨.t 223, none, .ext 1, [.t 218]⟩, ⟨.t 224, none, .ext 2, [.t 218]⟩, ⟨.t 30, none, .mv, [.t 222]⟩, ⟨.l 31, none, .mv, [.t 223]⟩, ⟨.t 32, none, .mv, [.t 224]⟩])
def q_tarpaulinlaw15_CtxAfters_15 (N : TN) : ACode := (.seq (q_tarpaulinlaw15_CtxAfters_15a N) (q_tarpaulinlaw15_CtxAfters_16 N))
noncomputable def D_tarpaulinlaw15_CtxAfters_15 (F : TF) (N : TN) (Q : TQ) (x2 : AV) (x7 : AV) (x8 : AV) (x11 : AV) (L : Lg) : Prop :=
 CallL F (N k_ctx_Set_Cancel) [x7, x8, (.i .i64 0)] L fun v1 L1 =>
 wpOp F (.ext 0) [v1] L1 fun v2 L2 =>
 wpOp F (.ext 1) [v1] L2 fun v3 L3 =>
 wpOp F (.ext 2) [v1] L3 fun v4 L4 =>
 D_tarpaulinlaw15_CtxAfters_16 F N Q x2 x7 x11 v3 L4
theorem e_tarpaulinlaw15_CtxAfters_15 (F : TF) (N : TN) (Q : TQ) (l t : Env) (L : Lg) : wp F (q_tarpaulinlaw15_CtxAfters_15 N) l t L (fin [.tmp (.l 6)] Q) nE (fin [.tmp (.l 6)] Q) = D_tarpaulinlaw15_CtxAfters_15 F N Q (l 2) (l 7) (l 8) (l 11) L := wpS (e_tarpaulinlaw15_CtxAfters_16 F N Q) (by kernel_rfl)
def w_tarpaulinlaw15_CtxAfters_14 (F : TF) (N : TN) (Q : TQ) : Kn := (fun (l t : Env) (L : Lg) => D_tarpaulinlaw15_CtxAfters_15 F N Q (l 2) (l 7) (l 8) (l 11) L)
def y_tarpaulinlaw15_CtxAfters_20 (F : TF) (N : TN) (Q : TQ) : Nat → Kn := (fun (j : Nat) (l t : Env) (L : Lg) => bif Nat.beq j 6 then (w_tarpaulinlaw15_CtxAfters_14 F N Q) l t L else nE j l t L)
def q_tarpaulinlaw15_CtxAfters_22 (N : TN) : ACode := (.seq (.seq (.reg [⟨.t 197, none, .mv, [.l 29]⟩, ⟨.t 198, none, .mv, [.l 27]⟩, ⟨.t 199, none, .lenSl, [.t 198]⟩, ⟨.t 200, none, .bin .lss, [.t 197, .t 199]⟩]) (.cond (.t 200) .skip (.exit 6))) (.seq (.block 7 (.seq (.reg [⟨.t 203, none, .mv, [.l 27]⟩, ⟨.t 204, none, .mv, [.l 29]⟩, ⟨.t 205, none, .iad 2, [.t 203, .t 204]⟩, ⟨.t 206, none, .ld (some 2), [.t 205]⟩, ⟨.t 207, none, .mv, [.l 14]⟩, ⟨.t 208, none, .mv, [.l 29]⟩, ⟨.t 209, none, .iad 1, [.t 207, .t 208]⟩, ⟨.t 210, none, .ld none, [.t 209]⟩, ⟨.t 211, none, .mv, [.l 14]⟩, ⟨.t 212, none, .mv, [.l 29]⟩, ⟨.t 213, none, .iad 1, [.t 211, .t 212]⟩, ⟨.t 214, none, .ld none, [.t 213]⟩, ⟨.t 215, none, .bin .add, [.c (.i .i64 100), .t 214]⟩, ⟨.t 216, none, .build [.i .i64 0, .i .i64 0] [(0, 1), (1, 1)], [.t 210, .t 215]⟩, ⟨.t 217, none, .eq true (.agg [(0, 1), (1, 1)]), [.t 206, .t 216]⟩]) (.cond (.t 217) (.seq (.reg [⟨.l 6, none, .mv, [.c (.b false)]⟩]) .ret) .skip))) (.reg [⟨.t 201, none, .mv, [.l 29]⟩, ⟨.t 202, none, .bin .add, [.t 201, .c (.i .i64 1)]⟩, ⟨.l 29, none, .mv, [.t 202]⟩])))
noncomputable def D_tarpaulinlaw15_CtxAfters_22 (F : TF) (N : TN) (Q : TQ) (k1 : TK) (l : Env) (L : Lg) : Prop :=
 wpOp F .lenSl [(l 27)] L fun v1 L1 =>
 wpOp F (.bin .lss) [(l 29), v1] L1 fun v2 L2 =>
 condW v2
 (wpOp F (.iad 2) [(l 27), (l 29)] L2 fun v3 L3 =>
 wpOp F (.ld (some 2)) [v3] L3 fun v4 L4 =>
 wpOp F (.iad 1) [(l 14), (l 29)] L4 fun v5 L5 =>
 wpOp F (.ld none) [v5] L5 fun v6 L6 =>
 wpOp F (.iad 1) [(l 14), (l 29)] L6 fun v7 L7 =>
 wpOp F (.ld none) [v7] L7 fun v8 L8 =>
 wpOp F (.bin .add) [(.i .i64 100), v8] L8 fun v9 L9 =>
 wpOp F (.build [.i .i64 0, .i .i64 0] [(0, 1), (1, 1)]) [v6, v9] L9 fun v10 L10 =>
 wpOp F (.eq true (.agg [(0, 1), (1, 1)])) [v4, v10] L10 fun v11 L11 =>
 condW v11
 (fin1 (some (.b false)) Q L11)
 (wpOp F (.bin .add) [(l 29), (.i .i64 1)] L11 fun v12 L12 =>
 k1 (Env.put l 29 v12) L12))
 (D_tarpaulinlaw15_CtxAfters_15 F N Q (l 2) (l 7) (l 8) (l 11) L2)
theorem e_tarpaulinlaw15_CtxAfters_22 (F : TF) (N : TN) (Q : TQ) (k1 : TK) (l t : Env) (L : Lg) : wp F (q_tarpaulinlaw15_CtxAfters_22 N) l t L (fun (l _ : Env) (L : Lg) => k1 l L) (y_tarpaulinlaw15_CtxAfters_20 F N Q) (fin [.tmp (.l 6)] Q) = D_tarpaulinlaw15_CtxAfters_22 F N Q k1 l L := by kernel_rfl
def q_tarpaulinlaw15_CtxAfters_21 (N : TN) : ACode := (.loop (q_tarpaulinlaw15_CtxAfters_22 N))
noncomputable def D_tarpaulinlaw15_CtxAfters_21 (F : TF) (N : TN) (Q : TQ) (l : Env) (L : Lg) : Prop :=
 loopW (fun l t L k1 => D_tarpaulinlaw15_CtxAfters_22 F N Q k1 l L) l L
theorem e_tarpaulinlaw15_CtxAfters_21 (F : TF) (N : TN) (Q : TQ) (l t : Env) (L : Lg) : wp F (q_tarpaulinlaw15_CtxAfters_21 N) l t L (w_tarpaulinlaw15_CtxAfters_14 F N Q) (y_tarpaulinlaw15_CtxAfters_20 F N Q) (fin [.tmp (.l 6)] Q) = D_tarpaulinlaw15_CtxAfters_21 F N Q l L := wpL (fun l t L k1 => e_tarpaulinlaw15_CtxAfters_22 F N Q k1 l t L) (by kernel_rfl)
def q_tarpaulinlaw15_CtxAfters_20 (N : TN) : ACode := (.block 6 (q_tarpaulinlaw15_CtxAfters_21 N))
theorem e_tarpaulinlaw15_CtxAfters_20 (F : TF) (N : TN) (Q : TQ) (l t : Env) (L : Lg) : wp F (q_tarpaulinlaw15_CtxAfters_20 N) l t L (w_tarpaulinlaw15_CtxAfters_14 F N Q) nE (fin [.tmp (.l 6)] Q) = D_tarpaulinlaw15_CtxAfters_21 F N Q l L := wpB (e_tarpaulinlaw15_CtxAfters_21 F N Q l t L)
def q_tarpaulinlaw15_CtxAfters_19a (N : TN) : ACode := (.reg [⟨.l 29, none, .mv, [.c (.i .i64 0)]⟩])
def q_tarpaulinlaw15_CtxAfters_19 (N : TN) : ACode := (.seq (q_tarpaulinlaw15_CtxAfters_19a N) (q_tarpaulinlaw15_CtxAfters_20 N))
noncomputable def D_tarpaulinlaw15_CtxAfters_19 (F : TF) (N : TN) (Q : TQ) (l : Env) (L : Lg) : Prop :=
 D_tarpaulinlaw15_CtxAfters_21 F N Q (Env.put l 29 (.i .i64 0)) L
theorem e_tarpaulinlaw15_CtxAfters_19 (F : TF) (N : TN) (Q : TQ) (l t : Env) (L : Lg) : wp F (q_tarpaulinlaw15_CtxAfters_19 N) l t L (w_tarpaulinlaw15_CtxAfters_14 F N Q) nE (fin [.tmp (.l 6)] Q) = D_tarpaulinlaw15_CtxAfters_19 F N Q l L := wpS (e_tarpaulinlaw15_CtxAfters_20 F N Q) (by kernel_rfl)
def q_tarpaulinlaw15_CtxAfters_14 (N : TN) : ACode := (.seq (q_tarpaulinlaw15_CtxAfters_19 N) (q_tarpaulinlaw15_CtxAfters_15 N))
theorem e_tarpaulinlaw15_CtxAfters_14 (F : TF) (N : TN) (Q : TQ) (l t : Env) (L : Lg) : wp F (q_tarpaulinlaw15_CtxAfters_14 N) l t L (fin [.tmp (.l 6)] Q) nE (fin [.tmp (.l 6)] Q) = D_tarpaulinlaw15_CtxAfters_19 F N Q l L := wpS (e_tarpaulinlaw15_CtxAfters_15 F N Q) (e_tarpaulinlaw15_CtxAfters_19 F N Q l t L)
def q_tarpaulinlaw15_CtxAfters_13a (N : TN) : ACode := (.seq (.reg [⟨.t 188, none, .mv, [.l 28]⟩, ⟨.t 189, none, .bin .neq, [.t 188, .c (.i .i64 0)]⟩, ⟨.t 190, none, .mv, [.t 189]⟩, ⟨.t 191, some (.t 190, false), .mv, [.l 27]⟩, ⟨.t 192, some (.t 190, false), .lenSl, [.t 191]⟩, ⟨.t 193, some (.t 190, false), .mv, [.l 14]⟩, ⟨.t 194, some (.t 190, false), .lenSl, [.t 193]⟩, ⟨.t 195, some (.t 190, false), .bin .neq, [.t 192, .t 194]⟩, ⟨.t 196, none, .pick, [.t 190, .c (.b true), .t 195]⟩]) (.cond (.t 196) (.seq (.reg [⟨.l 6, none, .mv, [.c (.b false)]⟩]) .ret) .skip))
def q_tarpaulinlaw15_CtxAfters_13 (N : TN) : ACode := (.seq (q_tarpaulinlaw15_CtxAfters_13a N) (q_tarpaulinlaw15_CtxAfters_14 N))
noncomputable def D_tarpaulinlaw15_CtxAfters_13 (F : TF) (N : TN) (Q : TQ) (l : Env) (L : Lg) : Prop :=
 wpOp F (.bin .neq) [(l 28), (.i .i64 0)] L fun v1 L1 =>
 gdOp F v1 false .mv [(l 27)] L1 fun v2 L2 =>
 gdOp F v1 false .lenSl [v2] L2 fun v3 L3 =>
 gdOp F v1 false .mv [(l 14)] L3 fun v4 L4 =>
 gdOp F v1 false .lenSl [v4] L4 fun v5 L5 =>
 gdOp F v1 false (.bin .neq) [v3, v5] L5 fun v6 L6 =>
 wpOp F .pick [v1, (.b true), v6] L6 fun v7 L7 =>
 condW v7
 (fin1 (some (.b false)) Q L7)
 (D_tarpaulinlaw15_CtxAfters_19 F N Q l L7)
theorem e_tarpaulinlaw15_CtxAfters_13 (F : TF) (N : TN) (Q : TQ) (l t : Env) (L : Lg) : wp F (q_tarpaulinlaw15_CtxAfters_13 N) l t L (fin [.tmp (.l 6)] Q) nE (fin [.tmp (.l 6)] Q) = D_tarpaulinlaw15_CtxAfters_13 F N Q l L := wpS (e_tarpaulinlaw15_CtxAfters_14 F N Q) (by kernel_rfl)
def q_tarpaulinlaw15_CtxAfters_12a (N : TN) : ACode := (.reg [⟨.t 182, none, .mv, [.l 7]⟩, ⟨.t 183, none, .mv, [.l 8]⟩, ⟨.t 184, none, .call (N k_ctx_Set_Cancel), [.t 182, .t 183, .c (.i .i64 0)]⟩, ⟨.t 181, none, .mv, [.t 184]⟩, ⟨.t 185, none, .ext 0, [.t 181]⟩, ⟨.t 186, none, .ext 1, [.t 181]⟩, ⟨.t 187, none, .ext 2, [.t 181]⟩, ⟨.t 26, none, .mv, [.t 185]⟩, ⟨.l 27, none, .mv, [.t 186]⟩, ⟨.l 28, none, .mv, [.t 187]⟩])
def q_tarpaulinlaw15_CtxAfters_12 (N : TN) : ACode := (.seq (q_tarpaulinlaw15_CtxAfters_12a N) (q_tarpaulinlaw15_CtxAfters_13 N))
noncomputable def D_tarpaulinlaw15_CtxAfters_12 (F : TF) (N : TN) (Q : TQ) (l : Env) (L : Lg) : Prop :=
 CallL F (N k_ctx_Set_Cancel) [(l 7), (l 8), (.i .i64 0)] L fun v1 L1 =>
 wpOp F (.ext 0) [v1] L1 fun v2 L2 =>
 wpOp F (.ext 1) [v1] L2 fun v3 L3 =>
 wpOp F (.ext 2) [v1] L3 fun v4 L4 =>
 D_tarpaulinlaw15_CtxAfters_13 F N Q (Env.put (Env.put l 27 v3) 28 v4) L4
theorem e_tarpaulinlaw15_CtxAfters_12 (F : TF) (N : TN) (Q : TQ) (l t : Env) (L : Lg) : wp F (q_tarpaulinlaw15_CtxAfters_12 N) l t L (fin [.tmp (.l 6)] Q) nE (fin [.tmp (.l 6)] Q) = D_tarpaulinlaw15_CtxAfters_12 F N Q l L := wpS (e_tarpaulinlaw15_CtxAfters_13 F N Q) (by kernel_rfl)
def w_tarpaulinlaw15_CtxAfters_11 (F : TF) (N : TN) (Q : TQ) : Kn := (fun (l t : Env) (L : Lg) => D_tarpaulinlaw15_CtxAfters_12 F N Q l L)
def y_tarpaulinlaw15_CtxAfters_24 (F : TF) (N : TN) (Q : TQ) : Nat → Kn := (fun (j : Nat) (l t : Env) (L : Lg) => bif Nat.beq j 4 then (w_tarpaulinlaw15_CtxAfters_11 F N Q) l t L else nE j l t L)
def q_tarpaulinlaw15_CtxAfters_26 (N : TN) : ACode := (.seq (.seq (.reg [⟨.t 158, none, .mv, [.l 25]⟩, ⟨.t 159, none, .mv, [.l 0]⟩, ⟨.t 160, none, .lenSl, [.t 159]⟩, ⟨.t 161, none, .bin .lss, [.t 158, .t 160]⟩]) (.cond (.t 161) .skip (.exit 4))) (.seq (.block 5 (.seq (.reg [⟨.t 164, none, .mv, [.l 1]⟩, ⟨.t 165, none, .mv, [.l 25]⟩, ⟨.t 166, none, .iad 1, [.t 164, .t 165]⟩, ⟨.t 167, none, .ld none, [.t 166]⟩, ⟨.t 168, none, .un .not, [.t 167]⟩, ⟨.t 169, none, .mv, [.t 168]⟩, ⟨.t 170, some (.t 169, true), .mv, [.l 0]⟩, ⟨.t 171, some (.t 169, true), .mv, [.l 25]⟩, ⟨.t 172, some (.t 169, true), .iad 1, [.t 170, .t 171]⟩, ⟨.t 173, some (.t 169, true), .ld none, [.t 172]⟩, ⟨.t 174, some (.t 169, true), .call (N k_tarpaulinalike_Round), [.t 173, .c (.i .i64 3)]⟩, ⟨.t 175, some (.t 169, true), .bin .eql, [.t 174, .c (.i .i64 0)]⟩, ⟨.t 176, none, .pick, [.t 169, .t 175, .c (.b false)]⟩]) (.cond (.t 176) (.reg [⟨.t 177, none, .mv, [.l 14]⟩, ⟨.t 178, none, .mv, [.l 25]⟩, ⟨.t 179, none, .bslice [.i .i64 0] 1 1 [0], [.t 178]⟩, ⟨.t 180, none, .app 1 8, [.t 177, .t 179]⟩, ⟨.l 14, none, .mv, [.t 180]⟩]) .skip))) (.reg [⟨.t 162, none, .mv, [.l 25]⟩, ⟨.t 163, none, .bin .add, [.t 162, .c (.i .i64 1)]⟩, ⟨.l 25, none, .mv, [.t 163]⟩])))
noncomputable def D_tarpaulinlaw15_CtxAfters_26 (F : TF) (N : TN) (Q : TQ) (k1 : TK) (l : Env) (L : Lg) : Prop :=
 wpOp F .lenSl [(l 0)] L fun v1 L1 =>
 wpOp F (.bin .lss) [(l 25), v1] L1 fun v2 L2 =>
 condW v2
 (wpOp F (.iad 1) [(l 1), (l 25)] L2 fun v3 L3 =>
 wpOp F (.ld none) [v3] L3 fun v4 L4 =>
 wpOp F (.un .not) [v4] L4 fun v5 L5 =>
 gdOp F v5 true .mv [(l 0)] L5 fun v6 L6 =>
 gdOp F v5 true .mv [(l 25)] L6 fun v7 L7 =>
 gdOp F v5 true (.iad 1) [v6, v7] L7 fun v8 L8 =>
 gdOp F v5 true (.ld none) [v8] L8 fun v9 L9 =>
 gdOp F v5 true (.call (N k_tarpaulinalike_Round)) [v9, (.i .i64 3)] L9 fun v10 L10 =>
 gdOp F v5 true (.bin .eql) [v10, (.i .i64 0)] L10 fun v11 L11 =>
 wpOp F .pick [v5, v11, (.b false)] L11 fun v12 L12 =>
 condW v12
 (wpOp F (.bslice [.i .i64 0] 1 1 [0]) [(l 25)] L12 fun v13 L13 =>
 wpOp F (.app 1 8) [(l 14), v13] L13 fun v14 L14 =>
 wpOp F (.bin .add) [(l 25), (.i .i64 1)] L14 fun v15 L15 =>
 k1 (Env.put (Env.put l 14 v14) 25 v15) L15)
 (wpOp F (.bin .add) [(l 25), (.i .i64 1)] L12 fun v16 L16 =>
 k1 (Env.put l 25 v16) L16))
 (D_tarpaulinlaw15_CtxAfters_12 F N Q l L2)
theorem e_tarpaulinlaw15_CtxAfters_26 (F : TF) (N : TN) (Q : TQ) (k1 : TK) (l t : Env) (L : Lg) : wp F (q_tarpaulinlaw15_CtxAfters_26 N) l t L (fun (l _ : Env) (L : Lg) => k1 l L) (y_tarpaulinlaw15_CtxAfters_24 F N Q) (fin [.tmp (.l 6)] Q) = D_tarpaulinlaw15_CtxAfters_26 F N Q k1 l L := by kernel_rfl
def q_tarpaulinlaw15_CtxAfters_25 (N : TN) : ACode := (.loop (q_tarpaulinlaw15_CtxAfters_26 N))
noncomputable def D_tarpaulinlaw15_CtxAfters_25 (F : TF) (N : TN) (Q : TQ) (l : Env) (L : Lg) : Prop :=
 loopW (fun l t L k1 => D_tarpaulinlaw15_CtxAfters_26 F N Q k1 l L) l L
theorem e_tarpaulinlaw15_CtxAfters_25 (F : TF) (N : TN) (Q : TQ) (l t : Env) (L : Lg) : wp F (q_tarpaulinlaw15_CtxAfters_25 N) l t L (w_tarpaulinlaw15_CtxAfters_11 F N Q) (y_tarpaulinlaw15_CtxAfters_24 F N Q) (fin [.tmp (.l 6)] Q) = D_tarpaulinlaw15_CtxAfters_25 F N Q l L := wpL (fun l t L k1 => e_tarpaulinlaw15_CtxAfters_26 F N Q k1 l t L) (by kernel_rfl)
def q_tarpaulinlaw15_CtxAfters_24 (N : TN) : ACode := (.block 4 (q_tarpaulinlaw15_CtxAfters_25 N))
theorem e_tarpaulinlaw15_CtxAfters_24 (F : TF) (N : TN) (Q : TQ) (l t : Env) (L : Lg) : wp F (q_tarpaulinlaw15_CtxAfters_24 N) l t L (w_tarpaulinlaw15_CtxAfters_11 F N Q) nE (fin [.tmp (.l 6)] Q) = D_tarpaulinlaw15_CtxAfters_25 F N Q l L := wpB (e_tarpaulinlaw15_CtxAfters_25 F N Q l t L)
def q_tarpaulinlaw15_CtxAfters_23a (N : TN) : ACode := (.reg [⟨.l 25, none, .mv, [.c (.i .i64 0)]⟩])
def q_tarpaulinlaw15_CtxAfters_23 (N : TN) : ACode := (.seq (q_tarpaulinlaw15_CtxAfters_23a N) (q_tarpaulinlaw15_CtxAfters_24 N))
noncomputable def D_tarpaulinlaw15_CtxAfters_23 (F : TF) (N : TN) (Q : TQ) (l : Env) (L : Lg) : Prop :=
 D_tarpaulinlaw15_CtxAfters_25 F N Q (Env.put l 25 (.i .i64 0)) L
theorem e_tarpaulinlaw15_CtxAfters_23 (F : TF) (N : TN) (Q : TQ) (l t : Env) (L : Lg) : wp F (q_tarpaulinlaw15_CtxAfters_23 N) l t L (w_tarpaulinlaw15_CtxAfters_11 F N Q) nE (fin [.tmp (.l 6)] Q) = D_tarpaulinlaw15_CtxAfters_23 F N Q l L := wpS (e_tarpaulinlaw15_CtxAfters_24 F N Q) (by kernel_rfl)
def q_tarpaulinlaw15_CtxAfters_11 (N : TN) : ACode := (.seq (q_tarpaulinlaw15_CtxAfters_23 N) (q_tarpaulinlaw15_CtxAfters_12 N))
theorem e_tarpaulinlaw15_CtxAfters_11 (F : TF) (N : TN) (Q : TQ) (l t : Env) (L : Lg) : wp F (q_tarpaulinlaw15_CtxAfters_11 N) l t L (fin [.tmp (.l 6)] Q) nE (fin [.tmp (.l 6)] Q) = D_tarpaulinlaw15_CtxAfters_23 F N Q l L := wpS (e_tarpaulinlaw15_CtxAfters_12 F N Q) (e_tarpaulinlaw15_CtxAfters_23 F N Q l t L)
def w_tarpaulinlaw15_CtxAfters_10 (F : TF) (N : TN) (Q : TQ) : Kn := (fun (l t : Env) (L : Lg) => D_tarpaulinlaw15_CtxAfters_23 F N Q l L)
def y_tarpaulinlaw15_CtxAfters_28 (F : TF) (N : TN) (Q : TQ) : Nat → Kn := (fun (j : Nat) (l t : Env) (L : Lg) => bif Nat.beq j 2 then (w_tarpaulinlaw15_CtxAfters_10 F N Q) l t L else nE j l t L)
def q_tarpaulinlaw15_CtxAfters_32 (N : TN) : ACode := (.reg [⟨.t 117, none, .mv, [.l 20]⟩, ⟨.t 118, none, .bin .add, [.t 117, .c (.i .i64 1)]⟩, ⟨.l 20, none, .mv, [.t 118]⟩])
noncomputable def D_tarpaulinlaw15_CtxAfters_32 (F : TF) (N : TN) (Q : TQ) (k1 : TK) (l : Env) (L : Lg) : Prop :=
 wpOp F (.bin .add) [(l 20), (.i .i64 1)] L fun v1 L1 =>
 k1 (Env.put l 20 v1) L1
theorem e_tarpaulinlaw15_CtxAfters_32 (F : TF) (N : TN) (Q : TQ) (k1 : TK) (l t : Env) (L : Lg) : wp F (q_tarpaulinlaw15_CtxAfters_32 N) l t L (fun (l _ : Env) (L : Lg) => k1 l L) (y_tarpaulinlaw15_CtxAfters_28 F N Q) (fin [.tmp (.l 6)] Q) = D_tarpaulinlaw15_CtxAfters_32 F N Q k1 l L := by kernel_rfl
def w_tarpaulinlaw15_CtxAfters_31 (F : TF) (N : TN) (Q : TQ) (k1 : TK) : Kn := (fun (l t : Env) (L : Lg) => D_tarpaulinlaw15_CtxAfters_32 F N Q k1 l L)
def y_tarpaulinlaw15_CtxAfters_33 (F : TF) (N : TN) (Q : TQ) (k1 : TK) : Nat → Kn := (fun (j : Nat) (l t : Env) (L : Lg) => bif Nat.beq j 3 then (w_tarpaulinlaw15_CtxAfters_31 F N Q k1) l t L else (y_tarpaulinlaw15_CtxAfters_28 F N Q) j l t L)
def q_tarpaulinlaw15_CtxAfters_36 (N : TN) : ACode := (.seq (.reg [⟨.t 124, none, .mv, [.l 7]⟩, ⟨.t 125, none, .mv, [.l 20]⟩, ⟨.t 126, none, .call (N k_ctx_Set_Unafter), [.t 124, .t 125]⟩, ⟨.t 123, none, .mv, [.t 126]⟩, ⟨.t 127, none, .ext 0, [.t 123]⟩, ⟨.t 128, none, .ext 1, [.t 123]⟩, ⟨.l 21, none, .mv, [.t 127]⟩, ⟨.l 22, none, .mv, [.t 128]⟩]) (.seq (.reg [⟨.t 130, none, .mv, [.l 7]⟩, ⟨.t 131, none, .mv, [.l 20]⟩, ⟨.t 132, none, .call (N k_ctx_Set_Unafter), [.t 130, .t 131]⟩, ⟨.t 129, none, .mv, [.t 132]⟩, ⟨.t 133, none, .ext 0, [.t 129]⟩, ⟨.t 134, none, .ext 1, [.t 129]⟩, ⟨.l 23, none, .mv, [.t 133]⟩, ⟨.l 24, none, .mv, [.t 134]⟩]) (.seq (.reg [⟨.t 135, none, .mv, [.l 22]⟩, ⟨.t 136, none, .bin .neq, [.t 135, .c (.i .i64 0)]⟩, ⟨.t 137, none, .mv, [.t 136]⟩, ⟨.t 138, some (.t 137, false), .mv, [.l 24]⟩, ⟨.t 139, some (.t 137, false), .bin .neq, [.t 138, .c (.i .i64 0)]⟩, ⟨.t 140, none, .pick, [.t 137, .c (.b true), .t 139]⟩, ⟨.t 141, none, .mv, [.t 140]⟩, ⟨.t 142, some (.t 141, false), .mv, [.l 21]⟩, ⟨.t 143, some (.t 141, false), .un .not, [.t 142]⟩, ⟨.t 144, none, .pick, [.t 141, .c (.b true), .t 143]⟩, ⟨.t 145, none, .mv, [.t 144]⟩, ⟨.t 146, some (.t 145, false), .mv, [.l 23]⟩, ⟨.t 147, none, .pick, [.t 145, .c (.b true), .t 146]⟩]) (.cond (.t 147) (.seq (.reg [⟨.l 6, none, .mv, [.c (.b false)]⟩]) .ret) .skip))))
noncomputable def D_tarpaulinlaw15_CtxAfters_36 (F : TF) (N : TN) (Q : TQ) (k1 : TK) (l : Env) (L : Lg) : Prop :=
 CallL F (N k_ctx_Set_Unafter) [(l 7), (l 20)] L fun v1 L1 =>
 wpOp F (.ext 0) [v1] L1 fun v2 L2 =>
 wpOp F (.ext 1) [v1] L2 fun v3 L3 =>
 CallL F (N k_ctx_Set_Unafter) [(l 7), (l 20)] L3 fun v4 L4 =>
 wpOp F (.ext 0) [v4] L4 fun v5 L5 =>
 wpOp F (.ext 1) [v4] L5 fun v6 L6 =>
 wpOp F (.bin .neq) [v3, (.i .i64 0)] L6 fun v7 L7 =>
 gdOp F v7 false .mv [v6] L7 fun v8 L8 =>
 gdOp F v7 false (.bin .neq) [v8, (.i .i64 0)] L8 fun v9 L9 =>
 wpOp F .pick [v7, (.b true), v9] L9 fun v10 L10 =>
 gdOp F v10 false .mv [v2] L10 fun v11 L11 =>
 gdOp F v10 false (.un .not) [v11] L11 fun v12 L12 =>
 wpOp F .pick [v10, (.b true), v12] L12 fun v13 L13 =>
 gdOp F v13 false .mv [v5] L13 fun v14 L14 =>
 wpOp F .pick [v13, (.b true), v14] L14 fun v15 L15 =>
 condW v15
 (fin1 (some (.b false)) Q L15)
 (D_tarpaulinlaw15_CtxAfters_32 F N Q k1 (Env.put (Env.put (Env.put (Env.put l 21 v2) 22 v3) 23 v5) 24 v6) L15)
theorem e_tarpaulinlaw15_CtxAfters_36 (F : TF) (N : TN) (Q : TQ) (k1 : TK) (l t : Env) (L : Lg) : wp F (q_tarpaulinlaw15_CtxAfters_36 N) l t L (w_tarpaulinlaw15_CtxAfters_31 F N Q k1) (y_tarpaulinlaw15_CtxAfters_33 F N Q k1) (fin [.tmp (.l 6)] Q) = D_tarpaulinlaw15_CtxAfters_36 F N Q k1 l L := by kernel_rfl
def q_tarpaulinlaw15_CtxAfters_37 (N : TN) : ACode := (.seq (.reg [⟨.t 148, none, .mv, [.l 0]⟩, ⟨.t 149, none, .mv, [.l 20]⟩, ⟨.t 150, none, .iad 1, [.t 148, .t 149]⟩, ⟨.t 151, none, .ld none, [.t 150]⟩, ⟨.t 152, none, .call (N k_tarpaulinalike_Round), [.t 151, .c (.i .i64 3)]⟩, ⟨.t 153, none, .bin .eql, [.t 152, .c (.i .i64 1)]⟩]) (.cond (.t 153) (.reg [⟨.t 154, none, .mv, [.l 14]⟩, ⟨.t 155, none, .mv, [.l 20]⟩, ⟨.t 156, none, .bslice [.i .i64 0] 1 1 [0], [.t 155]⟩, ⟨.t 157, none, .app 1 8, [.t 154, .t 156]⟩, ⟨.l 14, none, .mv, [.t 157]⟩]) .skip))
noncomputable def D_tarpaulinlaw15_CtxAfters_37 (F : TF) (N : TN) (Q : TQ) (k1 : TK) (l : Env) (L : Lg) : Prop :=
 wpOp F (.iad 1) [(l 0), (l 20)] L fun v1 L1 =>
 wpOp F (.ld none) [v1] L1 fun v2 L2 =>
 CallL F (N k_tarpaulinalike_Round) [v2, (.i .i64 3)] L2 fun v3 L3 =>
 wpOp F (.bin .eql) [v3, (.i .i64 1)] L3 fun v4 L4 =>
 condW v4
 (wpOp F (.bslice [.i .i64 0] 1 1 [0]) [(l 20)] L4 fun v5 L5 =>
 wpOp F (.app 1 8) [(l 14), v5] L5 fun v6 L6 =>
 D_tarpaulinlaw15_CtxAfters_32 F N Q k1 (Env.put l 14 v6) L6)
 (D_tarpaulinlaw15_CtxAfters_32 F N Q k1 l L4)
theorem e_tarpaulinlaw15_CtxAfters_37 (F : TF) (N : TN) (Q : TQ) (k1 : TK) (l t : Env) (L : Lg) : wp F (q_tarpaulinlaw15_CtxAfters_37 N) l t L (w_tarpaulinlaw15_CtxAfters_31 F N Q k1) (y_tarpaulinlaw15_CtxAfters_33 F N Q k1) (fin [.tmp (.l 6)] Q) = D_tarpaulinlaw15_CtxAfters_37 F N Q k1 l L := by kernel_rfl
def q_tarpaulinlaw15_CtxAfters_35 (N : TN) : ACode := (.cond (.t 122) (q_tarpaulinlaw15_CtxAfters_36 N) (q_tarpaulinlaw15_CtxAfters_37 N))
noncomputable def D_tarpaulinlaw15_CtxAfters_35 (F : TF) (N : TN) (Q : TQ) (k1 : TK) (l : Env) (t122 : AV) (L : Lg) : Prop :=
 condW t122
 (D_tarpaulinlaw15_CtxAfters_36 F N Q k1 l L)
 (D_tarpaulinlaw15_CtxAfters_37 F N Q k1 l L)
theorem e_tarpaulinlaw15_CtxAfters_35 (F : TF) (N : TN) (Q : TQ) (k1 : TK) (l t : Env) (L : Lg) : wp F (q_tarpaulinlaw15_CtxAfters_35 N) l t L (w_tarpaulinlaw15_CtxAfters_31 F N Q k1) (y_tarpaulinlaw15_CtxAfters_33 F N Q k1) (fin [.tmp (.l 6)] Q) = D_tarpaulinlaw15_CtxAfters_35 F N Q k1 l (t 122) L := wpC (e_tarpaulinlaw15_CtxAfters_36 F N Q k1 l t L) (e_tarpaulinlaw15_CtxAfters_37 F N Q k1 l t L) (by kernel_rfl)
def q_tarpaulinlaw15_CtxAfters_34a (N : TN) : ACode := (.reg [⟨.t 119, none, .mv, [.l 1]⟩, ⟨.t 120, none, .mv, [.l 20]⟩, ⟨.t 121, none, .iad 1, [.t 119, .t 120]⟩, ⟨.t 122, none, .ld none, [.t 121]⟩])
def q_tarpaulinlaw15_CtxAfters_34 (N : TN) : ACode := (.seq (q_tarpaulinlaw15_CtxAfters_34a N) (q_tarpaulinlaw15_CtxAfters_35 N))
noncomputable def D_tarpaulinlaw15_CtxAfters_34 (F : TF) (N : TN) (Q : TQ) (k1 : TK) (l : Env) (L : Lg) : Prop :=
 wpOp F (.iad 1) [(l 1), (l 20)] L fun v1 L1 =>
 wpOp F (.ld none) [v1] L1 fun v2 L2 =>
 D_tarpaulinlaw15_CtxAfters_35 F N Q k1 l v2 L2
theorem e_tarpaulinlaw15_CtxAfters_34 (F : TF) (N : TN) (Q : TQ) (k1 : TK) (l t : Env) (L : Lg) : wp F (q_tarpaulinlaw15_CtxAfters_34 N) l t L (w_tarpaulinlaw15_CtxAfters_31 F N Q k1) (y_tarpaulinlaw15_CtxAfters_33 F N Q k1) (fin [.tmp (.l 6)] Q) = D_tarpaulinlaw15_CtxAfters_34 F N Q k1 l L := wpS (e_tarpaulinlaw15_CtxAfters_35 F N Q k1) (by kernel_rfl)
def q_tarpaulinlaw15_CtxAfters_33 (N : TN) : ACode := (.block 3 (q_tarpaulinlaw15_CtxAfters_34 N))
theorem e_tarpaulinlaw15_CtxAfters_33 (F : TF) (N : TN) (Q : TQ) (k1 : TK) (l t : Env) (L : Lg) : wp F (q_tarpaulinlaw15_CtxAfters_33 N) l t L (w_tarpaulinlaw15_CtxAfters_31 F N Q k1) (y_tarpaulinlaw15_CtxAfters_28 F N Q) (fin [.tmp (.l 6)] Q) = D_tarpaulinlaw15_CtxAfters_34 F N Q k1 l L := wpB (e_tarpaulinlaw15_CtxAfters_34 F N Q k1 l t L)
def q_tarpaulinlaw15_CtxAfters_31 (N : TN) : ACode := (.seq (q_tarpaulinlaw15_CtxAfters_33 N) (q_tarpaulinlaw15_CtxAfters_32 N))
theorem e_tarpaulinlaw15_CtxAfters_31 (F : TF) (N : TN) (Q : TQ) (k1 : TK) (l t : Env) (L : Lg) : wp F (q_tarpaulinlaw15_CtxAfters_31 N) l t L (fun (l _ : Env) (L : Lg) => k1 l L) (y_tarpaulinlaw15_CtxAfters_28 F N Q) (fin [.tmp (.l 6)] Q) = D_tarpaulinlaw15_CtxAfters_34 F N Q k1 l L := wpS (e_tarpaulinlaw15_CtxAfters_32 F N Q k1) (e_tarpaulinlaw15_CtxAfters_33 F N Q k1 l t L)
def q_tarpaulinlaw15_CtxAfters_30a (N : TN) : ACode := (.seq (.reg [⟨.t 113, none, .mv, [.l 20]⟩, ⟨.t 114, none, .mv, [.l 0]⟩, ⟨.t 115, none, .lenSl, [.t 114]⟩, ⟨.t 116, none, .bin .lss, [.t 113, .t 115]⟩]) (.cond (.t 116) .skip (.exit 2)))
def q_tarpaulinlaw15_CtxAfters_30 (N : TN) : ACode := (.seq (q_tarpaulinlaw15_CtxAfters_30a N) (q_tarpaulinlaw15_CtxAfters_31 N))
noncomputable def D_tarpaulinlaw15_CtxAfters_30 (F : TF) (N : TN) (Q : TQ) (k1 : TK) (l : Env) (L : Lg) : Prop :=
 wpOp F .lenSl [(l 0)] L fun v1 L1 =>
 wpOp F (.bin .lss) [(l 20), v1] L1 fun v2 L2 =>
 condW v2
 (D_tarpaulinlaw15_CtxAfters_34 F N Q k1 l L2)
 (D_tarpaulinlaw15_CtxAfters_23 F N Q l L2)
theorem e_tarpaulinlaw15_CtxAfters_30 (F : TF) (N : TN) (Q : TQ) (k1 : TK) (l t : Env) (L : Lg) : wp F (q_tarpaulinlaw15_CtxAfters_30 N) l t L (fun (l _ : Env) (L : Lg) => k1 l L) (y_tarpaulinlaw15_CtxAfters_28 F N Q) (fin [.tmp (.l 6)] Q) = D_tarpaulinlaw15_CtxAfters_30 F N Q k1 l L := wpS (e_tarpaulinlaw15_CtxAfters_31 F N Q k1) (by kernel_rfl)
def q_tarpaulinlaw15_CtxAfters_29 (N : TN) : ACode := (.loop (q_tarpaulinlaw15_CtxAfters_30 N))
noncomputable def D_tarpaulinlaw15_CtxAfters_29 (F : TF) (N : TN) (Q : TQ) (l : Env) (L : Lg) : Prop :=
 loopW (fun l t L k1 => D_tarpaulinlaw15_CtxAfters_30 F N Q k1 l L) l L
theorem e_tarpaulinlaw15_CtxAfters_29 (F : TF) (N : TN) (Q : TQ) (l t : Env) (L : Lg) : wp F (q_tarpaulinlaw15_CtxAfters_29 N) l t L (w_tarpaulinlaw15_CtxAfters_10 F N Q) (y_tarpaulinlaw15_CtxAfters_28 F N Q) (fin [.tmp (.l 6)] Q) = D_tarpaulinlaw15_CtxAfters_29 F N Q l L := wpL (fun l t L k1 => e_tarpaulinlaw15_CtxAfters_30 F N Q k1 l t L) (by kernel_rfl)
def q_tarpaulinlaw15_CtxAfters_28 (N : TN) : ACode := (.block 2 (q_tarpaulinlaw15_CtxAfters_29 N))
theorem e_tarpaulinlaw15_CtxAfters_28 (F : TF) (N : TN) (Q : TQ) (l t : Env) (L : Lg) : wp F (q_tarpaulinlaw15_CtxAfters_28 N) l t L (w_tarpaulinlaw15_CtxAfters_10 F N Q) nE (fin [.tmp (.l 6)] Q) = D_tarpaulinlaw15_CtxAfters_29 F N Q l L := wpB (e_tarpaulinlaw15_CtxAfters_29 F N Q l t L)
def q_tarpaulinlaw15_CtxAfters_27a (N : TN) : ACode := (.reg [⟨.l 20, none, .mv, [.c (.i .i64 0)]⟩])
def q_tarpaulinlaw15_CtxAfters_27 (N : TN) : ACode := (.seq (q_tarpaulinlaw15_CtxAfters_27a N) (q_tarpaulinlaw15_CtxAfters_28 N))
noncomputable def D_tarpaulinlaw15_CtxAfters_27 (F : TF) (N : TN) (Q : TQ) (l : Env) (L : Lg) : Prop :=
 D_tarpaulinlaw15_CtxAfters_29 F N Q (Env.put l 20 (.i .i64 0)) L
theorem e_tarpaulinlaw15_CtxAfters_27 (F : TF) (N : TN) (Q : TQ) (l t : Env) (L : Lg) : wp F (q_tarpaulinlaw15_CtxAfters_27 N) l t L (w_tarpaulinlaw15_CtxAfters_10 F N Q) nE (fin [.tmp (.l 6)] Q) = D_tarpaulinlaw15_CtxAfters_27 F N Q l L := wpS (e_tarpaulinlaw15_CtxAfters_28 F N Q) (by kernel_rfl)
def q_tarpaulinlaw15_CtxAfters_10 (N : TN) : ACode := (.seq (q_tarpaulinlaw15_CtxAfters_27 N) (q_tarpaulinlaw15_CtxAfters_11 N))
theorem e_tarpaulinlaw15_CtxAfters_10 (F : TF) (N : TN) (Q : TQ) (l t : Env) (L : Lg) : wp F (q_tarpaulinlaw15_CtxAfters_10 N) l t L (fin [.tmp (.l 6)] Q) nE (fin [.tmp (.l 6)] Q) = D_tarpaulinlaw15_CtxAfters_27 F N Q l L := wpS (e_tarpaulinlaw15_CtxAfters_11 F N Q) (e_tarpaulinlaw15_CtxAfters_27 F N Q l t L)
def w_tarpaulinlaw15_CtxAfters_9 (F : TF) (N : TN) (Q : TQ) : Kn := (fun (l t : Env) (L : Lg) => D_tarpaulinlaw15_CtxAfters_27 F N Q l L)
def y_tarpaulinlaw15_CtxAfters_39 (F : TF) (N : TN) (Q : TQ) : Nat → Kn := (fun (j : Nat) (l t : Env) (L : Lg) => bif Nat.beq j 0 then (w_tarpaulinlaw15_CtxAfters_9 F N Q) l t L else nE j l t L)
def q_tarpaulinlaw15_CtxAfters_42 (N : TN) : ACode := (.seq (.block 1 (.seq (.reg [⟨.t 82, none, .mv, [.l 8]⟩, ⟨.t 83, none, .mv, [.l 11]⟩, ⟨.t 84, none, .bslice [.i .i64 0] 3 1 [0, 1, 2], [.t 82, .t 83, .c (.i .i64 0)]⟩, ⟨.t 85, none, .mv, [.l 0]⟩, ⟨.t 86, none, .mv, [.l 15]⟩, ⟨.t 87, none, .iad 1, [.t 85, .t 86]⟩, ⟨.t 88, none, .ld none, [.t 87]⟩, ⟨.t 89, none, .call (N k_tarpaulinalike_Round), [.t 88, .c (.i .i64 3)]⟩, ⟨.t 90, none, .iad 1, [.t 84, .t 89]⟩, ⟨.t 91, none, .ld none, [.t 90]⟩, ⟨.l 16, none, .mv, [.t 91]⟩]) (.seq (.reg [⟨.t 93, none, .mv, [.l 7]⟩, ⟨.t 94, none, .mv, [.l 16]⟩, ⟨.t 95, none, .mv, [.l 15]⟩, ⟨.t 96, none, .bin .add, [.c (.i .i64 100), .t 95]⟩, ⟨.t 97, none, .call (N k_ctx_Set_After), [.t 93, .t 94, .t 96]⟩, ⟨.t 92, none, .mv, [.t 97]⟩, ⟨.t 98, none, .ext 0, [.t 92]⟩, ⟨.t 99, none, .ext 1, [.t 92]⟩, ⟨.t 100, none, .ext 2, [.t 92]⟩, ⟨.l 17, none, .mv, [.t 98]⟩, ⟨.l 18, none, .mv, [.t 99]⟩, ⟨.l 19, none, .mv, [.t 100]⟩]) (.seq (.reg [⟨.t 101, none, .mv, [.l 19]⟩, ⟨.t 102, none, .bin .neq, [.t 101, .c (.i .i64 0)]⟩, ⟨.t 103, none, .mv, [.t 102]⟩, ⟨.t 104, some (.t 103, false), .mv, [.l 17]⟩, ⟨.t 105, some (.t 103, false), .mv, [.l 15]⟩, ⟨.t 106, some (.t 103, false), .bin .neq, [.t 104, .t 105]⟩, ⟨.t 107, none, .pick, [.t 103, .c (.b true), .t 106]⟩, ⟨.t 108, none, .mv, [.t 107]⟩, ⟨.t 109, some (.t 108, false), .mv, [.l 18]⟩, ⟨.t 110, some (.t 108, false), .lenSl, [.t 109]⟩, ⟨.t 111, some (.t 108, false), .bin .neq, [.t 110, .c (.i .i64 0)]⟩, ⟨.t 112, none, .pick, [.t 108, .c (.b true), .t 111]⟩]) (.cond (.t 112) (.seq (.reg [⟨.l 6, none, .mv, [.c (.b false)]⟩]) .ret) .skip))))) (.reg [⟨.t 80, none, .mv, [.l 15]⟩, ⟨.t 81, none, .bin .add, [.t 80, .c (.i .i64 1)]⟩, ⟨.l 15, none, .mv, [.t 81]⟩]))
noncomputable def D_tarpaulinlaw15_CtxAfters_42 (F : TF) (N : TN) (Q : TQ) (k1 : TK) (l : Env) (L : Lg) : Prop :=
 wpOp F (.bslice [.i .i64 0] 3 1 [0, 1, 2]) [(l 8), (l 11), (.i .i64 0)] L fun v1 L1 =>
 wpOp F (.iad 1) [(l 0), (l 15)] L1 fun v2 L2 =>
 wpOp F (.ld none) [v2] L2 fun v3 L3 =>
 CallL F (N k_tarpaulinalike_Round) [v3, (.i .i64 3)] L3 fun v4 L4 =>
 wpOp F (.iad 1) [v1, v4] L4 fun v5 L5 =>
 wpOp F (.ld none) [v5] L5 fun v6 L6 =>
 wpOp F (.bin .add) [(.i .i64 100), (l 15)] L6 fun v7 L7 =>
 CallL F (N k_ctx_Set_After) [(l 7), v6, v7] L7 fun v8 L8 =>
 wpOp F (.ext 0) [v8] L8 fun v9 L9 =>
 wpOp F (.ext 1) [v8] L9 fun v10 L10 =>
 wpOp F (.ext 2) [v8] L10 fun v11 L11 =>
 wpOp F (.bin .neq) [v11, (.i .i64 0)] L11 fun v12 L12 =>
 gdOp F v12 false .mv [v9] L12 fun v13 L13 =>
 gdOp F v12 false .mv [(l 15)] L13 fun v14 L14 =>
 gdOp F v12 false (.bin .neq) [v13, v14] L14 fun v15 L15 =>
 wpOp F .pick [v12, (.b true), v15] L15 fun v16 L16 =>
 gdOp F v16 false .mv [v10] L16 fun v17 L17 =>
 gdOp F v16 false .lenSl [v17] L17 fun v18 L18 =>
 gdOp F v16 false (.bin .neq) [v18, (.i .i64 0)] L18 fun v19 L19 =>
 wpOp F .pick [v16, (.b true), v19] L19 fun v20 L20 =>
 condW v20
 (fin1 (some (.b false)) Q L20)
 (wpOp F (.bin .add) [(l 15), (.i .i64 1)] L20 fun v21 L21 =>
 k1 (Env.put (Env.put (Env.put (Env.put (Env.put l 16 v6) 17 v9) 18 v10) 19 v11) 15 v21) L21)
theorem e_tarpaulinlaw15_CtxAfters_42 (F : TF) (N : TN) (Q : TQ) (k1 : TK) (l t : Env) (L : Lg) : wp F (q_tarpaulinlaw15_CtxAfters_42 N) l t L (fun (l _ : Env) (L : Lg) => k1 l L) (y_tarpaulinlaw15_CtxAfters_39 F N Q) (fin [.tmp (.l 6)] Q) = D_tarpaulinlaw15_CtxAfters_42 F N Q k1 l L := by kernel_rfl
def q_tarpaulinlaw15_CtxAfters_41a (N : TN) : ACode := (.seq (.reg [⟨.t 76, none, .mv, [.l 15]⟩, ⟨.t 77, none, .mv, [.l 0]⟩, ⟨.t 78, none, .lenSl, [.t 77]⟩, ⟨.t 79, none, .bin .lss, [.t 76, .t 78]⟩]) (.cond (.t 79) .skip (.exit 0)))
def q_tarpaulinlaw15_CtxAfters_41 (N : TN) : ACode := (.seq (q_tarpaulinlaw15_CtxAfters_41a N) (q_tarpaulinlaw15_CtxAfters_42 N))
noncomputable def D_tarpaulinlaw15_CtxAfters_41 (F : TF) (N : TN) (Q : TQ) (k1 : TK) (l : Env) (L : Lg) : Prop :=
 wpOp F .lenSl [(l 0)] L fun v1 L1 =>
 wpOp F (.bin .lss) [(l 15), v1] L1 fun v2 L2 =>
 condW v2
 (D_tarpaulinlaw15_CtxAfters_42 F N Q k1 l L2)
 (D_tarpaulinlaw15_CtxAfters_27 F N Q l L2)
theorem e_tarpaulinlaw15_CtxAfters_41 (F : TF) (N : TN) (Q : TQ) (k1 : TK) (l t : Env) (L : Lg) : wp F (q_tarpaulinlaw15_CtxAfters_41 N) l t L (fun (l _ : Env) (L : Lg) => k1 l L) (y_tarpaulinlaw15_CtxAfters_39 F N Q) (fin [.tmp (.l 6)] Q) = D_tarpaulinlaw15_CtxAfters_41 F N Q k1 l L := wpS (e_tarpaulinlaw15_CtxAfters_42 F N Q k1) (by kernel_rfl)
def q_tarpaulinlaw15_CtxAfters_40 (N : TN) : ACode := (.loop (q_tarpaulinlaw15_CtxAfters_41 N))
noncomputable def D_tarpaulinlaw15_CtxAfters_40 (F : TF) (N : TN) (Q : TQ) (l : Env) (L : Lg) : Prop :=
 loopW (fun l t L k1 => D_tarpaulinlaw15_CtxAfters_41 F N Q k1 l L) l L
theorem e_tarpaulinlaw15_CtxAfters_40 (F : TF) (N : TN) (Q : TQ) (l t : Env) (L : Lg) : wp F (q_tarpaulinlaw15_CtxAfters_40 N) l t L (w_tarpaulinlaw15_CtxAfters_9 F N Q) (y_tarpaulinlaw15_CtxAfters_39 F N Q) (fin [.tmp (.l 6)] Q) = D_tarpaulinlaw15_CtxAfters_40 F N Q l L := wpL (fun l t L k1 => e_tarpaulinlaw15_CtxAfters_41 F N Q k1 l t L) (by kernel_rfl)
def q_tarpaulinlaw15_CtxAfters_39 (N : TN) : ACode := (.block 0 (q_tarpaulinlaw15_CtxAfters_40 N))
theorem e_tarpaulinlaw15_CtxAfters_39 (F : TF) (N : TN) (Q : TQ) (l t : Env) (L : Lg) : wp F (q_tarpaulinlaw15_CtxAfters_39 N) l t L (w_tarpaulinlaw15_CtxAfters_9 F N Q) nE (fin [.tmp (.l 6)] Q) = D_tarpaulinlaw15_CtxAfters_40 F N Q l L := wpB (e_tarpaulinlaw15_CtxAfters_40 F N Q l t L)
def q_tarpaulinlaw15_CtxAfters_38a (N : TN) : ACode := (.reg [⟨.l 15, none, .mv, [.c (.i .i64 0)]⟩])
def q_tarpaulinlaw15_CtxAfters_38 (N : TN) : ACode := (.seq (q_tarpaulinlaw15_CtxAfters_38a N) (q_tarpaulinlaw15_CtxAfters_39 N))
noncomputable def D_tarpaulinlaw15_CtxAfters_38 (F : TF) (N : TN) (Q : TQ) (l : Env) (L : Lg) : Prop :=
 D_tarpaulinlaw15_CtxAfters_40 F N Q (Env.put l 15 (.i .i64 0)) L
theorem e_tarpaulinlaw15_CtxAfters_38 (F : TF) (N : TN) (Q : TQ) (l t : Env) (L : Lg) : wp F (q_tarpaulinlaw15_CtxAfters_38 N) l t L (w_tarpaulinlaw15_CtxAfters_9 F N Q) nE (fin [.tmp (.l 6)] Q) = D_tarpaulinlaw15_CtxAfters_38 F N Q l L := wpS (e_tarpaulinlaw15_CtxAfters_39 F N Q) (by kernel_rfl)
def q_tarpaulinlaw15_CtxAfters_9 (N : TN) : ACode := (.seq (q_tarpaulinlaw15_CtxAfters_38 N) (q_tarpaulinlaw15_CtxAfters_10 N))
theorem e_tarpaulinlaw15_CtxAfters_9 (F : TF) (N : TN) (Q : TQ) (l t : Env) (L : Lg) : wp F (q_tarpaulinlaw15_CtxAfters_9 N) l t L (fin [.tmp (.l 6)] Q) nE (fin [.tmp (.l 6)] Q) = D_tarpaulinlaw15_CtxAfters_38 F N Q l L := wpS (e_tarpaulinlaw15_CtxAfters_10 F N Q) (e_tarpaulinlaw15_CtxAfters_38 F N Q l t L)
def q_tarpaulinlaw15_CtxAfters_8a (N : TN) : ACode := (.reg [⟨.l 14, none, .mv, [.c (.sl none 0 0 0)]⟩])
def q_tarpaulinlaw15_CtxAfters_8 (N : TN) : ACode := (.seq (q_tarpaulinlaw15_CtxAfters_8a N) (q_tarpaulinlaw15_CtxAfters_9 N))
noncomputable def D_tarpaulinlaw15_CtxAfters_8 (F : TF) (N : TN) (Q : TQ) (l : Env) (L : Lg) : Prop :=
 D_tarpaulinlaw15_CtxAfters_38 F N Q (Env.put l 14 (.sl none 0 0 0)) L
theorem e_tarpaulinlaw15_CtxAfters_8 (F : TF) (N : TN) (Q : TQ) (l t : Env) (L : Lg) : wp F (q_tarpaulinlaw15_CtxAfters_8 N) l t L (fin [.tmp (.l 6)] Q) nE (fin [.tmp (.l 6)] Q) = D_tarpaulinlaw15_CtxAfters_8 F N Q l L := wpS (e_tarpaulinlaw15_CtxAfters_9 F N Q) (by kernel_rfl)
def q_tarpaulinlaw15_CtxAfters_7a (N : TN) : ACode := (.seq (.reg [⟨.t 70, none, .mv, [.l 10]⟩, ⟨.t 71, none, .bin .neq, [.t 70, .c (.i .i64 0)]⟩, ⟨.t 72, none, .mv, [.t 71]⟩, ⟨.t 73, some (.t 72, false), .mv, [.l 13]⟩, ⟨.t 74, some (.t 72, false), .bin .neq, [.t 73, .c (.i .i64 0)]⟩, ⟨.t 75, none, .pick, [.t 72, .c (.b true), .t 74]⟩]) (.cond (.t 75) (.seq (.reg [⟨.l 6, none, .mv, [.c (.b false)]⟩]) .ret) .skip))
def q_tarpaulinlaw15_CtxAfters_7 (N : TN) : ACode := (.seq (q_tarpaulinlaw15_CtxAfters_7a N) (q_tarpaulinlaw15_CtxAfters_8 N))
noncomputable def D_tarpaulinlaw15_CtxAfters_7 (F : TF) (N : TN) (Q : TQ) (l : Env) (L : Lg) : Prop :=
 wpOp F (.bin .neq) [(l 10), (.i .i64 0)] L fun v1 L1 =>
 gdOp F v1 false .mv [(l 13)] L1 fun v2 L2 =>
 gdOp F v1 false (.bin .neq) [v2, (.i .i64 0)] L2 fun v3 L3 =>
 wpOp F .pick [v1, (.b true), v3] L3 fun v4 L4 =>
 condW v4
 (fin1 (some (.b false)) Q L4)
 (D_tarpaulinlaw15_CtxAfters_8 F N Q l L4)
theorem e_tarpaulinlaw15_CtxAfters_7 (F : TF) (N : TN) (Q : TQ) (l t : Env) (L : Lg) : wp F (q_tarpaulinlaw15_CtxAfters_7 N) l t L (fin [.tmp (.l 6)] Q) nE (fin [.tmp (.l 6)] Q) = D_tarpaulinlaw15_CtxAfters_7 F N Q l L := wpS (e_tarpaulinlaw15_CtxAfters_8 F N Q) (by kernel_rfl)
def q_tarpaulinlaw15_CtxAfters_6a (N : TN) : ACode := (.reg [⟨.t 64, none, .mv, [.l 7]⟩, ⟨.t 65, none, .mv, [.l 8]⟩, ⟨.t 66, none, .call (N k_ctx_Set_Cancels), [.t 64, .t 65]⟩, ⟨.t 63, none, .mv, [.t 66]⟩, ⟨.t 67, none, .ext 0, [.t 63]⟩, ⟨.t 68, none, .ext 1, [.t 63]⟩, ⟨.t 69, none, .ext 2, [.t 63]⟩, ⟨.l 11, none, .mv, [.t 67]⟩, ⟨.t 12, none, .mv, [.t 68]⟩, ⟨.l 13, none, .mv, [.t 69]⟩])
def q_tarpaulinlaw15_CtxAfters_6 (N : TN) : ACode := (.seq (q_tarpaulinlaw15_CtxAfters_6a N) (q_tarpaulinlaw15_CtxAfters_7 N))
noncomputable def D_tarpaulinlaw15_CtxAfters_6 (F : TF) (N : TN) (Q : TQ) (l : Env) (L : Lg) : Prop :=
 CallL F (N k_ctx_Set_Cancels) [(l 7), (l 8)] L fun v1 L1 =>
 wpOp F (.ext 0) [v1] L1 fun v2 L2 =>
 wpOp F (.ext 1) [v1] L2 fun v3 L3 =>
 wpOp F (.ext 2) [v1] L3 fun v4 L4 =>
 D_tarpaulinlaw15_CtxAfters_7 F N Q (Env.put (Env.put l 11 v2) 13 v4) L4
theorem e_tarpaulinlaw15_CtxAfters_6 (F : TF) (N : TN) (Q : TQ) (l t : Env) (L : Lg) : wp F (q_tarpaulinlaw15_CtxAfters_6 N) l t L (fin [.tmp (.l 6)] Q) nE (fin [.tmp (.l 6)] Q) = D_tarpaulinlaw15_CtxAfters_6 F N Q l L := wpS (e_tarpaulinlaw15_CtxAfters_7 F N Q) (by kernel_rfl)
def q_tarpaulinlaw15_CtxAfters_5a (N : TN) : ACode := (.reg [⟨.t 58, none, .mv, [.l 7]⟩, ⟨.t 59, none, .call (N k_ctx_Set_Cancels), [.t 58, .c (.i .i64 0)]⟩, ⟨.t 57, none, .mv, [.t 59]⟩, ⟨.t 60, none, .ext 0, [.t 57]⟩, ⟨.t 61, none, .ext 1, [.t 57]⟩, ⟨.t 62, none, .ext 2, [.t 57]⟩, ⟨.l 8, none, .mv, [.t 60]⟩, ⟨.t 9, none, .mv, [.t 61]⟩, ⟨.l 10, none, .mv, [.t 62]⟩])
def q_tarpaulinlaw15_CtxAfters_5 (N : TN) : ACode := (.seq (q_tarpaulinlaw15_CtxAfters_5a N) (q_tarpaulinlaw15_CtxAfters_6 N))
noncomputable def D_tarpaulinlaw15_CtxAfters_5 (F : TF) (N : TN) (Q : TQ) (l : Env) (L : Lg) : Prop :=
 CallL F (N k_ctx_Set_Cancels) [(l 7), (.i .i64 0)] L fun v1 L1 =>
 wpOp F (.ext 0) [v1] L1 fun v2 L2 =>
 wpOp F (.ext 1) [v1] L2 fun v3 L3 =>
 wpOp F (.ext 2) [v1] L3 fun v4 L4 =>
 D_tarpaulinlaw15_CtxAfters_6 F N Q (Env.put (Env.put l 8 v2) 10 v4) L4
theorem e_tarpaulinlaw15_CtxAfters_5 (F : TF) (N : TN) (Q : TQ) (l t : Env) (L : Lg) : wp F (q_tarpaulinlaw15_CtxAfters_5 N) l t L (fin [.tmp (.l 6)] Q) nE (fin [.tmp (.l 6)] Q) = D_tarpaulinlaw15_CtxAfters_5 F N Q l L := wpS (e_tarpaulinlaw15_CtxAfters_6 F N Q) (by kernel_rfl)
def q_tarpaulinlaw15_CtxAfters_4a (N : TN) : ACode := (.seq (.reg [⟨.t 55, none, .mv, [.l 7]⟩, ⟨.t 56, none, .eq false .ptr, [.t 55, .c (.p none)]⟩]) (.cond (.t 56) (.seq (.reg [⟨.l 6, none, .mv, [.c (.b false)]⟩]) .ret) .skip))
def q_tarpaulinlaw15_CtxAfters_4 (N : TN) : ACode := (.seq (q_tarpaulinlaw15_CtxAfters_4a N) (q_tarpaulinlaw15_CtxAfters_5 N))
noncomputable def D_tarpaulinlaw15_CtxAfters_4 (F : TF) (N : TN) (Q : TQ) (l : Env) (L : Lg) : Prop :=
 wpOp F (.eq false .ptr) [(l 7), (.p none)] L fun v1 L1 =>
 condW v1
 (fin1 (some (.b false)) Q L1)
 (D_tarpaulinlaw15_CtxAfters_5 F N Q l L1)
theorem e_tarpaulinlaw15_CtxAfters_4 (F : TF) (N : TN) (Q : TQ) (l t : Env) (L : Lg) : wp F (q_tarpaulinlaw15_CtxAfters_4 N) l t L (fin [.tmp (.l 6)] Q) nE (fin [.tmp (.l 6)] Q) = D_tarpaulinlaw15_CtxAfters_4 F N Q l L := wpS (e_tarpaulinlaw15_CtxAfters_5 F N Q) (by kernel_rfl)
def q_tarpaulinlaw15_CtxAfters_3a (N : TN) : ACode := (.reg [⟨.t 54, none, .call (N k_ctx_New), [.c (.p none)]⟩, ⟨.l 7, none, .mv, [.t 54]⟩])
def q_tarpaulinlaw15_CtxAfters_3 (N : TN) : ACode := (.seq (q_tarpaulinlaw15_CtxAfters_3a N) (q_tarpaulinlaw15_CtxAfters_4 N))
noncomputable def D_tarpaulinlaw15_CtxAfters_3 (F : TF) (N : TN) (Q : TQ) (l : Env) (L : Lg) : Prop :=
 CallL F (N k_ctx_New) [(.p none)] L fun v1 L1 =>
 D_tarpaulinlaw15_CtxAfters_4 F N Q (Env.put l 7 v1) L1
theorem e_tarpaulinlaw15_CtxAfters_3 (F : TF) (N : TN) (Q : TQ) (l t : Env) (L : Lg) : wp F (q_tarpaulinlaw15_CtxAfters_3 N) l t L (fin [.tmp (.l 6)] Q) nE (fin [.tmp (.l 6)] Q) = D_tarpaulinlaw15_CtxAfters_3 F N Q l L := wpS (e_tarpaulinlaw15_CtxAfters_4 F N Q) (by kernel_rfl)
def q_tarpaulinlaw15_CtxAfters_2a (N : TN) : ACode := (.seq (.reg [⟨.t 38, none, .mv, [.l 0]⟩, ⟨.t 39, none, .lenSl, [.t 38]⟩, ⟨.t 40, none, .bin .gtr, [.t 39, .c (.i .i64 20)]⟩, ⟨.t 41, none, .mv, [.t 40]⟩, ⟨.t 42, some (.t 41, false), .mv, [.l 1]⟩, ⟨.t 43, some (.t 41, false), .lenSl, [.t 42]⟩, ⟨.t 44, some (.t 41, false), .mv, [.l 0]⟩, ⟨.t 45, some (.t 41, false), .lenSl, [.t 44]⟩, ⟨.t 46, some (.t 41, false), .bin .lss, [.t 43, .t 45]⟩, ⟨.t 47, none, .pick, [.t 41, .c (.b true), .t 46]⟩, ⟨.t 48, none, .mv, [.t 47]⟩, ⟨.t 49, some (.t 48, false), .mv, [.l 1]⟩, ⟨.t 50, some (.t 48, false), .lenSl, [.t 49]⟩, ⟨.t 51, some (.t 48, false), .bin .gtr, [.t 50, .c (.i .i64 30)]⟩, ⟨.t 52, none, .pick, [.t 48, .c (.b true), .t 51]⟩]) (.cond (.t 52) (.seq (.reg [⟨.t 53, none, .call (N k_tarpaulinlaw15_awake), []⟩, ⟨.l 6, none, .mv, [.t 53]⟩]) .ret) .skip))
def q_tarpaulinlaw15_CtxAfters_2 (N : TN) : ACode := (.seq (q_tarpaulinlaw15_CtxAfters_2a N) (q_tarpaulinlaw15_CtxAfters_3 N))
noncomputable def D_tarpaulinlaw15_CtxAfters_2 (F : TF) (N : TN) (Q : TQ) (l : Env) (L : Lg) : Prop :=
 wpOp F .lenSl [(l 0)] L fun v1 L1 =>
 wpOp F (.bin .gtr) [v1, (.i .i64 20)] L1 fun v2 L2 =>
 gdOp F v2 false .mv [(l 1)] L2 fun v3 L3 =>
 gdOp F v2 false .lenSl [v3] L3 fun v4 L4 =>
 gdOp F v2 false .mv [(l 0)] L4 fun v5 L5 =>
 gdOp F v2 false .lenSl [v5] L5 fun v6 L6 =>
 gdOp F v2 false (.bin .lss) [v4, v6] L6 fun v7 L7 =>
 wpOp F .pick [v2, (.b true), v7] L7 fun v8 L8 =>
 gdOp F v8 false .mv [(l 1)] L8 fun v9 L9 =>
 gdOp F v8 false .lenSl [v9] L9 fun v10 L10 =>
 gdOp F v8 false (.bin .gtr) [v10, (.i .i64 30)] L10 fun v11 L11 =>
 wpOp F .pick [v8, (.b true), v11] L11 fun v12 L12 =>
 condW v12
 (CallL F (N k_tarpaulinlaw15_awake) [] L12 fun v13 L13 =>
 fin1 (some v13) Q L13)
 (D_tarpaulinlaw15_CtxAfters_3 F N Q l L12)
theorem e_tarpaulinlaw15_CtxAfters_2 (F : TF) (N : TN) (Q : TQ) (l t : Env) (L : Lg) : wp F (q_tarpaulinlaw15_CtxAfters_2 N) l t L (fin [.tmp (.l 6)] Q) nE (fin [.tmp (.l 6)] Q) = D_tarpaulinlaw15_CtxAfters_2 F N Q l L := wpS (e_tarpaulinlaw15_CtxAfters_3 F N Q) (by kernel_rfl)
def q_tarpaulinlaw15_CtxAfters_1a (N : TN) : ACode := (.reg [⟨.l 6, none, .mv, [.c (.b false)]⟩])
def q_tarpaulinlaw15_CtxAfters_1 (N : TN) : ACode := (.seq (q_tarpaulinlaw15_CtxAfters_1a N) (q_tarpaulinlaw15_CtxAfters_2 N))
noncomputable def D_tarpaulinlaw15_CtxAfters_1 (F : TF) (N : TN) (Q : TQ) (l : Env) (L : Lg) : Prop :=
 D_tarpaulinlaw15_CtxAfters_2 F N Q (Env.put l 6 (.b false)) L
theorem e_tarpaulinlaw15_CtxAfters_1 (F : TF) (N : TN) (Q : TQ) (l t : Env) (L : Lg) : wp F (q_tarpaulinlaw15_CtxAfters_1 N) l t L (fin [.tmp (.l 6)] Q) nE (fin [.tmp (.l 6)] Q) = D_tarpaulinlaw15_CtxAfters_1 F N Q l L := wpS (e_tarpaulinlaw15_CtxAfters_2 F N Q) (by kernel_rfl)
/-- tarpaulin/tarpaulinlaw15.CtxAfters -/
def c_tarpaulinlaw15_CtxAfters (N : TN) : AFn := ⟨q_tarpaulinlaw15_CtxAfters_1 N, [.tmp (.l 6)]⟩
theorem r_tarpaulinlaw15_CtxAfters {F : TF} {N : TN} (h : F (N k_tarpaulinlaw15_CtxAfters) = some (c_tarpaulinlaw15_CtxAfters N)) {Q : TQ} {a0 a1 a2 : AV} {L : Lg} (e : D_tarpaulinlaw15_CtxAfters_1 F N Q (initE [a0, a1, a2] 0) L) : CallL F (N k_tarpaulinlaw15_CtxAfters) [a0, a1, a2] L Q :=
  CallL.of_wp h (Eq.mpr (Eq.trans (e_tarpaulinlaw15_CtxAfters_1 F N Q (initE [a0, a1, a2] 0) Env.nil L) (by kernel_rfl : _ = D_tarpaulinlaw15_CtxAfters_1 F N Q (initE [a0, a1, a2] 0) L)) e)
end Go.AM

/- a row's arguments: slices that are read only. -/
set_option linter.unusedVariables false
namespace Go.AM
open Go.RowKit

/-- what stands for the arguments' memory -/
structure AR (W : World) (S : St) (β : Bt) (L : Lg) : Prop where
  mod : Mod S L
  rel : Rel β W.heap.size S.h W
  wf : S.wf
  free : ∀ k, S.nx ≤ k → β k = none
theorem AR.nil (W : World) : AR W ⟨.nil, 0⟩ (fun _ => none) Lg.nil := ⟨mod_nil 0, rel_nil W, wf_nil 0, fun _ _ => rfl⟩
def Bt.put (β : Bt) (n : Nat) (x : Nat × Nat × Nat) : Bt := fun m => if m = n then some x else β m
theorem AR.ext {W : World} {S : St} {β : Bt} {L : Lg} (h : AR W S β L) (x : Nat × Nat × Nat) : Ext β (Bt.put β S.nx x) := by
  intro n y e
  unfold Bt.put
  split
  · rename_i h9; subst h9; rw [h.free _ (Nat.le_refl _)] at e; cases e
  · exact e
theorem AR.slice {W : World} {S : St} {β : Bt} {L : Lg} (h : AR W S β L) {b off : Nat} {c : List AV} {cur t fr} (hb : W.heap[b]? = some (.cells cur t fr)) (hc : CellsR β c off cur) :
    AR W ⟨S.h.set S.nx (some (.ro c)), S.nx + 1⟩ (Bt.put β S.nx (b, off, 0)) (L.put S.nx (.raw (.ro c))) := by
  have he := h.ext (b, off, 0)
  have hlt : b < W.heap.size := (Array.getElem?_eq_some_iff.1 hb).1
  refine ⟨h.mod.new _, ⟨?_, ?_, ?_, h.rel.le⟩, ?_, ?_⟩
  · intro n bl b' o z hg hn
    rw [PM.get_set] at hg
    unfold Bt.put at hn
    split at hg
    · rename_i h9
      rw [if_pos h9] at hn
      cases hg; cases hn
      exact ⟨cur, t, fr, hb, hc.mono he⟩
    · rename_i h9
      rw [if_neg h9] at hn
      exact (h.rel.blk n bl b' o z hg hn).mono he
  · intro n m bl bm b' x y hg hm ho hn hm2
    rw [PM.get_set] at hg hm
    unfold Bt.put at hn hm2
    split at hg
    · cases hg; simp [AB.own] at ho
    · rename_i h9
      rw [if_neg h9] at hn
      have hbase := (h.rel.blk n bl b' x.1 x.2 hg hn).le ho
      split at hm
      · rename_i h8
        rw [if_pos h8] at hm2
        simp only [Option.some.injEq, Prod.mk.injEq] at hm2
        have := hm2.1
        have h3 := h.rel.lt n b' x hn
        have h4 := h.rel.le
        omega
      · rename_i h8
        rw [if_neg h8] at hm2
        exact h.rel.inj n m bl bm b' x y hg hm ho hn hm2
  · intro n b' x hn
    unfold Bt.put at hn
    split at hn
    · cases hn; exact hlt
    · exact h.rel.lt n b' x hn
  · intro n bl hg
    rw [PM.get_set] at hg
    split at hg
    · rename_i h9; subst h9; exact Nat.lt_succ_self _
    · exact Nat.lt_succ_of_lt (h.wf n bl hg)
  · intro k hk
    have h9 : k ≠ S.nx := by have : S.nx + 1 ≤ k := hk; omega
    unfold Bt.put
    rw [if_neg h9]
    exact h.free k (by have : S.nx + 1 ≤ k := hk; omega)
/-- a call that answers true, at a row's arguments -/
theorem AR.calls {W : World} {S : St} {β : Bt} {L : Lg} (h : AR W S β L) {P : Program} {F : Nat → Option AFn} (hm : P.follows .mixedOrders = true) (hF : TblOk P F) {f : Nat} {vs : List AV} {as : Array Value} (hv : VRs β vs as.toList)
    (hc : CallL F f vs L fun v _ => v = .b true) : Calls P f as W fun e w' => e = .returned (.bool true) ∧ Below W.heap.size W w' := by
  obtain ⟨n, v, S', h1, L', h2, rfl⟩ := hc S h.mod
  exact calls_true hm hF h1 h.wf hv h.rel (fun k h3 _ => h.free k h3)
/-- a slice's stand-in -/
def ArgSl (L : Lg) (v : AV) (cs : List AV) (n size : Nat) : Prop := cs.length = n * size ∧ ((n = 0 ∧ v = .sl none 0 0 0) ∨ ∃ b cap, v = .sl (some (b, 0)) n cap 0 ∧ L b = some (.raw (.ro cs)))
theorem ArgSl.len {F : Nat → Option AFn} {L : Lg} {a : AV} {cs : List AV} {n size : Nat} (h : ArgSl L a cs n size) (M : Lg) (k : AV → Lg → Prop) : wpOp F .lenSl [a] M k = k (.i .i64 n) M := by
  obtain ⟨_, ⟨rfl, rfl⟩ | ⟨b, cap, rfl, _⟩⟩ := h
  · simp
  · simp
theorem ArgSl.get {L : Lg} {a : AV} {cs : List AV} {n size : Nat} (h : ArgSl L a cs n size) {i : Nat} (hi : i < n) : ∃ b cap, a = .sl (some (b, 0)) n cap 0 ∧ L b = some (.raw (.ro cs)) := by
  obtain ⟨_, ⟨rfl, rfl⟩ | ⟨b, cap, rfl, e⟩⟩ := h
  · omega
  · exact ⟨b, cap, rfl, e⟩
theorem ArgSl.ext {L L' : Lg} {v : AV} {cs : List AV} {n size : Nat} (h : ArgSl L v cs n size) (e : Ext2 L L') : ArgSl L' v cs n size := by
  obtain ⟨h1, h2 | ⟨b, cap, h2, h3⟩⟩ := h
  · exact ⟨h1, .inl h2⟩
  · exact ⟨h1, .inr ⟨b, cap, h2, e b _ h3⟩⟩
def icl (l : List Int) : List AV := l.map fun n => .i .i64 n
/-- a slice of numbers among the arguments -/
theorem AR.ints {H : Type} {enc : TypeId × Value → H} {P : Program} {W : World} {S : St} {β : Bt} {L : Lg} (h : AR W S β L) {t e : TypeId} {v : Value} {d : DataW H} {ps : List MemPlace} (ht : P.underlying t = some (.slice e)) (he : P.underlying e = some (.int .i64)) (hc : P.cellsOf e = 1)
    {base : Nat} (hval : Value.okWide P W .any base t v) (hd : DataW.Trod enc P W 0 (fun _ => true) true t v d ps) :
    ∃ (l : List Int) (S' : St) (β' : Bt) (L' : Lg) (a : AV), AR W S' β' L' ∧ Ext β β' ∧ Ext2 L L' ∧ VR β' a v ∧ ArgSl L' a (icl l) l.length 1 := by
  obtain ⟨a0, len, cap, rfl⟩ := Go.WideShapes.okWide_slice ht hval
  obtain ⟨fuel, hf⟩ := hd
  have hf : DataW.trod enc P W 0 (fun _ => true) true fuel t [.slice a0 len cap] = some (d, ps) := hf
  rcases Go.ChangeShapes.open_ints ht he hc hf with ⟨h0, _⟩ | ⟨a, len', cap', zs, h0, hb, hl, hm, hz, _, hcell, hw⟩
  · cases h0
    exact ⟨[], S, β, L, _, h, Ext.refl β, Ext2.refl L, .sln, by simp [icl], .inl ⟨rfl, rfl⟩⟩
  · cases h0
    have hok : Cell.ok P W .any base t (.slice (some a) len cap) := by
      simp only [Value.okWide, ht, Cell.okWide] at hval
      exact hval
    simp only [Cell.ok, ht] at hok
    obtain ⟨_, _, _, hsp, row, cells, hsh, _⟩ := hok
    obtain ⟨ab, aoff, asp⟩ := a
    simp only at hsp
    subst hsp
    have hsh' : ∃ cur t fr, W.heap[ab]? = some (.cells cur t fr) := by
      unfold World.shape? at hsh
      split at hsh
      · rename_i cur el fr hh; exact ⟨_, _, _, hh⟩
      · cases hsh
    obtain ⟨cur, tt, fr, hh⟩ := hsh'
    have hzl : zs.length = cap := by simpa using hz
    have hcr : CellsR β (icl (zs.take len)) aoff cur := by
      intro i x hx
      unfold icl at hx
      rw [List.getElem?_map] at hx
      simp only [Option.map_eq_some_iff] at hx
      obtain ⟨n, hn, rfl⟩ := hx
      have hi : i < zs.length := by
        have := (List.getElem?_eq_some_iff.1 hn).1
        simp at this; omega
      have := hcell i hi
      refine ⟨.int .i64 n, ?_, .i _ _⟩
      rw [Go.WideShapes.add_plain] at this
      simp only [World.cell?, hh, Option.isSome_none, Bool.false_eq_true, if_false] at this
      rw [this]
      have h5 : zs[i]? = some n := by
        rw [List.getElem?_take] at hn
        split at hn
        · exact hn
        · cases hn
      simp [List.getD, h5]
    have hlen : (zs.take len).length = len := by simp; omega
    refine ⟨zs.take len, _, _, _, .sl (some (S.nx, 0)) len cap 0, h.slice hh hcr, h.ext _, ?_, ?_, ?_⟩
    · exact (Ext2.refl L).put (h.mod.fresh (Nat.le_refl _)) _
    · exact .sl (b := ab) (o := aoff) (z := 0) (by simp [Bt.put]) hl (Nat.le_refl _) (fun _ => rfl) (fun h9 => absurd rfl h9) (.inr (by simp))
    · refine ⟨by simp [icl], .inr ⟨S.nx, cap, by rw [hlen], Lg.put_same _ _ _⟩⟩
end Go.AM

/- slices of numbers of one's own, with room behind them: Index, Clone. -/
set_option linter.unusedVariables false
set_option linter.unusedSimpArgs false
namespace Go.AM
variable {N : Nat → Nat} {F : Nat → Option AFn}
/-- a slice's value, its numbers, and the block it lies in -/
def KSl (v : AV) (l : List Int) (bo : Option Nat) (K : Lg) : Prop := match bo with
  | none => v = .sl none 0 0 0 ∧ l = []
  | some b => ∃ cap sp ex, v = .sl (some (b, 0)) l.length cap ex ∧ K b = some (.raw (.cells (icl l ++ sp))) ∧ l.length + sp.length = cap ∧ (ex = 0 ∨ ex = 1)
theorem icl_length (l : List Int) : (icl l).length = l.length := by simp [icl]
theorem icl_get (l : List Int) (sp : List AV) {i : Nat} (h : i < l.length) : (icl l ++ sp)[i]? = some (.i .i64 l[i]) := by
  rw [List.getElem?_append_left (by simpa [icl] using h)]
  simp [icl, h]
/-- where the first of them is; -1: nowhere -/
def idxI : List Int → Int → Nat → Int
  | [], _, _ => -1
  | y :: r, x, k => if x = y then k else idxI r x (k + 1)
theorem idxI_drop (l : List Int) (x : Int) {i : Nat} (h : i < l.length) : idxI (l.drop i) x i = if x = l[i] then (i : Int) else idxI (l.drop (i + 1)) x (i + 1) := by
  rw [List.drop_eq_getElem_cons h]
  rfl
theorem KSl.len {v : AV} {l : List Int} {bo : Option Nat} {L : Lg} (h : KSl v l bo L) (M : Lg) (k : AV → Lg → Prop) : wpOp F .lenSl [v] M k = k (.i .i64 l.length) M := by
  cases bo with
  | none => obtain ⟨rfl, rfl⟩ := h; simp
  | some b => obtain ⟨cap, sp, ex, rfl, _⟩ := h; simp
theorem index_spec (hf : H_slices_Index_intint N F) {L : Lg} {v : AV} {l : List Int} {bo : Option Nat} (h : KSl v l bo L) (hl : l.length ≤ 1000000) (x : Int) : CallL F (N k_slices_Index_intint) [v, .i .i64 x] L fun r L' => r = .i .i64 (idxI l x 0) ∧ L' = L := by
  refine CallL.opq ?_
  intro Q hQ
  apply r_slices_Index_intint hf.code
  unfold D_slices_Index_intint_1 D_slices_Index_intint_4 D_slices_Index_intint_6
  simp [initE, h.len]
  obtain ⟨I, hI⟩ : ∃ I : Nat → Env → Lg → Prop, I = fun m E K => ∃ i : Nat, m + i = l.length ∧ K = L ∧ idxI (l.drop i) x i = idxI l x 0 ∧ E 0 = v ∧ E 1 = .i .i64 x ∧ E 7 = .i .i64 l.length ∧ E 8 = .i .i64 i := ⟨_, rfl⟩
  refine loopW_intro I l.length ?_ ?_
  · rw [hI]
    exact ⟨0, by omega, rfl, by simp, by simp, by simp, by simp, by simp⟩
  intro m E t K hi
  rw [hI] at hi
  obtain ⟨i, hm, hK, hx, l0, l1, l7, l8⟩ := hi
  subst hK
  unfold D_slices_Index_intint_7
  rw [l0, l1, l7, l8]
  by_cases hin : i < l.length
  · cases bo with
    | none => obtain ⟨rfl, rfl⟩ := h; simp at hin
    | some b =>
      obtain ⟨cap, sp, ex, rfl, hb, _, _⟩ := h
      have ei : (i : Int) < (l.length : Int) := by omega
      have rd : rdL K (b, i) none = some (.i .i64 l[i]) := by rw [rdL_cell hb]; exact icl_get l sp hin
      have w1 : wr .i64 ((i : Int) + 1) = ((i + 1 : Nat) : Int) := by rw [wr_id (by omega) (by omega)]; omega
      rw [idxI_drop l x hin] at hx
      by_cases hq : x = l[i]
      · rw [if_pos hq] at hx
        simp [hin, rd, wp_iad _ _ _ 1 b 0 l.length cap ex .i64 (i : Int) (Int.natCast_nonneg _) ei]
        refine ⟨fun _ => ⟨K, Sees.refl _, hQ _ _ ⟨by rw [hx], rfl⟩⟩, fun h9 => absurd hq h9⟩
      · rw [if_neg hq] at hx
        simp [hin, rd, wp_iad _ _ _ 1 b 0 l.length cap ex .i64 (i : Int) (Int.natCast_nonneg _) ei, w1]
        refine ⟨fun h9 => absurd h9 hq, fun _ => ?_⟩
        rw [hI]
        exact ⟨m - 1, by omega, i + 1, by omega, rfl, hx, by simp [l0], by simp [l1], by simp [l7], by simp⟩
  · have hil : i = l.length := by omega
    subst hil
    simp at hx
    simp
    unfold D_slices_Index_intint_3
    exact ⟨K, Sees.refl _, hQ _ _ ⟨by rw [← hx]; rfl, rfl⟩⟩
theorem icl_one (l : List Int) : (icl l).all AV.one = true := by
  rw [List.all_eq_true]
  intro x hx
  simp only [icl, List.mem_map] at hx
  obtain ⟨n, _, rfl⟩ := hx
  rfl
theorem KSl.cells {b cap : Nat} {l : List Int} {sp : List AV} {K : Lg} (hb : K b = some (.raw (.cells (icl l ++ sp)))) : rdCellsL K (some (b, 0)) (l.length * 1) = some (icl l) := by
  have : l.length ≤ (icl l ++ sp).length := by rw [List.length_append, icl_length]; omega
  simp only [rdCellsL, hb, AB.read, cut, ble_nat, Nat.zero_add, Nat.mul_one, this, decide_true, cond_true, List.drop_zero]
  rw [← icl_length l, List.take_left]
theorem clone_spec (hf : H_slices_Clone_intint N F) {L : Lg} {v : AV} {l : List Int} {bo : Option Nat} (h : KSl v l bo L) (hl : l.length ≤ 1000000) : CallL F (N k_slices_Clone_intint) [v] L fun r L' => (l = [] ∧ r = .sl none 0 0 0 ∧ L' = L) ∨ ∃ b ex, L b = none ∧ r = .sl (some (b, 0)) l.length l.length ex ∧ L' = L.put b (.raw (.cells (icl l))) := by
  refine CallL.opq ?_
  intro Q hQ
  apply r_slices_Clone_intint hf.code
  unfold D_slices_Clone_intint_1
  cases bo with
  | none =>
    obtain ⟨rfl, rfl⟩ := h
    simp
    exact ⟨L, Sees.refl _, hQ _ _ (.inl ⟨rfl, rfl, rfl⟩)⟩
  | some b =>
    obtain ⟨cap, sp, ex, rfl, hb, _, _⟩ := h
    simp
    rw [newL_bslice (c := []) _ _ (by simp [reps, fillP]) (by simp)]
    intro b1 hb1
    have nb : b ≠ b1 := by rintro rfl; rw [hb] at hb1; cases hb1
    have hb' : (L.put b1 (.raw (.cells []))) b = some (.raw (.cells (icl l ++ sp))) := by rw [Lg.put_ne _ _ _ nb]; exact hb
    have hr := KSl.cells (cap := cap) hb'
    simp
    by_cases h0 : l.length = 0
    · have hn : l = [] := List.length_eq_zero_iff.1 h0
      subst hn
      simp only [appW, appL, hr, icl_one, true_and]
      simp
      exact ⟨_, Sees.refl _, hQ _ _ (.inr ⟨b1, 0, hb1, rfl, rfl⟩)⟩
    · refine appW_grow (m := l.length) hr (icl_one l) (by omega) (by omega) (old := []) (by simp [rdCellsL, AB.read, cut, ble_nat]) (by simp [goneL]; rfl) ?_
      intro b2 hb2
      have n2 : b2 ≠ b1 := by rintro rfl; simp at hb2
      rw [Lg.put_ne _ _ _ n2] at hb2
      simp
      refine ⟨L.put b2 (.raw (.cells (icl l))), ?_, hQ _ _ (.inr ⟨b2, 1, hb2, rfl, rfl⟩)⟩
      rw [Lg.put_comm _ (Ne.symm n2)]
      refine Ext2.sees ((Ext2.refl _).put ?_ _)
      rw [Lg.put_ne _ _ _ (Ne.symm n2)]; exact hb1
theorem slc3 {s r o len cap ex l h m : Nat} (h1 : l ≤ h) (h2 : h ≤ m) (h3 : m ≤ cap) (h4 : ex = 0 ∨ ex = s) : slcV s true true true [.sl (some (r, o)) len cap ex, .i .i64 (l : Int), .i .i64 (h : Int), .i .i64 (m : Int)] = some (.sl (some (r, o + l * s)) (h - l) (m - l) 0) := by
  show (bif Nat.ble l h && Nat.ble h m && Nat.ble m cap && (Nat.beq ex 0 || Nat.beq ex s) then _ else _) = _
  have : (Nat.beq ex 0 || Nat.beq ex s) = true := by rcases h4 with rfl | rfl <;> simp [beq_nat]
  simp [ble_nat, h1, h2, h3, this]
theorem slc2 {s r o len cap ex l h : Nat} (h1 : l ≤ h) (h2 : h ≤ cap) (h4 : ex = 0 ∨ ex = s) : slcV s true true false [.sl (some (r, o)) len cap ex, .i .i64 (l : Int), .i .i64 (h : Int)] = some (.sl (some (r, o + l * s)) (h - l) (cap - l) ex) := by
  show (bif Nat.ble l h && Nat.ble h cap && Nat.ble cap cap && (Nat.beq ex 0 || Nat.beq ex s) then _ else _) = _
  have : (Nat.beq ex 0 || Nat.beq ex s) = true := by rcases h4 with rfl | rfl <;> simp [beq_nat]
  simp [ble_nat, h1, h2, this]
theorem slcL {s r o len cap ex l : Nat} (h1 : l ≤ len) (h2 : len ≤ cap) (h4 : ex = 0 ∨ ex = s) : slcV s true false false [.sl (some (r, o)) len cap ex, .i .i64 (l : Int)] = some (.sl (some (r, o + l * s)) (len - l) (cap - l) ex) := by
  show (bif Nat.ble l len && Nat.ble len cap && Nat.ble cap cap && (Nat.beq ex 0 || Nat.beq ex s) then _ else _) = _
  have : (Nat.beq ex 0 || Nat.beq ex s) = true := by rcases h4 with rfl | rfl <;> simp [beq_nat]
  simp [ble_nat, h1, h2, this]
theorem appW_zero {L : Lg} {size bytes len cap ex c e r o : Nat} {b : Option (Nat × Nat)} {new : List AV} {k : AV → Lg → Prop} (hr : rdCellsL L b (0 * size) = some new) (h1 : new.all AV.one = true) (hle : len ≤ cap)
    (hk : k (.sl (some (r, o)) len cap ex) L) : appW size bytes L k [.sl (some (r, o)) len cap ex, .sl b 0 c e] := by
  simp only [appW, hr, appL, h1, true_and, Nat.add_zero, hle, if_true]
  exact hk
theorem splice_app (A X vs : List AV) : splice (A ++ X) A.length vs = A ++ vs ++ X.drop vs.length := by
  unfold splice
  rw [List.take_left, ← List.drop_drop, List.drop_left]
/-- one is taken out -/
theorem delete_spec (hf : H_slices_Delete_intint N F) {L : Lg} {v : AV} {l : List Int} {b : Nat} (h : KSl v l (some b) L) (hl : l.length ≤ 1000000) {i : Nat} (hi : i < l.length) : CallL F (N k_slices_Delete_intint) [v, .i .i64 i, .i .i64 ((i : Int) + 1)] L fun r L' => ∃ sp', KSl r (l.eraseIdx i) (some b) L' ∧ L' = L.put b (.raw (.cells (icl (l.eraseIdx i) ++ sp'))) := by
  refine CallL.opq ?_
  intro Q hQ
  apply r_slices_Delete_intint hf.code
  unfold D_slices_Delete_intint_1
  have hlen := h.len (F := F)
  obtain ⟨cap, sp, ex, rfl, hb, hc, he⟩ := h
  have e1 : ((i : Int) + 1) = ((i + 1 : Nat) : Int) := by omega
  rw [e1]
  have s1 := slc3 (s := 1) (r := b) (o := 0) (len := l.length) (cap := cap) (ex := ex) (l := i) (h := i + 1) (m := l.length) (by omega) (by omega) (by omega) he
  have s2 := slc_hi (s := 1) (r := b) (o := 0) (len := l.length) (cap := cap) (ex := ex) (m := i) (j := .i64) (by omega) he
  have s3 := slcL (s := 1) (r := b) (o := 0) (len := l.length) (cap := cap) (ex := ex) (l := i + 1) (by omega) (by omega) he
  have ne : ¬ ((i : Int) = ((i + 1 : Nat) : Int)) := by omega
  simp only [wp_slc, hlen, s1, s2, s3]
  simp [s1, s2, s3]
  refine ⟨fun h9 => absurd h9 (by omega), fun _ => ?_⟩
  obtain ⟨A, hA⟩ : ∃ A, A = icl (l.take i) := ⟨_, rfl⟩
  obtain ⟨B, hB⟩ : ∃ B, B = icl (l.drop (i + 1)) := ⟨_, rfl⟩
  have lA : A.length = i := by rw [hA, icl_length]; simp; omega
  have lB : B.length = l.length - (i + 1) := by rw [hB, icl_length]; simp
  have hcell : icl l ++ sp = A ++ ([AV.i .i64 l[i]] ++ B ++ sp) := by
    have h1 : l = l.take i ++ l[i] :: l.drop (i + 1) := by rw [← List.drop_eq_getElem_cons hi, List.take_append_drop]
    have h2 : icl l = icl (l.take i) ++ ([AV.i .i64 l[i]] ++ icl (l.drop (i + 1))) := by
      have := congrArg icl h1
      rw [this]
      simp only [icl, List.map_append, List.map_cons]
      rfl
    rw [h2, hA, hB]
    simp only [List.append_assoc]
  have her : icl (l.eraseIdx i) = A ++ B := by
    rw [hA, hB, List.eraseIdx_eq_take_drop_succ]
    simp [icl]
  have hel : (l.eraseIdx i).length = l.length - 1 := List.length_eraseIdx_of_lt hi
  rw [hcell] at hb
  have hr : rdCellsL L (some (b, i + 1)) ((l.length - (i + 1)) * 1) = some B := by
    have h1 : (i + 1) + (l.length - (i + 1)) ≤ (A ++ ([AV.i .i64 l[i]] ++ B ++ sp)).length := by simp [lA, lB]; omega
    simp only [rdCellsL, hb, AB.read, cut, ble_nat, Nat.mul_one, h1, decide_true, cond_true]
    rw [show i + 1 = A.length + 1 by omega, ← List.drop_drop, List.drop_left]
    rw [show l.length - (A.length + 1) = B.length by rw [lA, lB]]
    have h3 : A.length + 1 + B.length ≤ A.length + (B.length + sp.length + 1) := by omega
    simp [h3]
  have fin : ∀ M : Lg, M = L.put b (.raw (.cells (A ++ B ++ ([.i .i64 0] ++ sp)))) → fin1 (some (.sl (some (b, 0)) (l.length - 1) cap ex)) Q M := by
    intro M hM
    refine ⟨_, Sees.refl _, hQ _ _ ⟨[.i .i64 0] ++ sp, ⟨cap, [.i .i64 0] ++ sp, ex, by rw [hel], by rw [hM, Lg.put_same, her], by rw [hel]; simp; omega, he⟩, by rw [hM, her]⟩⟩
  have rest : ∀ (M : Lg) (y : AV), M b = some (.raw (.cells (A ++ B ++ ([y] ++ sp)))) → (∀ z, M.put b z = L.put b z) → 
      wpOp F .lenSl [.sl (some (b, 0)) (l.length - 1) cap ex] M fun v8 L8 => retL (slcV 1 true true false [.sl (some (b, 0)) (l.length - 1) cap ex, v8, .i .i64 l.length]) L8 fun v9 L9 => wpOp F (.clr [.i .i64 0]) [v9] L9 fun x L10 => fin1 (some (.sl (some (b, 0)) (l.length - 1) cap ex)) Q L10 := by
    intro M y hM hput
    have s4 := slc2 (s := 1) (r := b) (o := 0) (len := l.length - 1) (cap := cap) (ex := ex) (l := l.length - 1) (h := l.length) (by omega) (by omega) he
    have e5 : l.length - (l.length - 1) = 1 := by omega
    simp [s4, e5, clrW, reps]
    have lAB : (A ++ B).length = l.length - 1 := by simp [lA, lB]; omega
    have hw : wrL M (b, l.length - 1) [.i .i64 0] = some (M.put b (.raw (.cells (A ++ B ++ ([.i .i64 0] ++ sp))))) := by
      have h1 : (l.length - 1) + [AV.i .i64 0].length ≤ (A ++ B ++ ([y] ++ sp)).length := by simp [lA, lB]; omega
      simp only [wrL, hM, h1]
      have h2 := splice_app (A ++ B) ([y] ++ sp) [.i .i64 0]
      rw [lAB] at h2
      rw [h2]
      simp
    rw [hw]
    exact fin _ (hput _)
  by_cases hn : l.length - (i + 1) = 0
  · have hBn : B = [] := List.length_eq_zero_iff.1 (by omega)
    have hi1 : i = l.length - 1 := by omega
    rw [hn] at hr ⊢
    refine appW_zero hr (by simp [hBn]) (by omega) ?_
    have := rest L (.i .i64 l[i]) (by rw [hb, hBn]; simp) (fun z => rfl)
    rw [← hi1] at this
    exact this
  · have hwr : wrL L (b, 0 + i * 1) B = some (L.put b (.raw (.cells (A ++ B ++ ([AV.i .i64 l[i]] ++ B ++ sp).drop B.length)))) := by
      have h1 : i + B.length ≤ (A ++ ([AV.i .i64 l[i]] ++ B ++ sp)).length := by simp [lA, lB]; omega
      have h2 := splice_app A ([AV.i .i64 l[i]] ++ B ++ sp) B
      rw [lA] at h2
      have h3 : B.all AV.one = true := by rw [hB]; exact icl_one _
      simp only [wrL, hb, Nat.zero_add, Nat.mul_one, h1, h3, and_self, if_true, h2]
    have hlast : ∃ y, ([AV.i .i64 l[i]] ++ B ++ sp).drop B.length = [y] ++ sp := by
      have h1 : ([AV.i .i64 l[i]] ++ B).length = B.length + 1 := by simp
      rw [List.drop_append_of_le_length (by omega)]
      have h2 : (([AV.i .i64 l[i]] ++ B).drop B.length).length = 1 := by rw [List.length_drop]; omega
      obtain ⟨y, hy⟩ := List.length_eq_one_iff.1 h2
      exact ⟨y, by rw [hy]⟩
    obtain ⟨y, hy⟩ := hlast
    rw [hy] at hwr
    refine appW_room (m := l.length - (i + 1)) hr (by rw [hB]; exact icl_one _) (by omega) (by omega) hwr ?_
    have hi1 : i + (l.length - (i + 1)) = l.length - 1 := by omega
    rw [hi1]
    exact rest _ y (Lg.put_same _ _ _) (fun z => Lg.put_put _ _ _ _)
theorem icl_snoc (l : List Int) (x : Int) : icl (l ++ [x]) = icl l ++ [AV.i .i64 x] := by simp [icl]
/-- one is put behind -/
theorem KSl.push {K : Lg} {v : AV} {l : List Int} {bo : Option Nat} (h : KSl v l bo K) (hl : l.length ≤ 1000000) {x : Int} {src : Option (Nat × Nat)} {c e : Nat} (hr : rdCellsL K src (1 * 1) = some [.i .i64 x]) {k : AV → Lg → Prop}
    (hk : ∀ w q K', KSl w (l ++ [x]) (some q) K' → (bo = some q ∨ K q = none) → (∀ r, r ≠ q → bo ≠ some r → K' r = K r) → k w K') : appW 1 8 K k [v, .sl src 1 c e] := by
  cases bo with
  | none =>
    obtain ⟨rfl, rfl⟩ := h
    refine appW_grow (m := 1) hr (by simp) (by omega) (by omega) (old := []) (by simp [rdCellsL]) (by simp [goneL]; rfl) ?_
    intro b hb
    refine hk _ b _ ⟨1, [], 1, by simp, by simp [Lg.put_apply, icl], by simp, .inr rfl⟩ (.inr hb) ?_
    intro r hr _
    rw [Lg.put_ne _ _ _ hr]
  | some b =>
    obtain ⟨cap, sp, ex, rfl, hb, hc, he⟩ := h
    by_cases hcap : l.length + 1 ≤ cap
    · have hsp : ∃ y r, sp = y :: r := by
        cases sp with
        | nil => simp at hc; omega
        | cons y r => exact ⟨y, r, rfl⟩
      obtain ⟨y, r, rfl⟩ := hsp
      have hw : wrL K (b, 0 + l.length * 1) [.i .i64 x] = some (K.put b (.raw (.cells (icl (l ++ [x]) ++ r)))) := by
        have h1 : l.length + [AV.i .i64 x].length ≤ (icl l ++ y :: r).length := by simp [icl_length]
        have h2 := splice_app (icl l) (y :: r) [.i .i64 x]
        rw [icl_length] at h2
        simp only [wrL, hb, Nat.zero_add, Nat.mul_one, h1, h2, icl_snoc]
        simp
      refine appW_room (m := 1) hr (by simp) hcap (by omega) hw ?_
      refine hk _ b _ ⟨cap, r, ex, by simp, Lg.put_same _ _ _, by simp at hc ⊢; omega, he⟩ (.inl rfl) ?_
      intro q hq _
      rw [Lg.put_ne _ _ _ hq]
    · have hsp : sp = [] := List.length_eq_zero_iff.1 (by omega)
      subst hsp
      have hg : ∃ M, goneL K (some (b, 0)) ex 1 = some M ∧ (∀ r, r ≠ b → M r = K r) := by
        rcases he with rfl | rfl
        · exact ⟨K, by simp [goneL], fun _ _ => rfl⟩
        · exact ⟨K.del b, by simp [goneL, hb], fun r hr => by rw [Lg.del_apply, if_neg hr]⟩
      obtain ⟨M, hM, hMr⟩ := hg
      refine appW_grow (m := 1) hr (by simp) hcap (by omega) (KSl.cells (cap := cap) hb) hM ?_
      intro q hq
      refine hk _ q _ ⟨l.length + 1, [], 1, by simp, by simp [Lg.put_apply, icl_snoc], by simp, .inr rfl⟩ (.inr hq) ?_
      intro r hr hbr
      rw [Lg.put_ne _ _ _ hr]
      exact hMr r (fun h9 => hbr (by rw [h9]))
end Go.AM


/- chanq: signals: Signal, End. -/
set_option linter.unusedVariables false
set_option linter.unusedSimpArgs false
namespace Go.AM
variable {N : Nat → Nat} {F : Nat → Option AFn} {L : Lg}
def Ch.sg : Ch := ⟨[], 0, [], [], false, true, false⟩
theorem signal_spec (hf : H_chanq_Signal N F) : CallL F (N k_chanq_Signal) [] L fun r L' => ∃ c, L c = none ∧ r = .p (some (c, 0)) ∧ L' = L.put c (.abs (ChanP c .sg)) := by
  apply r_chanq_Signal hf.code
  unfold D_chanq_Signal_1
  refine (chanNew_open hf.chanq_New 0 (by omega)).mono ?_
  rintro _ L1 ⟨c, rg, q1, q2, hc, rfl, h⟩
  have h2 := h.setRoot false true false
  simp [stL_cell h.root]
  exact ⟨_, h2.shut, c, hc, rfl, rfl⟩
theorem wkcells_at : ∀ (ws : List Wk) (i : Nat) (w : Wk), ws[i]? = some w → ((wkcells ws).drop (i * 5)).take 5 = w.cells ∧ i * 5 + 5 ≤ (wkcells ws).length
  | [], i, w, h => by simp at h
  | a :: r, 0, w, h => by simp at h; subst h; simp [wkcells, Wk.cells]
  | a :: r, i + 1, w, h => by
    have := wkcells_at r i w (by simpa using h)
    have e : (i + 1) * 5 = i * 5 + 1 + 1 + 1 + 1 + 1 := by omega
    rw [e]
    simp only [wkcells, Wk.cells, List.cons_append, List.nil_append, List.drop_succ_cons, List.length_cons]
    exact ⟨this.1, by omega⟩
/-- a slice of those who wake, as it may be read -/
def SlK (L : Lg) (s : AV) (ws : List Wk) : Prop := (ws = [] ∧ s = .sl none 0 0 0) ∨ ∃ b ex, s = .sl (some (b, 0)) ws.length ws.length ex ∧ L b = some (.raw (.cells (wkcells ws)))
theorem containsK_spec (hf : H_slices_ContainsFunc_WakeWake N F) {s : AV} {ws : List Wk} (hs : SlK L s ws) (hl : ws.length ≤ 1000000) {f : Nat} {fst cap : List AV} {p : Wk → Bool}
    (hso : ∀ w : Wk, CallL F f (fst ++ (.agg w.cells) :: cap) L fun v L' => v = .b (p w) ∧ L' = L) : CallL F (N k_slices_ContainsFunc_WakeWake) [s, .fn f fst cap] L fun v L' => v = .b (ws.any p) ∧ L' = L := by
  apply r_slices_ContainsFunc_WakeWake hf.code
  unfold D_slices_ContainsFunc_WakeWake_1
  have key : CallL F (N k_slices_IndexFunc_WakeWake) [s, .fn f fst cap] L fun v L' => (∃ i : Int, v = .i .i64 i ∧ (decide (0 ≤ i) = ws.any p)) ∧ L' = L := by
    apply r_slices_IndexFunc_WakeWake hf.slices_IndexFunc_WakeWake.code
    unfold D_slices_IndexFunc_WakeWake_1 D_slices_IndexFunc_WakeWake_4
    obtain ⟨a, cp, ex, hsl⟩ : ∃ a cp ex, s = .sl a ws.length cp ex := by
      rcases hs with ⟨rfl, rfl⟩ | ⟨b, ex, rfl, _⟩
      · exact ⟨none, 0, 0, rfl⟩
      · exact ⟨_, _, _, rfl⟩
    simp [hsl, D_slices_IndexFunc_WakeWake_6]
    refine loopW_intro (fun n l' L' => ∃ i : Nat, i ≤ ws.length ∧ n = ws.length - i ∧ (∀ x, x ∈ ws.take i → p x = false) ∧ L' = L ∧ l' 0 = s ∧ l' 1 = .fn f fst cap ∧ l' 7 = .i .i64 ws.length ∧ l' 8 = .i .i64 i)
      ws.length ⟨0, by omega, by omega, by simp, rfl, by simp [hsl], by simp, by simp, by simp⟩ ?_
    rintro n l' t L' ⟨i, hi, hn, hA, rfl, l0, l1, l7, l8⟩
    unfold D_slices_IndexFunc_WakeWake_7
    rw [l0, l1, l7, l8]
    by_cases hlt : i < ws.length
    · have hne : ws ≠ [] := by rintro rfl; simp at hlt
      rcases hs with ⟨h1, _⟩ | ⟨b, ex, rfl, hL⟩
      · exact absurd h1 hne
      have hw : ws[i]? = some ws[i] := List.getElem?_eq_getElem hlt
      have hat := wkcells_at ws i _ hw
      have e1 : ((i : Int) < (ws.length : Int)) := by omega
      simp [hlt, wp_iad _ _ _ 5 b 0 ws.length ws.length ex .i64 (i : Int) (Int.natCast_nonneg _) e1, rdL, AB.read, look, hL, cut, ble_nat, hat.2, hat.1]
      refine (hso ws[i]).mono ?_
      rintro _ L2 ⟨rfl, rfl⟩
      rw [condW_bool]
      refine ⟨fun hp => ?_, fun hp => ?_⟩
      · simp
        have : ws.any p = true := List.any_eq_true.2 ⟨ws[i], List.getElem_mem _, hp⟩
        simpa using this
      · have e2 : wr .i64 ((i : Int) + 1) = ((i + 1 : Nat) : Int) := by rw [wr_id (by omega) (by omega)]; omega
        simp
        refine ⟨ws.length - (i + 1), by omega, i + 1, by omega, rfl, ?_, l0, l1, l7, e2⟩
        intro x hx
        rw [List.take_add_one, hw] at hx
        rcases List.mem_append.1 hx with hx | hx
        · exact hA x hx
        · simp at hx; rw [hx]; exact hp
    · have e1 : ¬ ((i : Int) < (ws.length : Int)) := by omega
      have e2 : i = ws.length := by omega
      simp [hlt, D_slices_IndexFunc_WakeWake_3]
      rw [e2, List.take_length] at hA
      simpa using hA
  refine key.mono ?_
  rintro _ _ ⟨⟨i, rfl, hi⟩, rfl⟩
  simp [← hi]
theorem wkcells_append : ∀ (a b : List Wk), wkcells (a ++ b) = wkcells a ++ wkcells b
  | [], _ => rfl
  | w :: r, b => by simp [wkcells, wkcells_append r b]
theorem COpen.keep {c rg q1 q2 : Nat} {x : Ch} {K K' : Lg} (h : COpen L c x rg q1 q2 K) (e : ∀ r, (r = c ∨ r = rg ∨ r = q1 ∨ r = q2 ∨ L r ≠ (Option.none : Option LC)) → K' r = K r) : COpen L c x rg q1 q2 K' :=
  ⟨h.n1, h.n2, h.n3, h.n4, h.n5, h.n6, by rw [e c (.inl rfl)]; exact h.root, by rw [e rg (.inr (.inl rfl))]; exact h.ring, by rw [e q1 (.inr (.inr (.inl rfl)))]; exact h.rcv, by rw [e q2 (.inr (.inr (.inr (.inl rfl))))]; exact h.snd,
    fun b d h1 h2 h3 h4 hd => by rw [e b (.inr (.inr (.inr (.inr (by rw [hd]; simp)))))]; exact h.old b d h1 h2 h3 h4 hd, h.f1, h.f2, h.f3⟩
theorem OwnSl.slK {v : AV} {acc : List Wk} {K : Lg} (h : OwnSl K v (wkcells acc) acc.length 5) : SlK K v acc := by
  rcases h with ⟨h1, h2, h3⟩ | ⟨b, h1, h2, h3, h4⟩
  · exact .inl ⟨List.length_eq_zero_iff.1 h1, h3⟩
  · exact .inr ⟨b, 5, h2, h3⟩
section
variable {c rg q1 q2 : Nat} {x : Ch} {K : Lg} {Q : AV → Lg → Prop}
/-- a slice of wakes of one's own, apart from a channel and from what was -/
structure EI (L : Lg) (c rg q1 q2 : Nat) (x : Ch) (acc : List Wk) (v : AV) (K : Lg) : Prop where
  op : COpen L c x rg q1 q2 K
  own : OwnSl K v (wkcells acc) acc.length 5
  ap : ∀ b, slB v = some b → b ≠ c ∧ b ≠ rg ∧ b ≠ q1 ∧ b ≠ q2 ∧ L b = Option.none
theorem EI.junk {acc : List Wk} {v : AV} (h : EI L c rg q1 q2 x acc v K) {a : Nat} (ha : K a = Option.none) (z : LC) : EI L c rg q1 q2 x acc v (K.put a z) := by
  refine ⟨h.op.ext ((Ext2.refl _).put ha _), ?_, h.ap⟩
  rcases h.own with h1 | ⟨b, h1, h2, h3, h4⟩
  · exact .inl h1
  · have hn : b ≠ a := by
      rintro rfl
      rw [ha] at h3; cases h3
    exact .inr ⟨b, h1, h2, by rw [Lg.put_ne _ _ _ hn]; exact h3, h4⟩
theorem EI.setRcv {acc : List Wk} {v : AV} (h : EI L c rg q1 q2 x acc v K) (ws : List Wt) : EI L c rg q1 q2 { x with recvs := ws } acc v (K.put q1 (.abs (QueueP q1 ws))) := by
  refine ⟨h.op.setRcv ws, ?_, h.ap⟩
  rcases h.own with h1 | ⟨b, h1, h2, h3, h4⟩
  · exact .inl h1
  · exact .inr ⟨b, h1, h2, by rw [Lg.put_ne _ _ _ (h.ap b (by rw [h2]; rfl)).2.2.1]; exact h3, h4⟩
theorem EI.push {acc : List Wk} {v : AV} (h : EI L c rg q1 q2 x acc v K) {w : Wk} {src : AV} {b1 : Nat} {ex cp : Nat} (hs : src = .sl (some (b1, 0)) 1 cp ex) (hb : K b1 = some (.raw (.cells w.cells))) (hn : acc.length ≤ 1000000) {k : AV → Lg → Prop}
    (hk : ∀ v' K', EI L c rg q1 q2 x (acc ++ [w]) v' K' → (∀ r d, K r = some d → slB v ≠ some r → K' r = some d) → (∀ b, slB v' = some b → K b = none) → k v' K') : appW 5 32 K k [v, src] := by
  have h1 : w.cells.all AV.one = true := by simp [Wk.cells]
  refine h.own.app (m := 1) (by omega) hs (by omega) (new := w.cells) (by simp [rdCellsL, hb, AB.read, cut, ble_nat, Wk.cells]) (by simp [Wk.cells]) h1 (by omega) ?_
  intro b2 hb2
  have hd : ∀ r d, K r = some d → slB v ≠ some r → ((K.delO (slB v)).put b2 (.raw (.cells (wkcells acc ++ w.cells)))) r = some d := by
    intro r d hr hne
    have n2 : r ≠ b2 := by rintro rfl; rw [hb2] at hr; cases hr
    rw [Lg.put_ne _ _ _ n2]
    cases hh : slB v with
    | none => exact hr
    | some b => rw [hh] at hne; simp only [Lg.delO]; rw [Lg.del_apply, if_neg]; exact hr; intro h9; exact hne (by rw [h9])
  have hkeep : ∀ r, (r = c ∨ r = rg ∨ r = q1 ∨ r = q2 ∨ L r ≠ (Option.none : Option LC)) → ((K.delO (slB v)).put b2 (.raw (.cells (wkcells acc ++ w.cells)))) r = K r := by
    intro r hr
    have hne : slB v ≠ some r := by
      intro h9
      have := h.ap r h9
      rcases hr with h8 | h8 | h8 | h8 | h8
      · exact this.1 h8
      · exact this.2.1 h8
      · exact this.2.2.1 h8
      · exact this.2.2.2.1 h8
      · exact h8 this.2.2.2.2
    have hex : ∃ d, K r = some d := by
      rcases hr with rfl | rfl | rfl | rfl | h8
      · exact ⟨_, h.op.root⟩
      · exact ⟨_, h.op.ring⟩
      · exact ⟨_, h.op.rcv⟩
      · exact ⟨_, h.op.snd⟩
      · cases hL : L r with
        | none => exact absurd hL h8
        | some d =>
          by_cases e1 : r = c
          · subst e1; exact ⟨_, h.op.root⟩
          by_cases e2 : r = rg
          · subst e2; exact ⟨_, h.op.ring⟩
          by_cases e3 : r = q1
          · subst e3; exact ⟨_, h.op.rcv⟩
          by_cases e4 : r = q2
          · subst e4; exact ⟨_, h.op.snd⟩
          exact ⟨d, h.op.old r d e1 e2 e3 e4 hL⟩
    obtain ⟨d, hd1⟩ := hex
    rw [hd1]; exact hd r d hd1 hne
  have hw : wkcells acc ++ w.cells = wkcells (acc ++ [w]) := by rw [wkcells_append]; simp [wkcells]
  refine hk _ _ ⟨h.op.keep hkeep, ?_, ?_⟩ hd (fun b h9 => by simp [slB] at h9; subst h9; exact hb2)
  · have := h.own.of_app (m := 1) (b := b2) (new := w.cells) (by omega) (by simp [Wk.cells])
    rw [hw] at this
    rw [hw]
    simpa using this
  · intro b hb'
    simp [slB] at hb'
    subst hb'
    have nk : ∀ {y : Nat} {k : LC}, K y = some k → b2 ≠ y := fun hx hxr => by rw [← hxr, hb2] at hx; cases hx
    exact ⟨nk h.op.root, nk h.op.ring, nk h.op.rcv, nk h.op.snd, (h.op.none hb2).2⟩
end
end Go.AM


/- a row's arguments: slices of structs of scalars. -/
set_option linter.unusedVariables false
namespace Go.AM
open Go.RowKit
theorem flat_get {X : Type} {f : X → List AV} {z : Nat} : ∀ (l : List X), (∀ x ∈ l, (f x).length = z) → ∀ (k : Nat) (v : AV), (l.flatMap f)[k]? = some v → ∃ i j x, l[i]? = some x ∧ (f x)[j]? = some v ∧ k = i * z + j
  | [], _, k, v, h => by simp at h
  | y :: r, hz, k, v, h => by
    have hy := hz y (by simp)
    rw [List.flatMap_cons] at h
    by_cases hk : k < z
    · rw [List.getElem?_append_left (by omega)] at h
      exact ⟨0, k, y, rfl, h, by omega⟩
    · rw [List.getElem?_append_right (by omega), hy] at h
      obtain ⟨i, j, x, h1, h2, h3⟩ := flat_get r (fun x hx => hz x (by simp [hx])) (k - z) v h
      exact ⟨i + 1, j, x, by simpa using h1, h2, by rw [Nat.add_mul]; omega⟩
theorem flat_len {X : Type} {f : X → List AV} {z : Nat} : ∀ (l : List X), (∀ x ∈ l, (f x).length = z) → (l.flatMap f).length = l.length * z
  | [], _ => by simp
  | y :: r, hz => by
    rw [List.flatMap_cons, List.length_append, hz y (by simp), flat_len r (fun x hx => hz x (by simp [hx])), List.length_cons, Nat.add_mul]
    omega
/-- a slice of what is open by f -/
theorem AR.rows {X : Type} [Inhabited X] (f : X → List AV) {z : Nat} {H : Type} {enc : TypeId × Value → H} {P : Program} {W : World} {S : St} {β : Bt} {L : Lg} (h : AR W S β L) {t e : TypeId} {v : Value} {d : DataW H} {ps : List MemPlace} (ht : P.underlying t = some (.slice e)) (hc : P.cellsOf e = z) (hfz : ∀ x, (f x).length = z)
    (hX : ∀ n cs y, DataW.trod enc P W 0 (fun _ => true) true n e cs = some y → ∃ x, VRs (fun _ => none) (f x) cs) {base : Nat} (hval : Value.okWide P W .any base t v) (hd : DataW.Trod enc P W 0 (fun _ => true) true t v d ps) :
    ∃ (l : List X) (S' : St) (β' : Bt) (L' : Lg) (a : AV), AR W S' β' L' ∧ Ext β β' ∧ Ext2 L L' ∧ VR β' a v ∧ ArgSl L' a (l.flatMap f) l.length z := by
  obtain ⟨a0, len, cap, rfl⟩ := Go.WideShapes.okWide_slice ht hval
  obtain ⟨fuel, hf⟩ := hd
  have hf : DataW.trod enc P W 0 (fun _ => true) true fuel t [.slice a0 len cap] = some (d, ps) := hf
  rcases DataW.trod_slice ht hf with ⟨h0, _⟩ | ⟨a, len', cap', elems, rest, n, _, h0, _, hb, hl, hm, hlen, hel, _, _⟩
  · cases h0
    exact ⟨[], S, β, L, _, h, Ext.refl β, Ext2.refl L, .sln, by simp, .inl ⟨rfl, rfl⟩⟩
  · cases h0
    have hok : Cell.ok P W .any base t (.slice (some a) len cap) := by
      simp only [Value.okWide, ht, Cell.okWide] at hval
      exact hval
    simp only [Cell.ok, ht] at hok
    obtain ⟨_, _, _, hsp, row, cells, hsh, _⟩ := hok
    obtain ⟨ab, aoff, asp⟩ := a
    simp only at hsp
    subst hsp
    have hsh' : ∃ cur t fr, W.heap[ab]? = some (.cells cur t fr) := by
      unfold World.shape? at hsh
      split at hsh
      · rename_i cur el fr hh; exact ⟨_, _, _, hh⟩
      · cases hsh
    obtain ⟨cur, tt, fr, hh⟩ := hsh'
    have hx : ∀ i, ∃ x : X, i < len → ∀ (j : Nat) (u : AV), (f x)[j]? = some u → ∃ w, cur[aoff + (i * z + j)]? = some w ∧ VR (fun _ => none) u w := by
      intro i
      by_cases hi : i < len
      · have h1 := hel i hi
        have h2 : ∃ y, elems[i]? = some y := ⟨_, List.getElem?_eq_getElem (by omega)⟩
        obtain ⟨y, hy⟩ := h2
        rw [hy, Option.bind_eq_some_iff] at h1
        obtain ⟨cs, hcs, hty⟩ := h1
        obtain ⟨x, hxv⟩ := hX _ _ _ hty
        refine ⟨x, fun _ j u hu => ?_⟩
        obtain ⟨w, hw, hr⟩ := hxv.get hu
        refine ⟨w, ?_, hr⟩
        unfold World.cells? at hcs
        rw [if_pos (by omega)] at hcs
        have hjz : j < z := by have := (List.getElem?_eq_some_iff.1 hu).1; rw [hfz] at this; exact this
        have := mapM_some_get hcs j j (by simp [hc, hjz])
        rw [hw, hc, Go.WideShapes.add_plain, Go.WideShapes.add_plain] at this
        simp only [World.cell?, hh, Option.isSome_none, Bool.false_eq_true, if_false] at this
        rw [← this, Nat.add_assoc]
      · exact ⟨default, fun h9 => absurd h9 hi⟩
    obtain ⟨g, hg⟩ := Classical.axiomOfChoice hx
    have hall : ∀ x ∈ (List.range len).map g, (f x).length = z := fun x _ => hfz x
    have hcr : CellsR β (((List.range len).map g).flatMap f) aoff cur := by
      intro k u hu
      obtain ⟨i, j, x, h1, h2, h3⟩ := flat_get _ hall k u hu
      rw [List.getElem?_map] at h1
      simp only [Option.map_eq_some_iff] at h1
      obtain ⟨i', h4, h5⟩ := h1
      have hi : i < len ∧ i' = i := by
        have h6 := List.getElem?_eq_some_iff.1 h4
        obtain ⟨h7, h8⟩ := h6
        simp at h7 h8
        exact ⟨h7, h8.symm⟩
      obtain ⟨hi, rfl⟩ := hi
      subst h5
      obtain ⟨w, hw, hr⟩ := hg i' hi j u h2
      rw [h3]
      exact ⟨w, hw, hr.mono (fun _ _ h9 => by cases h9)⟩
    have hlen2 : ((List.range len).map g).length = len := by simp
    refine ⟨(List.range len).map g, _, _, _, .sl (some (S.nx, 0)) len cap 0, h.slice hh hcr, h.ext _, ?_, ?_, ?_⟩
    · exact (Ext2.refl L).put (h.mod.fresh (Nat.le_refl _)) _
    · exact .sl (b := ab) (o := aoff) (z := 0) (by simp [Bt.put]) hl (Nat.le_refl _) (fun _ => rfl) (fun h9 => absurd rfl h9) (.inr (by simp))
    · exact ⟨flat_len _ hall, .inr ⟨S.nx, cap, by rw [hlen2], Lg.put_same _ _ _⟩⟩
/-- a struct of three numbers -/
def t3 (x : Int × Int × Int) : List AV := [.i .i64 x.1, .i .i64 x.2.1, .i .i64 x.2.2]
def tcl (l : List (Int × Int × Int)) : List AV := l.flatMap t3
theorem open_t3 {H : Type} {enc : TypeId × Value → H} {P : Program} {W : World} {e ti : TypeId} {fs : Array Field} (he : P.underlying e = some (.struct fs)) (h3 : fs.size = 3) (hfs : ∀ (i : Nat) (f : Field), fs[i]? = some f → f.offset = i ∧ f.type = ti) (hi : P.underlying ti = some (.int .i64)) (hc1 : P.cellsOf ti = 1) (hc3 : P.cellsOf e = 3)
    (n : Nat) (cs : List Value) (y : DataW H × List MemPlace) (h : DataW.trod enc P W 0 (fun _ => true) true n e cs = some y) : ∃ x, VRs (fun _ => none) (t3 x) cs := by
  obtain ⟨xs, m, _, _, hl, hxl, hf⟩ := DataW.trod_struct he h
  rw [hc3] at hl
  match cs, hl with
  | [c0, c1, c2], _ =>
    have one : ∀ i, i < 3 → ∃ k, ([c0, c1, c2].drop i).take 1 = [.int .i64 k] := by
      intro i hi3
      have h5 : ∃ f, fs[i]? = some f := ⟨_, Array.getElem?_eq_getElem (by omega)⟩
      obtain ⟨f, hfi⟩ := h5
      have h6 := hf i f hfi
      obtain ⟨o1, o2⟩ := hfs i f hfi
      rw [o1, o2, hc1] at h6
      have h7 : ∃ y, xs[i]? = some y := ⟨_, List.getElem?_eq_getElem (by omega)⟩
      obtain ⟨y', hy'⟩ := h7
      rw [hy'] at h6
      obtain ⟨k, hk, _⟩ := DataW.trod_int hi h6
      exact ⟨k, hk⟩
    obtain ⟨k0, e0⟩ := one 0 (by omega)
    obtain ⟨k1, e1⟩ := one 1 (by omega)
    obtain ⟨k2, e2⟩ := one 2 (by omega)
    simp at e0 e1 e2
    subst e0 e1 e2
    exact ⟨(k0, k1, k2), .cons (.i _ _) (.cons (.i _ _) (.cons (.i _ _) .nil))⟩
theorem AR.acts {H : Type} {enc : TypeId × Value → H} {P : Program} {W : World} {S : St} {β : Bt} {L : Lg} (h : AR W S β L) {t e ti : TypeId} {fs : Array Field} {v : Value} {d : DataW H} {ps : List MemPlace} (ht : P.underlying t = some (.slice e)) (he : P.underlying e = some (.struct fs)) (h3 : fs.size = 3) (hfs : ∀ (i : Nat) (f : Field), fs[i]? = some f → f.offset = i ∧ f.type = ti)
    (hi : P.underlying ti = some (.int .i64)) (hc1 : P.cellsOf ti = 1) (hc3 : P.cellsOf e = 3) {base : Nat} (hval : Value.okWide P W .any base t v) (hd : DataW.Trod enc P W 0 (fun _ => true) true t v d ps) :
    ∃ (l : List (Int × Int × Int)) (S' : St) (β' : Bt) (L' : Lg) (a : AV), AR W S' β' L' ∧ Ext β β' ∧ Ext2 L L' ∧ VR β' a v ∧ ArgSl L' a (tcl l) l.length 3 :=
  h.rows t3 ht hc3 (fun x => rfl) (fun n cs y hy => open_t3 he h3 hfs hi hc1 hc3 n cs y hy) hval hd
def bcl (l : List Bool) : List AV := l.map fun n => .b n
theorem bcl_flat (l : List Bool) : (l.flatMap fun b => [AV.b b]) = bcl l := by
  induction l with
  | nil => rfl
  | cons a r ih => simp only [List.flatMap_cons, ih, bcl, List.map_cons]; rfl
/-- a slice of truths among the arguments -/
theorem AR.bools {H : Type} {enc : TypeId × Value → H} {P : Program} {W : World} {S : St} {β : Bt} {L : Lg} (h : AR W S β L) {t e : TypeId} {v : Value} {d : DataW H} {ps : List MemPlace} (ht : P.underlying t = some (.slice e)) (he : P.underlying e = some .bool) (hc : P.cellsOf e = 1)
    {base : Nat} (hval : Value.okWide P W .any base t v) (hd : DataW.Trod enc P W 0 (fun _ => true) true t v d ps) :
    ∃ (l : List Bool) (S' : St) (β' : Bt) (L' : Lg) (a : AV), AR W S' β' L' ∧ Ext β β' ∧ Ext2 L L' ∧ VR β' a v ∧ ArgSl L' a (bcl l) l.length 1 := by
  obtain ⟨l, S', β', L', a, h1, h2, h3, h4, h5⟩ := h.rows (fun b : Bool => [AV.b b]) ht hc (fun _ => rfl) (fun n cs y hy => by
    obtain ⟨b', hb, _⟩ := DataW.trod_bool he hy
    subst hb
    exact ⟨b', .cons (.b _) .nil⟩) hval hd
  rw [bcl_flat] at h5
  exact ⟨l, S', β', L', a, h1, h2, h3, h4, h5⟩
end Go.AM

/- Things, opened: what is hidden at a name lies over all else. -/
set_option linter.unusedVariables false
set_option linter.unusedSimpArgs false
namespace Go.AM
section
variable {M L : Lg} {r b : Nat} {d : LC}
theorem over_put (M L : Lg) (b : Nat) (d : LC) : (M.over L).put b d = (M.put b d).over L := by
  funext m; unfold Lg.put Lg.over; by_cases h : m = b <;> simp [h]
theorem over_putL (h : M b = none) (d : LC) : (M.over L).put b d = M.over (L.put b d) := by
  funext m; unfold Lg.put Lg.over; by_cases hm : m = b
  · subst hm; simp [h]
  · simp [hm]
theorem over_some (h : M b = some d) : (M.over L) b = some d := by simp [Lg.over, h]
theorem over_skip (h : M b = none) : (M.over L) b = L b := by simp [Lg.over, h]
theorem over_none : (M.over L) b = none ↔ M b = none ∧ L b = none := by
  unfold Lg.over; cases h : M b <;> simp
theorem over_delO (hL : L b = none) : (M.over L).del b = (M.del b).over L := by
  funext m; unfold Lg.del Lg.over; by_cases h : m = b
  · subst h; simp [hL]
  · simp [h]
theorem over_delL (hM : M b = none) : (M.over L).del b = M.over (L.del b) := by
  funext m; unfold Lg.del Lg.over; by_cases h : m = b
  · subst h; simp [hM]
  · simp [h]
/-- what lies over is not below, but for its root -/
def Apart (M L : Lg) (r : Nat) : Prop := ∀ b, b ≠ r → M b ≠ none → L b = none
theorem Apart.low (h : Apart M L r) (hb : b ≠ r) (e : L b = some d) : M b = none := by
  cases h1 : M b with
  | none => rfl
  | some c => have := h b hb (by rw [h1]; simp); rw [e] at this; cases this
theorem Apart.get (h : Apart M L r) (hb : b ≠ r) (e : L b = some d) : (M.over L) b = some d := by rw [over_skip (h.low hb e)]; exact e
theorem Apart.putL (h : Apart M L r) (hb : M b = none) (d : LC) : Apart M (L.put b d) r := by
  intro c hc hM
  have : c ≠ b := by rintro rfl; exact hM hb
  rw [Lg.put_ne _ _ _ this]; exact h c hc hM
theorem Apart.put (h : Apart M L r) (hb : b = r ∨ L b = none) (d : LC) : Apart (M.put b d) L r := by
  intro c hc hM
  by_cases e : c = b
  · subst e; rcases hb with h1 | h1
    · exact absurd h1 hc
    · exact h1
  · rw [Lg.put_ne _ _ _ e] at hM; exact h c hc hM
theorem Apart.own (h : Apart M L r) (hb : M b ≠ none) (d : LC) : Apart (M.put b d) L r := h.put (by by_cases e : b = r; exact .inl e; exact .inr (h b e hb)) d
theorem Apart.del (h : Apart M L r) (b : Nat) : Apart (M.del b) L r := by
  intro c hc hM
  rw [Lg.del_apply] at hM
  split at hM
  · exact absurd rfl hM
  · exact h c hc hM
theorem Apart.mono {L' : Lg} (h : Apart M L r) (hl : ∀ b, b ≠ r → M b ≠ none → L b = none → L' b = none) : Apart M L' r := fun c hc hM => hl c hc hM (h c hc hM)
def Thing (D : Lg → Prop) (hp : Hp) : Prop := ∃ M, D M ∧ Sat M hp
theorem CallL.openD {F : Nat → Option AFn} {f : Nat} {vs : List AV} {Q : AV → Lg → Prop} {D : Lg → Prop} (e : L r = some (.abs (Thing D))) (hr : ∀ M, D M → M r ≠ none)
    (H : ∀ M, D M → Apart M L r → CallL F f vs (M.over L) Q) : CallL F f vs L Q := by
  apply CallL.opens e
  rintro hm ⟨M, hD, hs⟩
  refine ⟨M, hs, hr M hD, fun hf => H M hD ?_⟩
  intro c hc hM
  cases h1 : M c with
  | none => exact absurd h1 hM
  | some x => exact hf c x h1 hc
theorem Sees.shutD {D : Lg → Prop} (hD : D M) (hr : ∃ cs, M r = some (.raw (.cells cs))) (ha : Apart M L r) : Sees (M.over L) (L.put r (.abs (Thing D))) :=
  Sees.shut (fun b c h hb => ha b hb (by rw [h]; simp)) (.inl hr) fun h hs => ⟨M, hD, hs⟩
theorem Sees.backD {D : Lg → Prop} (hD : D M) (hr : ∃ cs, M r = some (.raw (.cells cs))) (ha : Apart M L r) (e : L r = some (.abs (Thing D))) : Sees (M.over L) L := by
  have := Sees.shutD hD hr ha
  rwa [Lg.put_self L r _ e] at this
/-- another's block is let go -/
theorem Sees.junk {M L : Lg} (hb : L b = none) (d : LC) : Sees (M.over (L.put b d)) (M.over L) := by
  apply Sees.drop
  intro c e hc
  cases h1 : M c with
  | some x => rw [over_some h1] at hc ⊢; exact hc
  | none =>
    rw [over_skip h1] at hc ⊢
    rw [Lg.put_ne _ _ _ (by rintro rfl; rw [hb] at hc; cases hc)]; exact hc
theorem Sees.put {L L' : Lg} (h : ∀ b c, L' b = some c → L b = some c) (r : Nat) (d : LC) : Sees (L.put r d) (L'.put r d) := by
  apply Sees.drop
  intro c e hc
  rw [Lg.put_apply] at hc ⊢
  split
  · rename_i h9; rw [if_pos h9] at hc; exact hc
  · rename_i h9; rw [if_neg h9] at hc; exact h c e hc
end
/-! ### slices of one's own -/
/-- a slice of its own block, full, as it may be read and appended to -/
def OSl (K : Lg) (v : AV) (cs : List AV) (n size : Nat) : Prop :=
  (n = 0 ∧ cs = [] ∧ v = .sl none 0 0 0) ∨ ∃ b ex, 0 < n ∧ v = .sl (some (b, 0)) n n ex ∧ (ex = 0 ∨ ex = size) ∧ K b = some (.raw (.cells cs)) ∧ cs.length = n * size
section
variable {K K' : Lg} {v : AV} {cs : List AV} {n size : Nat}
theorem OSl.nil (K : Lg) (size : Nat) : OSl K (.sl none 0 0 0) [] 0 size := .inl ⟨rfl, rfl, rfl⟩
theorem OSl.mono (h : OSl K v cs n size) (e : ∀ b, slB v = some b → K' b = K b) : OSl K' v cs n size := by
  rcases h with h | ⟨b, ex, h1, h2, h3, h4, h5⟩
  · exact .inl h
  · exact .inr ⟨b, ex, h1, h2, h3, by rw [e b (by rw [h2]; rfl)]; exact h4, h5⟩
theorem OSl.block (h : OSl K v cs n size) {b : Nat} (e : slB v = some b) : K b = some (.raw (.cells cs)) := by
  rcases h with ⟨_, _, h3⟩ | ⟨b', ex, h1, h2, h3, h4, h5⟩
  · rw [h3] at e; cases e
  · rw [h2] at e; simp [slB] at e; subst e; exact h4
theorem OSl.len {F : Nat → Option AFn} (h : OSl K v cs n size) (L : Lg) (k : AV → Lg → Prop) : wpOp F .lenSl [v] L k = k (.i .i64 n) L := by
  rcases h with ⟨h1, _, h3⟩ | ⟨b', ex, h1, h2, h3, h4, h5⟩
  · rw [h3, h1]; simp
  · rw [h2]; simp
theorem OSl.iad {F : Nat → Option AFn} (h : OSl K v cs n size) {x : Int} (h0 : 0 ≤ x) (h1 : x < n) : ∃ b, slB v = some b ∧ K b = some (.raw (.cells cs)) ∧ cs.length = n * size ∧ ∀ (L : Lg) (k : AV → Lg → Prop) (j : IntKind), wpOp F (.iad size) [v, .i j x] L k = k (.p (some (b, x.toNat * size))) L := by
  rcases h with ⟨e1, _, h3⟩ | ⟨b', ex, g1, g2, g3, g4, g5⟩
  · omega
  · refine ⟨b', by rw [g2]; rfl, g4, g5, fun L k j => ?_⟩
    rw [g2, wp_iad F L k size b' 0 n n ex j x h0 h1]
    simp
theorem OSl.one (h : OSl K v cs n size) : v.one = true := by
  rcases h with ⟨_, _, h3⟩ | ⟨b', ex, g1, g2, g3, g4, g5⟩
  · rw [h3]; rfl
  · rw [g2]; rfl
theorem OSl.cellsOf (h : OSl K v cs n size) : v.cellsOf = some [v] := by
  rcases h with ⟨_, _, h3⟩ | ⟨b', ex, g1, g2, g3, g4, g5⟩
  · rw [h3]; rfl
  · rw [g2]; rfl
theorem OSl.rdAll (h : OSl K v cs n size) : ∃ a ex, v = .sl a n n ex ∧ rdCellsL K a (n * size) = some cs ∧ (n = 0 → ex = 0) := by
  rcases h with ⟨h1, h2, h3⟩ | ⟨b', ex, g1, g2, g3, g4, g5⟩
  · exact ⟨none, 0, by rw [h3, h1], by simp [rdCellsL, h1, h2], fun _ => rfl⟩
  · refine ⟨_, ex, g2, ?_, fun h => by omega⟩
    simp only [rdCellsL, g4, AB.read, cut, ble_nat, Nat.zero_add, g5, Nat.le_refl, decide_true, cond_true, List.drop_zero]
    rw [← g5, List.take_length]
/-- K1 is K, but that a slice's block may be gone and another has come -/
structure Grown (K : Lg) (v : AV) (b : Nat) (cs : List AV) (K1 : Lg) : Prop where
  fresh : K b = none
  now : K1 b = some (.raw (.cells cs))
  same : ∀ r, r ≠ b → slB v ≠ some r → K1 r = K r
  gone : ∀ r, r ≠ b → K1 r = none ∨ K1 r = K r
/-- a slice is appended to: it has another block then -/
theorem OSl.app {bytes m : Nat} {src : AV} {new : List AV} (h : OSl K v cs n size) (hsz : 0 < size) {a : Option (Nat × Nat)} {c e : Nat} (hs : src = .sl a m c e) (hm : 0 < m) (hr : rdCellsL K a (m * size) = some new) (hn : new.length = m * size) (h1 : new.all AV.one = true)
    (hb : (n + m) * bytes ≤ 70368744177664) {k : AV → Lg → Prop} (hk : ∀ b K1, Grown K v b (cs ++ new) K1 → OSl K1 (.sl (some (b, 0)) (n + m) (n + m) size) (cs ++ new) (n + m) size → k (.sl (some (b, 0)) (n + m) (n + m) size) K1) : appW size bytes K k [v, src] := by
  subst hs
  obtain ⟨av, ex, hv, hrd, hz⟩ := h.rdAll
  have hlen : cs.length = n * size := by
    rcases h with ⟨h1, h2, h3⟩ | ⟨b', ex, g1, g2, g3, g4, g5⟩
    · simp [h1, h2]
    · exact g5
  have key : ∀ K1 : Lg, (K1 = K ∨ ∃ q, slB v = some q ∧ K1 = K.del q) → goneL K av ex size = some K1 → appW size bytes K k [v, .sl a m c e] := by
    intro K1 hK1 hg
    rw [hv]
    refine appW_grow (L' := K1) hr h1 (by omega) hb hrd hg ?_
    intro b hbn
    refine hk b _ ⟨hbn, Lg.put_same _ _ _, ?_, ?_⟩ (.inr ⟨b, size, by omega, rfl, .inr rfl, Lg.put_same _ _ _, by simp [hlen, hn, Nat.add_mul]⟩)
    · intro r hr hq
      rw [Lg.put_ne _ _ _ hr]
      rcases hK1 with rfl | ⟨q, hq1, rfl⟩
      · rfl
      · rw [Lg.del_apply, if_neg]; rintro rfl; exact hq hq1
    · intro r hr
      rw [Lg.put_ne _ _ _ hr]
      rcases hK1 with rfl | ⟨q, hq1, rfl⟩
      · exact .inr rfl
      · rw [Lg.del_apply]; split
        · exact .inl rfl
        · exact .inr rfl
  rcases h with ⟨h1, h2, h3⟩ | ⟨b', ex', g1, g2, g3, g4, g5⟩
  · have : ex = 0 := hz h1
    exact key K (.inl rfl) (by rw [this]; simp [goneL])
  · have hv2 := hv
    rw [g2] at hv2
    cases hv2
    rcases g3 with g3 | g3
    · exact key K (.inl rfl) (by simp [goneL, g3])
    · refine key (K.del b') (.inr ⟨b', by rw [g2]; rfl, rfl⟩) ?_
      have : ¬ size = 0 := by omega
      simp [goneL, this, g4, g3]
theorem OSl.app0 {bytes : Nat} {src : AV} (h : OSl K v cs n size) {a : Option (Nat × Nat)} {c e : Nat} (hs : src = .sl a 0 c e) (hr : rdCellsL K a 0 = some []) {k : AV → Lg → Prop} (hk : k v K) : appW size bytes K k [v, src] := by
  subst hs
  rcases h with ⟨h1, h2, h3⟩ | ⟨b', ex', g1, g2, g3, g4, g5⟩
  · rw [h3]; rw [h3] at hk
    simp only [appW, Nat.zero_mul, hr, appL]
    simpa using hk
  · rw [g2]; rw [g2] at hk
    simp only [appW, Nat.zero_mul, hr, appL]
    simpa using hk
end
/-- the cells of structs in a row -/
def flatc {α : Type} (f : α → List AV) : List α → List AV
  | [] => []
  | x :: r => f x ++ flatc f r
section
variable {α : Type} {f : α → List AV} {k : Nat}
theorem flatc_append : ∀ (a b : List α), flatc f (a ++ b) = flatc f a ++ flatc f b
  | [], _ => rfl
  | x :: r, b => by simp [flatc, flatc_append r b]
theorem flatc_length (hf : ∀ x, (f x).length = k) : ∀ (a : List α), (flatc f a).length = a.length * k
  | [] => by simp [flatc]
  | x :: r => by
    simp only [flatc, List.length_append, hf, flatc_length hf r, List.length_cons, Nat.add_mul, Nat.one_mul]; omega
theorem flatc_one (h1 : ∀ x, (f x).all AV.one = true) : ∀ (a : List α), (flatc f a).all AV.one = true
  | [] => rfl
  | x :: r => by simp [flatc, List.all_append, h1, flatc_one h1 r]
theorem flatc_at (hf : ∀ x, (f x).length = k) : ∀ (l : List α) (i : Nat) (x : α), l[i]? = some x → ((flatc f l).drop (i * k)).take k = f x ∧ i * k + k ≤ (flatc f l).length
  | [], i, x, h => by simp at h
  | a :: r, 0, x, h => by
    simp at h; subst h
    have := hf a
    simp only [flatc, Nat.zero_mul, List.drop_zero, List.length_append, this, Nat.zero_add]
    exact ⟨by rw [← this, List.take_left], by omega⟩
  | a :: r, i + 1, x, h => by
    have := flatc_at hf r i x (by simpa using h)
    have e : (i + 1) * k = (f a).length + i * k := by rw [hf, Nat.add_mul]; omega
    rw [e]
    simp only [flatc, List.length_append]
    rw [← List.drop_drop, List.drop_left]
    exact ⟨this.1, by omega⟩
theorem flatc_get (hf : ∀ x, (f x).length = k) (l : List α) (i j : Nat) (x : α) (h : l[i]? = some x) (hj : j < k) : (flatc f l)[i * k + j]? = (f x)[j]? := by
  have h1 := flatc_at hf l i x h
  rw [← h1.1, List.getElem?_take_of_lt hj, List.getElem?_drop]
theorem flatc_setc (hf : ∀ x, (f x).length = k) : ∀ (l : List α) (i : Nat) (x y : α) (j : Nat) (v : AV), l[i]? = some x → j < k → (f x).set j v = f y → (flatc f l).set (i * k + j) v = flatc f (l.set i y)
  | [], i, x, y, j, v, h, _, _ => by simp at h
  | a :: r, 0, x, y, j, v, h, hj, e => by
    simp at h; subst h
    have := hf a
    simp only [flatc, Nat.zero_mul, Nat.zero_add, List.set_cons_zero]
    rw [List.set_append_left _ _ (by omega), e]
  | a :: r, i + 1, x, y, j, v, h, hj, e => by
    have := flatc_setc hf r i x y j v (by simpa using h) hj e
    have e2 : (i + 1) * k + j = (f a).length + (i * k + j) := by rw [hf, Nat.add_mul]; omega
    rw [e2]
    simp only [flatc, List.set_cons_succ]
    rw [List.set_append_right _ _ (by omega), Nat.add_sub_cancel_left, this]
end
end Go.AM

/- chanq: end, End, Closed: a channel is closed, and all wake. -/
set_option linter.unusedVariables false
set_option linter.unusedSimpArgs false
namespace Go.AM
variable {N : Nat → Nat} {F : Nat → Option AFn}
def wakeP (p : Bool) (acc : List Wk) (w : Wt) : List Wk := if (acc.any fun y => decide (y.t = w.t)) = true then acc else acc ++ [⟨w.t, w.c, 0, false, p⟩]
def Ch.wakes (x : Ch) : List Wk := x.sends.foldl (wakeP true) (x.recvs.foldl (wakeP false) [])
def Ch.ended (x : Ch) : Ch := { x with recvs := [], sends := [], closed := true }
section
variable {L K : Lg} {c rg q1 q2 : Nat} {x : Ch} {Q : AV → Lg → Prop}
theorem end1_spec (hf : H_chanq_Chan_end_1 N F) {K : Lg} {b5 : Nat} {w : Wt} (hb : K b5 = some (.raw (.cells w.cells))) (y : Wk) :
    CallL F (N k_chanq_Chan_end_1) ([] ++ (.agg y.cells) :: [.p (some (b5, 0))]) K fun v L' => v = .b (decide (y.t = w.t)) ∧ L' = K := by
  refine CallL.opq ?_
  intro Q hQ
  apply r_chanq_Chan_end_1 hf.code
  unfold D_chanq_Chan_end_1_1
  simp
  rw [newL_box_agg _ _ _ (by simp [Wk.cells])]
  intro b hb1
  have hn : b5 ≠ b := by rintro rfl; rw [hb] at hb1; cases hb1
  have h1 : rdL (K.put b (.raw (.cells y.cells))) (b, 0) none = some (.i .i64 y.t) := by rw [rdL_cell (Lg.put_same _ _ _)]; rfl
  have h2 : rdL (K.put b (.raw (.cells y.cells))) (b5, 0) none = some (.i .i64 w.t) := by rw [rdL_cell (by rw [Lg.put_ne _ _ _ hn]; exact hb)]; rfl
  simp [h1, h2]
  exact ⟨_, (((Ext2.refl K).put hb1 _).sees), hQ _ _ ⟨rfl, rfl⟩⟩
theorem EI.keep {acc : List Wk} {v : AV} (h : EI L c rg q1 q2 x acc v K) {K' : Lg} (e : ∀ r, (r = c ∨ r = rg ∨ r = q1 ∨ r = q2 ∨ L r ≠ (Option.none : Option LC) ∨ slB v = some r) → K' r = K r) : EI L c rg q1 q2 x acc v K' := by
  refine ⟨h.op.keep fun r hr => e r (by rcases hr with h | h | h | h | h <;> simp [h]), ?_, h.ap⟩
  rcases h.own with h1 | ⟨b, h1, h2, h3, h4⟩
  · exact .inl h1
  · exact .inr ⟨b, h1, h2, by rw [e b (by simp [h2, slB])]; exact h3, h4⟩
theorem EI.setSnd {acc : List Wk} {v : AV} (h : EI L c rg q1 q2 x acc v K) (ws : List Wt) : EI L c rg q1 q2 { x with sends := ws } acc v (K.put q2 (.abs (QueueP q2 ws))) := by
  refine ⟨h.op.setSnd ws, ?_, h.ap⟩
  rcases h.own with h1 | ⟨b, h1, h2, h3, h4⟩
  · exact .inl h1
  · exact .inr ⟨b, h1, h2, by rw [Lg.put_ne _ _ _ (h.ap b (by rw [h2]; rfl)).2.2.2.1]; exact h3, h4⟩
/-- a channel with what is left in one of its queues -/
def Ch.rest (x : Ch) (p : Bool) (ws : List Wt) : Ch := if p = true then { x with sends := ws } else { x with recvs := ws }
def qOf (q1 q2 : Nat) (p : Bool) : Nat := if p = true then q2 else q1
theorem EI.setQ {acc : List Wk} {v : AV} {p : Bool} {ws0 : List Wt} (h : EI L c rg q1 q2 (x.rest p ws0) acc v K) (ws : List Wt) : EI L c rg q1 q2 (x.rest p ws) acc v (K.put (qOf q1 q2 p) (.abs (QueueP (qOf q1 q2 p) ws))) := by
  cases p
  · exact h.setRcv ws
  · exact h.setSnd ws
theorem EI.getQ {acc : List Wk} {v : AV} {p : Bool} {ws : List Wt} (h : EI L c rg q1 q2 (x.rest p ws) acc v K) : K (qOf q1 q2 p) = some (.abs (QueueP (qOf q1 q2 p) ws)) := by
  cases p
  · exact h.op.rcv
  · exact h.op.snd
/-- where the loop stands: who is next, those behind it in the queue -/
structure EL (L : Lg) (c rg q1 q2 : Nat) (x : Ch) (p : Bool) (bq : Nat) (cq : LC) (todo : List Wt) (acc : List Wk) (E : Env) (K : Lg) : Prop where
  ei : EI L c rg q1 q2 (x.rest p todo.tail) acc (E 2) K
  l0 : E 0 = .p (some (c, 0))
  l4 : E 4 = .p (some (qOf q1 q2 p, 0))
  l6 : E 6 = .b (!todo.isEmpty)
  l5 : ∃ b5, E 5 = .p (some (b5, 0)) ∧ slB (E 2) ≠ some b5 ∧ (∀ w r, todo = w :: r → K b5 = some (.raw (.cells w.cells)))
  bq0 : K bq = some cq
  bq1 : bq ≠ c ∧ bq ≠ rg ∧ bq ≠ q1 ∧ bq ≠ q2 ∧ slB (E 2) ≠ some bq
theorem pop_next (hf : H_wait_Queue_Pop N F) {p : Bool} {bq : Nat} {cq : LC} {ws : List Wt} {acc : List Wk} {E : Env} (ei : EI L c rg q1 q2 (x.rest p ws) acc (E 2) K) (l0 : E 0 = .p (some (c, 0))) (l4 : E 4 = .p (some (qOf q1 q2 p, 0)))
    (b0 : K bq = some cq) (b1 : bq ≠ c ∧ bq ≠ rg ∧ bq ≠ q1 ∧ bq ≠ q2 ∧ slB (E 2) ≠ some bq) {b5 : Nat} (k5 : ∃ cs, K b5 = some (.raw (.cells cs)) ∧ cs.length = 3) (hn5 : slB (E 2) ≠ some b5 ∧ b5 ≠ c ∧ b5 ≠ rg ∧ b5 ≠ q1 ∧ b5 ≠ q2 ∧ L b5 = Option.none ∧ b5 ≠ bq) (h5 : E 5 = .p (some (b5, 0))) {k : AV → Lg → Prop}
    (hk : ∀ (w : Wt) (K' : Lg), K' b5 = K b5 → (∀ E', E' 0 = E 0 → E' 2 = E 2 → E' 4 = E 4 → E' 5 = E 5 → E' 6 = .b (!ws.isEmpty) → EL L c rg q1 q2 x p bq cq ws acc E' (K'.put b5 (.raw (.cells w.cells)))) → k (.tup [w.av, .b (!ws.isEmpty)]) K') : CallL F (N k_wait_Queue_Pop) [.p (some (qOf q1 q2 p, 0))] K k := by
  refine (queuePop_spec hf ei.getQ).mono ?_
  intro v K' hv
  have q5 : b5 ≠ qOf q1 q2 p := by cases p <;> simp [qOf, hn5]
  cases ws with
  | nil =>
    obtain ⟨rfl, rfl⟩ := hv
    refine hk Wt.zero K' rfl ?_
    intro E' e0 e2 e4 e5 e6
    refine ⟨?_, by rw [e0, l0], by rw [e4, l4], e6, ⟨b5, by rw [e5, h5], by rw [e2]; exact hn5.1, fun w r h => by cases h⟩, ?_, ?_⟩
    · rw [e2]
      refine ei.keep fun r hr => Lg.put_ne _ _ _ ?_
      rintro rfl
      rcases hr with h | h | h | h | h | h
      · exact hn5.2.1 h
      · exact hn5.2.2.1 h
      · exact hn5.2.2.2.1 h
      · exact hn5.2.2.2.2.1 h
      · exact h hn5.2.2.2.2.2.1
      · exact hn5.1 h
    · rw [Lg.put_ne _ _ _ (Ne.symm hn5.2.2.2.2.2.2)]; exact b0
    · rw [e2]; exact b1
  | cons w r =>
    obtain ⟨rfl, rfl⟩ := hv
    refine hk w _ (Lg.put_ne _ _ _ q5) ?_
    intro E' e0 e2 e4 e5 e6
    refine ⟨?_, by rw [e0, l0], by rw [e4, l4], e6, ⟨b5, by rw [e5, h5], by rw [e2]; exact hn5.1, fun w' r' h => by cases h; exact Lg.put_same _ _ _⟩, ?_, ?_⟩
    · rw [e2]
      refine (ei.setQ r).keep fun r hr => Lg.put_ne _ _ _ ?_
      rintro rfl
      rcases hr with h | h | h | h | h | h
      · exact hn5.2.1 h
      · exact hn5.2.2.1 h
      · exact hn5.2.2.2.1 h
      · exact hn5.2.2.2.2.1 h
      · exact h hn5.2.2.2.2.2.1
      · exact hn5.1 h
    · have hq : bq ≠ qOf q1 q2 p := by cases p <;> simp [qOf, b1]
      rw [Lg.put_ne _ _ _ (Ne.symm hn5.2.2.2.2.2.2), Lg.put_ne _ _ _ hq]; exact b0
    · rw [e2]; exact b1
end
end Go.AM

