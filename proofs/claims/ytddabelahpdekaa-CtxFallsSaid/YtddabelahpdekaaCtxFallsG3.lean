/- The texts GenD, LgR of a proof of CtxFalls, merged. -/
import Derived.Test.YtddabelahpdekaaCtxFallsG2
import Derived.KernelRfl
import Derived.ChangeSlices
import Derived.WideShapes
import Derived.ChangeOld
import Derived.Carry
/- The code of functions, with names for their numbers, and what is left of its weakest preconditions. PRINTED by our printgen.py. -/
set_option linter.unusedVariables false
set_option maxRecDepth 100000
namespace Go.AM
def k_tree_New : Nat := 117
def k_tree_Tree_Len : Nat := 118
def k_tree_Tree_has : Nat := 119
def k_tree_Tree_Add : Nat := 120
def k_ctx_Set_add : Nat := 121
def k_ctx_New : Nat := 122
def k_ctx_Set_has : Nat := 127
def k_ctx_Set_room : Nat := 128
def k_chanq_Signal : Nat := 129
def k_chanq_Chan_end_1 : Nat := 130
def k_slices_IndexFunc_WakeWake : Nat := 131
def k_slices_ContainsFunc_WakeWake : Nat := 132
def k_chanq_Chan_end : Nat := 133
def k_chanq_Chan_End : Nat := 134
def k_slices_Clone_intint : Nat := 135
def k_tree_Tree_Kids : Nat := 136
def k_slices_Index_intint : Nat := 137
def k_slices_Delete_intint : Nat := 138
def k_tree_Tree_Detach : Nat := 139
def k_ctx_Set_start : Nat := 140
def k_ctx_Set_cancel : Nat := 141
def k_ctx_Set_begin : Nat := 142
def k_ctx_Set_Cancels : Nat := 143
def k_ctx_Set_Without : Nat := 145
def k_ctx_Set_Cancel : Nat := 148
def k_ctx_Set_Err : Nat := 149
def k_ctx_Set_Cause : Nat := 150
def k_tarpaulinlaw15_awake : Nat := 152
def k_tarpaulinlaw15_CtxFalls : Nat := 153
def q_tree_New_1 (N : Nat → Nat) : ACode := (.seq (.reg [⟨.l 0, none, .mv, [.c (.p none)]⟩]) (.seq (.reg [⟨.t 1, none, .build [.sl none 0 0 0] [], []⟩, ⟨.t 2, none, .box, [.t 1]⟩, ⟨.l 0, none, .mv, [.t 2]⟩]) .ret))
noncomputable def D_tree_New_1 (F : Nat → Option AFn) (N : Nat → Nat) (Q : AV → Lg → Prop) (L : Lg) : Prop :=
 wpOp F (.build [.sl none 0 0 0] []) [] L fun v1 L1 =>
 wpOp F .box [v1] L1 fun v2 L2 =>
 fin1 (some v2) Q L2
theorem e_tree_New_1 (F : Nat → Option AFn) (N : Nat → Nat) (Q : AV → Lg → Prop) (l t : Env) (L : Lg) : wp F (q_tree_New_1 N) l t L (fin [.tmp (.l 0)] Q) (fun _ _ _ _ => False) (fin [.tmp (.l 0)] Q) = D_tree_New_1 F N Q L := by kernel_rfl
/-- tarpaulin/tree.New -/
def c_tree_New (N : Nat → Nat) : AFn := ⟨q_tree_New_1 N, [.tmp (.l 0)]⟩
structure H_tree_New (N : Nat → Nat) (F : Nat → Option AFn) : Prop where
  code : F (N k_tree_New) = some (c_tree_New N)
theorem r_tree_New {F : Nat → Option AFn} {N : Nat → Nat} (h : F (N k_tree_New) = some (c_tree_New N)) {Q : AV → Lg → Prop} {L : Lg} (e : D_tree_New_1 F N Q L) : CallL F (N k_tree_New) [] L Q :=
  CallL.of_wp h (Eq.mpr (Eq.trans (e_tree_New_1 F N Q (initE [] 0) Env.nil L) (by kernel_rfl : _ = D_tree_New_1 F N Q L)) e)
def q_tree_Tree_Len_1 (N : Nat → Nat) : ACode := (.seq (.reg [⟨.l 2, none, .mv, [.c (.i .i64 0)]⟩]) (.seq (.seq (.reg [⟨.t 3, none, .mv, [.l 0]⟩, ⟨.t 4, none, .eq false .ptr, [.t 3, .c (.p none)]⟩]) (.cond (.t 4) (.seq (.reg [⟨.l 2, none, .mv, [.c (.i .i64 0)]⟩]) .ret) .skip)) (.seq (.reg [⟨.t 5, none, .mv, [.l 0]⟩, ⟨.t 6, none, .nilchk, [.t 5]⟩, ⟨.t 7, none, .fad 0, [.t 6]⟩, ⟨.t 8, none, .ld none, [.t 7]⟩, ⟨.t 9, none, .lenSl, [.t 8]⟩, ⟨.l 2, none, .mv, [.t 9]⟩]) .ret)))
noncomputable def D_tree_Tree_Len_1 (F : Nat → Option AFn) (N : Nat → Nat) (Q : AV → Lg → Prop) (x0 : AV) (L : Lg) : Prop :=
 wpOp F (.eq false .ptr) [x0, (.p none)] L fun v1 L1 =>
 condW v1
 (fin1 (some (.i .i64 0)) Q L1)
 (wpOp F .nilchk [x0] L1 fun v2 L2 =>
 wpOp F (.fad 0) [v2] L2 fun v3 L3 =>
 wpOp F (.ld none) [v3] L3 fun v4 L4 =>
 wpOp F .lenSl [v4] L4 fun v5 L5 =>
 fin1 (some v5) Q L5)
theorem e_tree_Tree_Len_1 (F : Nat → Option AFn) (N : Nat → Nat) (Q : AV → Lg → Prop) (l t : Env) (L : Lg) : wp F (q_tree_Tree_Len_1 N) l t L (fin [.tmp (.l 2)] Q) (fun _ _ _ _ => False) (fin [.tmp (.l 2)] Q) = D_tree_Tree_Len_1 F N Q (l 0) L := by kernel_rfl
/-- (*tarpaulin/tree.Tree).Len -/
def c_tree_Tree_Len (N : Nat → Nat) : AFn := ⟨q_tree_Tree_Len_1 N, [.tmp (.l 2)]⟩
structure H_tree_Tree_Len (N : Nat → Nat) (F : Nat → Option AFn) : Prop where
  code : F (N k_tree_Tree_Len) = some (c_tree_Tree_Len N)
theorem r_tree_Tree_Len {F : Nat → Option AFn} {N : Nat → Nat} (h : F (N k_tree_Tree_Len) = some (c_tree_Tree_Len N)) {Q : AV → Lg → Prop} {a0 : AV} {L : Lg} (e : D_tree_Tree_Len_1 F N Q a0 L) : CallL F (N k_tree_Tree_Len) [a0] L Q :=
  CallL.of_wp h (Eq.mpr (Eq.trans (e_tree_Tree_Len_1 F N Q (initE [a0] 0) Env.nil L) (by kernel_rfl : _ = D_tree_Tree_Len_1 F N Q a0 L)) e)
def q_tree_Tree_has_1 (N : Nat → Nat) : ACode := (.seq (.reg [⟨.l 4, none, .mv, [.c (.b false)]⟩]) (.seq (.reg [⟨.t 5, none, .mv, [.l 1]⟩, ⟨.t 6, none, .bin .geq, [.t 5, .c (.i .i64 0)]⟩, ⟨.t 7, none, .mv, [.t 6]⟩, ⟨.t 8, some (.t 7, true), .mv, [.l 1]⟩, ⟨.t 9, some (.t 7, true), .mv, [.l 0]⟩, ⟨.t 10, some (.t 7, true), .call (N k_tree_Tree_Len), [.t 9]⟩, ⟨.t 11, some (.t 7, true), .bin .lss, [.t 8, .t 10]⟩, ⟨.t 12, none, .pick, [.t 7, .t 11, .c (.b false)]⟩, ⟨.l 4, none, .mv, [.t 12]⟩]) .ret))
noncomputable def D_tree_Tree_has_1 (F : Nat → Option AFn) (N : Nat → Nat) (Q : AV → Lg → Prop) (x0 : AV) (x1 : AV) (L : Lg) : Prop :=
 wpOp F (.bin .geq) [x1, (.i .i64 0)] L fun v1 L1 =>
 gdOp F v1 true .mv [x1] L1 fun v2 L2 =>
 gdOp F v1 true .mv [x0] L2 fun v3 L3 =>
 gdOp F v1 true (.call (N k_tree_Tree_Len)) [v3] L3 fun v4 L4 =>
 gdOp F v1 true (.bin .lss) [v2, v4] L4 fun v5 L5 =>
 wpOp F .pick [v1, v5, (.b false)] L5 fun v6 L6 =>
 fin1 (some v6) Q L6
theorem e_tree_Tree_has_1 (F : Nat → Option AFn) (N : Nat → Nat) (Q : AV → Lg → Prop) (l t : Env) (L : Lg) : wp F (q_tree_Tree_has_1 N) l t L (fin [.tmp (.l 4)] Q) (fun _ _ _ _ => False) (fin [.tmp (.l 4)] Q) = D_tree_Tree_has_1 F N Q (l 0) (l 1) L := by kernel_rfl
/-- (*tarpaulin/tree.Tree).has -/
def c_tree_Tree_has (N : Nat → Nat) : AFn := ⟨q_tree_Tree_has_1 N, [.tmp (.l 4)]⟩
structure H_tree_Tree_has (N : Nat → Nat) (F : Nat → Option AFn) : Prop where
  code : F (N k_tree_Tree_has) = some (c_tree_Tree_has N)
  tree_Tree_Len : H_tree_Tree_Len N F
theorem r_tree_Tree_has {F : Nat → Option AFn} {N : Nat → Nat} (h : F (N k_tree_Tree_has) = some (c_tree_Tree_has N)) {Q : AV → Lg → Prop} {a0 a1 : AV} {L : Lg} (e : D_tree_Tree_has_1 F N Q a0 a1 L) : CallL F (N k_tree_Tree_has) [a0, a1] L Q :=
  CallL.of_wp h (Eq.mpr (Eq.trans (e_tree_Tree_has_1 F N Q (initE [a0, a1] 0) Env.nil L) (by kernel_rfl : _ = D_tree_Tree_has_1 F N Q a0 a1 L)) e)
def q_tree_Tree_Add_6 (N : Nat → Nat) : ACode := (.seq (.reg [⟨.t 56, none, .mv, [.l 0]⟩, ⟨.t 57, none, .mv, [.l 0]⟩, ⟨.t 58, none, .nilchk, [.t 57]⟩, ⟨.t 59, none, .fad 0, [.t 58]⟩, ⟨.t 60, none, .ld none, [.t 59]⟩, ⟨.t 61, none, .mv, [.l 1]⟩, ⟨.t 62, none, .mv, [.l 2]⟩, ⟨.t 63, none, .build [.i .i64 0, .b false, .sl none 0 0 0] [(0, 1), (1, 1)], [.t 61, .t 62]⟩, ⟨.t 64, none, .bslice [.i .i64 0, .b false, .sl none 0 0 0] 1 3 [0], [.t 63]⟩, ⟨.t 65, none, .app 3 40, [.t 60, .t 64]⟩, ⟨.t 66, none, .nilchk, [.t 56]⟩, ⟨.t 67, none, .fad 0, [.t 66]⟩, ⟨.no, none, .st 1, [.t 67, .t 65]⟩]) (.seq (.reg [⟨.t 68, none, .mv, [.l 8]⟩, ⟨.l 6, none, .mv, [.t 68]⟩, ⟨.l 7, none, .mv, [.c (.i .i64 0)]⟩]) .ret))
noncomputable def D_tree_Tree_Add_6 (F : Nat → Option AFn) (N : Nat → Nat) (Q : AV → Lg → Prop) (x0 : AV) (x1 : AV) (x2 : AV) (x8 : AV) (L : Lg) : Prop :=
 wpOp F .nilchk [x0] L fun v1 L1 =>
 wpOp F (.fad 0) [v1] L1 fun v2 L2 =>
 wpOp F (.ld none) [v2] L2 fun v3 L3 =>
 wpOp F (.build [.i .i64 0, .b false, .sl none 0 0 0] [(0, 1), (1, 1)]) [x1, x2] L3 fun v4 L4 =>
 wpOp F (.bslice [.i .i64 0, .b false, .sl none 0 0 0] 1 3 [0]) [v4] L4 fun v5 L5 =>
 wpOp F (.app 3 40) [v3, v5] L5 fun v6 L6 =>
 wpOp F .nilchk [x0] L6 fun v7 L7 =>
 wpOp F (.fad 0) [v7] L7 fun v8 L8 =>
 wpOp F (.st 1) [v8, v6] L8 fun _ L9 =>
 fin1 (some (.tup [x8, (.i .i64 0)])) Q L9
theorem e_tree_Tree_Add_6 (F : Nat → Option AFn) (N : Nat → Nat) (Q : AV → Lg → Prop) (l t : Env) (L : Lg) : wp F (q_tree_Tree_Add_6 N) l t L (fin [.tmp (.l 6), .tmp (.l 7)] Q) (fun _ _ _ _ => False) (fin [.tmp (.l 6), .tmp (.l 7)] Q) = D_tree_Tree_Add_6 F N Q (l 0) (l 1) (l 2) (l 8) L := by kernel_rfl
def q_tree_Tree_Add_5a (N : Nat → Nat) : ACode := (.seq (.reg [⟨.t 37, none, .mv, [.l 2]⟩]) (.cond (.t 37) (.regD [⟨.t 38, none, .mv, [.l 0]⟩, ⟨.t 39, none, .nilchk, [.t 38]⟩, ⟨.t 40, none, .fad 0, [.t 39]⟩, ⟨.t 41, none, .ld none, [.t 40]⟩, ⟨.t 42, none, .mv, [.l 1]⟩, ⟨.t 43, none, .mv, [.l 0]⟩, ⟨.t 44, none, .nilchk, [.t 43]⟩, ⟨.t 45, none, .fad 0, [.t 44]⟩, ⟨.t 46, none, .ld none, [.t 45]⟩, ⟨.t 47, none, .mv, [.l 1]⟩, ⟨.t 48, none, .iad 3, [.t 46, .t 47]⟩, ⟨.t 49, none, .fad 2, [.t 48]⟩, ⟨.t 50, none, .ld none, [.t 49]⟩, ⟨.t 51, none, .mv, [.l 8]⟩, ⟨.t 52, none, .bslice [.i .i64 0] 1 1 [0], [.t 51]⟩, ⟨.t 53, none, .app 1 8, [.t 50, .t 52]⟩, ⟨.t 54, none, .iad 3, [.t 41, .t 42]⟩, ⟨.t 55, none, .fad 2, [.t 54]⟩, ⟨.no, none, .st 1, [.t 55, .t 53]⟩] [(3, 16)]) .skip))
def q_tree_Tree_Add_5 (N : Nat → Nat) : ACode := (.seq (q_tree_Tree_Add_5a N) (q_tree_Tree_Add_6 N))
noncomputable def D_tree_Tree_Add_5 (F : Nat → Option AFn) (N : Nat → Nat) (Q : AV → Lg → Prop) (x0 : AV) (x1 : AV) (x2 : AV) (x8 : AV) (L : Lg) : Prop :=
 condW x2
 (wpOp F .nilchk [x0] L fun v1 L1 =>
 wpOp F (.fad 0) [v1] L1 fun v2 L2 =>
 wpOp F (.ld none) [v2] L2 fun v3 L3 =>
 wpOp F .nilchk [x0] L3 fun v4 L4 =>
 wpOp F (.fad 0) [v4] L4 fun v5 L5 =>
 wpOp F (.ld none) [v5] L5 fun v6 L6 =>
 wpOp F (.iad 3) [v6, x1] L6 fun v7 L7 =>
 wpOp F (.fad 2) [v7] L7 fun v8 L8 =>
 wpOp F (.ld none) [v8] L8 fun v9 L9 =>
 wpOp F (.bslice [.i .i64 0] 1 1 [0]) [x8] L9 fun v10 L10 =>
 wpOp F (.app 1 8) [v9, v10] L10 fun v11 L11 =>
 wpOp F (.iad 3) [v3, x1] L11 fun v12 L12 =>
 wpOp F (.fad 2) [v12] L12 fun v13 L13 =>
 wpOp F (.st 1) [v13, v11] L13 fun _ L14 =>
 (againV (.ld none) [v2] L2 L11 ∧ True) ∧ (D_tree_Tree_Add_6 F N Q x0 x1 x2 x8 L14))
 (D_tree_Tree_Add_6 F N Q x0 x1 x2 x8 L)
theorem e_tree_Tree_Add_5 (F : Nat → Option AFn) (N : Nat → Nat) (Q : AV → Lg → Prop) (l t : Env) (L : Lg) : wp F (q_tree_Tree_Add_5 N) l t L (fin [.tmp (.l 6), .tmp (.l 7)] Q) (fun _ _ _ _ => False) (fin [.tmp (.l 6), .tmp (.l 7)] Q) = D_tree_Tree_Add_5 F N Q (l 0) (l 1) (l 2) (l 8) L := Eq.trans (wpq_seq F (q_tree_Tree_Add_5a N) (q_tree_Tree_Add_6 N) l t L (fin [.tmp (.l 6), .tmp (.l 7)] Q) (fun _ _ _ _ => False) (fin [.tmp (.l 6), .tmp (.l 7)] Q)) (Eq.trans (congrArg (fun Z : Kn => wp F (q_tree_Tree_Add_5a N) l t L Z (fun _ _ _ _ => False) (fin [.tmp (.l 6), .tmp (.l 7)] Q)) (funext fun l => funext fun t => funext fun L => e_tree_Tree_Add_6 F N Q l t L)) (by kernel_rfl))
def q_tree_Tree_Add_4a (N : Nat → Nat) : ACode := (.reg [⟨.t 32, none, .mv, [.l 2]⟩, ⟨.t 33, none, .mv, [.t 32]⟩, ⟨.t 34, some (.t 33, true), .mv, [.l 1]⟩, ⟨.t 35, some (.t 33, true), .bin .neq, [.t 34, .c (.i .i64 (-1))]⟩, ⟨.t 36, none, .pick, [.t 33, .t 35, .c (.b false)]⟩, ⟨.l 2, none, .mv, [.t 36]⟩])
def q_tree_Tree_Add_4 (N : Nat → Nat) : ACode := (.seq (q_tree_Tree_Add_4a N) (q_tree_Tree_Add_5 N))
noncomputable def D_tree_Tree_Add_4 (F : Nat → Option AFn) (N : Nat → Nat) (Q : AV → Lg → Prop) (x0 : AV) (x1 : AV) (x2 : AV) (x8 : AV) (L : Lg) : Prop :=
 gdOp F x2 true .mv [x1] L fun v1 L1 =>
 gdOp F x2 true (.bin .neq) [v1, (.i .i64 (-1))] L1 fun v2 L2 =>
 wpOp F .pick [x2, v2, (.b false)] L2 fun v3 L3 =>
 D_tree_Tree_Add_5 F N Q x0 x1 v3 x8 L3
theorem e_tree_Tree_Add_4 (F : Nat → Option AFn) (N : Nat → Nat) (Q : AV → Lg → Prop) (l t : Env) (L : Lg) : wp F (q_tree_Tree_Add_4 N) l t L (fin [.tmp (.l 6), .tmp (.l 7)] Q) (fun _ _ _ _ => False) (fin [.tmp (.l 6), .tmp (.l 7)] Q) = D_tree_Tree_Add_4 F N Q (l 0) (l 1) (l 2) (l 8) L := Eq.trans (wpq_seq F (q_tree_Tree_Add_4a N) (q_tree_Tree_Add_5 N) l t L (fin [.tmp (.l 6), .tmp (.l 7)] Q) (fun _ _ _ _ => False) (fin [.tmp (.l 6), .tmp (.l 7)] Q)) (Eq.trans (congrArg (fun Z : Kn => wp F (q_tree_Tree_Add_4a N) l t L Z (fun _ _ _ _ => False) (fin [.tmp (.l 6), .tmp (.l 7)] Q)) (funext fun l => funext fun t => funext fun L => e_tree_Tree_Add_5 F N Q l t L)) (by kernel_rfl))
def q_tree_Tree_Add_3a (N : Nat → Nat) : ACode := (.reg [⟨.t 27, none, .mv, [.l 0]⟩, ⟨.t 28, none, .nilchk, [.t 27]⟩, ⟨.t 29, none, .fad 0, [.t 28]⟩, ⟨.t 30, none, .ld none, [.t 29]⟩, ⟨.t 31, none, .lenSl, [.t 30]⟩, ⟨.l 8, none, .mv, [.t 31]⟩])
def q_tree_Tree_Add_3 (N : Nat → Nat) : ACode := (.seq (q_tree_Tree_Add_3a N) (q_tree_Tree_Add_4 N))
noncomputable def D_tree_Tree_Add_3 (F : Nat → Option AFn) (N : Nat → Nat) (Q : AV → Lg → Prop) (x0 : AV) (x1 : AV) (x2 : AV) (L : Lg) : Prop :=
 wpOp F .nilchk [x0] L fun v1 L1 =>
 wpOp F (.fad 0) [v1] L1 fun v2 L2 =>
 wpOp F (.ld none) [v2] L2 fun v3 L3 =>
 wpOp F .lenSl [v3] L3 fun v4 L4 =>
 D_tree_Tree_Add_4 F N Q x0 x1 x2 v4 L4
theorem e_tree_Tree_Add_3 (F : Nat → Option AFn) (N : Nat → Nat) (Q : AV → Lg → Prop) (l t : Env) (L : Lg) : wp F (q_tree_Tree_Add_3 N) l t L (fin [.tmp (.l 6), .tmp (.l 7)] Q) (fun _ _ _ _ => False) (fin [.tmp (.l 6), .tmp (.l 7)] Q) = D_tree_Tree_Add_3 F N Q (l 0) (l 1) (l 2) L := Eq.trans (wpq_seq F (q_tree_Tree_Add_3a N) (q_tree_Tree_Add_4 N) l t L (fin [.tmp (.l 6), .tmp (.l 7)] Q) (fun _ _ _ _ => False) (fin [.tmp (.l 6), .tmp (.l 7)] Q)) (Eq.trans (congrArg (fun Z : Kn => wp F (q_tree_Tree_Add_3a N) l t L Z (fun _ _ _ _ => False) (fin [.tmp (.l 6), .tmp (.l 7)] Q)) (funext fun l => funext fun t => funext fun L => e_tree_Tree_Add_4 F N Q l t L)) (by kernel_rfl))
def q_tree_Tree_Add_2a (N : Nat → Nat) : ACode := (.block 0 (.seq (.seq (.reg [⟨.t 10, none, .mv, [.l 0]⟩, ⟨.t 11, none, .eq false .ptr, [.t 10, .c (.p none)]⟩, ⟨.t 9, none, .mv, [.t 11]⟩]) (.cond (.t 9) .skip (.reg [⟨.t 12, none, .mv, [.l 1]⟩, ⟨.t 13, none, .bin .neq, [.t 12, .c (.i .i64 (-1))]⟩, ⟨.t 14, none, .mv, [.t 13]⟩, ⟨.t 15, some (.t 14, true), .mv, [.l 0]⟩, ⟨.t 16, some (.t 14, true), .mv, [.l 1]⟩, ⟨.t 17, some (.t 14, true), .call (N k_tree_Tree_has), [.t 15, .t 16]⟩, ⟨.t 18, some (.t 14, true), .un .not, [.t 17]⟩, ⟨.t 19, none, .pick, [.t 14, .t 18, .c (.b false)]⟩, ⟨.t 9, none, .mv, [.t 19]⟩]))) (.cond (.t 9) (.seq (.reg [⟨.l 6, none, .mv, [.c (.i .i64 0)]⟩, ⟨.l 7, none, .mv, [.c (.i .i64 1)]⟩]) .ret) (.seq (.reg [⟨.t 21, none, .mv, [.l 0]⟩, ⟨.t 22, none, .nilchk, [.t 21]⟩, ⟨.t 23, none, .fad 0, [.t 22]⟩, ⟨.t 24, none, .ld none, [.t 23]⟩, ⟨.t 25, none, .lenSl, [.t 24]⟩, ⟨.t 26, none, .bin .geq, [.t 25, .c (.i .i64 1000)]⟩, ⟨.t 20, none, .mv, [.t 26]⟩]) (.cond (.t 20) (.seq (.reg [⟨.l 6, none, .mv, [.c (.i .i64 0)]⟩, ⟨.l 7, none, .mv, [.c (.i .i64 3)]⟩]) .ret) .skip)))))
def q_tree_Tree_Add_2 (N : Nat → Nat) : ACode := (.seq (q_tree_Tree_Add_2a N) (q_tree_Tree_Add_3 N))
noncomputable def D_tree_Tree_Add_2 (F : Nat → Option AFn) (N : Nat → Nat) (Q : AV → Lg → Prop) (x0 : AV) (x1 : AV) (x2 : AV) (L : Lg) : Prop :=
 wpOp F (.eq false .ptr) [x0, (.p none)] L fun v1 L1 =>
 condW v1
 (condW v1
 (fin1 (some (.tup [(.i .i64 0), (.i .i64 1)])) Q L1)
 (wpOp F .nilchk [x0] L1 fun v2 L2 =>
 wpOp F (.fad 0) [v2] L2 fun v3 L3 =>
 wpOp F (.ld none) [v3] L3 fun v4 L4 =>
 wpOp F .lenSl [v4] L4 fun v5 L5 =>
 wpOp F (.bin .geq) [v5, (.i .i64 1000)] L5 fun v6 L6 =>
 condW v6
 (fin1 (some (.tup [(.i .i64 0), (.i .i64 3)])) Q L6)
 (D_tree_Tree_Add_3 F N Q x0 x1 x2 L6)))
 (wpOp F (.bin .neq) [x1, (.i .i64 (-1))] L1 fun v7 L7 =>
 gdOp F v7 true .mv [x0] L7 fun v8 L8 =>
 gdOp F v7 true .mv [x1] L8 fun v9 L9 =>
 gdOp F v7 true (.call (N k_tree_Tree_has)) [v8, v9] L9 fun v10 L10 =>
 gdOp F v7 true (.un .not) [v10] L10 fun v11 L11 =>
 wpOp F .pick [v7, v11, (.b false)] L11 fun v12 L12 =>
 condW v12
 (fin1 (some (.tup [(.i .i64 0), (.i .i64 1)])) Q L12)
 (wpOp F .nilchk [x0] L12 fun v13 L13 =>
 wpOp F (.fad 0) [v13] L13 fun v14 L14 =>
 wpOp F (.ld none) [v14] L14 fun v15 L15 =>
 wpOp F .lenSl [v15] L15 fun v16 L16 =>
 wpOp F (.bin .geq) [v16, (.i .i64 1000)] L16 fun v17 L17 =>
 condW v17
 (fin1 (some (.tup [(.i .i64 0), (.i .i64 3)])) Q L17)
 (D_tree_Tree_Add_3 F N Q x0 x1 x2 L17)))
theorem e_tree_Tree_Add_2 (F : Nat → Option AFn) (N : Nat → Nat) (Q : AV → Lg → Prop) (l t : Env) (L : Lg) : wp F (q_tree_Tree_Add_2 N) l t L (fin [.tmp (.l 6), .tmp (.l 7)] Q) (fun _ _ _ _ => False) (fin [.tmp (.l 6), .tmp (.l 7)] Q) = D_tree_Tree_Add_2 F N Q (l 0) (l 1) (l 2) L := Eq.trans (wpq_seq F (q_tree_Tree_Add_2a N) (q_tree_Tree_Add_3 N) l t L (fin [.tmp (.l 6), .tmp (.l 7)] Q) (fun _ _ _ _ => False) (fin [.tmp (.l 6), .tmp (.l 7)] Q)) (Eq.trans (congrArg (fun Z : Kn => wp F (q_tree_Tree_Add_2a N) l t L Z (fun _ _ _ _ => False) (fin [.tmp (.l 6), .tmp (.l 7)] Q)) (funext fun l => funext fun t => funext fun L => e_tree_Tree_Add_3 F N Q l t L)) (by kernel_rfl))
def q_tree_Tree_Add_1a (N : Nat → Nat) : ACode := (.reg [⟨.l 6, none, .mv, [.c (.i .i64 0)]⟩, ⟨.l 7, none, .mv, [.c (.i .i64 0)]⟩])
def q_tree_Tree_Add_1 (N : Nat → Nat) : ACode := (.seq (q_tree_Tree_Add_1a N) (q_tree_Tree_Add_2 N))
noncomputable def D_tree_Tree_Add_1 (F : Nat → Option AFn) (N : Nat → Nat) (Q : AV → Lg → Prop) (x0 : AV) (x1 : AV) (x2 : AV) (L : Lg) : Prop :=
 D_tree_Tree_Add_2 F N Q x0 x1 x2 L
theorem e_tree_Tree_Add_1 (F : Nat → Option AFn) (N : Nat → Nat) (Q : AV → Lg → Prop) (l t : Env) (L : Lg) : wp F (q_tree_Tree_Add_1 N) l t L (fin [.tmp (.l 6), .tmp (.l 7)] Q) (fun _ _ _ _ => False) (fin [.tmp (.l 6), .tmp (.l 7)] Q) = D_tree_Tree_Add_1 F N Q (l 0) (l 1) (l 2) L := Eq.trans (wpq_seq F (q_tree_Tree_Add_1a N) (q_tree_Tree_Add_2 N) l t L (fin [.tmp (.l 6), .tmp (.l 7)] Q) (fun _ _ _ _ => False) (fin [.tmp (.l 6), .tmp (.l 7)] Q)) (Eq.trans (congrArg (fun Z : Kn => wp F (q_tree_Tree_Add_1a N) l t L Z (fun _ _ _ _ => False) (fin [.tmp (.l 6), .tmp (.l 7)] Q)) (funext fun l => funext fun t => funext fun L => e_tree_Tree_Add_2 F N Q l t L)) (by kernel_rfl))
/-- (*tarpaulin/tree.Tree).Add -/
def c_tree_Tree_Add (N : Nat → Nat) : AFn := ⟨q_tree_Tree_Add_1 N, [.tmp (.l 6), .tmp (.l 7)]⟩
structure H_tree_Tree_Add (N : Nat → Nat) (F : Nat → Option AFn) : Prop where
  code : F (N k_tree_Tree_Add) = some (c_tree_Tree_Add N)
  tree_Tree_has : H_tree_Tree_has N F
theorem r_tree_Tree_Add {F : Nat → Option AFn} {N : Nat → Nat} (h : F (N k_tree_Tree_Add) = some (c_tree_Tree_Add N)) {Q : AV → Lg → Prop} {a0 a1 a2 : AV} {L : Lg} (e : D_tree_Tree_Add_1 F N Q a0 a1 a2 L) : CallL F (N k_tree_Tree_Add) [a0, a1, a2] L Q :=
  CallL.of_wp h (Eq.mpr (Eq.trans (e_tree_Tree_Add_1 F N Q (initE [a0, a1, a2] 0) Env.nil L) (by kernel_rfl : _ = D_tree_Tree_Add_1 F N Q a0 a1 a2 L)) e)
def q_ctx_Set_add_3 (N : Nat → Nat) : ACode := (.seq (.reg [⟨.t 20, none, .fad 8, [.l 4]⟩, ⟨.no, none, .st 1, [.t 20, .c (.i .i64 (-1))]⟩]) (.seq (.reg [⟨.t 21, none, .mv, [.l 0]⟩, ⟨.t 22, none, .nilchk, [.t 21]⟩, ⟨.t 23, none, .fad 4, [.t 22]⟩, ⟨.t 24, none, .ld none, [.t 23]⟩, ⟨.t 25, none, .fad 0, [.l 4]⟩, ⟨.t 26, none, .ld none, [.t 25]⟩, ⟨.t 27, none, .mv, [.l 0]⟩, ⟨.t 28, none, .nilchk, [.t 27]⟩, ⟨.t 29, none, .fad 2, [.t 28]⟩, ⟨.t 30, none, .ld none, [.t 29]⟩, ⟨.t 31, none, .lenSl, [.t 30]⟩, ⟨.no, none, .mset, [.t 24, .t 26, .t 31]⟩]) (.seq (.reg [⟨.t 32, none, .mv, [.l 0]⟩, ⟨.t 33, none, .mv, [.l 0]⟩, ⟨.t 34, none, .nilchk, [.t 33]⟩, ⟨.t 35, none, .fad 2, [.t 34]⟩, ⟨.t 36, none, .ld none, [.t 35]⟩, ⟨.t 37, none, .ld (some 9), [.l 4]⟩, ⟨.t 38, none, .bslice [.i .i64 0, .b false, .p none, .i .i64 0, .i .i64 0, .i .i64 0, .b false, .b false, .i .i64 0] 1 9 [0], [.t 37]⟩, ⟨.t 39, none, .app 9 64, [.t 36, .t 38]⟩, ⟨.t 40, none, .nilchk, [.t 32]⟩, ⟨.t 41, none, .fad 2, [.t 40]⟩, ⟨.no, none, .st 1, [.t 41, .t 39]⟩]) (.seq (.reg [⟨.t 42, none, .mv, [.l 0]⟩, ⟨.t 43, none, .nilchk, [.t 42]⟩, ⟨.t 44, none, .fad 2, [.t 43]⟩, ⟨.t 45, none, .ld none, [.t 44]⟩, ⟨.t 46, none, .lenSl, [.t 45]⟩, ⟨.t 47, none, .bin .sub, [.t 46, .c (.i .i64 1)]⟩, ⟨.l 6, none, .mv, [.t 47]⟩]) .ret))))
noncomputable def D_ctx_Set_add_3 (F : Nat → Option AFn) (N : Nat → Nat) (Q : AV → Lg → Prop) (x0 : AV) (x4 : AV) (L : Lg) : Prop :=
 wpOp F (.fad 8) [x4] L fun v1 L1 =>
 wpOp F (.st 1) [v1, (.i .i64 (-1))] L1 fun _ L2 =>
 wpOp F .nilchk [x0] L2 fun v3 L3 =>
 wpOp F (.fad 4) [v3] L3 fun v4 L4 =>
 wpOp F (.ld none) [v4] L4 fun v5 L5 =>
 wpOp F (.fad 0) [x4] L5 fun v6 L6 =>
 wpOp F (.ld none) [v6] L6 fun v7 L7 =>
 wpOp F .nilchk [x0] L7 fun v8 L8 =>
 wpOp F (.fad 2) [v8] L8 fun v9 L9 =>
 wpOp F (.ld none) [v9] L9 fun v10 L10 =>
 wpOp F .lenSl [v10] L10 fun v11 L11 =>
 wpOp F .mset [v5, v7, v11] L11 fun _ L12 =>
 wpOp F .nilchk [x0] L12 fun v13 L13 =>
 wpOp F (.fad 2) [v13] L13 fun v14 L14 =>
 wpOp F (.ld none) [v14] L14 fun v15 L15 =>
 wpOp F (.ld (some 9)) [x4] L15 fun v16 L16 =>
 wpOp F (.bslice [.i .i64 0, .b false, .p none, .i .i64 0, .i .i64 0, .i .i64 0, .b false, .b false, .i .i64 0] 1 9 [0]) [v16] L16 fun v17 L17 =>
 wpOp F (.app 9 64) [v15, v17] L17 fun v18 L18 =>
 wpOp F .nilchk [x0] L18 fun v19 L19 =>
 wpOp F (.fad 2) [v19] L19 fun v20 L20 =>
 wpOp F (.st 1) [v20, v18] L20 fun _ L21 =>
 wpOp F .nilchk [x0] L21 fun v22 L22 =>
 wpOp F (.fad 2) [v22] L22 fun v23 L23 =>
 wpOp F (.ld none) [v23] L23 fun v24 L24 =>
 wpOp F .lenSl [v24] L24 fun v25 L25 =>
 wpOp F (.bin .sub) [v25, (.i .i64 1)] L25 fun v26 L26 =>
 fin1 (some v26) Q L26
theorem e_ctx_Set_add_3 (F : Nat → Option AFn) (N : Nat → Nat) (Q : AV → Lg → Prop) (l t : Env) (L : Lg) : wp F (q_ctx_Set_add_3 N) l t L (fin [.tmp (.l 6)] Q) (fun _ _ _ _ => False) (fin [.tmp (.l 6)] Q) = D_ctx_Set_add_3 F N Q (l 0) (l 4) L := by kernel_rfl
def q_ctx_Set_add_2a (N : Nat → Nat) : ACode := (.reg [⟨.t 8, none, .mv, [.l 0]⟩, ⟨.t 9, none, .nilchk, [.t 8]⟩, ⟨.t 10, none, .fad 1, [.t 9]⟩, ⟨.t 11, none, .ld none, [.t 10]⟩, ⟨.t 12, none, .mv, [.l 2]⟩, ⟨.t 13, none, .fad 1, [.l 4]⟩, ⟨.t 14, none, .ld none, [.t 13]⟩, ⟨.t 15, none, .un .not, [.t 14]⟩, ⟨.t 16, none, .call (N k_tree_Tree_Add), [.t 11, .t 12, .t 15]⟩, ⟨.t 7, none, .mv, [.t 16]⟩, ⟨.t 17, none, .ext 0, [.t 7]⟩, ⟨.t 18, none, .ext 1, [.t 7]⟩, ⟨.t 19, none, .fad 0, [.l 4]⟩, ⟨.no, none, .st 1, [.t 19, .t 17]⟩])
def q_ctx_Set_add_2 (N : Nat → Nat) : ACode := (.seq (q_ctx_Set_add_2a N) (q_ctx_Set_add_3 N))
noncomputable def D_ctx_Set_add_2 (F : Nat → Option AFn) (N : Nat → Nat) (Q : AV → Lg → Prop) (x0 : AV) (x2 : AV) (x4 : AV) (L : Lg) : Prop :=
 wpOp F .nilchk [x0] L fun v1 L1 =>
 wpOp F (.fad 1) [v1] L1 fun v2 L2 =>
 wpOp F (.ld none) [v2] L2 fun v3 L3 =>
 wpOp F (.fad 1) [x4] L3 fun v4 L4 =>
 wpOp F (.ld none) [v4] L4 fun v5 L5 =>
 wpOp F (.un .not) [v5] L5 fun v6 L6 =>
 CallL F (N k_tree_Tree_Add) [v3, x2, v6] L6 fun v7 L7 =>
 wpOp F (.ext 0) [v7] L7 fun v8 L8 =>
 wpOp F (.ext 1) [v7] L8 fun v9 L9 =>
 wpOp F (.fad 0) [x4] L9 fun v10 L10 =>
 wpOp F (.st 1) [v10, v8] L10 fun _ L11 =>
 D_ctx_Set_add_3 F N Q x0 x4 L11
theorem e_ctx_Set_add_2 (F : Nat → Option AFn) (N : Nat → Nat) (Q : AV → Lg → Prop) (l t : Env) (L : Lg) : wp F (q_ctx_Set_add_2 N) l t L (fin [.tmp (.l 6)] Q) (fun _ _ _ _ => False) (fin [.tmp (.l 6)] Q) = D_ctx_Set_add_2 F N Q (l 0) (l 2) (l 4) L := Eq.trans (wpq_seq F (q_ctx_Set_add_2a N) (q_ctx_Set_add_3 N) l t L (fin [.tmp (.l 6)] Q) (fun _ _ _ _ => False) (fin [.tmp (.l 6)] Q)) (Eq.trans (congrArg (fun Z : Kn => wp F (q_ctx_Set_add_2a N) l t L Z (fun _ _ _ _ => False) (fin [.tmp (.l 6)] Q)) (funext fun l => funext fun t => funext fun L => e_ctx_Set_add_3 F N Q l t L)) (by kernel_rfl))
def q_ctx_Set_add_1a (N : Nat → Nat) : ACode := (.reg [⟨.l 4, none, .box, [.l 1]⟩, ⟨.l 6, none, .mv, [.c (.i .i64 0)]⟩])
def q_ctx_Set_add_1 (N : Nat → Nat) : ACode := (.seq (q_ctx_Set_add_1a N) (q_ctx_Set_add_2 N))
noncomputable def D_ctx_Set_add_1 (F : Nat → Option AFn) (N : Nat → Nat) (Q : AV → Lg → Prop) (x0 : AV) (x1 : AV) (x2 : AV) (L : Lg) : Prop :=
 wpOp F .box [x1] L fun v1 L1 =>
 D_ctx_Set_add_2 F N Q x0 x2 v1 L1
theorem e_ctx_Set_add_1 (F : Nat → Option AFn) (N : Nat → Nat) (Q : AV → Lg → Prop) (l t : Env) (L : Lg) : wp F (q_ctx_Set_add_1 N) l t L (fin [.tmp (.l 6)] Q) (fun _ _ _ _ => False) (fin [.tmp (.l 6)] Q) = D_ctx_Set_add_1 F N Q (l 0) (l 1) (l 2) L := Eq.trans (wpq_seq F (q_ctx_Set_add_1a N) (q_ctx_Set_add_2 N) l t L (fin [.tmp (.l 6)] Q) (fun _ _ _ _ => False) (fin [.tmp (.l 6)] Q)) (Eq.trans (congrArg (fun Z : Kn => wp F (q_ctx_Set_add_1a N) l t L Z (fun _ _ _ _ => False) (fin [.tmp (.l 6)] Q)) (funext fun l => funext fun t => funext fun L => e_ctx_Set_add_2 F N Q l t L)) (by kernel_rfl))
/-- (*tarpaulin/ctx.Set).add -/
def c_ctx_Set_add (N : Nat → Nat) : AFn := ⟨q_ctx_Set_add_1 N, [.tmp (.l 6)]⟩
structure H_ctx_Set_add (N : Nat → Nat) (F : Nat → Option AFn) : Prop where
  code : F (N k_ctx_Set_add) = some (c_ctx_Set_add N)
  tree_Tree_Add : H_tree_Tree_Add N F
theorem r_ctx_Set_add {F : Nat → Option AFn} {N : Nat → Nat} (h : F (N k_ctx_Set_add) = some (c_ctx_Set_add N)) {Q : AV → Lg → Prop} {a0 a1 a2 : AV} {L : Lg} (e : D_ctx_Set_add_1 F N Q a0 a1 a2 L) : CallL F (N k_ctx_Set_add) [a0, a1, a2] L Q :=
  CallL.of_wp h (Eq.mpr (Eq.trans (e_ctx_Set_add_1 F N Q (initE [a0, a1, a2] 0) Env.nil L) (by kernel_rfl : _ = D_ctx_Set_add_1 F N Q a0 a1 a2 L)) e)
def q_ctx_New_1 (N : Nat → Nat) : ACode := (.seq (.reg [⟨.l 2, none, .mv, [.c (.p none)]⟩]) (.seq (.reg [⟨.t 4, none, .mv, [.l 0]⟩, ⟨.t 5, none, .call (N k_tree_New), []⟩, ⟨.t 6, none, .mkmap, []⟩, ⟨.t 7, none, .build [.p none, .p none, .sl none 0 0 0, .sl none 0 0 0, .m none] [(0, 1), (1, 1), (4, 1)], [.t 4, .t 5, .t 6]⟩, ⟨.t 8, none, .box, [.t 7]⟩, ⟨.l 3, none, .mv, [.t 8]⟩]) (.seq (.reg [⟨.t 9, none, .mv, [.l 3]⟩, ⟨.t 10, none, .build [.i .i64 0, .b false, .p none, .i .i64 0, .i .i64 0, .i .i64 0, .b false, .b false, .i .i64 0] [(1, 1)], [.c (.b true)]⟩, ⟨.t 11, none, .call (N k_ctx_Set_add), [.t 9, .t 10, .c (.i .i64 (-1))]⟩]) (.seq (.reg [⟨.t 12, none, .mv, [.l 3]⟩, ⟨.l 2, none, .mv, [.t 12]⟩]) .ret))))
noncomputable def D_ctx_New_1 (F : Nat → Option AFn) (N : Nat → Nat) (Q : AV → Lg → Prop) (x0 : AV) (L : Lg) : Prop :=
 CallL F (N k_tree_New) [] L fun v1 L1 =>
 wpOp F .mkmap [] L1 fun v2 L2 =>
 wpOp F (.build [.p none, .p none, .sl none 0 0 0, .sl none 0 0 0, .m none] [(0, 1), (1, 1), (4, 1)]) [x0, v1, v2] L2 fun v3 L3 =>
 wpOp F .box [v3] L3 fun v4 L4 =>
 wpOp F (.build [.i .i64 0, .b false, .p none, .i .i64 0, .i .i64 0, .i .i64 0, .b false, .b false, .i .i64 0] [(1, 1)]) [(.b true)] L4 fun v5 L5 =>
 CallL F (N k_ctx_Set_add) [v4, v5, (.i .i64 (-1))] L5 fun v6 L6 =>
 fin1 (some v4) Q L6
theorem e_ctx_New_1 (F : Nat → Option AFn) (N : Nat → Nat) (Q : AV → Lg → Prop) (l t : Env) (L : Lg) : wp F (q_ctx_New_1 N) l t L (fin [.tmp (.l 2)] Q) (fun _ _ _ _ => False) (fin [.tmp (.l 2)] Q) = D_ctx_New_1 F N Q (l 0) L := by kernel_rfl
/-- tarpaulin/ctx.New -/
def c_ctx_New (N : Nat → Nat) : AFn := ⟨q_ctx_New_1 N, [.tmp (.l 2)]⟩
structure H_ctx_New (N : Nat → Nat) (F : Nat → Option AFn) : Prop where
  code : F (N k_ctx_New) = some (c_ctx_New N)
  tree_New : H_tree_New N F
  ctx_Set_add : H_ctx_Set_add N F
theorem r_ctx_New {F : Nat → Option AFn} {N : Nat → Nat} (h : F (N k_ctx_New) = some (c_ctx_New N)) {Q : AV → Lg → Prop} {a0 : AV} {L : Lg} (e : D_ctx_New_1 F N Q a0 L) : CallL F (N k_ctx_New) [a0] L Q :=
  CallL.of_wp h (Eq.mpr (Eq.trans (e_ctx_New_1 F N Q (initE [a0] 0) Env.nil L) (by kernel_rfl : _ = D_ctx_New_1 F N Q a0 L)) e)
def q_ctx_Set_has_1 (N : Nat → Nat) : ACode := (.seq (.reg [⟨.l 4, none, .mv, [.c (.b false)]⟩]) (.seq (.reg [⟨.t 5, none, .mv, [.l 0]⟩, ⟨.t 6, none, .eq true .ptr, [.t 5, .c (.p none)]⟩, ⟨.t 7, none, .mv, [.t 6]⟩, ⟨.t 8, some (.t 7, true), .mv, [.l 1]⟩, ⟨.t 9, some (.t 7, true), .bin .geq, [.t 8, .c (.i .i64 0)]⟩, ⟨.t 10, none, .pick, [.t 7, .t 9, .c (.b false)]⟩, ⟨.t 11, none, .mv, [.t 10]⟩, ⟨.t 12, some (.t 11, true), .mv, [.l 1]⟩, ⟨.t 13, some (.t 11, true), .mv, [.l 0]⟩, ⟨.t 14, some (.t 11, true), .nilchk, [.t 13]⟩, ⟨.t 15, some (.t 11, true), .fad 2, [.t 14]⟩, ⟨.t 16, some (.t 11, true), .ld none, [.t 15]⟩, ⟨.t 17, some (.t 11, true), .lenSl, [.t 16]⟩, ⟨.t 18, some (.t 11, true), .bin .lss, [.t 12, .t 17]⟩, ⟨.t 19, none, .pick, [.t 11, .t 18, .c (.b false)]⟩, ⟨.l 4, none, .mv, [.t 19]⟩]) .ret))
noncomputable def D_ctx_Set_has_1 (F : Nat → Option AFn) (N : Nat → Nat) (Q : AV → Lg → Prop) (x0 : AV) (x1 : AV) (L : Lg) : Prop :=
 wpOp F (.eq true .ptr) [x0, (.p none)] L fun v1 L1 =>
 gdOp F v1 true .mv [x1] L1 fun v2 L2 =>
 gdOp F v1 true (.bin .geq) [v2, (.i .i64 0)] L2 fun v3 L3 =>
 wpOp F .pick [v1, v3, (.b false)] L3 fun v4 L4 =>
 gdOp F v4 true .mv [x1] L4 fun v5 L5 =>
 gdOp F v4 true .mv [x0] L5 fun v6 L6 =>
 gdOp F v4 true .nilchk [v6] L6 fun v7 L7 =>
 gdOp F v4 true (.fad 2) [v7] L7 fun v8 L8 =>
 gdOp F v4 true (.ld none) [v8] L8 fun v9 L9 =>
 gdOp F v4 true .lenSl [v9] L9 fun v10 L10 =>
 gdOp F v4 true (.bin .lss) [v5, v10] L10 fun v11 L11 =>
 wpOp F .pick [v4, v11, (.b false)] L11 fun v12 L12 =>
 fin1 (some v12) Q L12
theorem e_ctx_Set_has_1 (F : Nat → Option AFn) (N : Nat → Nat) (Q : AV → Lg → Prop) (l t : Env) (L : Lg) : wp F (q_ctx_Set_has_1 N) l t L (fin [.tmp (.l 4)] Q) (fun _ _ _ _ => False) (fin [.tmp (.l 4)] Q) = D_ctx_Set_has_1 F N Q (l 0) (l 1) L := by kernel_rfl
/-- (*tarpaulin/ctx.Set).has -/
def c_ctx_Set_has (N : Nat → Nat) : AFn := ⟨q_ctx_Set_has_1 N, [.tmp (.l 4)]⟩
structure H_ctx_Set_has (N : Nat → Nat) (F : Nat → Option AFn) : Prop where
  code : F (N k_ctx_Set_has) = some (c_ctx_Set_has N)
theorem r_ctx_Set_has {F : Nat → Option AFn} {N : Nat → Nat} (h : F (N k_ctx_Set_has) = some (c_ctx_Set_has N)) {Q : AV → Lg → Prop} {a0 a1 : AV} {L : Lg} (e : D_ctx_Set_has_1 F N Q a0 a1 L) : CallL F (N k_ctx_Set_has) [a0, a1] L Q :=
  CallL.of_wp h (Eq.mpr (Eq.trans (e_ctx_Set_has_1 F N Q (initE [a0, a1] 0) Env.nil L) (by kernel_rfl : _ = D_ctx_Set_has_1 F N Q a0 a1 L)) e)
def q_ctx_Set_room_1 (N : Nat → Nat) : ACode := (.seq (.reg [⟨.l 4, none, .mv, [.c (.i .i64 0)]⟩]) (.seq (.block 0 (.seq (.reg [⟨.t 6, none, .mv, [.l 0]⟩, ⟨.t 7, none, .mv, [.l 1]⟩, ⟨.t 8, none, .call (N k_ctx_Set_has), [.t 6, .t 7]⟩, ⟨.t 9, none, .un .not, [.t 8]⟩, ⟨.t 5, none, .mv, [.t 9]⟩]) (.cond (.t 5) (.seq (.reg [⟨.l 4, none, .mv, [.c (.i .i64 4)]⟩]) .ret) (.seq (.reg [⟨.t 11, none, .mv, [.l 0]⟩, ⟨.t 12, none, .nilchk, [.t 11]⟩, ⟨.t 13, none, .fad 2, [.t 12]⟩, ⟨.t 14, none, .ld none, [.t 13]⟩, ⟨.t 15, none, .lenSl, [.t 14]⟩, ⟨.t 16, none, .bin .geq, [.t 15, .c (.i .i64 64)]⟩, ⟨.t 10, none, .mv, [.t 16]⟩]) (.cond (.t 10) (.seq (.reg [⟨.l 4, none, .mv, [.c (.i .i64 3)]⟩]) .ret) .skip))))) (.seq (.reg [⟨.l 4, none, .mv, [.c (.i .i64 0)]⟩]) .ret)))
noncomputable def D_ctx_Set_room_1 (F : Nat → Option AFn) (N : Nat → Nat) (Q : AV → Lg → Prop) (x0 : AV) (x1 : AV) (L : Lg) : Prop :=
 CallL F (N k_ctx_Set_has) [x0, x1] L fun v1 L1 =>
 wpOp F (.un .not) [v1] L1 fun v2 L2 =>
 condW v2
 (fin1 (some (.i .i64 4)) Q L2)
 (wpOp F .nilchk [x0] L2 fun v3 L3 =>
 wpOp F (.fad 2) [v3] L3 fun v4 L4 =>
 wpOp F (.ld none) [v4] L4 fun v5 L5 =>
 wpOp F .lenSl [v5] L5 fun v6 L6 =>
 wpOp F (.bin .geq) [v6, (.i .i64 64)] L6 fun v7 L7 =>
 condW v7
 (fin1 (some (.i .i64 3)) Q L7)
 (fin1 (some (.i .i64 0)) Q L7))
theorem e_ctx_Set_room_1 (F : Nat → Option AFn) (N : Nat → Nat) (Q : AV → Lg → Prop) (l t : Env) (L : Lg) : wp F (q_ctx_Set_room_1 N) l t L (fin [.tmp (.l 4)] Q) (fun _ _ _ _ => False) (fin [.tmp (.l 4)] Q) = D_ctx_Set_room_1 F N Q (l 0) (l 1) L := by kernel_rfl
/-- (*tarpaulin/ctx.Set).room -/
def c_ctx_Set_room (N : Nat → Nat) : AFn := ⟨q_ctx_Set_room_1 N, [.tmp (.l 4)]⟩
structure H_ctx_Set_room (N : Nat → Nat) (F : Nat → Option AFn) : Prop where
  code : F (N k_ctx_Set_room) = some (c_ctx_Set_room N)
  ctx_Set_has : H_ctx_Set_has N F
theorem r_ctx_Set_room {F : Nat → Option AFn} {N : Nat → Nat} (h : F (N k_ctx_Set_room) = some (c_ctx_Set_room N)) {Q : AV → Lg → Prop} {a0 a1 : AV} {L : Lg} (e : D_ctx_Set_room_1 F N Q a0 a1 L) : CallL F (N k_ctx_Set_room) [a0, a1] L Q :=
  CallL.of_wp h (Eq.mpr (Eq.trans (e_ctx_Set_room_1 F N Q (initE [a0, a1] 0) Env.nil L) (by kernel_rfl : _ = D_ctx_Set_room_1 F N Q a0 a1 L)) e)
def q_chanq_Signal_1 (N : Nat → Nat) : ACode := (.seq (.reg [⟨.l 0, none, .mv, [.c (.p none)]⟩]) (.seq (.reg [⟨.t 4, none, .call (N k_chanq_New), [.c (.i .i64 0)]⟩, ⟨.t 3, none, .mv, [.t 4]⟩, ⟨.t 5, none, .ext 0, [.t 3]⟩, ⟨.t 6, none, .ext 1, [.t 3]⟩, ⟨.l 1, none, .mv, [.t 5]⟩, ⟨.t 2, none, .mv, [.t 6]⟩]) (.seq (.reg [⟨.t 7, none, .mv, [.l 1]⟩, ⟨.t 8, none, .nilchk, [.t 7]⟩, ⟨.t 9, none, .fad 4, [.t 8]⟩, ⟨.no, none, .st 1, [.t 9, .c (.b true)]⟩]) (.seq (.reg [⟨.t 10, none, .mv, [.l 1]⟩, ⟨.l 0, none, .mv, [.t 10]⟩]) .ret))))
noncomputable def D_chanq_Signal_1 (F : Nat → Option AFn) (N : Nat → Nat) (Q : AV → Lg → Prop) (L : Lg) : Prop :=
 CallL F (N k_chanq_New) [(.i .i64 0)] L fun v1 L1 =>
 wpOp F (.ext 0) [v1] L1 fun v2 L2 =>
 wpOp F (.ext 1) [v1] L2 fun v3 L3 =>
 wpOp F .nilchk [v2] L3 fun v4 L4 =>
 wpOp F (.fad 4) [v4] L4 fun v5 L5 =>
 wpOp F (.st 1) [v5, (.b true)] L5 fun _ L6 =>
 fin1 (some v2) Q L6
theorem e_chanq_Signal_1 (F : Nat → Option AFn) (N : Nat → Nat) (Q : AV → Lg → Prop) (l t : Env) (L : Lg) : wp F (q_chanq_Signal_1 N) l t L (fin [.tmp (.l 0)] Q) (fun _ _ _ _ => False) (fin [.tmp (.l 0)] Q) = D_chanq_Signal_1 F N Q L := by kernel_rfl
/-- tarpaulin/chanq.Signal -/
def c_chanq_Signal (N : Nat → Nat) : AFn := ⟨q_chanq_Signal_1 N, [.tmp (.l 0)]⟩
structure H_chanq_Signal (N : Nat → Nat) (F : Nat → Option AFn) : Prop where
  code : F (N k_chanq_Signal) = some (c_chanq_Signal N)
  chanq_New : H_chanq_New N F
theorem r_chanq_Signal {F : Nat → Option AFn} {N : Nat → Nat} (h : F (N k_chanq_Signal) = some (c_chanq_Signal N)) {Q : AV → Lg → Prop} {L : Lg} (e : D_chanq_Signal_1 F N Q L) : CallL F (N k_chanq_Signal) [] L Q :=
  CallL.of_wp h (Eq.mpr (Eq.trans (e_chanq_Signal_1 F N Q (initE [] 0) Env.nil L) (by kernel_rfl : _ = D_chanq_Signal_1 F N Q L)) e)
def q_chanq_Chan_end_1_1 (N : Nat → Nat) : ACode := (.seq (.reg [⟨.l 2, none, .box, [.l 0]⟩, ⟨.l 3, none, .mv, [.c (.b false)]⟩]) (.seq (.reg [⟨.t 4, none, .fad 0, [.l 2]⟩, ⟨.t 5, none, .ld none, [.t 4]⟩, ⟨.t 6, none, .fad 0, [.l 1]⟩, ⟨.t 7, none, .ld none, [.t 6]⟩, ⟨.t 8, none, .bin .eql, [.t 5, .t 7]⟩, ⟨.l 3, none, .mv, [.t 8]⟩]) .ret))
noncomputable def D_chanq_Chan_end_1_1 (F : Nat → Option AFn) (N : Nat → Nat) (Q : AV → Lg → Prop) (x0 : AV) (x1 : AV) (L : Lg) : Prop :=
 wpOp F .box [x0] L fun v1 L1 =>
 wpOp F (.fad 0) [v1] L1 fun v2 L2 =>
 wpOp F (.ld none) [v2] L2 fun v3 L3 =>
 wpOp F (.fad 0) [x1] L3 fun v4 L4 =>
 wpOp F (.ld none) [v4] L4 fun v5 L5 =>
 wpOp F (.bin .eql) [v3, v5] L5 fun v6 L6 =>
 fin1 (some v6) Q L6
theorem e_chanq_Chan_end_1_1 (F : Nat → Option AFn) (N : Nat → Nat) (Q : AV → Lg → Prop) (l t : Env) (L : Lg) : wp F (q_chanq_Chan_end_1_1 N) l t L (fin [.tmp (.l 3)] Q) (fun _ _ _ _ => False) (fin [.tmp (.l 3)] Q) = D_chanq_Chan_end_1_1 F N Q (l 0) (l 1) L := by kernel_rfl
/-- (*tarpaulin/chanq.Chan).end$1 -/
def c_chanq_Chan_end_1 (N : Nat → Nat) : AFn := ⟨q_chanq_Chan_end_1_1 N, [.tmp (.l 3)]⟩
structure H_chanq_Chan_end_1 (N : Nat → Nat) (F : Nat → Option AFn) : Prop where
  code : F (N k_chanq_Chan_end_1) = some (c_chanq_Chan_end_1 N)
theorem r_chanq_Chan_end_1 {F : Nat → Option AFn} {N : Nat → Nat} (h : F (N k_chanq_Chan_end_1) = some (c_chanq_Chan_end_1 N)) {Q : AV → Lg → Prop} {a0 a1 : AV} {L : Lg} (e : D_chanq_Chan_end_1_1 F N Q a0 a1 L) : CallL F (N k_chanq_Chan_end_1) [a0, a1] L Q :=
  CallL.of_wp h (Eq.mpr (Eq.trans (e_chanq_Chan_end_1_1 F N Q (initE [a0, a1] 0) Env.nil L) (by kernel_rfl : _ = D_chanq_Chan_end_1_1 F N Q a0 a1 L)) e)
def q_slices_IndexFunc_WakeWake_3 (N : Nat → Nat) : ACode := (.seq (.reg [⟨.l 4, none, .mv, [.c (.i .i64 (-1))]⟩]) .ret)
noncomputable def D_slices_IndexFunc_WakeWake_3 (F : Nat → Option AFn) (N : Nat → Nat) (Q : AV → Lg → Prop) (L : Lg) : Prop :=
 fin1 (some (.i .i64 (-1))) Q L
theorem e_slices_IndexFunc_WakeWake_3 (F : Nat → Option AFn) (N : Nat → Nat) (Q : AV → Lg → Prop) (l t : Env) (L : Lg) : wp F (q_slices_IndexFunc_WakeWake_3 N) l t L (fin [.tmp (.l 4)] Q) (fun _ _ _ _ => False) (fin [.tmp (.l 4)] Q) = D_slices_IndexFunc_WakeWake_3 F N Q L := by kernel_rfl
def q_slices_IndexFunc_WakeWake_7 (N : Nat → Nat) : ACode := (.seq (.reg [⟨.t 9, none, .bin .lss, [.l 8, .l 7]⟩]) (.seq (.cond (.t 9) .skip (.exit 0)) (.seq (.block 1 (.seq (.reg [⟨.t 10, none, .mv, [.l 8]⟩, ⟨.l 5, none, .mv, [.t 10]⟩]) (.seq (.reg [⟨.t 11, none, .mv, [.l 1]⟩, ⟨.t 12, none, .mv, [.l 0]⟩, ⟨.t 13, none, .mv, [.l 5]⟩, ⟨.t 14, none, .iad 5, [.t 12, .t 13]⟩, ⟨.t 15, none, .ld (some 5), [.t 14]⟩, ⟨.t 16, none, .callv, [.t 11, .t 15]⟩]) (.cond (.t 16) (.seq (.reg [⟨.t 17, none, .mv, [.l 5]⟩, ⟨.l 4, none, .mv, [.t 17]⟩]) .ret) .skip)))) (.reg [⟨.t 18, none, .bin .add, [.l 8, .c (.i .i64 1)]⟩, ⟨.l 8, none, .mv, [.t 18]⟩]))))
noncomputable def D_slices_IndexFunc_WakeWake_7 (F : Nat → Option AFn) (N : Nat → Nat) (Q : AV → Lg → Prop) (k1 : Env → Lg → Prop) (l : Env) (L : Lg) : Prop :=
 wpOp F (.bin .lss) [(l 8), (l 7)] L fun v1 L1 =>
 condW v1
 (wpOp F (.iad 5) [(l 0), (l 8)] L1 fun v2 L2 =>
 wpOp F (.ld (some 5)) [v2] L2 fun v3 L3 =>
 wpOp F .callv [(l 1), v3] L3 fun v4 L4 =>
 condW v4
 (fin1 (some (l 8)) Q L4)
 (wpOp F (.bin .add) [(l 8), (.i .i64 1)] L4 fun v5 L5 =>
 k1 (Env.put (Env.put l 5 (l 8)) 8 v5) L5))
 (D_slices_IndexFunc_WakeWake_3 F N Q L1)
theorem e_slices_IndexFunc_WakeWake_7 (F : Nat → Option AFn) (N : Nat → Nat) (Q : AV → Lg → Prop) (k1 : Env → Lg → Prop) (l t : Env) (L : Lg) : wp F (q_slices_IndexFunc_WakeWake_7 N) l t L (fun (l _ : Env) (L : Lg) => k1 l L) (fun (j : Nat) (l t : Env) (L : Lg) => bif Nat.beq j 0 then (fun (l t : Env) (L : Lg) => D_slices_IndexFunc_WakeWake_3 F N Q L) l t L else (fun _ _ _ _ => False) j l t L) (fin [.tmp (.l 4)] Q) = D_slices_IndexFunc_WakeWake_7 F N Q k1 l L := by kernel_rfl
def q_slices_IndexFunc_WakeWake_6 (N : Nat → Nat) : ACode := (.loop (q_slices_IndexFunc_WakeWake_7 N))
noncomputable def D_slices_IndexFunc_WakeWake_6 (F : Nat → Option AFn) (N : Nat → Nat) (Q : AV → Lg → Prop) (l : Env) (L : Lg) : Prop :=
 loopW (fun l t L k1 => D_slices_IndexFunc_WakeWake_7 F N Q k1 l L) l L
theorem e_slices_IndexFunc_WakeWake_6 (F : Nat → Option AFn) (N : Nat → Nat) (Q : AV → Lg → Prop) (l t : Env) (L : Lg) : wp F (q_slices_IndexFunc_WakeWake_6 N) l t L (fun (l t : Env) (L : Lg) => D_slices_IndexFunc_WakeWake_3 F N Q L) (fun (j : Nat) (l t : Env) (L : Lg) => bif Nat.beq j 0 then (fun (l t : Env) (L : Lg) => D_slices_IndexFunc_WakeWake_3 F N Q L) l t L else (fun _ _ _ _ => False) j l t L) (fin [.tmp (.l 4)] Q) = D_slices_IndexFunc_WakeWake_6 F N Q l L := Eq.trans (wpq_loop F (q_slices_IndexFunc_WakeWake_7 N) l t L (fun (l t : Env) (L : Lg) => D_slices_IndexFunc_WakeWake_3 F N Q L) (fun (j : Nat) (l t : Env) (L : Lg) => bif Nat.beq j 0 then (fun (l t : Env) (L : Lg) => D_slices_IndexFunc_WakeWake_3 F N Q L) l t L else (fun _ _ _ _ => False) j l t L) (fin [.tmp (.l 4)] Q)) (Eq.trans (congrArg (fun B => loopW B l L) (funext fun l => funext fun t => funext fun L => funext fun k1 => e_slices_IndexFunc_WakeWake_7 F N Q k1 l t L)) (by kernel_rfl))
def q_slices_IndexFunc_WakeWake_5 (N : Nat → Nat) : ACode := (.block 0 (q_slices_IndexFunc_WakeWake_6 N))
theorem e_slices_IndexFunc_WakeWake_5 (F : Nat → Option AFn) (N : Nat → Nat) (Q : AV → Lg → Prop) (l t : Env) (L : Lg) : wp F (q_slices_IndexFunc_WakeWake_5 N) l t L (fun (l t : Env) (L : Lg) => D_slices_IndexFunc_WakeWake_3 F N Q L) (fun _ _ _ _ => False) (fin [.tmp (.l 4)] Q) = D_slices_IndexFunc_WakeWake_6 F N Q l L := Eq.trans (wpq_block F 0 (q_slices_IndexFunc_WakeWake_6 N) l t L (fun (l t : Env) (L : Lg) => D_slices_IndexFunc_WakeWake_3 F N Q L) (fun _ _ _ _ => False) (fin [.tmp (.l 4)] Q)) (e_slices_IndexFunc_WakeWake_6 F N Q l t L)
def q_slices_IndexFunc_WakeWake_4a (N : Nat → Nat) : ACode := (.reg [⟨.t 6, none, .mv, [.l 0]⟩, ⟨.l 7, none, .lenSl, [.t 6]⟩, ⟨.l 8, none, .mv, [.c (.i .i64 0)]⟩])
def q_slices_IndexFunc_WakeWake_4 (N : Nat → Nat) : ACode := (.seq (q_slices_IndexFunc_WakeWake_4a N) (q_slices_IndexFunc_WakeWake_5 N))
noncomputable def D_slices_IndexFunc_WakeWake_4 (F : Nat → Option AFn) (N : Nat → Nat) (Q : AV → Lg → Prop) (l : Env) (L : Lg) : Prop :=
 wpOp F .lenSl [(l 0)] L fun v1 L1 =>
 D_slices_IndexFunc_WakeWake_6 F N Q (Env.put (Env.put l 7 v1) 8 (.i .i64 0)) L1
theorem e_slices_IndexFunc_WakeWake_4 (F : Nat → Option AFn) (N : Nat → Nat) (Q : AV → Lg → Prop) (l t : Env) (L : Lg) : wp F (q_slices_IndexFunc_WakeWake_4 N) l t L (fun (l t : Env) (L : Lg) => D_slices_IndexFunc_WakeWake_3 F N Q L) (fun _ _ _ _ => False) (fin [.tmp (.l 4)] Q) = D_slices_IndexFunc_WakeWake_4 F N Q l L := Eq.trans (wpq_seq F (q_slices_IndexFunc_WakeWake_4a N) (q_slices_IndexFunc_WakeWake_5 N) l t L (fun (l t : Env) (L : Lg) => D_slices_IndexFunc_WakeWake_3 F N Q L) (fun _ _ _ _ => False) (fin [.tmp (.l 4)] Q)) (Eq.trans (congrArg (fun Z : Kn => wp F (q_slices_IndexFunc_WakeWake_4a N) l t L Z (fun _ _ _ _ => False) (fin [.tmp (.l 4)] Q)) (funext fun l => funext fun t => funext fun L => e_slices_IndexFunc_WakeWake_5 F N Q l t L)) (by kernel_rfl))
def q_slices_IndexFunc_WakeWake_2 (N : Nat → Nat) : ACode := (.seq (q_slices_IndexFunc_WakeWake_4 N) (q_slices_IndexFunc_WakeWake_3 N))
theorem e_slices_IndexFunc_WakeWake_2 (F : Nat → Option AFn) (N : Nat → Nat) (Q : AV → Lg → Prop) (l t : Env) (L : Lg) : wp F (q_slices_IndexFunc_WakeWake_2 N) l t L (fin [.tmp (.l 4)] Q) (fun _ _ _ _ => False) (fin [.tmp (.l 4)] Q) = D_slices_IndexFunc_WakeWake_4 F N Q l L := Eq.trans (wpq_seq F (q_slices_IndexFunc_WakeWake_4 N) (q_slices_IndexFunc_WakeWake_3 N) l t L (fin [.tmp (.l 4)] Q) (fun _ _ _ _ => False) (fin [.tmp (.l 4)] Q)) (Eq.trans (congrArg (fun Z : Kn => wp F (q_slices_IndexFunc_WakeWake_4 N) l t L Z (fun _ _ _ _ => False) (fin [.tmp (.l 4)] Q)) (funext fun l => funext fun t => funext fun L => e_slices_IndexFunc_WakeWake_3 F N Q l t L)) (e_slices_IndexFunc_WakeWake_4 F N Q l t L))
def q_slices_IndexFunc_WakeWake_1a (N : Nat → Nat) : ACode := (.reg [⟨.l 4, none, .mv, [.c (.i .i64 0)]⟩])
def q_slices_IndexFunc_WakeWake_1 (N : Nat → Nat) : ACode := (.seq (q_slices_IndexFunc_WakeWake_1a N) (q_slices_IndexFunc_WakeWake_2 N))
noncomputable def D_slices_IndexFunc_WakeWake_1 (F : Nat → Option AFn) (N : Nat → Nat) (Q : AV → Lg → Prop) (l : Env) (L : Lg) : Prop :=
 D_slices_IndexFunc_WakeWake_4 F N Q (Env.put l 4 (.i .i64 0)) L
theorem e_slices_IndexFunc_WakeWake_1 (F : Nat → Option AFn) (N : Nat → Nat) (Q : AV → Lg → Prop) (l t : Env) (L : Lg) : wp F (q_slices_IndexFunc_WakeWake_1 N) l t L (fin [.tmp (.l 4)] Q) (fun _ _ _ _ => False) (fin [.tmp (.l 4)] Q) = D_slices_IndexFunc_WakeWake_1 F N Q l L := Eq.trans (wpq_seq F (q_slices_IndexFunc_WakeWake_1a N) (q_slices_IndexFunc_WakeWake_2 N) l t L (fin [.tmp (.l 4)] Q) (fun _ _ _ _ => False) (fin [.tmp (.l 4)] Q)) (Eq.trans (congrArg (fun Z : Kn => wp F (q_slices_IndexFunc_WakeWake_1a N) l t L Z (fun _ _ _ _ => False) (fin [.tmp (.l 4)] Q)) (funext fun l => funext fun t => funext fun L => e_slices_IndexFunc_WakeWake_2 F N Q l t L)) (by kernel_rfl))
/-- slices.IndexFunc[[]tarpaulin/api.Wake,tarpaulin/api.Wake] -/
def c_slices_IndexFunc_WakeWake (N : Nat → Nat) : AFn := ⟨q_slices_IndexFunc_WakeWake_1 N, [.tmp (.l 4)]⟩
structure H_slices_IndexFunc_WakeWake (N : Nat → Nat) (F : Nat → Option AFn) : Prop where
  code : F (N k_slices_IndexFunc_WakeWake) = some (c_slices_IndexFunc_WakeWake N)
theorem r_slices_IndexFunc_WakeWake {F : Nat → Option AFn} {N : Nat → Nat} (h : F (N k_slices_IndexFunc_WakeWake) = some (c_slices_IndexFunc_WakeWake N)) {Q : AV → Lg → Prop} {a0 a1 : AV} {L : Lg} (e : D_slices_IndexFunc_WakeWake_1 F N Q (initE [a0, a1] 0) L) : CallL F (N k_slices_IndexFunc_WakeWake) [a0, a1] L Q :=
  CallL.of_wp h (Eq.mpr (Eq.trans (e_slices_IndexFunc_WakeWake_1 F N Q (initE [a0, a1] 0) Env.nil L) (by kernel_rfl : _ = D_slices_IndexFunc_WakeWake_1 F N Q (initE [a0, a1] 0) L)) e)
def q_slices_ContainsFunc_WakeWake_1 (N : Nat → Nat) : ACode := (.seq (.reg [⟨.l 4, none, .mv, [.c (.b false)]⟩]) (.seq (.reg [⟨.t 5, none, .mv, [.l 0]⟩, ⟨.t 6, none, .mv, [.l 1]⟩, ⟨.t 7, none, .call (N k_slices_IndexFunc_WakeWake), [.t 5, .t 6]⟩, ⟨.t 8, none, .bin .geq, [.t 7, .c (.i .i64 0)]⟩, ⟨.l 4, none, .mv, [.t 8]⟩]) .ret))
noncomputable def D_slices_ContainsFunc_WakeWake_1 (F : Nat → Option AFn) (N : Nat → Nat) (Q : AV → Lg → Prop) (x0 : AV) (x1 : AV) (L : Lg) : Prop :=
 CallL F (N k_slices_IndexFunc_WakeWake) [x0, x1] L fun v1 L1 =>
 wpOp F (.bin .geq) [v1, (.i .i64 0)] L1 fun v2 L2 =>
 fin1 (some v2) Q L2
theorem e_slices_ContainsFunc_WakeWake_1 (F : Nat → Option AFn) (N : Nat → Nat) (Q : AV → Lg → Prop) (l t : Env) (L : Lg) : wp F (q_slices_ContainsFunc_WakeWake_1 N) l t L (fin [.tmp (.l 4)] Q) (fun _ _ _ _ => False) (fin [.tmp (.l 4)] Q) = D_slices_ContainsFunc_WakeWake_1 F N Q (l 0) (l 1) L := by kernel_rfl
/-- slices.ContainsFunc[[]tarpaulin/api.Wake,tarpaulin/api.Wake] -/
def c_slices_ContainsFunc_WakeWake (N : Nat → Nat) : AFn := ⟨q_slices_ContainsFunc_WakeWake_1 N, [.tmp (.l 4)]⟩
structure H_slices_ContainsFunc_WakeWake (N : Nat → Nat) (F : Nat → Option AFn) : Prop where
  code : F (N k_slices_ContainsFunc_WakeWake) = some (c_slices_ContainsFunc_WakeWake N)
  slices_IndexFunc_WakeWake : H_slices_IndexFunc_WakeWake N F
theorem r_slices_ContainsFunc_WakeWake {F : Nat → Option AFn} {N : Nat → Nat} (h : F (N k_slices_ContainsFunc_WakeWake) = some (c_slices_ContainsFunc_WakeWake N)) {Q : AV → Lg → Prop} {a0 a1 : AV} {L : Lg} (e : D_slices_ContainsFunc_WakeWake_1 F N Q a0 a1 L) : CallL F (N k_slices_ContainsFunc_WakeWake) [a0, a1] L Q :=
  CallL.of_wp h (Eq.mpr (Eq.trans (e_slices_ContainsFunc_WakeWake_1 F N Q (initE [a0, a1] 0) Env.nil L) (by kernel_rfl : _ = D_slices_ContainsFunc_WakeWake_1 F N Q a0 a1 L)) e)
def q_chanq_Chan_end_4 (N : Nat → Nat) : ACode := (.seq (.reg [⟨.t 55, none, .mv, [.l 2]⟩, ⟨.l 2, none, .mv, [.t 55]⟩]) .ret)
noncomputable def D_chanq_Chan_end_4 (F : Nat → Option AFn) (N : Nat → Nat) (Q : AV → Lg → Prop) (x2 : AV) (L : Lg) : Prop :=
 fin1 (some x2) Q L
theorem e_chanq_Chan_end_4 (F : Nat → Option AFn) (N : Nat → Nat) (Q : AV → Lg → Prop) (l t : Env) (L : Lg) : wp F (q_chanq_Chan_end_4 N) l t L (fin [.tmp (.l 2)] Q) (fun _ _ _ _ => False) (fin [.tmp (.l 2)] Q) = D_chanq_Chan_end_4 F N Q (l 2) L := by kernel_rfl
def q_chanq_Chan_end_11 (N : Nat → Nat) : ACode := (.reg [⟨.t 54, none, .bin .add, [.l 20, .c (.i .i64 1)]⟩, ⟨.l 20, none, .mv, [.t 54]⟩])
noncomputable def D_chanq_Chan_end_11 (F : Nat → Option AFn) (N : Nat → Nat) (Q : AV → Lg → Prop) (k1 : Env → Lg → Prop) (l : Env) (L : Lg) : Prop :=
 wpOp F (.bin .add) [(l 20), (.i .i64 1)] L fun v1 L1 =>
 k1 (Env.put l 20 v1) L1
theorem e_chanq_Chan_end_11 (F : Nat → Option AFn) (N : Nat → Nat) (Q : AV → Lg → Prop) (k1 : Env → Lg → Prop) (l t : Env) (L : Lg) : wp F (q_chanq_Chan_end_11 N) l t L (fun (l _ : Env) (L : Lg) => k1 l L) (fun (j : Nat) (l t : Env) (L : Lg) => bif Nat.beq j 0 then (fun (l t : Env) (L : Lg) => D_chanq_Chan_end_4 F N Q (l 2) L) l t L else (fun _ _ _ _ => False) j l t L) (fin [.tmp (.l 2)] Q) = D_chanq_Chan_end_11 F N Q k1 l L := by kernel_rfl
def q_chanq_Chan_end_17 (N : Nat → Nat) : ACode := (.seq (.seq (.reg [⟨.t 29, none, .mv, [.l 6]⟩]) (.cond (.t 29) .skip (.exit 2))) (.seq (.block 3 (.seq (.reg [⟨.t 35, none, .mv, [.l 2]⟩, ⟨.t 36, none, .mkfn (N k_chanq_Chan_end_1) 0, [.l 5]⟩, ⟨.t 37, none, .call (N k_slices_ContainsFunc_WakeWake), [.t 35, .t 36]⟩, ⟨.t 38, none, .un .not, [.t 37]⟩]) (.cond (.t 38) (.reg [⟨.t 39, none, .mv, [.l 2]⟩, ⟨.t 40, none, .fad 0, [.l 5]⟩, ⟨.t 41, none, .ld none, [.t 40]⟩, ⟨.t 42, none, .fad 1, [.l 5]⟩, ⟨.t 43, none, .ld none, [.t 42]⟩, ⟨.t 44, none, .mv, [.l 4]⟩, ⟨.t 45, none, .mv, [.l 0]⟩, ⟨.t 46, none, .nilchk, [.t 45]⟩, ⟨.t 47, none, .fad 2, [.t 46]⟩, ⟨.t 48, none, .ld none, [.t 47]⟩, ⟨.t 49, none, .eq false .ptr, [.t 44, .t 48]⟩, ⟨.t 50, none, .build [.i .i64 0, .i .i64 0, .i .i64 0, .b false, .b false] [(0, 1), (1, 1), (4, 1)], [.t 41, .t 43, .t 49]⟩, ⟨.t 51, none, .bslice [.i .i64 0, .i .i64 0, .i .i64 0, .b false, .b false] 1 5 [0], [.t 50]⟩, ⟨.t 52, none, .app 5 32, [.t 39, .t 51]⟩, ⟨.l 2, none, .mv, [.t 52]⟩]) .skip))) (.seq (.seq (.reg [⟨.l 53, none, .ld (some 3), [.l 5]⟩]) (.reg [⟨.l 5, none, .alloc [.i .i64 0, .i .i64 0, .i .i64 0], []⟩, ⟨.no, none, .st 3, [.l 5, .l 53]⟩])) (.reg [⟨.t 31, none, .mv, [.l 4]⟩, ⟨.t 32, none, .call (N k_wait_Queue_Pop), [.t 31]⟩, ⟨.t 30, none, .mv, [.t 32]⟩, ⟨.t 33, none, .ext 0, [.t 30]⟩, ⟨.t 34, none, .ext 1, [.t 30]⟩, ⟨.no, none, .st 3, [.l 5, .t 33]⟩, ⟨.l 6, none, .mv, [.t 34]⟩]))))
noncomputable def D_chanq_Chan_end_17 (F : Nat → Option AFn) (N : Nat → Nat) (Q : AV → Lg → Prop) (k1 : Env → Lg → Prop) (k2 : Env → Lg → Prop) (l : Env) (L : Lg) : Prop :=
 condW (l 6)
 (wpOp F (.mkfn (N k_chanq_Chan_end_1) 0) [(l 5)] L fun v1 L1 =>
 CallL F (N k_slices_ContainsFunc_WakeWake) [(l 2), v1] L1 fun v2 L2 =>
 wpOp F (.un .not) [v2] L2 fun v3 L3 =>
 condW v3
 (wpOp F (.fad 0) [(l 5)] L3 fun v4 L4 =>
 wpOp F (.ld none) [v4] L4 fun v5 L5 =>
 wpOp F (.fad 1) [(l 5)] L5 fun v6 L6 =>
 wpOp F (.ld none) [v6] L6 fun v7 L7 =>
 wpOp F .nilchk [(l 0)] L7 fun v8 L8 =>
 wpOp F (.fad 2) [v8] L8 fun v9 L9 =>
 wpOp F (.ld none) [v9] L9 fun v10 L10 =>
 wpOp F (.eq false .ptr) [(l 4), v10] L10 fun v11 L11 =>
 wpOp F (.build [.i .i64 0, .i .i64 0, .i .i64 0, .b false, .b false] [(0, 1), (1, 1), (4, 1)]) [v5, v7, v11] L11 fun v12 L12 =>
 wpOp F (.bslice [.i .i64 0, .i .i64 0, .i .i64 0, .b false, .b false] 1 5 [0]) [v12] L12 fun v13 L13 =>
 wpOp F (.app 5 32) [(l 2), v13] L13 fun v14 L14 =>
 wpOp F (.ld (some 3)) [(l 5)] L14 fun v15 L15 =>
 wpOp F (.alloc [.i .i64 0, .i .i64 0, .i .i64 0]) [] L15 fun v16 L16 =>
 wpOp F (.st 3) [v16, v15] L16 fun _ L17 =>
 CallL F (N k_wait_Queue_Pop) [(l 4)] L17 fun v18 L18 =>
 wpOp F (.ext 0) [v18] L18 fun v19 L19 =>
 wpOp F (.ext 1) [v18] L19 fun v20 L20 =>
 wpOp F (.st 3) [v16, v19] L20 fun _ L21 =>
 k2 (Env.put (Env.put (Env.put (Env.put l 2 v14) 53 v15) 5 v16) 6 v20) L21)
 (wpOp F (.ld (some 3)) [(l 5)] L3 fun v22 L22 =>
 wpOp F (.alloc [.i .i64 0, .i .i64 0, .i .i64 0]) [] L22 fun v23 L23 =>
 wpOp F (.st 3) [v23, v22] L23 fun _ L24 =>
 CallL F (N k_wait_Queue_Pop) [(l 4)] L24 fun v25 L25 =>
 wpOp F (.ext 0) [v25] L25 fun v26 L26 =>
 wpOp F (.ext 1) [v25] L26 fun v27 L27 =>
 wpOp F (.st 3) [v23, v26] L27 fun _ L28 =>
 k2 (Env.put (Env.put (Env.put l 53 v22) 5 v23) 6 v27) L28))
 (D_chanq_Chan_end_11 F N Q k1 l L)
theorem e_chanq_Chan_end_17 (F : Nat → Option AFn) (N : Nat → Nat) (Q : AV → Lg → Prop) (k1 : Env → Lg → Prop) (k2 : Env → Lg → Prop) (l t : Env) (L : Lg) : wp F (q_chanq_Chan_end_17 N) l t L (fun (l _ : Env) (L : Lg) => k2 l L) (fun (j : Nat) (l t : Env) (L : Lg) => bif Nat.beq j 2 then (fun (l t : Env) (L : Lg) => D_chanq_Chan_end_11 F N Q k1 l L) l t L else (fun (j : Nat) (l t : Env) (L : Lg) => bif Nat.beq j 1 then (fun (l t : Env) (L : Lg) => D_chanq_Chan_end_11 F N Q k1 l L) l t L else (fun (j : Nat) (l t : Env) (L : Lg) => bif Nat.beq j 0 then (fun (l t : Env) (L : Lg) => D_chanq_Chan_end_4 F N Q (l 2) L) l t L else (fun _ _ _ _ => False) j l t L) j l t L) j l t L) (fin [.tmp (.l 2)] Q) = D_chanq_Chan_end_17 F N Q k1 k2 l L := by kernel_rfl
def q_chanq_Chan_end_16 (N : Nat → Nat) : ACode := (.loop (q_chanq_Chan_end_17 N))
noncomputable def D_chanq_Chan_end_16 (F : Nat → Option AFn) (N : Nat → Nat) (Q : AV → Lg → Prop) (k1 : Env → Lg → Prop) (l : Env) (L : Lg) : Prop :=
 loopW (fun l t L k2 => D_chanq_Chan_end_17 F N Q k1 k2 l L) l L
theorem e_chanq_Chan_end_16 (F : Nat → Option AFn) (N : Nat → Nat) (Q : AV → Lg → Prop) (k1 : Env → Lg → Prop) (l t : Env) (L : Lg) : wp F (q_chanq_Chan_end_16 N) l t L (fun (l t : Env) (L : Lg) => D_chanq_Chan_end_11 F N Q k1 l L) (fun (j : Nat) (l t : Env) (L : Lg) => bif Nat.beq j 2 then (fun (l t : Env) (L : Lg) => D_chanq_Chan_end_11 F N Q k1 l L) l t L else (fun (j : Nat) (l t : Env) (L : Lg) => bif Nat.beq j 1 then (fun (l t : Env) (L : Lg) => D_chanq_Chan_end_11 F N Q k1 l L) l t L else (fun (j : Nat) (l t : Env) (L : Lg) => bif Nat.beq j 0 then (fun (l t : Env) (L : Lg) => D_chanq_Chan_end_4 F N Q (l 2) L) l t L else (fun _ _ _ _ => False) j l t L) j l t L) j l t L) (fin [.tmp (.l 2)] Q) = D_chanq_Chan_end_16 F N Q k1 l L := Eq.trans (wpq_loop F (q_chanq_Chan_end_17 N) l t L (fun (l t : Env) (L : Lg) => D_chanq_Chan_end_11 F N Q k1 l L) (fun (j : Nat) (l t : Env) (L : Lg) => bif Nat.beq j 2 then (fun (l t : Env) (L : Lg) => D_chanq_Chan_end_11 F N Q k1 l L) l t L else (fun (j : Nat) (l t : Env) (L : Lg) => bif Nat.beq j 1 then (fun (l t : Env) (L : Lg) => D_chanq_Chan_end_11 F N Q k1 l L) l t L else (fun (j : Nat) (l t : Env) (L : Lg) => bif Nat.beq j 0 then (fun (l t : Env) (L : Lg) => D_chanq_Chan_end_4 F N Q (l 2) L) l t L else (fun _ _ _ _ => False) j l t L) j l t L) j l t L) (fin [.tmp (.l 2)] Q)) (Eq.trans (congrArg (fun B => loopW B l L) (funext fun l => funext fun t => funext fun L => funext fun k2 => e_chanq_Chan_end_17 F N Q k1 k2 l t L)) (by kernel_rfl))
def q_chanq_Chan_end_15 (N : Nat → Nat) : ACode := (.block 2 (q_chanq_Chan_end_16 N))
theorem e_chanq_Chan_end_15 (F : Nat → Option AFn) (N : Nat → Nat) (Q : AV → Lg → Prop) (k1 : Env → Lg → Prop) (l t : Env) (L : Lg) : wp F (q_chanq_Chan_end_15 N) l t L (fun (l t : Env) (L : Lg) => D_chanq_Chan_end_11 F N Q k1 l L) (fun (j : Nat) (l t : Env) (L : Lg) => bif Nat.beq j 1 then (fun (l t : Env) (L : Lg) => D_chanq_Chan_end_11 F N Q k1 l L) l t L else (fun (j : Nat) (l t : Env) (L : Lg) => bif Nat.beq j 0 then (fun (l t : Env) (L : Lg) => D_chanq_Chan_end_4 F N Q (l 2) L) l t L else (fun _ _ _ _ => False) j l t L) j l t L) (fin [.tmp (.l 2)] Q) = D_chanq_Chan_end_16 F N Q k1 l L := Eq.trans (wpq_block F 2 (q_chanq_Chan_end_16 N) l t L (fun (l t : Env) (L : Lg) => D_chanq_Chan_end_11 F N Q k1 l L) (fun (j : Nat) (l t : Env) (L : Lg) => bif Nat.beq j 1 then (fun (l t : Env) (L : Lg) => D_chanq_Chan_end_11 F N Q k1 l L) l t L else (fun (j : Nat) (l t : Env) (L : Lg) => bif Nat.beq j 0 then (fun (l t : Env) (L : Lg) => D_chanq_Chan_end_4 F N Q (l 2) L) l t L else (fun _ _ _ _ => False) j l t L) j l t L) (fin [.tmp (.l 2)] Q)) (e_chanq_Chan_end_16 F N Q k1 l t L)
def q_chanq_Chan_end_14a (N : Nat → Nat) : ACode := (.reg [⟨.t 25, none, .mv, [.l 4]⟩, ⟨.t 26, none, .call (N k_wait_Queue_Pop), [.t 25]⟩, ⟨.t 24, none, .mv, [.t 26]⟩, ⟨.t 27, none, .ext 0, [.t 24]⟩, ⟨.t 28, none, .ext 1, [.t 24]⟩, ⟨.l 5, none, .alloc [.i .i64 0, .i .i64 0, .i .i64 0], []⟩, ⟨.no, none, .st 3, [.l 5, .t 27]⟩, ⟨.l 6, none, .mv, [.t 28]⟩])
def q_chanq_Chan_end_14 (N : Nat → Nat) : ACode := (.seq (q_chanq_Chan_end_14a N) (q_chanq_Chan_end_15 N))
noncomputable def D_chanq_Chan_end_14 (F : Nat → Option AFn) (N : Nat → Nat) (Q : AV → Lg → Prop) (k1 : Env → Lg → Prop) (l : Env) (L : Lg) : Prop :=
 CallL F (N k_wait_Queue_Pop) [(l 4)] L fun v1 L1 =>
 wpOp F (.ext 0) [v1] L1 fun v2 L2 =>
 wpOp F (.ext 1) [v1] L2 fun v3 L3 =>
 wpOp F (.alloc [.i .i64 0, .i .i64 0, .i .i64 0]) [] L3 fun v4 L4 =>
 wpOp F (.st 3) [v4, v2] L4 fun _ L5 =>
 D_chanq_Chan_end_16 F N Q k1 (Env.put (Env.put l 5 v4) 6 v3) L5
theorem e_chanq_Chan_end_14 (F : Nat → Option AFn) (N : Nat → Nat) (Q : AV → Lg → Prop) (k1 : Env → Lg → Prop) (l t : Env) (L : Lg) : wp F (q_chanq_Chan_end_14 N) l t L (fun (l t : Env) (L : Lg) => D_chanq_Chan_end_11 F N Q k1 l L) (fun (j : Nat) (l t : Env) (L : Lg) => bif Nat.beq j 1 then (fun (l t : Env) (L : Lg) => D_chanq_Chan_end_11 F N Q k1 l L) l t L else (fun (j : Nat) (l t : Env) (L : Lg) => bif Nat.beq j 0 then (fun (l t : Env) (L : Lg) => D_chanq_Chan_end_4 F N Q (l 2) L) l t L else (fun _ _ _ _ => False) j l t L) j l t L) (fin [.tmp (.l 2)] Q) = D_chanq_Chan_end_14 F N Q k1 l L := Eq.trans (wpq_seq F (q_chanq_Chan_end_14a N) (q_chanq_Chan_end_15 N) l t L (fun (l t : Env) (L : Lg) => D_chanq_Chan_end_11 F N Q k1 l L) (fun (j : Nat) (l t : Env) (L : Lg) => bif Nat.beq j 1 then (fun (l t : Env) (L : Lg) => D_chanq_Chan_end_11 F N Q k1 l L) l t L else (fun (j : Nat) (l t : Env) (L : Lg) => bif Nat.beq j 0 then (fun (l t : Env) (L : Lg) => D_chanq_Chan_end_4 F N Q (l 2) L) l t L else (fun _ _ _ _ => False) j l t L) j l t L) (fin [.tmp (.l 2)] Q)) (Eq.trans (congrArg (fun Z : Kn => wp F (q_chanq_Chan_end_14a N) l t L Z (fun (j : Nat) (l t : Env) (L : Lg) => bif Nat.beq j 1 then (fun (l t : Env) (L : Lg) => D_chanq_Chan_end_11 F N Q k1 l L) l t L else (fun (j : Nat) (l t : Env) (L : Lg) => bif Nat.beq j 0 then (fun (l t : Env) (L : Lg) => D_chanq_Chan_end_4 F N Q (l 2) L) l t L else (fun _ _ _ _ => False) j l t L) j l t L) (fin [.tmp (.l 2)] Q)) (funext fun l => funext fun t => funext fun L => e_chanq_Chan_end_15 F N Q k1 l t L)) (by kernel_rfl))
def q_chanq_Chan_end_13a (N : Nat → Nat) : ACode := (.reg [⟨.t 22, none, .iad 1, [.l 18, .l 20]⟩, ⟨.t 23, none, .ld none, [.t 22]⟩, ⟨.l 4, none, .mv, [.t 23]⟩])
def q_chanq_Chan_end_13 (N : Nat → Nat) : ACode := (.seq (q_chanq_Chan_end_13a N) (q_chanq_Chan_end_14 N))
noncomputable def D_chanq_Chan_end_13 (F : Nat → Option AFn) (N : Nat → Nat) (Q : AV → Lg → Prop) (k1 : Env → Lg → Prop) (l : Env) (L : Lg) : Prop :=
 wpOp F (.iad 1) [(l 18), (l 20)] L fun v1 L1 =>
 wpOp F (.ld none) [v1] L1 fun v2 L2 =>
 D_chanq_Chan_end_14 F N Q k1 (Env.put l 4 v2) L2
theorem e_chanq_Chan_end_13 (F : Nat → Option AFn) (N : Nat → Nat) (Q : AV → Lg → Prop) (k1 : Env → Lg → Prop) (l t : Env) (L : Lg) : wp F (q_chanq_Chan_end_13 N) l t L (fun (l t : Env) (L : Lg) => D_chanq_Chan_end_11 F N Q k1 l L) (fun (j : Nat) (l t : Env) (L : Lg) => bif Nat.beq j 1 then (fun (l t : Env) (L : Lg) => D_chanq_Chan_end_11 F N Q k1 l L) l t L else (fun (j : Nat) (l t : Env) (L : Lg) => bif Nat.beq j 0 then (fun (l t : Env) (L : Lg) => D_chanq_Chan_end_4 F N Q (l 2) L) l t L else (fun _ _ _ _ => False) j l t L) j l t L) (fin [.tmp (.l 2)] Q) = D_chanq_Chan_end_13 F N Q k1 l L := Eq.trans (wpq_seq F (q_chanq_Chan_end_13a N) (q_chanq_Chan_end_14 N) l t L (fun (l t : Env) (L : Lg) => D_chanq_Chan_end_11 F N Q k1 l L) (fun (j : Nat) (l t : Env) (L : Lg) => bif Nat.beq j 1 then (fun (l t : Env) (L : Lg) => D_chanq_Chan_end_11 F N Q k1 l L) l t L else (fun (j : Nat) (l t : Env) (L : Lg) => bif Nat.beq j 0 then (fun (l t : Env) (L : Lg) => D_chanq_Chan_end_4 F N Q (l 2) L) l t L else (fun _ _ _ _ => False) j l t L) j l t L) (fin [.tmp (.l 2)] Q)) (Eq.trans (congrArg (fun Z : Kn => wp F (q_chanq_Chan_end_13a N) l t L Z (fun (j : Nat) (l t : Env) (L : Lg) => bif Nat.beq j 1 then (fun (l t : Env) (L : Lg) => D_chanq_Chan_end_11 F N Q k1 l L) l t L else (fun (j : Nat) (l t : Env) (L : Lg) => bif Nat.beq j 0 then (fun (l t : Env) (L : Lg) => D_chanq_Chan_end_4 F N Q (l 2) L) l t L else (fun _ _ _ _ => False) j l t L) j l t L) (fin [.tmp (.l 2)] Q)) (funext fun l => funext fun t => funext fun L => e_chanq_Chan_end_14 F N Q k1 l t L)) (by kernel_rfl))
def q_chanq_Chan_end_12 (N : Nat → Nat) : ACode := (.block 1 (q_chanq_Chan_end_13 N))
theorem e_chanq_Chan_end_12 (F : Nat → Option AFn) (N : Nat → Nat) (Q : AV → Lg → Prop) (k1 : Env → Lg → Prop) (l t : Env) (L : Lg) : wp F (q_chanq_Chan_end_12 N) l t L (fun (l t : Env) (L : Lg) => D_chanq_Chan_end_11 F N Q k1 l L) (fun (j : Nat) (l t : Env) (L : Lg) => bif Nat.beq j 0 then (fun (l t : Env) (L : Lg) => D_chanq_Chan_end_4 F N Q (l 2) L) l t L else (fun _ _ _ _ => False) j l t L) (fin [.tmp (.l 2)] Q) = D_chanq_Chan_end_13 F N Q k1 l L := Eq.trans (wpq_block F 1 (q_chanq_Chan_end_13 N) l t L (fun (l t : Env) (L : Lg) => D_chanq_Chan_end_11 F N Q k1 l L) (fun (j : Nat) (l t : Env) (L : Lg) => bif Nat.beq j 0 then (fun (l t : Env) (L : Lg) => D_chanq_Chan_end_4 F N Q (l 2) L) l t L else (fun _ _ _ _ => False) j l t L) (fin [.tmp (.l 2)] Q)) (e_chanq_Chan_end_13 F N Q k1 l t L)
def q_chanq_Chan_end_10 (N : Nat → Nat) : ACode := (.seq (q_chanq_Chan_end_12 N) (q_chanq_Chan_end_11 N))
theorem e_chanq_Chan_end_10 (F : Nat → Option AFn) (N : Nat → Nat) (Q : AV → Lg → Prop) (k1 : Env → Lg → Prop) (l t : Env) (L : Lg) : wp F (q_chanq_Chan_end_10 N) l t L (fun (l _ : Env) (L : Lg) => k1 l L) (fun (j : Nat) (l t : Env) (L : Lg) => bif Nat.beq j 0 then (fun (l t : Env) (L : Lg) => D_chanq_Chan_end_4 F N Q (l 2) L) l t L else (fun _ _ _ _ => False) j l t L) (fin [.tmp (.l 2)] Q) = D_chanq_Chan_end_13 F N Q k1 l L := Eq.trans (wpq_seq F (q_chanq_Chan_end_12 N) (q_chanq_Chan_end_11 N) l t L (fun (l _ : Env) (L : Lg) => k1 l L) (fun (j : Nat) (l t : Env) (L : Lg) => bif Nat.beq j 0 then (fun (l t : Env) (L : Lg) => D_chanq_Chan_end_4 F N Q (l 2) L) l t L else (fun _ _ _ _ => False) j l t L) (fin [.tmp (.l 2)] Q)) (Eq.trans (congrArg (fun Z : Kn => wp F (q_chanq_Chan_end_12 N) l t L Z (fun (j : Nat) (l t : Env) (L : Lg) => bif Nat.beq j 0 then (fun (l t : Env) (L : Lg) => D_chanq_Chan_end_4 F N Q (l 2) L) l t L else (fun _ _ _ _ => False) j l t L) (fin [.tmp (.l 2)] Q)) (funext fun l => funext fun t => funext fun L => e_chanq_Chan_end_11 F N Q k1 l t L)) (e_chanq_Chan_end_12 F N Q k1 l t L))
def q_chanq_Chan_end_9a (N : Nat → Nat) : ACode := (.cond (.t 21) .skip (.exit 0))
def q_chanq_Chan_end_9 (N : Nat → Nat) : ACode := (.seq (q_chanq_Chan_end_9a N) (q_chanq_Chan_end_10 N))
noncomputable def D_chanq_Chan_end_9 (F : Nat → Option AFn) (N : Nat → Nat) (Q : AV → Lg → Prop) (k1 : Env → Lg → Prop) (l : Env) (t21 : AV) (L : Lg) : Prop :=
 condW t21
 (D_chanq_Chan_end_13 F N Q k1 l L)
 (D_chanq_Chan_end_4 F N Q (l 2) L)
theorem e_chanq_Chan_end_9 (F : Nat → Option AFn) (N : Nat → Nat) (Q : AV → Lg → Prop) (k1 : Env → Lg → Prop) (l t : Env) (L : Lg) : wp F (q_chanq_Chan_end_9 N) l t L (fun (l _ : Env) (L : Lg) => k1 l L) (fun (j : Nat) (l t : Env) (L : Lg) => bif Nat.beq j 0 then (fun (l t : Env) (L : Lg) => D_chanq_Chan_end_4 F N Q (l 2) L) l t L else (fun _ _ _ _ => False) j l t L) (fin [.tmp (.l 2)] Q) = D_chanq_Chan_end_9 F N Q k1 l (t 21) L := Eq.trans (wpq_seq F (q_chanq_Chan_end_9a N) (q_chanq_Chan_end_10 N) l t L (fun (l _ : Env) (L : Lg) => k1 l L) (fun (j : Nat) (l t : Env) (L : Lg) => bif Nat.beq j 0 then (fun (l t : Env) (L : Lg) => D_chanq_Chan_end_4 F N Q (l 2) L) l t L else (fun _ _ _ _ => False) j l t L) (fin [.tmp (.l 2)] Q)) (Eq.trans (congrArg (fun Z : Kn => wp F (q_chanq_Chan_end_9a N) l t L Z (fun (j : Nat) (l t : Env) (L : Lg) => bif Nat.beq j 0 then (fun (l t : Env) (L : Lg) => D_chanq_Chan_end_4 F N Q (l 2) L) l t L else (fun _ _ _ _ => False) j l t L) (fin [.tmp (.l 2)] Q)) (funext fun l => funext fun t => funext fun L => e_chanq_Chan_end_10 F N Q k1 l t L)) (by kernel_rfl))
def q_chanq_Chan_end_8a (N : Nat → Nat) : ACode := (.reg [⟨.t 21, none, .bin .lss, [.l 20, .l 19]⟩])
def q_chanq_Chan_end_8 (N : Nat → Nat) : ACode := (.seq (q_chanq_Chan_end_8a N) (q_chanq_Chan_end_9 N))
noncomputable def D_chanq_Chan_end_8 (F : Nat → Option AFn) (N : Nat → Nat) (Q : AV → Lg → Prop) (k1 : Env → Lg → Prop) (l : Env) (L : Lg) : Prop :=
 wpOp F (.bin .lss) [(l 20), (l 19)] L fun v1 L1 =>
 D_chanq_Chan_end_9 F N Q k1 l v1 L1
theorem e_chanq_Chan_end_8 (F : Nat → Option AFn) (N : Nat → Nat) (Q : AV → Lg → Prop) (k1 : Env → Lg → Prop) (l t : Env) (L : Lg) : wp F (q_chanq_Chan_end_8 N) l t L (fun (l _ : Env) (L : Lg) => k1 l L) (fun (j : Nat) (l t : Env) (L : Lg) => bif Nat.beq j 0 then (fun (l t : Env) (L : Lg) => D_chanq_Chan_end_4 F N Q (l 2) L) l t L else (fun _ _ _ _ => False) j l t L) (fin [.tmp (.l 2)] Q) = D_chanq_Chan_end_8 F N Q k1 l L := Eq.trans (wpq_seq F (q_chanq_Chan_end_8a N) (q_chanq_Chan_end_9 N) l t L (fun (l _ : Env) (L : Lg) => k1 l L) (fun (j : Nat) (l t : Env) (L : Lg) => bif Nat.beq j 0 then (fun (l t : Env) (L : Lg) => D_chanq_Chan_end_4 F N Q (l 2) L) l t L else (fun _ _ _ _ => False) j l t L) (fin [.tmp (.l 2)] Q)) (Eq.trans (congrArg (fun Z : Kn => wp F (q_chanq_Chan_end_8a N) l t L Z (fun (j : Nat) (l t : Env) (L : Lg) => bif Nat.beq j 0 then (fun (l t : Env) (L : Lg) => D_chanq_Chan_end_4 F N Q (l 2) L) l t L else (fun _ _ _ _ => False) j l t L) (fin [.tmp (.l 2)] Q)) (funext fun l => funext fun t => funext fun L => e_chanq_Chan_end_9 F N Q k1 l t L)) (by kernel_rfl))
def q_chanq_Chan_end_7 (N : Nat → Nat) : ACode := (.loop (q_chanq_Chan_end_8 N))
noncomputable def D_chanq_Chan_end_7 (F : Nat → Option AFn) (N : Nat → Nat) (Q : AV → Lg → Prop) (l : Env) (L : Lg) : Prop :=
 loopW (fun l t L k1 => D_chanq_Chan_end_8 F N Q k1 l L) l L
theorem e_chanq_Chan_end_7 (F : Nat → Option AFn) (N : Nat → Nat) (Q : AV → Lg → Prop) (l t : Env) (L : Lg) : wp F (q_chanq_Chan_end_7 N) l t L (fun (l t : Env) (L : Lg) => D_chanq_Chan_end_4 F N Q (l 2) L) (fun (j : Nat) (l t : Env) (L : Lg) => bif Nat.beq j 0 then (fun (l t : Env) (L : Lg) => D_chanq_Chan_end_4 F N Q (l 2) L) l t L else (fun _ _ _ _ => False) j l t L) (fin [.tmp (.l 2)] Q) = D_chanq_Chan_end_7 F N Q l L := Eq.trans (wpq_loop F (q_chanq_Chan_end_8 N) l t L (fun (l t : Env) (L : Lg) => D_chanq_Chan_end_4 F N Q (l 2) L) (fun (j : Nat) (l t : Env) (L : Lg) => bif Nat.beq j 0 then (fun (l t : Env) (L : Lg) => D_chanq_Chan_end_4 F N Q (l 2) L) l t L else (fun _ _ _ _ => False) j l t L) (fin [.tmp (.l 2)] Q)) (Eq.trans (congrArg (fun B => loopW B l L) (funext fun l => funext fun t => funext fun L => funext fun k1 => e_chanq_Chan_end_8 F N Q k1 l t L)) (by kernel_rfl))
def q_chanq_Chan_end_6 (N : Nat → Nat) : ACode := (.block 0 (q_chanq_Chan_end_7 N))
theorem e_chanq_Chan_end_6 (F : Nat → Option AFn) (N : Nat → Nat) (Q : AV → Lg → Prop) (l t : Env) (L : Lg) : wp F (q_chanq_Chan_end_6 N) l t L (fun (l t : Env) (L : Lg) => D_chanq_Chan_end_4 F N Q (l 2) L) (fun _ _ _ _ => False) (fin [.tmp (.l 2)] Q) = D_chanq_Chan_end_7 F N Q l L := Eq.trans (wpq_block F 0 (q_chanq_Chan_end_7 N) l t L (fun (l t : Env) (L : Lg) => D_chanq_Chan_end_4 F N Q (l 2) L) (fun _ _ _ _ => False) (fin [.tmp (.l 2)] Q)) (e_chanq_Chan_end_7 F N Q l t L)
def q_chanq_Chan_end_5a (N : Nat → Nat) : ACode := (.reg [⟨.t 10, none, .mv, [.l 0]⟩, ⟨.t 11, none, .nilchk, [.t 10]⟩, ⟨.t 12, none, .fad 1, [.t 11]⟩, ⟨.t 13, none, .ld none, [.t 12]⟩, ⟨.t 14, none, .mv, [.l 0]⟩, ⟨.t 15, none, .nilchk, [.t 14]⟩, ⟨.t 16, none, .fad 2, [.t 15]⟩, ⟨.t 17, none, .ld none, [.t 16]⟩, ⟨.l 18, none, .bslice [.p none] 2 1 [0, 1], [.t 13, .t 17]⟩, ⟨.l 19, none, .lenSl, [.l 18]⟩, ⟨.l 20, none, .mv, [.c (.i .i64 0)]⟩])
def q_chanq_Chan_end_5 (N : Nat → Nat) : ACode := (.seq (q_chanq_Chan_end_5a N) (q_chanq_Chan_end_6 N))
noncomputable def D_chanq_Chan_end_5 (F : Nat → Option AFn) (N : Nat → Nat) (Q : AV → Lg → Prop) (l : Env) (L : Lg) : Prop :=
 wpOp F .nilchk [(l 0)] L fun v1 L1 =>
 wpOp F (.fad 1) [v1] L1 fun v2 L2 =>
 wpOp F (.ld none) [v2] L2 fun v3 L3 =>
 wpOp F .nilchk [(l 0)] L3 fun v4 L4 =>
 wpOp F (.fad 2) [v4] L4 fun v5 L5 =>
 wpOp F (.ld none) [v5] L5 fun v6 L6 =>
 wpOp F (.bslice [.p none] 2 1 [0, 1]) [v3, v6] L6 fun v7 L7 =>
 wpOp F .lenSl [v7] L7 fun v8 L8 =>
 D_chanq_Chan_end_7 F N Q (Env.put (Env.put (Env.put l 18 v7) 19 v8) 20 (.i .i64 0)) L8
theorem e_chanq_Chan_end_5 (F : Nat → Option AFn) (N : Nat → Nat) (Q : AV → Lg → Prop) (l t : Env) (L : Lg) : wp F (q_chanq_Chan_end_5 N) l t L (fun (l t : Env) (L : Lg) => D_chanq_Chan_end_4 F N Q (l 2) L) (fun _ _ _ _ => False) (fin [.tmp (.l 2)] Q) = D_chanq_Chan_end_5 F N Q l L := Eq.trans (wpq_seq F (q_chanq_Chan_end_5a N) (q_chanq_Chan_end_6 N) l t L (fun (l t : Env) (L : Lg) => D_chanq_Chan_end_4 F N Q (l 2) L) (fun _ _ _ _ => False) (fin [.tmp (.l 2)] Q)) (Eq.trans (congrArg (fun Z : Kn => wp F (q_chanq_Chan_end_5a N) l t L Z (fun _ _ _ _ => False) (fin [.tmp (.l 2)] Q)) (funext fun l => funext fun t => funext fun L => e_chanq_Chan_end_6 F N Q l t L)) (by kernel_rfl))
def q_chanq_Chan_end_3 (N : Nat → Nat) : ACode := (.seq (q_chanq_Chan_end_5 N) (q_chanq_Chan_end_4 N))
theorem e_chanq_Chan_end_3 (F : Nat → Option AFn) (N : Nat → Nat) (Q : AV → Lg → Prop) (l t : Env) (L : Lg) : wp F (q_chanq_Chan_end_3 N) l t L (fin [.tmp (.l 2)] Q) (fun _ _ _ _ => False) (fin [.tmp (.l 2)] Q) = D_chanq_Chan_end_5 F N Q l L := Eq.trans (wpq_seq F (q_chanq_Chan_end_5 N) (q_chanq_Chan_end_4 N) l t L (fin [.tmp (.l 2)] Q) (fun _ _ _ _ => False) (fin [.tmp (.l 2)] Q)) (Eq.trans (congrArg (fun Z : Kn => wp F (q_chanq_Chan_end_5 N) l t L Z (fun _ _ _ _ => False) (fin [.tmp (.l 2)] Q)) (funext fun l => funext fun t => funext fun L => e_chanq_Chan_end_4 F N Q l t L)) (e_chanq_Chan_end_5 F N Q l t L))
def q_chanq_Chan_end_2a (N : Nat → Nat) : ACode := (.reg [⟨.t 7, none, .mv, [.l 0]⟩, ⟨.t 8, none, .nilchk, [.t 7]⟩, ⟨.t 9, none, .fad 5, [.t 8]⟩, ⟨.no, none, .st 1, [.t 9, .c (.b true)]⟩])
def q_chanq_Chan_end_2 (N : Nat → Nat) : ACode := (.seq (q_chanq_Chan_end_2a N) (q_chanq_Chan_end_3 N))
noncomputable def D_chanq_Chan_end_2 (F : Nat → Option AFn) (N : Nat → Nat) (Q : AV → Lg → Prop) (l : Env) (L : Lg) : Prop :=
 wpOp F .nilchk [(l 0)] L fun v1 L1 =>
 wpOp F (.fad 5) [v1] L1 fun v2 L2 =>
 wpOp F (.st 1) [v2, (.b true)] L2 fun _ L3 =>
 D_chanq_Chan_end_5 F N Q l L3
theorem e_chanq_Chan_end_2 (F : Nat → Option AFn) (N : Nat → Nat) (Q : AV → Lg → Prop) (l t : Env) (L : Lg) : wp F (q_chanq_Chan_end_2 N) l t L (fin [.tmp (.l 2)] Q) (fun _ _ _ _ => False) (fin [.tmp (.l 2)] Q) = D_chanq_Chan_end_2 F N Q l L := Eq.trans (wpq_seq F (q_chanq_Chan_end_2a N) (q_chanq_Chan_end_3 N) l t L (fin [.tmp (.l 2)] Q) (fun _ _ _ _ => False) (fin [.tmp (.l 2)] Q)) (Eq.trans (congrArg (fun Z : Kn => wp F (q_chanq_Chan_end_2a N) l t L Z (fun _ _ _ _ => False) (fin [.tmp (.l 2)] Q)) (funext fun l => funext fun t => funext fun L => e_chanq_Chan_end_3 F N Q l t L)) (by kernel_rfl))
def q_chanq_Chan_end_1a (N : Nat → Nat) : ACode := (.reg [⟨.l 2, none, .mv, [.c (.sl none 0 0 0)]⟩])
def q_chanq_Chan_end_1 (N : Nat → Nat) : ACode := (.seq (q_chanq_Chan_end_1a N) (q_chanq_Chan_end_2 N))
noncomputable def D_chanq_Chan_end_1 (F : Nat → Option AFn) (N : Nat → Nat) (Q : AV → Lg → Prop) (l : Env) (L : Lg) : Prop :=
 D_chanq_Chan_end_2 F N Q (Env.put l 2 (.sl none 0 0 0)) L
theorem e_chanq_Chan_end_1 (F : Nat → Option AFn) (N : Nat → Nat) (Q : AV → Lg → Prop) (l t : Env) (L : Lg) : wp F (q_chanq_Chan_end_1 N) l t L (fin [.tmp (.l 2)] Q) (fun _ _ _ _ => False) (fin [.tmp (.l 2)] Q) = D_chanq_Chan_end_1 F N Q l L := Eq.trans (wpq_seq F (q_chanq_Chan_end_1a N) (q_chanq_Chan_end_2 N) l t L (fin [.tmp (.l 2)] Q) (fun _ _ _ _ => False) (fin [.tmp (.l 2)] Q)) (Eq.trans (congrArg (fun Z : Kn => wp F (q_chanq_Chan_end_1a N) l t L Z (fun _ _ _ _ => False) (fin [.tmp (.l 2)] Q)) (funext fun l => funext fun t => funext fun L => e_chanq_Chan_end_2 F N Q l t L)) (by kernel_rfl))
/-- (*tarpaulin/chanq.Chan).end -/
def c_chanq_Chan_end (N : Nat → Nat) : AFn := ⟨q_chanq_Chan_end_1 N, [.tmp (.l 2)]⟩
structure H_chanq_Chan_end (N : Nat → Nat) (F : Nat → Option AFn) : Prop where
  code : F (N k_chanq_Chan_end) = some (c_chanq_Chan_end N)
  wait_Queue_Pop : H_wait_Queue_Pop N F
  chanq_Chan_end_1 : H_chanq_Chan_end_1 N F
  slices_ContainsFunc_WakeWake : H_slices_ContainsFunc_WakeWake N F
theorem r_chanq_Chan_end {F : Nat → Option AFn} {N : Nat → Nat} (h : F (N k_chanq_Chan_end) = some (c_chanq_Chan_end N)) {Q : AV → Lg → Prop} {a0 : AV} {L : Lg} (e : D_chanq_Chan_end_1 F N Q (initE [a0] 0) L) : CallL F (N k_chanq_Chan_end) [a0] L Q :=
  CallL.of_wp h (Eq.mpr (Eq.trans (e_chanq_Chan_end_1 F N Q (initE [a0] 0) Env.nil L) (by kernel_rfl : _ = D_chanq_Chan_end_1 F N Q (initE [a0] 0) L)) e)
def q_chanq_Chan_End_1 (N : Nat → Nat) : ACode := (.seq (.reg [⟨.l 2, none, .mv, [.c (.sl none 0 0 0)]⟩]) (.seq (.seq (.reg [⟨.t 3, none, .mv, [.l 0]⟩, ⟨.t 4, none, .eq false .ptr, [.t 3, .c (.p none)]⟩, ⟨.t 5, none, .mv, [.t 4]⟩, ⟨.t 6, some (.t 5, false), .mv, [.l 0]⟩, ⟨.t 7, some (.t 5, false), .nilchk, [.t 6]⟩, ⟨.t 8, some (.t 5, false), .fad 4, [.t 7]⟩, ⟨.t 9, some (.t 5, false), .ld none, [.t 8]⟩, ⟨.t 10, some (.t 5, false), .un .not, [.t 9]⟩, ⟨.t 11, none, .pick, [.t 5, .c (.b true), .t 10]⟩, ⟨.t 12, none, .mv, [.t 11]⟩, ⟨.t 13, some (.t 12, false), .mv, [.l 0]⟩, ⟨.t 14, some (.t 12, false), .nilchk, [.t 13]⟩, ⟨.t 15, some (.t 12, false), .fad 5, [.t 14]⟩, ⟨.t 16, some (.t 12, false), .ld none, [.t 15]⟩, ⟨.t 17, none, .pick, [.t 12, .c (.b true), .t 16]⟩]) (.cond (.t 17) (.seq (.reg [⟨.l 2, none, .mv, [.c (.sl none 0 0 0)]⟩]) .ret) .skip)) (.seq (.reg [⟨.t 18, none, .mv, [.l 0]⟩, ⟨.t 19, none, .call (N k_chanq_Chan_end), [.t 18]⟩, ⟨.l 2, none, .mv, [.t 19]⟩]) .ret)))
noncomputable def D_chanq_Chan_End_1 (F : Nat → Option AFn) (N : Nat → Nat) (Q : AV → Lg → Prop) (x0 : AV) (L : Lg) : Prop :=
 wpOp F (.eq false .ptr) [x0, (.p none)] L fun v1 L1 =>
 gdOp F v1 false .mv [x0] L1 fun v2 L2 =>
 gdOp F v1 false .nilchk [v2] L2 fun v3 L3 =>
 gdOp F v1 false (.fad 4) [v3] L3 fun v4 L4 =>
 gdOp F v1 false (.ld none) [v4] L4 fun v5 L5 =>
 gdOp F v1 false (.un .not) [v5] L5 fun v6 L6 =>
 wpOp F .pick [v1, (.b true), v6] L6 fun v7 L7 =>
 gdOp F v7 false .mv [x0] L7 fun v8 L8 =>
 gdOp F v7 false .nilchk [v8] L8 fun v9 L9 =>
 gdOp F v7 false (.fad 5) [v9] L9 fun v10 L10 =>
 gdOp F v7 false (.ld none) [v10] L10 fun v11 L11 =>
 wpOp F .pick [v7, (.b true), v11] L11 fun v12 L12 =>
 condW v12
 (fin1 (some (.sl none 0 0 0)) Q L12)
 (CallL F (N k_chanq_Chan_end) [x0] L12 fun v13 L13 =>
 fin1 (some v13) Q L13)
theorem e_chanq_Chan_End_1 (F : Nat → Option AFn) (N : Nat → Nat) (Q : AV → Lg → Prop) (l t : Env) (L : Lg) : wp F (q_chanq_Chan_End_1 N) l t L (fin [.tmp (.l 2)] Q) (fun _ _ _ _ => False) (fin [.tmp (.l 2)] Q) = D_chanq_Chan_End_1 F N Q (l 0) L := by kernel_rfl
/-- (*tarpaulin/chanq.Chan).End -/
def c_chanq_Chan_End (N : Nat → Nat) : AFn := ⟨q_chanq_Chan_End_1 N, [.tmp (.l 2)]⟩
structure H_chanq_Chan_End (N : Nat → Nat) (F : Nat → Option AFn) : Prop where
  code : F (N k_chanq_Chan_End) = some (c_chanq_Chan_End N)
  chanq_Chan_end : H_chanq_Chan_end N F
theorem r_chanq_Chan_End {F : Nat → Option AFn} {N : Nat → Nat} (h : F (N k_chanq_Chan_End) = some (c_chanq_Chan_End N)) {Q : AV → Lg → Prop} {a0 : AV} {L : Lg} (e : D_chanq_Chan_End_1 F N Q a0 L) : CallL F (N k_chanq_Chan_End) [a0] L Q :=
  CallL.of_wp h (Eq.mpr (Eq.trans (e_chanq_Chan_End_1 F N Q (initE [a0] 0) Env.nil L) (by kernel_rfl : _ = D_chanq_Chan_End_1 F N Q a0 L)) e)
def q_slices_Clone_intint_1 (N : Nat → Nat) : ACode := (.seq (.reg [⟨.l 2, none, .mv, [.c (.sl none 0 0 0)]⟩]) (.seq (.seq (.reg [⟨.t 3, none, .mv, [.l 0]⟩, ⟨.t 4, none, .eq false .slnil, [.t 3, .c (.sl none 0 0 0)]⟩]) (.cond (.t 4) (.seq (.reg [⟨.l 2, none, .mv, [.c (.sl none 0 0 0)]⟩]) .ret) .skip)) (.seq (.reg [⟨.t 5, none, .bslice [.i .i64 0] 0 1 [], []⟩, ⟨.t 6, none, .mv, [.l 0]⟩, ⟨.t 7, none, .app 1 8, [.t 5, .t 6]⟩, ⟨.l 2, none, .mv, [.t 7]⟩]) .ret)))
noncomputable def D_slices_Clone_intint_1 (F : Nat → Option AFn) (N : Nat → Nat) (Q : AV → Lg → Prop) (x0 : AV) (L : Lg) : Prop :=
 wpOp F (.eq false .slnil) [x0, (.sl none 0 0 0)] L fun v1 L1 =>
 condW v1
 (fin1 (some (.sl none 0 0 0)) Q L1)
 (wpOp F (.bslice [.i .i64 0] 0 1 []) [] L1 fun v2 L2 =>
 wpOp F (.app 1 8) [v2, x0] L2 fun v3 L3 =>
 fin1 (some v3) Q L3)
theorem e_slices_Clone_intint_1 (F : Nat → Option AFn) (N : Nat → Nat) (Q : AV → Lg → Prop) (l t : Env) (L : Lg) : wp F (q_slices_Clone_intint_1 N) l t L (fin [.tmp (.l 2)] Q) (fun _ _ _ _ => False) (fin [.tmp (.l 2)] Q) = D_slices_Clone_intint_1 F N Q (l 0) L := by kernel_rfl
/-- slices.Clone[[]int,int] -/
def c_slices_Clone_intint (N : Nat → Nat) : AFn := ⟨q_slices_Clone_intint_1 N, [.tmp (.l 2)]⟩
structure H_slices_Clone_intint (N : Nat → Nat) (F : Nat → Option AFn) : Prop where
  code : F (N k_slices_Clone_intint) = some (c_slices_Clone_intint N)
theorem r_slices_Clone_intint {F : Nat → Option AFn} {N : Nat → Nat} (h : F (N k_slices_Clone_intint) = some (c_slices_Clone_intint N)) {Q : AV → Lg → Prop} {a0 : AV} {L : Lg} (e : D_slices_Clone_intint_1 F N Q a0 L) : CallL F (N k_slices_Clone_intint) [a0] L Q :=
  CallL.of_wp h (Eq.mpr (Eq.trans (e_slices_Clone_intint_1 F N Q (initE [a0] 0) Env.nil L) (by kernel_rfl : _ = D_slices_Clone_intint_1 F N Q a0 L)) e)
def q_tree_Tree_Kids_1 (N : Nat → Nat) : ACode := (.seq (.reg [⟨.l 4, none, .mv, [.c (.sl none 0 0 0)]⟩]) (.seq (.seq (.reg [⟨.t 5, none, .mv, [.l 0]⟩, ⟨.t 6, none, .mv, [.l 1]⟩, ⟨.t 7, none, .call (N k_tree_Tree_has), [.t 5, .t 6]⟩, ⟨.t 8, none, .un .not, [.t 7]⟩]) (.cond (.t 8) (.seq (.reg [⟨.l 4, none, .mv, [.c (.sl none 0 0 0)]⟩]) .ret) .skip)) (.seq (.reg [⟨.t 9, none, .mv, [.l 0]⟩, ⟨.t 10, none, .nilchk, [.t 9]⟩, ⟨.t 11, none, .fad 0, [.t 10]⟩, ⟨.t 12, none, .ld none, [.t 11]⟩, ⟨.t 13, none, .mv, [.l 1]⟩, ⟨.t 14, none, .iad 3, [.t 12, .t 13]⟩, ⟨.t 15, none, .fad 2, [.t 14]⟩, ⟨.t 16, none, .ld none, [.t 15]⟩, ⟨.t 17, none, .call (N k_slices_Clone_intint), [.t 16]⟩, ⟨.l 4, none, .mv, [.t 17]⟩]) .ret)))
noncomputable def D_tree_Tree_Kids_1 (F : Nat → Option AFn) (N : Nat → Nat) (Q : AV → Lg → Prop) (x0 : AV) (x1 : AV) (L : Lg) : Prop :=
 CallL F (N k_tree_Tree_has) [x0, x1] L fun v1 L1 =>
 wpOp F (.un .not) [v1] L1 fun v2 L2 =>
 condW v2
 (fin1 (some (.sl none 0 0 0)) Q L2)
 (wpOp F .nilchk [x0] L2 fun v3 L3 =>
 wpOp F (.fad 0) [v3] L3 fun v4 L4 =>
 wpOp F (.ld none) [v4] L4 fun v5 L5 =>
 wpOp F (.iad 3) [v5, x1] L5 fun v6 L6 =>
 wpOp F (.fad 2) [v6] L6 fun v7 L7 =>
 wpOp F (.ld none) [v7] L7 fun v8 L8 =>
 CallL F (N k_slices_Clone_intint) [v8] L8 fun v9 L9 =>
 fin1 (some v9) Q L9)
theorem e_tree_Tree_Kids_1 (F : Nat → Option AFn) (N : Nat → Nat) (Q : AV → Lg → Prop) (l t : Env) (L : Lg) : wp F (q_tree_Tree_Kids_1 N) l t L (fin [.tmp (.l 4)] Q) (fun _ _ _ _ => False) (fin [.tmp (.l 4)] Q) = D_tree_Tree_Kids_1 F N Q (l 0) (l 1) L := by kernel_rfl
/-- (*tarpaulin/tree.Tree).Kids -/
def c_tree_Tree_Kids (N : Nat → Nat) : AFn := ⟨q_tree_Tree_Kids_1 N, [.tmp (.l 4)]⟩
structure H_tree_Tree_Kids (N : Nat → Nat) (F : Nat → Option AFn) : Prop where
  code : F (N k_tree_Tree_Kids) = some (c_tree_Tree_Kids N)
  tree_Tree_has : H_tree_Tree_has N F
  slices_Clone_intint : H_slices_Clone_intint N F
theorem r_tree_Tree_Kids {F : Nat → Option AFn} {N : Nat → Nat} (h : F (N k_tree_Tree_Kids) = some (c_tree_Tree_Kids N)) {Q : AV → Lg → Prop} {a0 a1 : AV} {L : Lg} (e : D_tree_Tree_Kids_1 F N Q a0 a1 L) : CallL F (N k_tree_Tree_Kids) [a0, a1] L Q :=
  CallL.of_wp h (Eq.mpr (Eq.trans (e_tree_Tree_Kids_1 F N Q (initE [a0, a1] 0) Env.nil L) (by kernel_rfl : _ = D_tree_Tree_Kids_1 F N Q a0 a1 L)) e)
def q_slices_Index_intint_3 (N : Nat → Nat) : ACode := (.seq (.reg [⟨.l 4, none, .mv, [.c (.i .i64 (-1))]⟩]) .ret)
noncomputable def D_slices_Index_intint_3 (F : Nat → Option AFn) (N : Nat → Nat) (Q : AV → Lg → Prop) (L : Lg) : Prop :=
 fin1 (some (.i .i64 (-1))) Q L
theorem e_slices_Index_intint_3 (F : Nat → Option AFn) (N : Nat → Nat) (Q : AV → Lg → Prop) (l t : Env) (L : Lg) : wp F (q_slices_Index_intint_3 N) l t L (fin [.tmp (.l 4)] Q) (fun _ _ _ _ => False) (fin [.tmp (.l 4)] Q) = D_slices_Index_intint_3 F N Q L := by kernel_rfl
def q_slices_Index_intint_7 (N : Nat → Nat) : ACode := (.seq (.reg [⟨.t 9, none, .bin .lss, [.l 8, .l 7]⟩]) (.seq (.cond (.t 9) .skip (.exit 0)) (.seq (.block 1 (.seq (.reg [⟨.t 10, none, .mv, [.l 8]⟩, ⟨.l 5, none, .mv, [.t 10]⟩]) (.seq (.reg [⟨.t 11, none, .mv, [.l 1]⟩, ⟨.t 12, none, .mv, [.l 0]⟩, ⟨.t 13, none, .mv, [.l 5]⟩, ⟨.t 14, none, .iad 1, [.t 12, .t 13]⟩, ⟨.t 15, none, .ld none, [.t 14]⟩, ⟨.t 16, none, .bin .eql, [.t 11, .t 15]⟩]) (.cond (.t 16) (.seq (.reg [⟨.t 17, none, .mv, [.l 5]⟩, ⟨.l 4, none, .mv, [.t 17]⟩]) .ret) .skip)))) (.reg [⟨.t 18, none, .bin .add, [.l 8, .c (.i .i64 1)]⟩, ⟨.l 8, none, .mv, [.t 18]⟩]))))
noncomputable def D_slices_Index_intint_7 (F : Nat → Option AFn) (N : Nat → Nat) (Q : AV → Lg → Prop) (k1 : Env → Lg → Prop) (l : Env) (L : Lg) : Prop :=
 wpOp F (.bin .lss) [(l 8), (l 7)] L fun v1 L1 =>
 condW v1
 (wpOp F (.iad 1) [(l 0), (l 8)] L1 fun v2 L2 =>
 wpOp F (.ld none) [v2] L2 fun v3 L3 =>
 wpOp F (.bin .eql) [(l 1), v3] L3 fun v4 L4 =>
 condW v4
 (fin1 (some (l 8)) Q L4)
 (wpOp F (.bin .add) [(l 8), (.i .i64 1)] L4 fun v5 L5 =>
 k1 (Env.put (Env.put l 5 (l 8)) 8 v5) L5))
 (D_slices_Index_intint_3 F N Q L1)
theorem e_slices_Index_intint_7 (F : Nat → Option AFn) (N : Nat → Nat) (Q : AV → Lg → Prop) (k1 : Env → Lg → Prop) (l t : Env) (L : Lg) : wp F (q_slices_Index_intint_7 N) l t L (fun (l _ : Env) (L : Lg) => k1 l L) (fun (j : Nat) (l t : Env) (L : Lg) => bif Nat.beq j 0 then (fun (l t : Env) (L : Lg) => D_slices_Index_intint_3 F N Q L) l t L else (fun _ _ _ _ => False) j l t L) (fin [.tmp (.l 4)] Q) = D_slices_Index_intint_7 F N Q k1 l L := by kernel_rfl
def q_slices_Index_intint_6 (N : Nat → Nat) : ACode := (.loop (q_slices_Index_intint_7 N))
noncomputable def D_slices_Index_intint_6 (F : Nat → Option AFn) (N : Nat → Nat) (Q : AV → Lg → Prop) (l : Env) (L : Lg) : Prop :=
 loopW (fun l t L k1 => D_slices_Index_intint_7 F N Q k1 l L) l L
theorem e_slices_Index_intint_6 (F : Nat → Option AFn) (N : Nat → Nat) (Q : AV → Lg → Prop) (l t : Env) (L : Lg) : wp F (q_slices_Index_intint_6 N) l t L (fun (l t : Env) (L : Lg) => D_slices_Index_intint_3 F N Q L) (fun (j : Nat) (l t : Env) (L : Lg) => bif Nat.beq j 0 then (fun (l t : Env) (L : Lg) => D_slices_Index_intint_3 F N Q L) l t L else (fun _ _ _ _ => False) j l t L) (fin [.tmp (.l 4)] Q) = D_slices_Index_intint_6 F N Q l L := Eq.trans (wpq_loop F (q_slices_Index_intint_7 N) l t L (fun (l t : Env) (L : Lg) => D_slices_Index_intint_3 F N Q L) (fun (j : Nat) (l t : Env) (L : Lg) => bif Nat.beq j 0 then (fun (l t : Env) (L : Lg) => D_slices_Index_intint_3 F N Q L) l t L else (fun _ _ _ _ => False) j l t L) (fin [.tmp (.l 4)] Q)) (Eq.trans (congrArg (fun B => loopW B l L) (funext fun l => funext fun t => funext fun L => funext fun k1 => e_slices_Index_intint_7 F N Q k1 l t L)) (by kernel_rfl))
def q_slices_Index_intint_5 (N : Nat → Nat) : ACode := (.block 0 (q_slices_Index_intint_6 N))
theorem e_slices_Index_intint_5 (F : Nat → Option AFn) (N : Nat → Nat) (Q : AV → Lg → Prop) (l t : Env) (L : Lg) : wp F (q_slices_Index_intint_5 N) l t L (fun (l t : Env) (L : Lg) => D_slices_Index_intint_3 F N Q L) (fun _ _ _ _ => False) (fin [.tmp (.l 4)] Q) = D_slices_Index_intint_6 F N Q l L := Eq.trans (wpq_block F 0 (q_slices_Index_intint_6 N) l t L (fun (l t : Env) (L : Lg) => D_slices_Index_intint_3 F N Q L) (fun _ _ _ _ => False) (fin [.tmp (.l 4)] Q)) (e_slices_Index_intint_6 F N Q l t L)
def q_slices_Index_intint_4a (N : Nat → Nat) : ACode := (.reg [⟨.t 6, none, .mv, [.l 0]⟩, ⟨.l 7, none, .lenSl, [.t 6]⟩, ⟨.l 8, none, .mv, [.c (.i .i64 0)]⟩])
def q_slices_Index_intint_4 (N : Nat → Nat) : ACode := (.seq (q_slices_Index_intint_4a N) (q_slices_Index_intint_5 N))
noncomputable def D_slices_Index_intint_4 (F : Nat → Option AFn) (N : Nat → Nat) (Q : AV → Lg → Prop) (l : Env) (L : Lg) : Prop :=
 wpOp F .lenSl [(l 0)] L fun v1 L1 =>
 D_slices_Index_intint_6 F N Q (Env.put (Env.put l 7 v1) 8 (.i .i64 0)) L1
theorem e_slices_Index_intint_4 (F : Nat → Option AFn) (N : Nat → Nat) (Q : AV → Lg → Prop) (l t : Env) (L : Lg) : wp F (q_slices_Index_intint_4 N) l t L (fun (l t : Env) (L : Lg) => D_slices_Index_intint_3 F N Q L) (fun _ _ _ _ => False) (fin [.tmp (.l 4)] Q) = D_slices_Index_intint_4 F N Q l L := Eq.trans (wpq_seq F (q_slices_Index_intint_4a N) (q_slices_Index_intint_5 N) l t L (fun (l t : Env) (L : Lg) => D_slices_Index_intint_3 F N Q L) (fun _ _ _ _ => False) (fin [.tmp (.l 4)] Q)) (Eq.trans (congrArg (fun Z : Kn => wp F (q_slices_Index_intint_4a N) l t L Z (fun _ _ _ _ => False) (fin [.tmp (.l 4)] Q)) (funext fun l => funext fun t => funext fun L => e_slices_Index_intint_5 F N Q l t L)) (by kernel_rfl))
def q_slices_Index_intint_2 (N : Nat → Nat) : ACode := (.seq (q_slices_Index_intint_4 N) (q_slices_Index_intint_3 N))
theorem e_slices_Index_intint_2 (F : Nat → Option AFn) (N : Nat → Nat) (Q : AV → Lg → Prop) (l t : Env) (L : Lg) : wp F (q_slices_Index_intint_2 N) l t L (fin [.tmp (.l 4)] Q) (fun _ _ _ _ => False) (fin [.tmp (.l 4)] Q) = D_slices_Index_intint_4 F N Q l L := Eq.trans (wpq_seq F (q_slices_Index_intint_4 N) (q_slices_Index_intint_3 N) l t L (fin [.tmp (.l 4)] Q) (fun _ _ _ _ => False) (fin [.tmp (.l 4)] Q)) (Eq.trans (congrArg (fun Z : Kn => wp F (q_slices_Index_intint_4 N) l t L Z (fun _ _ _ _ => False) (fin [.tmp (.l 4)] Q)) (funext fun l => funext fun t => funext fun L => e_slices_Index_intint_3 F N Q l t L)) (e_slices_Index_intint_4 F N Q l t L))
def q_slices_Index_intint_1a (N : Nat → Nat) : ACode := (.reg [⟨.l 4, none, .mv, [.c (.i .i64 0)]⟩])
def q_slices_Index_intint_1 (N : Nat → Nat) : ACode := (.seq (q_slices_Index_intint_1a N) (q_slices_Index_intint_2 N))
noncomputable def D_slices_Index_intint_1 (F : Nat → Option AFn) (N : Nat → Nat) (Q : AV → Lg → Prop) (l : Env) (L : Lg) : Prop :=
 D_slices_Index_intint_4 F N Q (Env.put l 4 (.i .i64 0)) L
theorem e_slices_Index_intint_1 (F : Nat → Option AFn) (N : Nat → Nat) (Q : AV → Lg → Prop) (l t : Env) (L : Lg) : wp F (q_slices_Index_intint_1 N) l t L (fin [.tmp (.l 4)] Q) (fun _ _ _ _ => False) (fin [.tmp (.l 4)] Q) = D_slices_Index_intint_1 F N Q l L := Eq.trans (wpq_seq F (q_slices_Index_intint_1a N) (q_slices_Index_intint_2 N) l t L (fin [.tmp (.l 4)] Q) (fun _ _ _ _ => False) (fin [.tmp (.l 4)] Q)) (Eq.trans (congrArg (fun Z : Kn => wp F (q_slices_Index_intint_1a N) l t L Z (fun _ _ _ _ => False) (fin [.tmp (.l 4)] Q)) (funext fun l => funext fun t => funext fun L => e_slices_Index_intint_2 F N Q l t L)) (by kernel_rfl))
/-- slices.Index[[]int,int] -/
def c_slices_Index_intint (N : Nat → Nat) : AFn := ⟨q_slices_Index_intint_1 N, [.tmp (.l 4)]⟩
structure H_slices_Index_intint (N : Nat → Nat) (F : Nat → Option AFn) : Prop where
  code : F (N k_slices_Index_intint) = some (c_slices_Index_intint N)
theorem r_slices_Index_intint {F : Nat → Option AFn} {N : Nat → Nat} (h : F (N k_slices_Index_intint) = some (c_slices_Index_intint N)) {Q : AV → Lg → Prop} {a0 a1 : AV} {L : Lg} (e : D_slices_Index_intint_1 F N Q (initE [a0, a1] 0) L) : CallL F (N k_slices_Index_intint) [a0, a1] L Q :=
  CallL.of_wp h (Eq.mpr (Eq.trans (e_slices_Index_intint_1 F N Q (initE [a0, a1] 0) Env.nil L) (by kernel_rfl : _ = D_slices_Index_intint_1 F N Q (initE [a0, a1] 0) L)) e)
def q_slices_Delete_intint_1 (N : Nat → Nat) : ACode := (.seq (.reg [⟨.l 6, none, .mv, [.c (.sl none 0 0 0)]⟩]) (.seq (.reg [⟨.t 8, none, .mv, [.l 0]⟩, ⟨.t 9, none, .mv, [.l 1]⟩, ⟨.t 10, none, .mv, [.l 2]⟩, ⟨.t 11, none, .mv, [.l 0]⟩, ⟨.t 12, none, .lenSl, [.t 11]⟩, ⟨.t 13, none, .slc 1 true true true, [.t 8, .t 9, .t 10, .t 12]⟩]) (.seq (.seq (.reg [⟨.t 14, none, .mv, [.l 1]⟩, ⟨.t 15, none, .mv, [.l 2]⟩, ⟨.t 16, none, .bin .eql, [.t 14, .t 15]⟩]) (.cond (.t 16) (.seq (.reg [⟨.t 17, none, .mv, [.l 0]⟩, ⟨.l 6, none, .mv, [.t 17]⟩]) .ret) .skip)) (.seq (.reg [⟨.t 18, none, .mv, [.l 0]⟩, ⟨.t 19, none, .lenSl, [.t 18]⟩, ⟨.l 7, none, .mv, [.t 19]⟩]) (.seq (.reg [⟨.t 20, none, .mv, [.l 0]⟩, ⟨.t 21, none, .mv, [.l 1]⟩, ⟨.t 22, none, .slc 1 false true false, [.t 20, .t 21]⟩, ⟨.t 23, none, .mv, [.l 0]⟩, ⟨.t 24, none, .mv, [.l 2]⟩, ⟨.t 25, none, .slc 1 true false false, [.t 23, .t 24]⟩, ⟨.t 26, none, .app 1 8, [.t 22, .t 25]⟩, ⟨.l 0, none, .mv, [.t 26]⟩]) (.seq (.reg [⟨.t 27, none, .mv, [.l 0]⟩, ⟨.t 28, none, .mv, [.l 0]⟩, ⟨.t 29, none, .lenSl, [.t 28]⟩, ⟨.t 30, none, .mv, [.l 7]⟩, ⟨.t 31, none, .slc 1 true true false, [.t 27, .t 29, .t 30]⟩, ⟨.no, none, .clr [.i .i64 0], [.t 31]⟩]) (.seq (.reg [⟨.t 32, none, .mv, [.l 0]⟩, ⟨.l 6, none, .mv, [.t 32]⟩]) .ret)))))))
noncomputable def D_slices_Delete_intint_1 (F : Nat → Option AFn) (N : Nat → Nat) (Q : AV → Lg → Prop) (x0 : AV) (x1 : AV) (x2 : AV) (L : Lg) : Prop :=
 wpOp F .lenSl [x0] L fun v1 L1 =>
 wpOp F (.slc 1 true true true) [x0, x1, x2, v1] L1 fun v2 L2 =>
 wpOp F (.bin .eql) [x1, x2] L2 fun v3 L3 =>
 condW v3
 (fin1 (some x0) Q L3)
 (wpOp F .lenSl [x0] L3 fun v4 L4 =>
 wpOp F (.slc 1 false true false) [x0, x1] L4 fun v5 L5 =>
 wpOp F (.slc 1 true false false) [x0, x2] L5 fun v6 L6 =>
 wpOp F (.app 1 8) [v5, v6] L6 fun v7 L7 =>
 wpOp F .lenSl [v7] L7 fun v8 L8 =>
 wpOp F (.slc 1 true true false) [v7, v8, v4] L8 fun v9 L9 =>
 wpOp F (.clr [.i .i64 0]) [v9] L9 fun _ L10 =>
 fin1 (some v7) Q L10)
theorem e_slices_Delete_intint_1 (F : Nat → Option AFn) (N : Nat → Nat) (Q : AV → Lg → Prop) (l t : Env) (L : Lg) : wp F (q_slices_Delete_intint_1 N) l t L (fin [.tmp (.l 6)] Q) (fun _ _ _ _ => False) (fin [.tmp (.l 6)] Q) = D_slices_Delete_intint_1 F N Q (l 0) (l 1) (l 2) L := by kernel_rfl
/-- slices.Delete[[]int,int] -/
def c_slices_Delete_intint (N : Nat → Nat) : AFn := ⟨q_slices_Delete_intint_1 N, [.tmp (.l 6)]⟩
structure H_slices_Delete_intint (N : Nat → Nat) (F : Nat → Option AFn) : Prop where
  code : F (N k_slices_Delete_intint) = some (c_slices_Delete_intint N)
theorem r_slices_Delete_intint {F : Nat → Option AFn} {N : Nat → Nat} (h : F (N k_slices_Delete_intint) = some (c_slices_Delete_intint N)) {Q : AV → Lg → Prop} {a0 a1 a2 : AV} {L : Lg} (e : D_slices_Delete_intint_1 F N Q a0 a1 a2 L) : CallL F (N k_slices_Delete_intint) [a0, a1, a2] L Q :=
  CallL.of_wp h (Eq.mpr (Eq.trans (e_slices_Delete_intint_1 F N Q (initE [a0, a1, a2] 0) Env.nil L) (by kernel_rfl : _ = D_slices_Delete_intint_1 F N Q a0 a1 a2 L)) e)
def q_tree_Tree_Detach_4 (N : Nat → Nat) : ACode := (.seq (.reg [⟨.t 29, none, .mv, [.l 0]⟩, ⟨.t 30, none, .nilchk, [.t 29]⟩, ⟨.t 31, none, .fad 0, [.t 30]⟩, ⟨.t 32, none, .ld none, [.t 31]⟩, ⟨.t 33, none, .mv, [.l 0]⟩, ⟨.t 34, none, .nilchk, [.t 33]⟩, ⟨.t 35, none, .fad 0, [.t 34]⟩, ⟨.t 36, none, .ld none, [.t 35]⟩, ⟨.t 37, none, .mv, [.l 1]⟩, ⟨.t 38, none, .iad 3, [.t 36, .t 37]⟩, ⟨.t 39, none, .fad 0, [.t 38]⟩, ⟨.t 40, none, .ld none, [.t 39]⟩, ⟨.t 41, none, .iad 3, [.t 32, .t 40]⟩, ⟨.l 5, none, .mv, [.t 41]⟩]) (.seq (.reg [⟨.t 42, none, .mv, [.l 5]⟩, ⟨.t 43, none, .nilchk, [.t 42]⟩, ⟨.t 44, none, .fad 2, [.t 43]⟩, ⟨.t 45, none, .ld none, [.t 44]⟩, ⟨.t 46, none, .mv, [.l 1]⟩, ⟨.t 47, none, .call (N k_slices_Index_intint), [.t 45, .t 46]⟩, ⟨.l 6, none, .mv, [.t 47]⟩]) (.seq (.reg [⟨.t 48, none, .mv, [.l 5]⟩, ⟨.t 49, none, .mv, [.l 5]⟩, ⟨.t 50, none, .nilchk, [.t 49]⟩, ⟨.t 51, none, .fad 2, [.t 50]⟩, ⟨.t 52, none, .ld none, [.t 51]⟩, ⟨.t 53, none, .mv, [.l 6]⟩, ⟨.t 54, none, .mv, [.l 6]⟩, ⟨.t 55, none, .bin .add, [.t 54, .c (.i .i64 1)]⟩, ⟨.t 56, none, .call (N k_slices_Delete_intint), [.t 52, .t 53, .t 55]⟩, ⟨.t 57, none, .nilchk, [.t 48]⟩, ⟨.t 58, none, .fad 2, [.t 57]⟩, ⟨.no, none, .st 1, [.t 58, .t 56]⟩]) (.seq (.reg [⟨.l 4, none, .mv, [.c (.b true)]⟩]) .ret))))
noncomputable def D_tree_Tree_Detach_4 (F : Nat → Option AFn) (N : Nat → Nat) (Q : AV → Lg → Prop) (x0 : AV) (x1 : AV) (L : Lg) : Prop :=
 wpOp F .nilchk [x0] L fun v1 L1 =>
 wpOp F (.fad 0) [v1] L1 fun v2 L2 =>
 wpOp F (.ld none) [v2] L2 fun v3 L3 =>
 wpOp F .nilchk [x0] L3 fun v4 L4 =>
 wpOp F (.fad 0) [v4] L4 fun v5 L5 =>
 wpOp F (.ld none) [v5] L5 fun v6 L6 =>
 wpOp F (.iad 3) [v6, x1] L6 fun v7 L7 =>
 wpOp F (.fad 0) [v7] L7 fun v8 L8 =>
 wpOp F (.ld none) [v8] L8 fun v9 L9 =>
 wpOp F (.iad 3) [v3, v9] L9 fun v10 L10 =>
 wpOp F .nilchk [v10] L10 fun v11 L11 =>
 wpOp F (.fad 2) [v11] L11 fun v12 L12 =>
 wpOp F (.ld none) [v12] L12 fun v13 L13 =>
 CallL F (N k_slices_Index_intint) [v13, x1] L13 fun v14 L14 =>
 wpOp F .nilchk [v10] L14 fun v15 L15 =>
 wpOp F (.fad 2) [v15] L15 fun v16 L16 =>
 wpOp F (.ld none) [v16] L16 fun v17 L17 =>
 wpOp F (.bin .add) [v14, (.i .i64 1)] L17 fun v18 L18 =>
 CallL F (N k_slices_Delete_intint) [v17, v14, v18] L18 fun v19 L19 =>
 wpOp F .nilchk [v10] L19 fun v20 L20 =>
 wpOp F (.fad 2) [v20] L20 fun v21 L21 =>
 wpOp F (.st 1) [v21, v19] L21 fun _ L22 =>
 fin1 (some (.b true)) Q L22
theorem e_tree_Tree_Detach_4 (F : Nat → Option AFn) (N : Nat → Nat) (Q : AV → Lg → Prop) (l t : Env) (L : Lg) : wp F (q_tree_Tree_Detach_4 N) l t L (fin [.tmp (.l 4)] Q) (fun _ _ _ _ => False) (fin [.tmp (.l 4)] Q) = D_tree_Tree_Detach_4 F N Q (l 0) (l 1) L := by kernel_rfl
def q_tree_Tree_Detach_3a (N : Nat → Nat) : ACode := (.reg [⟨.t 22, none, .mv, [.l 0]⟩, ⟨.t 23, none, .nilchk, [.t 22]⟩, ⟨.t 24, none, .fad 0, [.t 23]⟩, ⟨.t 25, none, .ld none, [.t 24]⟩, ⟨.t 26, none, .mv, [.l 1]⟩, ⟨.t 27, none, .iad 3, [.t 25, .t 26]⟩, ⟨.t 28, none, .fad 1, [.t 27]⟩, ⟨.no, none, .st 1, [.t 28, .c (.b false)]⟩])
def q_tree_Tree_Detach_3 (N : Nat → Nat) : ACode := (.seq (q_tree_Tree_Detach_3a N) (q_tree_Tree_Detach_4 N))
noncomputable def D_tree_Tree_Detach_3 (F : Nat → Option AFn) (N : Nat → Nat) (Q : AV → Lg → Prop) (x0 : AV) (x1 : AV) (L : Lg) : Prop :=
 wpOp F .nilchk [x0] L fun v1 L1 =>
 wpOp F (.fad 0) [v1] L1 fun v2 L2 =>
 wpOp F (.ld none) [v2] L2 fun v3 L3 =>
 wpOp F (.iad 3) [v3, x1] L3 fun v4 L4 =>
 wpOp F (.fad 1) [v4] L4 fun v5 L5 =>
 wpOp F (.st 1) [v5, (.b false)] L5 fun _ L6 =>
 D_tree_Tree_Detach_4 F N Q x0 x1 L6
theorem e_tree_Tree_Detach_3 (F : Nat → Option AFn) (N : Nat → Nat) (Q : AV → Lg → Prop) (l t : Env) (L : Lg) : wp F (q_tree_Tree_Detach_3 N) l t L (fin [.tmp (.l 4)] Q) (fun _ _ _ _ => False) (fin [.tmp (.l 4)] Q) = D_tree_Tree_Detach_3 F N Q (l 0) (l 1) L := Eq.trans (wpq_seq F (q_tree_Tree_Detach_3a N) (q_tree_Tree_Detach_4 N) l t L (fin [.tmp (.l 4)] Q) (fun _ _ _ _ => False) (fin [.tmp (.l 4)] Q)) (Eq.trans (congrArg (fun Z : Kn => wp F (q_tree_Tree_Detach_3a N) l t L Z (fun _ _ _ _ => False) (fin [.tmp (.l 4)] Q)) (funext fun l => funext fun t => funext fun L => e_tree_Tree_Detach_4 F N Q l t L)) (by kernel_rfl))
def q_tree_Tree_Detach_2a (N : Nat → Nat) : ACode := (.seq (.reg [⟨.t 7, none, .mv, [.l 0]⟩, ⟨.t 8, none, .mv, [.l 1]⟩, ⟨.t 9, none, .call (N k_tree_Tree_has), [.t 7, .t 8]⟩, ⟨.t 10, none, .un .not, [.t 9]⟩, ⟨.t 11, none, .mv, [.t 10]⟩, ⟨.t 12, some (.t 11, false), .mv, [.l 0]⟩, ⟨.t 13, some (.t 11, false), .nilchk, [.t 12]⟩, ⟨.t 14, some (.t 11, false), .fad 0, [.t 13]⟩, ⟨.t 15, some (.t 11, false), .ld none, [.t 14]⟩, ⟨.t 16, some (.t 11, false), .mv, [.l 1]⟩, ⟨.t 17, some (.t 11, false), .iad 3, [.t 15, .t 16]⟩, ⟨.t 18, some (.t 11, false), .fad 1, [.t 17]⟩, ⟨.t 19, some (.t 11, false), .ld none, [.t 18]⟩, ⟨.t 20, some (.t 11, false), .un .not, [.t 19]⟩, ⟨.t 21, none, .pick, [.t 11, .c (.b true), .t 20]⟩]) (.cond (.t 21) (.seq (.reg [⟨.l 4, none, .mv, [.c (.b false)]⟩]) .ret) .skip))
def q_tree_Tree_Detach_2 (N : Nat → Nat) : ACode := (.seq (q_tree_Tree_Detach_2a N) (q_tree_Tree_Detach_3 N))
noncomputable def D_tree_Tree_Detach_2 (F : Nat → Option AFn) (N : Nat → Nat) (Q : AV → Lg → Prop) (x0 : AV) (x1 : AV) (L : Lg) : Prop :=
 CallL F (N k_tree_Tree_has) [x0, x1] L fun v1 L1 =>
 wpOp F (.un .not) [v1] L1 fun v2 L2 =>
 gdOp F v2 false .mv [x0] L2 fun v3 L3 =>
 gdOp F v2 false .nilchk [v3] L3 fun v4 L4 =>
 gdOp F v2 false (.fad 0) [v4] L4 fun v5 L5 =>
 gdOp F v2 false (.ld none) [v5] L5 fun v6 L6 =>
 gdOp F v2 false .mv [x1] L6 fun v7 L7 =>
 gdOp F v2 false (.iad 3) [v6, v7] L7 fun v8 L8 =>
 gdOp F v2 false (.fad 1) [v8] L8 fun v9 L9 =>
 gdOp F v2 false (.ld none) [v9] L9 fun v10 L10 =>
 gdOp F v2 false (.un .not) [v10] L10 fun v11 L11 =>
 wpOp F .pick [v2, (.b true), v11] L11 fun v12 L12 =>
 condW v12
 (fin1 (some (.b false)) Q L12)
 (D_tree_Tree_Detach_3 F N Q x0 x1 L12)
theorem e_tree_Tree_Detach_2 (F : Nat → Option AFn) (N : Nat → Nat) (Q : AV → Lg → Prop) (l t : Env) (L : Lg) : wp F (q_tree_Tree_Detach_2 N) l t L (fin [.tmp (.l 4)] Q) (fun _ _ _ _ => False) (fin [.tmp (.l 4)] Q) = D_tree_Tree_Detach_2 F N Q (l 0) (l 1) L := Eq.trans (wpq_seq F (q_tree_Tree_Detach_2a N) (q_tree_Tree_Detach_3 N) l t L (fin [.tmp (.l 4)] Q) (fun _ _ _ _ => False) (fin [.tmp (.l 4)] Q)) (Eq.trans (congrArg (fun Z : Kn => wp F (q_tree_Tree_Detach_2a N) l t L Z (fun _ _ _ _ => False) (fin [.tmp (.l 4)] Q)) (funext fun l => funext fun t => funext fun L => e_tree_Tree_Detach_3 F N Q l t L)) (by kernel_rfl))
def q_tree_Tree_Detach_1a (N : Nat → Nat) : ACode := (.reg [⟨.l 4, none, .mv, [.c (.b false)]⟩])
def q_tree_Tree_Detach_1 (N : Nat → Nat) : ACode := (.seq (q_tree_Tree_Detach_1a N) (q_tree_Tree_Detach_2 N))
noncomputable def D_tree_Tree_Detach_1 (F : Nat → Option AFn) (N : Nat → Nat) (Q : AV → Lg → Prop) (x0 : AV) (x1 : AV) (L : Lg) : Prop :=
 D_tree_Tree_Detach_2 F N Q x0 x1 L
theorem e_tree_Tree_Detach_1 (F : Nat → Option AFn) (N : Nat → Nat) (Q : AV → Lg → Prop) (l t : Env) (L : Lg) : wp F (q_tree_Tree_Detach_1 N) l t L (fin [.tmp (.l 4)] Q) (fun _ _ _ _ => False) (fin [.tmp (.l 4)] Q) = D_tree_Tree_Detach_1 F N Q (l 0) (l 1) L := Eq.trans (wpq_seq F (q_tree_Tree_Detach_1a N) (q_tree_Tree_Detach_2 N) l t L (fin [.tmp (.l 4)] Q) (fun _ _ _ _ => False) (fin [.tmp (.l 4)] Q)) (Eq.trans (congrArg (fun Z : Kn => wp F (q_tree_Tree_Detach_1a N) l t L Z (fun _ _ _ _ => False) (fin [.tmp (.l 4)] Q)) (funext fun l => funext fun t => funext fun L => e_tree_Tree_Detach_2 F N Q l t L)) (by kernel_rfl))
/-- (*tarpaulin/tree.Tree).Detach -/
def c_tree_Tree_Detach (N : Nat → Nat) : AFn := ⟨q_tree_Tree_Detach_1 N, [.tmp (.l 4)]⟩
structure H_tree_Tree_Detach (N : Nat → Nat) (F : Nat → Option AFn) : Prop where
  code : F (N k_tree_Tree_Detach) = some (c_tree_Tree_Detach N)
  tree_Tree_has : H_tree_Tree_has N F
  slices_Index_intint : H_slices_Index_intint N F
  slices_Delete_intint : H_slices_Delete_intint N F
theorem r_tree_Tree_Detach {F : Nat → Option AFn} {N : Nat → Nat} (h : F (N k_tree_Tree_Detach) = some (c_tree_Tree_Detach N)) {Q : AV → Lg → Prop} {a0 a1 : AV} {L : Lg} (e : D_tree_Tree_Detach_1 F N Q a0 a1 L) : CallL F (N k_tree_Tree_Detach) [a0, a1] L Q :=
  CallL.of_wp h (Eq.mpr (Eq.trans (e_tree_Tree_Detach_1 F N Q (initE [a0, a1] 0) Env.nil L) (by kernel_rfl : _ = D_tree_Tree_Detach_1 F N Q a0 a1 L)) e)
def q_ctx_Set_start_1 (N : Nat → Nat) : ACode := (.seq (.reg [⟨.l 4, none, .alloc [.i .i64 0, .i .i64 0], []⟩]) (.seq (.reg [⟨.t 6, none, .mv, [.l 0]⟩, ⟨.t 7, none, .nilchk, [.t 6]⟩, ⟨.t 8, none, .fad 3, [.t 7]⟩, ⟨.t 9, none, .ld none, [.t 8]⟩, ⟨.t 10, none, .mv, [.l 1]⟩, ⟨.t 11, none, .iad 3, [.t 9, .t 10]⟩, ⟨.l 5, none, .mv, [.t 11]⟩]) (.seq (.reg [⟨.t 12, none, .mv, [.l 5]⟩, ⟨.t 13, none, .nilchk, [.t 12]⟩, ⟨.t 14, none, .fad 2, [.t 13]⟩, ⟨.no, none, .st 1, [.t 14, .c (.b true)]⟩]) (.seq (.reg [⟨.t 15, none, .mv, [.l 0]⟩, ⟨.t 16, none, .nilchk, [.t 15]⟩, ⟨.t 17, none, .fad 1, [.t 16]⟩, ⟨.t 18, none, .ld none, [.t 17]⟩, ⟨.t 19, none, .mv, [.l 5]⟩, ⟨.t 20, none, .nilchk, [.t 19]⟩, ⟨.t 21, none, .fad 0, [.t 20]⟩, ⟨.t 22, none, .ld none, [.t 21]⟩, ⟨.t 23, none, .call (N k_tree_Tree_Detach), [.t 18, .t 22]⟩]) (.seq (.reg [⟨.t 24, none, .mv, [.l 1]⟩, ⟨.t 25, none, .mv, [.l 5]⟩, ⟨.t 26, none, .nilchk, [.t 25]⟩, ⟨.t 27, none, .fad 1, [.t 26]⟩, ⟨.t 28, none, .ld none, [.t 27]⟩, ⟨.t 29, none, .build [.i .i64 0, .i .i64 0] [(0, 1), (1, 1)], [.t 24, .t 28]⟩, ⟨.no, none, .st 2, [.l 4, .t 29]⟩]) .ret)))))
noncomputable def D_ctx_Set_start_1 (F : Nat → Option AFn) (N : Nat → Nat) (Q : AV → Lg → Prop) (x0 : AV) (x1 : AV) (L : Lg) : Prop :=
 wpOp F (.alloc [.i .i64 0, .i .i64 0]) [] L fun v1 L1 =>
 wpOp F .nilchk [x0] L1 fun v2 L2 =>
 wpOp F (.fad 3) [v2] L2 fun v3 L3 =>
 wpOp F (.ld none) [v3] L3 fun v4 L4 =>
 wpOp F (.iad 3) [v4, x1] L4 fun v5 L5 =>
 wpOp F .nilchk [v5] L5 fun v6 L6 =>
 wpOp F (.fad 2) [v6] L6 fun v7 L7 =>
 wpOp F (.st 1) [v7, (.b true)] L7 fun _ L8 =>
 wpOp F .nilchk [x0] L8 fun v9 L9 =>
 wpOp F (.fad 1) [v9] L9 fun v10 L10 =>
 wpOp F (.ld none) [v10] L10 fun v11 L11 =>
 wpOp F .nilchk [v5] L11 fun v12 L12 =>
 wpOp F (.fad 0) [v12] L12 fun v13 L13 =>
 wpOp F (.ld none) [v13] L13 fun v14 L14 =>
 CallL F (N k_tree_Tree_Detach) [v11, v14] L14 fun v15 L15 =>
 wpOp F .nilchk [v5] L15 fun v16 L16 =>
 wpOp F (.fad 1) [v16] L16 fun v17 L17 =>
 wpOp F (.ld none) [v17] L17 fun v18 L18 =>
 wpOp F (.build [.i .i64 0, .i .i64 0] [(0, 1), (1, 1)]) [x1, v18] L18 fun v19 L19 =>
 wpOp F (.st 2) [v1, v19] L19 fun _ L20 =>
 fin1 (resVL Env.nil Env.nil L20 [.cell (.c v1) (some 2)]) Q L20
theorem e_ctx_Set_start_1 (F : Nat → Option AFn) (N : Nat → Nat) (Q : AV → Lg → Prop) (l t : Env) (L : Lg) : wp F (q_ctx_Set_start_1 N) l t L (fin [.cell (.l 4) (some 2)] Q) (fun _ _ _ _ => False) (fin [.cell (.l 4) (some 2)] Q) = D_ctx_Set_start_1 F N Q (l 0) (l 1) L := by kernel_rfl
/-- (*tarpaulin/ctx.Set).start -/
def c_ctx_Set_start (N : Nat → Nat) : AFn := ⟨q_ctx_Set_start_1 N, [.cell (.l 4) (some 2)]⟩
structure H_ctx_Set_start (N : Nat → Nat) (F : Nat → Option AFn) : Prop where
  code : F (N k_ctx_Set_start) = some (c_ctx_Set_start N)
  tree_Tree_Detach : H_tree_Tree_Detach N F
theorem r_ctx_Set_start {F : Nat → Option AFn} {N : Nat → Nat} (h : F (N k_ctx_Set_start) = some (c_ctx_Set_start N)) {Q : AV → Lg → Prop} {a0 a1 : AV} {L : Lg} (e : D_ctx_Set_start_1 F N Q a0 a1 L) : CallL F (N k_ctx_Set_start) [a0, a1] L Q :=
  CallL.of_wp h (Eq.mpr (Eq.trans (e_ctx_Set_start_1 F N Q (initE [a0, a1] 0) Env.nil L) (by kernel_rfl : _ = D_ctx_Set_start_1 F N Q a0 a1 L)) e)
def q_ctx_Set_cancel_8 (N : Nat → Nat) : ACode := (.seq (.reg [⟨.t 105, none, .mv, [.l 0]⟩, ⟨.t 106, none, .nilchk, [.t 105]⟩, ⟨.t 107, none, .fad 1, [.t 106]⟩, ⟨.t 108, none, .ld none, [.t 107]⟩, ⟨.t 109, none, .mv, [.l 10]⟩, ⟨.t 110, none, .nilchk, [.t 109]⟩, ⟨.t 111, none, .fad 0, [.t 110]⟩, ⟨.t 112, none, .ld none, [.t 111]⟩, ⟨.t 113, none, .call (N k_tree_Tree_Detach), [.t 108, .t 112]⟩]) (.seq (.reg [⟨.t 114, none, .mv, [.l 8]⟩, ⟨.t 115, none, .mv, [.l 9]⟩, ⟨.l 8, none, .mv, [.t 114]⟩, ⟨.l 9, none, .mv, [.t 115]⟩]) .ret))
noncomputable def D_ctx_Set_cancel_8 (F : Nat → Option AFn) (N : Nat → Nat) (Q : AV → Lg → Prop) (x0 : AV) (x8 : AV) (x9 : AV) (x10 : AV) (L : Lg) : Prop :=
 wpOp F .nilchk [x0] L fun v1 L1 =>
 wpOp F (.fad 1) [v1] L1 fun v2 L2 =>
 wpOp F (.ld none) [v2] L2 fun v3 L3 =>
 wpOp F .nilchk [x10] L3 fun v4 L4 =>
 wpOp F (.fad 0) [v4] L4 fun v5 L5 =>
 wpOp F (.ld none) [v5] L5 fun v6 L6 =>
 CallL F (N k_tree_Tree_Detach) [v3, v6] L6 fun v7 L7 =>
 fin1 (some (.tup [x8, x9])) Q L7
theorem e_ctx_Set_cancel_8 (F : Nat → Option AFn) (N : Nat → Nat) (Q : AV → Lg → Prop) (l t : Env) (L : Lg) : wp F (q_ctx_Set_cancel_8 N) l t L (fin [.tmp (.l 8), .tmp (.l 9)] Q) (fun _ _ _ _ => False) (fin [.tmp (.l 8), .tmp (.l 9)] Q) = D_ctx_Set_cancel_8 F N Q (l 0) (l 8) (l 9) (l 10) L := by kernel_rfl
def q_ctx_Set_cancel_15 (N : Nat → Nat) : ACode := (.reg [⟨.t 104, none, .bin .add, [.l 70, .c (.i .i64 1)]⟩, ⟨.l 70, none, .mv, [.t 104]⟩])
noncomputable def D_ctx_Set_cancel_15 (F : Nat → Option AFn) (N : Nat → Nat) (Q : AV → Lg → Prop) (k1 : Env → Lg → Prop) (l : Env) (L : Lg) : Prop :=
 wpOp F (.bin .add) [(l 70), (.i .i64 1)] L fun v1 L1 =>
 k1 (Env.put l 70 v1) L1
theorem e_ctx_Set_cancel_15 (F : Nat → Option AFn) (N : Nat → Nat) (Q : AV → Lg → Prop) (k1 : Env → Lg → Prop) (l t : Env) (L : Lg) : wp F (q_ctx_Set_cancel_15 N) l t L (fun (l _ : Env) (L : Lg) => k1 l L) (fun (j : Nat) (l t : Env) (L : Lg) => bif Nat.beq j 0 then (fun (l t : Env) (L : Lg) => D_ctx_Set_cancel_8 F N Q (l 0) (l 8) (l 9) (l 10) L) l t L else (fun _ _ _ _ => False) j l t L) (fin [.tmp (.l 8), .tmp (.l 9)] Q) = D_ctx_Set_cancel_15 F N Q k1 l L := by kernel_rfl
def q_ctx_Set_cancel_14a (N : Nat → Nat) : ACode := (.block 1 (.seq (.reg [⟨.t 72, none, .iad 1, [.l 68, .l 70]⟩, ⟨.t 73, none, .ld none, [.t 72]⟩, ⟨.l 12, none, .mv, [.t 73]⟩]) (.seq (.reg [⟨.t 74, none, .mv, [.l 0]⟩, ⟨.t 75, none, .nilchk, [.t 74]⟩, ⟨.t 76, none, .fad 4, [.t 75]⟩, ⟨.t 77, none, .ld none, [.t 76]⟩, ⟨.t 78, none, .mv, [.l 12]⟩, ⟨.t 79, none, .lkup (.i .i64 0) false, [.t 77, .t 78]⟩, ⟨.l 13, none, .mv, [.t 79]⟩]) (.seq (.seq (.reg [⟨.t 80, none, .mv, [.l 13]⟩, ⟨.t 81, none, .bin .lss, [.t 80, .c (.i .i64 0)]⟩]) (.cond (.t 81) (.seq (.reg [⟨.t 82, none, .mv, [.l 9]⟩, ⟨.t 83, none, .mv, [.l 0]⟩, ⟨.t 84, none, .mv, [.l 13]⟩, ⟨.t 85, none, .un .neg, [.t 84]⟩, ⟨.t 86, none, .bin .sub, [.t 85, .c (.i .i64 1)]⟩, ⟨.t 87, none, .call (N k_ctx_Set_start), [.t 83, .t 86]⟩, ⟨.t 88, none, .bslice [.i .i64 0, .i .i64 0] 1 2 [0], [.t 87]⟩, ⟨.t 89, none, .app 2 16, [.t 82, .t 88]⟩, ⟨.l 9, none, .mv, [.t 89]⟩]) (.exit 1)) .skip)) (.seq (.reg [⟨.t 91, none, .mv, [.l 0]⟩, ⟨.t 92, none, .mv, [.l 13]⟩, ⟨.t 93, none, .mv, [.l 2]⟩, ⟨.t 94, none, .mv, [.l 3]⟩, ⟨.t 95, none, .call (N k_ctx_Set_cancel), [.t 91, .t 92, .t 93, .t 94]⟩, ⟨.t 90, none, .mv, [.t 95]⟩, ⟨.t 96, none, .ext 0, [.t 90]⟩, ⟨.t 97, none, .ext 1, [.t 90]⟩, ⟨.l 14, none, .mv, [.t 96]⟩, ⟨.l 15, none, .mv, [.t 97]⟩]) (.reg [⟨.t 98, none, .mv, [.l 8]⟩, ⟨.t 99, none, .mv, [.l 14]⟩, ⟨.t 100, none, .app 4 48, [.t 98, .t 99]⟩, ⟨.t 101, none, .mv, [.l 9]⟩, ⟨.t 102, none, .mv, [.l 15]⟩, ⟨.t 103, none, .app 2 16, [.t 101, .t 102]⟩, ⟨.l 8, none, .mv, [.t 100]⟩, ⟨.l 9, none, .mv, [.t 103]⟩]))))))
def q_ctx_Set_cancel_14 (N : Nat → Nat) : ACode := (.seq (q_ctx_Set_cancel_14a N) (q_ctx_Set_cancel_15 N))
noncomputable def D_ctx_Set_cancel_14 (F : Nat → Option AFn) (N : Nat → Nat) (Q : AV → Lg → Prop) (k1 : Env → Lg → Prop) (l : Env) (L : Lg) : Prop :=
 wpOp F (.iad 1) [(l 68), (l 70)] L fun v1 L1 =>
 wpOp F (.ld none) [v1] L1 fun v2 L2 =>
 wpOp F .nilchk [(l 0)] L2 fun v3 L3 =>
 wpOp F (.fad 4) [v3] L3 fun v4 L4 =>
 wpOp F (.ld none) [v4] L4 fun v5 L5 =>
 wpOp F (.lkup (.i .i64 0) false) [v5, v2] L5 fun v6 L6 =>
 wpOp F (.bin .lss) [v6, (.i .i64 0)] L6 fun v7 L7 =>
 condW v7
 (wpOp F (.un .neg) [v6] L7 fun v8 L8 =>
 wpOp F (.bin .sub) [v8, (.i .i64 1)] L8 fun v9 L9 =>
 CallL F (N k_ctx_Set_start) [(l 0), v9] L9 fun v10 L10 =>
 wpOp F (.bslice [.i .i64 0, .i .i64 0] 1 2 [0]) [v10] L10 fun v11 L11 =>
 wpOp F (.app 2 16) [(l 9), v11] L11 fun v12 L12 =>
 D_ctx_Set_cancel_15 F N Q k1 (Env.put (Env.put (Env.put l 12 v2) 13 v6) 9 v12) L12)
 (CallL F (N k_ctx_Set_cancel) [(l 0), v6, (l 2), (l 3)] L7 fun v13 L13 =>
 wpOp F (.ext 0) [v13] L13 fun v14 L14 =>
 wpOp F (.ext 1) [v13] L14 fun v15 L15 =>
 wpOp F (.app 4 48) [(l 8), v14] L15 fun v16 L16 =>
 wpOp F (.app 2 16) [(l 9), v15] L16 fun v17 L17 =>
 D_ctx_Set_cancel_15 F N Q k1 (Env.put (Env.put (Env.put (Env.put (Env.put (Env.put l 12 v2) 13 v6) 14 v14) 15 v15) 8 v16) 9 v17) L17)
theorem e_ctx_Set_cancel_14 (F : Nat → Option AFn) (N : Nat → Nat) (Q : AV → Lg → Prop) (k1 : Env → Lg → Prop) (l t : Env) (L : Lg) : wp F (q_ctx_Set_cancel_14 N) l t L (fun (l _ : Env) (L : Lg) => k1 l L) (fun (j : Nat) (l t : Env) (L : Lg) => bif Nat.beq j 0 then (fun (l t : Env) (L : Lg) => D_ctx_Set_cancel_8 F N Q (l 0) (l 8) (l 9) (l 10) L) l t L else (fun _ _ _ _ => False) j l t L) (fin [.tmp (.l 8), .tmp (.l 9)] Q) = D_ctx_Set_cancel_14 F N Q k1 l L := Eq.trans (wpq_seq F (q_ctx_Set_cancel_14a N) (q_ctx_Set_cancel_15 N) l t L (fun (l _ : Env) (L : Lg) => k1 l L) (fun (j : Nat) (l t : Env) (L : Lg) => bif Nat.beq j 0 then (fun (l t : Env) (L : Lg) => D_ctx_Set_cancel_8 F N Q (l 0) (l 8) (l 9) (l 10) L) l t L else (fun _ _ _ _ => False) j l t L) (fin [.tmp (.l 8), .tmp (.l 9)] Q)) (Eq.trans (congrArg (fun Z : Kn => wp F (q_ctx_Set_cancel_14a N) l t L Z (fun (j : Nat) (l t : Env) (L : Lg) => bif Nat.beq j 0 then (fun (l t : Env) (L : Lg) => D_ctx_Set_cancel_8 F N Q (l 0) (l 8) (l 9) (l 10) L) l t L else (fun _ _ _ _ => False) j l t L) (fin [.tmp (.l 8), .tmp (.l 9)] Q)) (funext fun l => funext fun t => funext fun L => e_ctx_Set_cancel_15 F N Q k1 l t L)) (by kernel_rfl))
def q_ctx_Set_cancel_13a (N : Nat → Nat) : ACode := (.cond (.t 71) .skip (.exit 0))
def q_ctx_Set_cancel_13 (N : Nat → Nat) : ACode := (.seq (q_ctx_Set_cancel_13a N) (q_ctx_Set_cancel_14 N))
noncomputable def D_ctx_Set_cancel_13 (F : Nat → Option AFn) (N : Nat → Nat) (Q : AV → Lg → Prop) (k1 : Env → Lg → Prop) (l : Env) (t71 : AV) (L : Lg) : Prop :=
 condW t71
 (D_ctx_Set_cancel_14 F N Q k1 l L)
 (D_ctx_Set_cancel_8 F N Q (l 0) (l 8) (l 9) (l 10) L)
theorem e_ctx_Set_cancel_13 (F : Nat → Option AFn) (N : Nat → Nat) (Q : AV → Lg → Prop) (k1 : Env → Lg → Prop) (l t : Env) (L : Lg) : wp F (q_ctx_Set_cancel_13 N) l t L (fun (l _ : Env) (L : Lg) => k1 l L) (fun (j : Nat) (l t : Env) (L : Lg) => bif Nat.beq j 0 then (fun (l t : Env) (L : Lg) => D_ctx_Set_cancel_8 F N Q (l 0) (l 8) (l 9) (l 10) L) l t L else (fun _ _ _ _ => False) j l t L) (fin [.tmp (.l 8), .tmp (.l 9)] Q) = D_ctx_Set_cancel_13 F N Q k1 l (t 71) L := Eq.trans (wpq_seq F (q_ctx_Set_cancel_13a N) (q_ctx_Set_cancel_14 N) l t L (fun (l _ : Env) (L : Lg) => k1 l L) (fun (j : Nat) (l t : Env) (L : Lg) => bif Nat.beq j 0 then (fun (l t : Env) (L : Lg) => D_ctx_Set_cancel_8 F N Q (l 0) (l 8) (l 9) (l 10) L) l t L else (fun _ _ _ _ => False) j l t L) (fin [.tmp (.l 8), .tmp (.l 9)] Q)) (Eq.trans (congrArg (fun Z : Kn => wp F (q_ctx_Set_cancel_13a N) l t L Z (fun (j : Nat) (l t : Env) (L : Lg) => bif Nat.beq j 0 then (fun (l t : Env) (L : Lg) => D_ctx_Set_cancel_8 F N Q (l 0) (l 8) (l 9) (l 10) L) l t L else (fun _ _ _ _ => False) j l t L) (fin [.tmp (.l 8), .tmp (.l 9)] Q)) (funext fun l => funext fun t => funext fun L => e_ctx_Set_cancel_14 F N Q k1 l t L)) (by kernel_rfl))
def q_ctx_Set_cancel_12a (N : Nat → Nat) : ACode := (.reg [⟨.t 71, none, .bin .lss, [.l 70, .l 69]⟩])
def q_ctx_Set_cancel_12 (N : Nat → Nat) : ACode := (.seq (q_ctx_Set_cancel_12a N) (q_ctx_Set_cancel_13 N))
noncomputable def D_ctx_Set_cancel_12 (F : Nat → Option AFn) (N : Nat → Nat) (Q : AV → Lg → Prop) (k1 : Env → Lg → Prop) (l : Env) (L : Lg) : Prop :=
 wpOp F (.bin .lss) [(l 70), (l 69)] L fun v1 L1 =>
 D_ctx_Set_cancel_13 F N Q k1 l v1 L1
theorem e_ctx_Set_cancel_12 (F : Nat → Option AFn) (N : Nat → Nat) (Q : AV → Lg → Prop) (k1 : Env → Lg → Prop) (l t : Env) (L : Lg) : wp F (q_ctx_Set_cancel_12 N) l t L (fun (l _ : Env) (L : Lg) => k1 l L) (fun (j : Nat) (l t : Env) (L : Lg) => bif Nat.beq j 0 then (fun (l t : Env) (L : Lg) => D_ctx_Set_cancel_8 F N Q (l 0) (l 8) (l 9) (l 10) L) l t L else (fun _ _ _ _ => False) j l t L) (fin [.tmp (.l 8), .tmp (.l 9)] Q) = D_ctx_Set_cancel_12 F N Q k1 l L := Eq.trans (wpq_seq F (q_ctx_Set_cancel_12a N) (q_ctx_Set_cancel_13 N) l t L (fun (l _ : Env) (L : Lg) => k1 l L) (fun (j : Nat) (l t : Env) (L : Lg) => bif Nat.beq j 0 then (fun (l t : Env) (L : Lg) => D_ctx_Set_cancel_8 F N Q (l 0) (l 8) (l 9) (l 10) L) l t L else (fun _ _ _ _ => False) j l t L) (fin [.tmp (.l 8), .tmp (.l 9)] Q)) (Eq.trans (congrArg (fun Z : Kn => wp F (q_ctx_Set_cancel_12a N) l t L Z (fun (j : Nat) (l t : Env) (L : Lg) => bif Nat.beq j 0 then (fun (l t : Env) (L : Lg) => D_ctx_Set_cancel_8 F N Q (l 0) (l 8) (l 9) (l 10) L) l t L else (fun _ _ _ _ => False) j l t L) (fin [.tmp (.l 8), .tmp (.l 9)] Q)) (funext fun l => funext fun t => funext fun L => e_ctx_Set_cancel_13 F N Q k1 l t L)) (by kernel_rfl))
def q_ctx_Set_cancel_11 (N : Nat → Nat) : ACode := (.loop (q_ctx_Set_cancel_12 N))
noncomputable def D_ctx_Set_cancel_11 (F : Nat → Option AFn) (N : Nat → Nat) (Q : AV → Lg → Prop) (l : Env) (L : Lg) : Prop :=
 loopW (fun l t L k1 => D_ctx_Set_cancel_12 F N Q k1 l L) l L
theorem e_ctx_Set_cancel_11 (F : Nat → Option AFn) (N : Nat → Nat) (Q : AV → Lg → Prop) (l t : Env) (L : Lg) : wp F (q_ctx_Set_cancel_11 N) l t L (fun (l t : Env) (L : Lg) => D_ctx_Set_cancel_8 F N Q (l 0) (l 8) (l 9) (l 10) L) (fun (j : Nat) (l t : Env) (L : Lg) => bif Nat.beq j 0 then (fun (l t : Env) (L : Lg) => D_ctx_Set_cancel_8 F N Q (l 0) (l 8) (l 9) (l 10) L) l t L else (fun _ _ _ _ => False) j l t L) (fin [.tmp (.l 8), .tmp (.l 9)] Q) = D_ctx_Set_cancel_11 F N Q l L := Eq.trans (wpq_loop F (q_ctx_Set_cancel_12 N) l t L (fun (l t : Env) (L : Lg) => D_ctx_Set_cancel_8 F N Q (l 0) (l 8) (l 9) (l 10) L) (fun (j : Nat) (l t : Env) (L : Lg) => bif Nat.beq j 0 then (fun (l t : Env) (L : Lg) => D_ctx_Set_cancel_8 F N Q (l 0) (l 8) (l 9) (l 10) L) l t L else (fun _ _ _ _ => False) j l t L) (fin [.tmp (.l 8), .tmp (.l 9)] Q)) (Eq.trans (congrArg (fun B => loopW B l L) (funext fun l => funext fun t => funext fun L => funext fun k1 => e_ctx_Set_cancel_12 F N Q k1 l t L)) (by kernel_rfl))
def q_ctx_Set_cancel_10 (N : Nat → Nat) : ACode := (.block 0 (q_ctx_Set_cancel_11 N))
theorem e_ctx_Set_cancel_10 (F : Nat → Option AFn) (N : Nat → Nat) (Q : AV → Lg → Prop) (l t : Env) (L : Lg) : wp F (q_ctx_Set_cancel_10 N) l t L (fun (l t : Env) (L : Lg) => D_ctx_Set_cancel_8 F N Q (l 0) (l 8) (l 9) (l 10) L) (fun _ _ _ _ => False) (fin [.tmp (.l 8), .tmp (.l 9)] Q) = D_ctx_Set_cancel_11 F N Q l L := Eq.trans (wpq_block F 0 (q_ctx_Set_cancel_11 N) l t L (fun (l t : Env) (L : Lg) => D_ctx_Set_cancel_8 F N Q (l 0) (l 8) (l 9) (l 10) L) (fun _ _ _ _ => False) (fin [.tmp (.l 8), .tmp (.l 9)] Q)) (e_ctx_Set_cancel_11 F N Q l t L)
def q_ctx_Set_cancel_9a (N : Nat → Nat) : ACode := (.reg [⟨.t 60, none, .mv, [.l 0]⟩, ⟨.t 61, none, .nilchk, [.t 60]⟩, ⟨.t 62, none, .fad 1, [.t 61]⟩, ⟨.t 63, none, .ld none, [.t 62]⟩, ⟨.t 64, none, .mv, [.l 10]⟩, ⟨.t 65, none, .nilchk, [.t 64]⟩, ⟨.t 66, none, .fad 0, [.t 65]⟩, ⟨.t 67, none, .ld none, [.t 66]⟩, ⟨.l 68, none, .call (N k_tree_Tree_Kids), [.t 63, .t 67]⟩, ⟨.l 69, none, .lenSl, [.l 68]⟩, ⟨.l 70, none, .mv, [.c (.i .i64 0)]⟩])
def q_ctx_Set_cancel_9 (N : Nat → Nat) : ACode := (.seq (q_ctx_Set_cancel_9a N) (q_ctx_Set_cancel_10 N))
noncomputable def D_ctx_Set_cancel_9 (F : Nat → Option AFn) (N : Nat → Nat) (Q : AV → Lg → Prop) (l : Env) (L : Lg) : Prop :=
 wpOp F .nilchk [(l 0)] L fun v1 L1 =>
 wpOp F (.fad 1) [v1] L1 fun v2 L2 =>
 wpOp F (.ld none) [v2] L2 fun v3 L3 =>
 wpOp F .nilchk [(l 10)] L3 fun v4 L4 =>
 wpOp F (.fad 0) [v4] L4 fun v5 L5 =>
 wpOp F (.ld none) [v5] L5 fun v6 L6 =>
 CallL F (N k_tree_Tree_Kids) [v3, v6] L6 fun v7 L7 =>
 wpOp F .lenSl [v7] L7 fun v8 L8 =>
 D_ctx_Set_cancel_11 F N Q (Env.put (Env.put (Env.put l 68 v7) 69 v8) 70 (.i .i64 0)) L8
theorem e_ctx_Set_cancel_9 (F : Nat → Option AFn) (N : Nat → Nat) (Q : AV → Lg → Prop) (l t : Env) (L : Lg) : wp F (q_ctx_Set_cancel_9 N) l t L (fun (l t : Env) (L : Lg) => D_ctx_Set_cancel_8 F N Q (l 0) (l 8) (l 9) (l 10) L) (fun _ _ _ _ => False) (fin [.tmp (.l 8), .tmp (.l 9)] Q) = D_ctx_Set_cancel_9 F N Q l L := Eq.trans (wpq_seq F (q_ctx_Set_cancel_9a N) (q_ctx_Set_cancel_10 N) l t L (fun (l t : Env) (L : Lg) => D_ctx_Set_cancel_8 F N Q (l 0) (l 8) (l 9) (l 10) L) (fun _ _ _ _ => False) (fin [.tmp (.l 8), .tmp (.l 9)] Q)) (Eq.trans (congrArg (fun Z : Kn => wp F (q_ctx_Set_cancel_9a N) l t L Z (fun _ _ _ _ => False) (fin [.tmp (.l 8), .tmp (.l 9)] Q)) (funext fun l => funext fun t => funext fun L => e_ctx_Set_cancel_10 F N Q l t L)) (by kernel_rfl))
def q_ctx_Set_cancel_7 (N : Nat → Nat) : ACode := (.seq (q_ctx_Set_cancel_9 N) (q_ctx_Set_cancel_8 N))
theorem e_ctx_Set_cancel_7 (F : Nat → Option AFn) (N : Nat → Nat) (Q : AV → Lg → Prop) (l t : Env) (L : Lg) : wp F (q_ctx_Set_cancel_7 N) l t L (fin [.tmp (.l 8), .tmp (.l 9)] Q) (fun _ _ _ _ => False) (fin [.tmp (.l 8), .tmp (.l 9)] Q) = D_ctx_Set_cancel_9 F N Q l L := Eq.trans (wpq_seq F (q_ctx_Set_cancel_9 N) (q_ctx_Set_cancel_8 N) l t L (fin [.tmp (.l 8), .tmp (.l 9)] Q) (fun _ _ _ _ => False) (fin [.tmp (.l 8), .tmp (.l 9)] Q)) (Eq.trans (congrArg (fun Z : Kn => wp F (q_ctx_Set_cancel_9 N) l t L Z (fun _ _ _ _ => False) (fin [.tmp (.l 8), .tmp (.l 9)] Q)) (funext fun l => funext fun t => funext fun L => e_ctx_Set_cancel_8 F N Q l t L)) (e_ctx_Set_cancel_9 F N Q l t L))
def q_ctx_Set_cancel_6a (N : Nat → Nat) : ACode := (.reg [⟨.t 51, none, .mv, [.l 0]⟩, ⟨.t 52, none, .nilchk, [.t 51]⟩, ⟨.t 53, none, .fad 0, [.t 52]⟩, ⟨.t 54, none, .ld none, [.t 53]⟩, ⟨.t 55, none, .mv, [.l 10]⟩, ⟨.t 56, none, .nilchk, [.t 55]⟩, ⟨.t 57, none, .fad 8, [.t 56]⟩, ⟨.t 58, none, .ld none, [.t 57]⟩, ⟨.t 59, none, .call (N k_timer_Set_Stop), [.t 54, .t 58]⟩])
def q_ctx_Set_cancel_6 (N : Nat → Nat) : ACode := (.seq (q_ctx_Set_cancel_6a N) (q_ctx_Set_cancel_7 N))
noncomputable def D_ctx_Set_cancel_6 (F : Nat → Option AFn) (N : Nat → Nat) (Q : AV → Lg → Prop) (l : Env) (L : Lg) : Prop :=
 wpOp F .nilchk [(l 0)] L fun v1 L1 =>
 wpOp F (.fad 0) [v1] L1 fun v2 L2 =>
 wpOp F (.ld none) [v2] L2 fun v3 L3 =>
 wpOp F .nilchk [(l 10)] L3 fun v4 L4 =>
 wpOp F (.fad 8) [v4] L4 fun v5 L5 =>
 wpOp F (.ld none) [v5] L5 fun v6 L6 =>
 CallL F (N k_timer_Set_Stop) [v3, v6] L6 fun v7 L7 =>
 D_ctx_Set_cancel_9 F N Q l L7
theorem e_ctx_Set_cancel_6 (F : Nat → Option AFn) (N : Nat → Nat) (Q : AV → Lg → Prop) (l t : Env) (L : Lg) : wp F (q_ctx_Set_cancel_6 N) l t L (fin [.tmp (.l 8), .tmp (.l 9)] Q) (fun _ _ _ _ => False) (fin [.tmp (.l 8), .tmp (.l 9)] Q) = D_ctx_Set_cancel_6 F N Q l L := Eq.trans (wpq_seq F (q_ctx_Set_cancel_6a N) (q_ctx_Set_cancel_7 N) l t L (fin [.tmp (.l 8), .tmp (.l 9)] Q) (fun _ _ _ _ => False) (fin [.tmp (.l 8), .tmp (.l 9)] Q)) (Eq.trans (congrArg (fun Z : Kn => wp F (q_ctx_Set_cancel_6a N) l t L Z (fun _ _ _ _ => False) (fin [.tmp (.l 8), .tmp (.l 9)] Q)) (funext fun l => funext fun t => funext fun L => e_ctx_Set_cancel_7 F N Q l t L)) (by kernel_rfl))
def q_ctx_Set_cancel_5a (N : Nat → Nat) : ACode := (.reg [⟨.t 41, none, .mv, [.l 1]⟩, ⟨.t 42, none, .mv, [.l 2]⟩, ⟨.t 43, none, .mv, [.l 3]⟩, ⟨.t 44, none, .mv, [.l 10]⟩, ⟨.t 45, none, .nilchk, [.t 44]⟩, ⟨.t 46, none, .fad 2, [.t 45]⟩, ⟨.t 47, none, .ld none, [.t 46]⟩, ⟨.t 48, none, .call (N k_chanq_Chan_End), [.t 47]⟩, ⟨.t 49, none, .build [.i .i64 0, .i .i64 0, .i .i64 0, .sl none 0 0 0] [(0, 1), (1, 1), (2, 1), (3, 1)], [.t 41, .t 42, .t 43, .t 48]⟩, ⟨.t 50, none, .bslice [.i .i64 0, .i .i64 0, .i .i64 0, .sl none 0 0 0] 1 4 [0], [.t 49]⟩, ⟨.l 8, none, .mv, [.t 50]⟩])
def q_ctx_Set_cancel_5 (N : Nat → Nat) : ACode := (.seq (q_ctx_Set_cancel_5a N) (q_ctx_Set_cancel_6 N))
noncomputable def D_ctx_Set_cancel_5 (F : Nat → Option AFn) (N : Nat → Nat) (Q : AV → Lg → Prop) (l : Env) (L : Lg) : Prop :=
 wpOp F .nilchk [(l 10)] L fun v1 L1 =>
 wpOp F (.fad 2) [v1] L1 fun v2 L2 =>
 wpOp F (.ld none) [v2] L2 fun v3 L3 =>
 CallL F (N k_chanq_Chan_End) [v3] L3 fun v4 L4 =>
 wpOp F (.build [.i .i64 0, .i .i64 0, .i .i64 0, .sl none 0 0 0] [(0, 1), (1, 1), (2, 1), (3, 1)]) [(l 1), (l 2), (l 3), v4] L4 fun v5 L5 =>
 wpOp F (.bslice [.i .i64 0, .i .i64 0, .i .i64 0, .sl none 0 0 0] 1 4 [0]) [v5] L5 fun v6 L6 =>
 D_ctx_Set_cancel_6 F N Q (Env.put l 8 v6) L6
theorem e_ctx_Set_cancel_5 (F : Nat → Option AFn) (N : Nat → Nat) (Q : AV → Lg → Prop) (l t : Env) (L : Lg) : wp F (q_ctx_Set_cancel_5 N) l t L (fin [.tmp (.l 8), .tmp (.l 9)] Q) (fun _ _ _ _ => False) (fin [.tmp (.l 8), .tmp (.l 9)] Q) = D_ctx_Set_cancel_5 F N Q l L := Eq.trans (wpq_seq F (q_ctx_Set_cancel_5a N) (q_ctx_Set_cancel_6 N) l t L (fin [.tmp (.l 8), .tmp (.l 9)] Q) (fun _ _ _ _ => False) (fin [.tmp (.l 8), .tmp (.l 9)] Q)) (Eq.trans (congrArg (fun Z : Kn => wp F (q_ctx_Set_cancel_5a N) l t L Z (fun _ _ _ _ => False) (fin [.tmp (.l 8), .tmp (.l 9)] Q)) (funext fun l => funext fun t => funext fun L => e_ctx_Set_cancel_6 F N Q l t L)) (by kernel_rfl))
def q_ctx_Set_cancel_4a (N : Nat → Nat) : ACode := (.reg [⟨.t 33, none, .mv, [.l 10]⟩, ⟨.t 34, none, .mv, [.l 10]⟩, ⟨.t 35, none, .mv, [.l 2]⟩, ⟨.t 36, none, .mv, [.l 3]⟩, ⟨.t 37, none, .nilchk, [.t 33]⟩, ⟨.t 38, none, .fad 3, [.t 37]⟩, ⟨.no, none, .st 1, [.t 38, .t 35]⟩, ⟨.t 39, none, .nilchk, [.t 34]⟩, ⟨.t 40, none, .fad 4, [.t 39]⟩, ⟨.no, none, .st 1, [.t 40, .t 36]⟩])
def q_ctx_Set_cancel_4 (N : Nat → Nat) : ACode := (.seq (q_ctx_Set_cancel_4a N) (q_ctx_Set_cancel_5 N))
noncomputable def D_ctx_Set_cancel_4 (F : Nat → Option AFn) (N : Nat → Nat) (Q : AV → Lg → Prop) (l : Env) (L : Lg) : Prop :=
 wpOp F .nilchk [(l 10)] L fun v1 L1 =>
 wpOp F (.fad 3) [v1] L1 fun v2 L2 =>
 wpOp F (.st 1) [v2, (l 2)] L2 fun _ L3 =>
 wpOp F .nilchk [(l 10)] L3 fun v4 L4 =>
 wpOp F (.fad 4) [v4] L4 fun v5 L5 =>
 wpOp F (.st 1) [v5, (l 3)] L5 fun _ L6 =>
 D_ctx_Set_cancel_5 F N Q l L6
theorem e_ctx_Set_cancel_4 (F : Nat → Option AFn) (N : Nat → Nat) (Q : AV → Lg → Prop) (l t : Env) (L : Lg) : wp F (q_ctx_Set_cancel_4 N) l t L (fin [.tmp (.l 8), .tmp (.l 9)] Q) (fun _ _ _ _ => False) (fin [.tmp (.l 8), .tmp (.l 9)] Q) = D_ctx_Set_cancel_4 F N Q l L := Eq.trans (wpq_seq F (q_ctx_Set_cancel_4a N) (q_ctx_Set_cancel_5 N) l t L (fin [.tmp (.l 8), .tmp (.l 9)] Q) (fun _ _ _ _ => False) (fin [.tmp (.l 8), .tmp (.l 9)] Q)) (Eq.trans (congrArg (fun Z : Kn => wp F (q_ctx_Set_cancel_4a N) l t L Z (fun _ _ _ _ => False) (fin [.tmp (.l 8), .tmp (.l 9)] Q)) (funext fun l => funext fun t => funext fun L => e_ctx_Set_cancel_5 F N Q l t L)) (by kernel_rfl))
def q_ctx_Set_cancel_3a (N : Nat → Nat) : ACode := (.seq (.reg [⟨.t 22, none, .mv, [.l 10]⟩, ⟨.t 23, none, .nilchk, [.t 22]⟩, ⟨.t 24, none, .fad 1, [.t 23]⟩, ⟨.t 25, none, .ld none, [.t 24]⟩, ⟨.t 26, none, .mv, [.t 25]⟩, ⟨.t 27, some (.t 26, false), .mv, [.l 10]⟩, ⟨.t 28, some (.t 26, false), .nilchk, [.t 27]⟩, ⟨.t 29, some (.t 26, false), .fad 3, [.t 28]⟩, ⟨.t 30, some (.t 26, false), .ld none, [.t 29]⟩, ⟨.t 31, some (.t 26, false), .bin .neq, [.t 30, .c (.i .i64 0)]⟩, ⟨.t 32, none, .pick, [.t 26, .c (.b true), .t 31]⟩]) (.cond (.t 32) (.seq (.reg [⟨.l 8, none, .mv, [.c (.sl none 0 0 0)]⟩, ⟨.l 9, none, .mv, [.c (.sl none 0 0 0)]⟩]) .ret) .skip))
def q_ctx_Set_cancel_3 (N : Nat → Nat) : ACode := (.seq (q_ctx_Set_cancel_3a N) (q_ctx_Set_cancel_4 N))
noncomputable def D_ctx_Set_cancel_3 (F : Nat → Option AFn) (N : Nat → Nat) (Q : AV → Lg → Prop) (l : Env) (L : Lg) : Prop :=
 wpOp F .nilchk [(l 10)] L fun v1 L1 =>
 wpOp F (.fad 1) [v1] L1 fun v2 L2 =>
 wpOp F (.ld none) [v2] L2 fun v3 L3 =>
 gdOp F v3 false .mv [(l 10)] L3 fun v4 L4 =>
 gdOp F v3 false .nilchk [v4] L4 fun v5 L5 =>
 gdOp F v3 false (.fad 3) [v5] L5 fun v6 L6 =>
 gdOp F v3 false (.ld none) [v6] L6 fun v7 L7 =>
 gdOp F v3 false (.bin .neq) [v7, (.i .i64 0)] L7 fun v8 L8 =>
 wpOp F .pick [v3, (.b true), v8] L8 fun v9 L9 =>
 condW v9
 (fin1 (some (.tup [(.sl none 0 0 0), (.sl none 0 0 0)])) Q L9)
 (D_ctx_Set_cancel_4 F N Q l L9)
theorem e_ctx_Set_cancel_3 (F : Nat → Option AFn) (N : Nat → Nat) (Q : AV → Lg → Prop) (l t : Env) (L : Lg) : wp F (q_ctx_Set_cancel_3 N) l t L (fin [.tmp (.l 8), .tmp (.l 9)] Q) (fun _ _ _ _ => False) (fin [.tmp (.l 8), .tmp (.l 9)] Q) = D_ctx_Set_cancel_3 F N Q l L := Eq.trans (wpq_seq F (q_ctx_Set_cancel_3a N) (q_ctx_Set_cancel_4 N) l t L (fin [.tmp (.l 8), .tmp (.l 9)] Q) (fun _ _ _ _ => False) (fin [.tmp (.l 8), .tmp (.l 9)] Q)) (Eq.trans (congrArg (fun Z : Kn => wp F (q_ctx_Set_cancel_3a N) l t L Z (fun _ _ _ _ => False) (fin [.tmp (.l 8), .tmp (.l 9)] Q)) (funext fun l => funext fun t => funext fun L => e_ctx_Set_cancel_4 F N Q l t L)) (by kernel_rfl))
def q_ctx_Set_cancel_2a (N : Nat → Nat) : ACode := (.reg [⟨.t 16, none, .mv, [.l 0]⟩, ⟨.t 17, none, .nilchk, [.t 16]⟩, ⟨.t 18, none, .fad 2, [.t 17]⟩, ⟨.t 19, none, .ld none, [.t 18]⟩, ⟨.t 20, none, .mv, [.l 1]⟩, ⟨.t 21, none, .iad 9, [.t 19, .t 20]⟩, ⟨.l 10, none, .mv, [.t 21]⟩])
def q_ctx_Set_cancel_2 (N : Nat → Nat) : ACode := (.seq (q_ctx_Set_cancel_2a N) (q_ctx_Set_cancel_3 N))
noncomputable def D_ctx_Set_cancel_2 (F : Nat → Option AFn) (N : Nat → Nat) (Q : AV → Lg → Prop) (l : Env) (L : Lg) : Prop :=
 wpOp F .nilchk [(l 0)] L fun v1 L1 =>
 wpOp F (.fad 2) [v1] L1 fun v2 L2 =>
 wpOp F (.ld none) [v2] L2 fun v3 L3 =>
 wpOp F (.iad 9) [v3, (l 1)] L3 fun v4 L4 =>
 D_ctx_Set_cancel_3 F N Q (Env.put l 10 v4) L4
theorem e_ctx_Set_cancel_2 (F : Nat → Option AFn) (N : Nat → Nat) (Q : AV → Lg → Prop) (l t : Env) (L : Lg) : wp F (q_ctx_Set_cancel_2 N) l t L (fin [.tmp (.l 8), .tmp (.l 9)] Q) (fun _ _ _ _ => False) (fin [.tmp (.l 8), .tmp (.l 9)] Q) = D_ctx_Set_cancel_2 F N Q l L := Eq.trans (wpq_seq F (q_ctx_Set_cancel_2a N) (q_ctx_Set_cancel_3 N) l t L (fin [.tmp (.l 8), .tmp (.l 9)] Q) (fun _ _ _ _ => False) (fin [.tmp (.l 8), .tmp (.l 9)] Q)) (Eq.trans (congrArg (fun Z : Kn => wp F (q_ctx_Set_cancel_2a N) l t L Z (fun _ _ _ _ => False) (fin [.tmp (.l 8), .tmp (.l 9)] Q)) (funext fun l => funext fun t => funext fun L => e_ctx_Set_cancel_3 F N Q l t L)) (by kernel_rfl))
def q_ctx_Set_cancel_1a (N : Nat → Nat) : ACode := (.reg [⟨.l 8, none, .mv, [.c (.sl none 0 0 0)]⟩, ⟨.l 9, none, .mv, [.c (.sl none 0 0 0)]⟩])
def q_ctx_Set_cancel_1 (N : Nat → Nat) : ACode := (.seq (q_ctx_Set_cancel_1a N) (q_ctx_Set_cancel_2 N))
noncomputable def D_ctx_Set_cancel_1 (F : Nat → Option AFn) (N : Nat → Nat) (Q : AV → Lg → Prop) (l : Env) (L : Lg) : Prop :=
 D_ctx_Set_cancel_2 F N Q (Env.put (Env.put l 8 (.sl none 0 0 0)) 9 (.sl none 0 0 0)) L
theorem e_ctx_Set_cancel_1 (F : Nat → Option AFn) (N : Nat → Nat) (Q : AV → Lg → Prop) (l t : Env) (L : Lg) : wp F (q_ctx_Set_cancel_1 N) l t L (fin [.tmp (.l 8), .tmp (.l 9)] Q) (fun _ _ _ _ => False) (fin [.tmp (.l 8), .tmp (.l 9)] Q) = D_ctx_Set_cancel_1 F N Q l L := Eq.trans (wpq_seq F (q_ctx_Set_cancel_1a N) (q_ctx_Set_cancel_2 N) l t L (fin [.tmp (.l 8), .tmp (.l 9)] Q) (fun _ _ _ _ => False) (fin [.tmp (.l 8), .tmp (.l 9)] Q)) (Eq.trans (congrArg (fun Z : Kn => wp F (q_ctx_Set_cancel_1a N) l t L Z (fun _ _ _ _ => False) (fin [.tmp (.l 8), .tmp (.l 9)] Q)) (funext fun l => funext fun t => funext fun L => e_ctx_Set_cancel_2 F N Q l t L)) (by kernel_rfl))
/-- (*tarpaulin/ctx.Set).cancel -/
def c_ctx_Set_cancel (N : Nat → Nat) : AFn := ⟨q_ctx_Set_cancel_1 N, [.tmp (.l 8), .tmp (.l 9)]⟩
structure H_ctx_Set_cancel (N : Nat → Nat) (F : Nat → Option AFn) : Prop where
  code : F (N k_ctx_Set_cancel) = some (c_ctx_Set_cancel N)
  chanq_Chan_End : H_chanq_Chan_End N F
  timer_Set_Stop : H_timer_Set_Stop N F
  tree_Tree_Kids : H_tree_Tree_Kids N F
  ctx_Set_start : H_ctx_Set_start N F
  tree_Tree_Detach : H_tree_Tree_Detach N F
theorem r_ctx_Set_cancel {F : Nat → Option AFn} {N : Nat → Nat} (h : F (N k_ctx_Set_cancel) = some (c_ctx_Set_cancel N)) {Q : AV → Lg → Prop} {a0 a1 a2 a3 : AV} {L : Lg} (e : D_ctx_Set_cancel_1 F N Q (initE [a0, a1, a2, a3] 0) L) : CallL F (N k_ctx_Set_cancel) [a0, a1, a2, a3] L Q :=
  CallL.of_wp h (Eq.mpr (Eq.trans (e_ctx_Set_cancel_1 F N Q (initE [a0, a1, a2, a3] 0) Env.nil L) (by kernel_rfl : _ = D_ctx_Set_cancel_1 F N Q (initE [a0, a1, a2, a3] 0) L)) e)
def q_ctx_Set_begin_1 (N : Nat → Nat) : ACode := (.seq (.reg [⟨.l 6, none, .mv, [.c (.sl none 0 0 0)]⟩]) (.seq (.reg [⟨.t 10, none, .mv, [.l 0]⟩, ⟨.t 11, none, .nilchk, [.t 10]⟩, ⟨.t 12, none, .fad 2, [.t 11]⟩, ⟨.t 13, none, .ld none, [.t 12]⟩, ⟨.t 14, none, .mv, [.l 2]⟩, ⟨.t 15, none, .iad 9, [.t 13, .t 14]⟩, ⟨.t 16, none, .ld (some 9), [.t 15]⟩, ⟨.l 7, none, .alloc [.i .i64 0, .b false, .p none, .i .i64 0, .i .i64 0, .i .i64 0, .b false, .b false, .i .i64 0], []⟩, ⟨.no, none, .st 9, [.l 7, .t 16]⟩]) (.seq (.seq (.reg [⟨.t 17, none, .fad 3, [.l 7]⟩, ⟨.t 18, none, .ld none, [.t 17]⟩, ⟨.t 19, none, .bin .eql, [.t 18, .c (.i .i64 0)]⟩]) (.cond (.t 19) (.seq (.reg [⟨.l 6, none, .mv, [.c (.sl none 0 0 0)]⟩]) .ret) .skip)) (.seq (.reg [⟨.t 21, none, .mv, [.l 0]⟩, ⟨.t 22, none, .mv, [.l 1]⟩, ⟨.t 23, none, .fad 3, [.l 7]⟩, ⟨.t 24, none, .ld none, [.t 23]⟩, ⟨.t 25, none, .fad 4, [.l 7]⟩, ⟨.t 26, none, .ld none, [.t 25]⟩, ⟨.t 27, none, .call (N k_ctx_Set_cancel), [.t 21, .t 22, .t 24, .t 26]⟩, ⟨.t 20, none, .mv, [.t 27]⟩, ⟨.t 28, none, .ext 0, [.t 20]⟩, ⟨.t 29, none, .ext 1, [.t 20]⟩, ⟨.l 8, none, .mv, [.t 28]⟩, ⟨.t 9, none, .mv, [.t 29]⟩]) (.seq (.reg [⟨.t 30, none, .mv, [.l 8]⟩, ⟨.l 6, none, .mv, [.t 30]⟩]) .ret)))))
noncomputable def D_ctx_Set_begin_1 (F : Nat → Option AFn) (N : Nat → Nat) (Q : AV → Lg → Prop) (x0 : AV) (x1 : AV) (x2 : AV) (L : Lg) : Prop :=
 wpOp F .nilchk [x0] L fun v1 L1 =>
 wpOp F (.fad 2) [v1] L1 fun v2 L2 =>
 wpOp F (.ld none) [v2] L2 fun v3 L3 =>
 wpOp F (.iad 9) [v3, x2] L3 fun v4 L4 =>
 wpOp F (.ld (some 9)) [v4] L4 fun v5 L5 =>
 wpOp F (.alloc [.i .i64 0, .b false, .p none, .i .i64 0, .i .i64 0, .i .i64 0, .b false, .b false, .i .i64 0]) [] L5 fun v6 L6 =>
 wpOp F (.st 9) [v6, v5] L6 fun _ L7 =>
 wpOp F (.fad 3) [v6] L7 fun v8 L8 =>
 wpOp F (.ld none) [v8] L8 fun v9 L9 =>
 wpOp F (.bin .eql) [v9, (.i .i64 0)] L9 fun v10 L10 =>
 condW v10
 (fin1 (some (.sl none 0 0 0)) Q L10)
 (wpOp F (.fad 3) [v6] L10 fun v11 L11 =>
 wpOp F (.ld none) [v11] L11 fun v12 L12 =>
 wpOp F (.fad 4) [v6] L12 fun v13 L13 =>
 wpOp F (.ld none) [v13] L13 fun v14 L14 =>
 CallL F (N k_ctx_Set_cancel) [x0, x1, v12, v14] L14 fun v15 L15 =>
 wpOp F (.ext 0) [v15] L15 fun v16 L16 =>
 wpOp F (.ext 1) [v15] L16 fun v17 L17 =>
 fin1 (some v16) Q L17)
theorem e_ctx_Set_begin_1 (F : Nat → Option AFn) (N : Nat → Nat) (Q : AV → Lg → Prop) (l t : Env) (L : Lg) : wp F (q_ctx_Set_begin_1 N) l t L (fin [.tmp (.l 6)] Q) (fun _ _ _ _ => False) (fin [.tmp (.l 6)] Q) = D_ctx_Set_begin_1 F N Q (l 0) (l 1) (l 2) L := by kernel_rfl
/-- (*tarpaulin/ctx.Set).begin -/
def c_ctx_Set_begin (N : Nat → Nat) : AFn := ⟨q_ctx_Set_begin_1 N, [.tmp (.l 6)]⟩
structure H_ctx_Set_begin (N : Nat → Nat) (F : Nat → Option AFn) : Prop where
  code : F (N k_ctx_Set_begin) = some (c_ctx_Set_begin N)
  ctx_Set_cancel : H_ctx_Set_cancel N F
theorem r_ctx_Set_begin {F : Nat → Option AFn} {N : Nat → Nat} (h : F (N k_ctx_Set_begin) = some (c_ctx_Set_begin N)) {Q : AV → Lg → Prop} {a0 a1 a2 : AV} {L : Lg} (e : D_ctx_Set_begin_1 F N Q a0 a1 a2 L) : CallL F (N k_ctx_Set_begin) [a0, a1, a2] L Q :=
  CallL.of_wp h (Eq.mpr (Eq.trans (e_ctx_Set_begin_1 F N Q (initE [a0, a1, a2] 0) Env.nil L) (by kernel_rfl : _ = D_ctx_Set_begin_1 F N Q a0 a1 a2 L)) e)
def q_ctx_Set_Cancels_2 (N : Nat → Nat) : ACode := (.seq (.seq (.reg [⟨.t 10, none, .mv, [.l 0]⟩, ⟨.t 11, none, .mv, [.l 1]⟩, ⟨.t 12, none, .call (N k_ctx_Set_room), [.t 10, .t 11]⟩, ⟨.l 7, none, .mv, [.t 12]⟩]) (.seq (.reg [⟨.t 13, none, .mv, [.l 7]⟩, ⟨.t 14, none, .bin .neq, [.t 13, .c (.i .i64 0)]⟩]) (.cond (.t 14) (.seq (.reg [⟨.t 15, none, .mv, [.l 7]⟩, ⟨.l 4, none, .mv, [.c (.i .i64 0)]⟩, ⟨.l 5, none, .mv, [.c (.sl none 0 0 0)]⟩, ⟨.l 6, none, .mv, [.t 15]⟩]) .ret) .skip))) (.seq (.reg [⟨.t 16, none, .mv, [.l 0]⟩, ⟨.t 17, none, .nilchk, [.t 16]⟩, ⟨.t 18, none, .fad 2, [.t 17]⟩, ⟨.t 19, none, .ld none, [.t 18]⟩, ⟨.t 20, none, .mv, [.l 1]⟩, ⟨.t 21, none, .iad 9, [.t 19, .t 20]⟩, ⟨.t 22, none, .ld (some 9), [.t 21]⟩, ⟨.l 8, none, .alloc [.i .i64 0, .b false, .p none, .i .i64 0, .i .i64 0, .i .i64 0, .b false, .b false, .i .i64 0], []⟩, ⟨.no, none, .st 9, [.l 8, .t 22]⟩]) (.seq (.regD [⟨.t 23, none, .mv, [.l 0]⟩, ⟨.t 24, none, .call (N k_chanq_Signal), []⟩, ⟨.t 25, none, .fad 5, [.l 8]⟩, ⟨.t 26, none, .ld none, [.t 25]⟩, ⟨.t 27, none, .fad 6, [.l 8]⟩, ⟨.t 28, none, .ld none, [.t 27]⟩, ⟨.t 29, none, .build [.i .i64 0, .b false, .p none, .i .i64 0, .i .i64 0, .i .i64 0, .b false, .b false, .i .i64 0] [(2, 1), (5, 1), (6, 1)], [.t 24, .t 26, .t 28]⟩, ⟨.t 30, none, .fad 0, [.l 8]⟩, ⟨.t 31, none, .ld none, [.t 30]⟩, ⟨.t 32, none, .call (N k_ctx_Set_add), [.t 23, .t 29, .t 31]⟩, ⟨.l 9, none, .mv, [.t 32]⟩] [(3, 0), (5, 0), (8, 0)]) (.seq (.reg [⟨.t 33, none, .mv, [.l 9]⟩, ⟨.t 34, none, .mv, [.l 0]⟩, ⟨.t 35, none, .mv, [.l 9]⟩, ⟨.t 36, none, .mv, [.l 1]⟩, ⟨.t 37, none, .call (N k_ctx_Set_begin), [.t 34, .t 35, .t 36]⟩, ⟨.l 4, none, .mv, [.t 33]⟩, ⟨.l 5, none, .mv, [.t 37]⟩, ⟨.l 6, none, .mv, [.c (.i .i64 0)]⟩]) .ret))))
noncomputable def D_ctx_Set_Cancels_2 (F : Nat → Option AFn) (N : Nat → Nat) (Q : AV → Lg → Prop) (x0 : AV) (x1 : AV) (L : Lg) : Prop :=
 CallL F (N k_ctx_Set_room) [x0, x1] L fun v1 L1 =>
 wpOp F (.bin .neq) [v1, (.i .i64 0)] L1 fun v2 L2 =>
 condW v2
 (fin1 (some (.tup [(.i .i64 0), (.sl none 0 0 0), v1])) Q L2)
 (wpOp F .nilchk [x0] L2 fun v3 L3 =>
 wpOp F (.fad 2) [v3] L3 fun v4 L4 =>
 wpOp F (.ld none) [v4] L4 fun v5 L5 =>
 wpOp F (.iad 9) [v5, x1] L5 fun v6 L6 =>
 wpOp F (.ld (some 9)) [v6] L6 fun v7 L7 =>
 wpOp F (.alloc [.i .i64 0, .b false, .p none, .i .i64 0, .i .i64 0, .i .i64 0, .b false, .b false, .i .i64 0]) [] L7 fun v8 L8 =>
 wpOp F (.st 9) [v8, v7] L8 fun _ L9 =>
 CallL F (N k_chanq_Signal) [] L9 fun v10 L10 =>
 wpOp F (.fad 5) [v8] L10 fun v11 L11 =>
 wpOp F (.ld none) [v11] L11 fun v12 L12 =>
 wpOp F (.fad 6) [v8] L12 fun v13 L13 =>
 wpOp F (.ld none) [v13] L13 fun v14 L14 =>
 wpOp F (.build [.i .i64 0, .b false, .p none, .i .i64 0, .i .i64 0, .i .i64 0, .b false, .b false, .i .i64 0] [(2, 1), (5, 1), (6, 1)]) [v10, v12, v14] L14 fun v15 L15 =>
 wpOp F (.fad 0) [v8] L15 fun v16 L16 =>
 wpOp F (.ld none) [v16] L16 fun v17 L17 =>
 CallL F (N k_ctx_Set_add) [x0, v15, v17] L17 fun v18 L18 =>
 (againV (.ld none) [v11] L11 L9 ∧ againV (.ld none) [v13] L13 L9 ∧ againV (.ld none) [v16] L16 L9 ∧ True) ∧ (CallL F (N k_ctx_Set_begin) [x0, v18, x1] L18 fun v19 L19 =>
 fin1 (some (.tup [v18, v19, (.i .i64 0)])) Q L19))
theorem e_ctx_Set_Cancels_2 (F : Nat → Option AFn) (N : Nat → Nat) (Q : AV → Lg → Prop) (l t : Env) (L : Lg) : wp F (q_ctx_Set_Cancels_2 N) l t L (fin [.tmp (.l 4), .tmp (.l 5), .tmp (.l 6)] Q) (fun _ _ _ _ => False) (fin [.tmp (.l 4), .tmp (.l 5), .tmp (.l 6)] Q) = D_ctx_Set_Cancels_2 F N Q (l 0) (l 1) L := by kernel_rfl
def q_ctx_Set_Cancels_1a (N : Nat → Nat) : ACode := (.reg [⟨.l 4, none, .mv, [.c (.i .i64 0)]⟩, ⟨.l 5, none, .mv, [.c (.sl none 0 0 0)]⟩, ⟨.l 6, none, .mv, [.c (.i .i64 0)]⟩])
def q_ctx_Set_Cancels_1 (N : Nat → Nat) : ACode := (.seq (q_ctx_Set_Cancels_1a N) (q_ctx_Set_Cancels_2 N))
noncomputable def D_ctx_Set_Cancels_1 (F : Nat → Option AFn) (N : Nat → Nat) (Q : AV → Lg → Prop) (x0 : AV) (x1 : AV) (L : Lg) : Prop :=
 D_ctx_Set_Cancels_2 F N Q x0 x1 L
theorem e_ctx_Set_Cancels_1 (F : Nat → Option AFn) (N : Nat → Nat) (Q : AV → Lg → Prop) (l t : Env) (L : Lg) : wp F (q_ctx_Set_Cancels_1 N) l t L (fin [.tmp (.l 4), .tmp (.l 5), .tmp (.l 6)] Q) (fun _ _ _ _ => False) (fin [.tmp (.l 4), .tmp (.l 5), .tmp (.l 6)] Q) = D_ctx_Set_Cancels_1 F N Q (l 0) (l 1) L := Eq.trans (wpq_seq F (q_ctx_Set_Cancels_1a N) (q_ctx_Set_Cancels_2 N) l t L (fin [.tmp (.l 4), .tmp (.l 5), .tmp (.l 6)] Q) (fun _ _ _ _ => False) (fin [.tmp (.l 4), .tmp (.l 5), .tmp (.l 6)] Q)) (Eq.trans (congrArg (fun Z : Kn => wp F (q_ctx_Set_Cancels_1a N) l t L Z (fun _ _ _ _ => False) (fin [.tmp (.l 4), .tmp (.l 5), .tmp (.l 6)] Q)) (funext fun l => funext fun t => funext fun L => e_ctx_Set_Cancels_2 F N Q l t L)) (by kernel_rfl))
/-- (*tarpaulin/ctx.Set).Cancels -/
def c_ctx_Set_Cancels (N : Nat → Nat) : AFn := ⟨q_ctx_Set_Cancels_1 N, [.tmp (.l 4), .tmp (.l 5), .tmp (.l 6)]⟩
structure H_ctx_Set_Cancels (N : Nat → Nat) (F : Nat → Option AFn) : Prop where
  code : F (N k_ctx_Set_Cancels) = some (c_ctx_Set_Cancels N)
  ctx_Set_room : H_ctx_Set_room N F
  chanq_Signal : H_chanq_Signal N F
  ctx_Set_add : H_ctx_Set_add N F
  ctx_Set_begin : H_ctx_Set_begin N F
theorem r_ctx_Set_Cancels {F : Nat → Option AFn} {N : Nat → Nat} (h : F (N k_ctx_Set_Cancels) = some (c_ctx_Set_Cancels N)) {Q : AV → Lg → Prop} {a0 a1 : AV} {L : Lg} (e : D_ctx_Set_Cancels_1 F N Q a0 a1 L) : CallL F (N k_ctx_Set_Cancels) [a0, a1] L Q :=
  CallL.of_wp h (Eq.mpr (Eq.trans (e_ctx_Set_Cancels_1 F N Q (initE [a0, a1] 0) Env.nil L) (by kernel_rfl : _ = D_ctx_Set_Cancels_1 F N Q a0 a1 L)) e)
def q_ctx_Set_Without_1 (N : Nat → Nat) : ACode := (.seq (.reg [⟨.l 4, none, .mv, [.c (.i .i64 0)]⟩, ⟨.l 5, none, .mv, [.c (.i .i64 0)]⟩]) (.seq (.seq (.reg [⟨.t 7, none, .mv, [.l 0]⟩, ⟨.t 8, none, .mv, [.l 1]⟩, ⟨.t 9, none, .call (N k_ctx_Set_room), [.t 7, .t 8]⟩, ⟨.l 6, none, .mv, [.t 9]⟩]) (.seq (.reg [⟨.t 10, none, .mv, [.l 6]⟩, ⟨.t 11, none, .bin .neq, [.t 10, .c (.i .i64 0)]⟩]) (.cond (.t 11) (.seq (.reg [⟨.t 12, none, .mv, [.l 6]⟩, ⟨.l 4, none, .mv, [.c (.i .i64 0)]⟩, ⟨.l 5, none, .mv, [.t 12]⟩]) .ret) .skip))) (.seq (.reg [⟨.t 13, none, .mv, [.l 0]⟩, ⟨.t 14, none, .build [.i .i64 0, .b false, .p none, .i .i64 0, .i .i64 0, .i .i64 0, .b false, .b false, .i .i64 0] [(1, 1)], [.c (.b true)]⟩, ⟨.t 15, none, .mv, [.l 0]⟩, ⟨.t 16, none, .nilchk, [.t 15]⟩, ⟨.t 17, none, .fad 2, [.t 16]⟩, ⟨.t 18, none, .ld none, [.t 17]⟩, ⟨.t 19, none, .mv, [.l 1]⟩, ⟨.t 20, none, .iad 9, [.t 18, .t 19]⟩, ⟨.t 21, none, .fad 0, [.t 20]⟩, ⟨.t 22, none, .ld none, [.t 21]⟩, ⟨.t 23, none, .call (N k_ctx_Set_add), [.t 13, .t 14, .t 22]⟩, ⟨.l 4, none, .mv, [.t 23]⟩, ⟨.l 5, none, .mv, [.c (.i .i64 0)]⟩]) .ret)))
noncomputable def D_ctx_Set_Without_1 (F : Nat → Option AFn) (N : Nat → Nat) (Q : AV → Lg → Prop) (x0 : AV) (x1 : AV) (L : Lg) : Prop :=
 CallL F (N k_ctx_Set_room) [x0, x1] L fun v1 L1 =>
 wpOp F (.bin .neq) [v1, (.i .i64 0)] L1 fun v2 L2 =>
 condW v2
 (fin1 (some (.tup [(.i .i64 0), v1])) Q L2)
 (wpOp F (.build [.i .i64 0, .b false, .p none, .i .i64 0, .i .i64 0, .i .i64 0, .b false, .b false, .i .i64 0] [(1, 1)]) [(.b true)] L2 fun v3 L3 =>
 wpOp F .nilchk [x0] L3 fun v4 L4 =>
 wpOp F (.fad 2) [v4] L4 fun v5 L5 =>
 wpOp F (.ld none) [v5] L5 fun v6 L6 =>
 wpOp F (.iad 9) [v6, x1] L6 fun v7 L7 =>
 wpOp F (.fad 0) [v7] L7 fun v8 L8 =>
 wpOp F (.ld none) [v8] L8 fun v9 L9 =>
 CallL F (N k_ctx_Set_add) [x0, v3, v9] L9 fun v10 L10 =>
 fin1 (some (.tup [v10, (.i .i64 0)])) Q L10)
theorem e_ctx_Set_Without_1 (F : Nat → Option AFn) (N : Nat → Nat) (Q : AV → Lg → Prop) (l t : Env) (L : Lg) : wp F (q_ctx_Set_Without_1 N) l t L (fin [.tmp (.l 4), .tmp (.l 5)] Q) (fun _ _ _ _ => False) (fin [.tmp (.l 4), .tmp (.l 5)] Q) = D_ctx_Set_Without_1 F N Q (l 0) (l 1) L := by kernel_rfl
/-- (*tarpaulin/ctx.Set).Without -/
def c_ctx_Set_Without (N : Nat → Nat) : AFn := ⟨q_ctx_Set_Without_1 N, [.tmp (.l 4), .tmp (.l 5)]⟩
structure H_ctx_Set_Without (N : Nat → Nat) (F : Nat → Option AFn) : Prop where
  code : F (N k_ctx_Set_Without) = some (c_ctx_Set_Without N)
  ctx_Set_room : H_ctx_Set_room N F
  ctx_Set_add : H_ctx_Set_add N F
theorem r_ctx_Set_Without {F : Nat → Option AFn} {N : Nat → Nat} (h : F (N k_ctx_Set_Without) = some (c_ctx_Set_Without N)) {Q : AV → Lg → Prop} {a0 a1 : AV} {L : Lg} (e : D_ctx_Set_Without_1 F N Q a0 a1 L) : CallL F (N k_ctx_Set_Without) [a0, a1] L Q :=
  CallL.of_wp h (Eq.mpr (Eq.trans (e_ctx_Set_Without_1 F N Q (initE [a0, a1] 0) Env.nil L) (by kernel_rfl : _ = D_ctx_Set_Without_1 F N Q a0 a1 L)) e)
def q_ctx_Set_Cancel_3 (N : Nat → Nat) : ACode := (.seq (.reg [⟨.t 29, none, .mv, [.l 0]⟩, ⟨.t 30, none, .mv, [.l 1]⟩, ⟨.t 31, none, .mv, [.l 2]⟩, ⟨.t 32, none, .call (N k_ctx_Set_cancel), [.t 29, .t 30, .c (.i .i64 1), .t 31]⟩, ⟨.t 28, none, .mv, [.t 32]⟩, ⟨.t 33, none, .ext 0, [.t 28]⟩, ⟨.t 34, none, .ext 1, [.t 28]⟩, ⟨.l 9, none, .mv, [.t 33]⟩, ⟨.l 10, none, .mv, [.t 34]⟩]) (.seq (.reg [⟨.t 35, none, .mv, [.l 9]⟩, ⟨.t 36, none, .mv, [.l 10]⟩, ⟨.l 6, none, .mv, [.t 35]⟩, ⟨.l 7, none, .mv, [.t 36]⟩, ⟨.l 8, none, .mv, [.c (.i .i64 0)]⟩]) .ret))
noncomputable def D_ctx_Set_Cancel_3 (F : Nat → Option AFn) (N : Nat → Nat) (Q : AV → Lg → Prop) (x0 : AV) (x1 : AV) (x2 : AV) (L : Lg) : Prop :=
 CallL F (N k_ctx_Set_cancel) [x0, x1, (.i .i64 1), x2] L fun v1 L1 =>
 wpOp F (.ext 0) [v1] L1 fun v2 L2 =>
 wpOp F (.ext 1) [v1] L2 fun v3 L3 =>
 fin1 (some (.tup [v2, v3, (.i .i64 0)])) Q L3
theorem e_ctx_Set_Cancel_3 (F : Nat → Option AFn) (N : Nat → Nat) (Q : AV → Lg → Prop) (l t : Env) (L : Lg) : wp F (q_ctx_Set_Cancel_3 N) l t L (fin [.tmp (.l 6), .tmp (.l 7), .tmp (.l 8)] Q) (fun _ _ _ _ => False) (fin [.tmp (.l 6), .tmp (.l 7), .tmp (.l 8)] Q) = D_ctx_Set_Cancel_3 F N Q (l 0) (l 1) (l 2) L := by kernel_rfl
def q_ctx_Set_Cancel_2a (N : Nat → Nat) : ACode := (.block 0 (.seq (.reg [⟨.t 12, none, .mv, [.l 0]⟩, ⟨.t 13, none, .mv, [.l 1]⟩, ⟨.t 14, none, .call (N k_ctx_Set_has), [.t 12, .t 13]⟩, ⟨.t 15, none, .un .not, [.t 14]⟩, ⟨.t 11, none, .mv, [.t 15]⟩]) (.cond (.t 11) (.seq (.reg [⟨.l 6, none, .mv, [.c (.sl none 0 0 0)]⟩, ⟨.l 7, none, .mv, [.c (.sl none 0 0 0)]⟩, ⟨.l 8, none, .mv, [.c (.i .i64 4)]⟩]) .ret) (.seq (.reg [⟨.t 17, none, .mv, [.l 0]⟩, ⟨.t 18, none, .nilchk, [.t 17]⟩, ⟨.t 19, none, .fad 2, [.t 18]⟩, ⟨.t 20, none, .ld none, [.t 19]⟩, ⟨.t 21, none, .mv, [.l 1]⟩, ⟨.t 22, none, .iad 9, [.t 20, .t 21]⟩, ⟨.t 23, none, .fad 1, [.t 22]⟩, ⟨.t 24, none, .ld none, [.t 23]⟩, ⟨.t 16, none, .mv, [.t 24]⟩]) (.cond (.t 16) (.seq (.reg [⟨.l 6, none, .mv, [.c (.sl none 0 0 0)]⟩, ⟨.l 7, none, .mv, [.c (.sl none 0 0 0)]⟩, ⟨.l 8, none, .mv, [.c (.i .i64 1)]⟩]) .ret) (.seq (.reg [⟨.t 26, none, .mv, [.l 2]⟩, ⟨.t 27, none, .bin .lss, [.t 26, .c (.i .i64 1)]⟩, ⟨.t 25, none, .mv, [.t 27]⟩]) (.cond (.t 25) (.reg [⟨.l 2, none, .mv, [.c (.i .i64 1)]⟩]) .skip)))))))
def q_ctx_Set_Cancel_2 (N : Nat → Nat) : ACode := (.seq (q_ctx_Set_Cancel_2a N) (q_ctx_Set_Cancel_3 N))
noncomputable def D_ctx_Set_Cancel_2 (F : Nat → Option AFn) (N : Nat → Nat) (Q : AV → Lg → Prop) (x0 : AV) (x1 : AV) (x2 : AV) (L : Lg) : Prop :=
 CallL F (N k_ctx_Set_has) [x0, x1] L fun v1 L1 =>
 wpOp F (.un .not) [v1] L1 fun v2 L2 =>
 condW v2
 (fin1 (some (.tup [(.sl none 0 0 0), (.sl none 0 0 0), (.i .i64 4)])) Q L2)
 (wpOp F .nilchk [x0] L2 fun v3 L3 =>
 wpOp F (.fad 2) [v3] L3 fun v4 L4 =>
 wpOp F (.ld none) [v4] L4 fun v5 L5 =>
 wpOp F (.iad 9) [v5, x1] L5 fun v6 L6 =>
 wpOp F (.fad 1) [v6] L6 fun v7 L7 =>
 wpOp F (.ld none) [v7] L7 fun v8 L8 =>
 condW v8
 (fin1 (some (.tup [(.sl none 0 0 0), (.sl none 0 0 0), (.i .i64 1)])) Q L8)
 (wpOp F (.bin .lss) [x2, (.i .i64 1)] L8 fun v9 L9 =>
 condW v9
 (D_ctx_Set_Cancel_3 F N Q x0 x1 (.i .i64 1) L9)
 (D_ctx_Set_Cancel_3 F N Q x0 x1 x2 L9)))
theorem e_ctx_Set_Cancel_2 (F : Nat → Option AFn) (N : Nat → Nat) (Q : AV → Lg → Prop) (l t : Env) (L : Lg) : wp F (q_ctx_Set_Cancel_2 N) l t L (fin [.tmp (.l 6), .tmp (.l 7), .tmp (.l 8)] Q) (fun _ _ _ _ => False) (fin [.tmp (.l 6), .tmp (.l 7), .tmp (.l 8)] Q) = D_ctx_Set_Cancel_2 F N Q (l 0) (l 1) (l 2) L := Eq.trans (wpq_seq F (q_ctx_Set_Cancel_2a N) (q_ctx_Set_Cancel_3 N) l t L (fin [.tmp (.l 6), .tmp (.l 7), .tmp (.l 8)] Q) (fun _ _ _ _ => False) (fin [.tmp (.l 6), .tmp (.l 7), .tmp (.l 8)] Q)) (Eq.trans (congrArg (fun Z : Kn => wp F (q_ctx_Set_Cancel_2a N) l t L Z (fun _ _ _ _ => False) (fin [.tmp (.l 6), .tmp (.l 7), .tmp (.l 8)] Q)) (funext fun l => funext fun t => funext fun L => e_ctx_Set_Cancel_3 F N Q l t L)) (by kernel_rfl))
def q_ctx_Set_Cancel_1a (N : Nat → Nat) : ACode := (.reg [⟨.l 6, none, .mv, [.c (.sl none 0 0 0)]⟩, ⟨.l 7, none, .mv, [.c (.sl none 0 0 0)]⟩, ⟨.l 8, none, .mv, [.c (.i .i64 0)]⟩])
def q_ctx_Set_Cancel_1 (N : Nat → Nat) : ACode := (.seq (q_ctx_Set_Cancel_1a N) (q_ctx_Set_Cancel_2 N))
noncomputable def D_ctx_Set_Cancel_1 (F : Nat → Option AFn) (N : Nat → Nat) (Q : AV → Lg → Prop) (x0 : AV) (x1 : AV) (x2 : AV) (L : Lg) : Prop :=
 D_ctx_Set_Cancel_2 F N Q x0 x1 x2 L
theorem e_ctx_Set_Cancel_1 (F : Nat → Option AFn) (N : Nat → Nat) (Q : AV → Lg → Prop) (l t : Env) (L : Lg) : wp F (q_ctx_Set_Cancel_1 N) l t L (fin [.tmp (.l 6), .tmp (.l 7), .tmp (.l 8)] Q) (fun _ _ _ _ => False) (fin [.tmp (.l 6), .tmp (.l 7), .tmp (.l 8)] Q) = D_ctx_Set_Cancel_1 F N Q (l 0) (l 1) (l 2) L := Eq.trans (wpq_seq F (q_ctx_Set_Cancel_1a N) (q_ctx_Set_Cancel_2 N) l t L (fin [.tmp (.l 6), .tmp (.l 7), .tmp (.l 8)] Q) (fun _ _ _ _ => False) (fin [.tmp (.l 6), .tmp (.l 7), .tmp (.l 8)] Q)) (Eq.trans (congrArg (fun Z : Kn => wp F (q_ctx_Set_Cancel_1a N) l t L Z (fun _ _ _ _ => False) (fin [.tmp (.l 6), .tmp (.l 7), .tmp (.l 8)] Q)) (funext fun l => funext fun t => funext fun L => e_ctx_Set_Cancel_2 F N Q l t L)) (by kernel_rfl))
/-- (*tarpaulin/ctx.Set).Cancel -/
def c_ctx_Set_Cancel (N : Nat → Nat) : AFn := ⟨q_ctx_Set_Cancel_1 N, [.tmp (.l 6), .tmp (.l 7), .tmp (.l 8)]⟩
structure H_ctx_Set_Cancel (N : Nat → Nat) (F : Nat → Option AFn) : Prop where
  code : F (N k_ctx_Set_Cancel) = some (c_ctx_Set_Cancel N)
  ctx_Set_has : H_ctx_Set_has N F
  ctx_Set_cancel : H_ctx_Set_cancel N F
theorem r_ctx_Set_Cancel {F : Nat → Option AFn} {N : Nat → Nat} (h : F (N k_ctx_Set_Cancel) = some (c_ctx_Set_Cancel N)) {Q : AV → Lg → Prop} {a0 a1 a2 : AV} {L : Lg} (e : D_ctx_Set_Cancel_1 F N Q a0 a1 a2 L) : CallL F (N k_ctx_Set_Cancel) [a0, a1, a2] L Q :=
  CallL.of_wp h (Eq.mpr (Eq.trans (e_ctx_Set_Cancel_1 F N Q (initE [a0, a1, a2] 0) Env.nil L) (by kernel_rfl : _ = D_ctx_Set_Cancel_1 F N Q a0 a1 a2 L)) e)
def q_ctx_Set_Err_1 (N : Nat → Nat) : ACode := (.seq (.reg [⟨.l 4, none, .mv, [.c (.i .i64 0)]⟩, ⟨.l 5, none, .mv, [.c (.i .i64 0)]⟩]) (.seq (.seq (.reg [⟨.t 6, none, .mv, [.l 0]⟩, ⟨.t 7, none, .mv, [.l 1]⟩, ⟨.t 8, none, .call (N k_ctx_Set_has), [.t 6, .t 7]⟩, ⟨.t 9, none, .un .not, [.t 8]⟩]) (.cond (.t 9) (.seq (.reg [⟨.l 4, none, .mv, [.c (.i .i64 0)]⟩, ⟨.l 5, none, .mv, [.c (.i .i64 4)]⟩]) .ret) .skip)) (.seq (.reg [⟨.t 10, none, .mv, [.l 0]⟩, ⟨.t 11, none, .nilchk, [.t 10]⟩, ⟨.t 12, none, .fad 2, [.t 11]⟩, ⟨.t 13, none, .ld none, [.t 12]⟩, ⟨.t 14, none, .mv, [.l 1]⟩, ⟨.t 15, none, .iad 9, [.t 13, .t 14]⟩, ⟨.t 16, none, .fad 3, [.t 15]⟩, ⟨.t 17, none, .ld none, [.t 16]⟩, ⟨.l 4, none, .mv, [.t 17]⟩, ⟨.l 5, none, .mv, [.c (.i .i64 0)]⟩]) .ret)))
noncomputable def D_ctx_Set_Err_1 (F : Nat → Option AFn) (N : Nat → Nat) (Q : AV → Lg → Prop) (x0 : AV) (x1 : AV) (L : Lg) : Prop :=
 CallL F (N k_ctx_Set_has) [x0, x1] L fun v1 L1 =>
 wpOp F (.un .not) [v1] L1 fun v2 L2 =>
 condW v2
 (fin1 (some (.tup [(.i .i64 0), (.i .i64 4)])) Q L2)
 (wpOp F .nilchk [x0] L2 fun v3 L3 =>
 wpOp F (.fad 2) [v3] L3 fun v4 L4 =>
 wpOp F (.ld none) [v4] L4 fun v5 L5 =>
 wpOp F (.iad 9) [v5, x1] L5 fun v6 L6 =>
 wpOp F (.fad 3) [v6] L6 fun v7 L7 =>
 wpOp F (.ld none) [v7] L7 fun v8 L8 =>
 fin1 (some (.tup [v8, (.i .i64 0)])) Q L8)
theorem e_ctx_Set_Err_1 (F : Nat → Option AFn) (N : Nat → Nat) (Q : AV → Lg → Prop) (l t : Env) (L : Lg) : wp F (q_ctx_Set_Err_1 N) l t L (fin [.tmp (.l 4), .tmp (.l 5)] Q) (fun _ _ _ _ => False) (fin [.tmp (.l 4), .tmp (.l 5)] Q) = D_ctx_Set_Err_1 F N Q (l 0) (l 1) L := by kernel_rfl
/-- (*tarpaulin/ctx.Set).Err -/
def c_ctx_Set_Err (N : Nat → Nat) : AFn := ⟨q_ctx_Set_Err_1 N, [.tmp (.l 4), .tmp (.l 5)]⟩
structure H_ctx_Set_Err (N : Nat → Nat) (F : Nat → Option AFn) : Prop where
  code : F (N k_ctx_Set_Err) = some (c_ctx_Set_Err N)
  ctx_Set_has : H_ctx_Set_has N F
theorem r_ctx_Set_Err {F : Nat → Option AFn} {N : Nat → Nat} (h : F (N k_ctx_Set_Err) = some (c_ctx_Set_Err N)) {Q : AV → Lg → Prop} {a0 a1 : AV} {L : Lg} (e : D_ctx_Set_Err_1 F N Q a0 a1 L) : CallL F (N k_ctx_Set_Err) [a0, a1] L Q :=
  CallL.of_wp h (Eq.mpr (Eq.trans (e_ctx_Set_Err_1 F N Q (initE [a0, a1] 0) Env.nil L) (by kernel_rfl : _ = D_ctx_Set_Err_1 F N Q a0 a1 L)) e)
def q_ctx_Set_Cause_1 (N : Nat → Nat) : ACode := (.seq (.reg [⟨.l 4, none, .mv, [.c (.i .i64 0)]⟩, ⟨.l 5, none, .mv, [.c (.i .i64 0)]⟩]) (.seq (.seq (.reg [⟨.t 6, none, .mv, [.l 0]⟩, ⟨.t 7, none, .mv, [.l 1]⟩, ⟨.t 8, none, .call (N k_ctx_Set_has), [.t 6, .t 7]⟩, ⟨.t 9, none, .un .not, [.t 8]⟩]) (.cond (.t 9) (.seq (.reg [⟨.l 4, none, .mv, [.c (.i .i64 0)]⟩, ⟨.l 5, none, .mv, [.c (.i .i64 4)]⟩]) .ret) .skip)) (.seq (.reg [⟨.t 10, none, .mv, [.l 0]⟩, ⟨.t 11, none, .nilchk, [.t 10]⟩, ⟨.t 12, none, .fad 2, [.t 11]⟩, ⟨.t 13, none, .ld none, [.t 12]⟩, ⟨.t 14, none, .mv, [.l 1]⟩, ⟨.t 15, none, .iad 9, [.t 13, .t 14]⟩, ⟨.t 16, none, .fad 4, [.t 15]⟩, ⟨.t 17, none, .ld none, [.t 16]⟩, ⟨.l 4, none, .mv, [.t 17]⟩, ⟨.l 5, none, .mv, [.c (.i .i64 0)]⟩]) .ret)))
noncomputable def D_ctx_Set_Cause_1 (F : Nat → Option AFn) (N : Nat → Nat) (Q : AV → Lg → Prop) (x0 : AV) (x1 : AV) (L : Lg) : Prop :=
 CallL F (N k_ctx_Set_has) [x0, x1] L fun v1 L1 =>
 wpOp F (.un .not) [v1] L1 fun v2 L2 =>
 condW v2
 (fin1 (some (.tup [(.i .i64 0), (.i .i64 4)])) Q L2)
 (wpOp F .nilchk [x0] L2 fun v3 L3 =>
 wpOp F (.fad 2) [v3] L3 fun v4 L4 =>
 wpOp F (.ld none) [v4] L4 fun v5 L5 =>
 wpOp F (.iad 9) [v5, x1] L5 fun v6 L6 =>
 wpOp F (.fad 4) [v6] L6 fun v7 L7 =>
 wpOp F (.ld none) [v7] L7 fun v8 L8 =>
 fin1 (some (.tup [v8, (.i .i64 0)])) Q L8)
theorem e_ctx_Set_Cause_1 (F : Nat → Option AFn) (N : Nat → Nat) (Q : AV → Lg → Prop) (l t : Env) (L : Lg) : wp F (q_ctx_Set_Cause_1 N) l t L (fin [.tmp (.l 4), .tmp (.l 5)] Q) (fun _ _ _ _ => False) (fin [.tmp (.l 4), .tmp (.l 5)] Q) = D_ctx_Set_Cause_1 F N Q (l 0) (l 1) L := by kernel_rfl
/-- (*tarpaulin/ctx.Set).Cause -/
def c_ctx_Set_Cause (N : Nat → Nat) : AFn := ⟨q_ctx_Set_Cause_1 N, [.tmp (.l 4), .tmp (.l 5)]⟩
structure H_ctx_Set_Cause (N : Nat → Nat) (F : Nat → Option AFn) : Prop where
  code : F (N k_ctx_Set_Cause) = some (c_ctx_Set_Cause N)
  ctx_Set_has : H_ctx_Set_has N F
theorem r_ctx_Set_Cause {F : Nat → Option AFn} {N : Nat → Nat} (h : F (N k_ctx_Set_Cause) = some (c_ctx_Set_Cause N)) {Q : AV → Lg → Prop} {a0 a1 : AV} {L : Lg} (e : D_ctx_Set_Cause_1 F N Q a0 a1 L) : CallL F (N k_ctx_Set_Cause) [a0, a1] L Q :=
  CallL.of_wp h (Eq.mpr (Eq.trans (e_ctx_Set_Cause_1 F N Q (initE [a0, a1] 0) Env.nil L) (by kernel_rfl : _ = D_ctx_Set_Cause_1 F N Q a0 a1 L)) e)
def q_tarpaulinlaw15_CtxFalls_15 (N : Nat → Nat) : ACode := (.seq (.reg [⟨.t 213, none, .mv, [.l 9]⟩, ⟨.t 214, none, .mv, [.l 17]⟩, ⟨.t 215, none, .call (N k_ctx_Set_Cause), [.t 213, .t 214]⟩, ⟨.t 212, none, .mv, [.t 215]⟩, ⟨.t 216, none, .ext 0, [.t 212]⟩, ⟨.t 217, none, .ext 1, [.t 212]⟩, ⟨.l 32, none, .mv, [.t 216]⟩, ⟨.t 33, none, .mv, [.t 217]⟩]) (.seq (.reg [⟨.t 218, none, .mv, [.l 18]⟩, ⟨.t 219, none, .lenSl, [.t 218]⟩, ⟨.t 220, none, .mv, [.l 21]⟩, ⟨.t 221, none, .bin .eql, [.t 219, .t 220]⟩, ⟨.t 222, none, .mv, [.t 221]⟩, ⟨.t 223, some (.t 222, true), .mv, [.l 18]⟩, ⟨.t 224, some (.t 222, true), .iad 4, [.t 223, .c (.i .i64 0)]⟩, ⟨.t 225, some (.t 222, true), .fad 0, [.t 224]⟩, ⟨.t 226, some (.t 222, true), .ld none, [.t 225]⟩, ⟨.t 227, some (.t 222, true), .mv, [.l 17]⟩, ⟨.t 228, some (.t 222, true), .bin .eql, [.t 226, .t 227]⟩, ⟨.t 229, none, .pick, [.t 222, .t 228, .c (.b false)]⟩, ⟨.t 230, none, .mv, [.t 229]⟩, ⟨.t 231, some (.t 230, true), .mv, [.l 31]⟩, ⟨.t 232, some (.t 230, true), .bin .eql, [.t 231, .c (.i .i64 0)]⟩, ⟨.t 233, none, .pick, [.t 230, .t 232, .c (.b false)]⟩, ⟨.t 234, none, .mv, [.t 233]⟩, ⟨.t 235, some (.t 234, true), .mv, [.l 29]⟩, ⟨.t 236, some (.t 234, true), .lenSl, [.t 235]⟩, ⟨.t 237, some (.t 234, true), .bin .eql, [.t 236, .c (.i .i64 0)]⟩, ⟨.t 238, none, .pick, [.t 234, .t 237, .c (.b false)]⟩, ⟨.t 239, none, .mv, [.t 238]⟩, ⟨.t 240, some (.t 239, true), .mv, [.l 32]⟩, ⟨.t 241, some (.t 239, true), .mv, [.l 3]⟩, ⟨.t 242, some (.t 239, true), .bin .eql, [.t 240, .t 241]⟩, ⟨.t 243, none, .pick, [.t 239, .t 242, .c (.b false)]⟩, ⟨.t 244, none, .mv, [.t 243]⟩, ⟨.t 245, some (.t 244, true), .call (N k_tarpaulinlaw15_awake), []⟩, ⟨.t 246, none, .pick, [.t 244, .t 245, .c (.b false)]⟩, ⟨.l 8, none, .mv, [.t 246]⟩]) .ret))
noncomputable def D_tarpaulinlaw15_CtxFalls_15 (F : Nat → Option AFn) (N : Nat → Nat) (Q : AV → Lg → Prop) (x3 : AV) (x9 : AV) (x17 : AV) (x18 : AV) (x21 : AV) (x29 : AV) (x31 : AV) (L : Lg) : Prop :=
 CallL F (N k_ctx_Set_Cause) [x9, x17] L fun v1 L1 =>
 wpOp F (.ext 0) [v1] L1 fun v2 L2 =>
 wpOp F (.ext 1) [v1] L2 fun v3 L3 =>
 wpOp F .lenSl [x18] L3 fun v4 L4 =>
 wpOp F (.bin .eql) [v4, x21] L4 fun v5 L5 =>
 gdOp F v5 true .mv [x18] L5 fun v6 L6 =>
 gdOp F v5 true (.iad 4) [v6, (.i .i64 0)] L6 fun v7 L7 =>
 gdOp F v5 true (.fad 0) [v7] L7 fun v8 L8 =>
 gdOp F v5 true (.ld none) [v8] L8 fun v9 L9 =>
 gdOp F v5 true .mv [x17] L9 fun v10 L10 =>
 gdOp F v5 true (.bin .eql) [v9, v10] L10 fun v11 L11 =>
 wpOp F .pick [v5, v11, (.b false)] L11 fun v12 L12 =>
 gdOp F v12 true .mv [x31] L12 fun v13 L13 =>
 gdOp F v12 true (.bin .eql) [v13, (.i .i64 0)] L13 fun v14 L14 =>
 wpOp F .pick [v12, v14, (.b false)] L14 fun v15 L15 =>
 gdOp F v15 true .mv [x29] L15 fun v16 L16 =>
 gdOp F v15 true .lenSl [v16] L16 fun v17 L17 =>
 gdOp F v15 true (.bin .eql) [v17, (.i .i64 0)] L17 fun v18 L18 =>
 wpOp F .pick [v15, v18, (.b false)] L18 fun v19 L19 =>
 gdOp F v19 true .mv [v2] L19 fun v20 L20 =>
 gdOp F v19 true .mv [x3] L20 fun v21 L21 =>
 gdOp F v19 true (.bin .eql) [v20, v21] L21 fun v22 L22 =>
 wpOp F .pick [v19, v22, (.b false)] L22 fun v23 L23 =>
 gdOp F v23 true (.call (N k_tarpaulinlaw15_awake)) [] L23 fun v24 L24 =>
 wpOp F .pick [v23, v24, (.b false)] L24 fun v25 L25 =>
 fin1 (some v25) Q L25
theorem e_tarpaulinlaw15_CtxFalls_15 (F : Nat → Option AFn) (N : Nat → Nat) (Q : AV → Lg → Prop) (l t : Env) (L : Lg) : wp F (q_tarpaulinlaw15_CtxFalls_15 N) l t L (fin [.tmp (.l 8)] Q) (fun _ _ _ _ => False) (fin [.tmp (.l 8)] Q) = D_tarpaulinlaw15_CtxFalls_15 F N Q (l 3) (l 9) (l 17) (l 18) (l 21) (l 29) (l 31) L := by kernel_rfl
def q_tarpaulinlaw15_CtxFalls_14a (N : Nat → Nat) : ACode := (.reg [⟨.t 204, none, .mv, [.l 9]⟩, ⟨.t 205, none, .mv, [.l 17]⟩, ⟨.t 206, none, .mv, [.l 3]⟩, ⟨.t 207, none, .bin .add, [.t 206, .c (.i .i64 1)]⟩, ⟨.t 208, none, .call (N k_ctx_Set_Cancel), [.t 204, .t 205, .t 207]⟩, ⟨.t 203, none, .mv, [.t 208]⟩, ⟨.t 209, none, .ext 0, [.t 203]⟩, ⟨.t 210, none, .ext 1, [.t 203]⟩, ⟨.t 211, none, .ext 2, [.t 203]⟩, ⟨.l 29, none, .mv, [.t 209]⟩, ⟨.t 30, none, .mv, [.t 210]⟩, ⟨.l 31, none, .mv, [.t 211]⟩])
def q_tarpaulinlaw15_CtxFalls_14 (N : Nat → Nat) : ACode := (.seq (q_tarpaulinlaw15_CtxFalls_14a N) (q_tarpaulinlaw15_CtxFalls_15 N))
noncomputable def D_tarpaulinlaw15_CtxFalls_14 (F : Nat → Option AFn) (N : Nat → Nat) (Q : AV → Lg → Prop) (x3 : AV) (x9 : AV) (x17 : AV) (x18 : AV) (x21 : AV) (L : Lg) : Prop :=
 wpOp F (.bin .add) [x3, (.i .i64 1)] L fun v1 L1 =>
 CallL F (N k_ctx_Set_Cancel) [x9, x17, v1] L1 fun v2 L2 =>
 wpOp F (.ext 0) [v2] L2 fun v3 L3 =>
 wpOp F (.ext 1) [v2] L3 fun v4 L4 =>
 wpOp F (.ext 2) [v2] L4 fun v5 L5 =>
 D_tarpaulinlaw15_CtxFalls_15 F N Q x3 x9 x17 x18 x21 v3 v5 L5
theorem e_tarpaulinlaw15_CtxFalls_14 (F : Nat → Option AFn) (N : Nat → Nat) (Q : AV → Lg → Prop) (l t : Env) (L : Lg) : wp F (q_tarpaulinlaw15_CtxFalls_14 N) l t L (fin [.tmp (.l 8)] Q) (fun _ _ _ _ => False) (fin [.tmp (.l 8)] Q) = D_tarpaulinlaw15_CtxFalls_14 F N Q (l 3) (l 9) (l 17) (l 18) (l 21) L := Eq.trans (wpq_seq F (q_tarpaulinlaw15_CtxFalls_14a N) (q_tarpaulinlaw15_CtxFalls_15 N) l t L (fin [.tmp (.l 8)] Q) (fun _ _ _ _ => False) (fin [.tmp (.l 8)] Q)) (Eq.trans (congrArg (fun Z : Kn => wp F (q_tarpaulinlaw15_CtxFalls_14a N) l t L Z (fun _ _ _ _ => False) (fin [.tmp (.l 8)] Q)) (funext fun l => funext fun t => funext fun L => e_tarpaulinlaw15_CtxFalls_15 F N Q l t L)) (by kernel_rfl))
def q_tarpaulinlaw15_CtxFalls_21 (N : Nat → Nat) : ACode := (.reg [⟨.t 142, none, .mv, [.l 22]⟩, ⟨.t 143, none, .bin .add, [.t 142, .c (.i .i64 1)]⟩, ⟨.l 22, none, .mv, [.t 143]⟩])
noncomputable def D_tarpaulinlaw15_CtxFalls_21 (F : Nat → Option AFn) (N : Nat → Nat) (Q : AV → Lg → Prop) (k1 : Env → Lg → Prop) (l : Env) (L : Lg) : Prop :=
 wpOp F (.bin .add) [(l 22), (.i .i64 1)] L fun v1 L1 =>
 k1 (Env.put l 22 v1) L1
theorem e_tarpaulinlaw15_CtxFalls_21 (F : Nat → Option AFn) (N : Nat → Nat) (Q : AV → Lg → Prop) (k1 : Env → Lg → Prop) (l t : Env) (L : Lg) : wp F (q_tarpaulinlaw15_CtxFalls_21 N) l t L (fun (l _ : Env) (L : Lg) => k1 l L) (fun (j : Nat) (l t : Env) (L : Lg) => bif Nat.beq j 2 then (fun (l t : Env) (L : Lg) => D_tarpaulinlaw15_CtxFalls_14 F N Q (l 3) (l 9) (l 17) (l 18) (l 21) L) l t L else (fun _ _ _ _ => False) j l t L) (fin [.tmp (.l 8)] Q) = D_tarpaulinlaw15_CtxFalls_21 F N Q k1 l L := by kernel_rfl
def q_tarpaulinlaw15_CtxFalls_27 (N : Nat → Nat) : ACode := (.seq (.seq (.reg [⟨.t 169, none, .mv, [.l 26]⟩, ⟨.t 170, none, .bin .neq, [.t 169, .c (.i .i64 0)]⟩, ⟨.t 171, none, .mv, [.t 170]⟩, ⟨.t 172, some (.t 171, false), .mv, [.l 28]⟩, ⟨.t 173, some (.t 171, false), .bin .neq, [.t 172, .c (.i .i64 0)]⟩, ⟨.t 174, none, .pick, [.t 171, .c (.b true), .t 173]⟩, ⟨.t 175, none, .mv, [.t 174]⟩, ⟨.t 176, some (.t 175, false), .mv, [.l 25]⟩, ⟨.t 177, some (.t 175, false), .bin .eql, [.t 176, .c (.i .i64 1)]⟩, ⟨.t 178, some (.t 175, false), .mv, [.l 23]⟩, ⟨.t 179, some (.t 175, false), .eq true .bool, [.t 177, .t 178]⟩, ⟨.t 180, none, .pick, [.t 175, .c (.b true), .t 179]⟩, ⟨.t 181, none, .mv, [.t 180]⟩, ⟨.t 182, some (.t 181, false), .mv, [.l 27]⟩, ⟨.t 183, some (.t 181, false), .mv, [.l 3]⟩, ⟨.t 184, some (.t 181, false), .bin .eql, [.t 182, .t 183]⟩, ⟨.t 185, some (.t 181, false), .mv, [.l 23]⟩, ⟨.t 186, some (.t 181, false), .eq true .bool, [.t 184, .t 185]⟩, ⟨.t 187, none, .pick, [.t 181, .c (.b true), .t 186]⟩, ⟨.t 188, none, .mv, [.t 187]⟩, ⟨.t 189, some (.t 188, false), .mv, [.l 23]⟩, ⟨.t 190, some (.t 188, false), .un .not, [.t 189]⟩, ⟨.t 191, some (.t 188, false), .mv, [.t 190]⟩, ⟨.t 192, some (.t 191, true), .mv, [.l 25]⟩, ⟨.t 193, some (.t 191, true), .bin .neq, [.t 192, .c (.i .i64 0)]⟩, ⟨.t 194, some (.t 191, true), .mv, [.t 193]⟩, ⟨.t 195, some (.t 194, false), .mv, [.l 27]⟩, ⟨.t 196, some (.t 194, false), .bin .neq, [.t 195, .c (.i .i64 0)]⟩, ⟨.t 197, some (.t 191, true), .pick, [.t 194, .c (.b true), .t 196]⟩, ⟨.t 198, some (.t 188, false), .pick, [.t 191, .t 197, .c (.b false)]⟩, ⟨.t 199, none, .pick, [.t 188, .c (.b true), .t 198]⟩]) (.cond (.t 199) (.seq (.reg [⟨.l 8, none, .mv, [.c (.b false)]⟩]) .ret) .skip)) (.seq (.reg [⟨.t 200, none, .mv, [.l 23]⟩]) (.cond (.t 200) (.reg [⟨.t 201, none, .mv, [.l 21]⟩, ⟨.t 202, none, .bin .add, [.t 201, .c (.i .i64 1)]⟩, ⟨.l 21, none, .mv, [.t 202]⟩]) .skip)))
noncomputable def D_tarpaulinlaw15_CtxFalls_27 (F : Nat → Option AFn) (N : Nat → Nat) (Q : AV → Lg → Prop) (k1 : Env → Lg → Prop) (l : Env) (L : Lg) : Prop :=
 wpOp F (.bin .neq) [(l 26), (.i .i64 0)] L fun v1 L1 =>
 gdOp F v1 false .mv [(l 28)] L1 fun v2 L2 =>
 gdOp F v1 false (.bin .neq) [v2, (.i .i64 0)] L2 fun v3 L3 =>
 wpOp F .pick [v1, (.b true), v3] L3 fun v4 L4 =>
 gdOp F v4 false .mv [(l 25)] L4 fun v5 L5 =>
 gdOp F v4 false (.bin .eql) [v5, (.i .i64 1)] L5 fun v6 L6 =>
 gdOp F v4 false .mv [(l 23)] L6 fun v7 L7 =>
 gdOp F v4 false (.eq true .bool) [v6, v7] L7 fun v8 L8 =>
 wpOp F .pick [v4, (.b true), v8] L8 fun v9 L9 =>
 gdOp F v9 false .mv [(l 27)] L9 fun v10 L10 =>
 gdOp F v9 false .mv [(l 3)] L10 fun v11 L11 =>
 gdOp F v9 false (.bin .eql) [v10, v11] L11 fun v12 L12 =>
 gdOp F v9 false .mv [(l 23)] L12 fun v13 L13 =>
 gdOp F v9 false (.eq true .bool) [v12, v13] L13 fun v14 L14 =>
 wpOp F .pick [v9, (.b true), v14] L14 fun v15 L15 =>
 gdOp F v15 false .mv [(l 23)] L15 fun v16 L16 =>
 gdOp F v15 false (.un .not) [v16] L16 fun v17 L17 =>
 gdOp F v15 false .mv [v17] L17 fun v18 L18 =>
 gdOp F v18 true .mv [(l 25)] L18 fun v19 L19 =>
 gdOp F v18 true (.bin .neq) [v19, (.i .i64 0)] L19 fun v20 L20 =>
 gdOp F v18 true .mv [v20] L20 fun v21 L21 =>
 gdOp F v21 false .mv [(l 27)] L21 fun v22 L22 =>
 gdOp F v21 false (.bin .neq) [v22, (.i .i64 0)] L22 fun v23 L23 =>
 gdOp F v18 true .pick [v21, (.b true), v23] L23 fun v24 L24 =>
 gdOp F v15 false .pick [v18, v24, (.b false)] L24 fun v25 L25 =>
 wpOp F .pick [v15, (.b true), v25] L25 fun v26 L26 =>
 condW v26
 (fin1 (some (.b false)) Q L26)
 (condW (l 23)
 (wpOp F (.bin .add) [(l 21), (.i .i64 1)] L26 fun v27 L27 =>
 D_tarpaulinlaw15_CtxFalls_21 F N Q k1 (Env.put l 21 v27) L27)
 (D_tarpaulinlaw15_CtxFalls_21 F N Q k1 l L26))
theorem e_tarpaulinlaw15_CtxFalls_27 (F : Nat → Option AFn) (N : Nat → Nat) (Q : AV → Lg → Prop) (k1 : Env → Lg → Prop) (l t : Env) (L : Lg) : wp F (q_tarpaulinlaw15_CtxFalls_27 N) l t L (fun (l t : Env) (L : Lg) => D_tarpaulinlaw15_CtxFalls_21 F N Q k1 l L) (fun (j : Nat) (l t : Env) (L : Lg) => bif Nat.beq j 3 then (fun (l t : Env) (L : Lg) => D_tarpaulinlaw15_CtxFalls_21 F N Q k1 l L) l t L else (fun (j : Nat) (l t : Env) (L : Lg) => bif Nat.beq j 2 then (fun (l t : Env) (L : Lg) => D_tarpaulinlaw15_CtxFalls_14 F N Q (l 3) (l 9) (l 17) (l 18) (l 21) L) l t L else (fun _ _ _ _ => False) j l t L) j l t L) (fin [.tmp (.l 8)] Q) = D_tarpaulinlaw15_CtxFalls_27 F N Q k1 l L := by kernel_rfl
def q_tarpaulinlaw15_CtxFalls_26a (N : Nat → Nat) : ACode := (.reg [⟨.t 164, none, .mv, [.l 9]⟩, ⟨.t 165, none, .mv, [.l 22]⟩, ⟨.t 166, none, .call (N k_ctx_Set_Cause), [.t 164, .t 165]⟩, ⟨.t 163, none, .mv, [.t 166]⟩, ⟨.t 167, none, .ext 0, [.t 163]⟩, ⟨.t 168, none, .ext 1, [.t 163]⟩, ⟨.l 27, none, .mv, [.t 167]⟩, ⟨.l 28, none, .mv, [.t 168]⟩])
def q_tarpaulinlaw15_CtxFalls_26 (N : Nat → Nat) : ACode := (.seq (q_tarpaulinlaw15_CtxFalls_26a N) (q_tarpaulinlaw15_CtxFalls_27 N))
noncomputable def D_tarpaulinlaw15_CtxFalls_26 (F : Nat → Option AFn) (N : Nat → Nat) (Q : AV → Lg → Prop) (k1 : Env → Lg → Prop) (l : Env) (L : Lg) : Prop :=
 CallL F (N k_ctx_Set_Cause) [(l 9), (l 22)] L fun v1 L1 =>
 wpOp F (.ext 0) [v1] L1 fun v2 L2 =>
 wpOp F (.ext 1) [v1] L2 fun v3 L3 =>
 D_tarpaulinlaw15_CtxFalls_27 F N Q k1 (Env.put (Env.put l 27 v2) 28 v3) L3
theorem e_tarpaulinlaw15_CtxFalls_26 (F : Nat → Option AFn) (N : Nat → Nat) (Q : AV → Lg → Prop) (k1 : Env → Lg → Prop) (l t : Env) (L : Lg) : wp F (q_tarpaulinlaw15_CtxFalls_26 N) l t L (fun (l t : Env) (L : Lg) => D_tarpaulinlaw15_CtxFalls_21 F N Q k1 l L) (fun (j : Nat) (l t : Env) (L : Lg) => bif Nat.beq j 3 then (fun (l t : Env) (L : Lg) => D_tarpaulinlaw15_CtxFalls_21 F N Q k1 l L) l t L else (fun (j : Nat) (l t : Env) (L : Lg) => bif Nat.beq j 2 then (fun (l t : Env) (L : Lg) => D_tarpaulinlaw15_CtxFalls_14 F N Q (l 3) (l 9) (l 17) (l 18) (l 21) L) l t L else (fun _ _ _ _ => False) j l t L) j l t L) (fin [.tmp (.l 8)] Q) = D_tarpaulinlaw15_CtxFalls_26 F N Q k1 l L := Eq.trans (wpq_seq F (q_tarpaulinlaw15_CtxFalls_26a N) (q_tarpaulinlaw15_CtxFalls_27 N) l t L (fun (l t : Env) (L : Lg) => D_tarpaulinlaw15_CtxFalls_21 F N Q k1 l L) (fun (j : Nat) (l t : Env) (L : Lg) => bif Nat.beq j 3 then (fun (l t : Env) (L : Lg) => D_tarpaulinlaw15_CtxFalls_21 F N Q k1 l L) l t L else (fun (j : Nat) (l t : Env) (L : Lg) => bif Nat.beq j 2 then (fun (l t : Env) (L : Lg) => D_tarpaulinlaw15_CtxFalls_14 F N Q (l 3) (l 9) (l 17) (l 18) (l 21) L) l t L else (fun _ _ _ _ => False) j l t L) j l t L) (fin [.tmp (.l 8)] Q)) (Eq.trans (congrArg (fun Z : Kn => wp F (q_tarpaulinlaw15_CtxFalls_26a N) l t L Z (fun (j : Nat) (l t : Env) (L : Lg) => bif Nat.beq j 3 then (fun (l t : Env) (L : Lg) => D_tarpaulinlaw15_CtxFalls_21 F N Q k1 l L) l t L else (fun (j : Nat) (l t : Env) (L : Lg) => bif Nat.beq j 2 then (fun (l t : Env) (L : Lg) => D_tarpaulinlaw15_CtxFalls_14 F N Q (l 3) (l 9) (l 17) (l 18) (l 21) L) l t L else (fun _ _ _ _ => False) j l t L) j l t L) (fin [.tmp (.l 8)] Q)) (funext fun l => funext fun t => funext fun L => e_tarpaulinlaw15_CtxFalls_27 F N Q k1 l t L)) (by kernel_rfl))
def q_tarpaulinlaw15_CtxFalls_25a (N : Nat → Nat) : ACode := (.reg [⟨.t 158, none, .mv, [.l 9]⟩, ⟨.t 159, none, .mv, [.l 22]⟩, ⟨.t 160, none, .call (N k_ctx_Set_Err), [.t 158, .t 159]⟩, ⟨.t 157, none, .mv, [.t 160]⟩, ⟨.t 161, none, .ext 0, [.t 157]⟩, ⟨.t 162, none, .ext 1, [.t 157]⟩, ⟨.l 25, none, .mv, [.t 161]⟩, ⟨.l 26, none, .mv, [.t 162]⟩])
def q_tarpaulinlaw15_CtxFalls_25 (N : Nat → Nat) : ACode := (.seq (q_tarpaulinlaw15_CtxFalls_25a N) (q_tarpaulinlaw15_CtxFalls_26 N))
noncomputable def D_tarpaulinlaw15_CtxFalls_25 (F : Nat → Option AFn) (N : Nat → Nat) (Q : AV → Lg → Prop) (k1 : Env → Lg → Prop) (l : Env) (L : Lg) : Prop :=
 CallL F (N k_ctx_Set_Err) [(l 9), (l 22)] L fun v1 L1 =>
 wpOp F (.ext 0) [v1] L1 fun v2 L2 =>
 wpOp F (.ext 1) [v1] L2 fun v3 L3 =>
 D_tarpaulinlaw15_CtxFalls_26 F N Q k1 (Env.put (Env.put l 25 v2) 26 v3) L3
theorem e_tarpaulinlaw15_CtxFalls_25 (F : Nat → Option AFn) (N : Nat → Nat) (Q : AV → Lg → Prop) (k1 : Env → Lg → Prop) (l t : Env) (L : Lg) : wp F (q_tarpaulinlaw15_CtxFalls_25 N) l t L (fun (l t : Env) (L : Lg) => D_tarpaulinlaw15_CtxFalls_21 F N Q k1 l L) (fun (j : Nat) (l t : Env) (L : Lg) => bif Nat.beq j 3 then (fun (l t : Env) (L : Lg) => D_tarpaulinlaw15_CtxFalls_21 F N Q k1 l L) l t L else (fun (j : Nat) (l t : Env) (L : Lg) => bif Nat.beq j 2 then (fun (l t : Env) (L : Lg) => D_tarpaulinlaw15_CtxFalls_14 F N Q (l 3) (l 9) (l 17) (l 18) (l 21) L) l t L else (fun _ _ _ _ => False) j l t L) j l t L) (fin [.tmp (.l 8)] Q) = D_tarpaulinlaw15_CtxFalls_25 F N Q k1 l L := Eq.trans (wpq_seq F (q_tarpaulinlaw15_CtxFalls_25a N) (q_tarpaulinlaw15_CtxFalls_26 N) l t L (fun (l t : Env) (L : Lg) => D_tarpaulinlaw15_CtxFalls_21 F N Q k1 l L) (fun (j : Nat) (l t : Env) (L : Lg) => bif Nat.beq j 3 then (fun (l t : Env) (L : Lg) => D_tarpaulinlaw15_CtxFalls_21 F N Q k1 l L) l t L else (fun (j : Nat) (l t : Env) (L : Lg) => bif Nat.beq j 2 then (fun (l t : Env) (L : Lg) => D_tarpaulinlaw15_CtxFalls_14 F N Q (l 3) (l 9) (l 17) (l 18) (l 21) L) l t L else (fun _ _ _ _ => False) j l t L) j l t L) (fin [.tmp (.l 8)] Q)) (Eq.trans (congrArg (fun Z : Kn => wp F (q_tarpaulinlaw15_CtxFalls_25a N) l t L Z (fun (j : Nat) (l t : Env) (L : Lg) => bif Nat.beq j 3 then (fun (l t : Env) (L : Lg) => D_tarpaulinlaw15_CtxFalls_21 F N Q k1 l L) l t L else (fun (j : Nat) (l t : Env) (L : Lg) => bif Nat.beq j 2 then (fun (l t : Env) (L : Lg) => D_tarpaulinlaw15_CtxFalls_14 F N Q (l 3) (l 9) (l 17) (l 18) (l 21) L) l t L else (fun _ _ _ _ => False) j l t L) j l t L) (fin [.tmp (.l 8)] Q)) (funext fun l => funext fun t => funext fun L => e_tarpaulinlaw15_CtxFalls_26 F N Q k1 l t L)) (by kernel_rfl))
def q_tarpaulinlaw15_CtxFalls_31 (N : Nat → Nat) : ACode := (.seq (.seq (.reg [⟨.t 145, none, .mv, [.l 24]⟩, ⟨.t 146, none, .bin .geq, [.t 145, .c (.i .i64 0)]⟩]) (.cond (.t 146) .skip (.exit 4))) (.seq (.block 5 (.reg [⟨.t 151, none, .mv, [.l 23]⟩, ⟨.t 152, none, .mv, [.t 151]⟩, ⟨.t 153, some (.t 152, false), .mv, [.l 24]⟩, ⟨.t 154, some (.t 152, false), .mv, [.l 17]⟩, ⟨.t 155, some (.t 152, false), .bin .eql, [.t 153, .t 154]⟩, ⟨.t 156, none, .pick, [.t 152, .c (.b true), .t 155]⟩, ⟨.l 23, none, .mv, [.t 156]⟩])) (.reg [⟨.t 147, none, .mv, [.l 10]⟩, ⟨.t 148, none, .mv, [.l 24]⟩, ⟨.t 149, none, .iad 1, [.t 147, .t 148]⟩, ⟨.t 150, none, .ld none, [.t 149]⟩, ⟨.l 24, none, .mv, [.t 150]⟩])))
noncomputable def D_tarpaulinlaw15_CtxFalls_31 (F : Nat → Option AFn) (N : Nat → Nat) (Q : AV → Lg → Prop) (k1 : Env → Lg → Prop) (k2 : Env → Lg → Prop) (l : Env) (L : Lg) : Prop :=
 wpOp F (.bin .geq) [(l 24), (.i .i64 0)] L fun v1 L1 =>
 condW v1
 (gdOp F (l 23) false .mv [(l 24)] L1 fun v2 L2 =>
 gdOp F (l 23) false .mv [(l 17)] L2 fun v3 L3 =>
 gdOp F (l 23) false (.bin .eql) [v2, v3] L3 fun v4 L4 =>
 wpOp F .pick [(l 23), (.b true), v4] L4 fun v5 L5 =>
 wpOp F (.iad 1) [(l 10), (l 24)] L5 fun v6 L6 =>
 wpOp F (.ld none) [v6] L6 fun v7 L7 =>
 k2 (Env.put (Env.put l 23 v5) 24 v7) L7)
 (D_tarpaulinlaw15_CtxFalls_25 F N Q k1 l L1)
theorem e_tarpaulinlaw15_CtxFalls_31 (F : Nat → Option AFn) (N : Nat → Nat) (Q : AV → Lg → Prop) (k1 : Env → Lg → Prop) (k2 : Env → Lg → Prop) (l t : Env) (L : Lg) : wp F (q_tarpaulinlaw15_CtxFalls_31 N) l t L (fun (l _ : Env) (L : Lg) => k2 l L) (fun (j : Nat) (l t : Env) (L : Lg) => bif Nat.beq j 4 then (fun (l t : Env) (L : Lg) => D_tarpaulinlaw15_CtxFalls_25 F N Q k1 l L) l t L else (fun (j : Nat) (l t : Env) (L : Lg) => bif Nat.beq j 3 then (fun (l t : Env) (L : Lg) => D_tarpaulinlaw15_CtxFalls_21 F N Q k1 l L) l t L else (fun (j : Nat) (l t : Env) (L : Lg) => bif Nat.beq j 2 then (fun (l t : Env) (L : Lg) => D_tarpaulinlaw15_CtxFalls_14 F N Q (l 3) (l 9) (l 17) (l 18) (l 21) L) l t L else (fun _ _ _ _ => False) j l t L) j l t L) j l t L) (fin [.tmp (.l 8)] Q) = D_tarpaulinlaw15_CtxFalls_31 F N Q k1 k2 l L := by kernel_rfl
def q_tarpaulinlaw15_CtxFalls_30 (N : Nat → Nat) : ACode := (.loop (q_tarpaulinlaw15_CtxFalls_31 N))
noncomputable def D_tarpaulinlaw15_CtxFalls_30 (F : Nat → Option AFn) (N : Nat → Nat) (Q : AV → Lg → Prop) (k1 : Env → Lg → Prop) (l : Env) (L : Lg) : Prop :=
 loopW (fun l t L k2 => D_tarpaulinlaw15_CtxFalls_31 F N Q k1 k2 l L) l L
theorem e_tarpaulinlaw15_CtxFalls_30 (F : Nat → Option AFn) (N : Nat → Nat) (Q : AV → Lg → Prop) (k1 : Env → Lg → Prop) (l t : Env) (L : Lg) : wp F (q_tarpaulinlaw15_CtxFalls_30 N) l t L (fun (l t : Env) (L : Lg) => D_tarpaulinlaw15_CtxFalls_25 F N Q k1 l L) (fun (j : Nat) (l t : Env) (L : Lg) => bif Nat.beq j 4 then (fun (l t : Env) (L : Lg) => D_tarpaulinlaw15_CtxFalls_25 F N Q k1 l L) l t L else (fun (j : Nat) (l t : Env) (L : Lg) => bif Nat.beq j 3 then (fun (l t : Env) (L : Lg) => D_tarpaulinlaw15_CtxFalls_21 F N Q k1 l L) l t L else (fun (j : Nat) (l t : Env) (L : Lg) => bif Nat.beq j 2 then (fun (l t : Env) (L : Lg) => D_tarpaulinlaw15_CtxFalls_14 F N Q (l 3) (l 9) (l 17) (l 18) (l 21) L) l t L else (fun _ _ _ _ => False) j l t L) j l t L) j l t L) (fin [.tmp (.l 8)] Q) = D_tarpaulinlaw15_CtxFalls_30 F N Q k1 l L := Eq.trans (wpq_loop F (q_tarpaulinlaw15_CtxFalls_31 N) l t L (fun (l t : Env) (L : Lg) => D_tarpaulinlaw15_CtxFalls_25 F N Q k1 l L) (fun (j : Nat) (l t : Env) (L : Lg) => bif Nat.beq j 4 then (fun (l t : Env) (L : Lg) => D_tarpaulinlaw15_CtxFalls_25 F N Q k1 l L) l t L else (fun (j : Nat) (l t : Env) (L : Lg) => bif Nat.beq j 3 then (fun (l t : Env) (L : Lg) => D_tarpaulinlaw15_CtxFalls_21 F N Q k1 l L) l t L else (fun (j : Nat) (l t : Env) (L : Lg) => bif Nat.beq j 2 then (fun (l t : Env) (L : Lg) => D_tarpaulinlaw15_CtxFalls_14 F N Q (l 3) (l 9) (l 17) (l 18) (l 21) L) l t L else (fun _ _ _ _ => False) j l t L) j l t L) j l t L) (fin [.tmp (.l 8)] Q)) (Eq.trans (congrArg (fun B => loopW B l L) (funext fun l => funext fun t => funext fun L => funext fun k2 => e_tarpaulinlaw15_CtxFalls_31 F N Q k1 k2 l t L)) (by kernel_rfl))
def q_tarpaulinlaw15_CtxFalls_29 (N : Nat → Nat) : ACode := (.block 4 (q_tarpaulinlaw15_CtxFalls_30 N))
theorem e_tarpaulinlaw15_CtxFalls_29 (F : Nat → Option AFn) (N : Nat → Nat) (Q : AV → Lg → Prop) (k1 : Env → Lg → Prop) (l t : Env) (L : Lg) : wp F (q_tarpaulinlaw15_CtxFalls_29 N) l t L (fun (l t : Env) (L : Lg) => D_tarpaulinlaw15_CtxFalls_25 F N Q k1 l L) (fun (j : Nat) (l t : Env) (L : Lg) => bif Nat.beq j 3 then (fun (l t : Env) (L : Lg) => D_tarpaulinlaw15_CtxFalls_21 F N Q k1 l L) l t L else (fun (j : Nat) (l t : Env) (L : Lg) => bif Nat.beq j 2 then (fun (l t : Env) (L : Lg) => D_tarpaulinlaw15_CtxFalls_14 F N Q (l 3) (l 9) (l 17) (l 18) (l 21) L) l t L else (fun _ _ _ _ => False) j l t L) j l t L) (fin [.tmp (.l 8)] Q) = D_tarpaulinlaw15_CtxFalls_30 F N Q k1 l L := Eq.trans (wpq_block F 4 (q_tarpaulinlaw15_CtxFalls_30 N) l t L (fun (l t : Env) (L : Lg) => D_tarpaulinlaw15_CtxFalls_25 F N Q k1 l L) (fun (j : Nat) (l t : Env) (L : Lg) => bif Nat.beq j 3 then (fun (l t : Env) (L : Lg) => D_tarpaulinlaw15_CtxFalls_21 F N Q k1 l L) l t L else (fun (j : Nat) (l t : Env) (L : Lg) => bif Nat.beq j 2 then (fun (l t : Env) (L : Lg) => D_tarpaulinlaw15_CtxFalls_14 F N Q (l 3) (l 9) (l 17) (l 18) (l 21) L) l t L else (fun _ _ _ _ => False) j l t L) j l t L) (fin [.tmp (.l 8)] Q)) (e_tarpaulinlaw15_CtxFalls_30 F N Q k1 l t L)
def q_tarpaulinlaw15_CtxFalls_28a (N : Nat → Nat) : ACode := (.reg [⟨.t 144, none, .mv, [.l 22]⟩, ⟨.l 24, none, .mv, [.t 144]⟩])
def q_tarpaulinlaw15_CtxFalls_28 (N : Nat → Nat) : ACode := (.seq (q_tarpaulinlaw15_CtxFalls_28a N) (q_tarpaulinlaw15_CtxFalls_29 N))
noncomputable def D_tarpaulinlaw15_CtxFalls_28 (F : Nat → Option AFn) (N : Nat → Nat) (Q : AV → Lg → Prop) (k1 : Env → Lg → Prop) (l : Env) (L : Lg) : Prop :=
 D_tarpaulinlaw15_CtxFalls_30 F N Q k1 (Env.put l 24 (l 22)) L
theorem e_tarpaulinlaw15_CtxFalls_28 (F : Nat → Option AFn) (N : Nat → Nat) (Q : AV → Lg → Prop) (k1 : Env → Lg → Prop) (l t : Env) (L : Lg) : wp F (q_tarpaulinlaw15_CtxFalls_28 N) l t L (fun (l t : Env) (L : Lg) => D_tarpaulinlaw15_CtxFalls_25 F N Q k1 l L) (fun (j : Nat) (l t : Env) (L : Lg) => bif Nat.beq j 3 then (fun (l t : Env) (L : Lg) => D_tarpaulinlaw15_CtxFalls_21 F N Q k1 l L) l t L else (fun (j : Nat) (l t : Env) (L : Lg) => bif Nat.beq j 2 then (fun (l t : Env) (L : Lg) => D_tarpaulinlaw15_CtxFalls_14 F N Q (l 3) (l 9) (l 17) (l 18) (l 21) L) l t L else (fun _ _ _ _ => False) j l t L) j l t L) (fin [.tmp (.l 8)] Q) = D_tarpaulinlaw15_CtxFalls_28 F N Q k1 l L := Eq.trans (wpq_seq F (q_tarpaulinlaw15_CtxFalls_28a N) (q_tarpaulinlaw15_CtxFalls_29 N) l t L (fun (l t : Env) (L : Lg) => D_tarpaulinlaw15_CtxFalls_25 F N Q k1 l L) (fun (j : Nat) (l t : Env) (L : Lg) => bif Nat.beq j 3 then (fun (l t : Env) (L : Lg) => D_tarpaulinlaw15_CtxFalls_21 F N Q k1 l L) l t L else (fun (j : Nat) (l t : Env) (L : Lg) => bif Nat.beq j 2 then (fun (l t : Env) (L : Lg) => D_tarpaulinlaw15_CtxFalls_14 F N Q (l 3) (l 9) (l 17) (l 18) (l 21) L) l t L else (fun _ _ _ _ => False) j l t L) j l t L) (fin [.tmp (.l 8)] Q)) (Eq.trans (congrArg (fun Z : Kn => wp F (q_tarpaulinlaw15_CtxFalls_28a N) l t L Z (fun (j : Nat) (l t : Env) (L : Lg) => bif Nat.beq j 3 then (fun (l t : Env) (L : Lg) => D_tarpaulinlaw15_CtxFalls_21 F N Q k1 l L) l t L else (fun (j : Nat) (l t : Env) (L : Lg) => bif Nat.beq j 2 then (fun (l t : Env) (L : Lg) => D_tarpaulinlaw15_CtxFalls_14 F N Q (l 3) (l 9) (l 17) (l 18) (l 21) L) l t L else (fun _ _ _ _ => False) j l t L) j l t L) (fin [.tmp (.l 8)] Q)) (funext fun l => funext fun t => funext fun L => e_tarpaulinlaw15_CtxFalls_29 F N Q k1 l t L)) (by kernel_rfl))
def q_tarpaulinlaw15_CtxFalls_24 (N : Nat → Nat) : ACode := (.seq (q_tarpaulinlaw15_CtxFalls_28 N) (q_tarpaulinlaw15_CtxFalls_25 N))
theorem e_tarpaulinlaw15_CtxFalls_24 (F : Nat → Option AFn) (N : Nat → Nat) (Q : AV → Lg → Prop) (k1 : Env → Lg → Prop) (l t : Env) (L : Lg) : wp F (q_tarpaulinlaw15_CtxFalls_24 N) l t L (fun (l t : Env) (L : Lg) => D_tarpaulinlaw15_CtxFalls_21 F N Q k1 l L) (fun (j : Nat) (l t : Env) (L : Lg) => bif Nat.beq j 3 then (fun (l t : Env) (L : Lg) => D_tarpaulinlaw15_CtxFalls_21 F N Q k1 l L) l t L else (fun (j : Nat) (l t : Env) (L : Lg) => bif Nat.beq j 2 then (fun (l t : Env) (L : Lg) => D_tarpaulinlaw15_CtxFalls_14 F N Q (l 3) (l 9) (l 17) (l 18) (l 21) L) l t L else (fun _ _ _ _ => False) j l t L) j l t L) (fin [.tmp (.l 8)] Q) = D_tarpaulinlaw15_CtxFalls_28 F N Q k1 l L := Eq.trans (wpq_seq F (q_tarpaulinlaw15_CtxFalls_28 N) (q_tarpaulinlaw15_CtxFalls_25 N) l t L (fun (l t : Env) (L : Lg) => D_tarpaulinlaw15_CtxFalls_21 F N Q k1 l L) (fun (j : Nat) (l t : Env) (L : Lg) => bif Nat.beq j 3 then (fun (l t : Env) (L : Lg) => D_tarpaulinlaw15_CtxFalls_21 F N Q k1 l L) l t L else (fun (j : Nat) (l t : Env) (L : Lg) => bif Nat.beq j 2 then (fun (l t : Env) (L : Lg) => D_tarpaulinlaw15_CtxFalls_14 F N Q (l 3) (l 9) (l 17) (l 18) (l 21) L) l t L else (fun _ _ _ _ => False) j l t L) j l t L) (fin [.tmp (.l 8)] Q)) (Eq.trans (congrArg (fun Z : Kn => wp F (q_tarpaulinlaw15_CtxFalls_28 N) l t L Z (fun (j : Nat) (l t : Env) (L : Lg) => bif Nat.beq j 3 then (fun (l t : Env) (L : Lg) => D_tarpaulinlaw15_CtxFalls_21 F N Q k1 l L) l t L else (fun (j : Nat) (l t : Env) (L : Lg) => bif Nat.beq j 2 then (fun (l t : Env) (L : Lg) => D_tarpaulinlaw15_CtxFalls_14 F N Q (l 3) (l 9) (l 17) (l 18) (l 21) L) l t L else (fun _ _ _ _ => False) j l t L) j l t L) (fin [.tmp (.l 8)] Q)) (funext fun l => funext fun t => funext fun L => e_tarpaulinlaw15_CtxFalls_25 F N Q k1 l t L)) (e_tarpaulinlaw15_CtxFalls_28 F N Q k1 l t L))
def q_tarpaulinlaw15_CtxFalls_23a (N : Nat → Nat) : ACode := (.reg [⟨.l 23, none, .mv, [.c (.b false)]⟩])
def q_tarpaulinlaw15_CtxFalls_23 (N : Nat → Nat) : ACode := (.seq (q_tarpaulinlaw15_CtxFalls_23a N) (q_tarpaulinlaw15_CtxFalls_24 N))
noncomputable def D_tarpaulinlaw15_CtxFalls_23 (F : Nat → Option AFn) (N : Nat → Nat) (Q : AV → Lg → Prop) (k1 : Env → Lg → Prop) (l : Env) (L : Lg) : Prop :=
 D_tarpaulinlaw15_CtxFalls_28 F N Q k1 (Env.put l 23 (.b false)) L
theorem e_tarpaulinlaw15_CtxFalls_23 (F : Nat → Option AFn) (N : Nat → Nat) (Q : AV → Lg → Prop) (k1 : Env → Lg → Prop) (l t : Env) (L : Lg) : wp F (q_tarpaulinlaw15_CtxFalls_23 N) l t L (fun (l t : Env) (L : Lg) => D_tarpaulinlaw15_CtxFalls_21 F N Q k1 l L) (fun (j : Nat) (l t : Env) (L : Lg) => bif Nat.beq j 3 then (fun (l t : Env) (L : Lg) => D_tarpaulinlaw15_CtxFalls_21 F N Q k1 l L) l t L else (fun (j : Nat) (l t : Env) (L : Lg) => bif Nat.beq j 2 then (fun (l t : Env) (L : Lg) => D_tarpaulinlaw15_CtxFalls_14 F N Q (l 3) (l 9) (l 17) (l 18) (l 21) L) l t L else (fun _ _ _ _ => False) j l t L) j l t L) (fin [.tmp (.l 8)] Q) = D_tarpaulinlaw15_CtxFalls_23 F N Q k1 l L := Eq.trans (wpq_seq F (q_tarpaulinlaw15_CtxFalls_23a N) (q_tarpaulinlaw15_CtxFalls_24 N) l t L (fun (l t : Env) (L : Lg) => D_tarpaulinlaw15_CtxFalls_21 F N Q k1 l L) (fun (j : Nat) (l t : Env) (L : Lg) => bif Nat.beq j 3 then (fun (l t : Env) (L : Lg) => D_tarpaulinlaw15_CtxFalls_21 F N Q k1 l L) l t L else (fun (j : Nat) (l t : Env) (L : Lg) => bif Nat.beq j 2 then (fun (l t : Env) (L : Lg) => D_tarpaulinlaw15_CtxFalls_14 F N Q (l 3) (l 9) (l 17) (l 18) (l 21) L) l t L else (fun _ _ _ _ => False) j l t L) j l t L) (fin [.tmp (.l 8)] Q)) (Eq.trans (congrArg (fun Z : Kn => wp F (q_tarpaulinlaw15_CtxFalls_23a N) l t L Z (fun (j : Nat) (l t : Env) (L : Lg) => bif Nat.beq j 3 then (fun (l t : Env) (L : Lg) => D_tarpaulinlaw15_CtxFalls_21 F N Q k1 l L) l t L else (fun (j : Nat) (l t : Env) (L : Lg) => bif Nat.beq j 2 then (fun (l t : Env) (L : Lg) => D_tarpaulinlaw15_CtxFalls_14 F N Q (l 3) (l 9) (l 17) (l 18) (l 21) L) l t L else (fun _ _ _ _ => False) j l t L) j l t L) (fin [.tmp (.l 8)] Q)) (funext fun l => funext fun t => funext fun L => e_tarpaulinlaw15_CtxFalls_24 F N Q k1 l t L)) (by kernel_rfl))
def q_tarpaulinlaw15_CtxFalls_22 (N : Nat → Nat) : ACode := (.block 3 (q_tarpaulinlaw15_CtxFalls_23 N))
theorem e_tarpaulinlaw15_CtxFalls_22 (F : Nat → Option AFn) (N : Nat → Nat) (Q : AV → Lg → Prop) (k1 : Env → Lg → Prop) (l t : Env) (L : Lg) : wp F (q_tarpaulinlaw15_CtxFalls_22 N) l t L (fun (l t : Env) (L : Lg) => D_tarpaulinlaw15_CtxFalls_21 F N Q k1 l L) (fun (j : Nat) (l t : Env) (L : Lg) => bif Nat.beq j 2 then (fun (l t : Env) (L : Lg) => D_tarpaulinlaw15_CtxFalls_14 F N Q (l 3) (l 9) (l 17) (l 18) (l 21) L) l t L else (fun _ _ _ _ => False) j l t L) (fin [.tmp (.l 8)] Q) = D_tarpaulinlaw15_CtxFalls_23 F N Q k1 l L := Eq.trans (wpq_block F 3 (q_tarpaulinlaw15_CtxFalls_23 N) l t L (fun (l t : Env) (L : Lg) => D_tarpaulinlaw15_CtxFalls_21 F N Q k1 l L) (fun (j : Nat) (l t : Env) (L : Lg) => bif Nat.beq j 2 then (fun (l t : Env) (L : Lg) => D_tarpaulinlaw15_CtxFalls_14 F N Q (l 3) (l 9) (l 17) (l 18) (l 21) L) l t L else (fun _ _ _ _ => False) j l t L) (fin [.tmp (.l 8)] Q)) (e_tarpaulinlaw15_CtxFalls_23 F N Q k1 l t L)
def q_tarpaulinlaw15_CtxFalls_20 (N : Nat → Nat) : ACode := (.seq (q_tarpaulinlaw15_CtxFalls_22 N) (q_tarpaulinlaw15_CtxFalls_21 N))
theorem e_tarpaulinlaw15_CtxFalls_20 (F : Nat → Option AFn) (N : Nat → Nat) (Q : AV → Lg → Prop) (k1 : Env → Lg → Prop) (l t : Env) (L : Lg) : wp F (q_tarpaulinlaw15_CtxFalls_20 N) l t L (fun (l _ : Env) (L : Lg) => k1 l L) (fun (j : Nat) (l t : Env) (L : Lg) => bif Nat.beq j 2 then (fun (l t : Env) (L : Lg) => D_tarpaulinlaw15_CtxFalls_14 F N Q (l 3) (l 9) (l 17) (l 18) (l 21) L) l t L else (fun _ _ _ _ => False) j l t L) (fin [.tmp (.l 8)] Q) = D_tarpaulinlaw15_CtxFalls_23 F N Q k1 l L := Eq.trans (wpq_seq F (q_tarpaulinlaw15_CtxFalls_22 N) (q_tarpaulinlaw15_CtxFalls_21 N) l t L (fun (l _ : Env) (L : Lg) => k1 l L) (fun (j : Nat) (l t : Env) (L : Lg) => bif Nat.beq j 2 then (fun (l t : Env) (L : Lg) => D_tarpaulinlaw15_CtxFalls_14 F N Q (l 3) (l 9) (l 17) (l 18) (l 21) L) l t L else (fun _ _ _ _ => False) j l t L) (fin [.tmp (.l 8)] Q)) (Eq.trans (congrArg (fun Z : Kn => wp F (q_tarpaulinlaw15_CtxFalls_22 N) l t L Z (fun (j : Nat) (l t : Env) (L : Lg) => bif Nat.beq j 2 then (fun (l t : Env) (L : Lg) => D_tarpaulinlaw15_CtxFalls_14 F N Q (l 3) (l 9) (l 17) (l 18) (l 21) L) l t L else (fun _ _ _ _ => False) j l t L) (fin [.tmp (.l 8)] Q)) (funext fun l => funext fun t => funext fun L => e_tarpaulinlaw15_CtxFalls_21 F N Q k1 l t L)) (e_tarpaulinlaw15_CtxFalls_22 F N Q k1 l t L))
def q_tarpaulinlaw15_CtxFalls_19a (N : Nat → Nat) : ACode := (.seq (.reg [⟨.t 138, none, .mv, [.l 22]⟩, ⟨.t 139, none, .mv, [.l 10]⟩, ⟨.t 140, none, .lenSl, [.t 139]⟩, ⟨.t 141, none, .bin .lss, [.t 138, .t 140]⟩]) (.cond (.t 141) .skip (.exit 2)))
def q_tarpaulinlaw15_CtxFalls_19 (N : Nat → Nat) : ACode := (.seq (q_tarpaulinlaw15_CtxFalls_19a N) (q_tarpaulinlaw15_CtxFalls_20 N))
noncomputable def D_tarpaulinlaw15_CtxFalls_19 (F : Nat → Option AFn) (N : Nat → Nat) (Q : AV → Lg → Prop) (k1 : Env → Lg → Prop) (l : Env) (L : Lg) : Prop :=
 wpOp F .lenSl [(l 10)] L fun v1 L1 =>
 wpOp F (.bin .lss) [(l 22), v1] L1 fun v2 L2 =>
 condW v2
 (D_tarpaulinlaw15_CtxFalls_23 F N Q k1 l L2)
 (D_tarpaulinlaw15_CtxFalls_14 F N Q (l 3) (l 9) (l 17) (l 18) (l 21) L2)
theorem e_tarpaulinlaw15_CtxFalls_19 (F : Nat → Option AFn) (N : Nat → Nat) (Q : AV → Lg → Prop) (k1 : Env → Lg → Prop) (l t : Env) (L : Lg) : wp F (q_tarpaulinlaw15_CtxFalls_19 N) l t L (fun (l _ : Env) (L : Lg) => k1 l L) (fun (j : Nat) (l t : Env) (L : Lg) => bif Nat.beq j 2 then (fun (l t : Env) (L : Lg) => D_tarpaulinlaw15_CtxFalls_14 F N Q (l 3) (l 9) (l 17) (l 18) (l 21) L) l t L else (fun _ _ _ _ => False) j l t L) (fin [.tmp (.l 8)] Q) = D_tarpaulinlaw15_CtxFalls_19 F N Q k1 l L := Eq.trans (wpq_seq F (q_tarpaulinlaw15_CtxFalls_19a N) (q_tarpaulinlaw15_CtxFalls_20 N) l t L (fun (l _ : Env) (L : Lg) => k1 l L) (fun (j : Nat) (l t : Env) (L : Lg) => bif Nat.beq j 2 then (fun (l t : Env) (L : Lg) => D_tarpaulinlaw15_CtxFalls_14 F N Q (l 3) (l 9) (l 17) (l 18) (l 21) L) l t L else (fun _ _ _ _ => False) j l t L) (fin [.tmp (.l 8)] Q)) (Eq.trans (congrArg (fun Z : Kn => wp F (q_tarpaulinlaw15_CtxFalls_19a N) l t L Z (fun (j : Nat) (l t : Env) (L : Lg) => bif Nat.beq j 2 then (fun (l t : Env) (L : Lg) => D_tarpaulinlaw15_CtxFalls_14 F N Q (l 3) (l 9) (l 17) (l 18) (l 21) L) l t L else (fun _ _ _ _ => False) j l t L) (fin [.tmp (.l 8)] Q)) (funext fun l => funext fun t => funext fun L => e_tarpaulinlaw15_CtxFalls_20 F N Q k1 l t L)) (by kernel_rfl))
def q_tarpaulinlaw15_CtxFalls_18 (N : Nat → Nat) : ACode := (.loop (q_tarpaulinlaw15_CtxFalls_19 N))
noncomputable def D_tarpaulinlaw15_CtxFalls_18 (F : Nat → Option AFn) (N : Nat → Nat) (Q : AV → Lg → Prop) (l : Env) (L : Lg) : Prop :=
 loopW (fun l t L k1 => D_tarpaulinlaw15_CtxFalls_19 F N Q k1 l L) l L
theorem e_tarpaulinlaw15_CtxFalls_18 (F : Nat → Option AFn) (N : Nat → Nat) (Q : AV → Lg → Prop) (l t : Env) (L : Lg) : wp F (q_tarpaulinlaw15_CtxFalls_18 N) l t L (fun (l t : Env) (L : Lg) => D_tarpaulinlaw15_CtxFalls_14 F N Q (l 3) (l 9) (l 17) (l 18) (l 21) L) (fun (j : Nat) (l t : Env) (L : Lg) => bif Nat.beq j 2 then (fun (l t : Env) (L : Lg) => D_tarpaulinlaw15_CtxFalls_14 F N Q (l 3) (l 9) (l 17) (l 18) (l 21) L) l t L else (fun _ _ _ _ => False) j l t L) (fin [.tmp (.l 8)] Q) = D_tarpaulinlaw15_CtxFalls_18 F N Q l L := Eq.trans (wpq_loop F (q_tarpaulinlaw15_CtxFalls_19 N) l t L (fun (l t : Env) (L : Lg) => D_tarpaulinlaw15_CtxFalls_14 F N Q (l 3) (l 9) (l 17) (l 18) (l 21) L) (fun (j : Nat) (l t : Env) (L : Lg) => bif Nat.beq j 2 then (fun (l t : Env) (L : Lg) => D_tarpaulinlaw15_CtxFalls_14 F N Q (l 3) (l 9) (l 17) (l 18) (l 21) L) l t L else (fun _ _ _ _ => False) j l t L) (fin [.tmp (.l 8)] Q)) (Eq.trans (congrArg (fun B => loopW B l L) (funext fun l => funext fun t => funext fun L => funext fun k1 => e_tarpaulinlaw15_CtxFalls_19 F N Q k1 l t L)) (by kernel_rfl))
def q_tarpaulinlaw15_CtxFalls_17 (N : Nat → Nat) : ACode := (.block 2 (q_tarpaulinlaw15_CtxFalls_18 N))
theorem e_tarpaulinlaw15_CtxFalls_17 (F : Nat → Option AFn) (N : Nat → Nat) (Q : AV → Lg → Prop) (l t : Env) (L : Lg) : wp F (q_tarpaulinlaw15_CtxFalls_17 N) l t L (fun (l t : Env) (L : Lg) => D_tarpaulinlaw15_CtxFalls_14 F N Q (l 3) (l 9) (l 17) (l 18) (l 21) L) (fun _ _ _ _ => False) (fin [.tmp (.l 8)] Q) = D_tarpaulinlaw15_CtxFalls_18 F N Q l L := Eq.trans (wpq_block F 2 (q_tarpaulinlaw15_CtxFalls_18 N) l t L (fun (l t : Env) (L : Lg) => D_tarpaulinlaw15_CtxFalls_14 F N Q (l 3) (l 9) (l 17) (l 18) (l 21) L) (fun _ _ _ _ => False) (fin [.tmp (.l 8)] Q)) (e_tarpaulinlaw15_CtxFalls_18 F N Q l t L)
def q_tarpaulinlaw15_CtxFalls_16a (N : Nat → Nat) : ACode := (.reg [⟨.l 22, none, .mv, [.c (.i .i64 0)]⟩])
def q_tarpaulinlaw15_CtxFalls_16 (N : Nat → Nat) : ACode := (.seq (q_tarpaulinlaw15_CtxFalls_16a N) (q_tarpaulinlaw15_CtxFalls_17 N))
noncomputable def D_tarpaulinlaw15_CtxFalls_16 (F : Nat → Option AFn) (N : Nat → Nat) (Q : AV → Lg → Prop) (l : Env) (L : Lg) : Prop :=
 D_tarpaulinlaw15_CtxFalls_18 F N Q (Env.put l 22 (.i .i64 0)) L
theorem e_tarpaulinlaw15_CtxFalls_16 (F : Nat → Option AFn) (N : Nat → Nat) (Q : AV → Lg → Prop) (l t : Env) (L : Lg) : wp F (q_tarpaulinlaw15_CtxFalls_16 N) l t L (fun (l t : Env) (L : Lg) => D_tarpaulinlaw15_CtxFalls_14 F N Q (l 3) (l 9) (l 17) (l 18) (l 21) L) (fun _ _ _ _ => False) (fin [.tmp (.l 8)] Q) = D_tarpaulinlaw15_CtxFalls_16 F N Q l L := Eq.trans (wpq_seq F (q_tarpaulinlaw15_CtxFalls_16a N) (q_tarpaulinlaw15_CtxFalls_17 N) l t L (fun (l t : Env) (L : Lg) => D_tarpaulinlaw15_CtxFalls_14 F N Q (l 3) (l 9) (l 17) (l 18) (l 21) L) (fun _ _ _ _ => False) (fin [.tmp (.l 8)] Q)) (Eq.trans (congrArg (fun Z : Kn => wp F (q_tarpaulinlaw15_CtxFalls_16a N) l t L Z (fun _ _ _ _ => False) (fin [.tmp (.l 8)] Q)) (funext fun l => funext fun t => funext fun L => e_tarpaulinlaw15_CtxFalls_17 F N Q l t L)) (by kernel_rfl))
def q_tarpaulinlaw15_CtxFalls_13 (N : Nat → Nat) : ACode := (.seq (q_tarpaulinlaw15_CtxFalls_16 N) (q_tarpaulinlaw15_CtxFalls_14 N))
theorem e_tarpaulinlaw15_CtxFalls_13 (F : Nat → Option AFn) (N : Nat → Nat) (Q : AV → Lg → Prop) (l t : Env) (L : Lg) : wp F (q_tarpaulinlaw15_CtxFalls_13 N) l t L (fin [.tmp (.l 8)] Q) (fun _ _ _ _ => False) (fin [.tmp (.l 8)] Q) = D_tarpaulinlaw15_CtxFalls_16 F N Q l L := Eq.trans (wpq_seq F (q_tarpaulinlaw15_CtxFalls_16 N) (q_tarpaulinlaw15_CtxFalls_14 N) l t L (fin [.tmp (.l 8)] Q) (fun _ _ _ _ => False) (fin [.tmp (.l 8)] Q)) (Eq.trans (congrArg (fun Z : Kn => wp F (q_tarpaulinlaw15_CtxFalls_16 N) l t L Z (fun _ _ _ _ => False) (fin [.tmp (.l 8)] Q)) (funext fun l => funext fun t => funext fun L => e_tarpaulinlaw15_CtxFalls_14 F N Q l t L)) (e_tarpaulinlaw15_CtxFalls_16 F N Q l t L))
def q_tarpaulinlaw15_CtxFalls_12a (N : Nat → Nat) : ACode := (.reg [⟨.l 21, none, .mv, [.c (.i .i64 0)]⟩])
def q_tarpaulinlaw15_CtxFalls_12 (N : Nat → Nat) : ACode := (.seq (q_tarpaulinlaw15_CtxFalls_12a N) (q_tarpaulinlaw15_CtxFalls_13 N))
noncomputable def D_tarpaulinlaw15_CtxFalls_12 (F : Nat → Option AFn) (N : Nat → Nat) (Q : AV → Lg → Prop) (l : Env) (L : Lg) : Prop :=
 D_tarpaulinlaw15_CtxFalls_16 F N Q (Env.put l 21 (.i .i64 0)) L
theorem e_tarpaulinlaw15_CtxFalls_12 (F : Nat → Option AFn) (N : Nat → Nat) (Q : AV → Lg → Prop) (l t : Env) (L : Lg) : wp F (q_tarpaulinlaw15_CtxFalls_12 N) l t L (fin [.tmp (.l 8)] Q) (fun _ _ _ _ => False) (fin [.tmp (.l 8)] Q) = D_tarpaulinlaw15_CtxFalls_12 F N Q l L := Eq.trans (wpq_seq F (q_tarpaulinlaw15_CtxFalls_12a N) (q_tarpaulinlaw15_CtxFalls_13 N) l t L (fin [.tmp (.l 8)] Q) (fun _ _ _ _ => False) (fin [.tmp (.l 8)] Q)) (Eq.trans (congrArg (fun Z : Kn => wp F (q_tarpaulinlaw15_CtxFalls_12a N) l t L Z (fun _ _ _ _ => False) (fin [.tmp (.l 8)] Q)) (funext fun l => funext fun t => funext fun L => e_tarpaulinlaw15_CtxFalls_13 F N Q l t L)) (by kernel_rfl))
def q_tarpaulinlaw15_CtxFalls_11a (N : Nat → Nat) : ACode := (.seq (.reg [⟨.t 136, none, .mv, [.l 20]⟩, ⟨.t 137, none, .bin .neq, [.t 136, .c (.i .i64 0)]⟩]) (.cond (.t 137) (.seq (.reg [⟨.l 8, none, .mv, [.c (.b false)]⟩]) .ret) .skip))
def q_tarpaulinlaw15_CtxFalls_11 (N : Nat → Nat) : ACode := (.seq (q_tarpaulinlaw15_CtxFalls_11a N) (q_tarpaulinlaw15_CtxFalls_12 N))
noncomputable def D_tarpaulinlaw15_CtxFalls_11 (F : Nat → Option AFn) (N : Nat → Nat) (Q : AV → Lg → Prop) (l : Env) (L : Lg) : Prop :=
 wpOp F (.bin .neq) [(l 20), (.i .i64 0)] L fun v1 L1 =>
 condW v1
 (fin1 (some (.b false)) Q L1)
 (D_tarpaulinlaw15_CtxFalls_12 F N Q l L1)
theorem e_tarpaulinlaw15_CtxFalls_11 (F : Nat → Option AFn) (N : Nat → Nat) (Q : AV → Lg → Prop) (l t : Env) (L : Lg) : wp F (q_tarpaulinlaw15_CtxFalls_11 N) l t L (fin [.tmp (.l 8)] Q) (fun _ _ _ _ => False) (fin [.tmp (.l 8)] Q) = D_tarpaulinlaw15_CtxFalls_11 F N Q l L := Eq.trans (wpq_seq F (q_tarpaulinlaw15_CtxFalls_11a N) (q_tarpaulinlaw15_CtxFalls_12 N) l t L (fin [.tmp (.l 8)] Q) (fun _ _ _ _ => False) (fin [.tmp (.l 8)] Q)) (Eq.trans (congrArg (fun Z : Kn => wp F (q_tarpaulinlaw15_CtxFalls_11a N) l t L Z (fun _ _ _ _ => False) (fin [.tmp (.l 8)] Q)) (funext fun l => funext fun t => funext fun L => e_tarpaulinlaw15_CtxFalls_12 F N Q l t L)) (by kernel_rfl))
def q_tarpaulinlaw15_CtxFalls_10a (N : Nat → Nat) : ACode := (.seq (.reg [⟨.t 122, none, .mv, [.l 11]⟩, ⟨.t 123, none, .mv, [.l 17]⟩, ⟨.t 124, none, .iad 1, [.t 122, .t 123]⟩, ⟨.t 125, none, .ld none, [.t 124]⟩]) (.cond (.t 125) (.seq (.reg [⟨.t 126, none, .mv, [.l 20]⟩, ⟨.t 127, none, .bin .eql, [.t 126, .c (.i .i64 1)]⟩, ⟨.t 128, none, .mv, [.t 127]⟩, ⟨.t 129, some (.t 128, true), .mv, [.l 18]⟩, ⟨.t 130, some (.t 128, true), .lenSl, [.t 129]⟩, ⟨.t 131, some (.t 128, true), .bin .eql, [.t 130, .c (.i .i64 0)]⟩, ⟨.t 132, none, .pick, [.t 128, .t 131, .c (.b false)]⟩, ⟨.t 133, none, .mv, [.t 132]⟩, ⟨.t 134, some (.t 133, true), .call (N k_tarpaulinlaw15_awake), []⟩, ⟨.t 135, none, .pick, [.t 133, .t 134, .c (.b false)]⟩, ⟨.l 8, none, .mv, [.t 135]⟩]) .ret) .skip))
def q_tarpaulinlaw15_CtxFalls_10 (N : Nat → Nat) : ACode := (.seq (q_tarpaulinlaw15_CtxFalls_10a N) (q_tarpaulinlaw15_CtxFalls_11 N))
noncomputable def D_tarpaulinlaw15_CtxFalls_10 (F : Nat → Option AFn) (N : Nat → Nat) (Q : AV → Lg → Prop) (l : Env) (L : Lg) : Prop :=
 wpOp F (.iad 1) [(l 11), (l 17)] L fun v1 L1 =>
 wpOp F (.ld none) [v1] L1 fun v2 L2 =>
 condW v2
 (wpOp F (.bin .eql) [(l 20), (.i .i64 1)] L2 fun v3 L3 =>
 gdOp F v3 true .mv [(l 18)] L3 fun v4 L4 =>
 gdOp F v3 true .lenSl [v4] L4 fun v5 L5 =>
 gdOp F v3 true (.bin .eql) [v5, (.i .i64 0)] L5 fun v6 L6 =>
 wpOp F .pick [v3, v6, (.b false)] L6 fun v7 L7 =>
 gdOp F v7 true (.call (N k_tarpaulinlaw15_awake)) [] L7 fun v8 L8 =>
 wpOp F .pick [v7, v8, (.b false)] L8 fun v9 L9 =>
 fin1 (some v9) Q L9)
 (D_tarpaulinlaw15_CtxFalls_11 F N Q l L2)
theorem e_tarpaulinlaw15_CtxFalls_10 (F : Nat → Option AFn) (N : Nat → Nat) (Q : AV → Lg → Prop) (l t : Env) (L : Lg) : wp F (q_tarpaulinlaw15_CtxFalls_10 N) l t L (fin [.tmp (.l 8)] Q) (fun _ _ _ _ => False) (fin [.tmp (.l 8)] Q) = D_tarpaulinlaw15_CtxFalls_10 F N Q l L := Eq.trans (wpq_seq F (q_tarpaulinlaw15_CtxFalls_10a N) (q_tarpaulinlaw15_CtxFalls_11 N) l t L (fin [.tmp (.l 8)] Q) (fun _ _ _ _ => False) (fin [.tmp (.l 8)] Q)) (Eq.trans (congrArg (fun Z : Kn => wp F (q_tarpaulinlaw15_CtxFalls_10a N) l t L Z (fun _ _ _ _ => False) (fin [.tmp (.l 8)] Q)) (funext fun l => funext fun t => funext fun L => e_tarpaulinlaw15_CtxFalls_11 F N Q l t L)) (by kernel_rfl))
def q_tarpaulinlaw15_CtxFalls_9a (N : Nat → Nat) : ACode := (.reg [⟨.t 115, none, .mv, [.l 9]⟩, ⟨.t 116, none, .mv, [.l 17]⟩, ⟨.t 117, none, .mv, [.l 3]⟩, ⟨.t 118, none, .call (N k_ctx_Set_Cancel), [.t 115, .t 116, .t 117]⟩, ⟨.t 114, none, .mv, [.t 118]⟩, ⟨.t 119, none, .ext 0, [.t 114]⟩, ⟨.t 120, none, .ext 1, [.t 114]⟩, ⟨.t 121, none, .ext 2, [.t 114]⟩, ⟨.l 18, none, .mv, [.t 119]⟩, ⟨.t 19, none, .mv, [.t 120]⟩, ⟨.l 20, none, .mv, [.t 121]⟩])
def q_tarpaulinlaw15_CtxFalls_9 (N : Nat → Nat) : ACode := (.seq (q_tarpaulinlaw15_CtxFalls_9a N) (q_tarpaulinlaw15_CtxFalls_10 N))
noncomputable def D_tarpaulinlaw15_CtxFalls_9 (F : Nat → Option AFn) (N : Nat → Nat) (Q : AV → Lg → Prop) (l : Env) (L : Lg) : Prop :=
 CallL F (N k_ctx_Set_Cancel) [(l 9), (l 17), (l 3)] L fun v1 L1 =>
 wpOp F (.ext 0) [v1] L1 fun v2 L2 =>
 wpOp F (.ext 1) [v1] L2 fun v3 L3 =>
 wpOp F (.ext 2) [v1] L3 fun v4 L4 =>
 D_tarpaulinlaw15_CtxFalls_10 F N Q (Env.put (Env.put l 18 v2) 20 v4) L4
theorem e_tarpaulinlaw15_CtxFalls_9 (F : Nat → Option AFn) (N : Nat → Nat) (Q : AV → Lg → Prop) (l t : Env) (L : Lg) : wp F (q_tarpaulinlaw15_CtxFalls_9 N) l t L (fin [.tmp (.l 8)] Q) (fun _ _ _ _ => False) (fin [.tmp (.l 8)] Q) = D_tarpaulinlaw15_CtxFalls_9 F N Q l L := Eq.trans (wpq_seq F (q_tarpaulinlaw15_CtxFalls_9a N) (q_tarpaulinlaw15_CtxFalls_10 N) l t L (fin [.tmp (.l 8)] Q) (fun _ _ _ _ => False) (fin [.tmp (.l 8)] Q)) (Eq.trans (congrArg (fun Z : Kn => wp F (q_tarpaulinlaw15_CtxFalls_9a N) l t L Z (fun _ _ _ _ => False) (fin [.tmp (.l 8)] Q)) (funext fun l => funext fun t => funext fun L => e_tarpaulinlaw15_CtxFalls_10 F N Q l t L)) (by kernel_rfl))
def q_tarpaulinlaw15_CtxFalls_8a (N : Nat → Nat) : ACode := (.reg [⟨.t 110, none, .mv, [.l 2]⟩, ⟨.t 111, none, .mv, [.l 10]⟩, ⟨.t 112, none, .lenSl, [.t 111]⟩, ⟨.t 113, none, .call (N k_tarpaulinalike_Round), [.t 110, .t 112]⟩, ⟨.l 17, none, .mv, [.t 113]⟩])
def q_tarpaulinlaw15_CtxFalls_8 (N : Nat → Nat) : ACode := (.seq (q_tarpaulinlaw15_CtxFalls_8a N) (q_tarpaulinlaw15_CtxFalls_9 N))
noncomputable def D_tarpaulinlaw15_CtxFalls_8 (F : Nat → Option AFn) (N : Nat → Nat) (Q : AV → Lg → Prop) (l : Env) (L : Lg) : Prop :=
 wpOp F .lenSl [(l 10)] L fun v1 L1 =>
 CallL F (N k_tarpaulinalike_Round) [(l 2), v1] L1 fun v2 L2 =>
 D_tarpaulinlaw15_CtxFalls_9 F N Q (Env.put l 17 v2) L2
theorem e_tarpaulinlaw15_CtxFalls_8 (F : Nat → Option AFn) (N : Nat → Nat) (Q : AV → Lg → Prop) (l t : Env) (L : Lg) : wp F (q_tarpaulinlaw15_CtxFalls_8 N) l t L (fin [.tmp (.l 8)] Q) (fun _ _ _ _ => False) (fin [.tmp (.l 8)] Q) = D_tarpaulinlaw15_CtxFalls_8 F N Q l L := Eq.trans (wpq_seq F (q_tarpaulinlaw15_CtxFalls_8a N) (q_tarpaulinlaw15_CtxFalls_9 N) l t L (fin [.tmp (.l 8)] Q) (fun _ _ _ _ => False) (fin [.tmp (.l 8)] Q)) (Eq.trans (congrArg (fun Z : Kn => wp F (q_tarpaulinlaw15_CtxFalls_8a N) l t L Z (fun _ _ _ _ => False) (fin [.tmp (.l 8)] Q)) (funext fun l => funext fun t => funext fun L => e_tarpaulinlaw15_CtxFalls_9 F N Q l t L)) (by kernel_rfl))
def q_tarpaulinlaw15_CtxFalls_37 (N : Nat → Nat) : ACode := (.reg [⟨.t 64, none, .mv, [.l 12]⟩, ⟨.t 65, none, .bin .add, [.t 64, .c (.i .i64 1)]⟩, ⟨.l 12, none, .mv, [.t 65]⟩])
noncomputable def D_tarpaulinlaw15_CtxFalls_37 (F : Nat → Option AFn) (N : Nat → Nat) (Q : AV → Lg → Prop) (k1 : Env → Lg → Prop) (l : Env) (L : Lg) : Prop :=
 wpOp F (.bin .add) [(l 12), (.i .i64 1)] L fun v1 L1 =>
 k1 (Env.put l 12 v1) L1
theorem e_tarpaulinlaw15_CtxFalls_37 (F : Nat → Option AFn) (N : Nat → Nat) (Q : AV → Lg → Prop) (k1 : Env → Lg → Prop) (l t : Env) (L : Lg) : wp F (q_tarpaulinlaw15_CtxFalls_37 N) l t L (fun (l _ : Env) (L : Lg) => k1 l L) (fun (j : Nat) (l t : Env) (L : Lg) => bif Nat.beq j 0 then (fun (l t : Env) (L : Lg) => D_tarpaulinlaw15_CtxFalls_8 F N Q l L) l t L else (fun _ _ _ _ => False) j l t L) (fin [.tmp (.l 8)] Q) = D_tarpaulinlaw15_CtxFalls_37 F N Q k1 l L := by kernel_rfl
def q_tarpaulinlaw15_CtxFalls_43 (N : Nat → Nat) : ACode := (.seq (.seq (.reg [⟨.t 93, none, .mv, [.l 15]⟩, ⟨.t 94, none, .bin .neq, [.t 93, .c (.i .i64 0)]⟩, ⟨.t 95, none, .mv, [.t 94]⟩, ⟨.t 96, some (.t 95, false), .mv, [.l 14]⟩, ⟨.t 97, some (.t 95, false), .mv, [.l 12]⟩, ⟨.t 98, some (.t 95, false), .bin .add, [.t 97, .c (.i .i64 1)]⟩, ⟨.t 99, some (.t 95, false), .bin .neq, [.t 96, .t 98]⟩, ⟨.t 100, none, .pick, [.t 95, .c (.b true), .t 99]⟩]) (.cond (.t 100) (.seq (.reg [⟨.l 8, none, .mv, [.c (.b false)]⟩]) .ret) .skip)) (.seq (.seq (.reg [⟨.t 101, none, .mv, [.l 16]⟩]) (.cond (.t 101) (.reg [⟨.l 13, none, .mv, [.c (.i .i64 (-1))]⟩]) .skip)) (.reg [⟨.t 102, none, .mv, [.l 10]⟩, ⟨.t 103, none, .mv, [.l 13]⟩, ⟨.t 104, none, .bslice [.i .i64 0] 1 1 [0], [.t 103]⟩, ⟨.t 105, none, .app 1 8, [.t 102, .t 104]⟩, ⟨.t 106, none, .mv, [.l 11]⟩, ⟨.t 107, none, .mv, [.l 16]⟩, ⟨.t 108, none, .bslice [.b false] 1 1 [0], [.t 107]⟩, ⟨.t 109, none, .app 1 1, [.t 106, .t 108]⟩, ⟨.l 10, none, .mv, [.t 105]⟩, ⟨.l 11, none, .mv, [.t 109]⟩])))
noncomputable def D_tarpaulinlaw15_CtxFalls_43 (F : Nat → Option AFn) (N : Nat → Nat) (Q : AV → Lg → Prop) (k1 : Env → Lg → Prop) (l : Env) (L : Lg) : Prop :=
 wpOp F (.bin .neq) [(l 15), (.i .i64 0)] L fun v1 L1 =>
 gdOp F v1 false .mv [(l 14)] L1 fun v2 L2 =>
 gdOp F v1 false .mv [(l 12)] L2 fun v3 L3 =>
 gdOp F v1 false (.bin .add) [v3, (.i .i64 1)] L3 fun v4 L4 =>
 gdOp F v1 false (.bin .neq) [v2, v4] L4 fun v5 L5 =>
 wpOp F .pick [v1, (.b true), v5] L5 fun v6 L6 =>
 condW v6
 (fin1 (some (.b false)) Q L6)
 (condW (l 16)
 (wpOp F (.bslice [.i .i64 0] 1 1 [0]) [(.i .i64 (-1))] L6 fun v7 L7 =>
 wpOp F (.app 1 8) [(l 10), v7] L7 fun v8 L8 =>
 wpOp F (.bslice [.b false] 1 1 [0]) [(l 16)] L8 fun v9 L9 =>
 wpOp F (.app 1 1) [(l 11), v9] L9 fun v10 L10 =>
 D_tarpaulinlaw15_CtxFalls_37 F N Q k1 (Env.put (Env.put (Env.put l 13 (.i .i64 (-1))) 10 v8) 11 v10) L10)
 (wpOp F (.bslice [.i .i64 0] 1 1 [0]) [(l 13)] L6 fun v11 L11 =>
 wpOp F (.app 1 8) [(l 10), v11] L11 fun v12 L12 =>
 wpOp F (.bslice [.b false] 1 1 [0]) [(l 16)] L12 fun v13 L13 =>
 wpOp F (.app 1 1) [(l 11), v13] L13 fun v14 L14 =>
 D_tarpaulinlaw15_CtxFalls_37 F N Q k1 (Env.put (Env.put l 10 v12) 11 v14) L14))
theorem e_tarpaulinlaw15_CtxFalls_43 (F : Nat → Option AFn) (N : Nat → Nat) (Q : AV → Lg → Prop) (k1 : Env → Lg → Prop) (l t : Env) (L : Lg) : wp F (q_tarpaulinlaw15_CtxFalls_43 N) l t L (fun (l t : Env) (L : Lg) => D_tarpaulinlaw15_CtxFalls_37 F N Q k1 l L) (fun (j : Nat) (l t : Env) (L : Lg) => bif Nat.beq j 1 then (fun (l t : Env) (L : Lg) => D_tarpaulinlaw15_CtxFalls_37 F N Q k1 l L) l t L else (fun (j : Nat) (l t : Env) (L : Lg) => bif Nat.beq j 0 then (fun (l t : Env) (L : Lg) => D_tarpaulinlaw15_CtxFalls_8 F N Q l L) l t L else (fun _ _ _ _ => False) j l t L) j l t L) (fin [.tmp (.l 8)] Q) = D_tarpaulinlaw15_CtxFalls_43 F N Q k1 l L := by kernel_rfl
def q_tarpaulinlaw15_CtxFalls_42a (N : Nat → Nat) : ACode := (.seq (.reg [⟨.t 79, none, .mv, [.l 16]⟩]) (.cond (.t 79) (.reg [⟨.t 81, none, .mv, [.l 9]⟩, ⟨.t 82, none, .mv, [.l 13]⟩, ⟨.t 83, none, .call (N k_ctx_Set_Without), [.t 81, .t 82]⟩, ⟨.t 80, none, .mv, [.t 83]⟩, ⟨.t 84, none, .ext 0, [.t 80]⟩, ⟨.t 85, none, .ext 1, [.t 80]⟩, ⟨.l 14, none, .mv, [.t 84]⟩, ⟨.l 15, none, .mv, [.t 85]⟩]) (.reg [⟨.t 87, none, .mv, [.l 9]⟩, ⟨.t 88, none, .mv, [.l 13]⟩, ⟨.t 89, none, .call (N k_ctx_Set_Cancels), [.t 87, .t 88]⟩, ⟨.t 86, none, .mv, [.t 89]⟩, ⟨.t 90, none, .ext 0, [.t 86]⟩, ⟨.t 91, none, .ext 1, [.t 86]⟩, ⟨.t 92, none, .ext 2, [.t 86]⟩, ⟨.l 14, none, .mv, [.t 90]⟩, ⟨.l 15, none, .mv, [.t 92]⟩])))
def q_tarpaulinlaw15_CtxFalls_42 (N : Nat → Nat) : ACode := (.seq (q_tarpaulinlaw15_CtxFalls_42a N) (q_tarpaulinlaw15_CtxFalls_43 N))
noncomputable def D_tarpaulinlaw15_CtxFalls_42 (F : Nat → Option AFn) (N : Nat → Nat) (Q : AV → Lg → Prop) (k1 : Env → Lg → Prop) (l : Env) (L : Lg) : Prop :=
 condW (l 16)
 (CallL F (N k_ctx_Set_Without) [(l 9), (l 13)] L fun v1 L1 =>
 wpOp F (.ext 0) [v1] L1 fun v2 L2 =>
 wpOp F (.ext 1) [v1] L2 fun v3 L3 =>
 D_tarpaulinlaw15_CtxFalls_43 F N Q k1 (Env.put (Env.put l 14 v2) 15 v3) L3)
 (CallL F (N k_ctx_Set_Cancels) [(l 9), (l 13)] L fun v4 L4 =>
 wpOp F (.ext 0) [v4] L4 fun v5 L5 =>
 wpOp F (.ext 1) [v4] L5 fun v6 L6 =>
 wpOp F (.ext 2) [v4] L6 fun v7 L7 =>
 D_tarpaulinlaw15_CtxFalls_43 F N Q k1 (Env.put (Env.put l 14 v5) 15 v7) L7)
theorem e_tarpaulinlaw15_CtxFalls_42 (F : Nat → Option AFn) (N : Nat → Nat) (Q : AV → Lg → Prop) (k1 : Env → Lg → Prop) (l t : Env) (L : Lg) : wp F (q_tarpaulinlaw15_CtxFalls_42 N) l t L (fun (l t : Env) (L : Lg) => D_tarpaulinlaw15_CtxFalls_37 F N Q k1 l L) (fun (j : Nat) (l t : Env) (L : Lg) => bif Nat.beq j 1 then (fun (l t : Env) (L : Lg) => D_tarpaulinlaw15_CtxFalls_37 F N Q k1 l L) l t L else (fun (j : Nat) (l t : Env) (L : Lg) => bif Nat.beq j 0 then (fun (l t : Env) (L : Lg) => D_tarpaulinlaw15_CtxFalls_8 F N Q l L) l t L else (fun _ _ _ _ => False) j l t L) j l t L) (fin [.tmp (.l 8)] Q) = D_tarpaulinlaw15_CtxFalls_42 F N Q k1 l L := Eq.trans (wpq_seq F (q_tarpaulinlaw15_CtxFalls_42a N) (q_tarpaulinlaw15_CtxFalls_43 N) l t L (fun (l t : Env) (L : Lg) => D_tarpaulinlaw15_CtxFalls_37 F N Q k1 l L) (fun (j : Nat) (l t : Env) (L : Lg) => bif Nat.beq j 1 then (fun (l t : Env) (L : Lg) => D_tarpaulinlaw15_CtxFalls_37 F N Q k1 l L) l t L else (fun (j : Nat) (l t : Env) (L : Lg) => bif Nat.beq j 0 then (fun (l t : Env) (L : Lg) => D_tarpaulinlaw15_CtxFalls_8 F N Q l L) l t L else (fun _ _ _ _ => False) j l t L) j l t L) (fin [.tmp (.l 8)] Q)) (Eq.trans (congrArg (fun Z : Kn => wp F (q_tarpaulinlaw15_CtxFalls_42a N) l t L Z (fun (j : Nat) (l t : Env) (L : Lg) => bif Nat.beq j 1 then (fun (l t : Env) (L : Lg) => D_tarpaulinlaw15_CtxFalls_37 F N Q k1 l L) l t L else (fun (j : Nat) (l t : Env) (L : Lg) => bif Nat.beq j 0 then (fun (l t : Env) (L : Lg) => D_tarpaulinlaw15_CtxFalls_8 F N Q l L) l t L else (fun _ _ _ _ => False) j l t L) j l t L) (fin [.tmp (.l 8)] Q)) (funext fun l => funext fun t => funext fun L => e_tarpaulinlaw15_CtxFalls_43 F N Q k1 l t L)) (by kernel_rfl))
def q_tarpaulinlaw15_CtxFalls_41a (N : Nat → Nat) : ACode := (.reg [⟨.t 73, none, .mv, [.l 1]⟩, ⟨.t 74, none, .mv, [.l 12]⟩, ⟨.t 75, none, .iad 1, [.t 73, .t 74]⟩, ⟨.t 76, none, .ld none, [.t 75]⟩, ⟨.t 77, none, .call (N k_tarpaulinalike_Round), [.t 76, .c (.i .i64 4)]⟩, ⟨.t 78, none, .bin .eql, [.t 77, .c (.i .i64 0)]⟩, ⟨.l 16, none, .mv, [.t 78]⟩])
def q_tarpaulinlaw15_CtxFalls_41 (N : Nat → Nat) : ACode := (.seq (q_tarpaulinlaw15_CtxFalls_41a N) (q_tarpaulinlaw15_CtxFalls_42 N))
noncomputable def D_tarpaulinlaw15_CtxFalls_41 (F : Nat → Option AFn) (N : Nat → Nat) (Q : AV → Lg → Prop) (k1 : Env → Lg → Prop) (l : Env) (L : Lg) : Prop :=
 wpOp F (.iad 1) [(l 1), (l 12)] L fun v1 L1 =>
 wpOp F (.ld none) [v1] L1 fun v2 L2 =>
 CallL F (N k_tarpaulinalike_Round) [v2, (.i .i64 4)] L2 fun v3 L3 =>
 wpOp F (.bin .eql) [v3, (.i .i64 0)] L3 fun v4 L4 =>
 D_tarpaulinlaw15_CtxFalls_42 F N Q k1 (Env.put l 16 v4) L4
theorem e_tarpaulinlaw15_CtxFalls_41 (F : Nat → Option AFn) (N : Nat → Nat) (Q : AV → Lg → Prop) (k1 : Env → Lg → Prop) (l t : Env) (L : Lg) : wp F (q_tarpaulinlaw15_CtxFalls_41 N) l t L (fun (l t : Env) (L : Lg) => D_tarpaulinlaw15_CtxFalls_37 F N Q k1 l L) (fun (j : Nat) (l t : Env) (L : Lg) => bif Nat.beq j 1 then (fun (l t : Env) (L : Lg) => D_tarpaulinlaw15_CtxFalls_37 F N Q k1 l L) l t L else (fun (j : Nat) (l t : Env) (L : Lg) => bif Nat.beq j 0 then (fun (l t : Env) (L : Lg) => D_tarpaulinlaw15_CtxFalls_8 F N Q l L) l t L else (fun _ _ _ _ => False) j l t L) j l t L) (fin [.tmp (.l 8)] Q) = D_tarpaulinlaw15_CtxFalls_41 F N Q k1 l L := Eq.trans (wpq_seq F (q_tarpaulinlaw15_CtxFalls_41a N) (q_tarpaulinlaw15_CtxFalls_42 N) l t L (fun (l t : Env) (L : Lg) => D_tarpaulinlaw15_CtxFalls_37 F N Q k1 l L) (fun (j : Nat) (l t : Env) (L : Lg) => bif Nat.beq j 1 then (fun (l t : Env) (L : Lg) => D_tarpaulinlaw15_CtxFalls_37 F N Q k1 l L) l t L else (fun (j : Nat) (l t : Env) (L : Lg) => bif Nat.beq j 0 then (fun (l t : Env) (L : Lg) => D_tarpaulinlaw15_CtxFalls_8 F N Q l L) l t L else (fun _ _ _ _ => False) j l t L) j l t L) (fin [.tmp (.l 8)] Q)) (Eq.trans (congrArg (fun Z : Kn => wp F (q_tarpaulinlaw15_CtxFalls_41a N) l t L Z (fun (j : Nat) (l t : Env) (L : Lg) => bif Nat.beq j 1 then (fun (l t : Env) (L : Lg) => D_tarpaulinlaw15_CtxFalls_37 F N Q k1 l L) l t L else (fun (j : Nat) (l t : Env) (L : Lg) => bif Nat.beq j 0 then (fun (l t : Env) (L : Lg) => D_tarpaulinlaw15_CtxFalls_8 F N Q l L) l t L else (fun _ _ _ _ => False) j l t L) j l t L) (fin [.tmp (.l 8)] Q)) (funext fun l => funext fun t => funext fun L => e_tarpaulinlaw15_CtxFalls_42 F N Q k1 l t L)) (by kernel_rfl))
def q_tarpaulinlaw15_CtxFalls_40a (N : Nat → Nat) : ACode := (.reg [⟨.l 14, none, .mv, [.c (.i .i64 0)]⟩, ⟨.l 15, none, .mv, [.c (.i .i64 0)]⟩])
def q_tarpaulinlaw15_CtxFalls_40 (N : Nat → Nat) : ACode := (.seq (q_tarpaulinlaw15_CtxFalls_40a N) (q_tarpaulinlaw15_CtxFalls_41 N))
noncomputable def D_tarpaulinlaw15_CtxFalls_40 (F : Nat → Option AFn) (N : Nat → Nat) (Q : AV → Lg → Prop) (k1 : Env → Lg → Prop) (l : Env) (L : Lg) : Prop :=
 D_tarpaulinlaw15_CtxFalls_41 F N Q k1 (Env.put (Env.put l 14 (.i .i64 0)) 15 (.i .i64 0)) L
theorem e_tarpaulinlaw15_CtxFalls_40 (F : Nat → Option AFn) (N : Nat → Nat) (Q : AV → Lg → Prop) (k1 : Env → Lg → Prop) (l t : Env) (L : Lg) : wp F (q_tarpaulinlaw15_CtxFalls_40 N) l t L (fun (l t : Env) (L : Lg) => D_tarpaulinlaw15_CtxFalls_37 F N Q k1 l L) (fun (j : Nat) (l t : Env) (L : Lg) => bif Nat.beq j 1 then (fun (l t : Env) (L : Lg) => D_tarpaulinlaw15_CtxFalls_37 F N Q k1 l L) l t L else (fun (j : Nat) (l t : Env) (L : Lg) => bif Nat.beq j 0 then (fun (l t : Env) (L : Lg) => D_tarpaulinlaw15_CtxFalls_8 F N Q l L) l t L else (fun _ _ _ _ => False) j l t L) j l t L) (fin [.tmp (.l 8)] Q) = D_tarpaulinlaw15_CtxFalls_40 F N Q k1 l L := Eq.trans (wpq_seq F (q_tarpaulinlaw15_CtxFalls_40a N) (q_tarpaulinlaw15_CtxFalls_41 N) l t L (fun (l t : Env) (L : Lg) => D_tarpaulinlaw15_CtxFalls_37 F N Q k1 l L) (fun (j : Nat) (l t : Env) (L : Lg) => bif Nat.beq j 1 then (fun (l t : Env) (L : Lg) => D_tarpaulinlaw15_CtxFalls_37 F N Q k1 l L) l t L else (fun (j : Nat) (l t : Env) (L : Lg) => bif Nat.beq j 0 then (fun (l t : Env) (L : Lg) => D_tarpaulinlaw15_CtxFalls_8 F N Q l L) l t L else (fun _ _ _ _ => False) j l t L) j l t L) (fin [.tmp (.l 8)] Q)) (Eq.trans (congrArg (fun Z : Kn => wp F (q_tarpaulinlaw15_CtxFalls_40a N) l t L Z (fun (j : Nat) (l t : Env) (L : Lg) => bif Nat.beq j 1 then (fun (l t : Env) (L : Lg) => D_tarpaulinlaw15_CtxFalls_37 F N Q k1 l L) l t L else (fun (j : Nat) (l t : Env) (L : Lg) => bif Nat.beq j 0 then (fun (l t : Env) (L : Lg) => D_tarpaulinlaw15_CtxFalls_8 F N Q l L) l t L else (fun _ _ _ _ => False) j l t L) j l t L) (fin [.tmp (.l 8)] Q)) (funext fun l => funext fun t => funext fun L => e_tarpaulinlaw15_CtxFalls_41 F N Q k1 l t L)) (by kernel_rfl))
def q_tarpaulinlaw15_CtxFalls_39a (N : Nat → Nat) : ACode := (.reg [⟨.t 66, none, .mv, [.l 0]⟩, ⟨.t 67, none, .mv, [.l 12]⟩, ⟨.t 68, none, .iad 1, [.t 66, .t 67]⟩, ⟨.t 69, none, .ld none, [.t 68]⟩, ⟨.t 70, none, .mv, [.l 12]⟩, ⟨.t 71, none, .bin .add, [.t 70, .c (.i .i64 1)]⟩, ⟨.t 72, none, .call (N k_tarpaulinalike_Round), [.t 69, .t 71]⟩, ⟨.l 13, none, .mv, [.t 72]⟩])
def q_tarpaulinlaw15_CtxFalls_39 (N : Nat → Nat) : ACode := (.seq (q_tarpaulinlaw15_CtxFalls_39a N) (q_tarpaulinlaw15_CtxFalls_40 N))
noncomputable def D_tarpaulinlaw15_CtxFalls_39 (F : Nat → Option AFn) (N : Nat → Nat) (Q : AV → Lg → Prop) (k1 : Env → Lg → Prop) (l : Env) (L : Lg) : Prop :=
 wpOp F (.iad 1) [(l 0), (l 12)] L fun v1 L1 =>
 wpOp F (.ld none) [v1] L1 fun v2 L2 =>
 wpOp F (.bin .add) [(l 12), (.i .i64 1)] L2 fun v3 L3 =>
 CallL F (N k_tarpaulinalike_Round) [v2, v3] L3 fun v4 L4 =>
 D_tarpaulinlaw15_CtxFalls_40 F N Q k1 (Env.put l 13 v4) L4
theorem e_tarpaulinlaw15_CtxFalls_39 (F : Nat → Option AFn) (N : Nat → Nat) (Q : AV → Lg → Prop) (k1 : Env → Lg → Prop) (l t : Env) (L : Lg) : wp F (q_tarpaulinlaw15_CtxFalls_39 N) l t L (fun (l t : Env) (L : Lg) => D_tarpaulinlaw15_CtxFalls_37 F N Q k1 l L) (fun (j : Nat) (l t : Env) (L : Lg) => bif Nat.beq j 1 then (fun (l t : Env) (L : Lg) => D_tarpaulinlaw15_CtxFalls_37 F N Q k1 l L) l t L else (fun (j : Nat) (l t : Env) (L : Lg) => bif Nat.beq j 0 then (fun (l t : Env) (L : Lg) => D_tarpaulinlaw15_CtxFalls_8 F N Q l L) l t L else (fun _ _ _ _ => False) j l t L) j l t L) (fin [.tmp (.l 8)] Q) = D_tarpaulinlaw15_CtxFalls_39 F N Q k1 l L := Eq.trans (wpq_seq F (q_tarpaulinlaw15_CtxFalls_39a N) (q_tarpaulinlaw15_CtxFalls_40 N) l t L (fun (l t : Env) (L : Lg) => D_tarpaulinlaw15_CtxFalls_37 F N Q k1 l L) (fun (j : Nat) (l t : Env) (L : Lg) => bif Nat.beq j 1 then (fun (l t : Env) (L : Lg) => D_tarpaulinlaw15_CtxFalls_37 F N Q k1 l L) l t L else (fun (j : Nat) (l t : Env) (L : Lg) => bif Nat.beq j 0 then (fun (l t : Env) (L : Lg) => D_tarpaulinlaw15_CtxFalls_8 F N Q l L) l t L else (fun _ _ _ _ => False) j l t L) j l t L) (fin [.tmp (.l 8)] Q)) (Eq.trans (congrArg (fun Z : Kn => wp F (q_tarpaulinlaw15_CtxFalls_39a N) l t L Z (fun (j : Nat) (l t : Env) (L : Lg) => bif Nat.beq j 1 then (fun (l t : Env) (L : Lg) => D_tarpaulinlaw15_CtxFalls_37 F N Q k1 l L) l t L else (fun (j : Nat) (l t : Env) (L : Lg) => bif Nat.beq j 0 then (fun (l t : Env) (L : Lg) => D_tarpaulinlaw15_CtxFalls_8 F N Q l L) l t L else (fun _ _ _ _ => False) j l t L) j l t L) (fin [.tmp (.l 8)] Q)) (funext fun l => funext fun t => funext fun L => e_tarpaulinlaw15_CtxFalls_40 F N Q k1 l t L)) (by kernel_rfl))
def q_tarpaulinlaw15_CtxFalls_38 (N : Nat → Nat) : ACode := (.block 1 (q_tarpaulinlaw15_CtxFalls_39 N))
theorem e_tarpaulinlaw15_CtxFalls_38 (F : Nat → Option AFn) (N : Nat → Nat) (Q : AV → Lg → Prop) (k1 : Env → Lg → Prop) (l t : Env) (L : Lg) : wp F (q_tarpaulinlaw15_CtxFalls_38 N) l t L (fun (l t : Env) (L : Lg) => D_tarpaulinlaw15_CtxFalls_37 F N Q k1 l L) (fun (j : Nat) (l t : Env) (L : Lg) => bif Nat.beq j 0 then (fun (l t : Env) (L : Lg) => D_tarpaulinlaw15_CtxFalls_8 F N Q l L) l t L else (fun _ _ _ _ => False) j l t L) (fin [.tmp (.l 8)] Q) = D_tarpaulinlaw15_CtxFalls_39 F N Q k1 l L := Eq.trans (wpq_block F 1 (q_tarpaulinlaw15_CtxFalls_39 N) l t L (fun (l t : Env) (L : Lg) => D_tarpaulinlaw15_CtxFalls_37 F N Q k1 l L) (fun (j : Nat) (l t : Env) (L : Lg) => bif Nat.beq j 0 then (fun (l t : Env) (L : Lg) => D_tarpaulinlaw15_CtxFalls_8 F N Q l L) l t L else (fun _ _ _ _ => False) j l t L) (fin [.tmp (.l 8)] Q)) (e_tarpaulinlaw15_CtxFalls_39 F N Q k1 l t L)
def q_tarpaulinlaw15_CtxFalls_36 (N : Nat → Nat) : ACode := (.seq (q_tarpaulinlaw15_CtxFalls_38 N) (q_tarpaulinlaw15_CtxFalls_37 N))
theorem e_tarpaulinlaw15_CtxFalls_36 (F : Nat → Option AFn) (N : Nat → Nat) (Q : AV → Lg → Prop) (k1 : Env → Lg → Prop) (l t : Env) (L : Lg) : wp F (q_tarpaulinlaw15_CtxFalls_36 N) l t L (fun (l _ : Env) (L : Lg) => k1 l L) (fun (j : Nat) (l t : Env) (L : Lg) => bif Nat.beq j 0 then (fun (l t : Env) (L : Lg) => D_tarpaulinlaw15_CtxFalls_8 F N Q l L) l t L else (fun _ _ _ _ => False) j l t L) (fin [.tmp (.l 8)] Q) = D_tarpaulinlaw15_CtxFalls_39 F N Q k1 l L := Eq.trans (wpq_seq F (q_tarpaulinlaw15_CtxFalls_38 N) (q_tarpaulinlaw15_CtxFalls_37 N) l t L (fun (l _ : Env) (L : Lg) => k1 l L) (fun (j : Nat) (l t : Env) (L : Lg) => bif Nat.beq j 0 then (fun (l t : Env) (L : Lg) => D_tarpaulinlaw15_CtxFalls_8 F N Q l L) l t L else (fun _ _ _ _ => False) j l t L) (fin [.tmp (.l 8)] Q)) (Eq.trans (congrArg (fun Z : Kn => wp F (q_tarpaulinlaw15_CtxFalls_38 N) l t L Z (fun (j : Nat) (l t : Env) (L : Lg) => bif Nat.beq j 0 then (fun (l t : Env) (L : Lg) => D_tarpaulinlaw15_CtxFalls_8 F N Q l L) l t L else (fun _ _ _ _ => False) j l t L) (fin [.tmp (.l 8)] Q)) (funext fun l => funext fun t => funext fun L => e_tarpaulinlaw15_CtxFalls_37 F N Q k1 l t L)) (e_tarpaulinlaw15_CtxFalls_38 F N Q k1 l t L))
def q_tarpaulinlaw15_CtxFalls_35a (N : Nat → Nat) : ACode := (.seq (.reg [⟨.t 60, none, .mv, [.l 12]⟩, ⟨.t 61, none, .mv, [.l 0]⟩, ⟨.t 62, none, .lenSl, [.t 61]⟩, ⟨.t 63, none, .bin .lss, [.t 60, .t 62]⟩]) (.cond (.t 63) .skip (.exit 0)))
def q_tarpaulinlaw15_CtxFalls_35 (N : Nat → Nat) : ACode := (.seq (q_tarpaulinlaw15_CtxFalls_35a N) (q_tarpaulinlaw15_CtxFalls_36 N))
noncomputable def D_tarpaulinlaw15_CtxFalls_35 (F : Nat → Option AFn) (N : Nat → Nat) (Q : AV → Lg → Prop) (k1 : Env → Lg → Prop) (l : Env) (L : Lg) : Prop :=
 wpOp F .lenSl [(l 0)] L fun v1 L1 =>
 wpOp F (.bin .lss) [(l 12), v1] L1 fun v2 L2 =>
 condW v2
 (D_tarpaulinlaw15_CtxFalls_39 F N Q k1 l L2)
 (D_tarpaulinlaw15_CtxFalls_8 F N Q l L2)
theorem e_tarpaulinlaw15_CtxFalls_35 (F : Nat → Option AFn) (N : Nat → Nat) (Q : AV → Lg → Prop) (k1 : Env → Lg → Prop) (l t : Env) (L : Lg) : wp F (q_tarpaulinlaw15_CtxFalls_35 N) l t L (fun (l _ : Env) (L : Lg) => k1 l L) (fun (j : Nat) (l t : Env) (L : Lg) => bif Nat.beq j 0 then (fun (l t : Env) (L : Lg) => D_tarpaulinlaw15_CtxFalls_8 F N Q l L) l t L else (fun _ _ _ _ => False) j l t L) (fin [.tmp (.l 8)] Q) = D_tarpaulinlaw15_CtxFalls_35 F N Q k1 l L := Eq.trans (wpq_seq F (q_tarpaulinlaw15_CtxFalls_35a N) (q_tarpaulinlaw15_CtxFalls_36 N) l t L (fun (l _ : Env) (L : Lg) => k1 l L) (fun (j : Nat) (l t : Env) (L : Lg) => bif Nat.beq j 0 then (fun (l t : Env) (L : Lg) => D_tarpaulinlaw15_CtxFalls_8 F N Q l L) l t L else (fun _ _ _ _ => False) j l t L) (fin [.tmp (.l 8)] Q)) (Eq.trans (congrArg (fun Z : Kn => wp F (q_tarpaulinlaw15_CtxFalls_35a N) l t L Z (fun (j : Nat) (l t : Env) (L : Lg) => bif Nat.beq j 0 then (fun (l t : Env) (L : Lg) => D_tarpaulinlaw15_CtxFalls_8 F N Q l L) l t L else (fun _ _ _ _ => False) j l t L) (fin [.tmp (.l 8)] Q)) (funext fun l => funext fun t => funext fun L => e_tarpaulinlaw15_CtxFalls_36 F N Q k1 l t L)) (by kernel_rfl))
def q_tarpaulinlaw15_CtxFalls_34 (N : Nat → Nat) : ACode := (.loop (q_tarpaulinlaw15_CtxFalls_35 N))
noncomputable def D_tarpaulinlaw15_CtxFalls_34 (F : Nat → Option AFn) (N : Nat → Nat) (Q : AV → Lg → Prop) (l : Env) (L : Lg) : Prop :=
 loopW (fun l t L k1 => D_tarpaulinlaw15_CtxFalls_35 F N Q k1 l L) l L
theorem e_tarpaulinlaw15_CtxFalls_34 (F : Nat → Option AFn) (N : Nat → Nat) (Q : AV → Lg → Prop) (l t : Env) (L : Lg) : wp F (q_tarpaulinlaw15_CtxFalls_34 N) l t L (fun (l t : Env) (L : Lg) => D_tarpaulinlaw15_CtxFalls_8 F N Q l L) (fun (j : Nat) (l t : Env) (L : Lg) => bif Nat.beq j 0 then (fun (l t : Env) (L : Lg) => D_tarpaulinlaw15_CtxFalls_8 F N Q l L) l t L else (fun _ _ _ _ => False) j l t L) (fin [.tmp (.l 8)] Q) = D_tarpaulinlaw15_CtxFalls_34 F N Q l L := Eq.trans (wpq_loop F (q_tarpaulinlaw15_CtxFalls_35 N) l t L (fun (l t : Env) (L : Lg) => D_tarpaulinlaw15_CtxFalls_8 F N Q l L) (fun (j : Nat) (l t : Env) (L : Lg) => bif Nat.beq j 0 then (fun (l t : Env) (L : Lg) => D_tarpaulinlaw15_CtxFalls_8 F N Q l L) l t L else (fun _ _ _ _ => False) j l t L) (fin [.tmp (.l 8)] Q)) (Eq.trans (congrArg (fun B => loopW B l L) (funext fun l => funext fun t => funext fun L => funext fun k1 => e_tarpaulinlaw15_CtxFalls_35 F N Q k1 l t L)) (by kernel_rfl))
def q_tarpaulinlaw15_CtxFalls_33 (N : Nat → Nat) : ACode := (.block 0 (q_tarpaulinlaw15_CtxFalls_34 N))
theorem e_tarpaulinlaw15_CtxFalls_33 (F : Nat → Option AFn) (N : Nat → Nat) (Q : AV → Lg → Prop) (l t : Env) (L : Lg) : wp F (q_tarpaulinlaw15_CtxFalls_33 N) l t L (fun (l t : Env) (L : Lg) => D_tarpaulinlaw15_CtxFalls_8 F N Q l L) (fun _ _ _ _ => False) (fin [.tmp (.l 8)] Q) = D_tarpaulinlaw15_CtxFalls_34 F N Q l L := Eq.trans (wpq_block F 0 (q_tarpaulinlaw15_CtxFalls_34 N) l t L (fun (l t : Env) (L : Lg) => D_tarpaulinlaw15_CtxFalls_8 F N Q l L) (fun _ _ _ _ => False) (fin [.tmp (.l 8)] Q)) (e_tarpaulinlaw15_CtxFalls_34 F N Q l t L)
def q_tarpaulinlaw15_CtxFalls_32a (N : Nat → Nat) : ACode := (.reg [⟨.l 12, none, .mv, [.c (.i .i64 0)]⟩])
def q_tarpaulinlaw15_CtxFalls_32 (N : Nat → Nat) : ACode := (.seq (q_tarpaulinlaw15_CtxFalls_32a N) (q_tarpaulinlaw15_CtxFalls_33 N))
noncomputable def D_tarpaulinlaw15_CtxFalls_32 (F : Nat → Option AFn) (N : Nat → Nat) (Q : AV → Lg → Prop) (l : Env) (L : Lg) : Prop :=
 D_tarpaulinlaw15_CtxFalls_34 F N Q (Env.put l 12 (.i .i64 0)) L
theorem e_tarpaulinlaw15_CtxFalls_32 (F : Nat → Option AFn) (N : Nat → Nat) (Q : AV → Lg → Prop) (l t : Env) (L : Lg) : wp F (q_tarpaulinlaw15_CtxFalls_32 N) l t L (fun (l t : Env) (L : Lg) => D_tarpaulinlaw15_CtxFalls_8 F N Q l L) (fun _ _ _ _ => False) (fin [.tmp (.l 8)] Q) = D_tarpaulinlaw15_CtxFalls_32 F N Q l L := Eq.trans (wpq_seq F (q_tarpaulinlaw15_CtxFalls_32a N) (q_tarpaulinlaw15_CtxFalls_33 N) l t L (fun (l t : Env) (L : Lg) => D_tarpaulinlaw15_CtxFalls_8 F N Q l L) (fun _ _ _ _ => False) (fin [.tmp (.l 8)] Q)) (Eq.trans (congrArg (fun Z : Kn => wp F (q_tarpaulinlaw15_CtxFalls_32a N) l t L Z (fun _ _ _ _ => False) (fin [.tmp (.l 8)] Q)) (funext fun l => funext fun t => funext fun L => e_tarpaulinlaw15_CtxFalls_33 F N Q l t L)) (by kernel_rfl))
def q_tarpaulinlaw15_CtxFalls_7 (N : Nat → Nat) : ACode := (.seq (q_tarpaulinlaw15_CtxFalls_32 N) (q_tarpaulinlaw15_CtxFalls_8 N))
theorem e_tarpaulinlaw15_CtxFalls_7 (F : Nat → Option AFn) (N : Nat → Nat) (Q : AV → Lg → Prop) (l t : Env) (L : Lg) : wp F (q_tarpaulinlaw15_CtxFalls_7 N) l t L (fin [.tmp (.l 8)] Q) (fun _ _ _ _ => False) (fin [.tmp (.l 8)] Q) = D_tarpaulinlaw15_CtxFalls_32 F N Q l L := Eq.trans (wpq_seq F (q_tarpaulinlaw15_CtxFalls_32 N) (q_tarpaulinlaw15_CtxFalls_8 N) l t L (fin [.tmp (.l 8)] Q) (fun _ _ _ _ => False) (fin [.tmp (.l 8)] Q)) (Eq.trans (congrArg (fun Z : Kn => wp F (q_tarpaulinlaw15_CtxFalls_32 N) l t L Z (fun _ _ _ _ => False) (fin [.tmp (.l 8)] Q)) (funext fun l => funext fun t => funext fun L => e_tarpaulinlaw15_CtxFalls_8 F N Q l t L)) (e_tarpaulinlaw15_CtxFalls_32 F N Q l t L))
def q_tarpaulinlaw15_CtxFalls_6a (N : Nat → Nat) : ACode := (.reg [⟨.t 59, none, .bslice [.b false] 1 1 [0], [.c (.b true)]⟩, ⟨.l 11, none, .mv, [.t 59]⟩])
def q_tarpaulinlaw15_CtxFalls_6 (N : Nat → Nat) : ACode := (.seq (q_tarpaulinlaw15_CtxFalls_6a N) (q_tarpaulinlaw15_CtxFalls_7 N))
noncomputable def D_tarpaulinlaw15_CtxFalls_6 (F : Nat → Option AFn) (N : Nat → Nat) (Q : AV → Lg → Prop) (l : Env) (L : Lg) : Prop :=
 wpOp F (.bslice [.b false] 1 1 [0]) [(.b true)] L fun v1 L1 =>
 D_tarpaulinlaw15_CtxFalls_32 F N Q (Env.put l 11 v1) L1
theorem e_tarpaulinlaw15_CtxFalls_6 (F : Nat → Option AFn) (N : Nat → Nat) (Q : AV → Lg → Prop) (l t : Env) (L : Lg) : wp F (q_tarpaulinlaw15_CtxFalls_6 N) l t L (fin [.tmp (.l 8)] Q) (fun _ _ _ _ => False) (fin [.tmp (.l 8)] Q) = D_tarpaulinlaw15_CtxFalls_6 F N Q l L := Eq.trans (wpq_seq F (q_tarpaulinlaw15_CtxFalls_6a N) (q_tarpaulinlaw15_CtxFalls_7 N) l t L (fin [.tmp (.l 8)] Q) (fun _ _ _ _ => False) (fin [.tmp (.l 8)] Q)) (Eq.trans (congrArg (fun Z : Kn => wp F (q_tarpaulinlaw15_CtxFalls_6a N) l t L Z (fun _ _ _ _ => False) (fin [.tmp (.l 8)] Q)) (funext fun l => funext fun t => funext fun L => e_tarpaulinlaw15_CtxFalls_7 F N Q l t L)) (by kernel_rfl))
def q_tarpaulinlaw15_CtxFalls_5a (N : Nat → Nat) : ACode := (.reg [⟨.t 58, none, .bslice [.i .i64 0] 1 1 [0], [.c (.i .i64 (-1))]⟩, ⟨.l 10, none, .mv, [.t 58]⟩])
def q_tarpaulinlaw15_CtxFalls_5 (N : Nat → Nat) : ACode := (.seq (q_tarpaulinlaw15_CtxFalls_5a N) (q_tarpaulinlaw15_CtxFalls_6 N))
noncomputable def D_tarpaulinlaw15_CtxFalls_5 (F : Nat → Option AFn) (N : Nat → Nat) (Q : AV → Lg → Prop) (l : Env) (L : Lg) : Prop :=
 wpOp F (.bslice [.i .i64 0] 1 1 [0]) [(.i .i64 (-1))] L fun v1 L1 =>
 D_tarpaulinlaw15_CtxFalls_6 F N Q (Env.put l 10 v1) L1
theorem e_tarpaulinlaw15_CtxFalls_5 (F : Nat → Option AFn) (N : Nat → Nat) (Q : AV → Lg → Prop) (l t : Env) (L : Lg) : wp F (q_tarpaulinlaw15_CtxFalls_5 N) l t L (fin [.tmp (.l 8)] Q) (fun _ _ _ _ => False) (fin [.tmp (.l 8)] Q) = D_tarpaulinlaw15_CtxFalls_5 F N Q l L := Eq.trans (wpq_seq F (q_tarpaulinlaw15_CtxFalls_5a N) (q_tarpaulinlaw15_CtxFalls_6 N) l t L (fin [.tmp (.l 8)] Q) (fun _ _ _ _ => False) (fin [.tmp (.l 8)] Q)) (Eq.trans (congrArg (fun Z : Kn => wp F (q_tarpaulinlaw15_CtxFalls_5a N) l t L Z (fun _ _ _ _ => False) (fin [.tmp (.l 8)] Q)) (funext fun l => funext fun t => funext fun L => e_tarpaulinlaw15_CtxFalls_6 F N Q l t L)) (by kernel_rfl))
def q_tarpaulinlaw15_CtxFalls_4a (N : Nat → Nat) : ACode := (.seq (.reg [⟨.t 56, none, .mv, [.l 9]⟩, ⟨.t 57, none, .eq false .ptr, [.t 56, .c (.p none)]⟩]) (.cond (.t 57) (.seq (.reg [⟨.l 8, none, .mv, [.c (.b false)]⟩]) .ret) .skip))
def q_tarpaulinlaw15_CtxFalls_4 (N : Nat → Nat) : ACode := (.seq (q_tarpaulinlaw15_CtxFalls_4a N) (q_tarpaulinlaw15_CtxFalls_5 N))
noncomputable def D_tarpaulinlaw15_CtxFalls_4 (F : Nat → Option AFn) (N : Nat → Nat) (Q : AV → Lg → Prop) (l : Env) (L : Lg) : Prop :=
 wpOp F (.eq false .ptr) [(l 9), (.p none)] L fun v1 L1 =>
 condW v1
 (fin1 (some (.b false)) Q L1)
 (D_tarpaulinlaw15_CtxFalls_5 F N Q l L1)
theorem e_tarpaulinlaw15_CtxFalls_4 (F : Nat → Option AFn) (N : Nat → Nat) (Q : AV → Lg → Prop) (l t : Env) (L : Lg) : wp F (q_tarpaulinlaw15_CtxFalls_4 N) l t L (fin [.tmp (.l 8)] Q) (fun _ _ _ _ => False) (fin [.tmp (.l 8)] Q) = D_tarpaulinlaw15_CtxFalls_4 F N Q l L := Eq.trans (wpq_seq F (q_tarpaulinlaw15_CtxFalls_4a N) (q_tarpaulinlaw15_CtxFalls_5 N) l t L (fin [.tmp (.l 8)] Q) (fun _ _ _ _ => False) (fin [.tmp (.l 8)] Q)) (Eq.trans (congrArg (fun Z : Kn => wp F (q_tarpaulinlaw15_CtxFalls_4a N) l t L Z (fun _ _ _ _ => False) (fin [.tmp (.l 8)] Q)) (funext fun l => funext fun t => funext fun L => e_tarpaulinlaw15_CtxFalls_5 F N Q l t L)) (by kernel_rfl))
def q_tarpaulinlaw15_CtxFalls_3a (N : Nat → Nat) : ACode := (.reg [⟨.t 54, none, .call (N k_timer_New), []⟩, ⟨.t 55, none, .call (N k_ctx_New), [.t 54]⟩, ⟨.l 9, none, .mv, [.t 55]⟩])
def q_tarpaulinlaw15_CtxFalls_3 (N : Nat → Nat) : ACode := (.seq (q_tarpaulinlaw15_CtxFalls_3a N) (q_tarpaulinlaw15_CtxFalls_4 N))
noncomputable def D_tarpaulinlaw15_CtxFalls_3 (F : Nat → Option AFn) (N : Nat → Nat) (Q : AV → Lg → Prop) (l : Env) (L : Lg) : Prop :=
 CallL F (N k_timer_New) [] L fun v1 L1 =>
 CallL F (N k_ctx_New) [v1] L1 fun v2 L2 =>
 D_tarpaulinlaw15_CtxFalls_4 F N Q (Env.put l 9 v2) L2
theorem e_tarpaulinlaw15_CtxFalls_3 (F : Nat → Option AFn) (N : Nat → Nat) (Q : AV → Lg → Prop) (l t : Env) (L : Lg) : wp F (q_tarpaulinlaw15_CtxFalls_3 N) l t L (fin [.tmp (.l 8)] Q) (fun _ _ _ _ => False) (fin [.tmp (.l 8)] Q) = D_tarpaulinlaw15_CtxFalls_3 F N Q l L := Eq.trans (wpq_seq F (q_tarpaulinlaw15_CtxFalls_3a N) (q_tarpaulinlaw15_CtxFalls_4 N) l t L (fin [.tmp (.l 8)] Q) (fun _ _ _ _ => False) (fin [.tmp (.l 8)] Q)) (Eq.trans (congrArg (fun Z : Kn => wp F (q_tarpaulinlaw15_CtxFalls_3a N) l t L Z (fun _ _ _ _ => False) (fin [.tmp (.l 8)] Q)) (funext fun l => funext fun t => funext fun L => e_tarpaulinlaw15_CtxFalls_4 F N Q l t L)) (by kernel_rfl))
def q_tarpaulinlaw15_CtxFalls_2a (N : Nat → Nat) : ACode := (.seq (.reg [⟨.t 34, none, .mv, [.l 0]⟩, ⟨.t 35, none, .lenSl, [.t 34]⟩, ⟨.t 36, none, .bin .gtr, [.t 35, .c (.i .i64 40)]⟩, ⟨.t 37, none, .mv, [.t 36]⟩, ⟨.t 38, some (.t 37, false), .mv, [.l 1]⟩, ⟨.t 39, some (.t 37, false), .lenSl, [.t 38]⟩, ⟨.t 40, some (.t 37, false), .mv, [.l 0]⟩, ⟨.t 41, some (.t 37, false), .lenSl, [.t 40]⟩, ⟨.t 42, some (.t 37, false), .bin .lss, [.t 39, .t 41]⟩, ⟨.t 43, none, .pick, [.t 37, .c (.b true), .t 42]⟩, ⟨.t 44, none, .mv, [.t 43]⟩, ⟨.t 45, some (.t 44, false), .mv, [.l 1]⟩, ⟨.t 46, some (.t 44, false), .lenSl, [.t 45]⟩, ⟨.t 47, some (.t 44, false), .bin .gtr, [.t 46, .c (.i .i64 60)]⟩, ⟨.t 48, none, .pick, [.t 44, .c (.b true), .t 47]⟩, ⟨.t 49, none, .mv, [.t 48]⟩, ⟨.t 50, some (.t 49, false), .mv, [.l 3]⟩, ⟨.t 51, some (.t 49, false), .bin .lss, [.t 50, .c (.i .i64 3)]⟩, ⟨.t 52, none, .pick, [.t 49, .c (.b true), .t 51]⟩]) (.cond (.t 52) (.seq (.reg [⟨.t 53, none, .call (N k_tarpaulinlaw15_awake), []⟩, ⟨.l 8, none, .mv, [.t 53]⟩]) .ret) .skip))
def q_tarpaulinlaw15_CtxFalls_2 (N : Nat → Nat) : ACode := (.seq (q_tarpaulinlaw15_CtxFalls_2a N) (q_tarpaulinlaw15_CtxFalls_3 N))
noncomputable def D_tarpaulinlaw15_CtxFalls_2 (F : Nat → Option AFn) (N : Nat → Nat) (Q : AV → Lg → Prop) (l : Env) (L : Lg) : Prop :=
 wpOp F .lenSl [(l 0)] L fun v1 L1 =>
 wpOp F (.bin .gtr) [v1, (.i .i64 40)] L1 fun v2 L2 =>
 gdOp F v2 false .mv [(l 1)] L2 fun v3 L3 =>
 gdOp F v2 false .lenSl [v3] L3 fun v4 L4 =>
 gdOp F v2 false .mv [(l 0)] L4 fun v5 L5 =>
 gdOp F v2 false .lenSl [v5] L5 fun v6 L6 =>
 gdOp F v2 false (.bin .lss) [v4, v6] L6 fun v7 L7 =>
 wpOp F .pick [v2, (.b true), v7] L7 fun v8 L8 =>
 gdOp F v8 false .mv [(l 1)] L8 fun v9 L9 =>
 gdOp F v8 false .lenSl [v9] L9 fun v10 L10 =>
 gdOp F v8 false (.bin .gtr) [v10, (.i .i64 60)] L10 fun v11 L11 =>
 wpOp F .pick [v8, (.b true), v11] L11 fun v12 L12 =>
 gdOp F v12 false .mv [(l 3)] L12 fun v13 L13 =>
 gdOp F v12 false (.bin .lss) [v13, (.i .i64 3)] L13 fun v14 L14 =>
 wpOp F .pick [v12, (.b true), v14] L14 fun v15 L15 =>
 condW v15
 (CallL F (N k_tarpaulinlaw15_awake) [] L15 fun v16 L16 =>
 fin1 (some v16) Q L16)
 (D_tarpaulinlaw15_CtxFalls_3 F N Q l L15)
theorem e_tarpaulinlaw15_CtxFalls_2 (F : Nat → Option AFn) (N : Nat → Nat) (Q : AV → Lg → Prop) (l t : Env) (L : Lg) : wp F (q_tarpaulinlaw15_CtxFalls_2 N) l t L (fin [.tmp (.l 8)] Q) (fun _ _ _ _ => False) (fin [.tmp (.l 8)] Q) = D_tarpaulinlaw15_CtxFalls_2 F N Q l L := Eq.trans (wpq_seq F (q_tarpaulinlaw15_CtxFalls_2a N) (q_tarpaulinlaw15_CtxFalls_3 N) l t L (fin [.tmp (.l 8)] Q) (fun _ _ _ _ => False) (fin [.tmp (.l 8)] Q)) (Eq.trans (congrArg (fun Z : Kn => wp F (q_tarpaulinlaw15_CtxFalls_2a N) l t L Z (fun _ _ _ _ => False) (fin [.tmp (.l 8)] Q)) (funext fun l => funext fun t => funext fun L => e_tarpaulinlaw15_CtxFalls_3 F N Q l t L)) (by kernel_rfl))
def q_tarpaulinlaw15_CtxFalls_1a (N : Nat → Nat) : ACode := (.reg [⟨.l 8, none, .mv, [.c (.b false)]⟩])
def q_tarpaulinlaw15_CtxFalls_1 (N : Nat → Nat) : ACode := (.seq (q_tarpaulinlaw15_CtxFalls_1a N) (q_tarpaulinlaw15_CtxFalls_2 N))
noncomputable def D_tarpaulinlaw15_CtxFalls_1 (F : Nat → Option AFn) (N : Nat → Nat) (Q : AV → Lg → Prop) (l : Env) (L : Lg) : Prop :=
 D_tarpaulinlaw15_CtxFalls_2 F N Q (Env.put l 8 (.b false)) L
theorem e_tarpaulinlaw15_CtxFalls_1 (F : Nat → Option AFn) (N : Nat → Nat) (Q : AV → Lg → Prop) (l t : Env) (L : Lg) : wp F (q_tarpaulinlaw15_CtxFalls_1 N) l t L (fin [.tmp (.l 8)] Q) (fun _ _ _ _ => False) (fin [.tmp (.l 8)] Q) = D_tarpaulinlaw15_CtxFalls_1 F N Q l L := Eq.trans (wpq_seq F (q_tarpaulinlaw15_CtxFalls_1a N) (q_tarpaulinlaw15_CtxFalls_2 N) l t L (fin [.tmp (.l 8)] Q) (fun _ _ _ _ => False) (fin [.tmp (.l 8)] Q)) (Eq.trans (congrArg (fun Z : Kn => wp F (q_tarpaulinlaw15_CtxFalls_1a N) l t L Z (fun _ _ _ _ => False) (fin [.tmp (.l 8)] Q)) (funext fun l => funext fun t => funext fun L => e_tarpaulinlaw15_CtxFalls_2 F N Q l t L)) (by kernel_rfl))
/-- tarpaulin/tarpaulinlaw15.CtxFalls -/
def c_tarpaulinlaw15_CtxFalls (N : Nat → Nat) : AFn := ⟨q_tarpaulinlaw15_CtxFalls_1 N, [.tmp (.l 8)]⟩
theorem r_tarpaulinlaw15_CtxFalls {F : Nat → Option AFn} {N : Nat → Nat} (h : F (N k_tarpaulinlaw15_CtxFalls) = some (c_tarpaulinlaw15_CtxFalls N)) {Q : AV → Lg → Prop} {a0 a1 a2 a3 : AV} {L : Lg} (e : D_tarpaulinlaw15_CtxFalls_1 F N Q (initE [a0, a1, a2, a3] 0) L) : CallL F (N k_tarpaulinlaw15_CtxFalls) [a0, a1, a2, a3] L Q :=
  CallL.of_wp h (Eq.mpr (Eq.trans (e_tarpaulinlaw15_CtxFalls_1 F N Q (initE [a0, a1, a2, a3] 0) Env.nil L) (by kernel_rfl : _ = D_tarpaulinlaw15_CtxFalls_1 F N Q (initE [a0, a1, a2, a3] 0) L)) e)
end Go.AM

/- a row's arguments: slices that are read only. -/
set_option linter.unusedVariables false
namespace Go.AM
open Go.RowKit

/-- what stands for the arguments' memory -/
structure AR (W : World) (S : St) (β : Bt) (L : Lg) : Prop where
  mod : Mod S L
  rel : Rel β W.heap.size S.h W
  wf : S.wf
  free : ∀ k, S.nx ≤ k → β k = none
theorem AR.nil (W : World) : AR W ⟨.nil, 0⟩ (fun _ => none) Lg.nil := ⟨mod_nil 0, rel_nil W, wf_nil 0, fun _ _ => rfl⟩
def Bt.put (β : Bt) (n : Nat) (x : Nat × Nat × Nat) : Bt := fun m => if m = n then some x else β m
theorem AR.ext {W : World} {S : St} {β : Bt} {L : Lg} (h : AR W S β L) (x : Nat × Nat × Nat) : Ext β (Bt.put β S.nx x) := by
  intro n y e
  unfold Bt.put
  split
  · rename_i h9; subst h9; rw [h.free _ (Nat.le_refl _)] at e; cases e
  · exact e
theorem AR.slice {W : World} {S : St} {β : Bt} {L : Lg} (h : AR W S β L) {b off : Nat} {c : List AV} {cur t fr} (hb : W.heap[b]? = some (.cells cur t fr)) (hc : CellsR β c off cur) :
    AR W ⟨S.h.set S.nx (some (.ro c)), S.nx + 1⟩ (Bt.put β S.nx (b, off, 0)) (L.put S.nx (.raw (.ro c))) := by
  have he := h.ext (b, off, 0)
  have hlt : b < W.heap.size := (Array.getElem?_eq_some_iff.1 hb).1
  refine ⟨h.mod.new _, ⟨?_, ?_, ?_, h.rel.le⟩, ?_, ?_⟩
  · intro n bl b' o z hg hn
    rw [PM.get_set] at hg
    unfold Bt.put at hn
    split at hg
    · rename_i h9
      rw [if_pos h9] at hn
      cases hg; cases hn
      exact ⟨cur, t, fr, hb, hc.mono he⟩
    · rename_i h9
      rw [if_neg h9] at hn
      exact (h.rel.blk n bl b' o z hg hn).mono he
  · intro n m bl bm b' x y hg hm ho hn hm2
    rw [PM.get_set] at hg hm
    unfold Bt.put at hn hm2
    split at hg
    · cases hg; simp [AB.own] at ho
    · rename_i h9
      rw [if_neg h9] at hn
      have hbase := (h.rel.blk n bl b' x.1 x.2 hg hn).le ho
      split at hm
      · rename_i h8
        rw [if_pos h8] at hm2
        simp only [Option.some.injEq, Prod.mk.injEq] at hm2
        have := hm2.1
        have h3 := h.rel.lt n b' x hn
        have h4 := h.rel.le
        omega
      · rename_i h8
        rw [if_neg h8] at hm2
        exact h.rel.inj n m bl bm b' x y hg hm ho hn hm2
  · intro n b' x hn
    unfold Bt.put at hn
    split at hn
    · cases hn; exact hlt
    · exact h.rel.lt n b' x hn
  · intro n bl hg
    rw [PM.get_set] at hg
    split at hg
    · rename_i h9; subst h9; exact Nat.lt_succ_self _
    · exact Nat.lt_succ_of_lt (h.wf n bl hg)
  · intro k hk
    have h9 : k ≠ S.nx := by have : S.nx + 1 ≤ k := hk; omega
    unfold Bt.put
    rw [if_neg h9]
    exact h.free k (by have : S.nx + 1 ≤ k := hk; omega)
/-- a call that answers true, at a row's arguments -/
theorem AR.calls {W : World} {S : St} {β : Bt} {L : Lg} (h : AR W S β L) {P : Program} {F : Nat → Option AFn} (hm : P.follows .mixedOrders = true) (hF : TblOk P F) {f : Nat} {vs : List AV} {as : Array Value} (hv : VRs β vs as.toList)
    (hc : CallL F f vs L fun v _ => v = .b true) : Calls P f as W fun e w' => e = .returned (.bool true) ∧ Below W.heap.size W w' := by
  obtain ⟨n, v, S', h1, L', h2, rfl⟩ := hc S h.mod
  exact calls_true hm hF h1 h.wf hv h.rel (fun k h3 _ => h.free k h3)
/-- a slice's stand-in -/
def ArgSl (L : Lg) (v : AV) (cs : List AV) (n size : Nat) : Prop := cs.length = n * size ∧ ((n = 0 ∧ v = .sl none 0 0 0) ∨ ∃ b cap, v = .sl (some (b, 0)) n cap 0 ∧ L b = some (.raw (.ro cs)))
theorem ArgSl.len {F : Nat → Option AFn} {L : Lg} {a : AV} {cs : List AV} {n size : Nat} (h : ArgSl L a cs n size) (M : Lg) (k : AV → Lg → Prop) : wpOp F .lenSl [a] M k = k (.i .i64 n) M := by
  obtain ⟨_, ⟨rfl, rfl⟩ | ⟨b, cap, rfl, _⟩⟩ := h
  · simp
  · simp
theorem ArgSl.get {L : Lg} {a : AV} {cs : List AV} {n size : Nat} (h : ArgSl L a cs n size) {i : Nat} (hi : i < n) : ∃ b cap, a = .sl (some (b, 0)) n cap 0 ∧ L b = some (.raw (.ro cs)) := by
  obtain ⟨_, ⟨rfl, rfl⟩ | ⟨b, cap, rfl, e⟩⟩ := h
  · omega
  · exact ⟨b, cap, rfl, e⟩
theorem ArgSl.ext {L L' : Lg} {v : AV} {cs : List AV} {n size : Nat} (h : ArgSl L v cs n size) (e : Ext2 L L') : ArgSl L' v cs n size := by
  obtain ⟨h1, h2 | ⟨b, cap, h2, h3⟩⟩ := h
  · exact ⟨h1, .inl h2⟩
  · exact ⟨h1, .inr ⟨b, cap, h2, e b _ h3⟩⟩
def icl (l : List Int) : List AV := l.map fun n => .i .i64 n
/-- a slice of numbers among the arguments -/
theorem AR.ints {H : Type} {enc : TypeId × Value → H} {P : Program} {W : World} {S : St} {β : Bt} {L : Lg} (h : AR W S β L) {t e : TypeId} {v : Value} {d : DataW H} {ps : List MemPlace} (ht : P.underlying t = some (.slice e)) (he : P.underlying e = some (.int .i64)) (hc : P.cellsOf e = 1)
    {base : Nat} (hval : Value.okWide P W .any base t v) (hd : DataW.Trod enc P W 0 (fun _ => true) true t v d ps) :
    ∃ (l : List Int) (S' : St) (β' : Bt) (L' : Lg) (a : AV), AR W S' β' L' ∧ Ext β β' ∧ Ext2 L L' ∧ VR β' a v ∧ ArgSl L' a (icl l) l.length 1 := by
  obtain ⟨a0, len, cap, rfl⟩ := Go.WideShapes.okWide_slice ht hval
  obtain ⟨fuel, hf⟩ := hd
  have hf : DataW.trod enc P W 0 (fun _ => true) true fuel t [.slice a0 len cap] = some (d, ps) := hf
  rcases Go.ChangeShapes.open_ints ht he hc hf with ⟨h0, _⟩ | ⟨a, len', cap', zs, h0, hb, hl, hm, hz, _, hcell, hw⟩
  · cases h0
    exact ⟨[], S, β, L, _, h, Ext.refl β, Ext2.refl L, .sln, by simp [icl], .inl ⟨rfl, rfl⟩⟩
  · cases h0
    have hok : Cell.ok P W .any base t (.slice (some a) len cap) := by
      simp only [Value.okWide, ht, Cell.okWide] at hval
      exact hval
    simp only [Cell.ok, ht] at hok
    obtain ⟨_, _, _, hsp, row, cells, hsh, _⟩ := hok
    obtain ⟨ab, aoff, asp⟩ := a
    simp only at hsp
    subst hsp
    have hsh' : ∃ cur t fr, W.heap[ab]? = some (.cells cur t fr) := by
      unfold World.shape? at hsh
      split at hsh
      · rename_i cur el fr hh; exact ⟨_, _, _, hh⟩
      · cases hsh
    obtain ⟨cur, tt, fr, hh⟩ := hsh'
    have hzl : zs.length = cap := by simpa using hz
    have hcr : CellsR β (icl (zs.take len)) aoff cur := by
      intro i x hx
      unfold icl at hx
      rw [List.getElem?_map] at hx
      simp only [Option.map_eq_some_iff] at hx
      obtain ⟨n, hn, rfl⟩ := hx
      have hi : i < zs.length := by
        have := (List.getElem?_eq_some_iff.1 hn).1
        simp at this; omega
      have := hcell i hi
      refine ⟨.int .i64 n, ?_, .i _ _⟩
      rw [Go.WideShapes.add_plain] at this
      simp only [World.cell?, hh, Option.isSome_none, Bool.false_eq_true, if_false] at this
      rw [this]
      have h5 : zs[i]? = some n := by
        rw [List.getElem?_take] at hn
        split at hn
        · exact hn
        · cases hn
      simp [List.getD, h5]
    have hlen : (zs.take len).length = len := by simp; omega
    refine ⟨zs.take len, _, _, _, .sl (some (S.nx, 0)) len cap 0, h.slice hh hcr, h.ext _, ?_, ?_, ?_⟩
    · exact (Ext2.refl L).put (h.mod.fresh (Nat.le_refl _)) _
    · exact .sl (b := ab) (o := aoff) (z := 0) (by simp [Bt.put]) hl (Nat.le_refl _) (fun _ => rfl) (fun h9 => absurd rfl h9) (.inr (by simp))
    · refine ⟨by simp [icl], .inr ⟨S.nx, cap, by rw [hlen], Lg.put_same _ _ _⟩⟩
end Go.AM
