/- The texts GenT, LibTrace, LibTraceB, LibTraceC, LibTraceD, LibTraceE, LawTraceForms, LgY of a proof of TraceForms, merged. -/
import Derived.Test.YtnoaljgjplejiaaDoorTraceFormsG2
import Derived.KernelRfl
/- The code of functions, with names for their numbers, and what is left of its weakest preconditions. PRINTED by our printgen.py. -/
set_option linter.unusedVariables false
set_option maxRecDepth 100000
namespace Go.AM
def k_slices_Index_stringstring : Nat := 346
def k_trace_kind : Nat := 347
def k_trace_word : Nat := 348
def k_trace_Line : Nat := 349
def k_trace_event : Nat := 350
def k_trace_Parse : Nat := 351
def k_trace_First : Nat := 352
def k_tarpaulinlaw21_awake : Nat := 353
def k_tarpaulinref17_decimal : Nat := 355
def k_tarpaulinref17_Line : Nat := 356
def k_tarpaulinlaw21_TraceForms : Nat := 357
def k_strings_Cut : Nat := 363
def k_strings_Split : Nat := 364
def k_strconv_Atoi : Nat := 365
def k_strconv_Itoa : Nat := 366
def k_strings_Join : Nat := 367
def k_trace_Text : Nat := 368
def q_slices_Index_stringstring_3 (N : TN) : ACode := (.seq (.reg [⟨.l 4, none, .mv, [.c (.i .i64 (-1))]⟩]) .ret)
noncomputable def D_slices_Index_stringstring_3 (F : TF) (N : TN) (Q : TQ) (L : Lg) : Prop :=
 fin1 (some (.i .i64 (-1))) Q L
theorem e_slices_Index_stringstring_3 (F : TF) (N : TN) (Q : TQ) (l t : Env) (L : Lg) : wp F (q_slices_Index_stringstring_3 N) l t L (fin [.tmp (.l 4)] Q) nE (fin [.tmp (.l 4)] Q) = D_slices_Index_stringstring_3 F N Q L := by kernel_rfl
def w_slices_Index_stringstring_2 (F : TF) (N : TN) (Q : TQ) : Kn := (fun (l t : Env) (L : Lg) => D_slices_Index_stringstring_3 F N Q L)
def y_slices_Index_stringstring_5 (F : TF) (N : TN) (Q : TQ) : Nat → Kn := (fun (j : Nat) (l t : Env) (L : Lg) => bif Nat.beq j 0 then (w_slices_Index_stringstring_2 F N Q) l t L else nE j l t L)
def q_slices_Index_stringstring_7 (N : TN) : ACode := (.seq (.reg [⟨.t 9, none, .bin .lss, [.l 8, .l 7]⟩]) (.seq (.cond (.t 9) .skip (.exit 0)) (.seq (.block 1 (.seq (.reg [⟨.t 10, none, .mv, [.l 8]⟩, ⟨.l 5, none, .mv, [.t 10]⟩]) (.seq (.reg [⟨.t 11, none, .mv, [.l 1]⟩, ⟨.t 12, none, .mv, [.l 0]⟩, ⟨.t 13, none, .mv, [.l 5]⟩, ⟨.t 14, none, .iad 1, [.t 12, .t 13]⟩, ⟨.t 15, none, .ld none, [.t 14]⟩, ⟨.t 16, none, .sbin .eql, [.t 11, .t 15]⟩]) (.cond (.t 16) (.seq (.reg [⟨.t 17, none, .mv, [.l 5]⟩, ⟨.l 4, none, .mv, [.t 17]⟩]) .ret) .skip)))) (.reg [⟨.t 18, none, .bin .add, [.l 8, .c (.i .i64 1)]⟩, ⟨.l 8, none, .mv, [.t 18]⟩]))))
noncomputable def D_slices_Index_stringstring_7 (F : TF) (N : TN) (Q : TQ) (k1 : TK) (l : Env) (L : Lg) : Prop :=
 wpOp F (.bin .lss) [(l 8), (l 7)] L fun v1 L1 =>
 condW v1
 (wpOp F (.iad 1) [(l 0), (l 8)] L1 fun v2 L2 =>
 wpOp F (.ld none) [v2] L2 fun v3 L3 =>
 wpOp F (.sbin .eql) [(l 1), v3] L3 fun v4 L4 =>
 condW v4
 (fin1 (some (l 8)) Q L4)
 (wpOp F (.bin .add) [(l 8), (.i .i64 1)] L4 fun v5 L5 =>
 k1 (Env.put (Env.put l 5 (l 8)) 8 v5) L5))
 (D_slices_Index_stringstring_3 F N Q L1)
theorem e_slices_Index_stringstring_7 (F : TF) (N : TN) (Q : TQ) (k1 : TK) (l t : Env) (L : Lg) : wp F (q_slices_Index_stringstring_7 N) l t L (fun (l _ : Env) (L : Lg) => k1 l L) (y_slices_Index_stringstring_5 F N Q) (fin [.tmp (.l 4)] Q) = D_slices_Index_stringstring_7 F N Q k1 l L := by kernel_rfl
def q_slices_Index_stringstring_6 (N : TN) : ACode := (.loop (q_slices_Index_stringstring_7 N))
noncomputable def D_slices_Index_stringstring_6 (F : TF) (N : TN) (Q : TQ) (l : Env) (L : Lg) : Prop :=
 loopW (fun l t L k1 => D_slices_Index_stringstring_7 F N Q k1 l L) l L
theorem e_slices_Index_stringstring_6 (F : TF) (N : TN) (Q : TQ) (l t : Env) (L : Lg) : wp F (q_slices_Index_stringstring_6 N) l t L (w_slices_Index_stringstring_2 F N Q) (y_slices_Index_stringstring_5 F N Q) (fin [.tmp (.l 4)] Q) = D_slices_Index_stringstring_6 F N Q l L := wpL (fun l t L k1 => e_slices_Index_stringstring_7 F N Q k1 l t L) (by kernel_rfl)
def q_slices_Index_stringstring_5 (N : TN) : ACode := (.block 0 (q_slices_Index_stringstring_6 N))
theorem e_slices_Index_stringstring_5 (F : TF) (N : TN) (Q : TQ) (l t : Env) (L : Lg) : wp F (q_slices_Index_stringstring_5 N) l t L (w_slices_Index_stringstring_2 F N Q) nE (fin [.tmp (.l 4)] Q) = D_slices_Index_stringstring_6 F N Q l L := wpB (e_slices_Index_stringstring_6 F N Q l t L)
def q_slices_Index_stringstring_4a (N : TN) : ACode := (.reg [⟨.t 6, none, .mv, [.l 0]⟩, ⟨.l 7, none, .lenSl, [.t 6]⟩, ⟨.l 8, none, .mv, [.c (.i .i64 0)]⟩])
def q_slices_Index_stringstring_4 (N : TN) : ACode := (.seq (q_slices_Index_stringstring_4a N) (q_slices_Index_stringstring_5 N))
noncomputable def D_slices_Index_stringstring_4 (F : TF) (N : TN) (Q : TQ) (l : Env) (L : Lg) : Prop :=
 wpOp F .lenSl [(l 0)] L fun v1 L1 =>
 D_slices_Index_stringstring_6 F N Q (Env.put (Env.put l 7 v1) 8 (.i .i64 0)) L1
theorem e_slices_Index_stringstring_4 (F : TF) (N : TN) (Q : TQ) (l t : Env) (L : Lg) : wp F (q_slices_Index_stringstring_4 N) l t L (w_slices_Index_stringstring_2 F N Q) nE (fin [.tmp (.l 4)] Q) = D_slices_Index_stringstring_4 F N Q l L := wpS (e_slices_Index_stringstring_5 F N Q) (by kernel_rfl)
def q_slices_Index_stringstring_2 (N : TN) : ACode := (.seq (q_slices_Index_stringstring_4 N) (q_slices_Index_stringstring_3 N))
theorem e_slices_Index_stringstring_2 (F : TF) (N : TN) (Q : TQ) (l t : Env) (L : Lg) : wp F (q_slices_Index_stringstring_2 N) l t L (fin [.tmp (.l 4)] Q) nE (fin [.tmp (.l 4)] Q) = D_slices_Index_stringstring_4 F N Q l L := wpS (e_slices_Index_stringstring_3 F N Q) (e_slices_Index_stringstring_4 F N Q l t L)
def q_slices_Index_stringstring_1a (N : TN) : ACode := (.reg [⟨.l 4, none, .mv, [.c (.i .i64 0)]⟩])
def q_slices_Index_stringstring_1 (N : TN) : ACode := (.seq (q_slices_Index_stringstring_1a N) (q_slices_Index_stringstring_2 N))
noncomputable def D_slices_Index_stringstring_1 (F : TF) (N : TN) (Q : TQ) (l : Env) (L : Lg) : Prop :=
 D_slices_Index_stringstring_4 F N Q (Env.put l 4 (.i .i64 0)) L
theorem e_slices_Index_stringstring_1 (F : TF) (N : TN) (Q : TQ) (l t : Env) (L : Lg) : wp F (q_slices_Index_stringstring_1 N) l t L (fin [.tmp (.l 4)] Q) nE (fin [.tmp (.l 4)] Q) = D_slices_Index_stringstring_1 F N Q l L := wpS (e_slices_Index_stringstring_2 F N Q) (by kernel_rfl)
/-- slices.Index[[]string,string] -/
def c_slices_Index_stringstring (N : TN) : AFn := ⟨q_slices_Index_stringstring_1 N, [.tmp (.l 4)]⟩
structure H_slices_Index_stringstring (N : TN) (F : TF) : Prop where
  code : F (N k_slices_Index_stringstring) = some (c_slices_Index_stringstring N)
theorem r_slices_Index_stringstring {F : TF} {N : TN} (h : F (N k_slices_Index_stringstring) = some (c_slices_Index_stringstring N)) {Q : TQ} {a0 a1 : AV} {L : Lg} (e : D_slices_Index_stringstring_1 F N Q (initE [a0, a1] 0) L) : CallL F (N k_slices_Index_stringstring) [a0, a1] L Q :=
  CallL.of_wp h (Eq.mpr (Eq.trans (e_slices_Index_stringstring_1 F N Q (initE [a0, a1] 0) Env.nil L) (by kernel_rfl : _ = D_slices_Index_stringstring_1 F N Q (initE [a0, a1] 0) L)) e)
def q_trace_kind_1 (N : TN) : ACode := (.seq (.reg [⟨.l 2, none, .mv, [.c (.i .i64 0)]⟩, ⟨.l 3, none, .mv, [.c (.b false)]⟩]) (.seq (.seq (.reg [⟨.t 7, none, .call (N k_strings_Fields), [.c (.s [116, 111, 108, 100, 32, 119, 97, 105, 116, 115, 32, 103, 111, 101, 115, 32, 101, 110, 100, 115, 32, 115, 116, 97, 114, 116, 115, 32, 102, 105, 114, 101, 115, 32, 108, 97, 112, 115, 101, 115, 32, 114, 101, 102, 117, 115, 101, 100])]⟩, ⟨.t 8, none, .mv, [.l 0]⟩, ⟨.t 9, none, .call (N k_slices_Index_stringstring), [.t 7, .t 8]⟩, ⟨.l 4, none, .mv, [.t 9]⟩]) (.seq (.reg [⟨.t 10, none, .mv, [.l 4]⟩, ⟨.t 11, none, .bin .geq, [.t 10, .c (.i .i64 0)]⟩]) (.cond (.t 11) (.seq (.reg [⟨.t 12, none, .mv, [.l 4]⟩, ⟨.t 13, none, .bin .add, [.t 12, .c (.i .i64 1)]⟩, ⟨.l 2, none, .mv, [.t 13]⟩, ⟨.l 3, none, .mv, [.c (.b true)]⟩]) .ret) .skip))) (.seq (.reg [⟨.t 15, none, .mv, [.l 0]⟩, ⟨.t 16, none, .call (N k_strconv_Atoi), [.t 15]⟩, ⟨.t 14, none, .mv, [.t 16]⟩, ⟨.t 17, none, .ext 0, [.t 14]⟩, ⟨.t 18, none, .ext 1, [.t 14]⟩, ⟨.l 5, none, .mv, [.t 17]⟩, ⟨.l 6, none, .mv, [.t 18]⟩]) (.seq (.reg [⟨.t 19, none, .mv, [.l 5]⟩, ⟨.t 20, none, .mv, [.l 6]⟩, ⟨.t 21, none, .eq false .ifcn, [.t 20, .c .nili]⟩, ⟨.l 2, none, .mv, [.t 19]⟩, ⟨.l 3, none, .mv, [.t 21]⟩]) .ret))))
noncomputable def D_trace_kind_1 (F : TF) (N : TN) (Q : TQ) (x0 : AV) (L : Lg) : Prop :=
 CallL F (N k_strings_Fields) [(.s [116, 111, 108, 100, 32, 119, 97, 105, 116, 115, 32, 103, 111, 101, 115, 32, 101, 110, 100, 115, 32, 115, 116, 97, 114, 116, 115, 32, 102, 105, 114, 101, 115, 32, 108, 97, 112, 115, 101, 115, 32, 114, 101, 102, 117, 115, 101, 100])] L fun v1 L1 =>
 CallL F (N k_slices_Index_stringstring) [v1, x0] L1 fun v2 L2 =>
 wpOp F (.bin .geq) [v2, (.i .i64 0)] L2 fun v3 L3 =>
 condW v3
 (wpOp F (.bin .add) [v2, (.i .i64 1)] L3 fun v4 L4 =>
 fin1 (some (.tup [v4, (.b true)])) Q L4)
 (CallL F (N k_strconv_Atoi) [x0] L3 fun v5 L5 =>
 wpOp F (.ext 0) [v5] L5 fun v6 L6 =>
 wpOp F (.ext 1) [v5] L6 fun v7 L7 =>
 wpOp F (.eq false .ifcn) [v7, .nili] L7 fun v8 L8 =>
 fin1 (some (.tup [v6, v8])) Q L8)
theorem e_trace_kind_1 (F : TF) (N : TN) (Q : TQ) (l t : Env) (L : Lg) : wp F (q_trace_kind_1 N) l t L (fin [.tmp (.l 2), .tmp (.l 3)] Q) nE (fin [.tmp (.l 2), .tmp (.l 3)] Q) = D_trace_kind_1 F N Q (l 0) L := by kernel_rfl
/-- tarpaulin/trace.kind -/
def c_trace_kind (N : TN) : AFn := ⟨q_trace_kind_1 N, [.tmp (.l 2), .tmp (.l 3)]⟩
structure H_trace_kind (N : TN) (F : TF) : Prop where
  code : F (N k_trace_kind) = some (c_trace_kind N)
  slices_Index_stringstring : H_slices_Index_stringstring N F
theorem r_trace_kind {F : TF} {N : TN} (h : F (N k_trace_kind) = some (c_trace_kind N)) {Q : TQ} {a0 : AV} {L : Lg} (e : D_trace_kind_1 F N Q a0 L) : CallL F (N k_trace_kind) [a0] L Q :=
  CallL.of_wp h (Eq.mpr (Eq.trans (e_trace_kind_1 F N Q (initE [a0] 0) Env.nil L) (by kernel_rfl : _ = D_trace_kind_1 F N Q a0 L)) e)
def q_trace_word_1 (N : TN) : ACode := (.seq (.reg [⟨.l 2, none, .mv, [.c (.s [])]⟩]) (.seq (.reg [⟨.t 4, none, .call (N k_strings_Fields), [.c (.s [116, 111, 108, 100, 32, 119, 97, 105, 116, 115, 32, 103, 111, 101, 115, 32, 101, 110, 100, 115, 32, 115, 116, 97, 114, 116, 115, 32, 102, 105, 114, 101, 115, 32, 108, 97, 112, 115, 101, 115, 32, 114, 101, 102, 117, 115, 101, 100])]⟩, ⟨.l 3, none, .mv, [.t 4]⟩]) (.seq (.seq (.reg [⟨.t 5, none, .mv, [.l 0]⟩, ⟨.t 6, none, .bin .lss, [.t 5, .c (.i .i64 1)]⟩, ⟨.t 7, none, .mv, [.t 6]⟩, ⟨.t 8, some (.t 7, false), .mv, [.l 0]⟩, ⟨.t 9, some (.t 7, false), .mv, [.l 3]⟩, ⟨.t 10, some (.t 7, false), .lenSl, [.t 9]⟩, ⟨.t 11, some (.t 7, false), .bin .gtr, [.t 8, .t 10]⟩, ⟨.t 12, none, .pick, [.t 7, .c (.b true), .t 11]⟩]) (.cond (.t 12) (.seq (.reg [⟨.t 13, none, .mv, [.l 0]⟩, ⟨.t 14, none, .call (N k_strconv_Itoa), [.t 13]⟩, ⟨.l 2, none, .mv, [.t 14]⟩]) .ret) .skip)) (.seq (.reg [⟨.t 15, none, .mv, [.l 3]⟩, ⟨.t 16, none, .mv, [.l 0]⟩, ⟨.t 17, none, .bin .sub, [.t 16, .c (.i .i64 1)]⟩, ⟨.t 18, none, .iad 1, [.t 15, .t 17]⟩, ⟨.t 19, none, .ld none, [.t 18]⟩, ⟨.l 2, none, .mv, [.t 19]⟩]) .ret))))
noncomputable def D_trace_word_1 (F : TF) (N : TN) (Q : TQ) (x0 : AV) (L : Lg) : Prop :=
 CallL F (N k_strings_Fields) [(.s [116, 111, 108, 100, 32, 119, 97, 105, 116, 115, 32, 103, 111, 101, 115, 32, 101, 110, 100, 115, 32, 115, 116, 97, 114, 116, 115, 32, 102, 105, 114, 101, 115, 32, 108, 97, 112, 115, 101, 115, 32, 114, 101, 102, 117, 115, 101, 100])] L fun v1 L1 =>
 wpOp F (.bin .lss) [x0, (.i .i64 1)] L1 fun v2 L2 =>
 gdOp F v2 false .mv [x0] L2 fun v3 L3 =>
 gdOp F v2 false .mv [v1] L3 fun v4 L4 =>
 gdOp F v2 false .lenSl [v4] L4 fun v5 L5 =>
 gdOp F v2 false (.bin .gtr) [v3, v5] L5 fun v6 L6 =>
 wpOp F .pick [v2, (.b true), v6] L6 fun v7 L7 =>
 condW v7
 (CallL F (N k_strconv_Itoa) [x0] L7 fun v8 L8 =>
 fin1 (some v8) Q L8)
 (wpOp F (.bin .sub) [x0, (.i .i64 1)] L7 fun v9 L9 =>
 wpOp F (.iad 1) [v1, v9] L9 fun v10 L10 =>
 wpOp F (.ld none) [v10] L10 fun v11 L11 =>
 fin1 (some v11) Q L11)
theorem e_trace_word_1 (F : TF) (N : TN) (Q : TQ) (l t : Env) (L : Lg) : wp F (q_trace_word_1 N) l t L (fin [.tmp (.l 2)] Q) nE (fin [.tmp (.l 2)] Q) = D_trace_word_1 F N Q (l 0) L := by kernel_rfl
/-- tarpaulin/trace.word -/
def c_trace_word (N : TN) : AFn := ⟨q_trace_word_1 N, [.tmp (.l 2)]⟩
structure H_trace_word (N : TN) (F : TF) : Prop where
  code : F (N k_trace_word) = some (c_trace_word N)
theorem r_trace_word {F : TF} {N : TN} (h : F (N k_trace_word) = some (c_trace_word N)) {Q : TQ} {a0 : AV} {L : Lg} (e : D_trace_word_1 F N Q a0 L) : CallL F (N k_trace_word) [a0] L Q :=
  CallL.of_wp h (Eq.mpr (Eq.trans (e_trace_word_1 F N Q (initE [a0] 0) Env.nil L) (by kernel_rfl : _ = D_trace_word_1 F N Q a0 L)) e)
def q_trace_Line_4 (N : TN) : ACode := (.seq (.reg [⟨.t 33, none, .mv, [.l 3]⟩, ⟨.t 34, none, .call (N k_strings_Join), [.t 33, .c (.s [32])]⟩, ⟨.l 2, none, .mv, [.t 34]⟩]) .ret)
noncomputable def D_trace_Line_4 (F : TF) (N : TN) (Q : TQ) (x3 : AV) (L : Lg) : Prop :=
 CallL F (N k_strings_Join) [x3, (.s [32])] L fun v1 L1 =>
 fin1 (some v1) Q L1
theorem e_trace_Line_4 (F : TF) (N : TN) (Q : TQ) (l t : Env) (L : Lg) : wp F (q_trace_Line_4 N) l t L (fin [.tmp (.l 2)] Q) nE (fin [.tmp (.l 2)] Q) = D_trace_Line_4 F N Q (l 3) L := by kernel_rfl
def y_trace_Line_6 (F : TF) (N : TN) (Q : TQ) : Nat → Kn := (fun (j : Nat) (l t : Env) (L : Lg) => bif Nat.beq j 0 then (fun (l t : Env) (L : Lg) => D_trace_Line_4 F N Q (l 3) L) l t L else nE j l t L)
def q_trace_Line_8 (N : TN) : ACode := (.seq (.reg [⟨.t 24, none, .bin .lss, [.l 23, .l 22]⟩]) (.seq (.cond (.t 24) .skip (.exit 0)) (.seq (.block 1 (.seq (.reg [⟨.t 25, none, .iad 1, [.l 21, .l 23]⟩, ⟨.t 26, none, .ld none, [.t 25]⟩, ⟨.l 5, none, .mv, [.t 26]⟩]) (.reg [⟨.t 27, none, .mv, [.l 3]⟩, ⟨.t 28, none, .mv, [.l 5]⟩, ⟨.t 29, none, .call (N k_strconv_Itoa), [.t 28]⟩, ⟨.t 30, none, .bslice [.s []] 1 1 [0], [.t 29]⟩, ⟨.t 31, none, .app 1 16, [.t 27, .t 30]⟩, ⟨.l 3, none, .mv, [.t 31]⟩]))) (.reg [⟨.t 32, none, .bin .add, [.l 23, .c (.i .i64 1)]⟩, ⟨.l 23, none, .mv, [.t 32]⟩]))))
noncomputable def D_trace_Line_8 (F : TF) (N : TN) (Q : TQ) (k1 : TK) (l : Env) (L : Lg) : Prop :=
 wpOp F (.bin .lss) [(l 23), (l 22)] L fun v1 L1 =>
 condW v1
 (wpOp F (.iad 1) [(l 21), (l 23)] L1 fun v2 L2 =>
 wpOp F (.ld none) [v2] L2 fun v3 L3 =>
 CallL F (N k_strconv_Itoa) [v3] L3 fun v4 L4 =>
 wpOp F (.bslice [.s []] 1 1 [0]) [v4] L4 fun v5 L5 =>
 wpOp F (.app 1 16) [(l 3), v5] L5 fun v6 L6 =>
 wpOp F (.bin .add) [(l 23), (.i .i64 1)] L6 fun v7 L7 =>
 k1 (Env.put (Env.put (Env.put l 5 v3) 3 v6) 23 v7) L7)
 (D_trace_Line_4 F N Q (l 3) L1)
theorem e_trace_Line_8 (F : TF) (N : TN) (Q : TQ) (k1 : TK) (l t : Env) (L : Lg) : wp F (q_trace_Line_8 N) l t L (fun (l _ : Env) (L : Lg) => k1 l L) (y_trace_Line_6 F N Q) (fin [.tmp (.l 2)] Q) = D_trace_Line_8 F N Q k1 l L := by kernel_rfl
def q_trace_Line_7 (N : TN) : ACode := (.loop (q_trace_Line_8 N))
noncomputable def D_trace_Line_7 (F : TF) (N : TN) (Q : TQ) (l : Env) (L : Lg) : Prop :=
 loopW (fun l t L k1 => D_trace_Line_8 F N Q k1 l L) l L
theorem e_trace_Line_7 (F : TF) (N : TN) (Q : TQ) (l t : Env) (L : Lg) : wp F (q_trace_Line_7 N) l t L (fun (l t : Env) (L : Lg) => D_trace_Line_4 F N Q (l 3) L) (y_trace_Line_6 F N Q) (fin [.tmp (.l 2)] Q) = D_trace_Line_7 F N Q l L := wpL (fun l t L k1 => e_trace_Line_8 F N Q k1 l t L) (by kernel_rfl)
def q_trace_Line_6 (N : TN) : ACode := (.block 0 (q_trace_Line_7 N))
theorem e_trace_Line_6 (F : TF) (N : TN) (Q : TQ) (l t : Env) (L : Lg) : wp F (q_trace_Line_6 N) l t L (fun (l t : Env) (L : Lg) => D_trace_Line_4 F N Q (l 3) L) nE (fin [.tmp (.l 2)] Q) = D_trace_Line_7 F N Q l L := wpB (e_trace_Line_7 F N Q l t L)
def q_trace_Line_5a (N : TN) : ACode := (.reg [⟨.t 13, none, .fad 2, [.l 1]⟩, ⟨.t 14, none, .ld none, [.t 13]⟩, ⟨.t 15, none, .fad 3, [.l 1]⟩, ⟨.t 16, none, .ld none, [.t 15]⟩, ⟨.t 17, none, .fad 4, [.l 1]⟩, ⟨.t 18, none, .ld none, [.t 17]⟩, ⟨.t 19, none, .fad 5, [.l 1]⟩, ⟨.t 20, none, .ld none, [.t 19]⟩, ⟨.l 21, none, .bslice [.i .i64 0] 4 1 [0, 1, 2, 3], [.t 14, .t 16, .t 18, .t 20]⟩, ⟨.l 22, none, .lenSl, [.l 21]⟩, ⟨.l 23, none, .mv, [.c (.i .i64 0)]⟩])
def q_trace_Line_5 (N : TN) : ACode := (.seq (q_trace_Line_5a N) (q_trace_Line_6 N))
noncomputable def D_trace_Line_5 (F : TF) (N : TN) (Q : TQ) (l : Env) (L : Lg) : Prop :=
 wpOp F (.fad 2) [(l 1)] L fun v1 L1 =>
 wpOp F (.ld none) [v1] L1 fun v2 L2 =>
 wpOp F (.fad 3) [(l 1)] L2 fun v3 L3 =>
 wpOp F (.ld none) [v3] L3 fun v4 L4 =>
 wpOp F (.fad 4) [(l 1)] L4 fun v5 L5 =>
 wpOp F (.ld none) [v5] L5 fun v6 L6 =>
 wpOp F (.fad 5) [(l 1)] L6 fun v7 L7 =>
 wpOp F (.ld none) [v7] L7 fun v8 L8 =>
 wpOp F (.bslice [.i .i64 0] 4 1 [0, 1, 2, 3]) [v2, v4, v6, v8] L8 fun v9 L9 =>
 wpOp F .lenSl [v9] L9 fun v10 L10 =>
 D_trace_Line_7 F N Q (Env.put (Env.put (Env.put l 21 v9) 22 v10) 23 (.i .i64 0)) L10
theorem e_trace_Line_5 (F : TF) (N : TN) (Q : TQ) (l t : Env) (L : Lg) : wp F (q_trace_Line_5 N) l t L (fun (l t : Env) (L : Lg) => D_trace_Line_4 F N Q (l 3) L) nE (fin [.tmp (.l 2)] Q) = D_trace_Line_5 F N Q l L := wpS (e_trace_Line_6 F N Q) (by kernel_rfl)
def q_trace_Line_3 (N : TN) : ACode := (.seq (q_trace_Line_5 N) (q_trace_Line_4 N))
theorem e_trace_Line_3 (F : TF) (N : TN) (Q : TQ) (l t : Env) (L : Lg) : wp F (q_trace_Line_3 N) l t L (fin [.tmp (.l 2)] Q) nE (fin [.tmp (.l 2)] Q) = D_trace_Line_5 F N Q l L := wpS (e_trace_Line_4 F N Q) (e_trace_Line_5 F N Q l t L)
def q_trace_Line_2a (N : TN) : ACode := (.regD [⟨.t 6, none, .fad 0, [.l 1]⟩, ⟨.t 7, none, .ld none, [.t 6]⟩, ⟨.t 8, none, .call (N k_strconv_Itoa), [.t 7]⟩, ⟨.t 9, none, .fad 1, [.l 1]⟩, ⟨.t 10, none, .ld none, [.t 9]⟩, ⟨.t 11, none, .call (N k_trace_word), [.t 10]⟩, ⟨.t 12, none, .bslice [.s []] 2 1 [0, 1], [.t 8, .t 11]⟩, ⟨.l 3, none, .mv, [.t 12]⟩] [(4, 0)])
def q_trace_Line_2 (N : TN) : ACode := (.seq (q_trace_Line_2a N) (q_trace_Line_3 N))
noncomputable def D_trace_Line_2 (F : TF) (N : TN) (Q : TQ) (l : Env) (L : Lg) : Prop :=
 wpOp F (.fad 0) [(l 1)] L fun v1 L1 =>
 wpOp F (.ld none) [v1] L1 fun v2 L2 =>
 CallL F (N k_strconv_Itoa) [v2] L2 fun v3 L3 =>
 wpOp F (.fad 1) [(l 1)] L3 fun v4 L4 =>
 wpOp F (.ld none) [v4] L4 fun v5 L5 =>
 CallL F (N k_trace_word) [v5] L5 fun v6 L6 =>
 wpOp F (.bslice [.s []] 2 1 [0, 1]) [v3, v6] L6 fun v7 L7 =>
 (againV (.ld none) [v4] L4 L ∧ True) ∧ (D_trace_Line_5 F N Q (Env.put l 3 v7) L7)
theorem e_trace_Line_2 (F : TF) (N : TN) (Q : TQ) (l t : Env) (L : Lg) : wp F (q_trace_Line_2 N) l t L (fin [.tmp (.l 2)] Q) nE (fin [.tmp (.l 2)] Q) = D_trace_Line_2 F N Q l L := wpS (e_trace_Line_3 F N Q) (by kernel_rfl)
def q_trace_Line_1a (N : TN) : ACode := (.reg [⟨.l 1, none, .box, [.l 0]⟩, ⟨.l 2, none, .mv, [.c (.s [])]⟩])
def q_trace_Line_1 (N : TN) : ACode := (.seq (q_trace_Line_1a N) (q_trace_Line_2 N))
noncomputable def D_trace_Line_1 (F : TF) (N : TN) (Q : TQ) (l : Env) (L : Lg) : Prop :=
 wpOp F .box [(l 0)] L fun v1 L1 =>
 D_trace_Line_2 F N Q (Env.put (Env.put l 1 v1) 2 (.s [])) L1
theorem e_trace_Line_1 (F : TF) (N : TN) (Q : TQ) (l t : Env) (L : Lg) : wp F (q_trace_Line_1 N) l t L (fin [.tmp (.l 2)] Q) nE (fin [.tmp (.l 2)] Q) = D_trace_Line_1 F N Q l L := wpS (e_trace_Line_2 F N Q) (by kernel_rfl)
/-- tarpaulin/trace.Line -/
def c_trace_Line (N : TN) : AFn := ⟨q_trace_Line_1 N, [.tmp (.l 2)]⟩
structure H_trace_Line (N : TN) (F : TF) : Prop where
  code : F (N k_trace_Line) = some (c_trace_Line N)
  trace_word : H_trace_word N F
theorem r_trace_Line {F : TF} {N : TN} (h : F (N k_trace_Line) = some (c_trace_Line N)) {Q : TQ} {a0 : AV} {L : Lg} (e : D_trace_Line_1 F N Q (initE [a0] 0) L) : CallL F (N k_trace_Line) [a0] L Q :=
  CallL.of_wp h (Eq.mpr (Eq.trans (e_trace_Line_1 F N Q (initE [a0] 0) Env.nil L) (by kernel_rfl : _ = D_trace_Line_1 F N Q (initE [a0] 0) L)) e)
def q_trace_event_6 (N : TN) : ACode := (.seq (.regD [⟨.t 54, none, .ld (some 6), [.l 2]⟩, ⟨.t 55, none, .mv, [.l 3]⟩, ⟨.t 56, none, .mv, [.t 55]⟩, ⟨.t 57, some (.t 56, true), .ld (some 6), [.l 2]⟩, ⟨.t 58, some (.t 56, true), .call (N k_trace_Line), [.t 57]⟩, ⟨.t 59, some (.t 56, true), .mv, [.l 0]⟩, ⟨.t 60, some (.t 56, true), .sbin .eql, [.t 58, .t 59]⟩, ⟨.t 61, none, .pick, [.t 56, .t 60, .c (.b false)]⟩, ⟨.no, none, .st 6, [.l 2, .t 54]⟩, ⟨.l 3, none, .mv, [.t 61]⟩] [(0, 5)]) .ret)
noncomputable def D_trace_event_6 (F : TF) (N : TN) (Q : TQ) (x0 : AV) (x2 : AV) (x3 : AV) (L : Lg) : Prop :=
 wpOp F (.ld (some 6)) [x2] L fun v1 L1 =>
 gdOp F x3 true (.ld (some 6)) [x2] L1 fun v2 L2 =>
 gdOp F x3 true (.call (N k_trace_Line)) [v2] L2 fun v3 L3 =>
 gdOp F x3 true .mv [x0] L3 fun v4 L4 =>
 gdOp F x3 true (.sbin .eql) [v3, v4] L4 fun v5 L5 =>
 wpOp F .pick [x3, v5, (.b false)] L5 fun v6 L6 =>
 wpOp F (.st 6) [x2, v1] L6 fun _ L7 =>
 (againV (.ld (some 6)) [x2] L L3 ∧ True) ∧ (fin1 (resVL Env.nil Env.nil L7 [.cell (.c x2) (some 6), .tmp (.c v6)]) Q L7)
theorem e_trace_event_6 (F : TF) (N : TN) (Q : TQ) (l t : Env) (L : Lg) : wp F (q_trace_event_6 N) l t L (fin [.cell (.l 2) (some 6), .tmp (.l 3)] Q) nE (fin [.cell (.l 2) (some 6), .tmp (.l 3)] Q) = D_trace_event_6 F N Q (l 0) (l 2) (l 3) L := by kernel_rfl
def w_trace_event_5 (F : TF) (N : TN) (Q : TQ) : Kn := (fun (l t : Env) (L : Lg) => D_trace_event_6 F N Q (l 0) (l 2) (l 3) L)
def y_trace_event_8 (F : TF) (N : TN) (Q : TQ) : Nat → Kn := (fun (j : Nat) (l t : Env) (L : Lg) => bif Nat.beq j 0 then (w_trace_event_5 F N Q) l t L else nE j l t L)
def q_trace_event_10 (N : TN) : ACode := (.seq (.reg [⟨.t 31, none, .bin .lss, [.l 30, .l 29]⟩]) (.seq (.cond (.t 31) .skip (.exit 0)) (.seq (.block 1 (.seq (.reg [⟨.t 32, none, .mv, [.l 30]⟩, ⟨.t 33, none, .iad 1, [.l 28, .l 30]⟩, ⟨.t 34, none, .ld none, [.t 33]⟩, ⟨.l 5, none, .mv, [.t 32]⟩, ⟨.l 6, none, .mv, [.t 34]⟩]) (.seq (.reg [⟨.t 35, none, .mv, [.l 6]⟩, ⟨.t 36, none, .eq true .ptr, [.t 35, .c (.p none)]⟩]) (.cond (.t 36) (.seq (.reg [⟨.t 38, none, .mv, [.l 4]⟩, ⟨.t 39, none, .mv, [.l 5]⟩, ⟨.t 40, none, .iad 1, [.t 38, .t 39]⟩, ⟨.t 41, none, .ld none, [.t 40]⟩, ⟨.t 42, none, .call (N k_strconv_Atoi), [.t 41]⟩, ⟨.t 37, none, .mv, [.t 42]⟩, ⟨.t 43, none, .ext 0, [.t 37]⟩, ⟨.t 44, none, .ext 1, [.t 37]⟩, ⟨.l 7, none, .mv, [.t 43]⟩, ⟨.l 8, none, .mv, [.t 44]⟩]) (.reg [⟨.t 45, none, .mv, [.l 6]⟩, ⟨.t 46, none, .mv, [.l 7]⟩, ⟨.t 47, none, .mv, [.l 3]⟩, ⟨.t 48, none, .mv, [.t 47]⟩, ⟨.t 49, some (.t 48, true), .mv, [.l 8]⟩, ⟨.t 50, some (.t 48, true), .eq false .ifcn, [.t 49, .c .nili]⟩, ⟨.t 51, none, .pick, [.t 48, .t 50, .c (.b false)]⟩, ⟨.t 52, none, .nilchk, [.t 45]⟩, ⟨.no, none, .st 1, [.t 52, .t 46]⟩, ⟨.l 3, none, .mv, [.t 51]⟩])) .skip)))) (.reg [⟨.t 53, none, .bin .add, [.l 30, .c (.i .i64 1)]⟩, ⟨.l 30, none, .mv, [.t 53]⟩]))))
noncomputable def D_trace_event_10 (F : TF) (N : TN) (Q : TQ) (k1 : TK) (l : Env) (L : Lg) : Prop :=
 wpOp F (.bin .lss) [(l 30), (l 29)] L fun v1 L1 =>
 condW v1
 (wpOp F (.iad 1) [(l 28), (l 30)] L1 fun v2 L2 =>
 wpOp F (.ld none) [v2] L2 fun v3 L3 =>
 wpOp F (.eq true .ptr) [v3, (.p none)] L3 fun v4 L4 =>
 condW v4
 (wpOp F (.iad 1) [(l 4), (l 30)] L4 fun v5 L5 =>
 wpOp F (.ld none) [v5] L5 fun v6 L6 =>
 CallL F (N k_strconv_Atoi) [v6] L6 fun v7 L7 =>
 wpOp F (.ext 0) [v7] L7 fun v8 L8 =>
 wpOp F (.ext 1) [v7] L8 fun v9 L9 =>
 gdOp F (l 3) true .mv [v9] L9 fun v10 L10 =>
 gdOp F (l 3) true (.eq false .ifcn) [v10, .nili] L10 fun v11 L11 =>
 wpOp F .pick [(l 3), v11, (.b false)] L11 fun v12 L12 =>
 wpOp F .nilchk [v3] L12 fun v13 L13 =>
 wpOp F (.st 1) [v13, v8] L13 fun _ L14 =>
 wpOp F (.bin .add) [(l 30), (.i .i64 1)] L14 fun v15 L15 =>
 k1 (Env.put (Env.put (Env.put (Env.put (Env.put (Env.put l 5 (l 30)) 6 v3) 7 v8) 8 v9) 3 v12) 30 v15) L15)
 (wpOp F (.bin .add) [(l 30), (.i .i64 1)] L4 fun v16 L16 =>
 k1 (Env.put (Env.put (Env.put l 5 (l 30)) 6 v3) 30 v16) L16))
 (D_trace_event_6 F N Q (l 0) (l 2) (l 3) L1)
theorem e_trace_event_10 (F : TF) (N : TN) (Q : TQ) (k1 : TK) (l t : Env) (L : Lg) : wp F (q_trace_event_10 N) l t L (fun (l _ : Env) (L : Lg) => k1 l L) (y_trace_event_8 F N Q) (fin [.cell (.l 2) (some 6), .tmp (.l 3)] Q) = D_trace_event_10 F N Q k1 l L := by kernel_rfl
def q_trace_event_9 (N : TN) : ACode := (.loop (q_trace_event_10 N))
noncomputable def D_trace_event_9 (F : TF) (N : TN) (Q : TQ) (l : Env) (L : Lg) : Prop :=
 loopW (fun l t L k1 => D_trace_event_10 F N Q k1 l L) l L
theorem e_trace_event_9 (F : TF) (N : TN) (Q : TQ) (l t : Env) (L : Lg) : wp F (q_trace_event_9 N) l t L (w_trace_event_5 F N Q) (y_trace_event_8 F N Q) (fin [.cell (.l 2) (some 6), .tmp (.l 3)] Q) = D_trace_event_9 F N Q l L := wpL (fun l t L k1 => e_trace_event_10 F N Q k1 l t L) (by kernel_rfl)
def q_trace_event_8 (N : TN) : ACode := (.block 0 (q_trace_event_9 N))
theorem e_trace_event_8 (F : TF) (N : TN) (Q : TQ) (l t : Env) (L : Lg) : wp F (q_trace_event_8 N) l t L (w_trace_event_5 F N Q) nE (fin [.cell (.l 2) (some 6), .tmp (.l 3)] Q) = D_trace_event_9 F N Q l L := wpB (e_trace_event_9 F N Q l t L)
def q_trace_event_7a (N : TN) : ACode := (.reg [⟨.t 23, none, .fad 0, [.l 2]⟩, ⟨.t 24, none, .fad 2, [.l 2]⟩, ⟨.t 25, none, .fad 3, [.l 2]⟩, ⟨.t 26, none, .fad 4, [.l 2]⟩, ⟨.t 27, none, .fad 5, [.l 2]⟩, ⟨.l 28, none, .bslice [.p none] 6 1 [0, 2, 3, 4, 5], [.t 23, .t 24, .t 25, .t 26, .t 27]⟩, ⟨.l 29, none, .lenSl, [.l 28]⟩, ⟨.l 30, none, .mv, [.c (.i .i64 0)]⟩])
def q_trace_event_7 (N : TN) : ACode := (.seq (q_trace_event_7a N) (q_trace_event_8 N))
noncomputable def D_trace_event_7 (F : TF) (N : TN) (Q : TQ) (l : Env) (L : Lg) : Prop :=
 wpOp F (.fad 0) [(l 2)] L fun v1 L1 =>
 wpOp F (.fad 2) [(l 2)] L1 fun v2 L2 =>
 wpOp F (.fad 3) [(l 2)] L2 fun v3 L3 =>
 wpOp F (.fad 4) [(l 2)] L3 fun v4 L4 =>
 wpOp F (.fad 5) [(l 2)] L4 fun v5 L5 =>
 wpOp F (.bslice [.p none] 6 1 [0, 2, 3, 4, 5]) [v1, v2, v3, v4, v5] L5 fun v6 L6 =>
 wpOp F .lenSl [v6] L6 fun v7 L7 =>
 D_trace_event_9 F N Q (Env.put (Env.put (Env.put l 28 v6) 29 v7) 30 (.i .i64 0)) L7
theorem e_trace_event_7 (F : TF) (N : TN) (Q : TQ) (l t : Env) (L : Lg) : wp F (q_trace_event_7 N) l t L (w_trace_event_5 F N Q) nE (fin [.cell (.l 2) (some 6), .tmp (.l 3)] Q) = D_trace_event_7 F N Q l L := wpS (e_trace_event_8 F N Q) (by kernel_rfl)
def q_trace_event_5 (N : TN) : ACode := (.seq (q_trace_event_7 N) (q_trace_event_6 N))
theorem e_trace_event_5 (F : TF) (N : TN) (Q : TQ) (l t : Env) (L : Lg) : wp F (q_trace_event_5 N) l t L (fin [.cell (.l 2) (some 6), .tmp (.l 3)] Q) nE (fin [.cell (.l 2) (some 6), .tmp (.l 3)] Q) = D_trace_event_7 F N Q l L := wpS (e_trace_event_6 F N Q) (e_trace_event_7 F N Q l t L)
def q_trace_event_4a (N : TN) : ACode := (.reg [⟨.t 16, none, .mv, [.l 4]⟩, ⟨.t 17, none, .iad 1, [.t 16, .c (.i .i64 1)]⟩, ⟨.t 18, none, .ld none, [.t 17]⟩, ⟨.t 19, none, .call (N k_trace_kind), [.t 18]⟩, ⟨.t 15, none, .mv, [.t 19]⟩, ⟨.t 20, none, .ext 0, [.t 15]⟩, ⟨.t 21, none, .ext 1, [.t 15]⟩, ⟨.t 22, none, .fad 1, [.l 2]⟩, ⟨.no, none, .st 1, [.t 22, .t 20]⟩, ⟨.l 3, none, .mv, [.t 21]⟩])
def q_trace_event_4 (N : TN) : ACode := (.seq (q_trace_event_4a N) (q_trace_event_5 N))
noncomputable def D_trace_event_4 (F : TF) (N : TN) (Q : TQ) (l : Env) (L : Lg) : Prop :=
 wpOp F (.iad 1) [(l 4), (.i .i64 1)] L fun v1 L1 =>
 wpOp F (.ld none) [v1] L1 fun v2 L2 =>
 CallL F (N k_trace_kind) [v2] L2 fun v3 L3 =>
 wpOp F (.ext 0) [v3] L3 fun v4 L4 =>
 wpOp F (.ext 1) [v3] L4 fun v5 L5 =>
 wpOp F (.fad 1) [(l 2)] L5 fun v6 L6 =>
 wpOp F (.st 1) [v6, v4] L6 fun _ L7 =>
 D_trace_event_7 F N Q (Env.put l 3 v5) L7
theorem e_trace_event_4 (F : TF) (N : TN) (Q : TQ) (l t : Env) (L : Lg) : wp F (q_trace_event_4 N) l t L (fin [.cell (.l 2) (some 6), .tmp (.l 3)] Q) nE (fin [.cell (.l 2) (some 6), .tmp (.l 3)] Q) = D_trace_event_4 F N Q l L := wpS (e_trace_event_5 F N Q) (by kernel_rfl)
def q_trace_event_3a (N : TN) : ACode := (.seq (.reg [⟨.t 11, none, .mv, [.l 4]⟩, ⟨.t 12, none, .lenSl, [.t 11]⟩, ⟨.t 13, none, .bin .neq, [.t 12, .c (.i .i64 6)]⟩]) (.cond (.t 13) (.seq (.reg [⟨.t 14, none, .ld (some 6), [.l 2]⟩, ⟨.no, none, .st 6, [.l 2, .t 14]⟩, ⟨.l 3, none, .mv, [.c (.b false)]⟩]) .ret) .skip))
def q_trace_event_3 (N : TN) : ACode := (.seq (q_trace_event_3a N) (q_trace_event_4 N))
noncomputable def D_trace_event_3 (F : TF) (N : TN) (Q : TQ) (l : Env) (L : Lg) : Prop :=
 wpOp F .lenSl [(l 4)] L fun v1 L1 =>
 wpOp F (.bin .neq) [v1, (.i .i64 6)] L1 fun v2 L2 =>
 condW v2
 (wpOp F (.ld (some 6)) [(l 2)] L2 fun v3 L3 =>
 wpOp F (.st 6) [(l 2), v3] L3 fun _ L4 =>
 fin1 (resVL Env.nil Env.nil L4 [.cell (.c (l 2)) (some 6), .tmp (.c (.b false))]) Q L4)
 (D_trace_event_4 F N Q l L2)
theorem e_trace_event_3 (F : TF) (N : TN) (Q : TQ) (l t : Env) (L : Lg) : wp F (q_trace_event_3 N) l t L (fin [.cell (.l 2) (some 6), .tmp (.l 3)] Q) nE (fin [.cell (.l 2) (some 6), .tmp (.l 3)] Q) = D_trace_event_3 F N Q l L := wpS (e_trace_event_4 F N Q) (by kernel_rfl)
def q_trace_event_2a (N : TN) : ACode := (.reg [⟨.t 9, none, .mv, [.l 0]⟩, ⟨.t 10, none, .call (N k_strings_Split), [.t 9, .c (.s [32])]⟩, ⟨.l 4, none, .mv, [.t 10]⟩])
def q_trace_event_2 (N : TN) : ACode := (.seq (q_trace_event_2a N) (q_trace_event_3 N))
noncomputable def D_trace_event_2 (F : TF) (N : TN) (Q : TQ) (l : Env) (L : Lg) : Prop :=
 CallL F (N k_strings_Split) [(l 0), (.s [32])] L fun v1 L1 =>
 D_trace_event_3 F N Q (Env.put l 4 v1) L1
theorem e_trace_event_2 (F : TF) (N : TN) (Q : TQ) (l t : Env) (L : Lg) : wp F (q_trace_event_2 N) l t L (fin [.cell (.l 2) (some 6), .tmp (.l 3)] Q) nE (fin [.cell (.l 2) (some 6), .tmp (.l 3)] Q) = D_trace_event_2 F N Q l L := wpS (e_trace_event_3 F N Q) (by kernel_rfl)
def q_trace_event_1a (N : TN) : ACode := (.reg [⟨.l 2, none, .alloc [.i .i64 0, .i .i64 0, .i .i64 0, .i .i64 0, .i .i64 0, .i .i64 0], []⟩, ⟨.l 3, none, .mv, [.c (.b false)]⟩])
def q_trace_event_1 (N : TN) : ACode := (.seq (q_trace_event_1a N) (q_trace_event_2 N))
noncomputable def D_trace_event_1 (F : TF) (N : TN) (Q : TQ) (l : Env) (L : Lg) : Prop :=
 wpOp F (.alloc [.i .i64 0, .i .i64 0, .i .i64 0, .i .i64 0, .i .i64 0, .i .i64 0]) [] L fun v1 L1 =>
 D_trace_event_2 F N Q (Env.put (Env.put l 2 v1) 3 (.b false)) L1
theorem e_trace_event_1 (F : TF) (N : TN) (Q : TQ) (l t : Env) (L : Lg) : wp F (q_trace_event_1 N) l t L (fin [.cell (.l 2) (some 6), .tmp (.l 3)] Q) nE (fin [.cell (.l 2) (some 6), .tmp (.l 3)] Q) = D_trace_event_1 F N Q l L := wpS (e_trace_event_2 F N Q) (by kernel_rfl)
/-- tarpaulin/trace.event -/
def c_trace_event (N : TN) : AFn := ⟨q_trace_event_1 N, [.cell (.l 2) (some 6), .tmp (.l 3)]⟩
structure H_trace_event (N : TN) (F : TF) : Prop where
  code : F (N k_trace_event) = some (c_trace_event N)
  trace_kind : H_trace_kind N F
  trace_Line : H_trace_Line N F
theorem r_trace_event {F : TF} {N : TN} (h : F (N k_trace_event) = some (c_trace_event N)) {Q : TQ} {a0 : AV} {L : Lg} (e : D_trace_event_1 F N Q (initE [a0] 0) L) : CallL F (N k_trace_event) [a0] L Q :=
  CallL.of_wp h (Eq.mpr (Eq.trans (e_trace_event_1 F N Q (initE [a0] 0) Env.nil L) (by kernel_rfl : _ = D_trace_event_1 F N Q (initE [a0] 0) L)) e)
def q_trace_Parse_3 (N : TN) : ACode := (.seq (.reg [⟨.t 33, none, .mv, [.l 2]⟩, ⟨.l 2, none, .mv, [.t 33]⟩, ⟨.l 3, none, .mv, [.c (.i .i64 0)]⟩]) .ret)
noncomputable def D_trace_Parse_3 (F : TF) (N : TN) (Q : TQ) (x2 : AV) (L : Lg) : Prop :=
 fin1 (some (.tup [x2, (.i .i64 0)])) Q L
theorem e_trace_Parse_3 (F : TF) (N : TN) (Q : TQ) (l t : Env) (L : Lg) : wp F (q_trace_Parse_3 N) l t L (fin [.tmp (.l 2), .tmp (.l 3)] Q) nE (fin [.tmp (.l 2), .tmp (.l 3)] Q) = D_trace_Parse_3 F N Q (l 2) L := by kernel_rfl
def y_trace_Parse_4 (F : TF) (N : TN) (Q : TQ) : Nat → Kn := (fun (j : Nat) (l t : Env) (L : Lg) => bif Nat.beq j 0 then (fun (l t : Env) (L : Lg) => D_trace_Parse_3 F N Q (l 2) L) l t L else nE j l t L)
def q_trace_Parse_6 (N : TN) : ACode := (.seq (.seq (.reg [⟨.t 9, none, .mv, [.l 0]⟩, ⟨.t 10, none, .sbin .neq, [.t 9, .c (.s [])]⟩]) (.cond (.t 10) .skip (.exit 0))) (.block 1 (.seq (.reg [⟨.t 12, none, .mv, [.l 0]⟩, ⟨.t 13, none, .call (N k_strings_Cut), [.t 12, .c (.s [10])]⟩, ⟨.t 11, none, .mv, [.t 13]⟩, ⟨.t 14, none, .ext 0, [.t 11]⟩, ⟨.t 15, none, .ext 1, [.t 11]⟩, ⟨.t 16, none, .ext 2, [.t 11]⟩, ⟨.l 4, none, .mv, [.t 14]⟩, ⟨.l 5, none, .mv, [.t 15]⟩, ⟨.l 6, none, .mv, [.t 16]⟩]) (.seq (.reg [⟨.t 18, none, .mv, [.l 4]⟩, ⟨.t 19, none, .call (N k_trace_event), [.t 18]⟩, ⟨.t 17, none, .mv, [.t 19]⟩, ⟨.t 20, none, .ext 0, [.t 17]⟩, ⟨.t 21, none, .ext 1, [.t 17]⟩, ⟨.l 7, none, .alloc [.i .i64 0, .i .i64 0, .i .i64 0, .i .i64 0, .i .i64 0, .i .i64 0], []⟩, ⟨.no, none, .st 6, [.l 7, .t 20]⟩, ⟨.l 8, none, .mv, [.t 21]⟩]) (.seq (.seq (.reg [⟨.t 22, none, .mv, [.l 8]⟩, ⟨.t 23, none, .un .not, [.t 22]⟩, ⟨.t 24, none, .mv, [.t 23]⟩, ⟨.t 25, some (.t 24, false), .mv, [.l 6]⟩, ⟨.t 26, some (.t 24, false), .un .not, [.t 25]⟩, ⟨.t 27, none, .pick, [.t 24, .c (.b true), .t 26]⟩]) (.cond (.t 27) (.seq (.reg [⟨.l 2, none, .mv, [.c (.sl none 0 0 0)]⟩, ⟨.l 3, none, .mv, [.c (.i .i64 2)]⟩]) .ret) .skip)) (.reg [⟨.t 28, none, .mv, [.l 2]⟩, ⟨.t 29, none, .ld (some 6), [.l 7]⟩, ⟨.t 30, none, .bslice [.i .i64 0, .i .i64 0, .i .i64 0, .i .i64 0, .i .i64 0, .i .i64 0] 1 6 [0], [.t 29]⟩, ⟨.t 31, none, .app 6 48, [.t 28, .t 30]⟩, ⟨.t 32, none, .mv, [.l 5]⟩, ⟨.l 2, none, .mv, [.t 31]⟩, ⟨.l 0, none, .mv, [.t 32]⟩]))))))
noncomputable def D_trace_Parse_6 (F : TF) (N : TN) (Q : TQ) (k1 : TK) (l : Env) (L : Lg) : Prop :=
 wpOp F (.sbin .neq) [(l 0), (.s [])] L fun v1 L1 =>
 condW v1
 (CallL F (N k_strings_Cut) [(l 0), (.s [10])] L1 fun v2 L2 =>
 wpOp F (.ext 0) [v2] L2 fun v3 L3 =>
 wpOp F (.ext 1) [v2] L3 fun v4 L4 =>
 wpOp F (.ext 2) [v2] L4 fun v5 L5 =>
 CallL F (N k_trace_event) [v3] L5 fun v6 L6 =>
 wpOp F (.ext 0) [v6] L6 fun v7 L7 =>
 wpOp F (.ext 1) [v6] L7 fun v8 L8 =>
 wpOp F (.alloc [.i .i64 0, .i .i64 0, .i .i64 0, .i .i64 0, .i .i64 0, .i .i64 0]) [] L8 fun v9 L9 =>
 wpOp F (.st 6) [v9, v7] L9 fun _ L10 =>
 wpOp F (.un .not) [v8] L10 fun v11 L11 =>
 gdOp F v11 false .mv [v5] L11 fun v12 L12 =>
 gdOp F v11 false (.un .not) [v12] L12 fun v13 L13 =>
 wpOp F .pick [v11, (.b true), v13] L13 fun v14 L14 =>
 condW v14
 (fin1 (some (.tup [(.sl none 0 0 0), (.i .i64 2)])) Q L14)
 (wpOp F (.ld (some 6)) [v9] L14 fun v15 L15 =>
 wpOp F (.bslice [.i .i64 0, .i .i64 0, .i .i64 0, .i .i64 0, .i .i64 0, .i .i64 0] 1 6 [0]) [v15] L15 fun v16 L16 =>
 wpOp F (.app 6 48) [(l 2), v16] L16 fun v17 L17 =>
 k1 (Env.put (Env.put (Env.put (Env.put (Env.put (Env.put (Env.put l 4 v3) 5 v4) 6 v5) 7 v9) 8 v8) 2 v17) 0 v4) L17))
 (D_trace_Parse_3 F N Q (l 2) L1)
theorem e_trace_Parse_6 (F : TF) (N : TN) (Q : TQ) (k1 : TK) (l t : Env) (L : Lg) : wp F (q_trace_Parse_6 N) l t L (fun (l _ : Env) (L : Lg) => k1 l L) (y_trace_Parse_4 F N Q) (fin [.tmp (.l 2), .tmp (.l 3)] Q) = D_trace_Parse_6 F N Q k1 l L := by kernel_rfl
def q_trace_Parse_5 (N : TN) : ACode := (.loop (q_trace_Parse_6 N))
noncomputable def D_trace_Parse_5 (F : TF) (N : TN) (Q : TQ) (l : Env) (L : Lg) : Prop :=
 loopW (fun l t L k1 => D_trace_Parse_6 F N Q k1 l L) l L
theorem e_trace_Parse_5 (F : TF) (N : TN) (Q : TQ) (l t : Env) (L : Lg) : wp F (q_trace_Parse_5 N) l t L (fun (l t : Env) (L : Lg) => D_trace_Parse_3 F N Q (l 2) L) (y_trace_Parse_4 F N Q) (fin [.tmp (.l 2), .tmp (.l 3)] Q) = D_trace_Parse_5 F N Q l L := wpL (fun l t L k1 => e_trace_Parse_6 F N Q k1 l t L) (by kernel_rfl)
def q_trace_Parse_4 (N : TN) : ACode := (.block 0 (q_trace_Parse_5 N))
theorem e_trace_Parse_4 (F : TF) (N : TN) (Q : TQ) (l t : Env) (L : Lg) : wp F (q_trace_Parse_4 N) l t L (fun (l t : Env) (L : Lg) => D_trace_Parse_3 F N Q (l 2) L) nE (fin [.tmp (.l 2), .tmp (.l 3)] Q) = D_trace_Parse_5 F N Q l L := wpB (e_trace_Parse_5 F N Q l t L)
def q_trace_Parse_2 (N : TN) : ACode := (.seq (q_trace_Parse_4 N) (q_trace_Parse_3 N))
theorem e_trace_Parse_2 (F : TF) (N : TN) (Q : TQ) (l t : Env) (L : Lg) : wp F (q_trace_Parse_2 N) l t L (fin [.tmp (.l 2), .tmp (.l 3)] Q) nE (fin [.tmp (.l 2), .tmp (.l 3)] Q) = D_trace_Parse_5 F N Q l L := wpS (e_trace_Parse_3 F N Q) (e_trace_Parse_4 F N Q l t L)
def q_trace_Parse_1a (N : TN) : ACode := (.reg [⟨.l 2, none, .mv, [.c (.sl none 0 0 0)]⟩, ⟨.l 3, none, .mv, [.c (.i .i64 0)]⟩])
def q_trace_Parse_1 (N : TN) : ACode := (.seq (q_trace_Parse_1a N) (q_trace_Parse_2 N))
noncomputable def D_trace_Parse_1 (F : TF) (N : TN) (Q : TQ) (l : Env) (L : Lg) : Prop :=
 D_trace_Parse_5 F N Q (Env.put (Env.put l 2 (.sl none 0 0 0)) 3 (.i .i64 0)) L
theorem e_trace_Parse_1 (F : TF) (N : TN) (Q : TQ) (l t : Env) (L : Lg) : wp F (q_trace_Parse_1 N) l t L (fin [.tmp (.l 2), .tmp (.l 3)] Q) nE (fin [.tmp (.l 2), .tmp (.l 3)] Q) = D_trace_Parse_1 F N Q l L := wpS (e_trace_Parse_2 F N Q) (by kernel_rfl)
/-- tarpaulin/trace.Parse -/
def c_trace_Parse (N : TN) : AFn := ⟨q_trace_Parse_1 N, [.tmp (.l 2), .tmp (.l 3)]⟩
structure H_trace_Parse (N : TN) (F : TF) : Prop where
  code : F (N k_trace_Parse) = some (c_trace_Parse N)
  trace_event : H_trace_event N F
theorem r_trace_Parse {F : TF} {N : TN} (h : F (N k_trace_Parse) = some (c_trace_Parse N)) {Q : TQ} {a0 : AV} {L : Lg} (e : D_trace_Parse_1 F N Q (initE [a0] 0) L) : CallL F (N k_trace_Parse) [a0] L Q :=
  CallL.of_wp h (Eq.mpr (Eq.trans (e_trace_Parse_1 F N Q (initE [a0] 0) Env.nil L) (by kernel_rfl : _ = D_trace_Parse_1 F N Q (initE [a0] 0) L)) e)
def q_trace_First_4 (N : TN) : ACode := (.seq (.seq (.reg [⟨.t 27, none, .mv, [.l 0]⟩, ⟨.t 28, none, .lenSl, [.t 27]⟩, ⟨.t 29, none, .mv, [.l 1]⟩, ⟨.t 30, none, .lenSl, [.t 29]⟩, ⟨.t 31, none, .bin .eql, [.t 28, .t 30]⟩]) (.cond (.t 31) (.seq (.reg [⟨.l 4, none, .mv, [.c (.i .i64 (-1))]⟩]) .ret) .skip)) (.seq (.reg [⟨.t 32, none, .mv, [.l 5]⟩, ⟨.l 4, none, .mv, [.t 32]⟩]) .ret))
noncomputable def D_trace_First_4 (F : TF) (N : TN) (Q : TQ) (x0 : AV) (x1 : AV) (x5 : AV) (L : Lg) : Prop :=
 wpOp F .lenSl [x0] L fun v1 L1 =>
 wpOp F .lenSl [x1] L1 fun v2 L2 =>
 wpOp F (.bin .eql) [v1, v2] L2 fun v3 L3 =>
 condW v3
 (fin1 (some (.i .i64 (-1))) Q L3)
 (fin1 (some x5) Q L3)
theorem e_trace_First_4 (F : TF) (N : TN) (Q : TQ) (l t : Env) (L : Lg) : wp F (q_trace_First_4 N) l t L (fin [.tmp (.l 4)] Q) nE (fin [.tmp (.l 4)] Q) = D_trace_First_4 F N Q (l 0) (l 1) (l 5) L := by kernel_rfl
def w_trace_First_3 (F : TF) (N : TN) (Q : TQ) : Kn := (fun (l t : Env) (L : Lg) => D_trace_First_4 F N Q (l 0) (l 1) (l 5) L)
def y_trace_First_6 (F : TF) (N : TN) (Q : TQ) : Nat → Kn := (fun (j : Nat) (l t : Env) (L : Lg) => bif Nat.beq j 0 then (w_trace_First_3 F N Q) l t L else nE j l t L)
def q_trace_First_8 (N : TN) : ACode := (.seq (.reg [⟨.t 14, none, .bin .lss, [.l 13, .l 12]⟩]) (.seq (.cond (.t 14) .skip (.exit 0)) (.seq (.block 1 (.seq (.reg [⟨.t 15, none, .mv, [.l 13]⟩, ⟨.l 6, none, .mv, [.t 15]⟩]) (.seq (.reg [⟨.t 16, none, .mv, [.l 0]⟩, ⟨.t 17, none, .mv, [.l 6]⟩, ⟨.t 18, none, .iad 6, [.t 16, .t 17]⟩, ⟨.t 19, none, .ld (some 6), [.t 18]⟩, ⟨.t 20, none, .mv, [.l 1]⟩, ⟨.t 21, none, .mv, [.l 6]⟩, ⟨.t 22, none, .iad 6, [.t 20, .t 21]⟩, ⟨.t 23, none, .ld (some 6), [.t 22]⟩, ⟨.t 24, none, .eq true (.agg [(0, 1), (1, 1), (2, 1), (3, 1), (4, 1), (5, 1)]), [.t 19, .t 23]⟩]) (.cond (.t 24) (.seq (.reg [⟨.t 25, none, .mv, [.l 6]⟩, ⟨.l 4, none, .mv, [.t 25]⟩]) .ret) .skip)))) (.reg [⟨.t 26, none, .bin .add, [.l 13, .c (.i .i64 1)]⟩, ⟨.l 13, none, .mv, [.t 26]⟩]))))
noncomputable def D_trace_First_8 (F : TF) (N : TN) (Q : TQ) (k1 : TK) (l : Env) (L : Lg) : Prop :=
 wpOp F (.bin .lss) [(l 13), (l 12)] L fun v1 L1 =>
 condW v1
 (wpOp F (.iad 6) [(l 0), (l 13)] L1 fun v2 L2 =>
 wpOp F (.ld (some 6)) [v2] L2 fun v3 L3 =>
 wpOp F (.iad 6) [(l 1), (l 13)] L3 fun v4 L4 =>
 wpOp F (.ld (some 6)) [v4] L4 fun v5 L5 =>
 wpOp F (.eq true (.agg [(0, 1), (1, 1), (2, 1), (3, 1), (4, 1), (5, 1)])) [v3, v5] L5 fun v6 L6 =>
 condW v6
 (fin1 (some (l 13)) Q L6)
 (wpOp F (.bin .add) [(l 13), (.i .i64 1)] L6 fun v7 L7 =>
 k1 (Env.put (Env.put l 6 (l 13)) 13 v7) L7))
 (D_trace_First_4 F N Q (l 0) (l 1) (l 5) L1)
theorem e_trace_First_8 (F : TF) (N : TN) (Q : TQ) (k1 : TK) (l t : Env) (L : Lg) : wp F (q_trace_First_8 N) l t L (fun (l _ : Env) (L : Lg) => k1 l L) (y_trace_First_6 F N Q) (fin [.tmp (.l 4)] Q) = D_trace_First_8 F N Q k1 l L := by kernel_rfl
def q_trace_First_7 (N : TN) : ACode := (.loop (q_trace_First_8 N))
noncomputable def D_trace_First_7 (F : TF) (N : TN) (Q : TQ) (l : Env) (L : Lg) : Prop :=
 loopW (fun l t L k1 => D_trace_First_8 F N Q k1 l L) l L
theorem e_trace_First_7 (F : TF) (N : TN) (Q : TQ) (l t : Env) (L : Lg) : wp F (q_trace_First_7 N) l t L (w_trace_First_3 F N Q) (y_trace_First_6 F N Q) (fin [.tmp (.l 4)] Q) = D_trace_First_7 F N Q l L := wpL (fun l t L k1 => e_trace_First_8 F N Q k1 l t L) (by kernel_rfl)
def q_trace_First_6 (N : TN) : ACode := (.block 0 (q_trace_First_7 N))
theorem e_trace_First_6 (F : TF) (N : TN) (Q : TQ) (l t : Env) (L : Lg) : wp F (q_trace_First_6 N) l t L (w_trace_First_3 F N Q) nE (fin [.tmp (.l 4)] Q) = D_trace_First_7 F N Q l L := wpB (e_trace_First_7 F N Q l t L)
def q_trace_First_5a (N : TN) : ACode := (.reg [⟨.l 12, none, .mv, [.l 5]⟩, ⟨.l 13, none, .mv, [.c (.i .i64 0)]⟩])
def q_trace_First_5 (N : TN) : ACode := (.seq (q_trace_First_5a N) (q_trace_First_6 N))
noncomputable def D_trace_First_5 (F : TF) (N : TN) (Q : TQ) (l : Env) (L : Lg) : Prop :=
 D_trace_First_7 F N Q (Env.put (Env.put l 12 (l 5)) 13 (.i .i64 0)) L
theorem e_trace_First_5 (F : TF) (N : TN) (Q : TQ) (l t : Env) (L : Lg) : wp F (q_trace_First_5 N) l t L (w_trace_First_3 F N Q) nE (fin [.tmp (.l 4)] Q) = D_trace_First_5 F N Q l L := wpS (e_trace_First_6 F N Q) (by kernel_rfl)
def q_trace_First_3 (N : TN) : ACode := (.seq (q_trace_First_5 N) (q_trace_First_4 N))
theorem e_trace_First_3 (F : TF) (N : TN) (Q : TQ) (l t : Env) (L : Lg) : wp F (q_trace_First_3 N) l t L (fin [.tmp (.l 4)] Q) nE (fin [.tmp (.l 4)] Q) = D_trace_First_5 F N Q l L := wpS (e_trace_First_4 F N Q) (e_trace_First_5 F N Q l t L)
def q_trace_First_2a (N : TN) : ACode := (.reg [⟨.t 7, none, .mv, [.l 0]⟩, ⟨.t 8, none, .lenSl, [.t 7]⟩, ⟨.t 9, none, .mv, [.l 1]⟩, ⟨.t 10, none, .lenSl, [.t 9]⟩, ⟨.t 11, none, .min, [.t 8, .t 10]⟩, ⟨.l 5, none, .mv, [.t 11]⟩])
def q_trace_First_2 (N : TN) : ACode := (.seq (q_trace_First_2a N) (q_trace_First_3 N))
noncomputable def D_trace_First_2 (F : TF) (N : TN) (Q : TQ) (l : Env) (L : Lg) : Prop :=
 wpOp F .lenSl [(l 0)] L fun v1 L1 =>
 wpOp F .lenSl [(l 1)] L1 fun v2 L2 =>
 wpOp F .min [v1, v2] L2 fun v3 L3 =>
 D_trace_First_5 F N Q (Env.put l 5 v3) L3
theorem e_trace_First_2 (F : TF) (N : TN) (Q : TQ) (l t : Env) (L : Lg) : wp F (q_trace_First_2 N) l t L (fin [.tmp (.l 4)] Q) nE (fin [.tmp (.l 4)] Q) = D_trace_First_2 F N Q l L := wpS (e_trace_First_3 F N Q) (by kernel_rfl)
def q_trace_First_1a (N : TN) : ACode := (.reg [⟨.l 4, none, .mv, [.c (.i .i64 0)]⟩])
def q_trace_First_1 (N : TN) : ACode := (.seq (q_trace_First_1a N) (q_trace_First_2 N))
noncomputable def D_trace_First_1 (F : TF) (N : TN) (Q : TQ) (l : Env) (L : Lg) : Prop :=
 D_trace_First_2 F N Q (Env.put l 4 (.i .i64 0)) L
theorem e_trace_First_1 (F : TF) (N : TN) (Q : TQ) (l t : Env) (L : Lg) : wp F (q_trace_First_1 N) l t L (fin [.tmp (.l 4)] Q) nE (fin [.tmp (.l 4)] Q) = D_trace_First_1 F N Q l L := wpS (e_trace_First_2 F N Q) (by kernel_rfl)
/-- tarpaulin/trace.First -/
def c_trace_First (N : TN) : AFn := ⟨q_trace_First_1 N, [.tmp (.l 4)]⟩
structure H_trace_First (N : TN) (F : TF) : Prop where
  code : F (N k_trace_First) = some (c_trace_First N)
theorem r_trace_First {F : TF} {N : TN} (h : F (N k_trace_First) = some (c_trace_First N)) {Q : TQ} {a0 a1 : AV} {L : Lg} (e : D_trace_First_1 F N Q (initE [a0, a1] 0) L) : CallL F (N k_trace_First) [a0, a1] L Q :=
  CallL.of_wp h (Eq.mpr (Eq.trans (e_trace_First_1 F N Q (initE [a0, a1] 0) Env.nil L) (by kernel_rfl : _ = D_trace_First_1 F N Q (initE [a0, a1] 0) L)) e)
def q_tarpaulinlaw21_awake_5 (N : TN) : ACode := (.seq (.reg [⟨.t 15, none, .ld (some 6), [.l 1]⟩, ⟨.t 16, none, .call (N k_trace_Line), [.t 15]⟩, ⟨.t 17, none, .sbin .eql, [.t 16, .c (.s [51, 32, 116, 111, 108, 100, 32, 48, 32, 55, 32, 48, 32, 48])]⟩, ⟨.t 18, none, .mv, [.t 17]⟩, ⟨.t 19, some (.t 18, true), .mv, [.l 3]⟩, ⟨.t 20, some (.t 18, true), .bin .eql, [.t 19, .c (.i .i64 0)]⟩, ⟨.t 21, none, .pick, [.t 18, .t 20, .c (.b false)]⟩, ⟨.t 22, none, .mv, [.t 21]⟩, ⟨.t 23, some (.t 22, true), .mv, [.l 2]⟩, ⟨.t 24, some (.t 22, true), .lenSl, [.t 23]⟩, ⟨.t 25, some (.t 22, true), .bin .eql, [.t 24, .c (.i .i64 1)]⟩, ⟨.t 26, none, .pick, [.t 22, .t 25, .c (.b false)]⟩, ⟨.t 27, none, .mv, [.t 26]⟩, ⟨.t 28, some (.t 27, true), .mv, [.l 2]⟩, ⟨.t 29, some (.t 27, true), .iad 6, [.t 28, .c (.i .i64 0)]⟩, ⟨.t 30, some (.t 27, true), .ld (some 6), [.t 29]⟩, ⟨.t 31, some (.t 27, true), .ld (some 6), [.l 1]⟩, ⟨.t 32, some (.t 27, true), .eq false (.agg [(0, 1), (1, 1), (2, 1), (3, 1), (4, 1), (5, 1)]), [.t 30, .t 31]⟩, ⟨.t 33, none, .pick, [.t 27, .t 32, .c (.b false)]⟩, ⟨.t 34, none, .mv, [.t 33]⟩, ⟨.t 35, some (.t 34, true), .mv, [.l 5]⟩, ⟨.t 36, some (.t 34, true), .bin .eql, [.t 35, .c (.i .i64 2)]⟩, ⟨.t 37, none, .pick, [.t 34, .t 36, .c (.b false)]⟩, ⟨.t 38, none, .mv, [.t 37]⟩, ⟨.t 39, some (.t 38, true), .mv, [.l 2]⟩, ⟨.t 40, some (.t 38, true), .call (N k_trace_First), [.t 39, .c (.sl none 0 0 0)]⟩, ⟨.t 41, some (.t 38, true), .bin .eql, [.t 40, .c (.i .i64 0)]⟩, ⟨.t 42, none, .pick, [.t 38, .t 41, .c (.b false)]⟩, ⟨.t 43, none, .mv, [.t 42]⟩, ⟨.t 44, some (.t 43, true), .mv, [.l 2]⟩, ⟨.t 45, some (.t 43, true), .mv, [.l 2]⟩, ⟨.t 46, some (.t 43, true), .call (N k_trace_First), [.t 44, .t 45]⟩, ⟨.t 47, some (.t 43, true), .bin .eql, [.t 46, .c (.i .i64 (-1))]⟩, ⟨.t 48, none, .pick, [.t 43, .t 47, .c (.b false)]⟩, ⟨.t 49, none, .mv, [.t 48]⟩, ⟨.t 50, some (.t 49, true), .mv, [.l 2]⟩, ⟨.t 51, some (.t 49, true), .call (N k_trace_Text), [.t 50]⟩, ⟨.t 52, some (.t 49, true), .sbin .eql, [.t 51, .c (.s [51, 32, 116, 111, 108, 100, 32, 48, 32, 55, 32, 48, 32, 48, 10])]⟩, ⟨.t 53, none, .pick, [.t 49, .t 52, .c (.b false)]⟩, ⟨.l 0, none, .mv, [.t 53]⟩]) .ret)
noncomputable def D_tarpaulinlaw21_awake_5 (F : TF) (N : TN) (Q : TQ) (x1 : AV) (x2 : AV) (x3 : AV) (x5 : AV) (L : Lg) : Prop :=
 wpOp F (.ld (some 6)) [x1] L fun v1 L1 =>
 CallL F (N k_trace_Line) [v1] L1 fun v2 L2 =>
 wpOp F (.sbin .eql) [v2, (.s [51, 32, 116, 111, 108, 100, 32, 48, 32, 55, 32, 48, 32, 48])] L2 fun v3 L3 =>
 gdOp F v3 true .mv [x3] L3 fun v4 L4 =>
 gdOp F v3 true (.bin .eql) [v4, (.i .i64 0)] L4 fun v5 L5 =>
 wpOp F .pick [v3, v5, (.b false)] L5 fun v6 L6 =>
 gdOp F v6 true .mv [x2] L6 fun v7 L7 =>
 gdOp F v6 true .lenSl [v7] L7 fun v8 L8 =>
 gdOp F v6 true (.bin .eql) [v8, (.i .i64 1)] L8 fun v9 L9 =>
 wpOp F .pick [v6, v9, (.b false)] L9 fun v10 L10 =>
 gdOp F v10 true .mv [x2] L10 fun v11 L11 =>
 gdOp F v10 true (.iad 6) [v11, (.i .i64 0)] L11 fun v12 L12 =>
 gdOp F v10 true (.ld (some 6)) [v12] L12 fun v13 L13 =>
 gdOp F v10 true (.ld (some 6)) [x1] L13 fun v14 L14 =>
 gdOp F v10 true (.eq false (.agg [(0, 1), (1, 1), (2, 1), (3, 1), (4, 1), (5, 1)])) [v13, v14] L14 fun v15 L15 =>
 wpOp F .pick [v10, v15, (.b false)] L15 fun v16 L16 =>
 gdOp F v16 true .mv [x5] L16 fun v17 L17 =>
 gdOp F v16 true (.bin .eql) [v17, (.i .i64 2)] L17 fun v18 L18 =>
 wpOp F .pick [v16, v18, (.b false)] L18 fun v19 L19 =>
 gdOp F v19 true .mv [x2] L19 fun v20 L20 =>
 gdOp F v19 true (.call (N k_trace_First)) [v20, (.sl none 0 0 0)] L20 fun v21 L21 =>
 gdOp F v19 true (.bin .eql) [v21, (.i .i64 0)] L21 fun v22 L22 =>
 wpOp F .pick [v19, v22, (.b false)] L22 fun v23 L23 =>
 gdOp F v23 true .mv [x2] L23 fun v24 L24 =>
 gdOp F v23 true .mv [x2] L24 fun v25 L25 =>
 gdOp F v23 true (.call (N k_trace_First)) [v24, v25] L25 fun v26 L26 =>
 gdOp F v23 true (.bin .eql) [v26, (.i .i64 (-1))] L26 fun v27 L27 =>
 wpOp F .pick [v23, v27, (.b false)] L27 fun v28 L28 =>
 gdOp F v28 true .mv [x2] L28 fun v29 L29 =>
 gdOp F v28 true (.call (N k_trace_Text)) [v29] L29 fun v30 L30 =>
 gdOp F v28 true (.sbin .eql) [v30, (.s [51, 32, 116, 111, 108, 100, 32, 48, 32, 55, 32, 48, 32, 48, 10])] L30 fun v31 L31 =>
 wpOp F .pick [v28, v31, (.b false)] L31 fun v32 L32 =>
 fin1 (some v32) Q L32
theorem e_tarpaulinlaw21_awake_5 (F : TF) (N : TN) (Q : TQ) (l t : Env) (L : Lg) : wp F (q_tarpaulinlaw21_awake_5 N) l t L (fin [.tmp (.l 0)] Q) nE (fin [.tmp (.l 0)] Q) = D_tarpaulinlaw21_awake_5 F N Q (l 1) (l 2) (l 3) (l 5) L := by kernel_rfl
def q_tarpaulinlaw21_awake_4a (N : TN) : ACode := (.reg [⟨.t 12, none, .call (N k_trace_Parse), [.c (.s [51, 32, 116, 111, 108, 100, 32, 48, 32, 55, 32, 48, 32, 48])]⟩, ⟨.t 11, none, .mv, [.t 12]⟩, ⟨.t 13, none, .ext 0, [.t 11]⟩, ⟨.t 14, none, .ext 1, [.t 11]⟩, ⟨.t 4, none, .mv, [.t 13]⟩, ⟨.l 5, none, .mv, [.t 14]⟩])
def q_tarpaulinlaw21_awake_4 (N : TN) : ACode := (.seq (q_tarpaulinlaw21_awake_4a N) (q_tarpaulinlaw21_awake_5 N))
noncomputable def D_tarpaulinlaw21_awake_4 (F : TF) (N : TN) (Q : TQ) (x1 : AV) (x2 : AV) (x3 : AV) (L : Lg) : Prop :=
 CallL F (N k_trace_Parse) [(.s [51, 32, 116, 111, 108, 100, 32, 48, 32, 55, 32, 48, 32, 48])] L fun v1 L1 =>
 wpOp F (.ext 0) [v1] L1 fun v2 L2 =>
 wpOp F (.ext 1) [v1] L2 fun v3 L3 =>
 D_tarpaulinlaw21_awake_5 F N Q x1 x2 x3 v3 L3
theorem e_tarpaulinlaw21_awake_4 (F : TF) (N : TN) (Q : TQ) (l t : Env) (L : Lg) : wp F (q_tarpaulinlaw21_awake_4 N) l t L (fin [.tmp (.l 0)] Q) nE (fin [.tmp (.l 0)] Q) = D_tarpaulinlaw21_awake_4 F N Q (l 1) (l 2) (l 3) L := wpS (e_tarpaulinlaw21_awake_5 F N Q) (by kernel_rfl)
def q_tarpaulinlaw21_awake_3a (N : TN) : ACode := (.reg [⟨.t 8, none, .call (N k_trace_Parse), [.c (.s [51, 32, 116, 111, 108, 100, 32, 48, 32, 55, 32, 48, 32, 48, 10])]⟩, ⟨.t 7, none, .mv, [.t 8]⟩, ⟨.t 9, none, .ext 0, [.t 7]⟩, ⟨.t 10, none, .ext 1, [.t 7]⟩, ⟨.l 2, none, .mv, [.t 9]⟩, ⟨.l 3, none, .mv, [.t 10]⟩])
def q_tarpaulinlaw21_awake_3 (N : TN) : ACode := (.seq (q_tarpaulinlaw21_awake_3a N) (q_tarpaulinlaw21_awake_4 N))
noncomputable def D_tarpaulinlaw21_awake_3 (F : TF) (N : TN) (Q : TQ) (x1 : AV) (L : Lg) : Prop :=
 CallL F (N k_trace_Parse) [(.s [51, 32, 116, 111, 108, 100, 32, 48, 32, 55, 32, 48, 32, 48, 10])] L fun v1 L1 =>
 wpOp F (.ext 0) [v1] L1 fun v2 L2 =>
 wpOp F (.ext 1) [v1] L2 fun v3 L3 =>
 D_tarpaulinlaw21_awake_4 F N Q x1 v2 v3 L3
theorem e_tarpaulinlaw21_awake_3 (F : TF) (N : TN) (Q : TQ) (l t : Env) (L : Lg) : wp F (q_tarpaulinlaw21_awake_3 N) l t L (fin [.tmp (.l 0)] Q) nE (fin [.tmp (.l 0)] Q) = D_tarpaulinlaw21_awake_3 F N Q (l 1) L := wpS (e_tarpaulinlaw21_awake_4 F N Q) (by kernel_rfl)
def q_tarpaulinlaw21_awake_2a (N : TN) : ACode := (.reg [⟨.t 6, none, .build [.i .i64 0, .i .i64 0, .i .i64 0, .i .i64 0, .i .i64 0, .i .i64 0] [(0, 1), (1, 1), (3, 1)], [.c (.i .i64 3), .c (.i .i64 1), .c (.i .i64 7)]⟩, ⟨.l 1, none, .alloc [.i .i64 0, .i .i64 0, .i .i64 0, .i .i64 0, .i .i64 0, .i .i64 0], []⟩, ⟨.no, none, .st 6, [.l 1, .t 6]⟩])
def q_tarpaulinlaw21_awake_2 (N : TN) : ACode := (.seq (q_tarpaulinlaw21_awake_2a N) (q_tarpaulinlaw21_awake_3 N))
noncomputable def D_tarpaulinlaw21_awake_2 (F : TF) (N : TN) (Q : TQ) (L : Lg) : Prop :=
 wpOp F (.build [.i .i64 0, .i .i64 0, .i .i64 0, .i .i64 0, .i .i64 0, .i .i64 0] [(0, 1), (1, 1), (3, 1)]) [(.i .i64 3), (.i .i64 1), (.i .i64 7)] L fun v1 L1 =>
 wpOp F (.alloc [.i .i64 0, .i .i64 0, .i .i64 0, .i .i64 0, .i .i64 0, .i .i64 0]) [] L1 fun v2 L2 =>
 wpOp F (.st 6) [v2, v1] L2 fun _ L3 =>
 D_tarpaulinlaw21_awake_3 F N Q v2 L3
theorem e_tarpaulinlaw21_awake_2 (F : TF) (N : TN) (Q : TQ) (l t : Env) (L : Lg) : wp F (q_tarpaulinlaw21_awake_2 N) l t L (fin [.tmp (.l 0)] Q) nE (fin [.tmp (.l 0)] Q) = D_tarpaulinlaw21_awake_2 F N Q L := wpS (e_tarpaulinlaw21_awake_3 F N Q) (by kernel_rfl)
def q_tarpaulinlaw21_awake_1a (N : TN) : ACode := (.reg [⟨.l 0, none, .mv, [.c (.b false)]⟩])
def q_tarpaulinlaw21_awake_1 (N : TN) : ACode := (.seq (q_tarpaulinlaw21_awake_1a N) (q_tarpaulinlaw21_awake_2 N))
noncomputable def D_tarpaulinlaw21_awake_1 (F : TF) (N : TN) (Q : TQ) (L : Lg) : Prop :=
 D_tarpaulinlaw21_awake_2 F N Q L
theorem e_tarpaulinlaw21_awake_1 (F : TF) (N : TN) (Q : TQ) (l t : Env) (L : Lg) : wp F (q_tarpaulinlaw21_awake_1 N) l t L (fin [.tmp (.l 0)] Q) nE (fin [.tmp (.l 0)] Q) = D_tarpaulinlaw21_awake_1 F N Q L := wpS (e_tarpaulinlaw21_awake_2 F N Q) (by kernel_rfl)
/-- tarpaulin/tarpaulinlaw21.awake -/
def c_tarpaulinlaw21_awake (N : TN) : AFn := ⟨q_tarpaulinlaw21_awake_1 N, [.tmp (.l 0)]⟩
structure H_tarpaulinlaw21_awake (N : TN) (F : TF) : Prop where
  code : F (N k_tarpaulinlaw21_awake) = some (c_tarpaulinlaw21_awake N)
  trace_Parse : H_trace_Parse N F
  trace_Line : H_trace_Line N F
  trace_First : H_trace_First N F
theorem r_tarpaulinlaw21_awake {F : TF} {N : TN} (h : F (N k_tarpaulinlaw21_awake) = some (c_tarpaulinlaw21_awake N)) {Q : TQ} {L : Lg} (e : D_tarpaulinlaw21_awake_1 F N Q L) : CallL F (N k_tarpaulinlaw21_awake) [] L Q :=
  CallL.of_wp h (Eq.mpr (Eq.trans (e_tarpaulinlaw21_awake_1 F N Q (initE [] 0) Env.nil L) (by kernel_rfl : _ = D_tarpaulinlaw21_awake_1 F N Q L)) e)
def q_tarpaulinref17_decimal_7 (N : TN) : ACode := (.seq (.reg [⟨.t 28, none, .mv, [.l 4]⟩, ⟨.t 29, none, .mv, [.l 5]⟩, ⟨.t 30, none, .sbin .add, [.t 28, .t 29]⟩, ⟨.l 2, none, .mv, [.t 30]⟩]) .ret)
noncomputable def D_tarpaulinref17_decimal_7 (F : TF) (N : TN) (Q : TQ) (x4 : AV) (x5 : AV) (L : Lg) : Prop :=
 wpOp F (.sbin .add) [x4, x5] L fun v1 L1 =>
 fin1 (some v1) Q L1
theorem e_tarpaulinref17_decimal_7 (F : TF) (N : TN) (Q : TQ) (l t : Env) (L : Lg) : wp F (q_tarpaulinref17_decimal_7 N) l t L (fin [.tmp (.l 2)] Q) nE (fin [.tmp (.l 2)] Q) = D_tarpaulinref17_decimal_7 F N Q (l 4) (l 5) L := by kernel_rfl
def w_tarpaulinref17_decimal_6 (F : TF) (N : TN) (Q : TQ) : Kn := (fun (l t : Env) (L : Lg) => D_tarpaulinref17_decimal_7 F N Q (l 4) (l 5) L)
def y_tarpaulinref17_decimal_8 (F : TF) (N : TN) (Q : TQ) : Nat → Kn := (fun (j : Nat) (l t : Env) (L : Lg) => bif Nat.beq j 0 then (w_tarpaulinref17_decimal_6 F N Q) l t L else nE j l t L)
def q_tarpaulinref17_decimal_10 (N : TN) : ACode := (.seq (.seq (.reg [⟨.t 12, none, .mv, [.l 3]⟩, ⟨.t 13, none, .bin .gtr, [.t 12, .c (.i .u64 0)]⟩, ⟨.t 14, none, .mv, [.t 13]⟩, ⟨.t 15, some (.t 14, false), .mv, [.l 5]⟩, ⟨.t 16, some (.t 14, false), .sbin .eql, [.t 15, .c (.s [])]⟩, ⟨.t 17, none, .pick, [.t 14, .c (.b true), .t 16]⟩]) (.cond (.t 17) .skip (.exit 0))) (.block 1 (.seq (.reg [⟨.t 18, none, .mv, [.l 3]⟩, ⟨.t 19, none, .bin .rem, [.t 18, .c (.i .u64 10)]⟩, ⟨.t 20, none, .bin .add, [.c (.i .u64 48), .t 19]⟩, ⟨.t 21, none, .cvtI .u8, [.t 20]⟩, ⟨.t 22, none, .bslice [.i .u8 0] 1 1 [0], [.t 21]⟩, ⟨.t 23, none, .cvtB, [.t 22]⟩, ⟨.t 24, none, .mv, [.l 5]⟩, ⟨.t 25, none, .sbin .add, [.t 23, .t 24]⟩, ⟨.l 5, none, .mv, [.t 25]⟩]) (.reg [⟨.t 26, none, .mv, [.l 3]⟩, ⟨.t 27, none, .bin .quo, [.t 26, .c (.i .u64 10)]⟩, ⟨.l 3, none, .mv, [.t 27]⟩]))))
noncomputable def D_tarpaulinref17_decimal_10 (F : TF) (N : TN) (Q : TQ) (k1 : TK) (l : Env) (L : Lg) : Prop :=
 wpOp F (.bin .gtr) [(l 3), (.i .u64 0)] L fun v1 L1 =>
 gdOp F v1 false .mv [(l 5)] L1 fun v2 L2 =>
 gdOp F v1 false (.sbin .eql) [v2, (.s [])] L2 fun v3 L3 =>
 wpOp F .pick [v1, (.b true), v3] L3 fun v4 L4 =>
 condW v4
 (wpOp F (.bin .rem) [(l 3), (.i .u64 10)] L4 fun v5 L5 =>
 wpOp F (.bin .add) [(.i .u64 48), v5] L5 fun v6 L6 =>
 wpOp F (.cvtI .u8) [v6] L6 fun v7 L7 =>
 wpOp F (.bslice [.i .u8 0] 1 1 [0]) [v7] L7 fun v8 L8 =>
 wpOp F .cvtB [v8] L8 fun v9 L9 =>
 wpOp F (.sbin .add) [v9, (l 5)] L9 fun v10 L10 =>
 wpOp F (.bin .quo) [(l 3), (.i .u64 10)] L10 fun v11 L11 =>
 k1 (Env.put (Env.put l 5 v10) 3 v11) L11)
 (D_tarpaulinref17_decimal_7 F N Q (l 4) (l 5) L4)
theorem e_tarpaulinref17_decimal_10 (F : TF) (N : TN) (Q : TQ) (k1 : TK) (l t : Env) (L : Lg) : wp F (q_tarpaulinref17_decimal_10 N) l t L (fun (l _ : Env) (L : Lg) => k1 l L) (y_tarpaulinref17_decimal_8 F N Q) (fin [.tmp (.l 2)] Q) = D_tarpaulinref17_decimal_10 F N Q k1 l L := by kernel_rfl
def q_tarpaulinref17_decimal_9 (N : TN) : ACode := (.loop (q_tarpaulinref17_decimal_10 N))
noncomputable def D_tarpaulinref17_decimal_9 (F : TF) (N : TN) (Q : TQ) (l : Env) (L : Lg) : Prop :=
 loopW (fun l t L k1 => D_tarpaulinref17_decimal_10 F N Q k1 l L) l L
theorem e_tarpaulinref17_decimal_9 (F : TF) (N : TN) (Q : TQ) (l t : Env) (L : Lg) : wp F (q_tarpaulinref17_decimal_9 N) l t L (w_tarpaulinref17_decimal_6 F N Q) (y_tarpaulinref17_decimal_8 F N Q) (fin [.tmp (.l 2)] Q) = D_tarpaulinref17_decimal_9 F N Q l L := wpL (fun l t L k1 => e_tarpaulinref17_decimal_10 F N Q k1 l t L) (by kernel_rfl)
def q_tarpaulinref17_decimal_8 (N : TN) : ACode := (.block 0 (q_tarpaulinref17_decimal_9 N))
theorem e_tarpaulinref17_decimal_8 (F : TF) (N : TN) (Q : TQ) (l t : Env) (L : Lg) : wp F (q_tarpaulinref17_decimal_8 N) l t L (w_tarpaulinref17_decimal_6 F N Q) nE (fin [.tmp (.l 2)] Q) = D_tarpaulinref17_decimal_9 F N Q l L := wpB (e_tarpaulinref17_decimal_9 F N Q l t L)
def q_tarpaulinref17_decimal_6 (N : TN) : ACode := (.seq (q_tarpaulinref17_decimal_8 N) (q_tarpaulinref17_decimal_7 N))
theorem e_tarpaulinref17_decimal_6 (F : TF) (N : TN) (Q : TQ) (l t : Env) (L : Lg) : wp F (q_tarpaulinref17_decimal_6 N) l t L (fin [.tmp (.l 2)] Q) nE (fin [.tmp (.l 2)] Q) = D_tarpaulinref17_decimal_9 F N Q l L := wpS (e_tarpaulinref17_decimal_7 F N Q) (e_tarpaulinref17_decimal_8 F N Q l t L)
def q_tarpaulinref17_decimal_5a (N : TN) : ACode := (.reg [⟨.l 5, none, .mv, [.c (.s [])]⟩])
def q_tarpaulinref17_decimal_5 (N : TN) : ACode := (.seq (q_tarpaulinref17_decimal_5a N) (q_tarpaulinref17_decimal_6 N))
noncomputable def D_tarpaulinref17_decimal_5 (F : TF) (N : TN) (Q : TQ) (l : Env) (L : Lg) : Prop :=
 D_tarpaulinref17_decimal_9 F N Q (Env.put l 5 (.s [])) L
theorem e_tarpaulinref17_decimal_5 (F : TF) (N : TN) (Q : TQ) (l t : Env) (L : Lg) : wp F (q_tarpaulinref17_decimal_5 N) l t L (fin [.tmp (.l 2)] Q) nE (fin [.tmp (.l 2)] Q) = D_tarpaulinref17_decimal_5 F N Q l L := wpS (e_tarpaulinref17_decimal_6 F N Q) (by kernel_rfl)
def q_tarpaulinref17_decimal_4a (N : TN) : ACode := (.seq (.reg [⟨.t 8, none, .mv, [.l 0]⟩, ⟨.t 9, none, .bin .lss, [.t 8, .c (.i .i64 0)]⟩]) (.cond (.t 9) (.seq (.reg [⟨.t 10, none, .mv, [.l 3]⟩, ⟨.t 11, none, .un .neg, [.t 10]⟩, ⟨.l 3, none, .mv, [.t 11]⟩]) (.reg [⟨.l 4, none, .mv, [.c (.s [45])]⟩])) .skip))
def q_tarpaulinref17_decimal_4 (N : TN) : ACode := (.seq (q_tarpaulinref17_decimal_4a N) (q_tarpaulinref17_decimal_5 N))
noncomputable def D_tarpaulinref17_decimal_4 (F : TF) (N : TN) (Q : TQ) (l : Env) (L : Lg) : Prop :=
 wpOp F (.bin .lss) [(l 0), (.i .i64 0)] L fun v1 L1 =>
 condW v1
 (wpOp F (.un .neg) [(l 3)] L1 fun v2 L2 =>
 D_tarpaulinref17_decimal_5 F N Q (Env.put (Env.put l 3 v2) 4 (.s [45])) L2)
 (D_tarpaulinref17_decimal_5 F N Q l L1)
theorem e_tarpaulinref17_decimal_4 (F : TF) (N : TN) (Q : TQ) (l t : Env) (L : Lg) : wp F (q_tarpaulinref17_decimal_4 N) l t L (fin [.tmp (.l 2)] Q) nE (fin [.tmp (.l 2)] Q) = D_tarpaulinref17_decimal_4 F N Q l L := wpS (e_tarpaulinref17_decimal_5 F N Q) (by kernel_rfl)
def q_tarpaulinref17_decimal_3a (N : TN) : ACode := (.reg [⟨.l 4, none, .mv, [.c (.s [])]⟩])
def q_tarpaulinref17_decimal_3 (N : TN) : ACode := (.seq (q_tarpaulinref17_decimal_3a N) (q_tarpaulinref17_decimal_4 N))
noncomputable def D_tarpaulinref17_decimal_3 (F : TF) (N : TN) (Q : TQ) (l : Env) (L : Lg) : Prop :=
 D_tarpaulinref17_decimal_4 F N Q (Env.put l 4 (.s [])) L
theorem e_tarpaulinref17_decimal_3 (F : TF) (N : TN) (Q : TQ) (l t : Env) (L : Lg) : wp F (q_tarpaulinref17_decimal_3 N) l t L (fin [.tmp (.l 2)] Q) nE (fin [.tmp (.l 2)] Q) = D_tarpaulinref17_decimal_3 F N Q l L := wpS (e_tarpaulinref17_decimal_4 F N Q) (by kernel_rfl)
def q_tarpaulinref17_decimal_2a (N : TN) : ACode := (.reg [⟨.t 6, none, .mv, [.l 0]⟩, ⟨.t 7, none, .cvtI .u64, [.t 6]⟩, ⟨.l 3, none, .mv, [.t 7]⟩])
def q_tarpaulinref17_decimal_2 (N : TN) : ACode := (.seq (q_tarpaulinref17_decimal_2a N) (q_tarpaulinref17_decimal_3 N))
noncomputable def D_tarpaulinref17_decimal_2 (F : TF) (N : TN) (Q : TQ) (l : Env) (L : Lg) : Prop :=
 wpOp F (.cvtI .u64) [(l 0)] L fun v1 L1 =>
 D_tarpaulinref17_decimal_3 F N Q (Env.put l 3 v1) L1
theorem e_tarpaulinref17_decimal_2 (F : TF) (N : TN) (Q : TQ) (l t : Env) (L : Lg) : wp F (q_tarpaulinref17_decimal_2 N) l t L (fin [.tmp (.l 2)] Q) nE (fin [.tmp (.l 2)] Q) = D_tarpaulinref17_decimal_2 F N Q l L := wpS (e_tarpaulinref17_decimal_3 F N Q) (by kernel_rfl)
def q_tarpaulinref17_decimal_1a (N : TN) : ACode := (.reg [⟨.l 2, none, .mv, [.c (.s [])]⟩])
def q_tarpaulinref17_decimal_1 (N : TN) : ACode := (.seq (q_tarpaulinref17_decimal_1a N) (q_tarpaulinref17_decimal_2 N))
noncomputable def D_tarpaulinref17_decimal_1 (F : TF) (N : TN) (Q : TQ) (l : Env) (L : Lg) : Prop :=
 D_tarpaulinref17_decimal_2 F N Q (Env.put l 2 (.s [])) L
theorem e_tarpaulinref17_decimal_1 (F : TF) (N : TN) (Q : TQ) (l t : Env) (L : Lg) : wp F (q_tarpaulinref17_decimal_1 N) l t L (fin [.tmp (.l 2)] Q) nE (fin [.tmp (.l 2)] Q) = D_tarpaulinref17_decimal_1 F N Q l L := wpS (e_tarpaulinref17_decimal_2 F N Q) (by kernel_rfl)
/-- tarpaulin/tarpaulinref17.decimal -/
def c_tarpaulinref17_decimal (N : TN) : AFn := ⟨q_tarpaulinref17_decimal_1 N, [.tmp (.l 2)]⟩
structure H_tarpaulinref17_decimal (N : TN) (F : TF) : Prop where
  code : F (N k_tarpaulinref17_decimal) = some (c_tarpaulinref17_decimal N)
theorem r_tarpaulinref17_decimal {F : TF} {N : TN} (h : F (N k_tarpaulinref17_decimal) = some (c_tarpaulinref17_decimal N)) {Q : TQ} {a0 : AV} {L : Lg} (e : D_tarpaulinref17_decimal_1 F N Q (initE [a0] 0) L) : CallL F (N k_tarpaulinref17_decimal) [a0] L Q :=
  CallL.of_wp h (Eq.mpr (Eq.trans (e_tarpaulinref17_decimal_1 F N Q (initE [a0] 0) Env.nil L) (by kernel_rfl : _ = D_tarpaulinref17_decimal_1 F N Q (initE [a0] 0) L)) e)
def q_tarpaulinref17_Line_5 (N : TN) : ACode := (.seq (.regD [⟨.t 22, none, .fad 0, [.l 1]⟩, ⟨.t 23, none, .ld none, [.t 22]⟩, ⟨.t 24, none, .call (N k_tarpaulinref17_decimal), [.t 23]⟩, ⟨.t 25, none, .sbin .add, [.t 24, .c (.s [32])]⟩, ⟨.t 26, none, .mv, [.l 4]⟩, ⟨.t 27, none, .sbin .add, [.t 25, .t 26]⟩, ⟨.t 28, none, .sbin .add, [.t 27, .c (.s [32])]⟩, ⟨.t 29, none, .fad 2, [.l 1]⟩, ⟨.t 30, none, .ld none, [.t 29]⟩, ⟨.t 31, none, .call (N k_tarpaulinref17_decimal), [.t 30]⟩, ⟨.t 32, none, .sbin .add, [.t 28, .t 31]⟩, ⟨.t 33, none, .sbin .add, [.t 32, .c (.s [32])]⟩, ⟨.t 34, none, .fad 3, [.l 1]⟩, ⟨.t 35, none, .ld none, [.t 34]⟩, ⟨.t 36, none, .call (N k_tarpaulinref17_decimal), [.t 35]⟩, ⟨.t 37, none, .sbin .add, [.t 33, .t 36]⟩, ⟨.t 38, none, .sbin .add, [.t 37, .c (.s [32])]⟩, ⟨.t 39, none, .fad 4, [.l 1]⟩, ⟨.t 40, none, .ld none, [.t 39]⟩, ⟨.t 41, none, .call (N k_tarpaulinref17_decimal), [.t 40]⟩, ⟨.t 42, none, .sbin .add, [.t 38, .t 41]⟩, ⟨.t 43, none, .sbin .add, [.t 42, .c (.s [32])]⟩, ⟨.t 44, none, .fad 5, [.l 1]⟩, ⟨.t 45, none, .ld none, [.t 44]⟩, ⟨.t 46, none, .call (N k_tarpaulinref17_decimal), [.t 45]⟩, ⟨.t 47, none, .sbin .add, [.t 43, .t 46]⟩, ⟨.l 2, none, .mv, [.t 47]⟩] [(8, 0), (13, 0), (13, 3), (18, 0), (18, 3), (18, 10), (23, 0), (23, 3), (23, 10), (23, 15)]) .ret)
noncomputable def D_tarpaulinref17_Line_5 (F : TF) (N : TN) (Q : TQ) (x1 : AV) (x4 : AV) (L : Lg) : Prop :=
 wpOp F (.fad 0) [x1] L fun v1 L1 =>
 wpOp F (.ld none) [v1] L1 fun v2 L2 =>
 CallL F (N k_tarpaulinref17_decimal) [v2] L2 fun v3 L3 =>
 wpOp F (.sbin .add) [v3, (.s [32])] L3 fun v4 L4 =>
 wpOp F (.sbin .add) [v4, x4] L4 fun v5 L5 =>
 wpOp F (.sbin .add) [v5, (.s [32])] L5 fun v6 L6 =>
 wpOp F (.fad 2) [x1] L6 fun v7 L7 =>
 wpOp F (.ld none) [v7] L7 fun v8 L8 =>
 CallL F (N k_tarpaulinref17_decimal) [v8] L8 fun v9 L9 =>
 wpOp F (.sbin .add) [v6, v9] L9 fun v10 L10 =>
 wpOp F (.sbin .add) [v10, (.s [32])] L10 fun v11 L11 =>
 wpOp F (.fad 3) [x1] L11 fun v12 L12 =>
 wpOp F (.ld none) [v12] L12 fun v13 L13 =>
 CallL F (N k_tarpaulinref17_decimal) [v13] L13 fun v14 L14 =>
 wpOp F (.sbin .add) [v11, v14] L14 fun v15 L15 =>
 wpOp F (.sbin .add) [v15, (.s [32])] L15 fun v16 L16 =>
 wpOp F (.fad 4) [x1] L16 fun v17 L17 =>
 wpOp F (.ld none) [v17] L17 fun v18 L18 =>
 CallL F (N k_tarpaulinref17_decimal) [v18] L18 fun v19 L19 =>
 wpOp F (.sbin .add) [v16, v19] L19 fun v20 L20 =>
 wpOp F (.sbin .add) [v20, (.s [32])] L20 fun v21 L21 =>
 wpOp F (.fad 5) [x1] L21 fun v22 L22 =>
 wpOp F (.ld none) [v22] L22 fun v23 L23 =>
 CallL F (N k_tarpaulinref17_decimal) [v23] L23 fun v24 L24 =>
 wpOp F (.sbin .add) [v21, v24] L24 fun v25 L25 =>
 (againV (.ld none) [v7] L7 L ∧ againV (.ld none) [v12] L12 L ∧ againV (.ld none) [v12] L12 L3 ∧ againV (.ld none) [v17] L17 L ∧ againV (.ld none) [v17] L17 L3 ∧ againV (.ld none) [v17] L17 L9 ∧ againV (.ld none) [v22] L22 L ∧ againV (.ld none) [v22] L22 L3 ∧ againV (.ld none) [v22] L22 L9 ∧ againV (.ld none) [v22] L22 L14 ∧ True) ∧ (fin1 (some v25) Q L25)
theorem e_tarpaulinref17_Line_5 (F : TF) (N : TN) (Q : TQ) (l t : Env) (L : Lg) : wp F (q_tarpaulinref17_Line_5 N) l t L (fin [.tmp (.l 2)] Q) nE (fin [.tmp (.l 2)] Q) = D_tarpaulinref17_Line_5 F N Q (l 1) (l 4) L := by kernel_rfl
def q_tarpaulinref17_Line_4a (N : TN) : ACode := (.seq (.reg [⟨.t 9, none, .fad 1, [.l 1]⟩, ⟨.t 10, none, .ld none, [.t 9]⟩, ⟨.t 11, none, .bin .geq, [.t 10, .c (.i .i64 1)]⟩, ⟨.t 12, none, .mv, [.t 11]⟩, ⟨.t 13, some (.t 12, true), .fad 1, [.l 1]⟩, ⟨.t 14, some (.t 12, true), .ld none, [.t 13]⟩, ⟨.t 15, some (.t 12, true), .bin .leq, [.t 14, .c (.i .i64 8)]⟩, ⟨.t 16, none, .pick, [.t 12, .t 15, .c (.b false)]⟩]) (.cond (.t 16) (.reg [⟨.t 17, none, .mv, [.l 3]⟩, ⟨.t 18, none, .fad 1, [.l 1]⟩, ⟨.t 19, none, .ld none, [.t 18]⟩, ⟨.t 20, none, .iad 1, [.t 17, .t 19]⟩, ⟨.t 21, none, .ld none, [.t 20]⟩, ⟨.l 4, none, .mv, [.t 21]⟩]) .skip))
def q_tarpaulinref17_Line_4 (N : TN) : ACode := (.seq (q_tarpaulinref17_Line_4a N) (q_tarpaulinref17_Line_5 N))
noncomputable def D_tarpaulinref17_Line_4 (F : TF) (N : TN) (Q : TQ) (x1 : AV) (x3 : AV) (x4 : AV) (L : Lg) : Prop :=
 wpOp F (.fad 1) [x1] L fun v1 L1 =>
 wpOp F (.ld none) [v1] L1 fun v2 L2 =>
 wpOp F (.bin .geq) [v2, (.i .i64 1)] L2 fun v3 L3 =>
 gdOp F v3 true (.fad 1) [x1] L3 fun v4 L4 =>
 gdOp F v3 true (.ld none) [v4] L4 fun v5 L5 =>
 gdOp F v3 true (.bin .leq) [v5, (.i .i64 8)] L5 fun v6 L6 =>
 wpOp F .pick [v3, v6, (.b false)] L6 fun v7 L7 =>
 condW v7
 (wpOp F (.fad 1) [x1] L7 fun v8 L8 =>
 wpOp F (.ld none) [v8] L8 fun v9 L9 =>
 wpOp F (.iad 1) [x3, v9] L9 fun v10 L10 =>
 wpOp F (.ld none) [v10] L10 fun v11 L11 =>
 D_tarpaulinref17_Line_5 F N Q x1 v11 L11)
 (D_tarpaulinref17_Line_5 F N Q x1 x4 L7)
theorem e_tarpaulinref17_Line_4 (F : TF) (N : TN) (Q : TQ) (l t : Env) (L : Lg) : wp F (q_tarpaulinref17_Line_4 N) l t L (fin [.tmp (.l 2)] Q) nE (fin [.tmp (.l 2)] Q) = D_tarpaulinref17_Line_4 F N Q (l 1) (l 3) (l 4) L := wpS (e_tarpaulinref17_Line_5 F N Q) (by kernel_rfl)
def q_tarpaulinref17_Line_3a (N : TN) : ACode := (.reg [⟨.t 6, none, .fad 1, [.l 1]⟩, ⟨.t 7, none, .ld none, [.t 6]⟩, ⟨.t 8, none, .call (N k_tarpaulinref17_decimal), [.t 7]⟩, ⟨.l 4, none, .mv, [.t 8]⟩])
def q_tarpaulinref17_Line_3 (N : TN) : ACode := (.seq (q_tarpaulinref17_Line_3a N) (q_tarpaulinref17_Line_4 N))
noncomputable def D_tarpaulinref17_Line_3 (F : TF) (N : TN) (Q : TQ) (x1 : AV) (x3 : AV) (L : Lg) : Prop :=
 wpOp F (.fad 1) [x1] L fun v1 L1 =>
 wpOp F (.ld none) [v1] L1 fun v2 L2 =>
 CallL F (N k_tarpaulinref17_decimal) [v2] L2 fun v3 L3 =>
 D_tarpaulinref17_Line_4 F N Q x1 x3 v3 L3
theorem e_tarpaulinref17_Line_3 (F : TF) (N : TN) (Q : TQ) (l t : Env) (L : Lg) : wp F (q_tarpaulinref17_Line_3 N) l t L (fin [.tmp (.l 2)] Q) nE (fin [.tmp (.l 2)] Q) = D_tarpaulinref17_Line_3 F N Q (l 1) (l 3) L := wpS (e_tarpaulinref17_Line_4 F N Q) (by kernel_rfl)
def q_tarpaulinref17_Line_2a (N : TN) : ACode := (.reg [⟨.t 5, none, .bslice [.s []] 9 1 [0, 1, 2, 3, 4, 5, 6, 7, 8], [.c (.s []), .c (.s [116, 111, 108, 100]), .c (.s [119, 97, 105, 116, 115]), .c (.s [103, 111, 101, 115]), .c (.s [101, 110, 100, 115]), .c (.s [115, 116, 97, 114, 116, 115]), .c (.s [102, 105, 114, 101, 115]), .c (.s [108, 97, 112, 115, 101, 115]), .c (.s [114, 101, 102, 117, 115, 101, 100])]⟩, ⟨.l 3, none, .mv, [.t 5]⟩])
def q_tarpaulinref17_Line_2 (N : TN) : ACode := (.seq (q_tarpaulinref17_Line_2a N) (q_tarpaulinref17_Line_3 N))
noncomputable def D_tarpaulinref17_Line_2 (F : TF) (N : TN) (Q : TQ) (x1 : AV) (L : Lg) : Prop :=
 wpOp F (.bslice [.s []] 9 1 [0, 1, 2, 3, 4, 5, 6, 7, 8]) [(.s []), (.s [116, 111, 108, 100]), (.s [119, 97, 105, 116, 115]), (.s [103, 111, 101, 115]), (.s [101, 110, 100, 115]), (.s [115, 116, 97, 114, 116, 115]), (.s [102, 105, 114, 101, 115]), (.s [108, 97, 112, 115, 101, 115]), (.s [114, 101, 102, 117, 115, 101, 100])] L fun v1 L1 =>
 D_tarpaulinref17_Line_3 F N Q x1 v1 L1
theorem e_tarpaulinref17_Line_2 (F : TF) (N : TN) (Q : TQ) (l t : Env) (L : Lg) : wp F (q_tarpaulinref17_Line_2 N) l t L (fin [.tmp (.l 2)] Q) nE (fin [.tmp (.l 2)] Q) = D_tarpaulinref17_Line_2 F N Q (l 1) L := wpS (e_tarpaulinref17_Line_3 F N Q) (by kernel_rfl)
def q_tarpaulinref17_Line_1a (N : TN) : ACode := (.reg [⟨.l 1, none, .box, [.l 0]⟩, ⟨.l 2, none, .mv, [.c (.s [])]⟩])
def q_tarpaulinref17_Line_1 (N : TN) : ACode := (.seq (q_tarpaulinref17_Line_1a N) (q_tarpaulinref17_Line_2 N))
noncomputable def D_tarpaulinref17_Line_1 (F : TF) (N : TN) (Q : TQ) (x0 : AV) (L : Lg) : Prop :=
 wpOp F .box [x0] L fun v1 L1 =>
 D_tarpaulinref17_Line_2 F N Q v1 L1
theorem e_tarpaulinref17_Line_1 (F : TF) (N : TN) (Q : TQ) (l t : Env) (L : Lg) : wp F (q_tarpaulinref17_Line_1 N) l t L (fin [.tmp (.l 2)] Q) nE (fin [.tmp (.l 2)] Q) = D_tarpaulinref17_Line_1 F N Q (l 0) L := wpS (e_tarpaulinref17_Line_2 F N Q) (by kernel_rfl)
/-- tarpaulin/tarpaulinref17.Line -/
def c_tarpaulinref17_Line (N : TN) : AFn := ⟨q_tarpaulinref17_Line_1 N, [.tmp (.l 2)]⟩
structure H_tarpaulinref17_Line (N : TN) (F : TF) : Prop where
  code : F (N k_tarpaulinref17_Line) = some (c_tarpaulinref17_Line N)
  tarpaulinref17_decimal : H_tarpaulinref17_decimal N F
theorem r_tarpaulinref17_Line {F : TF} {N : TN} (h : F (N k_tarpaulinref17_Line) = some (c_tarpaulinref17_Line N)) {Q : TQ} {a0 : AV} {L : Lg} (e : D_tarpaulinref17_Line_1 F N Q a0 L) : CallL F (N k_tarpaulinref17_Line) [a0] L Q :=
  CallL.of_wp h (Eq.mpr (Eq.trans (e_tarpaulinref17_Line_1 F N Q (initE [a0] 0) Env.nil L) (by kernel_rfl : _ = D_tarpaulinref17_Line_1 F N Q a0 L)) e)
def q_tarpaulinlaw21_TraceForms_5 (N : TN) : ACode := (.seq (.reg [⟨.t 39, none, .mv, [.l 0]⟩, ⟨.t 40, none, .call (N k_tarpaulinalike_Round), [.t 39, .c (.i .i64 14)]⟩, ⟨.l 7, none, .mv, [.t 40]⟩]) (.seq (.reg [⟨.t 42, none, .mv, [.l 6]⟩, ⟨.t 43, none, .mv, [.l 7]⟩, ⟨.t 44, none, .iad 1, [.t 42, .t 43]⟩, ⟨.t 45, none, .ld none, [.t 44]⟩, ⟨.t 46, none, .sbin .add, [.t 45, .c (.s [10])]⟩, ⟨.t 47, none, .call (N k_trace_Parse), [.t 46]⟩, ⟨.t 41, none, .mv, [.t 47]⟩, ⟨.t 48, none, .ext 0, [.t 41]⟩, ⟨.t 49, none, .ext 1, [.t 41]⟩, ⟨.t 8, none, .mv, [.t 48]⟩, ⟨.l 9, none, .mv, [.t 49]⟩]) (.seq (.reg [⟨.t 50, none, .mv, [.l 9]⟩, ⟨.t 51, none, .bin .eql, [.t 50, .c (.i .i64 0)]⟩, ⟨.t 52, none, .mv, [.l 7]⟩, ⟨.t 53, none, .bin .eql, [.t 52, .c (.i .i64 0)]⟩, ⟨.t 54, none, .eq false .bool, [.t 51, .t 53]⟩, ⟨.t 55, none, .mv, [.t 54]⟩, ⟨.t 56, some (.t 55, true), .mv, [.l 9]⟩, ⟨.t 57, some (.t 55, true), .bin .eql, [.t 56, .c (.i .i64 0)]⟩, ⟨.t 58, some (.t 55, true), .mv, [.t 57]⟩, ⟨.t 59, some (.t 58, false), .mv, [.l 9]⟩, ⟨.t 60, some (.t 58, false), .bin .eql, [.t 59, .c (.i .i64 2)]⟩, ⟨.t 61, some (.t 55, true), .pick, [.t 58, .c (.b true), .t 60]⟩, ⟨.t 62, none, .pick, [.t 55, .t 61, .c (.b false)]⟩, ⟨.t 63, none, .mv, [.t 62]⟩, ⟨.t 64, some (.t 63, true), .call (N k_tarpaulinlaw21_awake), []⟩, ⟨.t 65, none, .pick, [.t 63, .t 64, .c (.b false)]⟩, ⟨.l 4, none, .mv, [.t 65]⟩]) .ret)))
noncomputable def D_tarpaulinlaw21_TraceForms_5 (F : TF) (N : TN) (Q : TQ) (x0 : AV) (x6 : AV) (L : Lg) : Prop :=
 CallL F (N k_tarpaulinalike_Round) [x0, (.i .i64 14)] L fun v1 L1 =>
 wpOp F (.iad 1) [x6, v1] L1 fun v2 L2 =>
 wpOp F (.ld none) [v2] L2 fun v3 L3 =>
 wpOp F (.sbin .add) [v3, (.s [10])] L3 fun v4 L4 =>
 CallL F (N k_trace_Parse) [v4] L4 fun v5 L5 =>
 wpOp F (.ext 0) [v5] L5 fun v6 L6 =>
 wpOp F (.ext 1) [v5] L6 fun v7 L7 =>
 wpOp F (.bin .eql) [v7, (.i .i64 0)] L7 fun v8 L8 =>
 wpOp F (.bin .eql) [v1, (.i .i64 0)] L8 fun v9 L9 =>
 wpOp F (.eq false .bool) [v8, v9] L9 fun v10 L10 =>
 gdOp F v10 true .mv [v7] L10 fun v11 L11 =>
 gdOp F v10 true (.bin .eql) [v11, (.i .i64 0)] L11 fun v12 L12 =>
 gdOp F v10 true .mv [v12] L12 fun v13 L13 =>
 gdOp F v13 false .mv [v7] L13 fun v14 L14 =>
 gdOp F v13 false (.bin .eql) [v14, (.i .i64 2)] L14 fun v15 L15 =>
 gdOp F v10 true .pick [v13, (.b true), v15] L15 fun v16 L16 =>
 wpOp F .pick [v10, v16, (.b false)] L16 fun v17 L17 =>
 gdOp F v17 true (.call (N k_tarpaulinlaw21_awake)) [] L17 fun v18 L18 =>
 wpOp F .pick [v17, v18, (.b false)] L18 fun v19 L19 =>
 fin1 (some v19) Q L19
theorem e_tarpaulinlaw21_TraceForms_5 (F : TF) (N : TN) (Q : TQ) (l t : Env) (L : Lg) : wp F (q_tarpaulinlaw21_TraceForms_5 N) l t L (fin [.tmp (.l 4)] Q) nE (fin [.tmp (.l 4)] Q) = D_tarpaulinlaw21_TraceForms_5 F N Q (l 0) (l 6) L := by kernel_rfl
def q_tarpaulinlaw21_TraceForms_4a (N : TN) : ACode := (.reg [⟨.t 20, none, .mv, [.l 5]⟩, ⟨.t 21, none, .mv, [.l 5]⟩, ⟨.t 22, none, .sbin .add, [.t 21, .c (.s [32])]⟩, ⟨.t 23, none, .mv, [.l 5]⟩, ⟨.t 24, none, .sbin .add, [.c (.s [32]), .t 23]⟩, ⟨.t 25, none, .mv, [.l 5]⟩, ⟨.t 26, none, .sbin .add, [.c (.s [48]), .t 25]⟩, ⟨.t 27, none, .mv, [.l 5]⟩, ⟨.t 28, none, .mv, [.l 5]⟩, ⟨.t 29, none, .lenS, [.t 28]⟩, ⟨.t 30, none, .bin .sub, [.t 29, .c (.i .i64 2)]⟩, ⟨.t 31, none, .slcS false true, [.t 27, .t 30]⟩, ⟨.t 32, none, .mv, [.l 5]⟩, ⟨.t 33, none, .sbin .add, [.t 32, .c (.s [32, 48])]⟩, ⟨.t 34, none, .mv, [.l 5]⟩, ⟨.t 35, none, .sbin .add, [.t 34, .c (.s [10])]⟩, ⟨.t 36, none, .mv, [.l 5]⟩, ⟨.t 37, none, .sbin .add, [.c (.s [120]), .t 36]⟩, ⟨.t 38, none, .bslice [.s []] 14 1 [0, 1, 2, 3, 4, 5, 6, 7, 8, 9, 10, 11, 12, 13], [.t 20, .t 22, .t 24, .t 26, .t 31, .t 33, .t 35, .t 37, .c (.s [49, 32, 103, 111, 110, 101, 32, 48, 32, 48, 32, 48, 32, 48]), .c (.s [49, 32, 103, 111, 101, 115, 32, 45, 48, 32, 48, 32, 48, 32, 48]), .c (.s [49, 32, 103, 111, 101, 115, 32, 43, 49, 32, 48, 32, 48, 32, 48]), .c (.s [49, 32, 103, 111, 101, 115, 32, 57, 57, 57, 57, 57, 57, 57, 57, 57, 57, 57, 57, 57, 57, 57, 57, 57, 57, 57, 57, 32, 48, 32, 48, 32, 48]), .c (.s [49, 32, 32, 103, 111, 101, 115, 32, 48, 32, 48, 32, 48, 32, 48]), .c (.s [])]⟩, ⟨.l 6, none, .mv, [.t 38]⟩])
def q_tarpaulinlaw21_TraceForms_4 (N : TN) : ACode := (.seq (q_tarpaulinlaw21_TraceForms_4a N) (q_tarpaulinlaw21_TraceForms_5 N))
noncomputable def D_tarpaulinlaw21_TraceForms_4 (F : TF) (N : TN) (Q : TQ) (x0 : AV) (x5 : AV) (L : Lg) : Prop :=
 wpOp F (.sbin .add) [x5, (.s [32])] L fun v1 L1 =>
 wpOp F (.sbin .add) [(.s [32]), x5] L1 fun v2 L2 =>
 wpOp F (.sbin .add) [(.s [48]), x5] L2 fun v3 L3 =>
 wpOp F .lenS [x5] L3 fun v4 L4 =>
 wpOp F (.bin .sub) [v4, (.i .i64 2)] L4 fun v5 L5 =>
 wpOp F (.slcS false true) [x5, v5] L5 fun v6 L6 =>
 wpOp F (.sbin .add) [x5, (.s [32, 48])] L6 fun v7 L7 =>
 wpOp F (.sbin .add) [x5, (.s [10])] L7 fun v8 L8 =>
 wpOp F (.sbin .add) [(.s [120]), x5] L8 fun v9 L9 =>
 wpOp F (.bslice [.s []] 14 1 [0, 1, 2, 3, 4, 5, 6, 7, 8, 9, 10, 11, 12, 13]) [x5, v1, v2, v3, v6, v7, v8, v9, (.s [49, 32, 103, 111, 110, 101, 32, 48, 32, 48, 32, 48, 32, 48]), (.s [49, 32, 103, 111, 101, 115, 32, 45, 48, 32, 48, 32, 48, 32, 48]), (.s [49, 32, 103, 111, 101, 115, 32, 43, 49, 32, 48, 32, 48, 32, 48]), (.s [49, 32, 103, 111, 101, 115, 32, 57, 57, 57, 57, 57, 57, 57, 57, 57, 57, 57, 57, 57, 57, 57, 57, 57, 57, 57, 57, 32, 48, 32, 48, 32, 48]), (.s [49, 32, 32, 103, 111, 101, 115, 32, 48, 32, 48, 32, 48, 32, 48]), (.s [])] L9 fun v10 L10 =>
 D_tarpaulinlaw21_TraceForms_5 F N Q x0 v10 L10
theorem e_tarpaulinlaw21_TraceForms_4 (F : TF) (N : TN) (Q : TQ) (l t : Env) (L : Lg) : wp F (q_tarpaulinlaw21_TraceForms_4 N) l t L (fin [.tmp (.l 4)] Q) nE (fin [.tmp (.l 4)] Q) = D_tarpaulinlaw21_TraceForms_4 F N Q (l 0) (l 5) L := wpS (e_tarpaulinlaw21_TraceForms_5 F N Q) (by kernel_rfl)
def q_tarpaulinlaw21_TraceForms_3a (N : TN) : ACode := (.reg [⟨.t 17, none, .mv, [.l 1]⟩, ⟨.t 18, none, .build [.i .i64 0, .i .i64 0, .i .i64 0, .i .i64 0, .i .i64 0, .i .i64 0] [(0, 1), (1, 1), (2, 1), (3, 1)], [.t 17, .c (.i .i64 3), .c (.i .i64 (-3)), .c (.i .i64 1)]⟩, ⟨.t 19, none, .call (N k_tarpaulinref17_Line), [.t 18]⟩, ⟨.l 5, none, .mv, [.t 19]⟩])
def q_tarpaulinlaw21_TraceForms_3 (N : TN) : ACode := (.seq (q_tarpaulinlaw21_TraceForms_3a N) (q_tarpaulinlaw21_TraceForms_4 N))
noncomputable def D_tarpaulinlaw21_TraceForms_3 (F : TF) (N : TN) (Q : TQ) (x0 : AV) (x1 : AV) (L : Lg) : Prop :=
 wpOp F (.build [.i .i64 0, .i .i64 0, .i .i64 0, .i .i64 0, .i .i64 0, .i .i64 0] [(0, 1), (1, 1), (2, 1), (3, 1)]) [x1, (.i .i64 3), (.i .i64 (-3)), (.i .i64 1)] L fun v1 L1 =>
 CallL F (N k_tarpaulinref17_Line) [v1] L1 fun v2 L2 =>
 D_tarpaulinlaw21_TraceForms_4 F N Q x0 v2 L2
theorem e_tarpaulinlaw21_TraceForms_3 (F : TF) (N : TN) (Q : TQ) (l t : Env) (L : Lg) : wp F (q_tarpaulinlaw21_TraceForms_3 N) l t L (fin [.tmp (.l 4)] Q) nE (fin [.tmp (.l 4)] Q) = D_tarpaulinlaw21_TraceForms_3 F N Q (l 0) (l 1) L := wpS (e_tarpaulinlaw21_TraceForms_4 F N Q) (by kernel_rfl)
def q_tarpaulinlaw21_TraceForms_2a (N : TN) : ACode := (.seq (.reg [⟨.t 10, none, .mv, [.l 1]⟩, ⟨.t 11, none, .bin .lss, [.t 10, .c (.i .i64 0)]⟩, ⟨.t 12, none, .mv, [.t 11]⟩, ⟨.t 13, some (.t 12, false), .mv, [.l 1]⟩, ⟨.t 14, some (.t 12, false), .bin .gtr, [.t 13, .c (.i .i64 1099511627776)]⟩, ⟨.t 15, none, .pick, [.t 12, .c (.b true), .t 14]⟩]) (.cond (.t 15) (.seq (.reg [⟨.t 16, none, .call (N k_tarpaulinlaw21_awake), []⟩, ⟨.l 4, none, .mv, [.t 16]⟩]) .ret) .skip))
def q_tarpaulinlaw21_TraceForms_2 (N : TN) : ACode := (.seq (q_tarpaulinlaw21_TraceForms_2a N) (q_tarpaulinlaw21_TraceForms_3 N))
noncomputable def D_tarpaulinlaw21_TraceForms_2 (F : TF) (N : TN) (Q : TQ) (x0 : AV) (x1 : AV) (L : Lg) : Prop :=
 wpOp F (.bin .lss) [x1, (.i .i64 0)] L fun v1 L1 =>
 gdOp F v1 false .mv [x1] L1 fun v2 L2 =>
 gdOp F v1 false (.bin .gtr) [v2, (.i .i64 1099511627776)] L2 fun v3 L3 =>
 wpOp F .pick [v1, (.b true), v3] L3 fun v4 L4 =>
 condW v4
 (CallL F (N k_tarpaulinlaw21_awake) [] L4 fun v5 L5 =>
 fin1 (some v5) Q L5)
 (D_tarpaulinlaw21_TraceForms_3 F N Q x0 x1 L4)
theorem e_tarpaulinlaw21_TraceForms_2 (F : TF) (N : TN) (Q : TQ) (l t : Env) (L : Lg) : wp F (q_tarpaulinlaw21_TraceForms_2 N) l t L (fin [.tmp (.l 4)] Q) nE (fin [.tmp (.l 4)] Q) = D_tarpaulinlaw21_TraceForms_2 F N Q (l 0) (l 1) L := wpS (e_tarpaulinlaw21_TraceForms_3 F N Q) (by kernel_rfl)
def q_tarpaulinlaw21_TraceForms_1a (N : TN) : ACode := (.reg [⟨.l 4, none, .mv, [.c (.b false)]⟩])
def q_tarpaulinlaw21_TraceForms_1 (N : TN) : ACode := (.seq (q_tarpaulinlaw21_TraceForms_1a N) (q_tarpaulinlaw21_TraceForms_2 N))
noncomputable def D_tarpaulinlaw21_TraceForms_1 (F : TF) (N : TN) (Q : TQ) (x0 : AV) (x1 : AV) (L : Lg) : Prop :=
 D_tarpaulinlaw21_TraceForms_2 F N Q x0 x1 L
theorem e_tarpaulinlaw21_TraceForms_1 (F : TF) (N : TN) (Q : TQ) (l t : Env) (L : Lg) : wp F (q_tarpaulinlaw21_TraceForms_1 N) l t L (fin [.tmp (.l 4)] Q) nE (fin [.tmp (.l 4)] Q) = D_tarpaulinlaw21_TraceForms_1 F N Q (l 0) (l 1) L := wpS (e_tarpaulinlaw21_TraceForms_2 F N Q) (by kernel_rfl)
/-- tarpaulin/tarpaulinlaw21.TraceForms -/
def c_tarpaulinlaw21_TraceForms (N : TN) : AFn := ⟨q_tarpaulinlaw21_TraceForms_1 N, [.tmp (.l 4)]⟩
theorem r_tarpaulinlaw21_TraceForms {F : TF} {N : TN} (h : F (N k_tarpaulinlaw21_TraceForms) = some (c_tarpaulinlaw21_TraceForms N)) {Q : TQ} {a0 a1 : AV} {L : Lg} (e : D_tarpaulinlaw21_TraceForms_1 F N Q a0 a1 L) : CallL F (N k_tarpaulinlaw21_TraceForms) [a0, a1] L Q :=
  CallL.of_wp h (Eq.mpr (Eq.trans (e_tarpaulinlaw21_TraceForms_1 F N Q (initE [a0, a1] 0) Env.nil L) (by kernel_rfl : _ = D_tarpaulinlaw21_TraceForms_1 F N Q a0 a1 L)) e)
end Go.AM

/- trace: words, lines. -/
set_option linter.unusedVariables false
set_option linter.unusedSimpArgs false
namespace Go.AM
variable {N : Nat → Nat} {F : Nat → Option AFn}
open Go.Lib (itoa atoiAll)
def idxV (o : Option Nat) : Int := match o with | some i => i | none => -1
theorem idxW_drop (l : List (List UInt8)) (w : List UInt8) (i : Nat) (h : ∀ j, j < i → l[j]? ≠ some w) : idxW l w = (idxW (l.drop i) w).map (· + i) := by
  induction i generalizing l with
  | zero => simp
  | succ i ih =>
    cases l with
    | nil => simp [idxW]
    | cons x r =>
      have h0 : x ≠ w := fun e => h 0 (by omega) (by simp [e])
      have := ih r (fun j hj => by have := h (j + 1) (by omega); simpa using this)
      have e : idxW (x :: r) w = (idxW r w).map (· + 1) := by
        unfold idxW
        rw [List.findIdx?_cons]
        simp [h0]
      rw [e, this, List.drop_succ_cons]
      cases idxW (List.drop i r) w with
      | none => rfl
      | some x => simp [Nat.add_assoc]
theorem indexS_spec (hf : H_slices_Index_stringstring N F) {L : Lg} {v : AV} {l : List (List UInt8)} (h : SlQ wordI 1 L v l) (hl : l.length ≤ 1000000) (w : List UInt8) : CallL F (N k_slices_Index_stringstring) [v, .s w] L fun r L' => r = .i .i64 (idxV (idxW l w)) ∧ L' = L := by
  refine CallL.opq ?_
  intro Q hQ
  apply r_slices_Index_stringstring hf.code
  unfold D_slices_Index_stringstring_1 D_slices_Index_stringstring_4
  have hlen := fun X k => h.len (F := F) X k
  simp [hlen]
  unfold D_slices_Index_stringstring_6
  obtain ⟨I, hI⟩ : ∃ I : Nat → Env → Lg → Prop, I = fun m E K' => ∃ k : Nat, m + k = l.length ∧ K' = L ∧ E 0 = v ∧ E 1 = .s w ∧ E 7 = .i .i64 l.length ∧ E 8 = .i .i64 k ∧ ∀ j, j < k → l[j]? ≠ some w := ⟨_, rfl⟩
  refine loopW_intro I l.length ?_ ?_
  · rw [hI]
    exact ⟨0, by omega, rfl, by simp, by simp, by simp, by simp, by simp⟩
  intro m E t K' hi
  rw [hI] at hi
  obtain ⟨k, hm, rfl, e0, e1, e7, e8, hn⟩ := hi
  unfold D_slices_Index_stringstring_7
  rw [e0, e1, e7, e8]
  by_cases hk : ¬ k < l.length
  · have c1 : ¬ ((k : Int) < (l.length : Int)) := by omega
    simp [c1, D_slices_Index_stringstring_3]
    refine ⟨_, Sees.refl _, hQ _ _ ⟨?_, rfl⟩⟩
    rw [idxW_drop l w k hn, List.drop_eq_nil_of_le (by omega)]
    rfl
  have hk : k < l.length := by omega
  have c1 : ((k : Int) < (l.length : Int)) := by omega
  have hw : l[k]? = some l[k] := List.getElem?_eq_getElem hk
  obtain ⟨b, o, h1, h2, h3⟩ := h.get (F := F) hw
  have h4 : rdL K' (b, o) none = some (.s l[k]) := by
    have := (h2 K' (SubL.refl _)).1 0 (by omega); simpa [wordI] using this
  have w1 : wr .i64 ((k : Int) + 1) = ((k + 1 : Nat) : Int) := by rw [wr_id (by omega) (by omega)]; omega
  simp [c1, h1, h4]
  refine ⟨fun heq => ?_, fun hne => ?_⟩
  · refine ⟨_, Sees.refl _, hQ _ _ ⟨?_, rfl⟩⟩
    rw [idxW_drop l w k hn, List.drop_eq_getElem_cons hk]
    simp [idxW, List.findIdx?_cons, ← heq, idxV]
  · simp [w1]
    refine ⟨l.length - (k + 1), by omega, ?_⟩
    rw [hI]
    refine ⟨k + 1, by omega, rfl, by simp [e0], by simp [e1], by simp [e7], by simp, fun j hj => ?_⟩
    by_cases hjk : j = k
    · subst hjk; rw [hw]; intro h9; exact hne (Option.some.inj h9).symm
    · exact hn j (by omega)
theorem word_spec (hf : H_trace_word N F) (hF : F (N k_strings_Fields) = some (kExt 2)) (hI : F (N k_strconv_Itoa) = some (kExt 1)) {k : Int} (hk : fits k = true) (L : Lg) : CallL F (N k_trace_word) [.i .i64 k] L fun r L' => r = .s (evWord k) ∧ Ext2 L L' := by
  refine CallL.opq ?_
  intro Q hQ
  apply r_trace_word hf.code
  unfold D_trace_word_1
  refine (kinds_spec hF L).mono ?_
  rintro v L1 ⟨h1, h2, h3⟩
  have hlen := fun X k => h1.len (F := F) X k
  have hl8 : evWords.length = 8 := rfl
  rw [hl8] at hlen
  have itoa8 : ¬ (1 ≤ k ∧ k ≤ 8) → CallL F (N k_strconv_Itoa) [.i .i64 k] L1 fun v8 L8 => fin1 (some v8) Q L8 := fun h => by
    refine (itoa_spec hI hk L1).mono ?_
    rintro _ _ ⟨rfl, rfl⟩
    exact ⟨_, Sees.refl _, hQ _ _ ⟨by unfold evWord; rw [if_neg h], h2⟩⟩
  by_cases c1 : k < 1
  · simp [c1]
    exact itoa8 (by omega)
  by_cases c2 : 8 < k
  · simp [c1, hlen, c2]
    exact itoa8 (by omega)
  have hw : evWords[(k - 1).toNat]? = some (evWord k) := by
    unfold evWord
    rw [if_pos (by omega)]
    have : k = 1 ∨ k = 2 ∨ k = 3 ∨ k = 4 ∨ k = 5 ∨ k = 6 ∨ k = 7 ∨ k = 8 := by omega
    rcases this with h | h | h | h | h | h | h | h <;> subst h <;> rfl
  obtain ⟨b, o, g1, g2, g3⟩ := h1.get (F := F) hw
  have g4 : rdL L1 (b, o) none = some (.s (evWord k)) := by
    have := (g2 L1 (SubL.refl _)).1 0 (by omega); simpa [wordI] using this
  obtain ⟨j, hj⟩ : ∃ j : Nat, j = (k - 1).toNat := ⟨_, rfl⟩
  rw [← hj] at g1
  have w1 : wr .i64 (k - 1) = (j : Int) := by rw [wr_id (by omega) (by omega)]; omega
  simp [c1, hlen, c2, w1, g1, g4]
  exact ⟨_, Sees.refl _, hQ _ _ ⟨rfl, h2⟩⟩
theorem kind_spec (hf : H_trace_kind N F) (hF : F (N k_strings_Fields) = some (kExt 2)) {t : Nat} (hA : F (N k_strconv_Atoi) = some (kExt (t + 7))) {w : List UInt8} (hw : w.length < 1000000000) (L : Lg) :
    CallL F (N k_trace_kind) [.s w] L fun r L' => (∃ n, r = .tup [.i .i64 n, .b (kindP w).isSome] ∧ ∀ m, kindP w = some m → n = m) ∧ Ext2 L L' := by
  refine CallL.opq ?_
  intro Q hQ
  apply r_trace_kind hf.code
  unfold D_trace_kind_1
  refine (kinds_spec hF L).mono ?_
  rintro v L1 ⟨h1, h2, h3⟩
  refine (indexS_spec hf.slices_Index_stringstring h1 (by decide) w).mono ?_
  rintro _ L2 ⟨rfl, rfl⟩
  cases hi : idxW evWords w with
  | some i =>
    have hl : i < 8 := by
      unfold idxW at hi
      have := (List.findIdx?_eq_some_iff_getElem.1 hi).1
      simpa [evWords] using this
    have w1 : wr .i64 ((i : Int) + 1) = (i : Int) + 1 := wr_id (by omega) (by omega)
    have c1 : (0 : Int) ≤ (i : Int) := by omega
    simp [idxV, c1, w1]
    exact ⟨_, Sees.refl _, hQ _ _ ⟨⟨(i : Int) + 1, by simp [kindP, hi], fun m hm => by simp [kindP, hi] at hm; exact hm⟩, h2⟩⟩
  | none =>
    simp [idxV]
    refine (atoi_spec hA hw L2).mono ?_
    rintro _ L3 ⟨⟨n, u, rfl, hr⟩, rfl⟩
    rcases hr with ⟨hn, rfl⟩ | ⟨hn, rfl⟩
    · simp
      exact ⟨_, Sees.refl _, hQ _ _ ⟨⟨n, by simp [kindP, hi, hn], fun m hm => by simp [kindP, hi, hn] at hm; exact hm⟩, h2⟩⟩
    · simp
      exact ⟨_, Sees.refl _, hQ _ _ ⟨⟨n, by simp [kindP, hi, hn], fun m hm => by simp [kindP, hi, hn] at hm⟩, h2⟩⟩
end Go.AM


/- trace: lines, events, texts that are read. -/
set_option linter.unusedVariables false
set_option linter.unusedSimpArgs false
namespace Go.AM
variable {N : Nat → Nat} {F : Nat → Option AFn}
open Go.Lib (itoa atoiAll)
structure LX (N : Nat → Nat) (F : Nat → Option AFn) : Prop where
  itoa : F (N k_strconv_Itoa) = some (kExt 1)
  fields : F (N k_strings_Fields) = some (kExt 2)
  join : F (N k_strings_Join) = some (kExt 5)
structure TX (N : Nat → Nat) (F : Nat → Option AFn) (t : Nat) : Prop extends LX N F where
  split : F (N k_strings_Split) = some (kExt 3)
  cut : F (N k_strings_Cut) = some (kExt 4)
  text : F (N k_trace_Text) = some (kExt 6)
  atoi : F (N k_strconv_Atoi) = some (kExt (t + 7))
variable {t : Nat}
theorem iEq_self (n : Int) : iEq n n = true := by cases n <;> simp [iEq]
theorem same1_int (n : Int) (k : IntKind) : same1 (.i k n) (.i k n) = true := by cases k <;> simp [same1, kEq, iEq_self]
theorem sameL_self : ∀ l : List AV, (∀ v, v ∈ l → same1 v v = true) → sameL l l = true
  | [], _ => rfl
  | a :: l, h => by simp [sameL, h a (by simp), sameL_self l (fun v hv => h v (by simp [hv]))]
theorem wordI_len (w : List UInt8) : (wordI w).length = 1 := rfl
theorem wordI_one (w : List UInt8) : (wordI w).all AV.one = true := rfl
theorem evc_one (e : Ev) : (evc e).all AV.one = true := rfl
theorem join_len {c : UInt8} : ∀ {ws : List (List UInt8)} {m : Nat}, (∀ w, w ∈ ws → w.length ≤ m) → (Lib.join ws [c]).length ≤ ws.length * (m + 1)
  | [], m, _ => by simp [Lib.join, List.intercalate]
  | [w], m, h => by have := h w (by simp); simp [Lib.join, List.intercalate]; omega
  | a :: b :: l, m, h => by
    have h1 := h a (by simp)
    have ih := join_len (c := c) (ws := b :: l) (m := m) (fun w hw => h w (by simp [hw]))
    unfold Lib.join at ih ⊢
    rw [inter_cons2]
    simp only [List.length_append, List.length_cons, List.length_nil] at ih ⊢
    have : (l.length + 1 + 1) * (m + 1) = (l.length + 1) * (m + 1) + (m + 1) := by rw [Nat.add_mul, Nat.one_mul]
    omega
theorem itoa_len {n : Int} (h : fits n = true) : (itoa n).length ≤ 21 := by
  have hb : -9223372036854775808 ≤ n ∧ n ≤ 9223372036854775807 := by
    cases n with
    | ofNat m => simp only [fits, blt_nat, decide_eq_true_eq] at h; rw [show Int.ofNat m = (m : Int) from rfl]; omega
    | negSucc m => simp only [fits, blt_nat, decide_eq_true_eq] at h; rw [Int.negSucc_eq]; omega
  exact Lib.itoa_length_le n hb.1 hb.2
theorem word_len {k : Int} (h : fits k = true) : (evWord k).length ≤ 21 := by
  by_cases hk : 1 ≤ k ∧ k ≤ 8
  · have := word_mem hk
    have all : ∀ w, w ∈ evWords → w.length ≤ 21 := by decide
    exact all _ this
  · unfold evWord; rw [if_neg hk]; exact itoa_len h
theorem words_len {e : Ev} (h : e.ok) : ∀ w, w ∈ e.words → w.length ≤ 21 := by
  intro w hw
  simp only [Ev.words, List.mem_cons, List.not_mem_nil, or_false] at hw
  rcases hw with rfl | rfl | rfl | rfl | rfl | rfl
  · exact itoa_len (h _ (by simp [Ev.l]))
  · exact word_len (h _ (by simp [Ev.l]))
  all_goals exact itoa_len (h _ (by simp [Ev.l]))
theorem line_len {e : Ev} (h : e.ok) : e.line.length ≤ 132 := by
  rw [line_join]
  have := join_len (c := 32) (words_len h)
  simpa [Ev.words] using this
theorem line_spec (hf : H_trace_Line N F) (X : LX N F) {e : Ev} (he : e.ok) (L : Lg) : CallL F (N k_trace_Line) [.agg (evc e)] L fun r L' => r = .s e.line ∧ Ext2 L L' := by
  refine CallL.opq ?_
  intro Q hQ
  apply r_trace_Line hf.code
  unfold D_trace_Line_1
  simp
  rw [newL_box_agg _ _ _ (evc_one e)]
  intro b1 hb1
  have hb : (L.put b1 (.raw (.cells (evc e)))) b1 = some (.raw (.cells (evc e))) := Lg.put_same _ _ _
  have hext : Ext2 L (L.put b1 (.raw (.cells (evc e)))) := (Ext2.refl L).put hb1 _
  generalize hK : L.put b1 (.raw (.cells (evc e))) = K at hb hext
  obtain ⟨E0, hE0⟩ : ∃ E0 : Env, E0 = Env.put (Env.put (initE [.agg (evc e)] 0) 1 (.p (some (b1, 0)))) 2 (.s []) := ⟨_, rfl⟩
  have e1 : E0 1 = .p (some (b1, 0)) := by rw [hE0]; simp
  rw [← hE0]
  clear hE0
  have hm : ∀ x, x ∈ e.l → fits x = true := he
  unfold D_trace_Line_2
  rw [e1, fld_ld' hb (x := .i .i64 e.step) rfl]
  refine (itoa_spec X.itoa (hm _ (by simp [Ev.l])) K).mono ?_
  rintro _ K1 ⟨rfl, hK1⟩
  rw [hK1]; clear hK1 K1
  have f1 : rdL K (b1, 1) none = some (.i .i64 e.kind) := by rw [rdL_cell hb]; rfl
  simp [f1]
  refine (word_spec hf.trace_word X.fields X.itoa (hm _ (by simp [Ev.l])) K).mono ?_
  rintro _ K2 ⟨rfl, x2⟩
  have hfill : fillP (reps [AV.s []] 2) ([0, 1].map fun i => (i * 1, 1)) [.s (itoa e.step), .s (evWord e.kind)] = some [.s (itoa e.step), .s (evWord e.kind)] := by
    simp [reps, fillP, splice, ble_nat, beq_nat, AV.cellsOf]
  simp only [wp_bslice]
  rw [newL_bslice (c := [.s (itoa e.step), .s (evWord e.kind)]) _ _ hfill (by rfl)]
  intro b7 hb7
  have x3 : Ext2 K2 (K2.put b7 (.raw (.cells [.s (itoa e.step), .s (evWord e.kind)]))) := (Ext2.refl K2).put hb7 _
  have f2 : rdL K (b1, 0 + 1) none = some (.i .i64 e.kind) := f1
  refine ⟨⟨by simp [againV, semRL, rLdL, f1, sameV, same1, kEq, iEq_self], trivial⟩, ?_⟩
  have gs0 : GS wordI 1 K (K2.put b7 (.raw (.cells [.s (itoa e.step), .s (evWord e.kind)]))) (.sl (some (b7, 0)) 2 2 0) [itoa e.step, evWord e.kind] :=
    ⟨.inr ⟨b7, 0, by simp, rfl, .inl rfl, Lg.put_same _ _ _, rfl⟩, fun q hq => by cases hq; exact x2.none hb7, x2.trans x3⟩
  generalize K2.put b7 (.raw (.cells [.s (itoa e.step), .s (evWord e.kind)])) = K3 at gs0
  unfold D_trace_Line_5
  have hb3 := gs0.ext _ _ hb
  have e1' : (E0.put 3 (.sl (some (b7, 0)) 2 2 0)) 1 = .p (some (b1, 0)) := by simp [e1]
  rw [e1', fld_ld' hb3 (x := .i .i64 e.task) rfl, fld_ld' hb3 (x := .i .i64 e.a) rfl, fld_ld' hb3 (x := .i .i64 e.b) rfl, fld_ld' hb3 (x := .i .i64 e.c) rfl]
  have hfill2 : fillP (reps [AV.i .i64 0] 4) ([0, 1, 2, 3].map fun i => (i * 1, 1)) [.i .i64 e.task, .i .i64 e.a, .i .i64 e.b, .i .i64 e.c] = some [.i .i64 e.task, .i .i64 e.a, .i .i64 e.b, .i .i64 e.c] := by
    simp [reps, fillP, splice, ble_nat, beq_nat, AV.cellsOf]
  simp only [wp_bslice]
  rw [newL_bslice (c := [.i .i64 e.task, .i .i64 e.a, .i .i64 e.b, .i .i64 e.c]) _ _ hfill2 (by rfl)]
  intro b9 hb9
  have gs1 := gs0.hold hb9 (.raw (.cells [.i .i64 e.task, .i .i64 e.a, .i .i64 e.b, .i .i64 e.c]))
  have hKb9 : K b9 = none := gs0.ext.none hb9
  generalize hLb : K.put b9 (.raw (.cells [.i .i64 e.task, .i .i64 e.a, .i .i64 e.b, .i .i64 e.c])) = Lb at gs1
  have hbb : Lb b9 = some (.raw (.cells [.i .i64 e.task, .i .i64 e.a, .i .i64 e.b, .i .i64 e.c])) := by rw [← hLb]; exact Lg.put_same _ _ _
  have hKL : Ext2 K Lb := by rw [← hLb]; exact (Ext2.refl K).put hKb9 _
  generalize K3.put b9 (.raw (.cells [.i .i64 e.task, .i .i64 e.a, .i .i64 e.b, .i .i64 e.c])) = K4 at gs1
  obtain ⟨ns, hns⟩ : ∃ ns, ns = [e.task, e.a, e.b, e.c] := ⟨_, rfl⟩
  have hcell : ∀ (k : Nat) (x : Int), ns[k]? = some x → [AV.i .i64 e.task, .i .i64 e.a, .i .i64 e.b, .i .i64 e.c][k]? = some (.i .i64 x) := by
    intro k x hx
    rw [hns] at hx
    match k, hx with
    | 0, hx | 1, hx | 2, hx | 3, hx => cases hx; rfl
  have hn4 : ns.length = 4 := by rw [hns]; rfl
  simp
  unfold D_trace_Line_7
  obtain ⟨I, hI⟩ : ∃ I : Nat → Env → Lg → Prop, I = fun m E K' => ∃ k : Nat, m + k = 4 ∧ E 21 = .sl (some (b9, 0)) 4 4 0 ∧ E 22 = .i .i64 4 ∧ E 23 = .i .i64 k ∧ GS wordI 1 Lb K' (E 3) ([itoa e.step, evWord e.kind] ++ (ns.take k).map itoa) := ⟨_, rfl⟩
  refine loopW_intro I 4 ?_ ?_
  · rw [hI]
    exact ⟨0, by omega, by simp, by simp, by simp, by simpa using gs1⟩
  intro m E t K' hi
  rw [hI] at hi
  obtain ⟨k, hmk, g1, g2, g3, g4⟩ := hi
  unfold D_trace_Line_8
  rw [g1, g2, g3]
  by_cases hk : ¬ k < 4
  · have c1 : ¬ ((k : Int) < 4) := by omega
    simp [c1, D_trace_Line_4]
    have hk4 : k = 4 := by omega
    have hws : [itoa e.step, evWord e.kind] ++ (ns.take k).map itoa = e.words := by
      rw [hk4, hns]; rfl
    rw [hws] at g4
    refine (join_spec X.join (g4.q wordI_len) (by simp [Ev.words]) (by simp [Ev.words]) ?_).mono ?_
    · rw [← line_join]
      have := line_len he
      omega
    · rintro _ _ ⟨rfl, rfl⟩
      exact ⟨_, Sees.refl _, hQ _ _ ⟨by rw [line_join], hext.trans (hKL.trans g4.ext)⟩⟩
  have hk : k < 4 := by omega
  have c1 : ((k : Int) < 4) := by omega
  have hx : ns[k]? = some ns[k] := List.getElem?_eq_getElem (by omega)
  have hfx : fits ns[k] = true := hm _ (by
    have := List.getElem_mem (l := ns) (n := k) (by omega)
    have h2 : ∀ x, x ∈ ns → x ∈ e.l := by rw [hns]; intro x hx; simp [Ev.l] at hx ⊢; rcases hx with h | h | h | h <;> simp [h]
    exact h2 _ this)
  have i1 := fun M q => wp_iad (F := F) (L := M) (k := q) 1 b9 0 4 4 0 .i64 (k : Int) (by omega) (by omega)
  have r1 : rdL K' (b9, k) none = some (.i .i64 ns[k]) := by rw [rdL_cell (g4.ext _ _ hbb)]; exact hcell k _ hx
  have w1 : wr .i64 ((k : Int) + 1) = ((k + 1 : Nat) : Int) := by rw [wr_id (by omega) (by omega)]; omega
  have c2 : (decide ((k : Int) < 4)) = true := by simp; omega
  simp [c1, i1, r1]
  refine (itoa_spec X.itoa hfx K').mono ?_
  rintro _ K5 ⟨rfl, hK5⟩
  rw [hK5]; clear hK5 K5
  refine g4.push wordI_len wordI_one (by omega) (x := itoa ns[k]) (by simp [reps, fillP, splice, ble_nat, beq_nat, AV.cellsOf, wordI]) (by simp; omega) fun w K6 g6 => ?_
  simp [w1]
  refine ⟨4 - (k + 1), by omega, ?_⟩
  rw [hI]
  refine ⟨k + 1, by omega, by simp [g1], by simp [g2], by simp, ?_⟩
  have q : GS wordI 1 Lb K6 w ([itoa e.step, evWord e.kind] ++ (ns.take (k + 1)).map itoa) := by
    rw [List.take_add_one, hx, List.map_append, ← List.append_assoc]
    exact g6
  simpa using q

/-! ### an event of a line -/
theorem spl_short (c : UInt8) : ∀ s : List UInt8, ∀ w, w ∈ spl c s → w.length ≤ s.length
  | [], w, h => by simp [spl] at h; simp [h]
  | b :: r, w, h => by
    by_cases hb : b = c
    · simp only [spl, hb, if_true] at h
      rcases List.mem_cons.1 h with rfl | h
      · simp
      · have := spl_short c r w h; simp; omega
    · obtain ⟨x, xs, h1, h2⟩ := spl_cons hb r
      rw [h2] at h
      rcases List.mem_cons.1 h with rfl | h
      · have := spl_short c r x (by rw [h1]; simp)
        simp; omega
      · have := spl_short c r w (by rw [h1]; simp [h])
        simp; omega
def okTo (ws : List (List UInt8)) (k : Nat) : Bool := (kindP (ws.getD 1 [])).isSome && (List.range k).all fun j => decide (j = 1) || (numP (ws.getD j [])).isSome
theorem okTo_succ (ws : List (List UInt8)) (k : Nat) : okTo ws (k + 1) = (okTo ws k && (decide (k = 1) || (numP (ws.getD k [])).isSome)) := by
  unfold okTo
  rw [List.range_succ, List.all_append]
  simp [Bool.and_assoc]
/-- fields that are read so far -/
structure Rdn (ws : List (List UInt8)) (k : Nat) (fl : List Int) : Prop where
  len : fl.length = 6
  kind : ∀ m, kindP (ws.getD 1 []) = some m → fl.getD 1 0 = m
  num : ∀ j, j < k → j ≠ 1 → ∀ m, numP (ws.getD j []) = some m → fl.getD j 0 = m
theorem Rdn.skip {ws : List (List UInt8)} {k : Nat} {fl : List Int} (h : Rdn ws k fl) (hk : k = 1) : Rdn ws (k + 1) fl :=
  ⟨h.len, h.kind, fun j hj h1 m hm => h.num j (by omega) h1 m hm⟩
theorem Rdn.step {ws : List (List UInt8)} {k : Nat} {fl : List Int} (h : Rdn ws k fl) (hk : k ≠ 1) (h6 : k < 6) {n : Int} (hn : ∀ m, numP (ws.getD k []) = some m → n = m) : Rdn ws (k + 1) (fl.set k n) := by
  refine ⟨by rw [List.length_set]; exact h.len, fun m hm => ?_, fun j hj h1 m hm => ?_⟩
  · have := h.kind m hm
    rw [List.getD, List.getElem?_set_ne hk, ← List.getD]; exact this
  · by_cases hjk : j = k
    · subst hjk
      rw [List.getD, List.getElem?_set_self (by rw [h.len]; exact h6)]
      exact hn m hm
    · rw [List.getD, List.getElem?_set_ne (Ne.symm hjk), ← List.getD]
      exact h.num j (by omega) h1 m hm
def evOf (fl : List Int) : Ev := ⟨fl.getD 0 0, fl.getD 1 0, fl.getD 2 0, fl.getD 3 0, fl.getD 4 0, fl.getD 5 0⟩
theorem evOf_cells {fl : List Int} (h : fl.length = 6) : evc (evOf fl) = fl.map fun n => AV.i .i64 n := by
  match fl, h with
  | [a, b, c, d, e, f], _ => rfl
theorem evP_read {s : List UInt8} {fl : List Int} (h6 : (spl 32 s).length = 6) (h : Rdn (spl 32 s) 6 fl) : evP s = if okTo (spl 32 s) 6 = true ∧ (evOf fl).line = s then some (evOf fl) else none := by
  obtain ⟨ws, hws⟩ : ∃ ws, ws = spl 32 s := ⟨_, rfl⟩
  rw [← hws] at h6 h ⊢
  unfold evP
  rw [← hws]
  match ws, h6 with
  | [w0, w1, w2, w3, w4, w5], _ =>
    have hk := h.kind
    have h0 := h.num 0 (by omega) (by omega)
    have h2 := h.num 2 (by omega) (by omega)
    have h3 := h.num 3 (by omega) (by omega)
    have h4 := h.num 4 (by omega) (by omega)
    have h5 := h.num 5 (by omega) (by omega)
    have ho : okTo [w0, w1, w2, w3, w4, w5] 6 = ((kindP w1).isSome && (numP w0).isSome && (numP w2).isSome && (numP w3).isSome && (numP w4).isSome && (numP w5).isSome) := by
      simp [okTo, List.range, List.range.loop, Bool.and_assoc]
    rw [ho]
    simp only [List.getD_cons_zero, List.getD_cons_succ] at hk h0 h2 h3 h4 h5
    cases a0 : numP w0 <;> cases a1 : kindP w1 <;> cases a2 : numP w2 <;> cases a3 : numP w3 <;> cases a4 : numP w4 <;> cases a5 : numP w5 <;> simp [a0, a1, a2, a3, a4, a5]
    rename_i x0 x1 x2 x3 x4 x5
    have e : evOf fl = ⟨x0, x1, x2, x3, x4, x5⟩ := by
      unfold evOf
      rw [h0 _ a0, hk _ a1, h2 _ a2, h3 _ a3, h4 _ a4, h5 _ a5]
    rw [e]
theorem evOf_ok {s : List UInt8} {fl : List Int} (h6 : (spl 32 s).length = 6) (h : Rdn (spl 32 s) 6 fl) (ho : okTo (spl 32 s) 6 = true) : (evOf fl).ok := by
  obtain ⟨ws, hws⟩ : ∃ ws, ws = spl 32 s := ⟨_, rfl⟩
  rw [← hws] at h6 h ho
  match ws, h6 with
  | [w0, w1, w2, w3, w4, w5], _ =>
    have hk := h.kind
    have h0 := h.num 0 (by omega) (by omega)
    have h2 := h.num 2 (by omega) (by omega)
    have h3 := h.num 3 (by omega) (by omega)
    have h4 := h.num 4 (by omega) (by omega)
    have h5 := h.num 5 (by omega) (by omega)
    have ho2 : okTo [w0, w1, w2, w3, w4, w5] 6 = ((kindP w1).isSome && (numP w0).isSome && (numP w2).isSome && (numP w3).isSome && (numP w4).isSome && (numP w5).isSome) := by
      simp [okTo, List.range, List.range.loop, Bool.and_assoc]
    rw [ho2] at ho
    simp only [Bool.and_eq_true, Option.isSome_iff_exists] at ho
    obtain ⟨⟨⟨⟨⟨⟨x1, a1⟩, ⟨x0, a0⟩⟩, ⟨x2, a2⟩⟩, ⟨x3, a3⟩⟩, ⟨x4, a4⟩⟩, ⟨x5, a5⟩⟩ := ho
    simp only [List.getD_cons_zero, List.getD_cons_succ] at hk h0 h2 h3 h4 h5
    intro x hx
    simp only [Ev.l, evOf, List.mem_cons, List.not_mem_nil, or_false] at hx
    rcases hx with rfl | rfl | rfl | rfl | rfl | rfl
    · rw [h0 _ a0]; exact numP_fits a0
    · rw [hk _ a1]; exact kindP_fits a1
    · rw [h2 _ a2]; exact numP_fits a2
    · rw [h3 _ a3]; exact numP_fits a3
    · rw [h4 _ a4]; exact numP_fits a4
    · rw [h5 _ a5]; exact numP_fits a5
def ic (fl : List Int) : List AV := fl.map fun n => AV.i .i64 n
theorem ic_len (fl : List Int) : (ic fl).length = fl.length := by simp [ic]
theorem ic_one (fl : List Int) : (ic fl).all AV.one = true := by simp [ic]
theorem ic_set (fl : List Int) (k : Nat) (n : Int) : (ic fl).set k (.i .i64 n) = ic (fl.set k n) := by simp [ic]
theorem sameIc (fl : List Int) : sameL (ic fl) (ic fl) = true := sameL_self _ fun v hv => by
  obtain ⟨n, _, rfl⟩ := List.mem_map.1 hv
  exact same1_int n _
theorem event_spec (hf : H_trace_event N F) (X : TX N F t) {s : List UInt8} (hs : s.length < 1000000000) (L : Lg) : CallL F (N k_trace_event) [.s s] L fun r L' => (∃ e : Ev, r = .tup [.agg (evc e), .b (evP s).isSome] ∧ ∀ x, evP s = some x → e = x) ∧ Ext2 L L' := by
  refine CallL.opq ?_
  intro Q hQ
  apply r_trace_event hf.code
  unfold D_trace_event_1
  simp
  intro b2 hb2
  have main : ∀ E : Env, E 0 = .s s → E 2 = .p (some (b2, 0)) → D_trace_event_2 F N Q E (L.put b2 (.raw (.cells (ic [0, 0, 0, 0, 0, 0])))) := by
    intro E e0 e2
    generalize hK : L.put b2 (.raw (.cells (ic [0, 0, 0, 0, 0, 0]))) = K
    have hb : K b2 = some (.raw (.cells (ic [0, 0, 0, 0, 0, 0]))) := by rw [← hK]; exact Lg.put_same _ _ _
    unfold D_trace_event_2
    rw [e0]
    refine (split_spec X.split hs K).mono ?_
    rintro _ _ ⟨b, hKb, rfl, rfl⟩
    have hbb : b ≠ b2 := by rintro rfl; rw [hKb] at hb; cases hb
    have hLb : L b = none := by rw [← hK, Lg.put_ne _ _ _ hbb] at hKb; exact hKb
    obtain ⟨B0, hB0⟩ : ∃ B0, B0 = L.put b (.raw (.cells ((spl 32 s).map .s))) := ⟨_, rfl⟩
    have hLB : Ext2 L B0 := by rw [hB0]; exact (Ext2.refl L).put hLb _
    have hBb : B0 b = some (.raw (.cells ((spl 32 s).map .s))) := by rw [hB0]; exact Lg.put_same _ _ _
    have hB2 : B0 b2 = none := by rw [hB0, Lg.put_ne _ _ _ hbb.symm]; exact hb2
    have hK1 : K.put b (.raw (.cells ((spl 32 s).map .s))) = B0.put b2 (.raw (.cells (ic [0, 0, 0, 0, 0, 0]))) := by rw [hB0, ← hK, Lg.put_comm _ hbb.symm]
    rw [hK1]
    clear hK1 hK hb hKb K
    have hwl : ∀ w, w ∈ spl 32 s → w.length < 1000000000 := fun w hw => by have := spl_short 32 s w hw; omega
    generalize hws : spl 32 s = ws at *
    have hself : ∀ (K : Lg) c, (K.put b2 c) b2 = some c := fun K c => Lg.put_same _ _ _
    have extp : ∀ {K : Lg} c, Ext2 B0 K → Ext2 B0 (K.put b2 c) := fun c h r d hd => by
      rw [Lg.put_ne _ _ _ (by rintro rfl; rw [hB2] at hd; cases hd)]; exact h _ _ hd
    have hr6 : ∀ {K : Lg} {fl : List Int}, fl.length = 6 → K b2 = some (.raw (.cells (ic fl))) → rdL K (b2, 0) (some 6) = some (.agg (ic fl)) := fun h6 hk => by
      rw [rdL_cells hk (by rw [ic_len, h6]; omega)]
      have : (ic _).take 6 = ic _ := List.take_of_length_le (by rw [ic_len, h6]; omega)
      rw [List.drop_zero, this]
    have fin : ∀ {K : Lg} {fl : List Int} (o : Bool), fl.length = 6 → K b2 = some (.raw (.cells (ic fl))) → Ext2 L K → (evP s).isSome = o → (∀ x, evP s = some x → evOf fl = x) →
        fin1 (resVL Env.nil Env.nil K [.cell (.c (.p (some (b2, 0)))) (some 6), .tmp (.c (.b o))]) Q K := by
      intro K fl o h6 hk hx ho he
      rw [res_cell_tmp K _ hk (by rw [ic_len, h6]; omega)]
      have : (ic fl).take 6 = ic fl := List.take_of_length_le (by rw [ic_len, h6]; omega)
      rw [List.drop_zero, this]
      exact ⟨_, Sees.refl _, hQ _ _ ⟨⟨evOf fl, by rw [evOf_cells h6, ho]; rfl, he⟩, hx⟩⟩
    unfold D_trace_event_3
    by_cases h6 : ¬ ws.length = 6
    · have hnone : evP s = none := by
        unfold evP
        rw [hws]
        split
        · exact absurd rfl h6
        · rfl
      have c1 : ¬ ((ws.length : Int) = 6) := by omega
      have hz := hself B0 (.raw (.cells (ic [0, 0, 0, 0, 0, 0])))
      simp [e2, c1, hr6 (fl := [0, 0, 0, 0, 0, 0]) rfl hz]
      rw [stL_cells hz (ic_one _) (by rw [ic_len]; rfl) (by rw [ic_len]; simp), Lg.put_put]
      have hsp : splice (ic [0, 0, 0, 0, 0, 0]) 0 (ic [0, 0, 0, 0, 0, 0]) = ic [0, 0, 0, 0, 0, 0] := rfl
      rw [hsp]
      have e2' : (E.put 4 (.sl (some (b, 0)) ws.length ws.length 0)) 2 = .p (some (b2, 0)) := by simp [e2]
      rw [e2']
      exact fin (fl := [0, 0, 0, 0, 0, 0]) false rfl (hself _ _) (hLB.trans (extp _ (Ext2.refl _))) (by rw [hnone]; rfl) (fun x hx => by rw [hnone] at hx; cases hx)
    have h6 : ws.length = 6 := Classical.not_not.1 h6
    have hcell : ∀ k, k < 6 → (ws.map AV.s)[k]? = some (.s (ws.getD k [])) := fun k hk => by
      rw [List.getElem?_map, List.getD, List.getElem?_eq_getElem (by omega)]; rfl
    have hmem : ∀ k, k < 6 → ws.getD k [] ∈ ws := fun k hk => by
      rw [List.getD, List.getElem?_eq_getElem (by omega)]; exact List.getElem_mem _
    have i1 : ∀ (k : Nat) M q, k < 6 → wpOp F (.iad 1) [.sl (some (b, 0)) ws.length ws.length 0, .i .i64 (k : Int)] M q = q (.p (some (b, k))) M := fun k M q hk => by
      rw [wp_iad (F := F) (L := M) (k := q) 1 b 0 ws.length ws.length 0 .i64 (k : Int) (by omega) (by omega)]
      simp
    have rw1 : ∀ (k : Nat) (M : Lg), k < 6 → Ext2 B0 M → rdL M (b, k) none = some (.s (ws.getD k [])) := fun k M hk hx => by
      rw [rdL_cell (hx _ _ hBb)]; exact hcell k hk
    have c1 : ((ws.length : Int) = 6) := by omega
    simp only [show (6 : Int) = ((6 : Nat) : Int) from rfl] at c1
    have hz := hself B0 (.raw (.cells (ic [0, 0, 0, 0, 0, 0])))
    simp [h6]
    unfold D_trace_event_4
    have j1 : ∀ q, wpOp F (.iad 1) [.sl (some (b, 0)) 6 6 0, .i .i64 1] (B0.put b2 (.raw (.cells (ic [0, 0, 0, 0, 0, 0])))) q = q (.p (some (b, 1))) (B0.put b2 (.raw (.cells (ic [0, 0, 0, 0, 0, 0])))) := fun q => by
      have := i1 1 (B0.put b2 (.raw (.cells (ic [0, 0, 0, 0, 0, 0])))) q (by omega)
      rw [h6] at this
      exact this
    simp [j1, rw1 1 _ (by omega) (extp _ (Ext2.refl B0))]
    refine (kind_spec hf.trace_kind X.fields X.atoi (hwl _ (hmem 1 (by omega))) _).mono ?_
    rintro _ K2 ⟨⟨n1, rfl, hn1⟩, x2⟩
    have hz2 := x2 _ _ hz
    simp [e2]
    rw [stL_cell hz2 (by rw [ic_len]; simp) (by simp), ic_set]
    have xB2 : Ext2 B0 (K2.put b2 (.raw (.cells (ic ([0, 0, 0, 0, 0, 0].set 1 n1))))) := extp _ ((extp _ (Ext2.refl B0)).trans x2)
    have hb3 := hself K2 (.raw (.cells (ic ([0, 0, 0, 0, 0, 0].set 1 n1))))
    generalize K2.put b2 (.raw (.cells (ic ([0, 0, 0, 0, 0, 0].set 1 n1)))) = K3 at xB2 hb3 ⊢
    have rd1 : Rdn ws 0 ([0, 0, 0, 0, 0, 0].set 1 n1) := ⟨rfl, fun m hm => hn1 m hm, fun j hj => by omega⟩
    have ok1 : okTo ws 0 = (kindP (ws.getD 1 [])).isSome := by simp [okTo]
    unfold D_trace_event_7
    simp [e2]
    obtain ⟨ptrs, hptrs⟩ : ∃ ptrs : List AV, ptrs = [.p (some (b2, 0)), .p none, .p (some (b2, 2)), .p (some (b2, 3)), .p (some (b2, 4)), .p (some (b2, 5))] := ⟨_, rfl⟩
    have hfill : fillP (reps [AV.p none] 6) ([0, 2, 3, 4, 5].map fun i => (i * 1, 1)) [.p (some (b2, 0)), .p (some (b2, 2)), .p (some (b2, 3)), .p (some (b2, 4)), .p (some (b2, 5))] = some ptrs := by
      rw [hptrs]; simp [reps, fillP, splice, ble_nat, beq_nat, AV.cellsOf]
    rw [newL_bslice (c := ptrs) _ _ hfill (by rw [hptrs]; rfl)]
    intro b6 hb6
    have hb62 : b6 ≠ b2 := by rintro rfl; rw [hb6] at hb3; cases hb3
    obtain ⟨B1, hB1⟩ : ∃ B1, B1 = B0.put b6 (.raw (.cells ptrs)) := ⟨_, rfl⟩
    have hB06 : B0 b6 = none := xB2.none hb6
    have xB01 : Ext2 B0 B1 := by rw [hB1]; exact (Ext2.refl B0).put hB06 _
    have hB16 : B1 b6 = some (.raw (.cells ptrs)) := by rw [hB1]; exact Lg.put_same _ _ _
    have hB12 : B1 b2 = none := by rw [hB1, Lg.put_ne _ _ _ hb62.symm]; exact hB2
    have x4 : Ext2 B1 (K3.put b6 (.raw (.cells ptrs))) := by
      intro r d hd
      rw [hB1] at hd
      by_cases hr : r = b6
      · subst hr; rw [Lg.put_same] at hd ⊢; exact hd
      · rw [Lg.put_ne _ _ _ hr] at hd ⊢; exact xB2 _ _ hd
    have hb4 : (K3.put b6 (.raw (.cells ptrs))) b2 = some (.raw (.cells (ic ([0, 0, 0, 0, 0, 0].set 1 n1)))) := by rw [Lg.put_ne _ _ _ hb62.symm]; exact hb3
    generalize K3.put b6 (.raw (.cells ptrs)) = K4 at x4 hb4
    have extq : ∀ {K : Lg} c, Ext2 B1 K → Ext2 B1 (K.put b2 c) := fun c h r d hd => by
      rw [Lg.put_ne _ _ _ (by rintro rfl; rw [hB12] at hd; cases hd)]; exact h _ _ hd
    have hp : ∀ k, k < 6 → ptrs[k]? = some (if k = 1 then .p none else .p (some (b2, k))) := fun k hk => by
      rw [hptrs]
      match k, hk with
      | 0, _ | 1, _ | 2, _ | 3, _ | 4, _ | 5, _ => rfl
    simp
    unfold D_trace_event_9
    obtain ⟨I, hI⟩ : ∃ I : Nat → Env → Lg → Prop, I = fun m E K' => ∃ (k : Nat) (fl : List Int), m + k = 6 ∧ Ext2 B1 K' ∧ K' b2 = some (.raw (.cells (ic fl))) ∧ Rdn ws k fl ∧ E 0 = .s s ∧ E 2 = .p (some (b2, 0)) ∧ E 3 = .b (okTo ws k) ∧ E 4 = .sl (some (b, 0)) ws.length ws.length 0 ∧ E 28 = .sl (some (b6, 0)) 6 6 0 ∧ E 29 = .i .i64 6 ∧ E 30 = .i .i64 k := ⟨_, rfl⟩
    refine loopW_intro I 6 ?_ ?_
    · rw [hI]
      exact ⟨0, _, by omega, x4, hb4, rd1, by simp [e0], by simp [e2], by simp [ok1], by simp [h6], by simp, by simp, by simp⟩
    intro m E t K' hi
    rw [hI] at hi
    obtain ⟨k, fl, hm, y1, y2, y3, g0, g2, g3, g4, g28, g29, g30⟩ := hi
    unfold D_trace_event_10
    rw [g28, g29, g30]
    by_cases hk : ¬ k < 6
    · have hk6 : k = 6 := by omega
      subst hk6
      have hev := evP_read (s := s) (by rw [hws]; exact h6) (by rw [hws]; exact y3)
      rw [hws] at hev
      have hr := hr6 y3.len y2
      simp
      unfold D_trace_event_6
      rw [g0, g2, g3]
      have hxL : Ext2 L K' := hLB.trans (xB01.trans y1)
      cases ho : okTo ws 6 with
      | false =>
        have hnone : evP s = none := by rw [hev, ho]; simp
        simp [hr]
        rw [stL_cells y2 (ic_one _) (by rw [ic_len, y3.len]) (by rw [ic_len, y3.len]; omega)]
        have hsp : splice (ic fl) 0 (ic fl) = ic fl := by rw [splice_all, List.drop_eq_nil_of_le (Nat.le_refl _), List.append_nil]
        rw [hsp]
        refine ⟨⟨by simp [againV, semRL, rLdL, hr, sameV, sameIc], trivial⟩, ?_⟩
        exact fin false y3.len (hself _ _) (fun r d hd => by rw [Lg.put_ne _ _ _ (by rintro rfl; rw [hb2] at hd; cases hd)]; exact hxL _ _ hd) (by rw [hnone]; rfl) (fun x hx => by rw [hnone] at hx; cases hx)
      | true =>
        have hok := evOf_ok (s := s) (by rw [hws]; exact h6) (by rw [hws]; exact y3) (by rw [hws]; exact ho)
        have hag : ic fl = evc (evOf fl) := (evOf_cells y3.len).symm
        simp [hr]
        rw [hag]
        refine (line_spec hf.trace_Line X.toLX hok K').mono ?_
        rintro _ K5 ⟨rfl, x5⟩
        have hr5 := hr6 y3.len (x5 _ _ y2)
        simp
        rw [← hag, stL_cells (x5 _ _ y2) (ic_one _) (by rw [ic_len, y3.len]) (by rw [ic_len, y3.len]; omega)]
        have hsp : splice (ic fl) 0 (ic fl) = ic fl := by rw [splice_all, List.drop_eq_nil_of_le (Nat.le_refl _), List.append_nil]
        rw [hsp]
        refine ⟨⟨by simp [againV, semRL, rLdL, hr, hr5, sameV, sameIc], trivial⟩, ?_⟩
        have hev2 : evP s = if (evOf fl).line = s then some (evOf fl) else none := by rw [hev, ho]; simp
        refine fin (decide ((evOf fl).line = s)) y3.len (hself _ _) (fun r d hd => by rw [Lg.put_ne _ _ _ (by rintro rfl; rw [hb2] at hd; cases hd)]; exact (hxL.trans x5) _ _ hd) ?_ ?_
        · rw [hev2]; by_cases h9 : (evOf fl).line = s <;> simp [h9]
        · intro x hx
          rw [hev2] at hx
          split at hx
          · cases hx; rfl
          · cases hx
    have hk : k < 6 := by omega
    have c2 : (k : Int) < 6 := by omega
    have i6 := fun M q => wp_iad (F := F) (L := M) (k := q) 1 b6 0 6 6 0 .i64 (k : Int) (by omega) (by omega)
    have r6 : rdL K' (b6, k) none = some (if k = 1 then .p none else .p (some (b2, k))) := by rw [rdL_cell (y1 _ _ hB16)]; exact hp k hk
    have w1 : wr .i64 ((k : Int) + 1) = ((k + 1 : Nat) : Int) := by rw [wr_id (by omega) (by omega)]; omega
    by_cases hk1 : k = 1
    · subst hk1
      have r6' : rdL K' (b6, 1) none = some (.p none) := r6
      have i6' : ∀ (M : Lg) (q : AV → Lg → Prop), wpOp F (.iad 1) [.sl (some (b6, 0)) 6 6 0, .i .i64 1] M q = q (.p (some (b6, 1))) M := fun M q => by have := i6 M q; simpa using this
      have w1' : wr .i64 2 = (2 : Int) := wr_id (by omega) (by omega)
      simp [i6', r6', w1']
      refine ⟨4, by omega, ?_⟩
      rw [hI]
      refine ⟨2, fl, by omega, y1, y2, y3.skip rfl, by simp [g0], by simp [g2], ?_, by simp [g4], by simp [g28], by simp [g29], by simp⟩
      rw [okTo_succ]; simp [g3]
    · rw [if_neg hk1] at r6
      simp [c2, i6, r6, g4, i1 k _ _ hk, rw1 k _ hk (xB01.trans y1)]
      refine (atoi_spec X.atoi (hwl _ (hmem k hk)) K').mono ?_
      rintro _ K5 ⟨⟨n, u, rfl, hr⟩, hK5⟩
      rw [hK5]; clear hK5 K5
      have hu : ∃ o : Bool, o = (numP (ws.getD k [])).isSome ∧ (∀ m, numP (ws.getD k []) = some m → n = m) ∧ ∀ (M : Lg) (q : AV → Lg → Prop), wpOp F (.eq false .ifcn) [u, .nili] M q = q (.b o) M := by
        rcases hr with ⟨h1, rfl⟩ | ⟨h1, rfl⟩
        · exact ⟨true, (by rw [h1]; rfl), (fun m hm => by rw [h1] at hm; cases hm; rfl), fun M q => by simp⟩
        · exact ⟨false, (by rw [h1]; rfl), (fun m hm => by rw [h1] at hm; cases hm), fun M q => by simp⟩
      obtain ⟨o, ho, hn, heq⟩ := hu
      have nx : ∀ E' : Env, E' 0 = .s s → E' 2 = .p (some (b2, 0)) → E' 3 = .b (okTo ws k && o) → E' 4 = .sl (some (b, 0)) ws.length ws.length 0 → E' 28 = .sl (some (b6, 0)) 6 6 0 → E' 29 = .i .i64 6 → E' 30 = .i .i64 ((k + 1 : Nat) : Int) →
          ∃ m_1, m_1 < m ∧ I m_1 E' (K'.put b2 (.raw (.cells (ic (fl.set k n))))) := by
        intro E' a0 a2 a3 a4 a28 a29 a30
        refine ⟨6 - (k + 1), by omega, ?_⟩
        rw [hI]
        refine ⟨k + 1, fl.set k n, by omega, extq _ y1, hself _ _, y3.step hk1 hk hn, a0, a2, ?_, a4, a28, a29, a30⟩
        rw [okTo_succ, a3, ho]; simp [hk1]
      have hst : ∀ q, stL 1 K' q [.p (some (b2, k)), .i .i64 n] = q .bad (K'.put b2 (.raw (.cells (ic (fl.set k n))))) := fun q => by
        rw [stL_cell y2 (by rw [ic_len, y3.len]; exact hk) (by simp), ic_set]
      cases hok : okTo ws k with
      | false =>
        have g3' : E 3 = .b false := by rw [g3, hok]
        simp [g3', hst, w1]
        refine nx _ ?_ ?_ ?_ ?_ ?_ ?_ ?_ <;> simp [g0, g2, hok, g4, g28, g29]
      | true =>
        have g3' : E 3 = .b true := by rw [g3, hok]
        simp [g3', heq, hst, w1]
        refine nx _ ?_ ?_ ?_ ?_ ?_ ?_ ?_ <;> simp [g0, g2, hok, g4, g28, g29]
  exact main _ (by simp) (by simp)
end Go.AM


/- trace: Parse, First. -/
set_option linter.unusedVariables false
set_option linter.unusedSimpArgs false
namespace Go.AM
variable {N : Nat → Nat} {F : Nat → Option AFn} {t : Nat}
open Go.Lib (itoa atoiAll)
theorem iEq_deq (a b : Int) : iEq a b = decide (a = b) := by rw [iEq_eq]; by_cases h : a = b <;> simp [h]
theorem eqAt_evc (x y : Ev) : eqAt (evc x) (evc y) [(0, 1), (1, 1), (2, 1), (3, 1), (4, 1), (5, 1)] = some (decide (x = y)) := by
  obtain ⟨a, b, c, d, e, f⟩ := x
  obtain ⟨a', b', c', d', e', f'⟩ := y
  by_cases h1 : a = a' <;> by_cases h2 : b = b' <;> by_cases h3 : c = c' <;> by_cases h4 : d = d' <;> by_cases h5 : e = e' <;> by_cases h6 : f = f' <;> simp [evc, eqAt, eqOne, iEq_deq, h1, h2, h3, h4, h5, h6]
def outP (L : Lg) (s : List UInt8) (v : AV) : Prop := match pF s with
  | some l => ∃ out, v = .tup [out, .i .i64 0] ∧ SlG evc 6 L out l ∧ out.one = true
  | none => v = .tup [.sl none 0 0 0, .i .i64 2]
theorem parse_spec (hf : H_trace_Parse N F) (X : TX N F t) {s : List UInt8} (hs : s.length < 1000000000) (L : Lg) : CallL F (N k_trace_Parse) [.s s] L fun r L' => outP L' s r ∧ Ext2 L L' := by
  refine CallL.opq ?_
  intro Q hQ
  apply r_trace_Parse hf.code
  unfold D_trace_Parse_1 D_trace_Parse_5
  obtain ⟨I, hI⟩ : ∃ I : Nat → Env → Lg → Prop, I = fun m E K' => ∃ (rest : List UInt8) (dn : List Ev), m = rest.length ∧ dn.length + rest.length ≤ s.length ∧ E 0 = .s rest ∧ GS evc 6 L K' (E 2) dn ∧ pF s = (pF rest).map (dn ++ ·) := ⟨_, rfl⟩
  refine loopW_intro I s.length ?_ ?_
  · rw [hI]
    refine ⟨s, [], rfl, by simp, by simp, by simpa using GS.start evc 6 (Ext2.refl L), by cases pF s <;> simp⟩
  intro m E t K' hi
  rw [hI] at hi
  obtain ⟨rest, dn, hm, hle, e0, gs, hp⟩ := hi
  unfold D_trace_Parse_6
  rw [e0]
  by_cases hr : rest = []
  · subst hr
    simp [D_trace_Parse_3]
    refine ⟨_, Sees.refl _, hQ _ _ ⟨?_, gs.ext⟩⟩
    unfold outP
    rw [hp, pF_nil]
    exact ⟨E 2, rfl, by simpa using SlG.of_own evc_len gs.own, gs.one⟩
  simp [hr]
  have hrl : rest.length < 1000000000 := by omega
  refine (cut_spec X.cut hrl K').mono ?_
  rintro _ K2 ⟨rfl, hK2⟩
  rw [hK2]; clear hK2 K2
  simp
  have bad : ∀ K3, Ext2 K' K3 → pF rest = none → fin1 (some (.tup [.sl none 0 0 0, .i .i64 2])) Q K3 := fun K3 hx hn => by
    refine ⟨_, Sees.refl _, hQ _ _ ⟨?_, gs.ext.trans hx⟩⟩
    unfold outP
    rw [hp, hn]; rfl
  have hz : fillP (reps [AV.i .i64 0, .i .i64 0, .i .i64 0, .i .i64 0, .i .i64 0, .i .i64 0] 1) = fillP (reps [AV.i .i64 0, .i .i64 0, .i .i64 0, .i .i64 0, .i .i64 0, .i .i64 0] 1) := rfl
  rcases find_byte 10 rest with h10 | ⟨w, r, hwr, h10⟩
  · rw [cut_miss h10]
    refine (event_spec hf.trace_event X (by simpa using hrl) K').mono ?_
    rintro _ K3 ⟨⟨e, rfl, he⟩, x3⟩
    simp
    intro b9 hb9
    rw [stL_cells (Lg.put_same _ _ _) (evc_one e) (evc_len e) (by simp), Lg.put_put]
    have x4 : Ext2 K' (K3.put b9 (.raw (.cells (splice [AV.i .i64 0, .i .i64 0, .i .i64 0, .i .i64 0, .i .i64 0, .i .i64 0] 0 (evc e))))) := x3.trans ((Ext2.refl K3).put hb9 _)
    cases (evP rest).isSome <;> simp <;> exact bad _ x4 (pF_miss h10 hr)
  · subst hwr
    rw [cut_hit r h10]
    have hwl : w.length < 1000000000 := by simp at hrl; omega
    refine (event_spec hf.trace_event X hwl K').mono ?_
    rintro _ K3 ⟨⟨e, rfl, he⟩, x3⟩
    simp
    intro b9 hb9
    rw [stL_cells (Lg.put_same _ _ _) (evc_one e) (evc_len e) (by simp), Lg.put_put]
    have hsp : splice [AV.i .i64 0, .i .i64 0, .i .i64 0, .i .i64 0, .i .i64 0, .i .i64 0] 0 (evc e) = evc e := rfl
    rw [hsp]
    have x4 : Ext2 K' (K3.put b9 (.raw (.cells (evc e)))) := x3.trans ((Ext2.refl K3).put hb9 _)
    cases hev : evP w with
    | none =>
      simp
      exact bad _ x4 (by rw [pF_hit h10, hev]; rfl)
    | some e' =>
      have := he e' hev
      subst this
      have r9 : rdL (K3.put b9 (.raw (.cells (evc e)))) (b9, 0) (some 6) = some (.agg (evc e)) := by rw [rdL_cells (Lg.put_same _ _ _) (by rw [evc_len]; omega)]; rfl
      simp [r9]
      refine (gs.mono x4).push evc_len evc_one (by omega) (x := e) (fill_agg (zs := [.i .i64 0, .i .i64 0, .i .i64 0, .i .i64 0, .i .i64 0, .i .i64 0]) (evc_one e) (evc_len e) rfl) ?_ fun o K5 g5 => ?_
      · simp at hle; omega
      · refine ⟨r.length, ?_, ?_⟩
        · simp at hm; omega
        · rw [hI]
          refine ⟨r, dn ++ [e], rfl, by simp at hle ⊢; omega, by simp, by simpa using g5, ?_⟩
          rw [hp, pF_hit h10, hev]
          cases pF r <;> simp
theorem firstT_spec (hf : H_trace_First N F) {L : Lg} {u v : AV} {a b : List Ev} (ha : SlQ evc 6 L u a) (hb : SlQ evc 6 L v b) (hla : a.length ≤ 1000000) : CallL F (N k_trace_First) [u, v] L fun r L' => r = .i .i64 (fstP a b 0) ∧ L' = L := by
  refine CallL.opq ?_
  intro Q hQ
  apply r_trace_First hf.code
  unfold D_trace_First_1 D_trace_First_2
  have hlu := fun X k => ha.len (F := F) X k
  have hlv := fun X k => hb.len (F := F) X k
  obtain ⟨n, hn⟩ : ∃ n : Nat, n = min a.length b.length := ⟨_, rfl⟩
  have hmin : min (a.length : Int) (b.length : Int) = (n : Int) := by omega
  simp [hlu, hlv, hmin]
  unfold D_trace_First_5 D_trace_First_7
  obtain ⟨I, hI⟩ : ∃ I : Nat → Env → Lg → Prop, I = fun m E K' => ∃ k : Nat, m + k = n ∧ K' = L ∧ E 0 = u ∧ E 1 = v ∧ E 5 = .i .i64 n ∧ E 12 = .i .i64 n ∧ E 13 = .i .i64 k ∧ ∀ j, j < k → a[j]? = b[j]? ∧ j < a.length ∧ j < b.length := ⟨_, rfl⟩
  refine loopW_intro I n ?_ ?_
  · rw [hI]
    exact ⟨0, by omega, rfl, by simp, by simp, by simp, by simp, by simp, fun j hj => by omega⟩
  intro m E t K' hi
  rw [hI] at hi
  obtain ⟨k, hm, rfl, e0, e1, e5, e12, e13, hall⟩ := hi
  unfold D_trace_First_8
  rw [e0, e1, e5, e12, e13]
  have hd := fstP_drop a b k hall
  by_cases hk : ¬ k < n
  · have c1 : ¬ ((k : Int) < (n : Int)) := by omega
    simp [c1, D_trace_First_4, hlu, hlv]
    have hkn : k = n := by omega
    refine ⟨fun hl => ?_, fun hl => ?_⟩
    · refine ⟨_, Sees.refl _, hQ _ _ ⟨?_, rfl⟩⟩
      rw [hd, List.drop_eq_nil_of_le (by omega), List.drop_eq_nil_of_le (by omega)]; rfl
    · refine ⟨_, Sees.refl _, hQ _ _ ⟨?_, rfl⟩⟩
      rw [hd, ← hkn]
      rcases Nat.lt_or_ge a.length b.length with h9 | h9
      · rw [List.drop_eq_nil_of_le (show a.length ≤ k by omega), List.drop_eq_getElem_cons (show k < b.length by omega)]; rfl
      · rw [List.drop_eq_nil_of_le (show b.length ≤ k by omega), List.drop_eq_getElem_cons (show k < a.length by omega)]; rfl
  have hk : k < n := by omega
  have c1 : ((k : Int) < (n : Int)) := by omega
  have hka : k < a.length := by omega
  have hkb : k < b.length := by omega
  obtain ⟨q1, o1, h1, h2, h3⟩ := ha.get (F := F) (List.getElem?_eq_getElem hka)
  obtain ⟨q2, o2, h4, h5, h6⟩ := hb.get (F := F) (List.getElem?_eq_getElem hkb)
  have r1 := (h2 K' (SubL.refl _)).2
  have r2 := (h5 K' (SubL.refl _)).2
  have w1 : wr .i64 ((k : Int) + 1) = ((k + 1 : Nat) : Int) := by rw [wr_id (by omega) (by omega)]; omega
  simp [c1, h1, r1, h4, r2, wp_eqagg, eqAt_evc]
  by_cases heq : a[k] = b[k]
  · simp [heq, w1]
    refine ⟨n - (k + 1), by omega, ?_⟩
    rw [hI]
    refine ⟨k + 1, by omega, rfl, by simp [e0], by simp [e1], by simp [e5], by simp [e12], by simp, fun j hj => ?_⟩
    by_cases hjk : j = k
    · subst hjk; exact ⟨by rw [List.getElem?_eq_getElem hka, List.getElem?_eq_getElem hkb, heq], hka, hkb⟩
    · exact hall j (by omega)
  · simp [heq]
    refine ⟨_, Sees.refl _, hQ _ _ ⟨?_, rfl⟩⟩
    rw [hd, List.drop_eq_getElem_cons hka, List.drop_eq_getElem_cons hkb]
    simp [fstP, heq]
end Go.AM


/- trace: what the document fixes (awake); rows of events that are copied and held against each other. -/
set_option linter.unusedVariables false
set_option linter.unusedSimpArgs false
namespace Go.AM
variable {N : Nat → Nat} {F : Nat → Option AFn} {t : Nat}
open Go.Lib (itoa atoiAll)
def ev1 : Ev := ⟨3, 1, 0, 7, 0, 0⟩
theorem itoa_dig {n : Nat} (h : n < 10) : itoa (n : Int) = [UInt8.ofNat (48 + n)] := by
  unfold Lib.itoa
  rw [if_neg (by omega), Int.toNat_natCast, dig_small h]
theorem ev1_line : ev1.line = [51, 32, 116, 111, 108, 100, 32, 48, 32, 55, 32, 48, 32, 48] := by
  rw [line_join]
  have h3 : itoa 3 = [51] := itoa_dig (n := 3) (by omega)
  have h0 : itoa 0 = [48] := itoa_dig (n := 0) (by omega)
  have h7 : itoa 7 = [55] := itoa_dig (n := 7) (by omega)
  have hw : evWord 1 = [116, 111, 108, 100] := by decide
  simp only [Ev.words, ev1, h3, h0, h7, hw]
  rfl
theorem ev1_ok : ev1.ok := by intro x hx; simp only [Ev.l, ev1, List.mem_cons, List.not_mem_nil, or_false] at hx; rcases hx with rfl | rfl | rfl | rfl | rfl | rfl <;> rfl
theorem nil_slQ {α : Type} {f : α → List AV} {z : Nat} (L : Lg) : SlQ f z L (.sl none 0 0 0) [] := ⟨none, 0, 0, rfl, by simp, .inl rfl, .inl rfl⟩
theorem awake_spec (hf : H_tarpaulinlaw21_awake N F) (X : TX N F t) (L : Lg) : CallL F (N k_tarpaulinlaw21_awake) [] L fun v L' => v = .b true ∧ Ext2 L L' := by
  refine CallL.opq ?_
  intro Q hQ
  apply r_tarpaulinlaw21_awake hf.code
  unfold D_tarpaulinlaw21_awake_1 D_tarpaulinlaw21_awake_2
  simp [fillP, splice, ble_nat, beq_nat, AV.cellsOf]
  intro b hb
  rw [stL_cells (Lg.put_same _ _ _) (by rfl) (by rfl) (by simp), Lg.put_put]
  have hsp : splice [AV.i .i64 0, .i .i64 0, .i .i64 0, .i .i64 0, .i .i64 0, .i .i64 0] 0 [.i .i64 3, .i .i64 1, .i .i64 0, .i .i64 7, .i .i64 0, .i .i64 0] = evc ev1 := rfl
  rw [hsp]
  have x1 : Ext2 L (L.put b (.raw (.cells (evc ev1)))) := (Ext2.refl L).put hb _
  have hb1 : (L.put b (.raw (.cells (evc ev1)))) b = some (.raw (.cells (evc ev1))) := Lg.put_same _ _ _
  generalize L.put b (.raw (.cells (evc ev1))) = K1 at x1 hb1
  have t1 : [51, 32, 116, 111, 108, 100, 32, 48, 32, 55, 32, 48, 32, 48, 10] = textP [ev1] := by simp [textP, ev1_line]
  have p1 : pF (textP [ev1]) = some [ev1] := pF_text (by intro e he; simp at he; rw [he]; exact ev1_ok)
  have p2 : pF [51, 32, 116, 111, 108, 100, 32, 48, 32, 55, 32, 48, 32, 48] = none := pF_miss (by decide) (by simp)
  unfold D_tarpaulinlaw21_awake_3
  rw [t1]
  refine (parse_spec hf.trace_Parse X (by rw [← t1]; decide) K1).mono ?_
  rintro _ K2 ⟨o2, x2⟩
  unfold outP at o2
  rw [p1] at o2
  obtain ⟨out, rfl, q1, hone⟩ := o2
  simp
  unfold D_tarpaulinlaw21_awake_4
  refine (parse_spec hf.trace_Parse X (by decide) K2).mono ?_
  rintro _ K3 ⟨o3, x3⟩
  unfold outP at o3
  rw [p2] at o3
  subst o3
  simp
  unfold D_tarpaulinlaw21_awake_5
  have hb3 := x3 _ _ (x2 _ _ hb1)
  have r1 : rdL K3 (b, 0) (some 6) = some (.agg (evc ev1)) := by rw [rdL_cells hb3 (by rw [evc_len]; omega)]; rfl
  simp [r1]
  refine (line_spec hf.trace_Line X.toLX ev1_ok K3).mono ?_
  rintro _ K4 ⟨rfl, x4⟩
  have q4 := (q1.toQ.mono (x3.trans x4) : SlQ evc 6 K4 out [ev1])
  have hlen := fun X k => q4.len (F := F) X k
  have r4 : rdL K4 (b, 0) (some 6) = some (.agg (evc ev1)) := by rw [rdL_cells (x4 _ _ hb3) (by rw [evc_len]; omega)]; rfl
  obtain ⟨qb, qo, i1, g2, g3⟩ := q4.get (F := F) (i := 0) (x := ev1) rfl
  have i1' : ∀ (M : Lg) (k : AV → Lg → Prop), wpOp F (.iad 6) [out, .i .i64 0] M k = k (.p (some (qb, qo))) M := i1
  have r5 := (g2 K4 (SubL.refl _)).2
  simp [ev1_line, hlen, i1', r5, r4, wp_eqagg, eqAt_evc]
  refine (firstT_spec hf.trace_First q4 (nil_slQ K4) (by simp)).mono ?_
  rintro _ _ ⟨rfl, rfl⟩
  simp [fstP]
  refine (firstT_spec hf.trace_First q4 q4 (by simp)).mono ?_
  rintro _ K6 ⟨rfl, hK6⟩
  rw [hK6]; clear hK6 K6
  simp [fstP_self]
  refine (text_spec X.text q4 (by simp) (by intro e he; simp at he; rw [he]; exact ev1_ok)).mono ?_
  rintro _ K7 ⟨rfl, hK7⟩
  rw [hK7]; clear hK7 K7
  rw [← t1]
  simp
  exact ⟨_, Sees.refl _, hQ _ _ ⟨rfl, ((x1.trans x2).trans x3).trans x4⟩⟩
end Go.AM


/- the document's own words of trace: decimal, Line, Text, First. -/
set_option linter.unusedVariables false
set_option linter.unusedSimpArgs false
namespace Go.AM
open Go.Lib (itoa decDigits)
variable {N : Nat → Nat} {F : Nat → Option AFn}
theorem wr_u64m (n : Int) : wr .u64 n = n % 18446744073709551616 := by rw [wr_eq]; rfl
theorem wr_u8 (n : Int) : wr .u8 n = n % 256 := by rw [wr_eq]; rfl
/-- what is made of a number so far, and what is left -/
def digI (m u : Nat) (d : List UInt8) : Prop := (d = [] ∧ u = m) ∨ (d ≠ [] ∧ (if u = 0 then d else decDigits u ++ d) = decDigits m)
theorem digI_step {m u : Nat} {d : List UInt8} (h : digI m u d) (hc : 0 < u ∨ d = []) : digI m (u / 10) (UInt8.ofNat (48 + u % 10) :: d) := by
  refine .inr ⟨by simp, ?_⟩
  have key : ∀ u : Nat, (if u / 10 = 0 then UInt8.ofNat (48 + u % 10) :: d else decDigits (u / 10) ++ UInt8.ofNat (48 + u % 10) :: d) = decDigits u ++ d := by
    intro u
    by_cases hu : u < 10
    · rw [if_pos (by omega), dig_small hu, show u % 10 = u by omega]; rfl
    · rw [if_neg (by omega), dig_big hu]; simp
  rw [key]
  rcases h with ⟨rfl, rfl⟩ | ⟨hd, h⟩
  · simp
  · have hu : u ≠ 0 := by
      rcases hc with h9 | h9
      · omega
      · exact absurd h9 hd
    rw [if_neg hu] at h
    exact h
theorem digI_len {m u : Nat} {d : List UInt8} (h : digI m u d) : d.length ≤ (decDigits m).length := by
  rcases h with ⟨rfl, _⟩ | ⟨_, h⟩
  · simp
  · split at h <;> rw [← h] <;> simp
theorem decimal_spec (hf : H_tarpaulinref17_decimal N F) {n : Int} (hn : fits n = true) (L : Lg) : CallL F (N k_tarpaulinref17_decimal) [.i .i64 n] L fun r L' => r = .s (itoa n) ∧ Ext2 L L' := by
  refine CallL.opq ?_
  intro Q hQ
  apply r_tarpaulinref17_decimal hf.code
  have hb : -9223372036854775808 ≤ n ∧ n < 9223372036854775808 := by
    cases n with
    | ofNat m =>
      simp only [fits, blt_nat, decide_eq_true_eq] at hn
      have e : (Int.ofNat m) = (m : Int) := rfl
      omega
    | negSucc m => simp only [fits, blt_nat, decide_eq_true_eq] at hn; omega
  have hlen := itoa_len hn
  unfold D_tarpaulinref17_decimal_1 D_tarpaulinref17_decimal_2 D_tarpaulinref17_decimal_3 D_tarpaulinref17_decimal_4
  have loop : ∀ (m : Nat) (sg : List UInt8) (E : Env), m < 18446744073709551616 → sg ++ decDigits m = itoa n → E 3 = .i .u64 m → E 4 = .s sg → D_tarpaulinref17_decimal_5 F N Q E L := by
    intro m sg E hm hsg e3 e4
    unfold D_tarpaulinref17_decimal_5 D_tarpaulinref17_decimal_9
    obtain ⟨I, hI⟩ : ∃ I : Nat → Env → Lg → Prop, I = fun k E K' => ∃ (u : Nat) (d : List UInt8), k = u + (if d = [] then 1 else 0) ∧ u < 18446744073709551616 ∧ Ext2 L K' ∧ E 3 = .i .u64 u ∧ E 4 = .s sg ∧ E 5 = .s d ∧ digI m u d := ⟨_, rfl⟩
    refine loopW_intro I (m + 1) ?_ ?_
    · rw [hI]
      exact ⟨m, [], by simp, hm, Ext2.refl L, by simp [e3], by simp [e4], by simp, .inl ⟨rfl, rfl⟩⟩
    intro k E' t' K' hi
    rw [hI] at hi
    obtain ⟨u, d, hk, hu, hx, e3', e4', e5, hd⟩ := hi
    have hdl := digI_len hd
    have hdm : (decDigits m).length ≤ 21 := by
      have : (sg ++ decDigits m).length ≤ 21 := by rw [hsg]; exact hlen
      simp at this; omega
    unfold D_tarpaulinref17_decimal_10
    rw [e3', e4', e5]
    have step : (0 < u ∨ d = []) → wpOp F (.bin .rem) [.i .u64 u, .i .u64 10] K' fun v5 L5 => wpOp F (.bin .add) [.i .u64 48, v5] L5 fun v6 L6 => wpOp F (.cvtI .u8) [v6] L6 fun v7 L7 => wpOp F (.bslice [.i .u8 0] 1 1 [0]) [v7] L7 fun v8 L8 => wpOp F .cvtB [v8] L8 fun v9 L9 => wpOp F (.sbin .add) [v9, .s d] L9 fun v10 L10 => wpOp F (.bin .quo) [.i .u64 u, .i .u64 10] L10 fun v11 L11 => ∃ k2 < k, I k2 (Env.put (Env.put E' 5 v10) 3 v11) L11 := by
      intro hc
      have w1 : wr .u64 (48 + (u : Int).tmod 10) = ((48 + u % 10 : Nat) : Int) := by
        rw [wr_u64m, Int.tmod_eq_emod_of_nonneg (by omega)]; omega
      have w2 : wr .u8 ((48 + u % 10 : Nat) : Int) = ((48 + u % 10 : Nat) : Int) := by rw [wr_u8]; omega
      have w3 : wr .u64 ((u : Int).tdiv 10) = ((u / 10 : Nat) : Int) := by
        rw [wr_u64m, Int.tdiv_eq_ediv_of_nonneg (by omega)]; omega
      rw [wp_rem _ _ _ _ _ _ (by decide)]
      have hfill : fillP (reps [AV.i .u8 0] 1) ([0].map fun i => (i * 1, 1)) [.i .u8 ((48 + u % 10 : Nat) : Int)] = some [.i .u8 ((48 + u % 10 : Nat) : Int)] := by
        simp [reps, fillP, splice, ble_nat, beq_nat, AV.cellsOf]
      simp only [wp_add, mark_eq, w1, wp_cvtI, w2, wp_bslice]
      rw [newL_bslice (c := [.i .u8 ((48 + u % 10 : Nat) : Int)]) _ _ hfill (by rfl)]
      intro b hb'
      have hr : rdCellsL (K'.put b (.raw (.cells [.i .u8 ((48 + u % 10 : Nat) : Int)]))) (some (b, 0)) 1 = some [.i .u8 ((48 + u % 10 : Nat) : Int)] := by
        simp [rdCellsL, Lg.put_same, AB.read, cut, ble_nat]
      have hcv : rCvtBL (K'.put b (.raw (.cells [.i .u8 ((48 + u % 10 : Nat) : Int)]))) [.sl (some (b, 0)) 1 1 0] = some (.s [UInt8.ofNat (48 + u % 10)]) := by
        simp only [rCvtBL, hr]
        rw [if_neg (by decide)]
        have : u8s [.i .u8 ((48 + u % 10 : Nat) : Int)] = some [UInt8.ofNat (48 + u % 10)] := by
          simp [u8s]
        rw [this]
      rw [wp_cvtB, hcv, retL_some]
      have b1 := binS_add (x := [UInt8.ofNat (48 + u % 10)]) (y := d) (by simp; omega)
      rw [wp_sbin, b1, retL_some, wp_quo _ _ _ _ _ _ (by decide), w3]
      refine ⟨u / 10 + (if (UInt8.ofNat (48 + u % 10) :: d) = [] then 1 else 0), ?_, ?_⟩
      · rw [hk, if_neg (by simp)]
        rcases hc with h9 | h9
        · omega
        · rw [if_pos h9]; omega
      · rw [hI]
        exact ⟨u / 10, UInt8.ofNat (48 + u % 10) :: d, rfl, by omega, hx.trans ((Ext2.refl K').put hb' _), by simp, by simp [e4'], by simp, digI_step hd hc⟩
    by_cases hu0 : 0 < u
    · have c1 : ((u : Int) > 0) := by omega
      simp only [wp_gtr, mark_eq, c1, decide_true, gdOp_tf, wp_pick_t, condW_t]
      exact step (.inl hu0)
    · have hu1 : u = 0 := by omega
      have c0 : decide ((u : Int) > 0) = false := by simp [hu1]
      have c3 : binS .eql d [] = some (.b (decide (d = []))) := by rw [binS_eql]
      simp only [wp_gtr, mark_eq, c0, gdOp_same, wp_mv, wp_sbin, c3, retL_some, wp_pick_f]
      by_cases hd0 : d = []
      · rw [condW_d]
        exact ⟨fun _ => step (.inr hd0), fun h9 => absurd hd0 h9⟩
      · have hq : decDigits m = d := by
          rcases hd with ⟨h9, _⟩ | ⟨_, h9⟩
          · exact absurd h9 hd0
          · rw [if_pos hu1] at h9; exact h9.symm
        have b1 := binS_add (x := sg) (y := d) (by
          have : (sg ++ decDigits m).length ≤ 21 := by rw [hsg]; exact hlen
          rw [hq] at this; simp at this; omega)
        rw [condW_d]
        refine ⟨fun h9 => absurd h9 hd0, fun _ => ?_⟩
        unfold D_tarpaulinref17_decimal_7
        rw [wp_sbin, b1, retL_some]
        refine ⟨_, Sees.refl _, hQ _ _ ⟨?_, hx⟩⟩
        rw [← hsg, hq]
  by_cases hneg : n < 0
  · have w1 : wr .u64 (-wr .u64 n) = (n.natAbs : Int) := by
      rw [wr_u64m, wr_u64m]; omega
    simp [hneg]
    refine loop n.natAbs [45] _ (by omega) ?_ (by simp [w1]) (by simp)
    unfold itoa
    rw [if_pos hneg]; rfl
  · have w1 : wr .u64 n = (n.toNat : Int) := by rw [wr_u64m]; omega
    simp [hneg, w1]
    refine loop n.toNat [] _ (by omega) ?_ (by simp [w1]) (by simp)
    unfold itoa
    rw [if_neg hneg]; rfl
def rwords : List (List UInt8) := [] :: evWords
theorem evWord_at {k : Int} (h1 : 1 ≤ k) (h2 : k ≤ 8) : rwords[k.toNat]? = some (evWord k) := by
  have : k = 1 ∨ k = 2 ∨ k = 3 ∨ k = 4 ∨ k = 5 ∨ k = 6 ∨ k = 7 ∨ k = 8 := by omega
  rcases this with rfl | rfl | rfl | rfl | rfl | rfl | rfl | rfl <;> rfl
theorem evWord_no {k : Int} (h : ¬ (1 ≤ k ∧ k ≤ 8)) : evWord k = itoa k := by
  unfold evWord; rw [if_neg h]
theorem line_flat (e : Ev) : e.line = itoa e.step ++ [32] ++ evWord e.kind ++ [32] ++ itoa e.task ++ [32] ++ itoa e.a ++ [32] ++ itoa e.b ++ [32] ++ itoa e.c := by
  rw [line_join]
  simp [Ev.words, Lib.join, inter_cons2]
theorem rline_spec (hf : H_tarpaulinref17_Line N F) {e : Ev} (he : e.ok) (L : Lg) : CallL F (N k_tarpaulinref17_Line) [.agg (evc e)] L fun r L' => r = .s e.line ∧ Ext2 L L' := by
  refine CallL.opq ?_
  intro Q hQ
  apply r_tarpaulinref17_Line hf.code
  unfold D_tarpaulinref17_Line_1
  simp
  rw [newL_box_agg _ _ _ (evc_one e)]
  intro b1 hb1
  have hb : (L.put b1 (.raw (.cells (evc e)))) b1 = some (.raw (.cells (evc e))) := Lg.put_same _ _ _
  have hext : Ext2 L (L.put b1 (.raw (.cells (evc e)))) := (Ext2.refl L).put hb1 _
  generalize L.put b1 (.raw (.cells (evc e))) = K at hb hext
  unfold D_tarpaulinref17_Line_2
  have hfill : fillP (reps [AV.s []] 9) ([0, 1, 2, 3, 4, 5, 6, 7, 8].map fun i => (i * 1, 1)) (rwords.map .s) = some (rwords.map .s) := by
    simp [reps, fillP, splice, ble_nat, beq_nat, AV.cellsOf, rwords, evWords]
  have hall : (rwords.map AV.s).all AV.one = true := by simp [rwords, evWords, AV.one]
  have hw : [AV.s [], AV.s [116, 111, 108, 100], AV.s [119, 97, 105, 116, 115], AV.s [103, 111, 101, 115], AV.s [101, 110, 100, 115], AV.s [115, 116, 97, 114, 116, 115], AV.s [102, 105, 114, 101, 115], AV.s [108, 97, 112, 115, 101, 115], AV.s [114, 101, 102, 117, 115, 101, 100]] = rwords.map .s := by rfl
  rw [hw]
  simp only [wp_bslice]
  rw [newL_bslice (c := rwords.map .s) _ _ hfill hall]
  intro b3 hb3
  have hw3 : (K.put b3 (.raw (.cells (rwords.map .s)))) b3 = some (.raw (.cells (rwords.map .s))) := Lg.put_same _ _ _
  have x3 : Ext2 K (K.put b3 (.raw (.cells (rwords.map .s)))) := (Ext2.refl K).put hb3 _
  generalize K.put b3 (.raw (.cells (rwords.map .s))) = K3 at hw3 x3
  have dec : ∀ z, z ∈ e.l → ∀ K, CallL F (N k_tarpaulinref17_decimal) [.i .i64 z] K fun r L' => r = .s (itoa z) ∧ Ext2 K L' := fun z hz K => decimal_spec hf.tarpaulinref17_decimal (he z hz) K
  have fld : ∀ (M : Lg), Ext2 K M → ∀ (j : Nat) (z : Int), (evc e)[j]? = some (.i .i64 z) → rdL M (b1, j) none = some (.i .i64 z) := fun M x j z hz => by rw [rdL_cell (x _ _ hb)]; exact hz
  unfold D_tarpaulinref17_Line_3
  have f1 := fld K3 x3 1 e.kind rfl
  simp [f1]
  refine (dec e.kind (by simp [Ev.l]) K3).mono ?_
  rintro _ K4 ⟨rfl, x4⟩
  have tail : ∀ (w : List UInt8) (K5 : Lg), w = evWord e.kind → Ext2 K4 K5 → D_tarpaulinref17_Line_5 F N Q (.p (some (b1, 0))) (.s w) K5 := by
    intro w K5 hw5 x5
    unfold D_tarpaulinref17_Line_5
    have y5 : Ext2 K K5 := (x3.trans x4).trans x5
    have lw : ∀ z, z ∈ e.l → (itoa z).length ≤ 21 := fun z hz => itoa_len (he z hz)
    have l0 := lw e.step (by simp [Ev.l])
    have l1 : (evWord e.kind).length ≤ 21 := word_len (he e.kind (by simp [Ev.l]))
    have l2 := lw e.task (by simp [Ev.l])
    have l3 := lw e.a (by simp [Ev.l])
    have l4 := lw e.b (by simp [Ev.l])
    have l5 := lw e.c (by simp [Ev.l])
    have ag : ∀ (M M' : Lg), Ext2 K M → Ext2 K M' → ∀ (j : Nat) (z : Int), (evc e)[j]? = some (.i .i64 z) → againV (.ld none) [.p (some (b1, j))] M M' := fun M M' x x' j z hz => by
      have h1 := fld M x j z hz
      have h2 := fld M' x' j z hz
      simp [againV, semRL, rLdL, h1, h2, sameV, same1, kEq, iEq_self]
    have add : ∀ x y : List UInt8, x.length ≤ 1000 → y.length ≤ 1000 → ∀ (M : Lg) (q : AV → Lg → Prop), wpOp F (.sbin .add) [.s x, .s y] M q = q (.s (x ++ y)) M := fun x y h1 h2 M q => by
      rw [wp_sbin, binS_add (by omega), retL_some]
    have fd : ∀ (M : Lg), Ext2 K M → ∀ (j : Nat) (z : Int), (evc e)[j]? = some (.i .i64 z) → ∀ q : AV → Lg → Prop, wpOp F (.ld none) [.p (some (b1, j))] M q = q (.i .i64 z) M := fun M x j z hz q => by simp [fld M x j z hz]
    have fa : ∀ (j : Nat) (M : Lg) (q : AV → Lg → Prop), wpOp F (.fad j) [.p (some (b1, 0))] M q = q (.p (some (b1, j))) M := fun j M q => by simp
    rw [fa, fd K5 y5 0 e.step rfl]
    refine (dec e.step (by simp [Ev.l]) K5).mono ?_
    rintro _ K6 ⟨rfl, x6⟩
    have y6 := y5.trans x6
    rw [add _ _ (by omega) (by simp), hw5, add _ _ (by simp; omega) (by omega), add _ _ (by simp; omega) (by simp), fa, fd K6 y6 2 e.task rfl]
    refine (dec e.task (by simp [Ev.l]) K6).mono ?_
    rintro _ K7 ⟨rfl, x7⟩
    have y7 := y6.trans x7
    rw [add _ _ (by simp; omega) (by omega), add _ _ (by simp; omega) (by simp), fa, fd K7 y7 3 e.a rfl]
    refine (dec e.a (by simp [Ev.l]) K7).mono ?_
    rintro _ K8 ⟨rfl, x8⟩
    have y8 := y7.trans x8
    rw [add _ _ (by simp; omega) (by omega), add _ _ (by simp; omega) (by simp), fa, fd K8 y8 4 e.b rfl]
    refine (dec e.b (by simp [Ev.l]) K8).mono ?_
    rintro _ K9 ⟨rfl, x9⟩
    have y9 := y8.trans x9
    rw [add _ _ (by simp; omega) (by omega), add _ _ (by simp; omega) (by simp), fa, fd K9 y9 5 e.c rfl]
    refine (dec e.c (by simp [Ev.l]) K9).mono ?_
    rintro _ K10 ⟨rfl, x10⟩
    rw [add _ _ (by simp; omega) (by omega)]
    refine ⟨⟨ag _ _ y6 y5 2 _ rfl, ag _ _ y7 y5 3 _ rfl, ag _ _ y7 y6 3 _ rfl, ag _ _ y8 y5 4 _ rfl, ag _ _ y8 y6 4 _ rfl, ag _ _ y8 y7 4 _ rfl, ag _ _ y9 y5 5 _ rfl, ag _ _ y9 y6 5 _ rfl, ag _ _ y9 y7 5 _ rfl, ag _ _ y9 y8 5 _ rfl, trivial⟩, ?_⟩
    exact ⟨_, Sees.refl _, hQ _ _ ⟨by rw [line_flat], (hext.trans y9).trans x10⟩⟩
  unfold D_tarpaulinref17_Line_4
  have f4 := fld K4 (x3.trans x4) 1 e.kind rfl
  have hiad : 1 ≤ e.kind → e.kind ≤ 8 → ∀ (M : Lg) (q : AV → Lg → Prop), Ext2 K4 M → (wpOp F (.iad 1) [.sl (some (b3, 0)) 9 9 0, .i .i64 e.kind] M fun v10 L10 => wpOp F (.ld none) [v10] L10 q) = q (.s (evWord e.kind)) M := by
    intro h1 h2 M q x
    obtain ⟨k, hk⟩ : ∃ k : Nat, (k : Int) = e.kind := ⟨e.kind.toNat, by omega⟩
    have hrd : rdL M (b3, 0 + k * 1) none = some (.s (evWord e.kind)) := by
      rw [rdL_cell (x _ _ (x4 _ _ hw3)), List.getElem?_map]
      have := evWord_at h1 h2
      rw [← hk, Int.toNat_natCast] at this
      rw [show 0 + k * 1 = k by omega, this, hk]; rfl
    rw [← hk] at hrd ⊢
    rw [wp_iad F M _ 1 b3 0 9 9 0 .i64 (k : Int) (by omega) (by omega)]
    simp at hrd
    simp [hrd]
  by_cases h1 : 1 ≤ e.kind
  · by_cases h2 : e.kind ≤ 8
    · have h3 := hiad h1 h2
      have n1 : ¬ e.kind < 1 := by omega
      have n2 : ¬ 8 < e.kind := by omega
      simp [f4, h1, h2, n1, n2]
      rw [h3 K4 _ (Ext2.refl _)]
      exact tail _ K4 rfl (Ext2.refl _)
    · have n2 : 8 < e.kind := by omega
      simp [f4, h1, h2, n2]
      exact tail _ K4 (evWord_no (by omega)).symm (Ext2.refl _)
  · have n1 : e.kind < 1 := by omega
    simp [f4, h1, n1]
    exact tail _ K4 (evWord_no (by omega)).symm (Ext2.refl _)
end Go.AM


/- TraceForms: a word that is none, a blank too many, a nought ahead .. make a text none. -/
set_option linter.unusedVariables false
set_option linter.unusedSimpArgs false
namespace Go.AM
open Go.Lib (itoa decDigits atoiAll)
variable {N : Nat → Nat} {F : Nat → Option AFn} {t : Nat}
theorem evP_words {s : List UInt8} {e : Ev} (h : evP s = some e) : spl 32 s = e.words ∧ e.ok := ⟨by rw [← evP_some h, spl_line], evP_ok h⟩
theorem evP_count {s : List UInt8} (h : (spl 32 s).length ≠ 6) : evP s = none := by
  cases h9 : evP s with
  | none => rfl
  | some e => exact absurd (by rw [(evP_words h9).1]; rfl) h
theorem dig_head (u : Nat) (h : 1 ≤ u) : ∃ c r, decDigits u = c :: r ∧ c ≠ 48 := by
  induction u using Nat.strongRecOn with
  | ind u ih =>
    by_cases hu : u < 10
    · refine ⟨_, _, dig_small hu, fun h9 => ?_⟩
      have := congrArg UInt8.toNat h9
      rw [toNat48 hu] at this
      have e : (48 : UInt8).toNat = 48 := rfl
      omega
    · obtain ⟨c, r, h1, h2⟩ := ih (u / 10) (by omega) (by omega)
      exact ⟨c, r ++ [UInt8.ofNat (48 + u % 10)], by rw [dig_big hu, h1]; rfl, h2⟩
theorem itoa_head0 {z : Int} {r : List UInt8} (h : itoa z = 48 :: r) : r = [] := by
  unfold itoa at h
  split at h
  · cases h
  · by_cases h0 : z.toNat = 0
    · rw [h0, dig_small (by omega)] at h
      exact (List.cons.inj h).2.symm
    · obtain ⟨c, r', h1, h2⟩ := dig_head z.toNat (by omega)
      rw [h1] at h
      exact absurd (List.cons.inj h).1 h2
def goesT : List UInt8 := [103, 111, 101, 115, 32, 45, 51, 32, 49, 32, 48, 32, 48]
def e0 (n : Int) : Ev := ⟨n, 3, -3, 1, 0, 0⟩
def dT (n : Int) : List UInt8 := itoa n ++ 32 :: goesT
theorem e0_line (n : Int) : (e0 n).line = dT n := by
  rw [line_flat]
  have h1 : itoa 1 = [49] := itoa_dig (n := 1) (by omega)
  have h0 : itoa 0 = [48] := itoa_dig (n := 0) (by omega)
  have h3 : itoa (-3) = [45, 51] := by
    unfold itoa
    rw [if_pos (by decide), show ((-3 : Int).natAbs) = 3 from rfl, dig_small (by omega)]; rfl
  simp only [e0, h1, h0, h3]
  unfold dT goesT
  have : evWord 3 = [103, 111, 101, 115] := rfl
  rw [this]
  simp
theorem no_in (z : Int) (c : UInt8) (h : c.toNat ≠ 45 ∧ ¬ (48 ≤ c.toNat ∧ c.toNat ≤ 57)) : c ∉ itoa z := fun h9 => by
  have := itoa_chars z c h9
  omega
theorem dT_no10 (n : Int) : (10 : UInt8) ∉ dT n := by
  unfold dT
  rw [List.mem_append]
  rintro (h | h)
  · exact no_in n 10 (by decide) h
  · revert h; decide
theorem spl_dT (n : Int) (R : List UInt8) : spl 32 (itoa n ++ 32 :: R) = itoa n :: spl 32 R := spl_word R (no_in n 32 (by decide))
def oddsT (n : Int) : List (List UInt8) := [dT n, dT n ++ [32], 32 :: dT n, 48 :: dT n, (dT n).take ((dT n).length - 2), dT n ++ [32, 48], dT n ++ [10], 120 :: dT n,
  [49, 32, 103, 111, 110, 101, 32, 48, 32, 48, 32, 48, 32, 48], [49, 32, 103, 111, 101, 115, 32, 45, 48, 32, 48, 32, 48, 32, 48], [49, 32, 103, 111, 101, 115, 32, 43, 49, 32, 48, 32, 48, 32, 48],
  [49, 32, 103, 111, 101, 115, 32, 57, 57, 57, 57, 57, 57, 57, 57, 57, 57, 57, 57, 57, 57, 57, 57, 57, 57, 57, 57, 32, 48, 32, 48, 32, 48], [49, 32, 32, 103, 111, 101, 115, 32, 48, 32, 48, 32, 48, 32, 48], []]
theorem pF_one {s : List UInt8} (h : (10 : UInt8) ∉ s) (he : evP s = none) : pF (s ++ [10]) = none := by
  rw [pF_hit (r := []) h, he]; rfl
theorem evP_nil : evP [] = none := evP_count (by decide)
theorem pF_nl : pF [10] = none := pF_one (s := []) (by simp) evP_nil
theorem take_dT (n : Int) : (dT n).take ((dT n).length - 2) = itoa n ++ 32 :: [103, 111, 101, 115, 32, 45, 51, 32, 49, 32, 48] := by
  have e : dT n = (itoa n ++ 32 :: [103, 111, 101, 115, 32, 45, 51, 32, 49, 32, 48]) ++ [32, 48] := by simp [dT, goesT]
  have hl : (dT n).length - 2 = (itoa n ++ 32 :: [103, 111, 101, 115, 32, 45, 51, 32, 49, 32, 48] : List UInt8).length := by rw [e]; simp
  rw [hl, e, List.take_left]
theorem odd_none (n : Int) : ∀ (i : Nat) (s : List UInt8), 1 ≤ i → (oddsT n)[i]? = some s → pF (s ++ [10]) = none := by
  have h10 := dT_no10 n
  have hno : ∀ R : List UInt8, (10 : UInt8) ∉ R → (10 : UInt8) ∉ itoa n ++ 32 :: R := fun R hR h => by
    rw [List.mem_append, List.mem_cons] at h
    rcases h with h | h | h
    · exact no_in n 10 (by decide) h
    · exact absurd h (by decide)
    · exact hR h
  intro i s hi hs
  have hlt : i < 14 := (List.getElem?_eq_some_iff.1 hs).1
  have : i = 1 ∨ i = 2 ∨ i = 3 ∨ i = 4 ∨ i = 5 ∨ i = 6 ∨ i = 7 ∨ i = 8 ∨ i = 9 ∨ i = 10 ∨ i = 11 ∨ i = 12 ∨ i = 13 := by omega
  rcases this with rfl | rfl | rfl | rfl | rfl | rfl | rfl | rfl | rfl | rfl | rfl | rfl | rfl <;> obtain rfl := Option.some.inj hs <;> clear hs hi hlt
  · have e : dT n ++ [32] = itoa n ++ 32 :: (goesT ++ [32]) := by simp [dT]
    rw [e]
    exact pF_one (hno _ (by decide)) (evP_count (by rw [spl_dT, List.length_cons]; decide))
  · exact pF_one (by simp [h10]) (evP_count (by
      have := spl_word (c := 32) (w := []) (dT n) (by simp)
      rw [List.nil_append] at this
      rw [this]
      unfold dT
      rw [spl_dT, List.length_cons, List.length_cons]
      decide))
  · refine pF_one (by simp [h10]) ?_
    cases h9 : evP (48 :: dT n) with
    | none => rfl
    | some e =>
      have h1 := (evP_words h9).1
      have h2 := spl_word (c := 32) (w := 48 :: itoa n) goesT (by
        intro h; rcases List.mem_cons.1 h with h | h
        · exact absurd h (by decide)
        · exact no_in n 32 (by decide) h)
      have h3 : 48 :: dT n = (48 :: itoa n) ++ 32 :: goesT := rfl
      rw [h3, h2] at h1
      have h4 := (List.cons.inj h1).1
      exact absurd (itoa_head0 h4.symm) (itoa_ne n)
  · rw [take_dT]
    exact pF_one (hno _ (by decide)) (evP_count (by rw [spl_dT, List.length_cons]; decide))
  · have e : dT n ++ [32, 48] = itoa n ++ 32 :: (goesT ++ [32, 48]) := by simp [dT]
    rw [e]
    exact pF_one (hno _ (by decide)) (evP_count (by rw [spl_dT, List.length_cons]; decide))
  · have e : dT n ++ [10] ++ [10] = dT n ++ 10 :: [10] := by simp
    rw [e, pF_hit h10, pF_nl]
    cases evP (dT n) <;> rfl
  · refine pF_one (by simp [h10]) ?_
    cases h9 : evP (120 :: dT n) with
    | none => rfl
    | some e =>
      have h1 := (evP_words h9).1
      have h2 := spl_word (c := 32) (w := 120 :: itoa n) goesT (by
        intro h; rcases List.mem_cons.1 h with h | h
        · exact absurd h (by decide)
        · exact no_in n 32 (by decide) h)
      have h3 : 120 :: dT n = (120 :: itoa n) ++ 32 :: goesT := rfl
      rw [h3, h2] at h1
      have h4 := (List.cons.inj h1).1
      exact absurd (by rw [← h4]; simp) (no_in e.step 120 (by decide))
  · refine pF_one (by decide) ?_
    cases h9 : evP [49, 32, 103, 111, 110, 101, 32, 48, 32, 48, 32, 48, 32, 48] with
    | none => rfl
    | some e =>
      have h1 := (evP_words h9).1
      have h2 : spl 32 [49, 32, 103, 111, 110, 101, 32, 48, 32, 48, 32, 48, 32, 48] = [[49], [103, 111, 110, 101], [48], [48], [48], [48]] := by decide
      rw [h2] at h1
      have h4 := (List.cons.inj (List.cons.inj h1).2).1
      by_cases hk : 1 ≤ e.kind ∧ e.kind ≤ 8
      · have := word_mem hk
        rw [← h4] at this
        exact absurd this (by decide)
      · rw [evWord_no hk] at h4
        exact absurd (by rw [← h4]; simp) (no_in e.kind 103 (by decide))
  · refine pF_one (by decide) ?_
    cases h9 : evP [49, 32, 103, 111, 101, 115, 32, 45, 48, 32, 48, 32, 48, 32, 48] with
    | none => rfl
    | some e =>
      have h1 := (evP_words h9).1
      have h2 : spl 32 [49, 32, 103, 111, 101, 115, 32, 45, 48, 32, 48, 32, 48, 32, 48] = [[49], [103, 111, 101, 115], [45, 48], [48], [48], [48]] := by decide
      rw [h2] at h1
      have h4 : [45, 48] = itoa e.task := (List.cons.inj (List.cons.inj (List.cons.inj h1).2).2).1
      have h5 := atoi_itoa ((evP_words h9).2 e.task (by simp [Ev.l]))
      rw [← h4] at h5
      have h6 : atoiAll [45, 48] = .ok 0 := by rfl
      rw [h6] at h5
      have h7 : (0 : Int) = e.task := Lib.NumEnd.ok.inj h5
      have h8 : itoa 0 = [48] := itoa_dig (n := 0) (by omega)
      rw [← h7, h8] at h4
      exact absurd h4 (by decide)
  · refine pF_one (by decide) ?_
    cases h9 : evP [49, 32, 103, 111, 101, 115, 32, 43, 49, 32, 48, 32, 48, 32, 48] with
    | none => rfl
    | some e =>
      have h1 := (evP_words h9).1
      have h2 : spl 32 [49, 32, 103, 111, 101, 115, 32, 43, 49, 32, 48, 32, 48, 32, 48] = [[49], [103, 111, 101, 115], [43, 49], [48], [48], [48]] := by decide
      rw [h2] at h1
      have h4 : [43, 49] = itoa e.task := (List.cons.inj (List.cons.inj (List.cons.inj h1).2).2).1
      exact absurd (by rw [← h4]; simp) (no_in e.task 43 (by decide))
  · refine pF_one (by decide) ?_
    cases h9 : evP [49, 32, 103, 111, 101, 115, 32, 57, 57, 57, 57, 57, 57, 57, 57, 57, 57, 57, 57, 57, 57, 57, 57, 57, 57, 57, 57, 32, 48, 32, 48, 32, 48] with
    | none => rfl
    | some e =>
      have h1 := (evP_words h9).1
      have h2 : spl 32 [49, 32, 103, 111, 101, 115, 32, 57, 57, 57, 57, 57, 57, 57, 57, 57, 57, 57, 57, 57, 57, 57, 57, 57, 57, 57, 57, 32, 48, 32, 48, 32, 48] = [[49], [103, 111, 101, 115], [57, 57, 57, 57, 57, 57, 57, 57, 57, 57, 57, 57, 57, 57, 57, 57, 57, 57, 57, 57], [48], [48], [48]] := by decide
      rw [h2] at h1
      have h4 : [57, 57, 57, 57, 57, 57, 57, 57, 57, 57, 57, 57, 57, 57, 57, 57, 57, 57, 57, 57] = itoa e.task := (List.cons.inj (List.cons.inj (List.cons.inj h1).2).2).1
      have h5 := atoi_itoa ((evP_words h9).2 e.task (by simp [Ev.l]))
      rw [← h4] at h5
      have h6 : atoiAll [57, 57, 57, 57, 57, 57, 57, 57, 57, 57, 57, 57, 57, 57, 57, 57, 57, 57, 57, 57] = .range := by rfl
      rw [h6] at h5
      cases h5
  · exact pF_one (by decide) (evP_count (by decide))
  · exact pF_nl
theorem e0_ok {n : Int} (h0 : 0 ≤ n) (h1 : n ≤ 1099511627776) : (e0 n).ok := by
  intro x hx
  simp only [Ev.l, e0, List.mem_cons, List.not_mem_nil, or_false] at hx
  rcases hx with rfl | rfl | rfl | rfl | rfl | rfl
  · cases x with
    | ofNat m =>
      simp only [fits, blt_nat]
      have e : (Int.ofNat m) = (m : Int) := rfl
      exact decide_eq_true (by omega)
    | negSucc m => omega
  all_goals rfl
theorem odd_all {n : Int} (h0 : 0 ≤ n) (h1 : n ≤ 1099511627776) (i : Nat) (s : List UInt8) (hs : (oddsT n)[i]? = some s) : (pF (s ++ [10])).isSome = decide (i = 0) := by
  by_cases hi : i = 0
  · subst hi
    obtain rfl := Option.some.inj hs
    have h := pF_text (l := [e0 n]) (by intro e he; simp at he; rw [he]; exact e0_ok h0 h1)
    have e : textP [e0 n] = dT n ++ [10] := by simp [textP, e0_line]
    rw [e] at h
    rw [h]; rfl
  · rw [odd_none n i s (by omega) hs]
    simp [hi]
theorem odd_len {n : Int} (hn : fits n = true) (s : List UInt8) (hs : s ∈ oddsT n) : s.length ≤ 100 := by
  have hd : (dT n).length ≤ 40 := by
    have := itoa_len hn
    simp [dT, goesT]; omega
  simp only [oddsT, List.mem_cons, List.not_mem_nil, or_false] at hs
  rcases hs with rfl | rfl | rfl | rfl | rfl | rfl | rfl | rfl | rfl | rfl | rfl | rfl | rfl | rfl <;> simp <;> omega
theorem traceForms_law {L0 : Lg} (code : F (N k_tarpaulinlaw21_TraceForms) = some (c_tarpaulinlaw21_TraceForms N)) (hi : F (N k_strconv_Itoa) = some (kExt 1)) (hfi : F (N k_strings_Fields) = some (kExt 2)) (hsp : F (N k_strings_Split) = some (kExt 3)) (hcu : F (N k_strings_Cut) = some (kExt 4)) (hjo : F (N k_strings_Join) = some (kExt 5)) (hte : F (N k_trace_Text) = some (kExt 6)) (hat : F (N k_strconv_Atoi) = some (kExt (t + 7)))
    (hA : H_tarpaulinlaw21_awake N F) (hP : H_trace_Parse N F) (hrL : H_tarpaulinref17_Line N F) (hR : H_tarpaulinalike_Round N F) (k n : Int) :
    CallL F (N k_tarpaulinlaw21_TraceForms) [.i .i64 k, .i .i64 n] L0 fun v _ => v = .b true := by
  have X : TX N F t := ⟨⟨hi, hfi, hjo⟩, hsp, hcu, hte, hat⟩
  refine CallL.opq ?_
  intro Q hQ0
  have fin : ∀ L, fin1 (some (.b true)) Q L := fun L => ⟨L, Sees.refl _, hQ0 _ _ rfl⟩
  apply r_tarpaulinlaw21_TraceForms code
  unfold D_tarpaulinlaw21_TraceForms_1 D_tarpaulinlaw21_TraceForms_2
  have aw : ∀ L, CallL F (N k_tarpaulinlaw21_awake) [] L fun v L' => fin1 (some v) Q L' := fun L => (awake_spec hA X L).mono fun _ _ h => by rw [h.1]; exact fin _
  by_cases h0 : n < 0
  · simp [h0]
    exact aw _
  by_cases h1 : n > 1099511627776
  · simp [h0, h1]
    exact aw _
  simp [h0, h1]
  have hok := e0_ok (n := n) (by omega) (by omega)
  have hn : fits n = true := hok n (by simp [Ev.l, e0])
  unfold D_tarpaulinlaw21_TraceForms_3
  have hb : ∀ (M : Lg) (q : AV → Lg → Prop), wpOp F (.build [.i .i64 0, .i .i64 0, .i .i64 0, .i .i64 0, .i .i64 0, .i .i64 0] [(0, 1), (1, 1), (2, 1), (3, 1)]) [.i .i64 n, .i .i64 3, .i .i64 (-3), .i .i64 1] M q = q (.agg (evc (e0 n))) M := fun M q => by
    simp [fillP, splice, ble_nat, beq_nat, AV.cellsOf, evc, e0]
  rw [hb]
  refine (rline_spec hrL hok L0).mono ?_
  rintro _ K1 ⟨rfl, x1⟩
  rw [e0_line]
  unfold D_tarpaulinlaw21_TraceForms_4
  have hd : (dT n).length ≤ 40 := by
    have := itoa_len hn
    simp [dT, goesT]; omega
  have hd2 : 2 ≤ (dT n).length := by simp [dT, goesT]
  have add : ∀ x y : List UInt8, x.length ≤ 1000 → y.length ≤ 1000 → ∀ (M : Lg) (q : AV → Lg → Prop), wpOp F (.sbin .add) [.s x, .s y] M q = q (.s (x ++ y)) M := fun x y h1 h2 M q => by
    rw [wp_sbin, binS_add (by omega), retL_some]
  rw [add _ _ (by omega) (by simp), add _ _ (by simp) (by omega), add _ _ (by simp) (by omega)]
  have w2 : wr .i64 (((dT n).length : Int) - 2) = (((dT n).length - 2 : Nat) : Int) := by rw [wr_id (by omega) (by omega)]; omega
  have hs : slcSV false true [.s (dT n), .i .i64 (((dT n).length - 2 : Nat) : Int)] = some (.s ((dT n).take ((dT n).length - 2))) := by
    have e1 : optIdx false [.i .i64 (((dT n).length - 2 : Nat) : Int)] 0 = some (0, [.i .i64 (((dT n).length - 2 : Nat) : Int)]) := rfl
    have e2 : optIdx true [.i .i64 (((dT n).length - 2 : Nat) : Int)] (dT n).length = some ((dT n).length - 2, []) := rfl
    simp [slcSV, e1, e2, ble_nat]
  simp only [wp_lenS, wp_sub, mark_eq, w2, wp_slcS, hs, retL_some]
  rw [add _ _ (by omega) (by simp), add _ _ (by omega) (by simp), add _ _ (by simp) (by omega)]
  have hfill : fillP (reps [AV.s []] 14) ([0, 1, 2, 3, 4, 5, 6, 7, 8, 9, 10, 11, 12, 13].map fun i => (i * 1, 1)) ((oddsT n).map .s) = some ((oddsT n).map .s) := by
    simp [reps, fillP, splice, ble_nat, beq_nat, AV.cellsOf, oddsT]
  have hall : ((oddsT n).map AV.s).all AV.one = true := by simp [oddsT, AV.one]
  generalize hw : [AV.s (dT n), _, _, _, _, _, _, _, _, _, _, _, _, _] = ws
  have hw' : ws = (oddsT n).map .s := by rw [← hw]; rfl
  rw [hw']
  simp only [wp_bslice]
  rw [newL_bslice (c := (oddsT n).map .s) _ _ hfill hall]
  intro b3 hb3
  have hw3 : (K1.put b3 (.raw (.cells ((oddsT n).map .s)))) b3 = some (.raw (.cells ((oddsT n).map .s))) := Lg.put_same _ _ _
  generalize K1.put b3 (.raw (.cells ((oddsT n).map .s))) = K3 at hw3
  unfold D_tarpaulinlaw21_TraceForms_5
  refine (round_spec hR k 14 (by omega) (by omega) K3).mono ?_
  rintro _ K4 ⟨rfl, hK4⟩
  rw [hK4]; clear hK4 K4
  obtain ⟨j, hj⟩ : ∃ j : Nat, (j : Int) = k % 14 := ⟨(k % 14).toNat, by have := Int.emod_nonneg k (show (14 : Int) ≠ 0 by omega); omega⟩
  have hj14 : j < 14 := by have := Int.emod_lt_of_pos k (show (0 : Int) < 14 by omega); omega
  rw [← hj]
  have hlen : (oddsT n).length = 14 := rfl
  have hoj : (oddsT n)[j]? = some ((oddsT n)[j]'(by omega)) := List.getElem?_eq_getElem (by omega)
  generalize (oddsT n)[j]'(by omega) = s at hoj
  have hrd : rdL K3 (b3, 0 + j * 1) none = some (.s s) := by
    rw [rdL_cell hw3, List.getElem?_map, show 0 + j * 1 = j by omega, hoj]; rfl
  simp only [Nat.zero_add, Nat.mul_one] at hrd
  have hsl := odd_len hn s (List.mem_of_getElem? hoj)
  rw [wp_iad F K3 _ 1 b3 0 14 14 0 .i64 (j : Int) (by omega) (by omega)]
  simp [hrd]
  have b1 := binS_add (x := s) (y := [10]) (by simp; omega)
  simp [b1]
  refine (parse_spec hP X (by simp; omega) K3).mono ?_
  rintro _ K4 ⟨ho, x4⟩
  have hall2 := odd_all (n := n) (by omega) (by omega) j s hoj
  unfold outP at ho
  by_cases hj0 : j = 0
  · cases hp : pF (s ++ [10]) with
    | none => rw [hp] at hall2; simp [hj0] at hall2
    | some l =>
      rw [hp] at ho
      obtain ⟨out, rfl, _, _⟩ := ho
      simp [hj0]
      refine (aw _).mono ?_
      intro r K6 h6
      simpa using h6
  · cases hp : pF (s ++ [10]) with
    | some l => rw [hp] at hall2; simp [hj0] at hall2
    | none =>
      rw [hp] at ho
      subst ho
      simp [hj0]
      refine (aw _).mono ?_
      intro r K6 h6
      simpa using h6
end Go.AM


/- functions of the library, by what they do: that they do so, of what is known of their contracts (door seats alone). -/
set_option linter.unusedVariables false
set_option linter.unusedSimpArgs false
namespace Go.AM
open Go.RowKit (Below)
abbrev FnAt (P : Program) (f : Nat) : Prop := ∃ fn, P.funcs[f]? = some fn ∧ fn.body.isSome = true ∧ (fn.name == "runtime.NumGoroutine") = false
abbrev strV (l : List UInt8) : Value := .string ⟨l.toArray⟩
theorem asV1 {β : Bt} {a : AV} {as : Array Value} (h : VRs β [a] as.toList) : ∃ v, as = #[v] ∧ VR β a v := by
  obtain ⟨l⟩ := as
  cases h with
  | cons h1 h2 => cases h2; exact ⟨_, rfl, h1⟩
theorem asV2 {β : Bt} {a b : AV} {as : Array Value} (h : VRs β [a, b] as.toList) : ∃ v u, as = #[v, u] ∧ VR β a v ∧ VR β b u := by
  obtain ⟨l⟩ := as
  cases h with
  | cons h1 h2 => cases h2 with
    | cons h2 h3 => cases h3; exact ⟨_, _, rfl, h1, h2⟩
theorem fits_iff (n : Int) : fits n = true ↔ -9223372036854775808 ≤ n ∧ n ≤ 9223372036854775807 := by
  cases n with
  | ofNat m =>
    simp only [fits, blt_nat, decide_eq_true_eq]
    rw [show Int.ofNat m = (m : Int) from rfl]
    omega
  | negSucc m =>
    simp only [fits, blt_nat, decide_eq_true_eq]
    rw [Int.negSucc_eq]
    omega
theorem shortS_iff (l : List UInt8) : shortS l = true ↔ l.length < 1000000000 := by simp [shortS, blt_nat]
theorem xItoa_ok {P : Program} {f : Nat} (hfn : FnAt P f)
    (hc : ∀ (n : Int) (w : World), -9223372036854775808 ≤ n → n ≤ 9223372036854775807 → GW w → Calls P f #[.int .i64 n] w fun e w' => e = .returned (strV (Lib.itoa n)) ∧ Below w.heap.size w w') : ExtOk P f 1 := by
  refine ⟨hfn, fun B0 β w S vs as v S' h hwf hv hR hfree => ?_⟩
  change xItoa vs S = some (v, S') at h
  unfold xItoa at h
  split at h
  · rename_i n
    cases hb : fits n <;> rw [hb] at h <;> cases h
    obtain ⟨b1, b2⟩ := (fits_iff n).1 hb
    obtain ⟨u, rfl, hu⟩ := asV1 hv
    cases hu
    refine (hc n w b1 b2 hR.gl.gw).mono ?_
    rintro e w' ⟨rfl, hbl⟩
    exact ⟨β, _, rfl, .s _, stp_below hR hbl⟩
  · cases h
theorem xCut_ok {P : Program} {f : Nat} (hfn : FnAt P f)
    (hc : ∀ (l sep : List UInt8) (w : World), l.length < 1000000000 → GW w → Calls P f #[strV l, strV sep] w fun e w' => e = .returned (.tuple #[strV (Lib.cut l sep).1, strV (Lib.cut l sep).2.1, .bool (Lib.cut l sep).2.2]) ∧ Below w.heap.size w w') : ExtOk P f 4 := by
  refine ⟨hfn, fun B0 β w S vs as v S' h hwf hv hR hfree => ?_⟩
  change xCut vs S = some (v, S') at h
  unfold xCut at h
  split at h
  · rename_i l sep
    cases hb : shortS l <;> rw [hb] at h <;> cases h
    have b1 := (shortS_iff l).1 hb
    obtain ⟨u, u2, rfl, hu, hu2⟩ := asV2 hv
    cases hu; cases hu2
    refine (hc l sep w b1 hR.gl.gw).mono ?_
    rintro e w' ⟨rfl, hbl⟩
    exact ⟨β, _, rfl, .tup (.cons (.s _) (.cons (.s _) (.cons (.b _) .nil))), stp_below hR hbl⟩
  · cases h
theorem xAtoi_ok {P : Program} {f t : Nat} (hfn : FnAt P f)
    (hok : ∀ (l : List UInt8) (w : World) (n : Int), l.length < 1000000000 → Lib.atoiAll l = .ok n → GW w → Calls P f #[strV l] w fun e w' => e = .returned (.tuple #[.int .i64 n, .nilIface]) ∧ Below w.heap.size w w')
    (hr : ∀ (l : List UInt8) (w : World), l.length < 1000000000 → Lib.atoiAll l = .range → GW w → Calls P f #[strV l] w fun e w' => (∃ u, e = .returned (.tuple #[.int .i64 (Lib.atoiSat l), .iface t u])) ∧ Below w.heap.size w w')
    (hs : ∀ (l : List UInt8) (w : World), l.length < 1000000000 → (∀ n, Lib.atoiAll l ≠ .ok n) → Lib.atoiAll l ≠ .range → GW w → Calls P f #[strV l] w fun e w' => (∃ u, e = .returned (.tuple #[.int .i64 0, .iface t u])) ∧ Below w.heap.size w w') : ExtOk P f (t + 7) := by
  refine ⟨hfn, fun B0 β w S vs as v S' h hwf hv hR hfree => ?_⟩
  change xAtoi t vs S = some (v, S') at h
  unfold xAtoi at h
  split at h
  · rename_i l
    cases hb : shortS l <;> rw [hb] at h <;> cases h
    have b1 := (shortS_iff l).1 hb
    obtain ⟨u, rfl, hu⟩ := asV1 hv
    cases hu
    split
    · rename_i n hn
      refine (hok l w n b1 hn hR.gl.gw).mono ?_
      rintro e w' ⟨rfl, hbl⟩
      exact ⟨β, _, rfl, .tup (.cons (.i _ _) (.cons .nili .nil)), stp_below hR hbl⟩
    · rename_i hn
      refine (hr l w b1 hn hR.gl.gw).mono ?_
      rintro e w' ⟨⟨u, rfl⟩, hbl⟩
      exact ⟨β, _, rfl, .tup (.cons (.i _ _) (.cons (.ifc _ (.bad _)) .nil)), stp_below hR hbl⟩
    · rename_i h1 h2
      refine (hs l w b1 (fun n hn => h1 n hn) (fun hn => h2 hn) hR.gl.gw).mono ?_
      rintro e w' ⟨⟨u, rfl⟩, hbl⟩
      exact ⟨β, _, rfl, .tup (.cons (.i _ _) (.cons (.ifc _ (.bad _)) .nil)), stp_below hR hbl⟩
  · cases h
theorem vrs_words (β : Bt) : ∀ ls : List (List UInt8), VRs β (ls.map AV.s) (ls.map strV)
  | [] => .nil
  | l :: r => .cons (.s l) (vrs_words β r)
/-- words in a new slice -/
theorem xWords_stp {B0 : Nat} {β : Bt} {w : World} {S S' : St} {v : AV} {ls : List (List UInt8)} (h : xWords ls S = some (v, S')) (hR : Rel β B0 S.h w) (hfree : Free β S.nx S'.nx) (t : TypeId) :
    ∃ γ, VR γ v (.slice (some ⟨w.heap.size, 0, none⟩) ls.length ls.length) ∧ Stp B0 β S w γ S' (w.alloc (.cells (ls.map strV).toArray t)) := by
  cases h
  have hf : β S.nx = none := hfree S.nx (Nat.le_refl _) (Nat.lt_succ_self _)
  refine ⟨upd β S.nx (w.heap.size, 0, ls.length), ?_, stp_new hR hf rfl rfl rfl rfl rfl ⟨hR.le, (ls.map strV).toArray, t, ?_, by simp, ?_⟩⟩
  · exact .sl (n := S.nx) (k := 0) (upd_same _ _ _) (Nat.le_refl _) (Nat.le_refl _) (fun _ => rfl) (fun h => absurd rfl h) (.inr rfl)
  · show (w.heap.push _)[w.heap.size]? = _
    simp
  · intro i v hv
    rw [List.getElem?_map, Option.map_eq_some_iff] at hv
    obtain ⟨x, hx, rfl⟩ := hv
    exact ⟨strV x, by simp [hx], .s _⟩
theorem xFields_ok {P : Program} {f : Nat} {t : TypeId} (hfn : FnAt P f)
    (hc : ∀ (l : List UInt8) (w : World), l.length < 1000000000 → (∀ b, b ∈ l → b.toNat < 128) → GW w → Calls P f #[strV l] w fun e w' => e = .returned (.slice (some ⟨w.heap.size, 0, none⟩) (Lib.fields l).length (Lib.fields l).length) ∧ w' = w.alloc (.cells ((Lib.fields l).map strV).toArray t)) : ExtOk P f 2 := by
  refine ⟨hfn, fun B0 β w S vs as v S' h hwf hv hR hfree => ?_⟩
  change xFields vs S = some (v, S') at h
  unfold xFields at h
  split at h
  · rename_i l
    rw [cond_eq_ite] at h
    split at h
    · rename_i hb
      simp only [Bool.and_eq_true, List.all_eq_true, blt_nat, decide_eq_true_eq] at hb
      obtain ⟨u, rfl, hu⟩ := asV1 hv
      cases hu
      obtain ⟨γ, hv', hst⟩ := xWords_stp h hR hfree t
      refine (hc l w ((shortS_iff l).1 hb.1) hb.2 hR.gl.gw).mono ?_
      rintro e w' ⟨rfl, rfl⟩
      exact ⟨γ, _, rfl, hv', hst⟩
    · cases h
  · cases h
theorem xSplit_ok {P : Program} {f : Nat} {t : TypeId} (hfn : FnAt P f)
    (hc : ∀ (l sep : List UInt8) (w : World), l.length < 1000000000 → sep ≠ [] → GW w → Calls P f #[strV l, strV sep] w fun e w' => e = .returned (.slice (some ⟨w.heap.size, 0, none⟩) (Lib.split l sep).length (Lib.split l sep).length) ∧ w' = w.alloc (.cells ((Lib.split l sep).map strV).toArray t)) : ExtOk P f 3 := by
  refine ⟨hfn, fun B0 β w S vs as v S' h hwf hv hR hfree => ?_⟩
  change xSplit vs S = some (v, S') at h
  unfold xSplit at h
  split at h
  · rename_i l sep
    rw [cond_eq_ite] at h
    split at h
    · rename_i hb
      simp only [Bool.and_eq_true, Bool.not_eq_true', List.isEmpty_eq_false_iff] at hb
      obtain ⟨u, u2, rfl, hu, hu2⟩ := asV2 hv
      cases hu; cases hu2
      obtain ⟨γ, hv', hst⟩ := xWords_stp h hR hfree t
      refine (hc l sep w ((shortS_iff l).1 hb.1) hb.2 hR.gl.gw).mono ?_
      rintro e w' ⟨rfl, rfl⟩
      exact ⟨γ, _, rfl, hv', hst⟩
    · cases h
  · cases h
theorem wordsOf_words {β : Bt} : ∀ {cs : List AV} {ls : List (List UInt8)} {vs : List Value}, wordsOf cs = some ls → VRs β cs vs → vs = ls.map strV
  | [], ls, _, h, .nil => by cases h; rfl
  | .s l :: r, ls, _, h, .cons hv ht => by
    simp only [wordsOf, Option.map_eq_some_iff] at h
    obtain ⟨y, hy, rfl⟩ := h
    cases hv
    rw [wordsOf_words hy ht]; rfl
theorem xJoin_ok {P : Program} {f : Nat} (hfn : FnAt P f)
    (hc : ∀ (bk o c : Nat) (ls : List (List UInt8)) (sep : List UInt8) (w : World), (∀ (j : Nat) x, ls[j]? = some x → w.cell? ⟨bk, o + j, none⟩ = some (strV x)) → bk < w.heap.size → ls.length < 1000000 → ls.length ≤ c → (Lib.join ls sep).length < 1000000000 → GW w →
      Calls P f #[.slice (some ⟨bk, o, none⟩) ls.length c, strV sep] w fun e w' => e = .returned (strV (Lib.join ls sep)) ∧ Below w.heap.size w w') : ExtOk P f 5 := by
  refine ⟨hfn, fun B0 β w S vs as v S' h hwf hv hR hfree => ?_⟩
  change xJoin vs S = some (v, S') at h
  unfold xJoin at h
  split at h
  · rename_i a len c ex sep
    split at h
    · rename_i cs hcs
      split at h
      · rename_i ls hls
        split at h
        · cases h
        · rename_i l0 lr
          rw [cond_eq_ite] at h
          split at h
          · rename_i hb
            cases h
            simp only [Bool.and_eq_true, blt_nat, decide_eq_true_eq] at hb
            obtain ⟨u, u2, rfl, hu, hu2⟩ := asV2 hv
            cases hu2
            obtain ⟨r, k⟩ := a
            cases hu with
            | sl hb0 hl hcc he hz ha =>
              rename_i b o zz c' ad
              obtain ⟨h1, l', h2, h3⟩ := rd_cells hR hcs hb0
              have e1 := wordsOf_words hls h2
              have hlen : (l0 :: lr).length = len := by
                have := h2.length
                rw [e1, List.length_map] at this
                omega
              have had : ad = ⟨b, o + k, none⟩ := by
                rcases ha with h9 | h9
                · simp at hlen; omega
                · exact h9
              subst had
              have hcell : ∀ (j : Nat) x, (l0 :: lr)[j]? = some x → w.cell? ⟨b, o + k + j, none⟩ = some (strV x) := by
                intro j x hx
                exact h3 j _ (by rw [e1, List.getElem?_map, hx]; rfl)
              have hblt : b < w.heap.size := by
                have := hcell 0 l0 rfl
                unfold World.cell? at this
                simp only [Option.isSome_none, Bool.false_eq_true, if_false] at this
                split at this
                · rename_i hh; exact (Array.getElem?_eq_some_iff.1 hh).1
                · cases this
              have hcc2 := hc b (o + k) c' (l0 :: lr) sep w hcell hblt hb.1 (by omega) ((shortS_iff _).1 hb.2) hR.gl.gw
              rw [hlen] at hcc2
              refine hcc2.mono ?_
              rintro e w' ⟨rfl, hbl⟩
              exact ⟨β, _, rfl, .s _, stp_below hR hbl⟩
          · cases h
      · cases h
    · cases h
  · cases h
theorem intsOf_vals {β : Bt} : ∀ {cs : List AV} {zs : List Int} {vs : List Value}, intsOf cs = some zs → VRs β cs vs → vs = zs.map (Value.int .i64)
  | [], zs, _, h, .nil => by cases h; rfl
  | .i .i64 n :: r, zs, _, h, .cons hv ht => by
    simp only [intsOf, Option.map_eq_some_iff] at h
    obtain ⟨y, hy, rfl⟩ := h
    cases hv
    rw [intsOf_vals hy ht]; rfl
theorem xText_ok {P : Program} {f : Nat} (hfn : FnAt P f)
    (h0 : ∀ (ad : Option Addr) (c : Nat) (w : World), Calls P f #[.slice ad 0 c] w fun e w' => e = .returned (strV []) ∧ Below w.heap.size w w')
    (hc : ∀ (bk o n c : Nat) (zs : List Int) (w : World), zs.length = n * 6 → n < 1000000 → 0 < n → (∀ x, x ∈ zs → fits x = true) → (∀ (j : Nat) x, zs[j]? = some x → w.cell? ⟨bk, o + j, none⟩ = some (.int .i64 x)) → bk < w.heap.size → GN ≤ w.heap.size → GW w →
      Calls P f #[.slice (some ⟨bk, o, none⟩) n c] w fun e w' => e = .returned (strV (evText n zs)) ∧ Below w.heap.size w w') : ExtOk P f 6 := by
  refine ⟨hfn, fun B0 β w S vs as v S' h hwf hv hR hfree => ?_⟩
  change xText vs S = some (v, S') at h
  unfold xText at h
  split at h
  · rename_i a len c ex
    rw [beq_nat] at h
    obtain ⟨u, rfl, hu⟩ := asV1 hv
    by_cases hl0 : len = 0
    · subst hl0
      simp only [decide_true, cond_true] at h
      cases h
      have hz : ∃ ad c', u = .slice ad 0 c' := by cases hu <;> exact ⟨_, _, rfl⟩
      obtain ⟨ad, c', rfl⟩ := hz
      refine (h0 ad c' w).mono ?_
      rintro e w' ⟨rfl, hbl⟩
      exact ⟨β, _, rfl, .s _, stp_below hR hbl⟩
    · simp only [hl0, decide_false, cond_false] at h
      split at h
      · rename_i a'
        split at h
        · rename_i cs hcs
          split at h
          · rename_i zs hzs
            rw [cond_eq_ite] at h
            split at h
            · rename_i hb
              cases h
              simp only [Bool.and_eq_true, blt_nat, decide_eq_true_eq, List.all_eq_true] at hb
              obtain ⟨r, k⟩ := a'
              cases hu with
              | sl hb0 hl hcc he hz ha =>
                rename_i b o zz c' ad
                obtain ⟨h1, l', h2, h3⟩ := rd_cells hR hcs hb0
                have e1 := intsOf_vals hzs h2
                have hlen : zs.length = len * 6 := by
                  have := h2.length
                  rw [e1, List.length_map] at this
                  omega
                have had : ad = ⟨b, o + k, none⟩ := by
                  rcases ha with h9 | h9
                  · omega
                  · exact h9
                subst had
                have hcell : ∀ (j : Nat) x, zs[j]? = some x → w.cell? ⟨b, o + k + j, none⟩ = some (.int .i64 x) := by
                  intro j x hx
                  exact h3 j _ (by rw [e1, List.getElem?_map, hx]; rfl)
                have hblt : b < w.heap.size := by
                  have h5 : 0 < zs.length := by omega
                  have := hcell 0 _ (List.getElem?_eq_getElem h5)
                  unfold World.cell? at this
                  simp only [Option.isSome_none, Bool.false_eq_true, if_false] at this
                  split at this
                  · rename_i hh; exact (Array.getElem?_eq_some_iff.1 hh).1
                  · cases this
                refine (hc b (o + k) len c' zs w hlen hb.1 (by omega) hb.2 hcell hblt (Nat.le_trans hR.gl.le hR.le) hR.gl.gw).mono ?_
                rintro e w' ⟨rfl, hbl⟩
                exact ⟨β, _, rfl, .s _, stp_below hR hbl⟩
            · cases h
          · cases h
        · cases h
      · cases h
  · cases h
/-- a call that gives a word, from nothing in memory -/
theorem calls_strG {P : Program} {F : Nat → Option AFn} (hm : P.follows .mixedOrders = true) (hF : TblOk P F) {f : Nat} {vs : List AV} {as : Array Value} {l : List UInt8} {w : World} (h : CallL F f vs Lg.nil fun v _ => v = .s l) (hv : VRs (fun _ => none) vs as.toList) (hgn : GN ≤ w.heap.size) (hgw : GW w) :
    Calls P f as w fun e w' => e = .returned (strV l) ∧ Below w.heap.size w w' := by
  obtain ⟨n, v, S', h1, L', h2, rfl⟩ := h _ mod_S0
  refine ((acall_sound hm hF n f vs S0 _ S' h1).2 B0g w as wf_S0 (hv.mono fun _ _ h => by cases h) (rel_S0 hgn hgw) free_S0).mono ?_
  rintro e w' ⟨γ, v', rfl, h3, h4⟩
  cases h3
  exact ⟨rfl, h4.bel⟩
end Go.AM
