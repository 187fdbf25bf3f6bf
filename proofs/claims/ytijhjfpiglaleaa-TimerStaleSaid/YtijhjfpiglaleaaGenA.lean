/- The code of functions, with names for their numbers, and what is left of its weakest preconditions. PRINTED by our printgen.py. -/
import Derived.Test.YtijhjfpiglaleaaLgD
import Derived.KernelRfl
set_option linter.unusedVariables false
set_option maxRecDepth 100000
namespace Go.AM
def k_clock_held : Nat := 1
def k_clock_Add : Nat := 2
def k_clock_Next : Nat := 3
def k_ring_Ring_Push : Nat := 4
def k_ring_Ring_Pop : Nat := 5
def k_ring_Ring_Len : Nat := 6
def k_ring_Ring_Size : Nat := 7
def k_ring_Ring_Clear : Nat := 8
def k_ring_New : Nat := 9
def k_tarpaulinalike_Round : Nat := 10
def k_wait_Queue_drop : Nat := 11
def k_wait_Queue_take : Nat := 12
def k_wait_Queue_Pop_1 : Nat := 13
def k_wait_Queue_Pop : Nat := 14
def k_wait_Queue_All : Nat := 15
def k_wait_Queue_Push : Nat := 16
def k_wait_Queue_Len : Nat := 17
def k_wait_New : Nat := 18
def q_clock_held_1 (N : Nat → Nat) : ACode := (.seq (.reg [⟨.l 2, none, .mv, [.c (.i .i64 0)]⟩]) (.seq (.reg [⟨.t 3, none, .mv, [.l 0]⟩, ⟨.t 4, none, .max, [.t 3, .c (.i .i64 (-4611686018427387904))]⟩, ⟨.t 5, none, .min, [.t 4, .c (.i .i64 4611686018427387904)]⟩, ⟨.l 2, none, .mv, [.t 5]⟩]) .ret))
noncomputable def D_clock_held_1 (F : Nat → Option AFn) (N : Nat → Nat) (Q : AV → Lg → Prop) (x0 : AV) (L : Lg) : Prop :=
 wpOp F .max [x0, (.i .i64 (-4611686018427387904))] L fun v1 L1 =>
 wpOp F .min [v1, (.i .i64 4611686018427387904)] L1 fun v2 L2 =>
 fin1 (some v2) Q L2
theorem e_clock_held_1 (F : Nat → Option AFn) (N : Nat → Nat) (Q : AV → Lg → Prop) (l t : Env) (L : Lg) : wp F (q_clock_held_1 N) l t L (fin [.tmp (.l 2)] Q) (fun _ _ _ _ => False) (fin [.tmp (.l 2)] Q) = D_clock_held_1 F N Q (l 0) L := by kernel_rfl
/-- tarpaulin/clock.held -/
def c_clock_held (N : Nat → Nat) : AFn := ⟨q_clock_held_1 N, [.tmp (.l 2)]⟩
structure H_clock_held (N : Nat → Nat) (F : Nat → Option AFn) : Prop where
  code : F (N k_clock_held) = some (c_clock_held N)
theorem r_clock_held {F : Nat → Option AFn} {N : Nat → Nat} (h : F (N k_clock_held) = some (c_clock_held N)) {Q : AV → Lg → Prop} {a0 : AV} {L : Lg} (e : D_clock_held_1 F N Q a0 L) : CallL F (N k_clock_held) [a0] L Q :=
  CallL.of_wp h (Eq.mpr (Eq.trans (e_clock_held_1 F N Q (initE [a0] 0) Env.nil L) (by kernel_rfl : _ = D_clock_held_1 F N Q a0 L)) e)
def q_clock_Add_1 (N : Nat → Nat) : ACode := (.seq (.reg [⟨.l 4, none, .mv, [.c (.i .i64 0)]⟩]) (.seq (.reg [⟨.t 5, none, .mv, [.l 0]⟩, ⟨.t 6, none, .call (N k_clock_held), [.t 5]⟩, ⟨.t 7, none, .mv, [.l 1]⟩, ⟨.t 8, none, .call (N k_clock_held), [.t 7]⟩, ⟨.l 0, none, .mv, [.t 6]⟩, ⟨.l 1, none, .mv, [.t 8]⟩]) (.seq (.block 0 (.seq (.reg [⟨.t 10, none, .mv, [.l 1]⟩, ⟨.t 11, none, .bin .gtr, [.t 10, .c (.i .i64 0)]⟩, ⟨.t 12, none, .mv, [.t 11]⟩, ⟨.t 13, some (.t 12, true), .mv, [.l 0]⟩, ⟨.t 14, some (.t 12, true), .mv, [.l 1]⟩, ⟨.t 15, some (.t 12, true), .bin .sub, [.c (.i .i64 4611686018427387904), .t 14]⟩, ⟨.t 16, some (.t 12, true), .bin .gtr, [.t 13, .t 15]⟩, ⟨.t 17, none, .pick, [.t 12, .t 16, .c (.b false)]⟩, ⟨.t 9, none, .mv, [.t 17]⟩]) (.cond (.t 9) (.seq (.reg [⟨.l 4, none, .mv, [.c (.i .i64 4611686018427387904)]⟩]) .ret) (.seq (.reg [⟨.t 19, none, .mv, [.l 1]⟩, ⟨.t 20, none, .bin .lss, [.t 19, .c (.i .i64 0)]⟩, ⟨.t 21, none, .mv, [.t 20]⟩, ⟨.t 22, some (.t 21, true), .mv, [.l 0]⟩, ⟨.t 23, some (.t 21, true), .mv, [.l 1]⟩, ⟨.t 24, some (.t 21, true), .bin .sub, [.c (.i .i64 (-4611686018427387904)), .t 23]⟩, ⟨.t 25, some (.t 21, true), .bin .lss, [.t 22, .t 24]⟩, ⟨.t 26, none, .pick, [.t 21, .t 25, .c (.b false)]⟩, ⟨.t 18, none, .mv, [.t 26]⟩]) (.cond (.t 18) (.seq (.reg [⟨.l 4, none, .mv, [.c (.i .i64 (-4611686018427387904))]⟩]) .ret) .skip))))) (.seq (.reg [⟨.t 27, none, .mv, [.l 0]⟩, ⟨.t 28, none, .mv, [.l 1]⟩, ⟨.t 29, none, .bin .add, [.t 27, .t 28]⟩, ⟨.l 4, none, .mv, [.t 29]⟩]) .ret))))
noncomputable def D_clock_Add_1 (F : Nat → Option AFn) (N : Nat → Nat) (Q : AV → Lg → Prop) (x0 : AV) (x1 : AV) (L : Lg) : Prop :=
 CallL F (N k_clock_held) [x0] L fun v1 L1 =>
 CallL F (N k_clock_held) [x1] L1 fun v2 L2 =>
 wpOp F (.bin .gtr) [v2, (.i .i64 0)] L2 fun v3 L3 =>
 gdOp F v3 true .mv [v1] L3 fun v4 L4 =>
 gdOp F v3 true .mv [v2] L4 fun v5 L5 =>
 gdOp F v3 true (.bin .sub) [(.i .i64 4611686018427387904), v5] L5 fun v6 L6 =>
 gdOp F v3 true (.bin .gtr) [v4, v6] L6 fun v7 L7 =>
 wpOp F .pick [v3, v7, (.b false)] L7 fun v8 L8 =>
 condW v8
 (fin1 (some (.i .i64 4611686018427387904)) Q L8)
 (wpOp F (.bin .lss) [v2, (.i .i64 0)] L8 fun v9 L9 =>
 gdOp F v9 true .mv [v1] L9 fun v10 L10 =>
 gdOp F v9 true .mv [v2] L10 fun v11 L11 =>
 gdOp F v9 true (.bin .sub) [(.i .i64 (-4611686018427387904)), v11] L11 fun v12 L12 =>
 gdOp F v9 true (.bin .lss) [v10, v12] L12 fun v13 L13 =>
 wpOp F .pick [v9, v13, (.b false)] L13 fun v14 L14 =>
 condW v14
 (fin1 (some (.i .i64 (-4611686018427387904))) Q L14)
 (wpOp F (.bin .add) [v1, v2] L14 fun v15 L15 =>
 fin1 (some v15) Q L15))
theorem e_clock_Add_1 (F : Nat → Option AFn) (N : Nat → Nat) (Q : AV → Lg → Prop) (l t : Env) (L : Lg) : wp F (q_clock_Add_1 N) l t L (fin [.tmp (.l 4)] Q) (fun _ _ _ _ => False) (fin [.tmp (.l 4)] Q) = D_clock_Add_1 F N Q (l 0) (l 1) L := by kernel_rfl
/-- tarpaulin/clock.Add -/
def c_clock_Add (N : Nat → Nat) : AFn := ⟨q_clock_Add_1 N, [.tmp (.l 4)]⟩
structure H_clock_Add (N : Nat → Nat) (F : Nat → Option AFn) : Prop where
  code : F (N k_clock_Add) = some (c_clock_Add N)
  clock_held : H_clock_held N F
theorem r_clock_Add {F : Nat → Option AFn} {N : Nat → Nat} (h : F (N k_clock_Add) = some (c_clock_Add N)) {Q : AV → Lg → Prop} {a0 a1 : AV} {L : Lg} (e : D_clock_Add_1 F N Q a0 a1 L) : CallL F (N k_clock_Add) [a0, a1] L Q :=
  CallL.of_wp h (Eq.mpr (Eq.trans (e_clock_Add_1 F N Q (initE [a0, a1] 0) Env.nil L) (by kernel_rfl : _ = D_clock_Add_1 F N Q a0 a1 L)) e)
def q_clock_Next_1 (N : Nat → Nat) : ACode := (.seq (.reg [⟨.l 6, none, .mv, [.c (.i .i64 0)]⟩, ⟨.l 7, none, .mv, [.c (.i .i64 0)]⟩]) (.seq (.seq (.reg [⟨.t 8, none, .mv, [.l 1]⟩, ⟨.t 9, none, .bin .lss, [.t 8, .c (.i .i64 1)]⟩, ⟨.t 10, none, .mv, [.t 9]⟩, ⟨.t 11, some (.t 10, false), .mv, [.l 0]⟩, ⟨.t 12, some (.t 10, false), .mv, [.l 2]⟩, ⟨.t 13, some (.t 10, false), .min, [.t 11, .t 12]⟩, ⟨.t 14, some (.t 10, false), .bin .lss, [.t 13, .c (.i .i64 0)]⟩, ⟨.t 15, none, .pick, [.t 10, .c (.b true), .t 14]⟩, ⟨.t 16, none, .mv, [.t 15]⟩, ⟨.t 17, some (.t 16, false), .mv, [.l 0]⟩, ⟨.t 18, some (.t 16, false), .mv, [.l 1]⟩, ⟨.t 19, some (.t 16, false), .mv, [.l 2]⟩, ⟨.t 20, some (.t 16, false), .max, [.t 17, .t 18, .t 19]⟩, ⟨.t 21, some (.t 16, false), .bin .gtr, [.t 20, .c (.i .i64 4611686018427387904)]⟩, ⟨.t 22, none, .pick, [.t 16, .c (.b true), .t 21]⟩]) (.cond (.t 22) (.seq (.reg [⟨.l 6, none, .mv, [.c (.i .i64 0)]⟩, ⟨.l 7, none, .mv, [.c (.i .i64 1)]⟩]) .ret) .skip)) (.seq (.seq (.reg [⟨.t 23, none, .mv, [.l 0]⟩, ⟨.t 24, none, .mv, [.l 2]⟩, ⟨.t 25, none, .bin .gtr, [.t 23, .t 24]⟩]) (.cond (.t 25) (.seq (.reg [⟨.t 26, none, .mv, [.l 0]⟩, ⟨.l 6, none, .mv, [.t 26]⟩, ⟨.l 7, none, .mv, [.c (.i .i64 0)]⟩]) .ret) .skip)) (.seq (.reg [⟨.t 27, none, .mv, [.l 2]⟩, ⟨.t 28, none, .mv, [.l 1]⟩, ⟨.t 29, none, .mv, [.l 2]⟩, ⟨.t 30, none, .mv, [.l 0]⟩, ⟨.t 31, none, .bin .sub, [.t 29, .t 30]⟩, ⟨.t 32, none, .mv, [.l 1]⟩, ⟨.t 33, none, .bin .rem, [.t 31, .t 32]⟩, ⟨.t 34, none, .bin .sub, [.t 28, .t 33]⟩, ⟨.t 35, none, .call (N k_clock_Add), [.t 27, .t 34]⟩, ⟨.l 6, none, .mv, [.t 35]⟩, ⟨.l 7, none, .mv, [.c (.i .i64 0)]⟩]) .ret))))
noncomputable def D_clock_Next_1 (F : Nat → Option AFn) (N : Nat → Nat) (Q : AV → Lg → Prop) (x0 : AV) (x1 : AV) (x2 : AV) (L : Lg) : Prop :=
 wpOp F (.bin .lss) [x1, (.i .i64 1)] L fun v1 L1 =>
 gdOp F v1 false .mv [x0] L1 fun v2 L2 =>
 gdOp F v1 false .mv [x2] L2 fun v3 L3 =>
 gdOp F v1 false .min [v2, v3] L3 fun v4 L4 =>
 gdOp F v1 false (.bin .lss) [v4, (.i .i64 0)] L4 fun v5 L5 =>
 wpOp F .pick [v1, (.b true), v5] L5 fun v6 L6 =>
 gdOp F v6 false .mv [x0] L6 fun v7 L7 =>
 gdOp F v6 false .mv [x1] L7 fun v8 L8 =>
 gdOp F v6 false .mv [x2] L8 fun v9 L9 =>
 gdOp F v6 false .max [v7, v8, v9] L9 fun v10 L10 =>
 gdOp F v6 false (.bin .gtr) [v10, (.i .i64 4611686018427387904)] L10 fun v11 L11 =>
 wpOp F .pick [v6, (.b true), v11] L11 fun v12 L12 =>
 condW v12
 (fin1 (some (.tup [(.i .i64 0), (.i .i64 1)])) Q L12)
 (wpOp F (.bin .gtr) [x0, x2] L12 fun v13 L13 =>
 condW v13
 (fin1 (some (.tup [x0, (.i .i64 0)])) Q L13)
 (wpOp F (.bin .sub) [x2, x0] L13 fun v14 L14 =>
 wpOp F (.bin .rem) [v14, x1] L14 fun v15 L15 =>
 wpOp F (.bin .sub) [x1, v15] L15 fun v16 L16 =>
 CallL F (N k_clock_Add) [x2, v16] L16 fun v17 L17 =>
 fin1 (some (.tup [v17, (.i .i64 0)])) Q L17))
theorem e_clock_Next_1 (F : Nat → Option AFn) (N : Nat → Nat) (Q : AV → Lg → Prop) (l t : Env) (L : Lg) : wp F (q_clock_Next_1 N) l t L (fin [.tmp (.l 6), .tmp (.l 7)] Q) (fun _ _ _ _ => False) (fin [.tmp (.l 6), .tmp (.l 7)] Q) = D_clock_Next_1 F N Q (l 0) (l 1) (l 2) L := by kernel_rfl
/-- tarpaulin/clock.Next -/
def c_clock_Next (N : Nat → Nat) : AFn := ⟨q_clock_Next_1 N, [.tmp (.l 6), .tmp (.l 7)]⟩
structure H_clock_Next (N : Nat → Nat) (F : Nat → Option AFn) : Prop where
  code : F (N k_clock_Next) = some (c_clock_Next N)
  clock_Add : H_clock_Add N F
theorem r_clock_Next {F : Nat → Option AFn} {N : Nat → Nat} (h : F (N k_clock_Next) = some (c_clock_Next N)) {Q : AV → Lg → Prop} {a0 a1 a2 : AV} {L : Lg} (e : D_clock_Next_1 F N Q a0 a1 a2 L) : CallL F (N k_clock_Next) [a0, a1, a2] L Q :=
  CallL.of_wp h (Eq.mpr (Eq.trans (e_clock_Next_1 F N Q (initE [a0, a1, a2] 0) Env.nil L) (by kernel_rfl : _ = D_clock_Next_1 F N Q a0 a1 a2 L)) e)
def q_ring_Ring_Push_3 (N : Nat → Nat) : ACode := (.seq (.reg [⟨.t 19, none, .mv, [.l 0]⟩, ⟨.t 20, none, .nilchk, [.t 19]⟩, ⟨.t 21, none, .fad 0, [.t 20]⟩, ⟨.t 22, none, .ld none, [.t 21]⟩, ⟨.t 23, none, .mv, [.l 0]⟩, ⟨.t 24, none, .nilchk, [.t 23]⟩, ⟨.t 25, none, .fad 1, [.t 24]⟩, ⟨.t 26, none, .ld none, [.t 25]⟩, ⟨.t 27, none, .mv, [.l 0]⟩, ⟨.t 28, none, .nilchk, [.t 27]⟩, ⟨.t 29, none, .fad 2, [.t 28]⟩, ⟨.t 30, none, .ld none, [.t 29]⟩, ⟨.t 31, none, .bin .add, [.t 26, .t 30]⟩, ⟨.t 32, none, .mv, [.l 0]⟩, ⟨.t 33, none, .nilchk, [.t 32]⟩, ⟨.t 34, none, .fad 0, [.t 33]⟩, ⟨.t 35, none, .ld none, [.t 34]⟩, ⟨.t 36, none, .lenSl, [.t 35]⟩, ⟨.t 37, none, .bin .rem, [.t 31, .t 36]⟩, ⟨.t 38, none, .mv, [.l 1]⟩, ⟨.t 39, none, .iad 1, [.t 22, .t 37]⟩, ⟨.no, none, .st 1, [.t 39, .t 38]⟩]) (.seq (.reg [⟨.t 40, none, .mv, [.l 0]⟩, ⟨.t 41, none, .nilchk, [.t 40]⟩, ⟨.t 42, none, .fad 2, [.t 41]⟩, ⟨.t 43, none, .ld none, [.t 42]⟩, ⟨.t 44, none, .bin .add, [.t 43, .c (.i .i64 1)]⟩, ⟨.t 45, none, .nilchk, [.t 40]⟩, ⟨.t 46, none, .fad 2, [.t 45]⟩, ⟨.no, none, .st 1, [.t 46, .t 44]⟩]) (.seq (.reg [⟨.l 4, none, .mv, [.c (.b true)]⟩]) .ret)))
noncomputable def D_ring_Ring_Push_3 (F : Nat → Option AFn) (N : Nat → Nat) (Q : AV → Lg → Prop) (x0 : AV) (x1 : AV) (L : Lg) : Prop :=
 wpOp F .nilchk [x0] L fun v1 L1 =>
 wpOp F (.fad 0) [v1] L1 fun v2 L2 =>
 wpOp F (.ld none) [v2] L2 fun v3 L3 =>
 wpOp F .nilchk [x0] L3 fun v4 L4 =>
 wpOp F (.fad 1) [v4] L4 fun v5 L5 =>
 wpOp F (.ld none) [v5] L5 fun v6 L6 =>
 wpOp F .nilchk [x0] L6 fun v7 L7 =>
 wpOp F (.fad 2) [v7] L7 fun v8 L8 =>
 wpOp F (.ld none) [v8] L8 fun v9 L9 =>
 wpOp F (.bin .add) [v6, v9] L9 fun v10 L10 =>
 wpOp F .nilchk [x0] L10 fun v11 L11 =>
 wpOp F (.fad 0) [v11] L11 fun v12 L12 =>
 wpOp F (.ld none) [v12] L12 fun v13 L13 =>
 wpOp F .lenSl [v13] L13 fun v14 L14 =>
 wpOp F (.bin .rem) [v10, v14] L14 fun v15 L15 =>
 wpOp F (.iad 1) [v3, v15] L15 fun v16 L16 =>
 wpOp F (.st 1) [v16, x1] L16 fun _ L17 =>
 wpOp F .nilchk [x0] L17 fun v18 L18 =>
 wpOp F (.fad 2) [v18] L18 fun v19 L19 =>
 wpOp F (.ld none) [v19] L19 fun v20 L20 =>
 wpOp F (.bin .add) [v20, (.i .i64 1)] L20 fun v21 L21 =>
 wpOp F .nilchk [x0] L21 fun v22 L22 =>
 wpOp F (.fad 2) [v22] L22 fun v23 L23 =>
 wpOp F (.st 1) [v23, v21] L23 fun _ L24 =>
 fin1 (some (.b true)) Q L24
theorem e_ring_Ring_Push_3 (F : Nat → Option AFn) (N : Nat → Nat) (Q : AV → Lg → Prop) (l t : Env) (L : Lg) : wp F (q_ring_Ring_Push_3 N) l t L (fin [.tmp (.l 4)] Q) (fun _ _ _ _ => False) (fin [.tmp (.l 4)] Q) = D_ring_Ring_Push_3 F N Q (l 0) (l 1) L := by kernel_rfl
def q_ring_Ring_Push_2a (N : Nat → Nat) : ACode := (.seq (.reg [⟨.t 5, none, .mv, [.l 0]⟩, ⟨.t 6, none, .eq false .ptr, [.t 5, .c (.p none)]⟩, ⟨.t 7, none, .mv, [.t 6]⟩, ⟨.t 8, some (.t 7, false), .mv, [.l 0]⟩, ⟨.t 9, some (.t 7, false), .nilchk, [.t 8]⟩, ⟨.t 10, some (.t 7, false), .fad 2, [.t 9]⟩, ⟨.t 11, some (.t 7, false), .ld none, [.t 10]⟩, ⟨.t 12, some (.t 7, false), .mv, [.l 0]⟩, ⟨.t 13, some (.t 7, false), .nilchk, [.t 12]⟩, ⟨.t 14, some (.t 7, false), .fad 0, [.t 13]⟩, ⟨.t 15, some (.t 7, false), .ld none, [.t 14]⟩, ⟨.t 16, some (.t 7, false), .lenSl, [.t 15]⟩, ⟨.t 17, some (.t 7, false), .bin .eql, [.t 11, .t 16]⟩, ⟨.t 18, none, .pick, [.t 7, .c (.b true), .t 17]⟩]) (.cond (.t 18) (.seq (.reg [⟨.l 4, none, .mv, [.c (.b false)]⟩]) .ret) .skip))
def q_ring_Ring_Push_2 (N : Nat → Nat) : ACode := (.seq (q_ring_Ring_Push_2a N) (q_ring_Ring_Push_3 N))
noncomputable def D_ring_Ring_Push_2 (F : Nat → Option AFn) (N : Nat → Nat) (Q : AV → Lg → Prop) (x0 : AV) (x1 : AV) (L : Lg) : Prop :=
 wpOp F (.eq false .ptr) [x0, (.p none)] L fun v1 L1 =>
 gdOp F v1 false .mv [x0] L1 fun v2 L2 =>
 gdOp F v1 false .nilchk [v2] L2 fun v3 L3 =>
 gdOp F v1 false (.fad 2) [v3] L3 fun v4 L4 =>
 gdOp F v1 false (.ld none) [v4] L4 fun v5 L5 =>
 gdOp F v1 false .mv [x0] L5 fun v6 L6 =>
 gdOp F v1 false .nilchk [v6] L6 fun v7 L7 =>
 gdOp F v1 false (.fad 0) [v7] L7 fun v8 L8 =>
 gdOp F v1 false (.ld none) [v8] L8 fun v9 L9 =>
 gdOp F v1 false .lenSl [v9] L9 fun v10 L10 =>
 gdOp F v1 false (.bin .eql) [v5, v10] L10 fun v11 L11 =>
 wpOp F .pick [v1, (.b true), v11] L11 fun v12 L12 =>
 condW v12
 (fin1 (some (.b false)) Q L12)
 (D_ring_Ring_Push_3 F N Q x0 x1 L12)
theorem e_ring_Ring_Push_2 (F : Nat → Option AFn) (N : Nat → Nat) (Q : AV → Lg → Prop) (l t : Env) (L : Lg) : wp F (q_ring_Ring_Push_2 N) l t L (fin [.tmp (.l 4)] Q) (fun _ _ _ _ => False) (fin [.tmp (.l 4)] Q) = D_ring_Ring_Push_2 F N Q (l 0) (l 1) L := Eq.trans (wpq_seq F (q_ring_Ring_Push_2a N) (q_ring_Ring_Push_3 N) l t L (fin [.tmp (.l 4)] Q) (fun _ _ _ _ => False) (fin [.tmp (.l 4)] Q)) (Eq.trans (congrArg (fun Z : Kn => wp F (q_ring_Ring_Push_2a N) l t L Z (fun _ _ _ _ => False) (fin [.tmp (.l 4)] Q)) (funext fun l => funext fun t => funext fun L => e_ring_Ring_Push_3 F N Q l t L)) (by kernel_rfl))
def q_ring_Ring_Push_1a (N : Nat → Nat) : ACode := (.reg [⟨.l 4, none, .mv, [.c (.b false)]⟩])
def q_ring_Ring_Push_1 (N : Nat → Nat) : ACode := (.seq (q_ring_Ring_Push_1a N) (q_ring_Ring_Push_2 N))
noncomputable def D_ring_Ring_Push_1 (F : Nat → Option AFn) (N : Nat → Nat) (Q : AV → Lg → Prop) (x0 : AV) (x1 : AV) (L : Lg) : Prop :=
 D_ring_Ring_Push_2 F N Q x0 x1 L
theorem e_ring_Ring_Push_1 (F : Nat → Option AFn) (N : Nat → Nat) (Q : AV → Lg → Prop) (l t : Env) (L : Lg) : wp F (q_ring_Ring_Push_1 N) l t L (fin [.tmp (.l 4)] Q) (fun _ _ _ _ => False) (fin [.tmp (.l 4)] Q) = D_ring_Ring_Push_1 F N Q (l 0) (l 1) L := Eq.trans (wpq_seq F (q_ring_Ring_Push_1a N) (q_ring_Ring_Push_2 N) l t L (fin [.tmp (.l 4)] Q) (fun _ _ _ _ => False) (fin [.tmp (.l 4)] Q)) (Eq.trans (congrArg (fun Z : Kn => wp F (q_ring_Ring_Push_1a N) l t L Z (fun _ _ _ _ => False) (fin [.tmp (.l 4)] Q)) (funext fun l => funext fun t => funext fun L => e_ring_Ring_Push_2 F N Q l t L)) (by kernel_rfl))
/-- (*tarpaulin/ring.Ring).Push -/
def c_ring_Ring_Push (N : Nat → Nat) : AFn := ⟨q_ring_Ring_Push_1 N, [.tmp (.l 4)]⟩
structure H_ring_Ring_Push (N : Nat → Nat) (F : Nat → Option AFn) : Prop where
  code : F (N k_ring_Ring_Push) = some (c_ring_Ring_Push N)
theorem r_ring_Ring_Push {F : Nat → Option AFn} {N : Nat → Nat} (h : F (N k_ring_Ring_Push) = some (c_ring_Ring_Push N)) {Q : AV → Lg → Prop} {a0 a1 : AV} {L : Lg} (e : D_ring_Ring_Push_1 F N Q a0 a1 L) : CallL F (N k_ring_Ring_Push) [a0, a1] L Q :=
  CallL.of_wp h (Eq.mpr (Eq.trans (e_ring_Ring_Push_1 F N Q (initE [a0, a1] 0) Env.nil L) (by kernel_rfl : _ = D_ring_Ring_Push_1 F N Q a0 a1 L)) e)
def q_ring_Ring_Pop_3 (N : Nat → Nat) : ACode := (.seq (.reg [⟨.t 14, none, .mv, [.l 0]⟩, ⟨.t 15, none, .nilchk, [.t 14]⟩, ⟨.t 16, none, .fad 0, [.t 15]⟩, ⟨.t 17, none, .ld none, [.t 16]⟩, ⟨.t 18, none, .mv, [.l 0]⟩, ⟨.t 19, none, .nilchk, [.t 18]⟩, ⟨.t 20, none, .fad 1, [.t 19]⟩, ⟨.t 21, none, .ld none, [.t 20]⟩, ⟨.t 22, none, .iad 1, [.t 17, .t 21]⟩, ⟨.t 23, none, .ld none, [.t 22]⟩, ⟨.l 4, none, .mv, [.t 23]⟩]) (.seq (.reg [⟨.t 24, none, .mv, [.l 0]⟩, ⟨.t 25, none, .mv, [.l 0]⟩, ⟨.t 26, none, .nilchk, [.t 25]⟩, ⟨.t 27, none, .fad 1, [.t 26]⟩, ⟨.t 28, none, .ld none, [.t 27]⟩, ⟨.t 29, none, .bin .add, [.t 28, .c (.i .i64 1)]⟩, ⟨.t 30, none, .mv, [.l 0]⟩, ⟨.t 31, none, .nilchk, [.t 30]⟩, ⟨.t 32, none, .fad 0, [.t 31]⟩, ⟨.t 33, none, .ld none, [.t 32]⟩, ⟨.t 34, none, .lenSl, [.t 33]⟩, ⟨.t 35, none, .bin .rem, [.t 29, .t 34]⟩, ⟨.t 36, none, .nilchk, [.t 24]⟩, ⟨.t 37, none, .fad 1, [.t 36]⟩, ⟨.no, none, .st 1, [.t 37, .t 35]⟩]) (.seq (.reg [⟨.t 38, none, .mv, [.l 0]⟩, ⟨.t 39, none, .nilchk, [.t 38]⟩, ⟨.t 40, none, .fad 2, [.t 39]⟩, ⟨.t 41, none, .ld none, [.t 40]⟩, ⟨.t 42, none, .bin .sub, [.t 41, .c (.i .i64 1)]⟩, ⟨.t 43, none, .nilchk, [.t 38]⟩, ⟨.t 44, none, .fad 2, [.t 43]⟩, ⟨.no, none, .st 1, [.t 44, .t 42]⟩]) (.seq (.reg [⟨.t 45, none, .mv, [.l 4]⟩, ⟨.l 2, none, .mv, [.t 45]⟩, ⟨.l 3, none, .mv, [.c (.b true)]⟩]) .ret))))
noncomputable def D_ring_Ring_Pop_3 (F : Nat → Option AFn) (N : Nat → Nat) (Q : AV → Lg → Prop) (x0 : AV) (L : Lg) : Prop :=
 wpOp F .nilchk [x0] L fun v1 L1 =>
 wpOp F (.fad 0) [v1] L1 fun v2 L2 =>
 wpOp F (.ld none) [v2] L2 fun v3 L3 =>
 wpOp F .nilchk [x0] L3 fun v4 L4 =>
 wpOp F (.fad 1) [v4] L4 fun v5 L5 =>
 wpOp F (.ld none) [v5] L5 fun v6 L6 =>
 wpOp F (.iad 1) [v3, v6] L6 fun v7 L7 =>
 wpOp F (.ld none) [v7] L7 fun v8 L8 =>
 wpOp F .nilchk [x0] L8 fun v9 L9 =>
 wpOp F (.fad 1) [v9] L9 fun v10 L10 =>
 wpOp F (.ld none) [v10] L10 fun v11 L11 =>
 wpOp F (.bin .add) [v11, (.i .i64 1)] L11 fun v12 L12 =>
 wpOp F .nilchk [x0] L12 fun v13 L13 =>
 wpOp F (.fad 0) [v13] L13 fun v14 L14 =>
 wpOp F (.ld none) [v14] L14 fun v15 L15 =>
 wpOp F .lenSl [v15] L15 fun v16 L16 =>
 wpOp F (.bin .rem) [v12, v16] L16 fun v17 L17 =>
 wpOp F .nilchk [x0] L17 fun v18 L18 =>
 wpOp F (.fad 1) [v18] L18 fun v19 L19 =>
 wpOp F (.st 1) [v19, v17] L19 fun _ L20 =>
 wpOp F .nilchk [x0] L20 fun v21 L21 =>
 wpOp F (.fad 2) [v21] L21 fun v22 L22 =>
 wpOp F (.ld none) [v22] L22 fun v23 L23 =>
 wpOp F (.bin .sub) [v23, (.i .i64 1)] L23 fun v24 L24 =>
 wpOp F .nilchk [x0] L24 fun v25 L25 =>
 wpOp F (.fad 2) [v25] L25 fun v26 L26 =>
 wpOp F (.st 1) [v26, v24] L26 fun _ L27 =>
 fin1 (some (.tup [v8, (.b true)])) Q L27
theorem e_ring_Ring_Pop_3 (F : Nat → Option AFn) (N : Nat → Nat) (Q : AV → Lg → Prop) (l t : Env) (L : Lg) : wp F (q_ring_Ring_Pop_3 N) l t L (fin [.tmp (.l 2), .tmp (.l 3)] Q) (fun _ _ _ _ => False) (fin [.tmp (.l 2), .tmp (.l 3)] Q) = D_ring_Ring_Pop_3 F N Q (l 0) L := by kernel_rfl
def q_ring_Ring_Pop_2a (N : Nat → Nat) : ACode := (.seq (.reg [⟨.t 5, none, .mv, [.l 0]⟩, ⟨.t 6, none, .eq false .ptr, [.t 5, .c (.p none)]⟩, ⟨.t 7, none, .mv, [.t 6]⟩, ⟨.t 8, some (.t 7, false), .mv, [.l 0]⟩, ⟨.t 9, some (.t 7, false), .nilchk, [.t 8]⟩, ⟨.t 10, some (.t 7, false), .fad 2, [.t 9]⟩, ⟨.t 11, some (.t 7, false), .ld none, [.t 10]⟩, ⟨.t 12, some (.t 7, false), .bin .eql, [.t 11, .c (.i .i64 0)]⟩, ⟨.t 13, none, .pick, [.t 7, .c (.b true), .t 12]⟩]) (.cond (.t 13) (.seq (.reg [⟨.l 2, none, .mv, [.c (.i .i64 0)]⟩, ⟨.l 3, none, .mv, [.c (.b false)]⟩]) .ret) .skip))
def q_ring_Ring_Pop_2 (N : Nat → Nat) : ACode := (.seq (q_ring_Ring_Pop_2a N) (q_ring_Ring_Pop_3 N))
noncomputable def D_ring_Ring_Pop_2 (F : Nat → Option AFn) (N : Nat → Nat) (Q : AV → Lg → Prop) (x0 : AV) (L : Lg) : Prop :=
 wpOp F (.eq false .ptr) [x0, (.p none)] L fun v1 L1 =>
 gdOp F v1 false .mv [x0] L1 fun v2 L2 =>
 gdOp F v1 false .nilchk [v2] L2 fun v3 L3 =>
 gdOp F v1 false (.fad 2) [v3] L3 fun v4 L4 =>
 gdOp F v1 false (.ld none) [v4] L4 fun v5 L5 =>
 gdOp F v1 false (.bin .eql) [v5, (.i .i64 0)] L5 fun v6 L6 =>
 wpOp F .pick [v1, (.b true), v6] L6 fun v7 L7 =>
 condW v7
 (fin1 (some (.tup [(.i .i64 0), (.b false)])) Q L7)
 (D_ring_Ring_Pop_3 F N Q x0 L7)
theorem e_ring_Ring_Pop_2 (F : Nat → Option AFn) (N : Nat → Nat) (Q : AV → Lg → Prop) (l t : Env) (L : Lg) : wp F (q_ring_Ring_Pop_2 N) l t L (fin [.tmp (.l 2), .tmp (.l 3)] Q) (fun _ _ _ _ => False) (fin [.tmp (.l 2), .tmp (.l 3)] Q) = D_ring_Ring_Pop_2 F N Q (l 0) L := Eq.trans (wpq_seq F (q_ring_Ring_Pop_2a N) (q_ring_Ring_Pop_3 N) l t L (fin [.tmp (.l 2), .tmp (.l 3)] Q) (fun _ _ _ _ => False) (fin [.tmp (.l 2), .tmp (.l 3)] Q)) (Eq.trans (congrArg (fun Z : Kn => wp F (q_ring_Ring_Pop_2a N) l t L Z (fun _ _ _ _ => False) (fin [.tmp (.l 2), .tmp (.l 3)] Q)) (funext fun l => funext fun t => funext fun L => e_ring_Ring_Pop_3 F N Q l t L)) (by kernel_rfl))
def q_ring_Ring_Pop_1a (N : Nat → Nat) : ACode := (.reg [⟨.l 2, none, .mv, [.c (.i .i64 0)]⟩, ⟨.l 3, none, .mv, [.c (.b false)]⟩])
def q_ring_Ring_Pop_1 (N : Nat → Nat) : ACode := (.seq (q_ring_Ring_Pop_1a N) (q_ring_Ring_Pop_2 N))
noncomputable def D_ring_Ring_Pop_1 (F : Nat → Option AFn) (N : Nat → Nat) (Q : AV → Lg → Prop) (x0 : AV) (L : Lg) : Prop :=
 D_ring_Ring_Pop_2 F N Q x0 L
theorem e_ring_Ring_Pop_1 (F : Nat → Option AFn) (N : Nat → Nat) (Q : AV → Lg → Prop) (l t : Env) (L : Lg) : wp F (q_ring_Ring_Pop_1 N) l t L (fin [.tmp (.l 2), .tmp (.l 3)] Q) (fun _ _ _ _ => False) (fin [.tmp (.l 2), .tmp (.l 3)] Q) = D_ring_Ring_Pop_1 F N Q (l 0) L := Eq.trans (wpq_seq F (q_ring_Ring_Pop_1a N) (q_ring_Ring_Pop_2 N) l t L (fin [.tmp (.l 2), .tmp (.l 3)] Q) (fun _ _ _ _ => False) (fin [.tmp (.l 2), .tmp (.l 3)] Q)) (Eq.trans (congrArg (fun Z : Kn => wp F (q_ring_Ring_Pop_1a N) l t L Z (fun _ _ _ _ => False) (fin [.tmp (.l 2), .tmp (.l 3)] Q)) (funext fun l => funext fun t => funext fun L => e_ring_Ring_Pop_2 F N Q l t L)) (by kernel_rfl))
/-- (*tarpaulin/ring.Ring).Pop -/
def c_ring_Ring_Pop (N : Nat → Nat) : AFn := ⟨q_ring_Ring_Pop_1 N, [.tmp (.l 2), .tmp (.l 3)]⟩
structure H_ring_Ring_Pop (N : Nat → Nat) (F : Nat → Option AFn) : Prop where
  code : F (N k_ring_Ring_Pop) = some (c_ring_Ring_Pop N)
theorem r_ring_Ring_Pop {F : Nat → Option AFn} {N : Nat → Nat} (h : F (N k_ring_Ring_Pop) = some (c_ring_Ring_Pop N)) {Q : AV → Lg → Prop} {a0 : AV} {L : Lg} (e : D_ring_Ring_Pop_1 F N Q a0 L) : CallL F (N k_ring_Ring_Pop) [a0] L Q :=
  CallL.of_wp h (Eq.mpr (Eq.trans (e_ring_Ring_Pop_1 F N Q (initE [a0] 0) Env.nil L) (by kernel_rfl : _ = D_ring_Ring_Pop_1 F N Q a0 L)) e)
def q_ring_Ring_Len_1 (N : Nat → Nat) : ACode := (.seq (.reg [⟨.l 2, none, .mv, [.c (.i .i64 0)]⟩]) (.seq (.seq (.reg [⟨.t 3, none, .mv, [.l 0]⟩, ⟨.t 4, none, .eq false .ptr, [.t 3, .c (.p none)]⟩]) (.cond (.t 4) (.seq (.reg [⟨.l 2, none, .mv, [.c (.i .i64 0)]⟩]) .ret) .skip)) (.seq (.reg [⟨.t 5, none, .mv, [.l 0]⟩, ⟨.t 6, none, .nilchk, [.t 5]⟩, ⟨.t 7, none, .fad 2, [.t 6]⟩, ⟨.t 8, none, .ld none, [.t 7]⟩, ⟨.l 2, none, .mv, [.t 8]⟩]) .ret)))
noncomputable def D_ring_Ring_Len_1 (F : Nat → Option AFn) (N : Nat → Nat) (Q : AV → Lg → Prop) (x0 : AV) (L : Lg) : Prop :=
 wpOp F (.eq false .ptr) [x0, (.p none)] L fun v1 L1 =>
 condW v1
 (fin1 (some (.i .i64 0)) Q L1)
 (wpOp F .nilchk [x0] L1 fun v2 L2 =>
 wpOp F (.fad 2) [v2] L2 fun v3 L3 =>
 wpOp F (.ld none) [v3] L3 fun v4 L4 =>
 fin1 (some v4) Q L4)
theorem e_ring_Ring_Len_1 (F : Nat → Option AFn) (N : Nat → Nat) (Q : AV → Lg → Prop) (l t : Env) (L : Lg) : wp F (q_ring_Ring_Len_1 N) l t L (fin [.tmp (.l 2)] Q) (fun _ _ _ _ => False) (fin [.tmp (.l 2)] Q) = D_ring_Ring_Len_1 F N Q (l 0) L := by kernel_rfl
/-- (*tarpaulin/ring.Ring).Len -/
def c_ring_Ring_Len (N : Nat → Nat) : AFn := ⟨q_ring_Ring_Len_1 N, [.tmp (.l 2)]⟩
structure H_ring_Ring_Len (N : Nat → Nat) (F : Nat → Option AFn) : Prop where
  code : F (N k_ring_Ring_Len) = some (c_ring_Ring_Len N)
theorem r_ring_Ring_Len {F : Nat → Option AFn} {N : Nat → Nat} (h : F (N k_ring_Ring_Len) = some (c_ring_Ring_Len N)) {Q : AV → Lg → Prop} {a0 : AV} {L : Lg} (e : D_ring_Ring_Len_1 F N Q a0 L) : CallL F (N k_ring_Ring_Len) [a0] L Q :=
  CallL.of_wp h (Eq.mpr (Eq.trans (e_ring_Ring_Len_1 F N Q (initE [a0] 0) Env.nil L) (by kernel_rfl : _ = D_ring_Ring_Len_1 F N Q a0 L)) e)
def q_ring_Ring_Size_1 (N : Nat → Nat) : ACode := (.seq (.reg [⟨.l 2, none, .mv, [.c (.i .i64 0)]⟩]) (.seq (.seq (.reg [⟨.t 3, none, .mv, [.l 0]⟩, ⟨.t 4, none, .eq false .ptr, [.t 3, .c (.p none)]⟩]) (.cond (.t 4) (.seq (.reg [⟨.l 2, none, .mv, [.c (.i .i64 0)]⟩]) .ret) .skip)) (.seq (.reg [⟨.t 5, none, .mv, [.l 0]⟩, ⟨.t 6, none, .nilchk, [.t 5]⟩, ⟨.t 7, none, .fad 0, [.t 6]⟩, ⟨.t 8, none, .ld none, [.t 7]⟩, ⟨.t 9, none, .lenSl, [.t 8]⟩, ⟨.l 2, none, .mv, [.t 9]⟩]) .ret)))
noncomputable def D_ring_Ring_Size_1 (F : Nat → Option AFn) (N : Nat → Nat) (Q : AV → Lg → Prop) (x0 : AV) (L : Lg) : Prop :=
 wpOp F (.eq false .ptr) [x0, (.p none)] L fun v1 L1 =>
 condW v1
 (fin1 (some (.i .i64 0)) Q L1)
 (wpOp F .nilchk [x0] L1 fun v2 L2 =>
 wpOp F (.fad 0) [v2] L2 fun v3 L3 =>
 wpOp F (.ld none) [v3] L3 fun v4 L4 =>
 wpOp F .lenSl [v4] L4 fun v5 L5 =>
 fin1 (some v5) Q L5)
theorem e_ring_Ring_Size_1 (F : Nat → Option AFn) (N : Nat → Nat) (Q : AV → Lg → Prop) (l t : Env) (L : Lg) : wp F (q_ring_Ring_Size_1 N) l t L (fin [.tmp (.l 2)] Q) (fun _ _ _ _ => False) (fin [.tmp (.l 2)] Q) = D_ring_Ring_Size_1 F N Q (l 0) L := by kernel_rfl
/-- (*tarpaulin/ring.Ring).Size -/
def c_ring_Ring_Size (N : Nat → Nat) : AFn := ⟨q_ring_Ring_Size_1 N, [.tmp (.l 2)]⟩
structure H_ring_Ring_Size (N : Nat → Nat) (F : Nat → Option AFn) : Prop where
  code : F (N k_ring_Ring_Size) = some (c_ring_Ring_Size N)
theorem r_ring_Ring_Size {F : Nat → Option AFn} {N : Nat → Nat} (h : F (N k_ring_Ring_Size) = some (c_ring_Ring_Size N)) {Q : AV → Lg → Prop} {a0 : AV} {L : Lg} (e : D_ring_Ring_Size_1 F N Q a0 L) : CallL F (N k_ring_Ring_Size) [a0] L Q :=
  CallL.of_wp h (Eq.mpr (Eq.trans (e_ring_Ring_Size_1 F N Q (initE [a0] 0) Env.nil L) (by kernel_rfl : _ = D_ring_Ring_Size_1 F N Q a0 L)) e)
def q_ring_Ring_Clear_1 (N : Nat → Nat) : ACode := (.seq (.reg [⟨.l 2, none, .mv, [.c (.i .i64 0)]⟩]) (.seq (.reg [⟨.t 4, none, .mv, [.l 0]⟩, ⟨.t 5, none, .call (N k_ring_Ring_Len), [.t 4]⟩, ⟨.l 3, none, .mv, [.t 5]⟩]) (.seq (.seq (.reg [⟨.t 6, none, .mv, [.l 3]⟩, ⟨.t 7, none, .bin .gtr, [.t 6, .c (.i .i64 0)]⟩]) (.cond (.t 7) (.reg [⟨.t 8, none, .mv, [.l 0]⟩, ⟨.t 9, none, .nilchk, [.t 8]⟩, ⟨.t 10, none, .fad 2, [.t 9]⟩, ⟨.no, none, .st 1, [.t 10, .c (.i .i64 0)]⟩]) .skip)) (.seq (.reg [⟨.t 11, none, .mv, [.l 3]⟩, ⟨.l 2, none, .mv, [.t 11]⟩]) .ret))))
noncomputable def D_ring_Ring_Clear_1 (F : Nat → Option AFn) (N : Nat → Nat) (Q : AV → Lg → Prop) (x0 : AV) (L : Lg) : Prop :=
 CallL F (N k_ring_Ring_Len) [x0] L fun v1 L1 =>
 wpOp F (.bin .gtr) [v1, (.i .i64 0)] L1 fun v2 L2 =>
 condW v2
 (wpOp F .nilchk [x0] L2 fun v3 L3 =>
 wpOp F (.fad 2) [v3] L3 fun v4 L4 =>
 wpOp F (.st 1) [v4, (.i .i64 0)] L4 fun _ L5 =>
 fin1 (some v1) Q L5)
 (fin1 (some v1) Q L2)
theorem e_ring_Ring_Clear_1 (F : Nat → Option AFn) (N : Nat → Nat) (Q : AV → Lg → Prop) (l t : Env) (L : Lg) : wp F (q_ring_Ring_Clear_1 N) l t L (fin [.tmp (.l 2)] Q) (fun _ _ _ _ => False) (fin [.tmp (.l 2)] Q) = D_ring_Ring_Clear_1 F N Q (l 0) L := by kernel_rfl
/-- (*tarpaulin/ring.Ring).Clear -/
def c_ring_Ring_Clear (N : Nat → Nat) : AFn := ⟨q_ring_Ring_Clear_1 N, [.tmp (.l 2)]⟩
structure H_ring_Ring_Clear (N : Nat → Nat) (F : Nat → Option AFn) : Prop where
  code : F (N k_ring_Ring_Clear) = some (c_ring_Ring_Clear N)
  ring_Ring_Len : H_ring_Ring_Len N F
theorem r_ring_Ring_Clear {F : Nat → Option AFn} {N : Nat → Nat} (h : F (N k_ring_Ring_Clear) = some (c_ring_Ring_Clear N)) {Q : AV → Lg → Prop} {a0 : AV} {L : Lg} (e : D_ring_Ring_Clear_1 F N Q a0 L) : CallL F (N k_ring_Ring_Clear) [a0] L Q :=
  CallL.of_wp h (Eq.mpr (Eq.trans (e_ring_Ring_Clear_1 F N Q (initE [a0] 0) Env.nil L) (by kernel_rfl : _ = D_ring_Ring_Clear_1 F N Q a0 L)) e)
def q_ring_New_1 (N : Nat → Nat) : ACode := (.seq (.reg [⟨.l 2, none, .mv, [.c (.p none)]⟩, ⟨.l 3, none, .mv, [.c (.i .i64 0)]⟩]) (.seq (.seq (.reg [⟨.t 4, none, .mv, [.l 0]⟩, ⟨.t 5, none, .bin .lss, [.t 4, .c (.i .i64 0)]⟩, ⟨.t 6, none, .mv, [.t 5]⟩, ⟨.t 7, some (.t 6, false), .mv, [.l 0]⟩, ⟨.t 8, some (.t 6, false), .bin .gtr, [.t 7, .c (.i .i64 64)]⟩, ⟨.t 9, none, .pick, [.t 6, .c (.b true), .t 8]⟩]) (.cond (.t 9) (.seq (.reg [⟨.l 2, none, .mv, [.c (.p none)]⟩, ⟨.l 3, none, .mv, [.c (.i .i64 1)]⟩]) .ret) .skip)) (.seq (.reg [⟨.t 10, none, .mv, [.l 0]⟩, ⟨.t 11, none, .mksl [.i .i64 0] 8, [.t 10, .t 10]⟩, ⟨.t 12, none, .build [.sl none 0 0 0, .i .i64 0, .i .i64 0] [(0, 1)], [.t 11]⟩, ⟨.t 13, none, .box, [.t 12]⟩, ⟨.l 2, none, .mv, [.t 13]⟩, ⟨.l 3, none, .mv, [.c (.i .i64 0)]⟩]) .ret)))
noncomputable def D_ring_New_1 (F : Nat → Option AFn) (N : Nat → Nat) (Q : AV → Lg → Prop) (x0 : AV) (L : Lg) : Prop :=
 wpOp F (.bin .lss) [x0, (.i .i64 0)] L fun v1 L1 =>
 gdOp F v1 false .mv [x0] L1 fun v2 L2 =>
 gdOp F v1 false (.bin .gtr) [v2, (.i .i64 64)] L2 fun v3 L3 =>
 wpOp F .pick [v1, (.b true), v3] L3 fun v4 L4 =>
 condW v4
 (fin1 (some (.tup [(.p none), (.i .i64 1)])) Q L4)
 (wpOp F (.mksl [.i .i64 0] 8) [x0, x0] L4 fun v5 L5 =>
 wpOp F (.build [.sl none 0 0 0, .i .i64 0, .i .i64 0] [(0, 1)]) [v5] L5 fun v6 L6 =>
 wpOp F .box [v6] L6 fun v7 L7 =>
 fin1 (some (.tup [v7, (.i .i64 0)])) Q L7)
theorem e_ring_New_1 (F : Nat → Option AFn) (N : Nat → Nat) (Q : AV → Lg → Prop) (l t : Env) (L : Lg) : wp F (q_ring_New_1 N) l t L (fin [.tmp (.l 2), .tmp (.l 3)] Q) (fun _ _ _ _ => False) (fin [.tmp (.l 2), .tmp (.l 3)] Q) = D_ring_New_1 F N Q (l 0) L := by kernel_rfl
/-- tarpaulin/ring.New -/
def c_ring_New (N : Nat → Nat) : AFn := ⟨q_ring_New_1 N, [.tmp (.l 2), .tmp (.l 3)]⟩
structure H_ring_New (N : Nat → Nat) (F : Nat → Option AFn) : Prop where
  code : F (N k_ring_New) = some (c_ring_New N)
theorem r_ring_New {F : Nat → Option AFn} {N : Nat → Nat} (h : F (N k_ring_New) = some (c_ring_New N)) {Q : AV → Lg → Prop} {a0 : AV} {L : Lg} (e : D_ring_New_1 F N Q a0 L) : CallL F (N k_ring_New) [a0] L Q :=
  CallL.of_wp h (Eq.mpr (Eq.trans (e_ring_New_1 F N Q (initE [a0] 0) Env.nil L) (by kernel_rfl : _ = D_ring_New_1 F N Q a0 L)) e)
def q_tarpaulinalike_Round_1 (N : Nat → Nat) : ACode := (.seq (.reg [⟨.l 4, none, .mv, [.c (.i .i64 0)]⟩]) (.seq (.reg [⟨.t 5, none, .mv, [.l 0]⟩, ⟨.t 6, none, .mv, [.l 1]⟩, ⟨.t 7, none, .bin .rem, [.t 5, .t 6]⟩, ⟨.t 8, none, .mv, [.l 1]⟩, ⟨.t 9, none, .bin .add, [.t 7, .t 8]⟩, ⟨.t 10, none, .mv, [.l 1]⟩, ⟨.t 11, none, .bin .rem, [.t 9, .t 10]⟩, ⟨.l 4, none, .mv, [.t 11]⟩]) .ret))
noncomputable def D_tarpaulinalike_Round_1 (F : Nat → Option AFn) (N : Nat → Nat) (Q : AV → Lg → Prop) (x0 : AV) (x1 : AV) (L : Lg) : Prop :=
 wpOp F (.bin .rem) [x0, x1] L fun v1 L1 =>
 wpOp F (.bin .add) [v1, x1] L1 fun v2 L2 =>
 wpOp F (.bin .rem) [v2, x1] L2 fun v3 L3 =>
 fin1 (some v3) Q L3
theorem e_tarpaulinalike_Round_1 (F : Nat → Option AFn) (N : Nat → Nat) (Q : AV → Lg → Prop) (l t : Env) (L : Lg) : wp F (q_tarpaulinalike_Round_1 N) l t L (fin [.tmp (.l 4)] Q) (fun _ _ _ _ => False) (fin [.tmp (.l 4)] Q) = D_tarpaulinalike_Round_1 F N Q (l 0) (l 1) L := by kernel_rfl
/-- tarpaulin/tarpaulinalike.Round -/
def c_tarpaulinalike_Round (N : Nat → Nat) : AFn := ⟨q_tarpaulinalike_Round_1 N, [.tmp (.l 4)]⟩
structure H_tarpaulinalike_Round (N : Nat → Nat) (F : Nat → Option AFn) : Prop where
  code : F (N k_tarpaulinalike_Round) = some (c_tarpaulinalike_Round N)
theorem r_tarpaulinalike_Round {F : Nat → Option AFn} {N : Nat → Nat} (h : F (N k_tarpaulinalike_Round) = some (c_tarpaulinalike_Round N)) {Q : AV → Lg → Prop} {a0 a1 : AV} {L : Lg} (e : D_tarpaulinalike_Round_1 F N Q a0 a1 L) : CallL F (N k_tarpaulinalike_Round) [a0, a1] L Q :=
  CallL.of_wp h (Eq.mpr (Eq.trans (e_tarpaulinalike_Round_1 F N Q (initE [a0, a1] 0) Env.nil L) (by kernel_rfl : _ = D_tarpaulinalike_Round_1 F N Q a0 a1 L)) e)
def q_wait_Queue_drop_2 (N : Nat → Nat) : ACode := (.seq (.seq (.reg [⟨.t 26, none, .mv, [.l 1]⟩, ⟨.t 27, none, .nilchk, [.t 26]⟩, ⟨.t 28, none, .fad 4, [.t 27]⟩, ⟨.t 29, none, .ld none, [.t 28]⟩, ⟨.t 30, none, .eq false .ptr, [.t 29, .c (.p none)]⟩]) (.cond (.t 30) (.reg [⟨.t 31, none, .mv, [.l 0]⟩, ⟨.t 32, none, .mv, [.l 1]⟩, ⟨.t 33, none, .nilchk, [.t 32]⟩, ⟨.t 34, none, .fad 3, [.t 33]⟩, ⟨.t 35, none, .ld none, [.t 34]⟩, ⟨.t 36, none, .nilchk, [.t 31]⟩, ⟨.t 37, none, .fad 1, [.t 36]⟩, ⟨.no, none, .st 1, [.t 37, .t 35]⟩]) (.reg [⟨.t 38, none, .mv, [.l 1]⟩, ⟨.t 39, none, .nilchk, [.t 38]⟩, ⟨.t 40, none, .fad 4, [.t 39]⟩, ⟨.t 41, none, .ld none, [.t 40]⟩, ⟨.t 42, none, .mv, [.l 1]⟩, ⟨.t 43, none, .nilchk, [.t 42]⟩, ⟨.t 44, none, .fad 3, [.t 43]⟩, ⟨.t 45, none, .ld none, [.t 44]⟩, ⟨.t 46, none, .nilchk, [.t 41]⟩, ⟨.t 47, none, .fad 3, [.t 46]⟩, ⟨.no, none, .st 1, [.t 47, .t 45]⟩]))) (.reg [⟨.t 48, none, .mv, [.l 0]⟩, ⟨.t 49, none, .nilchk, [.t 48]⟩, ⟨.t 50, none, .fad 2, [.t 49]⟩, ⟨.t 51, none, .ld none, [.t 50]⟩, ⟨.t 52, none, .bin .sub, [.t 51, .c (.i .i64 1)]⟩, ⟨.t 53, none, .nilchk, [.t 48]⟩, ⟨.t 54, none, .fad 2, [.t 53]⟩, ⟨.no, none, .st 1, [.t 54, .t 52]⟩]))
noncomputable def D_wait_Queue_drop_2 (F : Nat → Option AFn) (N : Nat → Nat) (Q : AV → Lg → Prop) (x0 : AV) (x1 : AV) (L : Lg) : Prop :=
 wpOp F .nilchk [x1] L fun v1 L1 =>
 wpOp F (.fad 4) [v1] L1 fun v2 L2 =>
 wpOp F (.ld none) [v2] L2 fun v3 L3 =>
 wpOp F (.eq false .ptr) [v3, (.p none)] L3 fun v4 L4 =>
 condW v4
 (wpOp F .nilchk [x1] L4 fun v5 L5 =>
 wpOp F (.fad 3) [v5] L5 fun v6 L6 =>
 wpOp F (.ld none) [v6] L6 fun v7 L7 =>
 wpOp F .nilchk [x0] L7 fun v8 L8 =>
 wpOp F (.fad 1) [v8] L8 fun v9 L9 =>
 wpOp F (.st 1) [v9, v7] L9 fun _ L10 =>
 wpOp F .nilchk [x0] L10 fun v11 L11 =>
 wpOp F (.fad 2) [v11] L11 fun v12 L12 =>
 wpOp F (.ld none) [v12] L12 fun v13 L13 =>
 wpOp F (.bin .sub) [v13, (.i .i64 1)] L13 fun v14 L14 =>
 wpOp F .nilchk [x0] L14 fun v15 L15 =>
 wpOp F (.fad 2) [v15] L15 fun v16 L16 =>
 wpOp F (.st 1) [v16, v14] L16 fun _ L17 =>
 fin1 (some (.tup [])) Q L17)
 (wpOp F .nilchk [x1] L4 fun v18 L18 =>
 wpOp F (.fad 4) [v18] L18 fun v19 L19 =>
 wpOp F (.ld none) [v19] L19 fun v20 L20 =>
 wpOp F .nilchk [x1] L20 fun v21 L21 =>
 wpOp F (.fad 3) [v21] L21 fun v22 L22 =>
 wpOp F (.ld none) [v22] L22 fun v23 L23 =>
 wpOp F .nilchk [v20] L23 fun v24 L24 =>
 wpOp F (.fad 3) [v24] L24 fun v25 L25 =>
 wpOp F (.st 1) [v25, v23] L25 fun _ L26 =>
 wpOp F .nilchk [x0] L26 fun v27 L27 =>
 wpOp F (.fad 2) [v27] L27 fun v28 L28 =>
 wpOp F (.ld none) [v28] L28 fun v29 L29 =>
 wpOp F (.bin .sub) [v29, (.i .i64 1)] L29 fun v30 L30 =>
 wpOp F .nilchk [x0] L30 fun v31 L31 =>
 wpOp F (.fad 2) [v31] L31 fun v32 L32 =>
 wpOp F (.st 1) [v32, v30] L32 fun _ L33 =>
 fin1 (some (.tup [])) Q L33)
theorem e_wait_Queue_drop_2 (F : Nat → Option AFn) (N : Nat → Nat) (Q : AV → Lg → Prop) (l t : Env) (L : Lg) : wp F (q_wait_Queue_drop_2 N) l t L (fin [] Q) (fun _ _ _ _ => False) (fin [] Q) = D_wait_Queue_drop_2 F N Q (l 0) (l 1) L := by kernel_rfl
def q_wait_Queue_drop_1a (N : Nat → Nat) : ACode := (.seq (.reg [⟨.t 4, none, .mv, [.l 1]⟩, ⟨.t 5, none, .nilchk, [.t 4]⟩, ⟨.t 6, none, .fad 3, [.t 5]⟩, ⟨.t 7, none, .ld none, [.t 6]⟩, ⟨.t 8, none, .eq false .ptr, [.t 7, .c (.p none)]⟩]) (.cond (.t 8) (.reg [⟨.t 9, none, .mv, [.l 0]⟩, ⟨.t 10, none, .mv, [.l 1]⟩, ⟨.t 11, none, .nilchk, [.t 10]⟩, ⟨.t 12, none, .fad 4, [.t 11]⟩, ⟨.t 13, none, .ld none, [.t 12]⟩, ⟨.t 14, none, .nilchk, [.t 9]⟩, ⟨.t 15, none, .fad 0, [.t 14]⟩, ⟨.no, none, .st 1, [.t 15, .t 13]⟩]) (.reg [⟨.t 16, none, .mv, [.l 1]⟩, ⟨.t 17, none, .nilchk, [.t 16]⟩, ⟨.t 18, none, .fad 3, [.t 17]⟩, ⟨.t 19, none, .ld none, [.t 18]⟩, ⟨.t 20, none, .mv, [.l 1]⟩, ⟨.t 21, none, .nilchk, [.t 20]⟩, ⟨.t 22, none, .fad 4, [.t 21]⟩, ⟨.t 23, none, .ld none, [.t 22]⟩, ⟨.t 24, none, .nilchk, [.t 19]⟩, ⟨.t 25, none, .fad 4, [.t 24]⟩, ⟨.no, none, .st 1, [.t 25, .t 23]⟩])))
def q_wait_Queue_drop_1 (N : Nat → Nat) : ACode := (.seq (q_wait_Queue_drop_1a N) (q_wait_Queue_drop_2 N))
noncomputable def D_wait_Queue_drop_1 (F : Nat → Option AFn) (N : Nat → Nat) (Q : AV → Lg → Prop) (x0 : AV) (x1 : AV) (L : Lg) : Prop :=
 wpOp F .nilchk [x1] L fun v1 L1 =>
 wpOp F (.fad 3) [v1] L1 fun v2 L2 =>
 wpOp F (.ld none) [v2] L2 fun v3 L3 =>
 wpOp F (.eq false .ptr) [v3, (.p none)] L3 fun v4 L4 =>
 condW v4
 (wpOp F .nilchk [x1] L4 fun v5 L5 =>
 wpOp F (.fad 4) [v5] L5 fun v6 L6 =>
 wpOp F (.ld none) [v6] L6 fun v7 L7 =>
 wpOp F .nilchk [x0] L7 fun v8 L8 =>
 wpOp F (.fad 0) [v8] L8 fun v9 L9 =>
 wpOp F (.st 1) [v9, v7] L9 fun _ L10 =>
 D_wait_Queue_drop_2 F N Q x0 x1 L10)
 (wpOp F .nilchk [x1] L4 fun v11 L11 =>
 wpOp F (.fad 3) [v11] L11 fun v12 L12 =>
 wpOp F (.ld none) [v12] L12 fun v13 L13 =>
 wpOp F .nilchk [x1] L13 fun v14 L14 =>
 wpOp F (.fad 4) [v14] L14 fun v15 L15 =>
 wpOp F (.ld none) [v15] L15 fun v16 L16 =>
 wpOp F .nilchk [v13] L16 fun v17 L17 =>
 wpOp F (.fad 4) [v17] L17 fun v18 L18 =>
 wpOp F (.st 1) [v18, v16] L18 fun _ L19 =>
 D_wait_Queue_drop_2 F N Q x0 x1 L19)
theorem e_wait_Queue_drop_1 (F : Nat → Option AFn) (N : Nat → Nat) (Q : AV → Lg → Prop) (l t : Env) (L : Lg) : wp F (q_wait_Queue_drop_1 N) l t L (fin [] Q) (fun _ _ _ _ => False) (fin [] Q) = D_wait_Queue_drop_1 F N Q (l 0) (l 1) L := Eq.trans (wpq_seq F (q_wait_Queue_drop_1a N) (q_wait_Queue_drop_2 N) l t L (fin [] Q) (fun _ _ _ _ => False) (fin [] Q)) (Eq.trans (congrArg (fun Z : Kn => wp F (q_wait_Queue_drop_1a N) l t L Z (fun _ _ _ _ => False) (fin [] Q)) (funext fun l => funext fun t => funext fun L => e_wait_Queue_drop_2 F N Q l t L)) (by kernel_rfl))
/-- (*tarpaulin/wait.Queue).drop -/
def c_wait_Queue_drop (N : Nat → Nat) : AFn := ⟨q_wait_Queue_drop_1 N, []⟩
structure H_wait_Queue_drop (N : Nat → Nat) (F : Nat → Option AFn) : Prop where
  code : F (N k_wait_Queue_drop) = some (c_wait_Queue_drop N)
theorem r_wait_Queue_drop {F : Nat → Option AFn} {N : Nat → Nat} (h : F (N k_wait_Queue_drop) = some (c_wait_Queue_drop N)) {Q : AV → Lg → Prop} {a0 a1 : AV} {L : Lg} (e : D_wait_Queue_drop_1 F N Q a0 a1 L) : CallL F (N k_wait_Queue_drop) [a0, a1] L Q :=
  CallL.of_wp h (Eq.mpr (Eq.trans (e_wait_Queue_drop_1 F N Q (initE [a0, a1] 0) Env.nil L) (by kernel_rfl : _ = D_wait_Queue_drop_1 F N Q a0 a1 L)) e)
def q_wait_Queue_take_4 (N : Nat → Nat) : ACode := (.seq (.reg [⟨.t 33, none, .build [.i .i64 0, .i .i64 0, .i .i64 0] [], []⟩, ⟨.no, none, .st 3, [.l 4, .t 33]⟩, ⟨.l 5, none, .mv, [.c (.b false)]⟩]) .ret)
noncomputable def D_wait_Queue_take_4 (F : Nat → Option AFn) (N : Nat → Nat) (Q : AV → Lg → Prop) (x4 : AV) (L : Lg) : Prop :=
 wpOp F (.build [.i .i64 0, .i .i64 0, .i .i64 0] []) [] L fun v1 L1 =>
 wpOp F (.st 3) [x4, v1] L1 fun _ L2 =>
 fin1 (resVL Env.nil Env.nil L2 [.cell (.c x4) (some 3), .tmp (.c (.b false))]) Q L2
theorem e_wait_Queue_take_4 (F : Nat → Option AFn) (N : Nat → Nat) (Q : AV → Lg → Prop) (l t : Env) (L : Lg) : wp F (q_wait_Queue_take_4 N) l t L (fin [.cell (.l 4) (some 3), .tmp (.l 5)] Q) (fun _ _ _ _ => False) (fin [.cell (.l 4) (some 3), .tmp (.l 5)] Q) = D_wait_Queue_take_4 F N Q (l 4) L := by kernel_rfl
def q_wait_Queue_take_8 (N : Nat → Nat) : ACode := (.seq (.seq (.reg [⟨.t 14, none, .mv, [.l 6]⟩, ⟨.t 15, none, .eq true .ptr, [.t 14, .c (.p none)]⟩]) (.cond (.t 15) .skip (.exit 0))) (.seq (.block 1 (.seq (.reg [⟨.t 20, none, .mv, [.l 1]⟩, ⟨.t 21, none, .mv, [.l 6]⟩, ⟨.t 22, none, .nilchk, [.t 21]⟩, ⟨.t 23, none, .fad 0, [.t 22]⟩, ⟨.t 24, none, .ld (some 3), [.t 23]⟩, ⟨.t 25, none, .callv, [.t 20, .t 24]⟩]) (.cond (.t 25) (.seq (.reg [⟨.t 26, none, .mv, [.l 0]⟩, ⟨.t 27, none, .mv, [.l 6]⟩, ⟨.t 28, none, .call (N k_wait_Queue_drop), [.t 26, .t 27]⟩]) (.seq (.reg [⟨.t 29, none, .mv, [.l 6]⟩, ⟨.t 30, none, .nilchk, [.t 29]⟩, ⟨.t 31, none, .fad 0, [.t 30]⟩, ⟨.t 32, none, .ld (some 3), [.t 31]⟩, ⟨.no, none, .st 3, [.l 4, .t 32]⟩, ⟨.l 5, none, .mv, [.c (.b true)]⟩]) .ret)) .skip))) (.reg [⟨.t 16, none, .mv, [.l 6]⟩, ⟨.t 17, none, .nilchk, [.t 16]⟩, ⟨.t 18, none, .fad 4, [.t 17]⟩, ⟨.t 19, none, .ld none, [.t 18]⟩, ⟨.l 6, none, .mv, [.t 19]⟩])))
noncomputable def D_wait_Queue_take_8 (F : Nat → Option AFn) (N : Nat → Nat) (Q : AV → Lg → Prop) (k1 : Env → Lg → Prop) (l : Env) (L : Lg) : Prop :=
 wpOp F (.eq true .ptr) [(l 6), (.p none)] L fun v1 L1 =>
 condW v1
 (wpOp F .nilchk [(l 6)] L1 fun v2 L2 =>
 wpOp F (.fad 0) [v2] L2 fun v3 L3 =>
 wpOp F (.ld (some 3)) [v3] L3 fun v4 L4 =>
 wpOp F .callv [(l 1), v4] L4 fun v5 L5 =>
 condW v5
 (CallL F (N k_wait_Queue_drop) [(l 0), (l 6)] L5 fun v6 L6 =>
 wpOp F .nilchk [(l 6)] L6 fun v7 L7 =>
 wpOp F (.fad 0) [v7] L7 fun v8 L8 =>
 wpOp F (.ld (some 3)) [v8] L8 fun v9 L9 =>
 wpOp F (.st 3) [(l 4), v9] L9 fun _ L10 =>
 fin1 (resVL Env.nil Env.nil L10 [.cell (.c (l 4)) (some 3), .tmp (.c (.b true))]) Q L10)
 (wpOp F .nilchk [(l 6)] L5 fun v11 L11 =>
 wpOp F (.fad 4) [v11] L11 fun v12 L12 =>
 wpOp F (.ld none) [v12] L12 fun v13 L13 =>
 k1 (Env.put l 6 v13) L13))
 (D_wait_Queue_take_4 F N Q (l 4) L1)
theorem e_wait_Queue_take_8 (F : Nat → Option AFn) (N : Nat → Nat) (Q : AV → Lg → Prop) (k1 : Env → Lg → Prop) (l t : Env) (L : Lg) : wp F (q_wait_Queue_take_8 N) l t L (fun (l _ : Env) (L : Lg) => k1 l L) (fun (j : Nat) (l t : Env) (L : Lg) => bif Nat.beq j 0 then (fun (l t : Env) (L : Lg) => D_wait_Queue_take_4 F N Q (l 4) L) l t L else (fun _ _ _ _ => False) j l t L) (fin [.cell (.l 4) (some 3), .tmp (.l 5)] Q) = D_wait_Queue_take_8 F N Q k1 l L := by kernel_rfl
def q_wait_Queue_take_7 (N : Nat → Nat) : ACode := (.loop (q_wait_Queue_take_8 N))
noncomputable def D_wait_Queue_take_7 (F : Nat → Option AFn) (N : Nat → Nat) (Q : AV → Lg → Prop) (l : Env) (L : Lg) : Prop :=
 loopW (fun l t L k1 => D_wait_Queue_take_8 F N Q k1 l L) l L
theorem e_wait_Queue_take_7 (F : Nat → Option AFn) (N : Nat → Nat) (Q : AV → Lg → Prop) (l t : Env) (L : Lg) : wp F (q_wait_Queue_take_7 N) l t L (fun (l t : Env) (L : Lg) => D_wait_Queue_take_4 F N Q (l 4) L) (fun (j : Nat) (l t : Env) (L : Lg) => bif Nat.beq j 0 then (fun (l t : Env) (L : Lg) => D_wait_Queue_take_4 F N Q (l 4) L) l t L else (fun _ _ _ _ => False) j l t L) (fin [.cell (.l 4) (some 3), .tmp (.l 5)] Q) = D_wait_Queue_take_7 F N Q l L := Eq.trans (wpq_loop F (q_wait_Queue_take_8 N) l t L (fun (l t : Env) (L : Lg) => D_wait_Queue_take_4 F N Q (l 4) L) (fun (j : Nat) (l t : Env) (L : Lg) => bif Nat.beq j 0 then (fun (l t : Env) (L : Lg) => D_wait_Queue_take_4 F N Q (l 4) L) l t L else (fun _ _ _ _ => False) j l t L) (fin [.cell (.l 4) (some 3), .tmp (.l 5)] Q)) (Eq.trans (congrArg (fun B => loopW B l L) (funext fun l => funext fun t => funext fun L => funext fun k1 => e_wait_Queue_take_8 F N Q k1 l t L)) (by kernel_rfl))
def q_wait_Queue_take_6 (N : Nat → Nat) : ACode := (.block 0 (q_wait_Queue_take_7 N))
theorem e_wait_Queue_take_6 (F : Nat → Option AFn) (N : Nat → Nat) (Q : AV → Lg → Prop) (l t : Env) (L : Lg) : wp F (q_wait_Queue_take_6 N) l t L (fun (l t : Env) (L : Lg) => D_wait_Queue_take_4 F N Q (l 4) L) (fun _ _ _ _ => False) (fin [.cell (.l 4) (some 3), .tmp (.l 5)] Q) = D_wait_Queue_take_7 F N Q l L := Eq.trans (wpq_block F 0 (q_wait_Queue_take_7 N) l t L (fun (l t : Env) (L : Lg) => D_wait_Queue_take_4 F N Q (l 4) L) (fun _ _ _ _ => False) (fin [.cell (.l 4) (some 3), .tmp (.l 5)] Q)) (e_wait_Queue_take_7 F N Q l t L)
def q_wait_Queue_take_5a (N : Nat → Nat) : ACode := (.reg [⟨.t 10, none, .mv, [.l 0]⟩, ⟨.t 11, none, .nilchk, [.t 10]⟩, ⟨.t 12, none, .fad 0, [.t 11]⟩, ⟨.t 13, none, .ld none, [.t 12]⟩, ⟨.l 6, none, .mv, [.t 13]⟩])
def q_wait_Queue_take_5 (N : Nat → Nat) : ACode := (.seq (q_wait_Queue_take_5a N) (q_wait_Queue_take_6 N))
noncomputable def D_wait_Queue_take_5 (F : Nat → Option AFn) (N : Nat → Nat) (Q : AV → Lg → Prop) (l : Env) (L : Lg) : Prop :=
 wpOp F .nilchk [(l 0)] L fun v1 L1 =>
 wpOp F (.fad 0) [v1] L1 fun v2 L2 =>
 wpOp F (.ld none) [v2] L2 fun v3 L3 =>
 D_wait_Queue_take_7 F N Q (Env.put l 6 v3) L3
theorem e_wait_Queue_take_5 (F : Nat → Option AFn) (N : Nat → Nat) (Q : AV → Lg → Prop) (l t : Env) (L : Lg) : wp F (q_wait_Queue_take_5 N) l t L (fun (l t : Env) (L : Lg) => D_wait_Queue_take_4 F N Q (l 4) L) (fun _ _ _ _ => False) (fin [.cell (.l 4) (some 3), .tmp (.l 5)] Q) = D_wait_Queue_take_5 F N Q l L := Eq.trans (wpq_seq F (q_wait_Queue_take_5a N) (q_wait_Queue_take_6 N) l t L (fun (l t : Env) (L : Lg) => D_wait_Queue_take_4 F N Q (l 4) L) (fun _ _ _ _ => False) (fin [.cell (.l 4) (some 3), .tmp (.l 5)] Q)) (Eq.trans (congrArg (fun Z : Kn => wp F (q_wait_Queue_take_5a N) l t L Z (fun _ _ _ _ => False) (fin [.cell (.l 4) (some 3), .tmp (.l 5)] Q)) (funext fun l => funext fun t => funext fun L => e_wait_Queue_take_6 F N Q l t L)) (by kernel_rfl))
def q_wait_Queue_take_3 (N : Nat → Nat) : ACode := (.seq (q_wait_Queue_take_5 N) (q_wait_Queue_take_4 N))
theorem e_wait_Queue_take_3 (F : Nat → Option AFn) (N : Nat → Nat) (Q : AV → Lg → Prop) (l t : Env) (L : Lg) : wp F (q_wait_Queue_take_3 N) l t L (fin [.cell (.l 4) (some 3), .tmp (.l 5)] Q) (fun _ _ _ _ => False) (fin [.cell (.l 4) (some 3), .tmp (.l 5)] Q) = D_wait_Queue_take_5 F N Q l L := Eq.trans (wpq_seq F (q_wait_Queue_take_5 N) (q_wait_Queue_take_4 N) l t L (fin [.cell (.l 4) (some 3), .tmp (.l 5)] Q) (fun _ _ _ _ => False) (fin [.cell (.l 4) (some 3), .tmp (.l 5)] Q)) (Eq.trans (congrArg (fun Z : Kn => wp F (q_wait_Queue_take_5 N) l t L Z (fun _ _ _ _ => False) (fin [.cell (.l 4) (some 3), .tmp (.l 5)] Q)) (funext fun l => funext fun t => funext fun L => e_wait_Queue_take_4 F N Q l t L)) (e_wait_Queue_take_5 F N Q l t L))
def q_wait_Queue_take_2a (N : Nat → Nat) : ACode := (.seq (.reg [⟨.t 7, none, .mv, [.l 0]⟩, ⟨.t 8, none, .eq false .ptr, [.t 7, .c (.p none)]⟩]) (.cond (.t 8) (.seq (.reg [⟨.t 9, none, .build [.i .i64 0, .i .i64 0, .i .i64 0] [], []⟩, ⟨.no, none, .st 3, [.l 4, .t 9]⟩, ⟨.l 5, none, .mv, [.c (.b false)]⟩]) .ret) .skip))
def q_wait_Queue_take_2 (N : Nat → Nat) : ACode := (.seq (q_wait_Queue_take_2a N) (q_wait_Queue_take_3 N))
noncomputable def D_wait_Queue_take_2 (F : Nat → Option AFn) (N : Nat → Nat) (Q : AV → Lg → Prop) (l : Env) (L : Lg) : Prop :=
 wpOp F (.eq false .ptr) [(l 0), (.p none)] L fun v1 L1 =>
 condW v1
 (wpOp F (.build [.i .i64 0, .i .i64 0, .i .i64 0] []) [] L1 fun v2 L2 =>
 wpOp F (.st 3) [(l 4), v2] L2 fun _ L3 =>
 fin1 (resVL Env.nil Env.nil L3 [.cell (.c (l 4)) (some 3), .tmp (.c (.b false))]) Q L3)
 (D_wait_Queue_take_5 F N Q l L1)
theorem e_wait_Queue_take_2 (F : Nat → Option AFn) (N : Nat → Nat) (Q : AV → Lg → Prop) (l t : Env) (L : Lg) : wp F (q_wait_Queue_take_2 N) l t L (fin [.cell (.l 4) (some 3), .tmp (.l 5)] Q) (fun _ _ _ _ => False) (fin [.cell (.l 4) (some 3), .tmp (.l 5)] Q) = D_wait_Queue_take_2 F N Q l L := Eq.trans (wpq_seq F (q_wait_Queue_take_2a N) (q_wait_Queue_take_3 N) l t L (fin [.cell (.l 4) (some 3), .tmp (.l 5)] Q) (fun _ _ _ _ => False) (fin [.cell (.l 4) (some 3), .tmp (.l 5)] Q)) (Eq.trans (congrArg (fun Z : Kn => wp F (q_wait_Queue_take_2a N) l t L Z (fun _ _ _ _ => False) (fin [.cell (.l 4) (some 3), .tmp (.l 5)] Q)) (funext fun l => funext fun t => funext fun L => e_wait_Queue_take_3 F N Q l t L)) (by kernel_rfl))
def q_wait_Queue_take_1a (N : Nat → Nat) : ACode := (.reg [⟨.l 4, none, .alloc [.i .i64 0, .i .i64 0, .i .i64 0], []⟩, ⟨.l 5, none, .mv, [.c (.b false)]⟩])
def q_wait_Queue_take_1 (N : Nat → Nat) : ACode := (.seq (q_wait_Queue_take_1a N) (q_wait_Queue_take_2 N))
noncomputable def D_wait_Queue_take_1 (F : Nat → Option AFn) (N : Nat → Nat) (Q : AV → Lg → Prop) (l : Env) (L : Lg) : Prop :=
 wpOp F (.alloc [.i .i64 0, .i .i64 0, .i .i64 0]) [] L fun v1 L1 =>
 D_wait_Queue_take_2 F N Q (Env.put (Env.put l 4 v1) 5 (.b false)) L1
theorem e_wait_Queue_take_1 (F : Nat → Option AFn) (N : Nat → Nat) (Q : AV → Lg → Prop) (l t : Env) (L : Lg) : wp F (q_wait_Queue_take_1 N) l t L (fin [.cell (.l 4) (some 3), .tmp (.l 5)] Q) (fun _ _ _ _ => False) (fin [.cell (.l 4) (some 3), .tmp (.l 5)] Q) = D_wait_Queue_take_1 F N Q l L := Eq.trans (wpq_seq F (q_wait_Queue_take_1a N) (q_wait_Queue_take_2 N) l t L (fin [.cell (.l 4) (some 3), .tmp (.l 5)] Q) (fun _ _ _ _ => False) (fin [.cell (.l 4) (some 3), .tmp (.l 5)] Q)) (Eq.trans (congrArg (fun Z : Kn => wp F (q_wait_Queue_take_1a N) l t L Z (fun _ _ _ _ => False) (fin [.cell (.l 4) (some 3), .tmp (.l 5)] Q)) (funext fun l => funext fun t => funext fun L => e_wait_Queue_take_2 F N Q l t L)) (by kernel_rfl))
/-- (*tarpaulin/wait.Queue).take -/
def c_wait_Queue_take (N : Nat → Nat) : AFn := ⟨q_wait_Queue_take_1 N, [.cell (.l 4) (some 3), .tmp (.l 5)]⟩
structure H_wait_Queue_take (N : Nat → Nat) (F : Nat → Option AFn) : Prop where
  code : F (N k_wait_Queue_take) = some (c_wait_Queue_take N)
  wait_Queue_drop : H_wait_Queue_drop N F
theorem r_wait_Queue_take {F : Nat → Option AFn} {N : Nat → Nat} (h : F (N k_wait_Queue_take) = some (c_wait_Queue_take N)) {Q : AV → Lg → Prop} {a0 a1 : AV} {L : Lg} (e : D_wait_Queue_take_1 F N Q (initE [a0, a1] 0) L) : CallL F (N k_wait_Queue_take) [a0, a1] L Q :=
  CallL.of_wp h (Eq.mpr (Eq.trans (e_wait_Queue_take_1 F N Q (initE [a0, a1] 0) Env.nil L) (by kernel_rfl : _ = D_wait_Queue_take_1 F N Q (initE [a0, a1] 0) L)) e)
def q_wait_Queue_Pop_1_1 (N : Nat → Nat) : ACode := (.seq (.reg [⟨.t 1, none, .box, [.l 0]⟩, ⟨.l 2, none, .mv, [.c (.b false)]⟩]) (.seq (.reg [⟨.l 2, none, .mv, [.c (.b true)]⟩]) .ret))
noncomputable def D_wait_Queue_Pop_1_1 (F : Nat → Option AFn) (N : Nat → Nat) (Q : AV → Lg → Prop) (x0 : AV) (L : Lg) : Prop :=
 wpOp F .box [x0] L fun v1 L1 =>
 fin1 (some (.b true)) Q L1
theorem e_wait_Queue_Pop_1_1 (F : Nat → Option AFn) (N : Nat → Nat) (Q : AV → Lg → Prop) (l t : Env) (L : Lg) : wp F (q_wait_Queue_Pop_1_1 N) l t L (fin [.tmp (.l 2)] Q) (fun _ _ _ _ => False) (fin [.tmp (.l 2)] Q) = D_wait_Queue_Pop_1_1 F N Q (l 0) L := by kernel_rfl
/-- (*tarpaulin/wait.Queue).Pop$1 -/
def c_wait_Queue_Pop_1 (N : Nat → Nat) : AFn := ⟨q_wait_Queue_Pop_1_1 N, [.tmp (.l 2)]⟩
structure H_wait_Queue_Pop_1 (N : Nat → Nat) (F : Nat → Option AFn) : Prop where
  code : F (N k_wait_Queue_Pop_1) = some (c_wait_Queue_Pop_1 N)
theorem r_wait_Queue_Pop_1 {F : Nat → Option AFn} {N : Nat → Nat} (h : F (N k_wait_Queue_Pop_1) = some (c_wait_Queue_Pop_1 N)) {Q : AV → Lg → Prop} {a0 : AV} {L : Lg} (e : D_wait_Queue_Pop_1_1 F N Q a0 L) : CallL F (N k_wait_Queue_Pop_1) [a0] L Q :=
  CallL.of_wp h (Eq.mpr (Eq.trans (e_wait_Queue_Pop_1_1 F N Q (initE [a0] 0) Env.nil L) (by kernel_rfl : _ = D_wait_Queue_Pop_1_1 F N Q a0 L)) e)
def q_wait_Queue_Pop_1 (N : Nat → Nat) : ACode := (.seq (.reg [⟨.l 2, none, .alloc [.i .i64 0, .i .i64 0, .i .i64 0], []⟩, ⟨.l 3, none, .mv, [.c (.b false)]⟩]) (.seq (.reg [⟨.t 4, none, .mv, [.l 0]⟩, ⟨.t 5, none, .call (N k_wait_Queue_take), [.t 4, .c (.fn (N k_wait_Queue_Pop_1) [] [])]⟩, ⟨.t 6, none, .ext 0, [.t 5]⟩, ⟨.t 7, none, .ext 1, [.t 5]⟩, ⟨.no, none, .st 3, [.l 2, .t 6]⟩, ⟨.l 3, none, .mv, [.t 7]⟩]) .ret))
noncomputable def D_wait_Queue_Pop_1 (F : Nat → Option AFn) (N : Nat → Nat) (Q : AV → Lg → Prop) (x0 : AV) (L : Lg) : Prop :=
 wpOp F (.alloc [.i .i64 0, .i .i64 0, .i .i64 0]) [] L fun v1 L1 =>
 CallL F (N k_wait_Queue_take) [x0, (.fn (N k_wait_Queue_Pop_1) [] [])] L1 fun v2 L2 =>
 wpOp F (.ext 0) [v2] L2 fun v3 L3 =>
 wpOp F (.ext 1) [v2] L3 fun v4 L4 =>
 wpOp F (.st 3) [v1, v3] L4 fun _ L5 =>
 fin1 (resVL Env.nil Env.nil L5 [.cell (.c v1) (some 3), .tmp (.c v4)]) Q L5
theorem e_wait_Queue_Pop_1 (F : Nat → Option AFn) (N : Nat → Nat) (Q : AV → Lg → Prop) (l t : Env) (L : Lg) : wp F (q_wait_Queue_Pop_1 N) l t L (fin [.cell (.l 2) (some 3), .tmp (.l 3)] Q) (fun _ _ _ _ => False) (fin [.cell (.l 2) (some 3), .tmp (.l 3)] Q) = D_wait_Queue_Pop_1 F N Q (l 0) L := by kernel_rfl
/-- (*tarpaulin/wait.Queue).Pop -/
def c_wait_Queue_Pop (N : Nat → Nat) : AFn := ⟨q_wait_Queue_Pop_1 N, [.cell (.l 2) (some 3), .tmp (.l 3)]⟩
structure H_wait_Queue_Pop (N : Nat → Nat) (F : Nat → Option AFn) : Prop where
  code : F (N k_wait_Queue_Pop) = some (c_wait_Queue_Pop N)
  wait_Queue_take : H_wait_Queue_take N F
  wait_Queue_Pop_1 : H_wait_Queue_Pop_1 N F
theorem r_wait_Queue_Pop {F : Nat → Option AFn} {N : Nat → Nat} (h : F (N k_wait_Queue_Pop) = some (c_wait_Queue_Pop N)) {Q : AV → Lg → Prop} {a0 : AV} {L : Lg} (e : D_wait_Queue_Pop_1 F N Q a0 L) : CallL F (N k_wait_Queue_Pop) [a0] L Q :=
  CallL.of_wp h (Eq.mpr (Eq.trans (e_wait_Queue_Pop_1 F N Q (initE [a0] 0) Env.nil L) (by kernel_rfl : _ = D_wait_Queue_Pop_1 F N Q a0 L)) e)
def q_wait_Queue_All_4 (N : Nat → Nat) : ACode := (.seq (.reg [⟨.t 23, none, .mv, [.l 2]⟩, ⟨.l 2, none, .mv, [.t 23]⟩]) .ret)
noncomputable def D_wait_Queue_All_4 (F : Nat → Option AFn) (N : Nat → Nat) (Q : AV → Lg → Prop) (x2 : AV) (L : Lg) : Prop :=
 fin1 (some x2) Q L
theorem e_wait_Queue_All_4 (F : Nat → Option AFn) (N : Nat → Nat) (Q : AV → Lg → Prop) (l t : Env) (L : Lg) : wp F (q_wait_Queue_All_4 N) l t L (fin [.tmp (.l 2)] Q) (fun _ _ _ _ => False) (fin [.tmp (.l 2)] Q) = D_wait_Queue_All_4 F N Q (l 2) L := by kernel_rfl
def q_wait_Queue_All_8 (N : Nat → Nat) : ACode := (.seq (.seq (.reg [⟨.t 10, none, .mv, [.l 3]⟩, ⟨.t 11, none, .eq true .ptr, [.t 10, .c (.p none)]⟩]) (.cond (.t 11) .skip (.exit 0))) (.seq (.block 1 (.reg [⟨.t 16, none, .mv, [.l 2]⟩, ⟨.t 17, none, .mv, [.l 3]⟩, ⟨.t 18, none, .nilchk, [.t 17]⟩, ⟨.t 19, none, .fad 0, [.t 18]⟩, ⟨.t 20, none, .ld (some 3), [.t 19]⟩, ⟨.t 21, none, .bslice [.i .i64 0, .i .i64 0, .i .i64 0] 1 3 [0], [.t 20]⟩, ⟨.t 22, none, .app 3 24, [.t 16, .t 21]⟩, ⟨.l 2, none, .mv, [.t 22]⟩])) (.reg [⟨.t 12, none, .mv, [.l 3]⟩, ⟨.t 13, none, .nilchk, [.t 12]⟩, ⟨.t 14, none, .fad 4, [.t 13]⟩, ⟨.t 15, none, .ld none, [.t 14]⟩, ⟨.l 3, none, .mv, [.t 15]⟩])))
noncomputable def D_wait_Queue_All_8 (F : Nat → Option AFn) (N : Nat → Nat) (Q : AV → Lg → Prop) (k1 : Env → Lg → Prop) (l : Env) (L : Lg) : Prop :=
 wpOp F (.eq true .ptr) [(l 3), (.p none)] L fun v1 L1 =>
 condW v1
 (wpOp F .nilchk [(l 3)] L1 fun v2 L2 =>
 wpOp F (.fad 0) [v2] L2 fun v3 L3 =>
 wpOp F (.ld (some 3)) [v3] L3 fun v4 L4 =>
 wpOp F (.bslice [.i .i64 0, .i .i64 0, .i .i64 0] 1 3 [0]) [v4] L4 fun v5 L5 =>
 wpOp F (.app 3 24) [(l 2), v5] L5 fun v6 L6 =>
 wpOp F .nilchk [(l 3)] L6 fun v7 L7 =>
 wpOp F (.fad 4) [v7] L7 fun v8 L8 =>
 wpOp F (.ld none) [v8] L8 fun v9 L9 =>
 k1 (Env.put (Env.put l 2 v6) 3 v9) L9)
 (D_wait_Queue_All_4 F N Q (l 2) L1)
theorem e_wait_Queue_All_8 (F : Nat → Option AFn) (N : Nat → Nat) (Q : AV → Lg → Prop) (k1 : Env → Lg → Prop) (l t : Env) (L : Lg) : wp F (q_wait_Queue_All_8 N) l t L (fun (l _ : Env) (L : Lg) => k1 l L) (fun (j : Nat) (l t : Env) (L : Lg) => bif Nat.beq j 0 then (fun (l t : Env) (L : Lg) => D_wait_Queue_All_4 F N Q (l 2) L) l t L else (fun _ _ _ _ => False) j l t L) (fin [.tmp (.l 2)] Q) = D_wait_Queue_All_8 F N Q k1 l L := by kernel_rfl
def q_wait_Queue_All_7 (N : Nat → Nat) : ACode := (.loop (q_wait_Queue_All_8 N))
noncomputable def D_wait_Queue_All_7 (F : Nat → Option AFn) (N : Nat → Nat) (Q : AV → Lg → Prop) (l : Env) (L : Lg) : Prop :=
 loopW (fun l t L k1 => D_wait_Queue_All_8 F N Q k1 l L) l L
theorem e_wait_Queue_All_7 (F : Nat → Option AFn) (N : Nat → Nat) (Q : AV → Lg → Prop) (l t : Env) (L : Lg) : wp F (q_wait_Queue_All_7 N) l t L (fun (l t : Env) (L : Lg) => D_wait_Queue_All_4 F N Q (l 2) L) (fun (j : Nat) (l t : Env) (L : Lg) => bif Nat.beq j 0 then (fun (l t : Env) (L : Lg) => D_wait_Queue_All_4 F N Q (l 2) L) l t L else (fun _ _ _ _ => False) j l t L) (fin [.tmp (.l 2)] Q) = D_wait_Queue_All_7 F N Q l L := Eq.trans (wpq_loop F (q_wait_Queue_All_8 N) l t L (fun (l t : Env) (L : Lg) => D_wait_Queue_All_4 F N Q (l 2) L) (fun (j : Nat) (l t : Env) (L : Lg) => bif Nat.beq j 0 then (fun (l t : Env) (L : Lg) => D_wait_Queue_All_4 F N Q (l 2) L) l t L else (fun _ _ _ _ => False) j l t L) (fin [.tmp (.l 2)] Q)) (Eq.trans (congrArg (fun B => loopW B l L) (funext fun l => funext fun t => funext fun L => funext fun k1 => e_wait_Queue_All_8 F N Q k1 l t L)) (by kernel_rfl))
def q_wait_Queue_All_6 (N : Nat → Nat) : ACode := (.block 0 (q_wait_Queue_All_7 N))
theorem e_wait_Queue_All_6 (F : Nat → Option AFn) (N : Nat → Nat) (Q : AV → Lg → Prop) (l t : Env) (L : Lg) : wp F (q_wait_Queue_All_6 N) l t L (fun (l t : Env) (L : Lg) => D_wait_Queue_All_4 F N Q (l 2) L) (fun _ _ _ _ => False) (fin [.tmp (.l 2)] Q) = D_wait_Queue_All_7 F N Q l L := Eq.trans (wpq_block F 0 (q_wait_Queue_All_7 N) l t L (fun (l t : Env) (L : Lg) => D_wait_Queue_All_4 F N Q (l 2) L) (fun _ _ _ _ => False) (fin [.tmp (.l 2)] Q)) (e_wait_Queue_All_7 F N Q l t L)
def q_wait_Queue_All_5a (N : Nat → Nat) : ACode := (.reg [⟨.t 6, none, .mv, [.l 0]⟩, ⟨.t 7, none, .nilchk, [.t 6]⟩, ⟨.t 8, none, .fad 0, [.t 7]⟩, ⟨.t 9, none, .ld none, [.t 8]⟩, ⟨.l 3, none, .mv, [.t 9]⟩])
def q_wait_Queue_All_5 (N : Nat → Nat) : ACode := (.seq (q_wait_Queue_All_5a N) (q_wait_Queue_All_6 N))
noncomputable def D_wait_Queue_All_5 (F : Nat → Option AFn) (N : Nat → Nat) (Q : AV → Lg → Prop) (l : Env) (L : Lg) : Prop :=
 wpOp F .nilchk [(l 0)] L fun v1 L1 =>
 wpOp F (.fad 0) [v1] L1 fun v2 L2 =>
 wpOp F (.ld none) [v2] L2 fun v3 L3 =>
 D_wait_Queue_All_7 F N Q (Env.put l 3 v3) L3
theorem e_wait_Queue_All_5 (F : Nat → Option AFn) (N : Nat → Nat) (Q : AV → Lg → Prop) (l t : Env) (L : Lg) : wp F (q_wait_Queue_All_5 N) l t L (fun (l t : Env) (L : Lg) => D_wait_Queue_All_4 F N Q (l 2) L) (fun _ _ _ _ => False) (fin [.tmp (.l 2)] Q) = D_wait_Queue_All_5 F N Q l L := Eq.trans (wpq_seq F (q_wait_Queue_All_5a N) (q_wait_Queue_All_6 N) l t L (fun (l t : Env) (L : Lg) => D_wait_Queue_All_4 F N Q (l 2) L) (fun _ _ _ _ => False) (fin [.tmp (.l 2)] Q)) (Eq.trans (congrArg (fun Z : Kn => wp F (q_wait_Queue_All_5a N) l t L Z (fun _ _ _ _ => False) (fin [.tmp (.l 2)] Q)) (funext fun l => funext fun t => funext fun L => e_wait_Queue_All_6 F N Q l t L)) (by kernel_rfl))
def q_wait_Queue_All_3 (N : Nat → Nat) : ACode := (.seq (q_wait_Queue_All_5 N) (q_wait_Queue_All_4 N))
theorem e_wait_Queue_All_3 (F : Nat → Option AFn) (N : Nat → Nat) (Q : AV → Lg → Prop) (l t : Env) (L : Lg) : wp F (q_wait_Queue_All_3 N) l t L (fin [.tmp (.l 2)] Q) (fun _ _ _ _ => False) (fin [.tmp (.l 2)] Q) = D_wait_Queue_All_5 F N Q l L := Eq.trans (wpq_seq F (q_wait_Queue_All_5 N) (q_wait_Queue_All_4 N) l t L (fin [.tmp (.l 2)] Q) (fun _ _ _ _ => False) (fin [.tmp (.l 2)] Q)) (Eq.trans (congrArg (fun Z : Kn => wp F (q_wait_Queue_All_5 N) l t L Z (fun _ _ _ _ => False) (fin [.tmp (.l 2)] Q)) (funext fun l => funext fun t => funext fun L => e_wait_Queue_All_4 F N Q l t L)) (e_wait_Queue_All_5 F N Q l t L))
def q_wait_Queue_All_2a (N : Nat → Nat) : ACode := (.seq (.reg [⟨.t 4, none, .mv, [.l 0]⟩, ⟨.t 5, none, .eq false .ptr, [.t 4, .c (.p none)]⟩]) (.cond (.t 5) (.seq (.reg [⟨.l 2, none, .mv, [.c (.sl none 0 0 0)]⟩]) .ret) .skip))
def q_wait_Queue_All_2 (N : Nat → Nat) : ACode := (.seq (q_wait_Queue_All_2a N) (q_wait_Queue_All_3 N))
noncomputable def D_wait_Queue_All_2 (F : Nat → Option AFn) (N : Nat → Nat) (Q : AV → Lg → Prop) (l : Env) (L : Lg) : Prop :=
 wpOp F (.eq false .ptr) [(l 0), (.p none)] L fun v1 L1 =>
 condW v1
 (fin1 (some (.sl none 0 0 0)) Q L1)
 (D_wait_Queue_All_5 F N Q l L1)
theorem e_wait_Queue_All_2 (F : Nat → Option AFn) (N : Nat → Nat) (Q : AV → Lg → Prop) (l t : Env) (L : Lg) : wp F (q_wait_Queue_All_2 N) l t L (fin [.tmp (.l 2)] Q) (fun _ _ _ _ => False) (fin [.tmp (.l 2)] Q) = D_wait_Queue_All_2 F N Q l L := Eq.trans (wpq_seq F (q_wait_Queue_All_2a N) (q_wait_Queue_All_3 N) l t L (fin [.tmp (.l 2)] Q) (fun _ _ _ _ => False) (fin [.tmp (.l 2)] Q)) (Eq.trans (congrArg (fun Z : Kn => wp F (q_wait_Queue_All_2a N) l t L Z (fun _ _ _ _ => False) (fin [.tmp (.l 2)] Q)) (funext fun l => funext fun t => funext fun L => e_wait_Queue_All_3 F N Q l t L)) (by kernel_rfl))
def q_wait_Queue_All_1a (N : Nat → Nat) : ACode := (.reg [⟨.l 2, none, .mv, [.c (.sl none 0 0 0)]⟩])
def q_wait_Queue_All_1 (N : Nat → Nat) : ACode := (.seq (q_wait_Queue_All_1a N) (q_wait_Queue_All_2 N))
noncomputable def D_wait_Queue_All_1 (F : Nat → Option AFn) (N : Nat → Nat) (Q : AV → Lg → Prop) (l : Env) (L : Lg) : Prop :=
 D_wait_Queue_All_2 F N Q (Env.put l 2 (.sl none 0 0 0)) L
theorem e_wait_Queue_All_1 (F : Nat → Option AFn) (N : Nat → Nat) (Q : AV → Lg → Prop) (l t : Env) (L : Lg) : wp F (q_wait_Queue_All_1 N) l t L (fin [.tmp (.l 2)] Q) (fun _ _ _ _ => False) (fin [.tmp (.l 2)] Q) = D_wait_Queue_All_1 F N Q l L := Eq.trans (wpq_seq F (q_wait_Queue_All_1a N) (q_wait_Queue_All_2 N) l t L (fin [.tmp (.l 2)] Q) (fun _ _ _ _ => False) (fin [.tmp (.l 2)] Q)) (Eq.trans (congrArg (fun Z : Kn => wp F (q_wait_Queue_All_1a N) l t L Z (fun _ _ _ _ => False) (fin [.tmp (.l 2)] Q)) (funext fun l => funext fun t => funext fun L => e_wait_Queue_All_2 F N Q l t L)) (by kernel_rfl))
/-- (*tarpaulin/wait.Queue).All -/
def c_wait_Queue_All (N : Nat → Nat) : AFn := ⟨q_wait_Queue_All_1 N, [.tmp (.l 2)]⟩
structure H_wait_Queue_All (N : Nat → Nat) (F : Nat → Option AFn) : Prop where
  code : F (N k_wait_Queue_All) = some (c_wait_Queue_All N)
theorem r_wait_Queue_All {F : Nat → Option AFn} {N : Nat → Nat} (h : F (N k_wait_Queue_All) = some (c_wait_Queue_All N)) {Q : AV → Lg → Prop} {a0 : AV} {L : Lg} (e : D_wait_Queue_All_1 F N Q (initE [a0] 0) L) : CallL F (N k_wait_Queue_All) [a0] L Q :=
  CallL.of_wp h (Eq.mpr (Eq.trans (e_wait_Queue_All_1 F N Q (initE [a0] 0) Env.nil L) (by kernel_rfl : _ = D_wait_Queue_All_1 F N Q (initE [a0] 0) L)) e)
def q_wait_Queue_Push_5 (N : Nat → Nat) : ACode := (.seq (.reg [⟨.t 31, none, .mv, [.l 0]⟩, ⟨.t 32, none, .mv, [.l 5]⟩, ⟨.t 33, none, .nilchk, [.t 31]⟩, ⟨.t 34, none, .fad 1, [.t 33]⟩, ⟨.no, none, .st 1, [.t 34, .t 32]⟩]) (.seq (.reg [⟨.t 35, none, .mv, [.l 0]⟩, ⟨.t 36, none, .nilchk, [.t 35]⟩, ⟨.t 37, none, .fad 2, [.t 36]⟩, ⟨.t 38, none, .ld none, [.t 37]⟩, ⟨.t 39, none, .bin .add, [.t 38, .c (.i .i64 1)]⟩, ⟨.t 40, none, .nilchk, [.t 35]⟩, ⟨.t 41, none, .fad 2, [.t 40]⟩, ⟨.no, none, .st 1, [.t 41, .t 39]⟩]) (.seq (.reg [⟨.t 42, none, .mv, [.l 0]⟩, ⟨.t 43, none, .nilchk, [.t 42]⟩, ⟨.t 44, none, .fad 2, [.t 43]⟩, ⟨.t 45, none, .ld none, [.t 44]⟩, ⟨.l 4, none, .mv, [.t 45]⟩]) .ret)))
noncomputable def D_wait_Queue_Push_5 (F : Nat → Option AFn) (N : Nat → Nat) (Q : AV → Lg → Prop) (x0 : AV) (x5 : AV) (L : Lg) : Prop :=
 wpOp F .nilchk [x0] L fun v1 L1 =>
 wpOp F (.fad 1) [v1] L1 fun v2 L2 =>
 wpOp F (.st 1) [v2, x5] L2 fun _ L3 =>
 wpOp F .nilchk [x0] L3 fun v4 L4 =>
 wpOp F (.fad 2) [v4] L4 fun v5 L5 =>
 wpOp F (.ld none) [v5] L5 fun v6 L6 =>
 wpOp F (.bin .add) [v6, (.i .i64 1)] L6 fun v7 L7 =>
 wpOp F .nilchk [x0] L7 fun v8 L8 =>
 wpOp F (.fad 2) [v8] L8 fun v9 L9 =>
 wpOp F (.st 1) [v9, v7] L9 fun _ L10 =>
 wpOp F .nilchk [x0] L10 fun v11 L11 =>
 wpOp F (.fad 2) [v11] L11 fun v12 L12 =>
 wpOp F (.ld none) [v12] L12 fun v13 L13 =>
 fin1 (some v13) Q L13
theorem e_wait_Queue_Push_5 (F : Nat → Option AFn) (N : Nat → Nat) (Q : AV → Lg → Prop) (l t : Env) (L : Lg) : wp F (q_wait_Queue_Push_5 N) l t L (fin [.tmp (.l 4)] Q) (fun _ _ _ _ => False) (fin [.tmp (.l 4)] Q) = D_wait_Queue_Push_5 F N Q (l 0) (l 5) L := by kernel_rfl
def q_wait_Queue_Push_4a (N : Nat → Nat) : ACode := (.seq (.reg [⟨.t 15, none, .mv, [.l 0]⟩, ⟨.t 16, none, .nilchk, [.t 15]⟩, ⟨.t 17, none, .fad 1, [.t 16]⟩, ⟨.t 18, none, .ld none, [.t 17]⟩, ⟨.t 19, none, .eq false .ptr, [.t 18, .c (.p none)]⟩]) (.cond (.t 19) (.reg [⟨.t 20, none, .mv, [.l 0]⟩, ⟨.t 21, none, .mv, [.l 5]⟩, ⟨.t 22, none, .nilchk, [.t 20]⟩, ⟨.t 23, none, .fad 0, [.t 22]⟩, ⟨.no, none, .st 1, [.t 23, .t 21]⟩]) (.reg [⟨.t 24, none, .mv, [.l 0]⟩, ⟨.t 25, none, .nilchk, [.t 24]⟩, ⟨.t 26, none, .fad 1, [.t 25]⟩, ⟨.t 27, none, .ld none, [.t 26]⟩, ⟨.t 28, none, .mv, [.l 5]⟩, ⟨.t 29, none, .nilchk, [.t 27]⟩, ⟨.t 30, none, .fad 4, [.t 29]⟩, ⟨.no, none, .st 1, [.t 30, .t 28]⟩])))
def q_wait_Queue_Push_4 (N : Nat → Nat) : ACode := (.seq (q_wait_Queue_Push_4a N) (q_wait_Queue_Push_5 N))
noncomputable def D_wait_Queue_Push_4 (F : Nat → Option AFn) (N : Nat → Nat) (Q : AV → Lg → Prop) (x0 : AV) (x5 : AV) (L : Lg) : Prop :=
 wpOp F .nilchk [x0] L fun v1 L1 =>
 wpOp F (.fad 1) [v1] L1 fun v2 L2 =>
 wpOp F (.ld none) [v2] L2 fun v3 L3 =>
 wpOp F (.eq false .ptr) [v3, (.p none)] L3 fun v4 L4 =>
 condW v4
 (wpOp F .nilchk [x0] L4 fun v5 L5 =>
 wpOp F (.fad 0) [v5] L5 fun v6 L6 =>
 wpOp F (.st 1) [v6, x5] L6 fun _ L7 =>
 D_wait_Queue_Push_5 F N Q x0 x5 L7)
 (wpOp F .nilchk [x0] L4 fun v8 L8 =>
 wpOp F (.fad 1) [v8] L8 fun v9 L9 =>
 wpOp F (.ld none) [v9] L9 fun v10 L10 =>
 wpOp F .nilchk [v10] L10 fun v11 L11 =>
 wpOp F (.fad 4) [v11] L11 fun v12 L12 =>
 wpOp F (.st 1) [v12, x5] L12 fun _ L13 =>
 D_wait_Queue_Push_5 F N Q x0 x5 L13)
theorem e_wait_Queue_Push_4 (F : Nat → Option AFn) (N : Nat → Nat) (Q : AV → Lg → Prop) (l t : Env) (L : Lg) : wp F (q_wait_Queue_Push_4 N) l t L (fin [.tmp (.l 4)] Q) (fun _ _ _ _ => False) (fin [.tmp (.l 4)] Q) = D_wait_Queue_Push_4 F N Q (l 0) (l 5) L := Eq.trans (wpq_seq F (q_wait_Queue_Push_4a N) (q_wait_Queue_Push_5 N) l t L (fin [.tmp (.l 4)] Q) (fun _ _ _ _ => False) (fin [.tmp (.l 4)] Q)) (Eq.trans (congrArg (fun Z : Kn => wp F (q_wait_Queue_Push_4a N) l t L Z (fun _ _ _ _ => False) (fin [.tmp (.l 4)] Q)) (funext fun l => funext fun t => funext fun L => e_wait_Queue_Push_5 F N Q l t L)) (by kernel_rfl))
def q_wait_Queue_Push_3a (N : Nat → Nat) : ACode := (.reg [⟨.t 8, none, .ld (some 3), [.l 3]⟩, ⟨.t 9, none, .mv, [.l 0]⟩, ⟨.t 10, none, .nilchk, [.t 9]⟩, ⟨.t 11, none, .fad 1, [.t 10]⟩, ⟨.t 12, none, .ld none, [.t 11]⟩, ⟨.t 13, none, .build [.i .i64 0, .i .i64 0, .i .i64 0, .p none, .p none] [(0, 3), (3, 1)], [.t 8, .t 12]⟩, ⟨.t 14, none, .box, [.t 13]⟩, ⟨.l 5, none, .mv, [.t 14]⟩])
def q_wait_Queue_Push_3 (N : Nat → Nat) : ACode := (.seq (q_wait_Queue_Push_3a N) (q_wait_Queue_Push_4 N))
noncomputable def D_wait_Queue_Push_3 (F : Nat → Option AFn) (N : Nat → Nat) (Q : AV → Lg → Prop) (x0 : AV) (x3 : AV) (L : Lg) : Prop :=
 wpOp F (.ld (some 3)) [x3] L fun v1 L1 =>
 wpOp F .nilchk [x0] L1 fun v2 L2 =>
 wpOp F (.fad 1) [v2] L2 fun v3 L3 =>
 wpOp F (.ld none) [v3] L3 fun v4 L4 =>
 wpOp F (.build [.i .i64 0, .i .i64 0, .i .i64 0, .p none, .p none] [(0, 3), (3, 1)]) [v1, v4] L4 fun v5 L5 =>
 wpOp F .box [v5] L5 fun v6 L6 =>
 D_wait_Queue_Push_4 F N Q x0 v6 L6
theorem e_wait_Queue_Push_3 (F : Nat → Option AFn) (N : Nat → Nat) (Q : AV → Lg → Prop) (l t : Env) (L : Lg) : wp F (q_wait_Queue_Push_3 N) l t L (fin [.tmp (.l 4)] Q) (fun _ _ _ _ => False) (fin [.tmp (.l 4)] Q) = D_wait_Queue_Push_3 F N Q (l 0) (l 3) L := Eq.trans (wpq_seq F (q_wait_Queue_Push_3a N) (q_wait_Queue_Push_4 N) l t L (fin [.tmp (.l 4)] Q) (fun _ _ _ _ => False) (fin [.tmp (.l 4)] Q)) (Eq.trans (congrArg (fun Z : Kn => wp F (q_wait_Queue_Push_3a N) l t L Z (fun _ _ _ _ => False) (fin [.tmp (.l 4)] Q)) (funext fun l => funext fun t => funext fun L => e_wait_Queue_Push_4 F N Q l t L)) (by kernel_rfl))
def q_wait_Queue_Push_2a (N : Nat → Nat) : ACode := (.seq (.reg [⟨.t 6, none, .mv, [.l 0]⟩, ⟨.t 7, none, .eq false .ptr, [.t 6, .c (.p none)]⟩]) (.cond (.t 7) (.seq (.reg [⟨.l 4, none, .mv, [.c (.i .i64 0)]⟩]) .ret) .skip))
def q_wait_Queue_Push_2 (N : Nat → Nat) : ACode := (.seq (q_wait_Queue_Push_2a N) (q_wait_Queue_Push_3 N))
noncomputable def D_wait_Queue_Push_2 (F : Nat → Option AFn) (N : Nat → Nat) (Q : AV → Lg → Prop) (x0 : AV) (x3 : AV) (L : Lg) : Prop :=
 wpOp F (.eq false .ptr) [x0, (.p none)] L fun v1 L1 =>
 condW v1
 (fin1 (some (.i .i64 0)) Q L1)
 (D_wait_Queue_Push_3 F N Q x0 x3 L1)
theorem e_wait_Queue_Push_2 (F : Nat → Option AFn) (N : Nat → Nat) (Q : AV → Lg → Prop) (l t : Env) (L : Lg) : wp F (q_wait_Queue_Push_2 N) l t L (fin [.tmp (.l 4)] Q) (fun _ _ _ _ => False) (fin [.tmp (.l 4)] Q) = D_wait_Queue_Push_2 F N Q (l 0) (l 3) L := Eq.trans (wpq_seq F (q_wait_Queue_Push_2a N) (q_wait_Queue_Push_3 N) l t L (fin [.tmp (.l 4)] Q) (fun _ _ _ _ => False) (fin [.tmp (.l 4)] Q)) (Eq.trans (congrArg (fun Z : Kn => wp F (q_wait_Queue_Push_2a N) l t L Z (fun _ _ _ _ => False) (fin [.tmp (.l 4)] Q)) (funext fun l => funext fun t => funext fun L => e_wait_Queue_Push_3 F N Q l t L)) (by kernel_rfl))
def q_wait_Queue_Push_1a (N : Nat → Nat) : ACode := (.reg [⟨.l 3, none, .box, [.l 1]⟩, ⟨.l 4, none, .mv, [.c (.i .i64 0)]⟩])
def q_wait_Queue_Push_1 (N : Nat → Nat) : ACode := (.seq (q_wait_Queue_Push_1a N) (q_wait_Queue_Push_2 N))
noncomputable def D_wait_Queue_Push_1 (F : Nat → Option AFn) (N : Nat → Nat) (Q : AV → Lg → Prop) (x0 : AV) (x1 : AV) (L : Lg) : Prop :=
 wpOp F .box [x1] L fun v1 L1 =>
 D_wait_Queue_Push_2 F N Q x0 v1 L1
theorem e_wait_Queue_Push_1 (F : Nat → Option AFn) (N : Nat → Nat) (Q : AV → Lg → Prop) (l t : Env) (L : Lg) : wp F (q_wait_Queue_Push_1 N) l t L (fin [.tmp (.l 4)] Q) (fun _ _ _ _ => False) (fin [.tmp (.l 4)] Q) = D_wait_Queue_Push_1 F N Q (l 0) (l 1) L := Eq.trans (wpq_seq F (q_wait_Queue_Push_1a N) (q_wait_Queue_Push_2 N) l t L (fin [.tmp (.l 4)] Q) (fun _ _ _ _ => False) (fin [.tmp (.l 4)] Q)) (Eq.trans (congrArg (fun Z : Kn => wp F (q_wait_Queue_Push_1a N) l t L Z (fun _ _ _ _ => False) (fin [.tmp (.l 4)] Q)) (funext fun l => funext fun t => funext fun L => e_wait_Queue_Push_2 F N Q l t L)) (by kernel_rfl))
/-- (*tarpaulin/wait.Queue).Push -/
def c_wait_Queue_Push (N : Nat → Nat) : AFn := ⟨q_wait_Queue_Push_1 N, [.tmp (.l 4)]⟩
structure H_wait_Queue_Push (N : Nat → Nat) (F : Nat → Option AFn) : Prop where
  code : F (N k_wait_Queue_Push) = some (c_wait_Queue_Push N)
theorem r_wait_Queue_Push {F : Nat → Option AFn} {N : Nat → Nat} (h : F (N k_wait_Queue_Push) = some (c_wait_Queue_Push N)) {Q : AV → Lg → Prop} {a0 a1 : AV} {L : Lg} (e : D_wait_Queue_Push_1 F N Q a0 a1 L) : CallL F (N k_wait_Queue_Push) [a0, a1] L Q :=
  CallL.of_wp h (Eq.mpr (Eq.trans (e_wait_Queue_Push_1 F N Q (initE [a0, a1] 0) Env.nil L) (by kernel_rfl : _ = D_wait_Queue_Push_1 F N Q a0 a1 L)) e)
def q_wait_Queue_Len_1 (N : Nat → Nat) : ACode := (.seq (.reg [⟨.l 2, none, .mv, [.c (.i .i64 0)]⟩]) (.seq (.seq (.reg [⟨.t 3, none, .mv, [.l 0]⟩, ⟨.t 4, none, .eq false .ptr, [.t 3, .c (.p none)]⟩]) (.cond (.t 4) (.seq (.reg [⟨.l 2, none, .mv, [.c (.i .i64 0)]⟩]) .ret) .skip)) (.seq (.reg [⟨.t 5, none, .mv, [.l 0]⟩, ⟨.t 6, none, .nilchk, [.t 5]⟩, ⟨.t 7, none, .fad 2, [.t 6]⟩, ⟨.t 8, none, .ld none, [.t 7]⟩, ⟨.l 2, none, .mv, [.t 8]⟩]) .ret)))
noncomputable def D_wait_Queue_Len_1 (F : Nat → Option AFn) (N : Nat → Nat) (Q : AV → Lg → Prop) (x0 : AV) (L : Lg) : Prop :=
 wpOp F (.eq false .ptr) [x0, (.p none)] L fun v1 L1 =>
 condW v1
 (fin1 (some (.i .i64 0)) Q L1)
 (wpOp F .nilchk [x0] L1 fun v2 L2 =>
 wpOp F (.fad 2) [v2] L2 fun v3 L3 =>
 wpOp F (.ld none) [v3] L3 fun v4 L4 =>
 fin1 (some v4) Q L4)
theorem e_wait_Queue_Len_1 (F : Nat → Option AFn) (N : Nat → Nat) (Q : AV → Lg → Prop) (l t : Env) (L : Lg) : wp F (q_wait_Queue_Len_1 N) l t L (fin [.tmp (.l 2)] Q) (fun _ _ _ _ => False) (fin [.tmp (.l 2)] Q) = D_wait_Queue_Len_1 F N Q (l 0) L := by kernel_rfl
/-- (*tarpaulin/wait.Queue).Len -/
def c_wait_Queue_Len (N : Nat → Nat) : AFn := ⟨q_wait_Queue_Len_1 N, [.tmp (.l 2)]⟩
structure H_wait_Queue_Len (N : Nat → Nat) (F : Nat → Option AFn) : Prop where
  code : F (N k_wait_Queue_Len) = some (c_wait_Queue_Len N)
theorem r_wait_Queue_Len {F : Nat → Option AFn} {N : Nat → Nat} (h : F (N k_wait_Queue_Len) = some (c_wait_Queue_Len N)) {Q : AV → Lg → Prop} {a0 : AV} {L : Lg} (e : D_wait_Queue_Len_1 F N Q a0 L) : CallL F (N k_wait_Queue_Len) [a0] L Q :=
  CallL.of_wp h (Eq.mpr (Eq.trans (e_wait_Queue_Len_1 F N Q (initE [a0] 0) Env.nil L) (by kernel_rfl : _ = D_wait_Queue_Len_1 F N Q a0 L)) e)
def q_wait_New_1 (N : Nat → Nat) : ACode := (.seq (.reg [⟨.l 0, none, .mv, [.c (.p none)]⟩]) (.seq (.reg [⟨.t 1, none, .build [.p none, .p none, .i .i64 0] [], []⟩, ⟨.t 2, none, .box, [.t 1]⟩, ⟨.l 0, none, .mv, [.t 2]⟩]) .ret))
noncomputable def D_wait_New_1 (F : Nat → Option AFn) (N : Nat → Nat) (Q : AV → Lg → Prop) (L : Lg) : Prop :=
 wpOp F (.build [.p none, .p none, .i .i64 0] []) [] L fun v1 L1 =>
 wpOp F .box [v1] L1 fun v2 L2 =>
 fin1 (some v2) Q L2
theorem e_wait_New_1 (F : Nat → Option AFn) (N : Nat → Nat) (Q : AV → Lg → Prop) (l t : Env) (L : Lg) : wp F (q_wait_New_1 N) l t L (fin [.tmp (.l 0)] Q) (fun _ _ _ _ => False) (fin [.tmp (.l 0)] Q) = D_wait_New_1 F N Q L := by kernel_rfl
/-- tarpaulin/wait.New -/
def c_wait_New (N : Nat → Nat) : AFn := ⟨q_wait_New_1 N, [.tmp (.l 0)]⟩
structure H_wait_New (N : Nat → Nat) (F : Nat → Option AFn) : Prop where
  code : F (N k_wait_New) = some (c_wait_New N)
theorem r_wait_New {F : Nat → Option AFn} {N : Nat → Nat} (h : F (N k_wait_New) = some (c_wait_New N)) {Q : AV → Lg → Prop} {L : Lg} (e : D_wait_New_1 F N Q L) : CallL F (N k_wait_New) [] L Q :=
  CallL.of_wp h (Eq.mpr (Eq.trans (e_wait_New_1 F N Q (initE [] 0) Env.nil L) (by kernel_rfl : _ = D_wait_New_1 F N Q L)) e)
end Go.AM
