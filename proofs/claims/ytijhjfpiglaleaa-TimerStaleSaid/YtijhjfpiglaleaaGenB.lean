/- The code of functions, with names for their numbers, and what is left of its weakest preconditions. PRINTED by our printgen.py. -/
import Derived.Test.YtijhjfpiglaleaaGenA
import Derived.KernelRfl
set_option linter.unusedVariables false
set_option maxRecDepth 100000
namespace Go.AM
def k_heap_New : Nat := 19
def k_expire_New : Nat := 20
def k_timer_New : Nat := 21
def k_chanq_New : Nat := 22
def k_chanq_Timed : Nat := 23
def k_timer_bad : Nat := 24
def k_heap_Heap_Find : Nat := 25
def k_heap_Heap_put : Nat := 26
def k_cmp_isNaN_int : Nat := 27
def k_cmp_Compare_int : Nat := 28
def k_cmp_Or_int : Nat := 29
def k_heap_ahead : Nat := 30
def k_heap_Heap_up : Nat := 31
def k_heap_Heap_down : Nat := 32
def k_heap_Heap_Remove : Nat := 33
def k_expire_Timers_Stop : Nat := 34
def k_heap_Heap_Add : Nat := 35
def k_expire_Timers_Arm : Nat := 36
def k_timer_Set_arm : Nat := 37
def k_timer_Set_make : Nat := 38
def k_timer_Set_channel : Nat := 39
def k_timer_Set_Timer : Nat := 40
def k_heap_Heap_Len : Nat := 41
def k_heap_Heap_Min : Nat := 42
def k_expire_Timers_Next : Nat := 43
def k_heap_Heap_Pop : Nat := 44
def k_expire_Timers_Take : Nat := 45
def k_chanq_Chan_deliver : Nat := 46
def k_chanq_Chan_Put : Nat := 47
def k_timer_Set_Fire : Nat := 48
def k_timer_Set_has : Nat := 49
def k_chanq_Chan_Drop : Nat := 50
def k_timer_Set_Stop : Nat := 51
def k_timer_Set_Ticker : Nat := 52
def k_timer_Set_Func : Nat := 53
def k_timer_Set_Reset : Nat := 54
def k_timer_Set_Lapse : Nat := 55
def k_chanq_Chan_Mute : Nat := 56
def k_chanq_Chan_free : Nat := 57
def k_chanq_Chan_queue : Nat := 58
def k_chanq_Chan_Can : Nat := 59
def k_timer_Set_Gen : Nat := 60
def k_tarpaulinlaw13_awake : Nat := 61
def k_timer_Set_Chan : Nat := 90
def k_chanq_Chan_Recv : Nat := 91
def k_chanq_Chan_Wait_1 : Nat := 94
def k_chanq_Chan_Waiting : Nat := 95
def k_slices_IndexFunc_WaitWait : Nat := 96
def k_slices_ContainsFunc_WaitWait : Nat := 97
def k_chanq_Chan_Wait : Nat := 98
def k_timer_Set_Next : Nat := 102
def k_timer_Set_Len : Nat := 103
def k_timer_Set_Kind : Nat := 104
def k_chanq_Chan_Len : Nat := 108
def k_chanq_Chan_Cap : Nat := 109
def q_heap_New_1 (N : Nat → Nat) : ACode := (.seq (.reg [⟨.l 0, none, .mv, [.c (.p none)]⟩]) (.seq (.reg [⟨.t 1, none, .mkmap, []⟩, ⟨.t 2, none, .build [.sl none 0 0 0, .m none, .i .i64 0] [(1, 1)], [.t 1]⟩, ⟨.t 3, none, .box, [.t 2]⟩, ⟨.l 0, none, .mv, [.t 3]⟩]) .ret))
noncomputable def D_heap_New_1 (F : Nat → Option AFn) (N : Nat → Nat) (Q : AV → Lg → Prop) (L : Lg) : Prop :=
 wpOp F .mkmap [] L fun v1 L1 =>
 wpOp F (.build [.sl none 0 0 0, .m none, .i .i64 0] [(1, 1)]) [v1] L1 fun v2 L2 =>
 wpOp F .box [v2] L2 fun v3 L3 =>
 fin1 (some v3) Q L3
theorem e_heap_New_1 (F : Nat → Option AFn) (N : Nat → Nat) (Q : AV → Lg → Prop) (l t : Env) (L : Lg) : wp F (q_heap_New_1 N) l t L (fin [.tmp (.l 0)] Q) (fun _ _ _ _ => False) (fin [.tmp (.l 0)] Q) = D_heap_New_1 F N Q L := by kernel_rfl
/-- tarpaulin/heap.New -/
def c_heap_New (N : Nat → Nat) : AFn := ⟨q_heap_New_1 N, [.tmp (.l 0)]⟩
structure H_heap_New (N : Nat → Nat) (F : Nat → Option AFn) : Prop where
  code : F (N k_heap_New) = some (c_heap_New N)
theorem r_heap_New {F : Nat → Option AFn} {N : Nat → Nat} (h : F (N k_heap_New) = some (c_heap_New N)) {Q : AV → Lg → Prop} {L : Lg} (e : D_heap_New_1 F N Q L) : CallL F (N k_heap_New) [] L Q :=
  CallL.of_wp h (Eq.mpr (Eq.trans (e_heap_New_1 F N Q (initE [] 0) Env.nil L) (by kernel_rfl : _ = D_heap_New_1 F N Q L)) e)
def q_expire_New_1 (N : Nat → Nat) : ACode := (.seq (.reg [⟨.l 0, none, .mv, [.c (.p none)]⟩]) (.seq (.reg [⟨.t 1, none, .call (N k_heap_New), []⟩, ⟨.t 2, none, .mkmap, []⟩, ⟨.t 3, none, .build [.p none, .m none] [(0, 1), (1, 1)], [.t 1, .t 2]⟩, ⟨.t 4, none, .box, [.t 3]⟩, ⟨.l 0, none, .mv, [.t 4]⟩]) .ret))
noncomputable def D_expire_New_1 (F : Nat → Option AFn) (N : Nat → Nat) (Q : AV → Lg → Prop) (L : Lg) : Prop :=
 CallL F (N k_heap_New) [] L fun v1 L1 =>
 wpOp F .mkmap [] L1 fun v2 L2 =>
 wpOp F (.build [.p none, .m none] [(0, 1), (1, 1)]) [v1, v2] L2 fun v3 L3 =>
 wpOp F .box [v3] L3 fun v4 L4 =>
 fin1 (some v4) Q L4
theorem e_expire_New_1 (F : Nat → Option AFn) (N : Nat → Nat) (Q : AV → Lg → Prop) (l t : Env) (L : Lg) : wp F (q_expire_New_1 N) l t L (fin [.tmp (.l 0)] Q) (fun _ _ _ _ => False) (fin [.tmp (.l 0)] Q) = D_expire_New_1 F N Q L := by kernel_rfl
/-- tarpaulin/expire.New -/
def c_expire_New (N : Nat → Nat) : AFn := ⟨q_expire_New_1 N, [.tmp (.l 0)]⟩
structure H_expire_New (N : Nat → Nat) (F : Nat → Option AFn) : Prop where
  code : F (N k_expire_New) = some (c_expire_New N)
  heap_New : H_heap_New N F
theorem r_expire_New {F : Nat → Option AFn} {N : Nat → Nat} (h : F (N k_expire_New) = some (c_expire_New N)) {Q : AV → Lg → Prop} {L : Lg} (e : D_expire_New_1 F N Q L) : CallL F (N k_expire_New) [] L Q :=
  CallL.of_wp h (Eq.mpr (Eq.trans (e_expire_New_1 F N Q (initE [] 0) Env.nil L) (by kernel_rfl : _ = D_expire_New_1 F N Q L)) e)
def q_timer_New_1 (N : Nat → Nat) : ACode := (.seq (.reg [⟨.l 0, none, .mv, [.c (.p none)]⟩]) (.seq (.reg [⟨.t 1, none, .call (N k_expire_New), []⟩, ⟨.t 2, none, .build [.sl none 0 0 0, .p none, .i .i64 0] [(1, 1)], [.t 1]⟩, ⟨.t 3, none, .box, [.t 2]⟩, ⟨.l 0, none, .mv, [.t 3]⟩]) .ret))
noncomputable def D_timer_New_1 (F : Nat → Option AFn) (N : Nat → Nat) (Q : AV → Lg → Prop) (L : Lg) : Prop :=
 CallL F (N k_expire_New) [] L fun v1 L1 =>
 wpOp F (.build [.sl none 0 0 0, .p none, .i .i64 0] [(1, 1)]) [v1] L1 fun v2 L2 =>
 wpOp F .box [v2] L2 fun v3 L3 =>
 fin1 (some v3) Q L3
theorem e_timer_New_1 (F : Nat → Option AFn) (N : Nat → Nat) (Q : AV → Lg → Prop) (l t : Env) (L : Lg) : wp F (q_timer_New_1 N) l t L (fin [.tmp (.l 0)] Q) (fun _ _ _ _ => False) (fin [.tmp (.l 0)] Q) = D_timer_New_1 F N Q L := by kernel_rfl
/-- tarpaulin/timer.New -/
def c_timer_New (N : Nat → Nat) : AFn := ⟨q_timer_New_1 N, [.tmp (.l 0)]⟩
structure H_timer_New (N : Nat → Nat) (F : Nat → Option AFn) : Prop where
  code : F (N k_timer_New) = some (c_timer_New N)
  expire_New : H_expire_New N F
theorem r_timer_New {F : Nat → Option AFn} {N : Nat → Nat} (h : F (N k_timer_New) = some (c_timer_New N)) {Q : AV → Lg → Prop} {L : Lg} (e : D_timer_New_1 F N Q L) : CallL F (N k_timer_New) [] L Q :=
  CallL.of_wp h (Eq.mpr (Eq.trans (e_timer_New_1 F N Q (initE [] 0) Env.nil L) (by kernel_rfl : _ = D_timer_New_1 F N Q L)) e)
def q_chanq_New_1 (N : Nat → Nat) : ACode := (.seq (.reg [⟨.l 2, none, .mv, [.c (.p none)]⟩, ⟨.l 3, none, .mv, [.c (.i .i64 0)]⟩]) (.seq (.reg [⟨.t 7, none, .mv, [.l 0]⟩, ⟨.t 8, none, .call (N k_ring_New), [.t 7]⟩, ⟨.t 6, none, .mv, [.t 8]⟩, ⟨.t 9, none, .ext 0, [.t 6]⟩, ⟨.t 10, none, .ext 1, [.t 6]⟩, ⟨.l 4, none, .mv, [.t 9]⟩, ⟨.l 5, none, .mv, [.t 10]⟩]) (.seq (.seq (.reg [⟨.t 11, none, .mv, [.l 5]⟩, ⟨.t 12, none, .bin .neq, [.t 11, .c (.i .i64 0)]⟩]) (.cond (.t 12) (.seq (.reg [⟨.t 13, none, .mv, [.l 5]⟩, ⟨.l 2, none, .mv, [.c (.p none)]⟩, ⟨.l 3, none, .mv, [.t 13]⟩]) .ret) .skip)) (.seq (.reg [⟨.t 14, none, .mv, [.l 4]⟩, ⟨.t 15, none, .call (N k_wait_New), []⟩, ⟨.t 16, none, .call (N k_wait_New), []⟩, ⟨.t 17, none, .build [.p none, .p none, .p none, .b false, .b false, .b false] [(0, 1), (1, 1), (2, 1)], [.t 14, .t 15, .t 16]⟩, ⟨.t 18, none, .box, [.t 17]⟩, ⟨.l 2, none, .mv, [.t 18]⟩, ⟨.l 3, none, .mv, [.c (.i .i64 0)]⟩]) .ret))))
noncomputable def D_chanq_New_1 (F : Nat → Option AFn) (N : Nat → Nat) (Q : AV → Lg → Prop) (x0 : AV) (L : Lg) : Prop :=
 CallL F (N k_ring_New) [x0] L fun v1 L1 =>
 wpOp F (.ext 0) [v1] L1 fun v2 L2 =>
 wpOp F (.ext 1) [v1] L2 fun v3 L3 =>
 wpOp F (.bin .neq) [v3, (.i .i64 0)] L3 fun v4 L4 =>
 condW v4
 (fin1 (some (.tup [(.p none), v3])) Q L4)
 (CallL F (N k_wait_New) [] L4 fun v5 L5 =>
 CallL F (N k_wait_New) [] L5 fun v6 L6 =>
 wpOp F (.build [.p none, .p none, .p none, .b false, .b false, .b false] [(0, 1), (1, 1), (2, 1)]) [v2, v5, v6] L6 fun v7 L7 =>
 wpOp F .box [v7] L7 fun v8 L8 =>
 fin1 (some (.tup [v8, (.i .i64 0)])) Q L8)
theorem e_chanq_New_1 (F : Nat → Option AFn) (N : Nat → Nat) (Q : AV → Lg → Prop) (l t : Env) (L : Lg) : wp F (q_chanq_New_1 N) l t L (fin [.tmp (.l 2), .tmp (.l 3)] Q) (fun _ _ _ _ => False) (fin [.tmp (.l 2), .tmp (.l 3)] Q) = D_chanq_New_1 F N Q (l 0) L := by kernel_rfl
/-- tarpaulin/chanq.New -/
def c_chanq_New (N : Nat → Nat) : AFn := ⟨q_chanq_New_1 N, [.tmp (.l 2), .tmp (.l 3)]⟩
structure H_chanq_New (N : Nat → Nat) (F : Nat → Option AFn) : Prop where
  code : F (N k_chanq_New) = some (c_chanq_New N)
  ring_New : H_ring_New N F
  wait_New : H_wait_New N F
theorem r_chanq_New {F : Nat → Option AFn} {N : Nat → Nat} (h : F (N k_chanq_New) = some (c_chanq_New N)) {Q : AV → Lg → Prop} {a0 : AV} {L : Lg} (e : D_chanq_New_1 F N Q a0 L) : CallL F (N k_chanq_New) [a0] L Q :=
  CallL.of_wp h (Eq.mpr (Eq.trans (e_chanq_New_1 F N Q (initE [a0] 0) Env.nil L) (by kernel_rfl : _ = D_chanq_New_1 F N Q a0 L)) e)
def q_chanq_Timed_1 (N : Nat → Nat) : ACode := (.seq (.reg [⟨.l 0, none, .mv, [.c (.p none)]⟩]) (.seq (.reg [⟨.t 4, none, .call (N k_chanq_New), [.c (.i .i64 1)]⟩, ⟨.t 3, none, .mv, [.t 4]⟩, ⟨.t 5, none, .ext 0, [.t 3]⟩, ⟨.t 6, none, .ext 1, [.t 3]⟩, ⟨.l 1, none, .mv, [.t 5]⟩, ⟨.t 2, none, .mv, [.t 6]⟩]) (.seq (.reg [⟨.t 7, none, .mv, [.l 1]⟩, ⟨.t 8, none, .nilchk, [.t 7]⟩, ⟨.t 9, none, .fad 3, [.t 8]⟩, ⟨.no, none, .st 1, [.t 9, .c (.b true)]⟩]) (.seq (.reg [⟨.t 10, none, .mv, [.l 1]⟩, ⟨.l 0, none, .mv, [.t 10]⟩]) .ret))))
noncomputable def D_chanq_Timed_1 (F : Nat → Option AFn) (N : Nat → Nat) (Q : AV → Lg → Prop) (L : Lg) : Prop :=
 CallL F (N k_chanq_New) [(.i .i64 1)] L fun v1 L1 =>
 wpOp F (.ext 0) [v1] L1 fun v2 L2 =>
 wpOp F (.ext 1) [v1] L2 fun v3 L3 =>
 wpOp F .nilchk [v2] L3 fun v4 L4 =>
 wpOp F (.fad 3) [v4] L4 fun v5 L5 =>
 wpOp F (.st 1) [v5, (.b true)] L5 fun _ L6 =>
 fin1 (some v2) Q L6
theorem e_chanq_Timed_1 (F : Nat → Option AFn) (N : Nat → Nat) (Q : AV → Lg → Prop) (l t : Env) (L : Lg) : wp F (q_chanq_Timed_1 N) l t L (fin [.tmp (.l 0)] Q) (fun _ _ _ _ => False) (fin [.tmp (.l 0)] Q) = D_chanq_Timed_1 F N Q L := by kernel_rfl
/-- tarpaulin/chanq.Timed -/
def c_chanq_Timed (N : Nat → Nat) : AFn := ⟨q_chanq_Timed_1 N, [.tmp (.l 0)]⟩
structure H_chanq_Timed (N : Nat → Nat) (F : Nat → Option AFn) : Prop where
  code : F (N k_chanq_Timed) = some (c_chanq_Timed N)
  chanq_New : H_chanq_New N F
theorem r_chanq_Timed {F : Nat → Option AFn} {N : Nat → Nat} (h : F (N k_chanq_Timed) = some (c_chanq_Timed N)) {Q : AV → Lg → Prop} {L : Lg} (e : D_chanq_Timed_1 F N Q L) : CallL F (N k_chanq_Timed) [] L Q :=
  CallL.of_wp h (Eq.mpr (Eq.trans (e_chanq_Timed_1 F N Q (initE [] 0) Env.nil L) (by kernel_rfl : _ = D_chanq_Timed_1 F N Q L)) e)
def q_timer_bad_1 (N : Nat → Nat) : ACode := (.seq (.reg [⟨.l 2, none, .mv, [.c (.b false)]⟩]) (.seq (.reg [⟨.t 3, none, .mv, [.l 0]⟩, ⟨.t 4, none, .bin .lss, [.t 3, .c (.i .i64 0)]⟩, ⟨.t 5, none, .mv, [.t 4]⟩, ⟨.t 6, some (.t 5, false), .mv, [.l 0]⟩, ⟨.t 7, some (.t 5, false), .bin .gtr, [.t 6, .c (.i .i64 4611686018427387904)]⟩, ⟨.t 8, none, .pick, [.t 5, .c (.b true), .t 7]⟩, ⟨.l 2, none, .mv, [.t 8]⟩]) .ret))
noncomputable def D_timer_bad_1 (F : Nat → Option AFn) (N : Nat → Nat) (Q : AV → Lg → Prop) (x0 : AV) (L : Lg) : Prop :=
 wpOp F (.bin .lss) [x0, (.i .i64 0)] L fun v1 L1 =>
 gdOp F v1 false .mv [x0] L1 fun v2 L2 =>
 gdOp F v1 false (.bin .gtr) [v2, (.i .i64 4611686018427387904)] L2 fun v3 L3 =>
 wpOp F .pick [v1, (.b true), v3] L3 fun v4 L4 =>
 fin1 (some v4) Q L4
theorem e_timer_bad_1 (F : Nat → Option AFn) (N : Nat → Nat) (Q : AV → Lg → Prop) (l t : Env) (L : Lg) : wp F (q_timer_bad_1 N) l t L (fin [.tmp (.l 2)] Q) (fun _ _ _ _ => False) (fin [.tmp (.l 2)] Q) = D_timer_bad_1 F N Q (l 0) L := by kernel_rfl
/-- tarpaulin/timer.bad -/
def c_timer_bad (N : Nat → Nat) : AFn := ⟨q_timer_bad_1 N, [.tmp (.l 2)]⟩
structure H_timer_bad (N : Nat → Nat) (F : Nat → Option AFn) : Prop where
  code : F (N k_timer_bad) = some (c_timer_bad N)
theorem r_timer_bad {F : Nat → Option AFn} {N : Nat → Nat} (h : F (N k_timer_bad) = some (c_timer_bad N)) {Q : AV → Lg → Prop} {a0 : AV} {L : Lg} (e : D_timer_bad_1 F N Q a0 L) : CallL F (N k_timer_bad) [a0] L Q :=
  CallL.of_wp h (Eq.mpr (Eq.trans (e_timer_bad_1 F N Q (initE [a0] 0) Env.nil L) (by kernel_rfl : _ = D_timer_bad_1 F N Q a0 L)) e)
def q_heap_Heap_Find_1 (N : Nat → Nat) : ACode := (.seq (.reg [⟨.l 4, none, .alloc [.i .i64 0, .i .i64 0, .i .i64 0], []⟩, ⟨.l 5, none, .mv, [.c (.b false)]⟩]) (.seq (.seq (.reg [⟨.t 8, none, .mv, [.l 0]⟩, ⟨.t 9, none, .eq false .ptr, [.t 8, .c (.p none)]⟩]) (.cond (.t 9) (.seq (.reg [⟨.t 10, none, .build [.i .i64 0, .i .i64 0, .i .i64 0] [], []⟩, ⟨.no, none, .st 3, [.l 4, .t 10]⟩, ⟨.l 5, none, .mv, [.c (.b false)]⟩]) .ret) .skip)) (.seq (.reg [⟨.t 12, none, .mv, [.l 0]⟩, ⟨.t 13, none, .nilchk, [.t 12]⟩, ⟨.t 14, none, .fad 1, [.t 13]⟩, ⟨.t 15, none, .ld none, [.t 14]⟩, ⟨.t 16, none, .mv, [.l 1]⟩, ⟨.t 17, none, .lkup (.i .i64 0) true, [.t 15, .t 16]⟩, ⟨.t 11, none, .mv, [.t 17]⟩, ⟨.t 18, none, .ext 0, [.t 11]⟩, ⟨.t 19, none, .ext 1, [.t 11]⟩, ⟨.l 6, none, .mv, [.t 18]⟩, ⟨.l 7, none, .mv, [.t 19]⟩]) (.seq (.seq (.reg [⟨.t 20, none, .mv, [.l 7]⟩, ⟨.t 21, none, .un .not, [.t 20]⟩]) (.cond (.t 21) (.seq (.reg [⟨.t 22, none, .build [.i .i64 0, .i .i64 0, .i .i64 0] [], []⟩, ⟨.no, none, .st 3, [.l 4, .t 22]⟩, ⟨.l 5, none, .mv, [.c (.b false)]⟩]) .ret) .skip)) (.seq (.reg [⟨.t 23, none, .mv, [.l 0]⟩, ⟨.t 24, none, .nilchk, [.t 23]⟩, ⟨.t 25, none, .fad 0, [.t 24]⟩, ⟨.t 26, none, .ld none, [.t 25]⟩, ⟨.t 27, none, .mv, [.l 6]⟩, ⟨.t 28, none, .iad 3, [.t 26, .t 27]⟩, ⟨.t 29, none, .ld (some 3), [.t 28]⟩, ⟨.no, none, .st 3, [.l 4, .t 29]⟩, ⟨.l 5, none, .mv, [.c (.b true)]⟩]) .ret)))))
noncomputable def D_heap_Heap_Find_1 (F : Nat → Option AFn) (N : Nat → Nat) (Q : AV → Lg → Prop) (x0 : AV) (x1 : AV) (L : Lg) : Prop :=
 wpOp F (.alloc [.i .i64 0, .i .i64 0, .i .i64 0]) [] L fun v1 L1 =>
 wpOp F (.eq false .ptr) [x0, (.p none)] L1 fun v2 L2 =>
 condW v2
 (wpOp F (.build [.i .i64 0, .i .i64 0, .i .i64 0] []) [] L2 fun v3 L3 =>
 wpOp F (.st 3) [v1, v3] L3 fun _ L4 =>
 fin1 (resVL Env.nil Env.nil L4 [.cell (.c v1) (some 3), .tmp (.c (.b false))]) Q L4)
 (wpOp F .nilchk [x0] L2 fun v5 L5 =>
 wpOp F (.fad 1) [v5] L5 fun v6 L6 =>
 wpOp F (.ld none) [v6] L6 fun v7 L7 =>
 wpOp F (.lkup (.i .i64 0) true) [v7, x1] L7 fun v8 L8 =>
 wpOp F (.ext 0) [v8] L8 fun v9 L9 =>
 wpOp F (.ext 1) [v8] L9 fun v10 L10 =>
 wpOp F (.un .not) [v10] L10 fun v11 L11 =>
 condW v11
 (wpOp F (.build [.i .i64 0, .i .i64 0, .i .i64 0] []) [] L11 fun v12 L12 =>
 wpOp F (.st 3) [v1, v12] L12 fun _ L13 =>
 fin1 (resVL Env.nil Env.nil L13 [.cell (.c v1) (some 3), .tmp (.c (.b false))]) Q L13)
 (wpOp F .nilchk [x0] L11 fun v14 L14 =>
 wpOp F (.fad 0) [v14] L14 fun v15 L15 =>
 wpOp F (.ld none) [v15] L15 fun v16 L16 =>
 wpOp F (.iad 3) [v16, v9] L16 fun v17 L17 =>
 wpOp F (.ld (some 3)) [v17] L17 fun v18 L18 =>
 wpOp F (.st 3) [v1, v18] L18 fun _ L19 =>
 fin1 (resVL Env.nil Env.nil L19 [.cell (.c v1) (some 3), .tmp (.c (.b true))]) Q L19))
theorem e_heap_Heap_Find_1 (F : Nat → Option AFn) (N : Nat → Nat) (Q : AV → Lg → Prop) (l t : Env) (L : Lg) : wp F (q_heap_Heap_Find_1 N) l t L (fin [.cell (.l 4) (some 3), .tmp (.l 5)] Q) (fun _ _ _ _ => False) (fin [.cell (.l 4) (some 3), .tmp (.l 5)] Q) = D_heap_Heap_Find_1 F N Q (l 0) (l 1) L := by kernel_rfl
/-- (*tarpaulin/heap.Heap).Find -/
def c_heap_Heap_Find (N : Nat → Nat) : AFn := ⟨q_heap_Heap_Find_1 N, [.cell (.l 4) (some 3), .tmp (.l 5)]⟩
structure H_heap_Heap_Find (N : Nat → Nat) (F : Nat → Option AFn) : Prop where
  code : F (N k_heap_Heap_Find) = some (c_heap_Heap_Find N)
theorem r_heap_Heap_Find {F : Nat → Option AFn} {N : Nat → Nat} (h : F (N k_heap_Heap_Find) = some (c_heap_Heap_Find N)) {Q : AV → Lg → Prop} {a0 a1 : AV} {L : Lg} (e : D_heap_Heap_Find_1 F N Q a0 a1 L) : CallL F (N k_heap_Heap_Find) [a0, a1] L Q :=
  CallL.of_wp h (Eq.mpr (Eq.trans (e_heap_Heap_Find_1 F N Q (initE [a0, a1] 0) Env.nil L) (by kernel_rfl : _ = D_heap_Heap_Find_1 F N Q a0 a1 L)) e)
def q_heap_Heap_put_1 (N : Nat → Nat) : ACode := (.seq (.reg [⟨.l 5, none, .box, [.l 2]⟩]) (.seq (.reg [⟨.t 6, none, .mv, [.l 0]⟩, ⟨.t 7, none, .nilchk, [.t 6]⟩, ⟨.t 8, none, .fad 0, [.t 7]⟩, ⟨.t 9, none, .ld none, [.t 8]⟩, ⟨.t 10, none, .mv, [.l 1]⟩, ⟨.t 11, none, .ld (some 3), [.l 5]⟩, ⟨.t 12, none, .iad 3, [.t 9, .t 10]⟩, ⟨.no, none, .st 3, [.t 12, .t 11]⟩]) (.reg [⟨.t 13, none, .mv, [.l 0]⟩, ⟨.t 14, none, .nilchk, [.t 13]⟩, ⟨.t 15, none, .fad 1, [.t 14]⟩, ⟨.t 16, none, .ld none, [.t 15]⟩, ⟨.t 17, none, .fad 0, [.l 5]⟩, ⟨.t 18, none, .ld none, [.t 17]⟩, ⟨.t 19, none, .mv, [.l 1]⟩, ⟨.no, none, .mset, [.t 16, .t 18, .t 19]⟩])))
noncomputable def D_heap_Heap_put_1 (F : Nat → Option AFn) (N : Nat → Nat) (Q : AV → Lg → Prop) (x0 : AV) (x1 : AV) (x2 : AV) (L : Lg) : Prop :=
 wpOp F .box [x2] L fun v1 L1 =>
 wpOp F .nilchk [x0] L1 fun v2 L2 =>
 wpOp F (.fad 0) [v2] L2 fun v3 L3 =>
 wpOp F (.ld none) [v3] L3 fun v4 L4 =>
 wpOp F (.ld (some 3)) [v1] L4 fun v5 L5 =>
 wpOp F (.iad 3) [v4, x1] L5 fun v6 L6 =>
 wpOp F (.st 3) [v6, v5] L6 fun _ L7 =>
 wpOp F .nilchk [x0] L7 fun v8 L8 =>
 wpOp F (.fad 1) [v8] L8 fun v9 L9 =>
 wpOp F (.ld none) [v9] L9 fun v10 L10 =>
 wpOp F (.fad 0) [v1] L10 fun v11 L11 =>
 wpOp F (.ld none) [v11] L11 fun v12 L12 =>
 wpOp F .mset [v10, v12, x1] L12 fun _ L13 =>
 fin1 (some (.tup [])) Q L13
theorem e_heap_Heap_put_1 (F : Nat → Option AFn) (N : Nat → Nat) (Q : AV → Lg → Prop) (l t : Env) (L : Lg) : wp F (q_heap_Heap_put_1 N) l t L (fin [] Q) (fun _ _ _ _ => False) (fin [] Q) = D_heap_Heap_put_1 F N Q (l 0) (l 1) (l 2) L := by kernel_rfl
/-- (*tarpaulin/heap.Heap).put -/
def c_heap_Heap_put (N : Nat → Nat) : AFn := ⟨q_heap_Heap_put_1 N, []⟩
structure H_heap_Heap_put (N : Nat → Nat) (F : Nat → Option AFn) : Prop where
  code : F (N k_heap_Heap_put) = some (c_heap_Heap_put N)
theorem r_heap_Heap_put {F : Nat → Option AFn} {N : Nat → Nat} (h : F (N k_heap_Heap_put) = some (c_heap_Heap_put N)) {Q : AV → Lg → Prop} {a0 a1 a2 : AV} {L : Lg} (e : D_heap_Heap_put_1 F N Q a0 a1 a2 L) : CallL F (N k_heap_Heap_put) [a0, a1, a2] L Q :=
  CallL.of_wp h (Eq.mpr (Eq.trans (e_heap_Heap_put_1 F N Q (initE [a0, a1, a2] 0) Env.nil L) (by kernel_rfl : _ = D_heap_Heap_put_1 F N Q a0 a1 a2 L)) e)
def q_cmp_isNaN_int_1 (N : Nat → Nat) : ACode := (.seq (.reg [⟨.l 2, none, .mv, [.c (.b false)]⟩]) (.seq (.reg [⟨.t 3, none, .mv, [.l 0]⟩, ⟨.t 4, none, .mv, [.l 0]⟩, ⟨.t 5, none, .bin .neq, [.t 3, .t 4]⟩, ⟨.l 2, none, .mv, [.t 5]⟩]) .ret))
noncomputable def D_cmp_isNaN_int_1 (F : Nat → Option AFn) (N : Nat → Nat) (Q : AV → Lg → Prop) (x0 : AV) (L : Lg) : Prop :=
 wpOp F (.bin .neq) [x0, x0] L fun v1 L1 =>
 fin1 (some v1) Q L1
theorem e_cmp_isNaN_int_1 (F : Nat → Option AFn) (N : Nat → Nat) (Q : AV → Lg → Prop) (l t : Env) (L : Lg) : wp F (q_cmp_isNaN_int_1 N) l t L (fin [.tmp (.l 2)] Q) (fun _ _ _ _ => False) (fin [.tmp (.l 2)] Q) = D_cmp_isNaN_int_1 F N Q (l 0) L := by kernel_rfl
/-- cmp.isNaN[int] -/
def c_cmp_isNaN_int (N : Nat → Nat) : AFn := ⟨q_cmp_isNaN_int_1 N, [.tmp (.l 2)]⟩
structure H_cmp_isNaN_int (N : Nat → Nat) (F : Nat → Option AFn) : Prop where
  code : F (N k_cmp_isNaN_int) = some (c_cmp_isNaN_int N)
theorem r_cmp_isNaN_int {F : Nat → Option AFn} {N : Nat → Nat} (h : F (N k_cmp_isNaN_int) = some (c_cmp_isNaN_int N)) {Q : AV → Lg → Prop} {a0 : AV} {L : Lg} (e : D_cmp_isNaN_int_1 F N Q a0 L) : CallL F (N k_cmp_isNaN_int) [a0] L Q :=
  CallL.of_wp h (Eq.mpr (Eq.trans (e_cmp_isNaN_int_1 F N Q (initE [a0] 0) Env.nil L) (by kernel_rfl : _ = D_cmp_isNaN_int_1 F N Q a0 L)) e)
def q_cmp_Compare_int_1 (N : Nat → Nat) : ACode := (.seq (.reg [⟨.l 4, none, .mv, [.c (.i .i64 0)]⟩]) (.seq (.reg [⟨.t 7, none, .mv, [.l 0]⟩, ⟨.t 8, none, .call (N k_cmp_isNaN_int), [.t 7]⟩, ⟨.l 5, none, .mv, [.t 8]⟩]) (.seq (.reg [⟨.t 9, none, .mv, [.l 1]⟩, ⟨.t 10, none, .call (N k_cmp_isNaN_int), [.t 9]⟩, ⟨.l 6, none, .mv, [.t 10]⟩]) (.seq (.seq (.reg [⟨.t 11, none, .mv, [.l 5]⟩]) (.cond (.t 11) (.seq (.seq (.reg [⟨.t 12, none, .mv, [.l 6]⟩]) (.cond (.t 12) (.seq (.reg [⟨.l 4, none, .mv, [.c (.i .i64 0)]⟩]) .ret) .skip)) (.seq (.reg [⟨.l 4, none, .mv, [.c (.i .i64 (-1))]⟩]) .ret)) .skip)) (.seq (.seq (.reg [⟨.t 13, none, .mv, [.l 6]⟩]) (.cond (.t 13) (.seq (.reg [⟨.l 4, none, .mv, [.c (.i .i64 1)]⟩]) .ret) .skip)) (.seq (.seq (.reg [⟨.t 14, none, .mv, [.l 0]⟩, ⟨.t 15, none, .mv, [.l 1]⟩, ⟨.t 16, none, .bin .lss, [.t 14, .t 15]⟩]) (.cond (.t 16) (.seq (.reg [⟨.l 4, none, .mv, [.c (.i .i64 (-1))]⟩]) .ret) .skip)) (.seq (.seq (.reg [⟨.t 17, none, .mv, [.l 0]⟩, ⟨.t 18, none, .mv, [.l 1]⟩, ⟨.t 19, none, .bin .gtr, [.t 17, .t 18]⟩]) (.cond (.t 19) (.seq (.reg [⟨.l 4, none, .mv, [.c (.i .i64 1)]⟩]) .ret) .skip)) (.seq (.reg [⟨.l 4, none, .mv, [.c (.i .i64 0)]⟩]) .ret))))))))
noncomputable def D_cmp_Compare_int_1 (F : Nat → Option AFn) (N : Nat → Nat) (Q : AV → Lg → Prop) (x0 : AV) (x1 : AV) (L : Lg) : Prop :=
 CallL F (N k_cmp_isNaN_int) [x0] L fun v1 L1 =>
 CallL F (N k_cmp_isNaN_int) [x1] L1 fun v2 L2 =>
 condW v1
 (condW v2
 (fin1 (some (.i .i64 0)) Q L2)
 (fin1 (some (.i .i64 (-1))) Q L2))
 (condW v2
 (fin1 (some (.i .i64 1)) Q L2)
 (wpOp F (.bin .lss) [x0, x1] L2 fun v3 L3 =>
 condW v3
 (fin1 (some (.i .i64 (-1))) Q L3)
 (wpOp F (.bin .gtr) [x0, x1] L3 fun v4 L4 =>
 condW v4
 (fin1 (some (.i .i64 1)) Q L4)
 (fin1 (some (.i .i64 0)) Q L4))))
theorem e_cmp_Compare_int_1 (F : Nat → Option AFn) (N : Nat → Nat) (Q : AV → Lg → Prop) (l t : Env) (L : Lg) : wp F (q_cmp_Compare_int_1 N) l t L (fin [.tmp (.l 4)] Q) (fun _ _ _ _ => False) (fin [.tmp (.l 4)] Q) = D_cmp_Compare_int_1 F N Q (l 0) (l 1) L := by kernel_rfl
/-- cmp.Compare[int] -/
def c_cmp_Compare_int (N : Nat → Nat) : AFn := ⟨q_cmp_Compare_int_1 N, [.tmp (.l 4)]⟩
structure H_cmp_Compare_int (N : Nat → Nat) (F : Nat → Option AFn) : Prop where
  code : F (N k_cmp_Compare_int) = some (c_cmp_Compare_int N)
  cmp_isNaN_int : H_cmp_isNaN_int N F
theorem r_cmp_Compare_int {F : Nat → Option AFn} {N : Nat → Nat} (h : F (N k_cmp_Compare_int) = some (c_cmp_Compare_int N)) {Q : AV → Lg → Prop} {a0 a1 : AV} {L : Lg} (e : D_cmp_Compare_int_1 F N Q a0 a1 L) : CallL F (N k_cmp_Compare_int) [a0, a1] L Q :=
  CallL.of_wp h (Eq.mpr (Eq.trans (e_cmp_Compare_int_1 F N Q (initE [a0, a1] 0) Env.nil L) (by kernel_rfl : _ = D_cmp_Compare_int_1 F N Q a0 a1 L)) e)
def q_cmp_Or_int_4 (N : Nat → Nat) : ACode := (.seq (.reg [⟨.t 17, none, .mv, [.l 3]⟩, ⟨.l 2, none, .mv, [.t 17]⟩]) .ret)
noncomputable def D_cmp_Or_int_4 (F : Nat → Option AFn) (N : Nat → Nat) (Q : AV → Lg → Prop) (x3 : AV) (L : Lg) : Prop :=
 fin1 (some x3) Q L
theorem e_cmp_Or_int_4 (F : Nat → Option AFn) (N : Nat → Nat) (Q : AV → Lg → Prop) (l t : Env) (L : Lg) : wp F (q_cmp_Or_int_4 N) l t L (fin [.tmp (.l 2)] Q) (fun _ _ _ _ => False) (fin [.tmp (.l 2)] Q) = D_cmp_Or_int_4 F N Q (l 3) L := by kernel_rfl
def q_cmp_Or_int_8 (N : Nat → Nat) : ACode := (.seq (.reg [⟨.t 9, none, .bin .lss, [.l 8, .l 7]⟩]) (.seq (.cond (.t 9) .skip (.exit 0)) (.seq (.block 1 (.seq (.reg [⟨.t 10, none, .iad 1, [.l 6, .l 8]⟩, ⟨.t 11, none, .ld none, [.t 10]⟩, ⟨.l 5, none, .mv, [.t 11]⟩]) (.seq (.reg [⟨.t 12, none, .mv, [.l 5]⟩, ⟨.t 13, none, .mv, [.l 3]⟩, ⟨.t 14, none, .bin .neq, [.t 12, .t 13]⟩]) (.cond (.t 14) (.seq (.reg [⟨.t 15, none, .mv, [.l 5]⟩, ⟨.l 2, none, .mv, [.t 15]⟩]) .ret) .skip)))) (.reg [⟨.t 16, none, .bin .add, [.l 8, .c (.i .i64 1)]⟩, ⟨.l 8, none, .mv, [.t 16]⟩]))))
noncomputable def D_cmp_Or_int_8 (F : Nat → Option AFn) (N : Nat → Nat) (Q : AV → Lg → Prop) (k1 : Env → Lg → Prop) (l : Env) (L : Lg) : Prop :=
 wpOp F (.bin .lss) [(l 8), (l 7)] L fun v1 L1 =>
 condW v1
 (wpOp F (.iad 1) [(l 6), (l 8)] L1 fun v2 L2 =>
 wpOp F (.ld none) [v2] L2 fun v3 L3 =>
 wpOp F (.bin .neq) [v3, (l 3)] L3 fun v4 L4 =>
 condW v4
 (fin1 (some v3) Q L4)
 (wpOp F (.bin .add) [(l 8), (.i .i64 1)] L4 fun v5 L5 =>
 k1 (Env.put (Env.put l 5 v3) 8 v5) L5))
 (D_cmp_Or_int_4 F N Q (l 3) L1)
theorem e_cmp_Or_int_8 (F : Nat → Option AFn) (N : Nat → Nat) (Q : AV → Lg → Prop) (k1 : Env → Lg → Prop) (l t : Env) (L : Lg) : wp F (q_cmp_Or_int_8 N) l t L (fun (l _ : Env) (L : Lg) => k1 l L) (fun (j : Nat) (l t : Env) (L : Lg) => bif Nat.beq j 0 then (fun (l t : Env) (L : Lg) => D_cmp_Or_int_4 F N Q (l 3) L) l t L else (fun _ _ _ _ => False) j l t L) (fin [.tmp (.l 2)] Q) = D_cmp_Or_int_8 F N Q k1 l L := by kernel_rfl
def q_cmp_Or_int_7 (N : Nat → Nat) : ACode := (.loop (q_cmp_Or_int_8 N))
noncomputable def D_cmp_Or_int_7 (F : Nat → Option AFn) (N : Nat → Nat) (Q : AV → Lg → Prop) (l : Env) (L : Lg) : Prop :=
 loopW (fun l t L k1 => D_cmp_Or_int_8 F N Q k1 l L) l L
theorem e_cmp_Or_int_7 (F : Nat → Option AFn) (N : Nat → Nat) (Q : AV → Lg → Prop) (l t : Env) (L : Lg) : wp F (q_cmp_Or_int_7 N) l t L (fun (l t : Env) (L : Lg) => D_cmp_Or_int_4 F N Q (l 3) L) (fun (j : Nat) (l t : Env) (L : Lg) => bif Nat.beq j 0 then (fun (l t : Env) (L : Lg) => D_cmp_Or_int_4 F N Q (l 3) L) l t L else (fun _ _ _ _ => False) j l t L) (fin [.tmp (.l 2)] Q) = D_cmp_Or_int_7 F N Q l L := Eq.trans (wpq_loop F (q_cmp_Or_int_8 N) l t L (fun (l t : Env) (L : Lg) => D_cmp_Or_int_4 F N Q (l 3) L) (fun (j : Nat) (l t : Env) (L : Lg) => bif Nat.beq j 0 then (fun (l t : Env) (L : Lg) => D_cmp_Or_int_4 F N Q (l 3) L) l t L else (fun _ _ _ _ => False) j l t L) (fin [.tmp (.l 2)] Q)) (Eq.trans (congrArg (fun B => loopW B l L) (funext fun l => funext fun t => funext fun L => funext fun k1 => e_cmp_Or_int_8 F N Q k1 l t L)) (by kernel_rfl))
def q_cmp_Or_int_6 (N : Nat → Nat) : ACode := (.block 0 (q_cmp_Or_int_7 N))
theorem e_cmp_Or_int_6 (F : Nat → Option AFn) (N : Nat → Nat) (Q : AV → Lg → Prop) (l t : Env) (L : Lg) : wp F (q_cmp_Or_int_6 N) l t L (fun (l t : Env) (L : Lg) => D_cmp_Or_int_4 F N Q (l 3) L) (fun _ _ _ _ => False) (fin [.tmp (.l 2)] Q) = D_cmp_Or_int_7 F N Q l L := Eq.trans (wpq_block F 0 (q_cmp_Or_int_7 N) l t L (fun (l t : Env) (L : Lg) => D_cmp_Or_int_4 F N Q (l 3) L) (fun _ _ _ _ => False) (fin [.tmp (.l 2)] Q)) (e_cmp_Or_int_7 F N Q l t L)
def q_cmp_Or_int_5a (N : Nat → Nat) : ACode := (.reg [⟨.l 6, none, .mv, [.l 0]⟩, ⟨.l 7, none, .lenSl, [.l 6]⟩, ⟨.l 8, none, .mv, [.c (.i .i64 0)]⟩])
def q_cmp_Or_int_5 (N : Nat → Nat) : ACode := (.seq (q_cmp_Or_int_5a N) (q_cmp_Or_int_6 N))
noncomputable def D_cmp_Or_int_5 (F : Nat → Option AFn) (N : Nat → Nat) (Q : AV → Lg → Prop) (l : Env) (L : Lg) : Prop :=
 wpOp F .lenSl [(l 0)] L fun v1 L1 =>
 D_cmp_Or_int_7 F N Q (Env.put (Env.put (Env.put l 6 (l 0)) 7 v1) 8 (.i .i64 0)) L1
theorem e_cmp_Or_int_5 (F : Nat → Option AFn) (N : Nat → Nat) (Q : AV → Lg → Prop) (l t : Env) (L : Lg) : wp F (q_cmp_Or_int_5 N) l t L (fun (l t : Env) (L : Lg) => D_cmp_Or_int_4 F N Q (l 3) L) (fun _ _ _ _ => False) (fin [.tmp (.l 2)] Q) = D_cmp_Or_int_5 F N Q l L := Eq.trans (wpq_seq F (q_cmp_Or_int_5a N) (q_cmp_Or_int_6 N) l t L (fun (l t : Env) (L : Lg) => D_cmp_Or_int_4 F N Q (l 3) L) (fun _ _ _ _ => False) (fin [.tmp (.l 2)] Q)) (Eq.trans (congrArg (fun Z : Kn => wp F (q_cmp_Or_int_5a N) l t L Z (fun _ _ _ _ => False) (fin [.tmp (.l 2)] Q)) (funext fun l => funext fun t => funext fun L => e_cmp_Or_int_6 F N Q l t L)) (by kernel_rfl))
def q_cmp_Or_int_3 (N : Nat → Nat) : ACode := (.seq (q_cmp_Or_int_5 N) (q_cmp_Or_int_4 N))
theorem e_cmp_Or_int_3 (F : Nat → Option AFn) (N : Nat → Nat) (Q : AV → Lg → Prop) (l t : Env) (L : Lg) : wp F (q_cmp_Or_int_3 N) l t L (fin [.tmp (.l 2)] Q) (fun _ _ _ _ => False) (fin [.tmp (.l 2)] Q) = D_cmp_Or_int_5 F N Q l L := Eq.trans (wpq_seq F (q_cmp_Or_int_5 N) (q_cmp_Or_int_4 N) l t L (fin [.tmp (.l 2)] Q) (fun _ _ _ _ => False) (fin [.tmp (.l 2)] Q)) (Eq.trans (congrArg (fun Z : Kn => wp F (q_cmp_Or_int_5 N) l t L Z (fun _ _ _ _ => False) (fin [.tmp (.l 2)] Q)) (funext fun l => funext fun t => funext fun L => e_cmp_Or_int_4 F N Q l t L)) (e_cmp_Or_int_5 F N Q l t L))
def q_cmp_Or_int_2a (N : Nat → Nat) : ACode := (.reg [⟨.l 3, none, .mv, [.c (.i .i64 0)]⟩])
def q_cmp_Or_int_2 (N : Nat → Nat) : ACode := (.seq (q_cmp_Or_int_2a N) (q_cmp_Or_int_3 N))
noncomputable def D_cmp_Or_int_2 (F : Nat → Option AFn) (N : Nat → Nat) (Q : AV → Lg → Prop) (l : Env) (L : Lg) : Prop :=
 D_cmp_Or_int_5 F N Q (Env.put l 3 (.i .i64 0)) L
theorem e_cmp_Or_int_2 (F : Nat → Option AFn) (N : Nat → Nat) (Q : AV → Lg → Prop) (l t : Env) (L : Lg) : wp F (q_cmp_Or_int_2 N) l t L (fin [.tmp (.l 2)] Q) (fun _ _ _ _ => False) (fin [.tmp (.l 2)] Q) = D_cmp_Or_int_2 F N Q l L := Eq.trans (wpq_seq F (q_cmp_Or_int_2a N) (q_cmp_Or_int_3 N) l t L (fin [.tmp (.l 2)] Q) (fun _ _ _ _ => False) (fin [.tmp (.l 2)] Q)) (Eq.trans (congrArg (fun Z : Kn => wp F (q_cmp_Or_int_2a N) l t L Z (fun _ _ _ _ => False) (fin [.tmp (.l 2)] Q)) (funext fun l => funext fun t => funext fun L => e_cmp_Or_int_3 F N Q l t L)) (by kernel_rfl))
def q_cmp_Or_int_1a (N : Nat → Nat) : ACode := (.reg [⟨.l 2, none, .mv, [.c (.i .i64 0)]⟩])
def q_cmp_Or_int_1 (N : Nat → Nat) : ACode := (.seq (q_cmp_Or_int_1a N) (q_cmp_Or_int_2 N))
noncomputable def D_cmp_Or_int_1 (F : Nat → Option AFn) (N : Nat → Nat) (Q : AV → Lg → Prop) (l : Env) (L : Lg) : Prop :=
 D_cmp_Or_int_2 F N Q (Env.put l 2 (.i .i64 0)) L
theorem e_cmp_Or_int_1 (F : Nat → Option AFn) (N : Nat → Nat) (Q : AV → Lg → Prop) (l t : Env) (L : Lg) : wp F (q_cmp_Or_int_1 N) l t L (fin [.tmp (.l 2)] Q) (fun _ _ _ _ => False) (fin [.tmp (.l 2)] Q) = D_cmp_Or_int_1 F N Q l L := Eq.trans (wpq_seq F (q_cmp_Or_int_1a N) (q_cmp_Or_int_2 N) l t L (fin [.tmp (.l 2)] Q) (fun _ _ _ _ => False) (fin [.tmp (.l 2)] Q)) (Eq.trans (congrArg (fun Z : Kn => wp F (q_cmp_Or_int_1a N) l t L Z (fun _ _ _ _ => False) (fin [.tmp (.l 2)] Q)) (funext fun l => funext fun t => funext fun L => e_cmp_Or_int_2 F N Q l t L)) (by kernel_rfl))
/-- cmp.Or[int] -/
def c_cmp_Or_int (N : Nat → Nat) : AFn := ⟨q_cmp_Or_int_1 N, [.tmp (.l 2)]⟩
structure H_cmp_Or_int (N : Nat → Nat) (F : Nat → Option AFn) : Prop where
  code : F (N k_cmp_Or_int) = some (c_cmp_Or_int N)
theorem r_cmp_Or_int {F : Nat → Option AFn} {N : Nat → Nat} (h : F (N k_cmp_Or_int) = some (c_cmp_Or_int N)) {Q : AV → Lg → Prop} {a0 : AV} {L : Lg} (e : D_cmp_Or_int_1 F N Q (initE [a0] 0) L) : CallL F (N k_cmp_Or_int) [a0] L Q :=
  CallL.of_wp h (Eq.mpr (Eq.trans (e_cmp_Or_int_1 F N Q (initE [a0] 0) Env.nil L) (by kernel_rfl : _ = D_cmp_Or_int_1 F N Q (initE [a0] 0) L)) e)
def q_heap_ahead_1 (N : Nat → Nat) : ACode := (.seq (.reg [⟨.l 2, none, .box, [.l 0]⟩, ⟨.l 3, none, .box, [.l 1]⟩, ⟨.l 4, none, .mv, [.c (.i .i64 0)]⟩]) (.seq (.regD [⟨.t 5, none, .fad 1, [.l 2]⟩, ⟨.t 6, none, .ld none, [.t 5]⟩, ⟨.t 7, none, .fad 1, [.l 3]⟩, ⟨.t 8, none, .ld none, [.t 7]⟩, ⟨.t 9, none, .call (N k_cmp_Compare_int), [.t 6, .t 8]⟩, ⟨.t 10, none, .fad 2, [.l 2]⟩, ⟨.t 11, none, .ld none, [.t 10]⟩, ⟨.t 12, none, .fad 2, [.l 3]⟩, ⟨.t 13, none, .ld none, [.t 12]⟩, ⟨.t 14, none, .call (N k_cmp_Compare_int), [.t 11, .t 13]⟩, ⟨.t 15, none, .bslice [.i .i64 0] 2 1 [0, 1], [.t 9, .t 14]⟩, ⟨.t 16, none, .call (N k_cmp_Or_int), [.t 15]⟩, ⟨.l 4, none, .mv, [.t 16]⟩] [(6, 0), (8, 0)]) .ret))
noncomputable def D_heap_ahead_1 (F : Nat → Option AFn) (N : Nat → Nat) (Q : AV → Lg → Prop) (x0 : AV) (x1 : AV) (L : Lg) : Prop :=
 wpOp F .box [x0] L fun v1 L1 =>
 wpOp F .box [x1] L1 fun v2 L2 =>
 wpOp F (.fad 1) [v1] L2 fun v3 L3 =>
 wpOp F (.ld none) [v3] L3 fun v4 L4 =>
 wpOp F (.fad 1) [v2] L4 fun v5 L5 =>
 wpOp F (.ld none) [v5] L5 fun v6 L6 =>
 CallL F (N k_cmp_Compare_int) [v4, v6] L6 fun v7 L7 =>
 wpOp F (.fad 2) [v1] L7 fun v8 L8 =>
 wpOp F (.ld none) [v8] L8 fun v9 L9 =>
 wpOp F (.fad 2) [v2] L9 fun v10 L10 =>
 wpOp F (.ld none) [v10] L10 fun v11 L11 =>
 CallL F (N k_cmp_Compare_int) [v9, v11] L11 fun v12 L12 =>
 wpOp F (.bslice [.i .i64 0] 2 1 [0, 1]) [v7, v12] L12 fun v13 L13 =>
 CallL F (N k_cmp_Or_int) [v13] L13 fun v14 L14 =>
 (againV (.ld none) [v8] L8 L2 ∧ againV (.ld none) [v10] L10 L2 ∧ True) ∧ (fin1 (some v14) Q L14)
theorem e_heap_ahead_1 (F : Nat → Option AFn) (N : Nat → Nat) (Q : AV → Lg → Prop) (l t : Env) (L : Lg) : wp F (q_heap_ahead_1 N) l t L (fin [.tmp (.l 4)] Q) (fun _ _ _ _ => False) (fin [.tmp (.l 4)] Q) = D_heap_ahead_1 F N Q (l 0) (l 1) L := by kernel_rfl
/-- tarpaulin/heap.ahead -/
def c_heap_ahead (N : Nat → Nat) : AFn := ⟨q_heap_ahead_1 N, [.tmp (.l 4)]⟩
structure H_heap_ahead (N : Nat → Nat) (F : Nat → Option AFn) : Prop where
  code : F (N k_heap_ahead) = some (c_heap_ahead N)
  cmp_Compare_int : H_cmp_Compare_int N F
  cmp_Or_int : H_cmp_Or_int N F
theorem r_heap_ahead {F : Nat → Option AFn} {N : Nat → Nat} (h : F (N k_heap_ahead) = some (c_heap_ahead N)) {Q : AV → Lg → Prop} {a0 a1 : AV} {L : Lg} (e : D_heap_ahead_1 F N Q a0 a1 L) : CallL F (N k_heap_ahead) [a0, a1] L Q :=
  CallL.of_wp h (Eq.mpr (Eq.trans (e_heap_ahead_1 F N Q (initE [a0, a1] 0) Env.nil L) (by kernel_rfl : _ = D_heap_ahead_1 F N Q a0 a1 L)) e)
def q_heap_Heap_up_3 (N : Nat → Nat) : ACode := (.reg [⟨.t 43, none, .mv, [.l 0]⟩, ⟨.t 44, none, .mv, [.l 1]⟩, ⟨.t 45, none, .ld (some 3), [.l 4]⟩, ⟨.t 46, none, .call (N k_heap_Heap_put), [.t 43, .t 44, .t 45]⟩])
noncomputable def D_heap_Heap_up_3 (F : Nat → Option AFn) (N : Nat → Nat) (Q : AV → Lg → Prop) (x0 : AV) (x1 : AV) (x4 : AV) (L : Lg) : Prop :=
 wpOp F (.ld (some 3)) [x4] L fun v1 L1 =>
 CallL F (N k_heap_Heap_put) [x0, x1, v1] L1 fun v2 L2 =>
 fin1 (some (.tup [])) Q L2
theorem e_heap_Heap_up_3 (F : Nat → Option AFn) (N : Nat → Nat) (Q : AV → Lg → Prop) (l t : Env) (L : Lg) : wp F (q_heap_Heap_up_3 N) l t L (fin [] Q) (fun _ _ _ _ => False) (fin [] Q) = D_heap_Heap_up_3 F N Q (l 0) (l 1) (l 4) L := by kernel_rfl
def q_heap_Heap_up_6 (N : Nat → Nat) : ACode := (.seq (.seq (.reg [⟨.t 12, none, .mv, [.l 1]⟩, ⟨.t 13, none, .bin .gtr, [.t 12, .c (.i .i64 0)]⟩, ⟨.t 14, none, .mv, [.t 13]⟩, ⟨.t 15, some (.t 14, true), .ld (some 3), [.l 4]⟩, ⟨.t 16, some (.t 14, true), .mv, [.l 0]⟩, ⟨.t 17, some (.t 14, true), .nilchk, [.t 16]⟩, ⟨.t 18, some (.t 14, true), .fad 0, [.t 17]⟩, ⟨.t 19, some (.t 14, true), .ld none, [.t 18]⟩, ⟨.t 20, some (.t 14, true), .mv, [.l 1]⟩, ⟨.t 21, some (.t 14, true), .bin .sub, [.t 20, .c (.i .i64 1)]⟩, ⟨.t 22, some (.t 14, true), .bin .quo, [.t 21, .c (.i .i64 4)]⟩, ⟨.t 23, some (.t 14, true), .iad 3, [.t 19, .t 22]⟩, ⟨.t 24, some (.t 14, true), .ld (some 3), [.t 23]⟩, ⟨.t 25, some (.t 14, true), .call (N k_heap_ahead), [.t 15, .t 24]⟩, ⟨.t 26, some (.t 14, true), .bin .lss, [.t 25, .c (.i .i64 0)]⟩, ⟨.t 27, none, .pick, [.t 14, .t 26, .c (.b false)]⟩]) (.cond (.t 27) .skip (.exit 0))) (.block 1 (.seq (.reg [⟨.t 28, none, .mv, [.l 0]⟩, ⟨.t 29, none, .mv, [.l 1]⟩, ⟨.t 30, none, .mv, [.l 0]⟩, ⟨.t 31, none, .nilchk, [.t 30]⟩, ⟨.t 32, none, .fad 0, [.t 31]⟩, ⟨.t 33, none, .ld none, [.t 32]⟩, ⟨.t 34, none, .mv, [.l 1]⟩, ⟨.t 35, none, .bin .sub, [.t 34, .c (.i .i64 1)]⟩, ⟨.t 36, none, .bin .quo, [.t 35, .c (.i .i64 4)]⟩, ⟨.t 37, none, .iad 3, [.t 33, .t 36]⟩, ⟨.t 38, none, .ld (some 3), [.t 37]⟩, ⟨.t 39, none, .call (N k_heap_Heap_put), [.t 28, .t 29, .t 38]⟩]) (.reg [⟨.t 40, none, .mv, [.l 1]⟩, ⟨.t 41, none, .bin .sub, [.t 40, .c (.i .i64 1)]⟩, ⟨.t 42, none, .bin .quo, [.t 41, .c (.i .i64 4)]⟩, ⟨.l 1, none, .mv, [.t 42]⟩]))))
noncomputable def D_heap_Heap_up_6 (F : Nat → Option AFn) (N : Nat → Nat) (Q : AV → Lg → Prop) (k1 : Env → Lg → Prop) (l : Env) (L : Lg) : Prop :=
 wpOp F (.bin .gtr) [(l 1), (.i .i64 0)] L fun v1 L1 =>
 gdOp F v1 true (.ld (some 3)) [(l 4)] L1 fun v2 L2 =>
 gdOp F v1 true .mv [(l 0)] L2 fun v3 L3 =>
 gdOp F v1 true .nilchk [v3] L3 fun v4 L4 =>
 gdOp F v1 true (.fad 0) [v4] L4 fun v5 L5 =>
 gdOp F v1 true (.ld none) [v5] L5 fun v6 L6 =>
 gdOp F v1 true .mv [(l 1)] L6 fun v7 L7 =>
 gdOp F v1 true (.bin .sub) [v7, (.i .i64 1)] L7 fun v8 L8 =>
 gdOp F v1 true (.bin .quo) [v8, (.i .i64 4)] L8 fun v9 L9 =>
 gdOp F v1 true (.iad 3) [v6, v9] L9 fun v10 L10 =>
 gdOp F v1 true (.ld (some 3)) [v10] L10 fun v11 L11 =>
 gdOp F v1 true (.call (N k_heap_ahead)) [v2, v11] L11 fun v12 L12 =>
 gdOp F v1 true (.bin .lss) [v12, (.i .i64 0)] L12 fun v13 L13 =>
 wpOp F .pick [v1, v13, (.b false)] L13 fun v14 L14 =>
 condW v14
 (wpOp F .nilchk [(l 0)] L14 fun v15 L15 =>
 wpOp F (.fad 0) [v15] L15 fun v16 L16 =>
 wpOp F (.ld none) [v16] L16 fun v17 L17 =>
 wpOp F (.bin .sub) [(l 1), (.i .i64 1)] L17 fun v18 L18 =>
 wpOp F (.bin .quo) [v18, (.i .i64 4)] L18 fun v19 L19 =>
 wpOp F (.iad 3) [v17, v19] L19 fun v20 L20 =>
 wpOp F (.ld (some 3)) [v20] L20 fun v21 L21 =>
 CallL F (N k_heap_Heap_put) [(l 0), (l 1), v21] L21 fun v22 L22 =>
 wpOp F (.bin .sub) [(l 1), (.i .i64 1)] L22 fun v23 L23 =>
 wpOp F (.bin .quo) [v23, (.i .i64 4)] L23 fun v24 L24 =>
 k1 (Env.put l 1 v24) L24)
 (D_heap_Heap_up_3 F N Q (l 0) (l 1) (l 4) L14)
theorem e_heap_Heap_up_6 (F : Nat → Option AFn) (N : Nat → Nat) (Q : AV → Lg → Prop) (k1 : Env → Lg → Prop) (l t : Env) (L : Lg) : wp F (q_heap_Heap_up_6 N) l t L (fun (l _ : Env) (L : Lg) => k1 l L) (fun (j : Nat) (l t : Env) (L : Lg) => bif Nat.beq j 0 then (fun (l t : Env) (L : Lg) => D_heap_Heap_up_3 F N Q (l 0) (l 1) (l 4) L) l t L else (fun _ _ _ _ => False) j l t L) (fin [] Q) = D_heap_Heap_up_6 F N Q k1 l L := by kernel_rfl
def q_heap_Heap_up_5 (N : Nat → Nat) : ACode := (.loop (q_heap_Heap_up_6 N))
noncomputable def D_heap_Heap_up_5 (F : Nat → Option AFn) (N : Nat → Nat) (Q : AV → Lg → Prop) (l : Env) (L : Lg) : Prop :=
 loopW (fun l t L k1 => D_heap_Heap_up_6 F N Q k1 l L) l L
theorem e_heap_Heap_up_5 (F : Nat → Option AFn) (N : Nat → Nat) (Q : AV → Lg → Prop) (l t : Env) (L : Lg) : wp F (q_heap_Heap_up_5 N) l t L (fun (l t : Env) (L : Lg) => D_heap_Heap_up_3 F N Q (l 0) (l 1) (l 4) L) (fun (j : Nat) (l t : Env) (L : Lg) => bif Nat.beq j 0 then (fun (l t : Env) (L : Lg) => D_heap_Heap_up_3 F N Q (l 0) (l 1) (l 4) L) l t L else (fun _ _ _ _ => False) j l t L) (fin [] Q) = D_heap_Heap_up_5 F N Q l L := Eq.trans (wpq_loop F (q_heap_Heap_up_6 N) l t L (fun (l t : Env) (L : Lg) => D_heap_Heap_up_3 F N Q (l 0) (l 1) (l 4) L) (fun (j : Nat) (l t : Env) (L : Lg) => bif Nat.beq j 0 then (fun (l t : Env) (L : Lg) => D_heap_Heap_up_3 F N Q (l 0) (l 1) (l 4) L) l t L else (fun _ _ _ _ => False) j l t L) (fin [] Q)) (Eq.trans (congrArg (fun B => loopW B l L) (funext fun l => funext fun t => funext fun L => funext fun k1 => e_heap_Heap_up_6 F N Q k1 l t L)) (by kernel_rfl))
def q_heap_Heap_up_4 (N : Nat → Nat) : ACode := (.block 0 (q_heap_Heap_up_5 N))
theorem e_heap_Heap_up_4 (F : Nat → Option AFn) (N : Nat → Nat) (Q : AV → Lg → Prop) (l t : Env) (L : Lg) : wp F (q_heap_Heap_up_4 N) l t L (fun (l t : Env) (L : Lg) => D_heap_Heap_up_3 F N Q (l 0) (l 1) (l 4) L) (fun _ _ _ _ => False) (fin [] Q) = D_heap_Heap_up_5 F N Q l L := Eq.trans (wpq_block F 0 (q_heap_Heap_up_5 N) l t L (fun (l t : Env) (L : Lg) => D_heap_Heap_up_3 F N Q (l 0) (l 1) (l 4) L) (fun _ _ _ _ => False) (fin [] Q)) (e_heap_Heap_up_5 F N Q l t L)
def q_heap_Heap_up_2 (N : Nat → Nat) : ACode := (.seq (q_heap_Heap_up_4 N) (q_heap_Heap_up_3 N))
theorem e_heap_Heap_up_2 (F : Nat → Option AFn) (N : Nat → Nat) (Q : AV → Lg → Prop) (l t : Env) (L : Lg) : wp F (q_heap_Heap_up_2 N) l t L (fin [] Q) (fun _ _ _ _ => False) (fin [] Q) = D_heap_Heap_up_5 F N Q l L := Eq.trans (wpq_seq F (q_heap_Heap_up_4 N) (q_heap_Heap_up_3 N) l t L (fin [] Q) (fun _ _ _ _ => False) (fin [] Q)) (Eq.trans (congrArg (fun Z : Kn => wp F (q_heap_Heap_up_4 N) l t L Z (fun _ _ _ _ => False) (fin [] Q)) (funext fun l => funext fun t => funext fun L => e_heap_Heap_up_3 F N Q l t L)) (e_heap_Heap_up_4 F N Q l t L))
def q_heap_Heap_up_1a (N : Nat → Nat) : ACode := (.reg [⟨.t 5, none, .mv, [.l 0]⟩, ⟨.t 6, none, .nilchk, [.t 5]⟩, ⟨.t 7, none, .fad 0, [.t 6]⟩, ⟨.t 8, none, .ld none, [.t 7]⟩, ⟨.t 9, none, .mv, [.l 1]⟩, ⟨.t 10, none, .iad 3, [.t 8, .t 9]⟩, ⟨.t 11, none, .ld (some 3), [.t 10]⟩, ⟨.l 4, none, .alloc [.i .i64 0, .i .i64 0, .i .i64 0], []⟩, ⟨.no, none, .st 3, [.l 4, .t 11]⟩])
def q_heap_Heap_up_1 (N : Nat → Nat) : ACode := (.seq (q_heap_Heap_up_1a N) (q_heap_Heap_up_2 N))
noncomputable def D_heap_Heap_up_1 (F : Nat → Option AFn) (N : Nat → Nat) (Q : AV → Lg → Prop) (l : Env) (L : Lg) : Prop :=
 wpOp F .nilchk [(l 0)] L fun v1 L1 =>
 wpOp F (.fad 0) [v1] L1 fun v2 L2 =>
 wpOp F (.ld none) [v2] L2 fun v3 L3 =>
 wpOp F (.iad 3) [v3, (l 1)] L3 fun v4 L4 =>
 wpOp F (.ld (some 3)) [v4] L4 fun v5 L5 =>
 wpOp F (.alloc [.i .i64 0, .i .i64 0, .i .i64 0]) [] L5 fun v6 L6 =>
 wpOp F (.st 3) [v6, v5] L6 fun _ L7 =>
 D_heap_Heap_up_5 F N Q (Env.put l 4 v6) L7
theorem e_heap_Heap_up_1 (F : Nat → Option AFn) (N : Nat → Nat) (Q : AV → Lg → Prop) (l t : Env) (L : Lg) : wp F (q_heap_Heap_up_1 N) l t L (fin [] Q) (fun _ _ _ _ => False) (fin [] Q) = D_heap_Heap_up_1 F N Q l L := Eq.trans (wpq_seq F (q_heap_Heap_up_1a N) (q_heap_Heap_up_2 N) l t L (fin [] Q) (fun _ _ _ _ => False) (fin [] Q)) (Eq.trans (congrArg (fun Z : Kn => wp F (q_heap_Heap_up_1a N) l t L Z (fun _ _ _ _ => False) (fin [] Q)) (funext fun l => funext fun t => funext fun L => e_heap_Heap_up_2 F N Q l t L)) (by kernel_rfl))
/-- (*tarpaulin/heap.Heap).up -/
def c_heap_Heap_up (N : Nat → Nat) : AFn := ⟨q_heap_Heap_up_1 N, []⟩
structure H_heap_Heap_up (N : Nat → Nat) (F : Nat → Option AFn) : Prop where
  code : F (N k_heap_Heap_up) = some (c_heap_Heap_up N)
  heap_ahead : H_heap_ahead N F
  heap_Heap_put : H_heap_Heap_put N F
theorem r_heap_Heap_up {F : Nat → Option AFn} {N : Nat → Nat} (h : F (N k_heap_Heap_up) = some (c_heap_Heap_up N)) {Q : AV → Lg → Prop} {a0 a1 : AV} {L : Lg} (e : D_heap_Heap_up_1 F N Q (initE [a0, a1] 0) L) : CallL F (N k_heap_Heap_up) [a0, a1] L Q :=
  CallL.of_wp h (Eq.mpr (Eq.trans (e_heap_Heap_up_1 F N Q (initE [a0, a1] 0) Env.nil L) (by kernel_rfl : _ = D_heap_Heap_up_1 F N Q (initE [a0, a1] 0) L)) e)
def q_heap_Heap_down_3 (N : Nat → Nat) : ACode := (.reg [⟨.t 78, none, .mv, [.l 0]⟩, ⟨.t 79, none, .mv, [.l 1]⟩, ⟨.t 80, none, .ld (some 3), [.l 4]⟩, ⟨.t 81, none, .call (N k_heap_Heap_put), [.t 78, .t 79, .t 80]⟩])
noncomputable def D_heap_Heap_down_3 (F : Nat → Option AFn) (N : Nat → Nat) (Q : AV → Lg → Prop) (x0 : AV) (x1 : AV) (x4 : AV) (L : Lg) : Prop :=
 wpOp F (.ld (some 3)) [x4] L fun v1 L1 =>
 CallL F (N k_heap_Heap_put) [x0, x1, v1] L1 fun v2 L2 =>
 fin1 (some (.tup [])) Q L2
theorem e_heap_Heap_down_3 (F : Nat → Option AFn) (N : Nat → Nat) (Q : AV → Lg → Prop) (l t : Env) (L : Lg) : wp F (q_heap_Heap_down_3 N) l t L (fin [] Q) (fun _ _ _ _ => False) (fin [] Q) = D_heap_Heap_down_3 F N Q (l 0) (l 1) (l 4) L := by kernel_rfl
def q_heap_Heap_down_11 (N : Nat → Nat) : ACode := (.seq (.seq (.reg [⟨.t 57, none, .ld (some 3), [.l 4]⟩, ⟨.t 58, none, .mv, [.l 0]⟩, ⟨.t 59, none, .nilchk, [.t 58]⟩, ⟨.t 60, none, .fad 0, [.t 59]⟩, ⟨.t 61, none, .ld none, [.t 60]⟩, ⟨.t 62, none, .mv, [.l 6]⟩, ⟨.t 63, none, .iad 3, [.t 61, .t 62]⟩, ⟨.t 64, none, .ld (some 3), [.t 63]⟩, ⟨.t 65, none, .call (N k_heap_ahead), [.t 57, .t 64]⟩, ⟨.t 66, none, .bin .lss, [.t 65, .c (.i .i64 0)]⟩]) (.cond (.t 66) (.exit 0) .skip)) (.seq (.reg [⟨.t 67, none, .mv, [.l 0]⟩, ⟨.t 68, none, .mv, [.l 1]⟩, ⟨.t 69, none, .mv, [.l 0]⟩, ⟨.t 70, none, .nilchk, [.t 69]⟩, ⟨.t 71, none, .fad 0, [.t 70]⟩, ⟨.t 72, none, .ld none, [.t 71]⟩, ⟨.t 73, none, .mv, [.l 6]⟩, ⟨.t 74, none, .iad 3, [.t 72, .t 73]⟩, ⟨.t 75, none, .ld (some 3), [.t 74]⟩, ⟨.t 76, none, .call (N k_heap_Heap_put), [.t 67, .t 68, .t 75]⟩]) (.reg [⟨.t 77, none, .mv, [.l 6]⟩, ⟨.l 1, none, .mv, [.t 77]⟩])))
noncomputable def D_heap_Heap_down_11 (F : Nat → Option AFn) (N : Nat → Nat) (Q : AV → Lg → Prop) (k1 : Env → Lg → Prop) (l : Env) (L : Lg) : Prop :=
 wpOp F (.ld (some 3)) [(l 4)] L fun v1 L1 =>
 wpOp F .nilchk [(l 0)] L1 fun v2 L2 =>
 wpOp F (.fad 0) [v2] L2 fun v3 L3 =>
 wpOp F (.ld none) [v3] L3 fun v4 L4 =>
 wpOp F (.iad 3) [v4, (l 6)] L4 fun v5 L5 =>
 wpOp F (.ld (some 3)) [v5] L5 fun v6 L6 =>
 CallL F (N k_heap_ahead) [v1, v6] L6 fun v7 L7 =>
 wpOp F (.bin .lss) [v7, (.i .i64 0)] L7 fun v8 L8 =>
 condW v8
 (D_heap_Heap_down_3 F N Q (l 0) (l 1) (l 4) L8)
 (wpOp F .nilchk [(l 0)] L8 fun v9 L9 =>
 wpOp F (.fad 0) [v9] L9 fun v10 L10 =>
 wpOp F (.ld none) [v10] L10 fun v11 L11 =>
 wpOp F (.iad 3) [v11, (l 6)] L11 fun v12 L12 =>
 wpOp F (.ld (some 3)) [v12] L12 fun v13 L13 =>
 CallL F (N k_heap_Heap_put) [(l 0), (l 1), v13] L13 fun v14 L14 =>
 k1 (Env.put l 1 (l 6)) L14)
theorem e_heap_Heap_down_11 (F : Nat → Option AFn) (N : Nat → Nat) (Q : AV → Lg → Prop) (k1 : Env → Lg → Prop) (l t : Env) (L : Lg) : wp F (q_heap_Heap_down_11 N) l t L (fun (l _ : Env) (L : Lg) => k1 l L) (fun (j : Nat) (l t : Env) (L : Lg) => bif Nat.beq j 1 then (fun (l _ : Env) (L : Lg) => k1 l L) l t L else (fun (j : Nat) (l t : Env) (L : Lg) => bif Nat.beq j 0 then (fun (l t : Env) (L : Lg) => D_heap_Heap_down_3 F N Q (l 0) (l 1) (l 4) L) l t L else (fun _ _ _ _ => False) j l t L) j l t L) (fin [] Q) = D_heap_Heap_down_11 F N Q k1 l L := by kernel_rfl
def q_heap_Heap_down_15 (N : Nat → Nat) : ACode := (.seq (.seq (.reg [⟨.t 28, none, .mv, [.l 7]⟩, ⟨.t 29, none, .mv, [.l 5]⟩, ⟨.t 30, none, .bin .add, [.t 29, .c (.i .i64 4)]⟩, ⟨.t 31, none, .mv, [.l 0]⟩, ⟨.t 32, none, .nilchk, [.t 31]⟩, ⟨.t 33, none, .fad 0, [.t 32]⟩, ⟨.t 34, none, .ld none, [.t 33]⟩, ⟨.t 35, none, .lenSl, [.t 34]⟩, ⟨.t 36, none, .min, [.t 30, .t 35]⟩, ⟨.t 37, none, .bin .lss, [.t 28, .t 36]⟩]) (.cond (.t 37) .skip (.exit 2))) (.seq (.block 3 (.seq (.reg [⟨.t 40, none, .mv, [.l 0]⟩, ⟨.t 41, none, .nilchk, [.t 40]⟩, ⟨.t 42, none, .fad 0, [.t 41]⟩, ⟨.t 43, none, .ld none, [.t 42]⟩, ⟨.t 44, none, .mv, [.l 7]⟩, ⟨.t 45, none, .iad 3, [.t 43, .t 44]⟩, ⟨.t 46, none, .ld (some 3), [.t 45]⟩, ⟨.t 47, none, .mv, [.l 0]⟩, ⟨.t 48, none, .nilchk, [.t 47]⟩, ⟨.t 49, none, .fad 0, [.t 48]⟩, ⟨.t 50, none, .ld none, [.t 49]⟩, ⟨.t 51, none, .mv, [.l 6]⟩, ⟨.t 52, none, .iad 3, [.t 50, .t 51]⟩, ⟨.t 53, none, .ld (some 3), [.t 52]⟩, ⟨.t 54, none, .call (N k_heap_ahead), [.t 46, .t 53]⟩, ⟨.t 55, none, .bin .lss, [.t 54, .c (.i .i64 0)]⟩]) (.cond (.t 55) (.reg [⟨.t 56, none, .mv, [.l 7]⟩, ⟨.l 6, none, .mv, [.t 56]⟩]) .skip))) (.reg [⟨.t 38, none, .mv, [.l 7]⟩, ⟨.t 39, none, .bin .add, [.t 38, .c (.i .i64 1)]⟩, ⟨.l 7, none, .mv, [.t 39]⟩])))
noncomputable def D_heap_Heap_down_15 (F : Nat → Option AFn) (N : Nat → Nat) (Q : AV → Lg → Prop) (k1 : Env → Lg → Prop) (k2 : Env → Lg → Prop) (l : Env) (L : Lg) : Prop :=
 wpOp F (.bin .add) [(l 5), (.i .i64 4)] L fun v1 L1 =>
 wpOp F .nilchk [(l 0)] L1 fun v2 L2 =>
 wpOp F (.fad 0) [v2] L2 fun v3 L3 =>
 wpOp F (.ld none) [v3] L3 fun v4 L4 =>
 wpOp F .lenSl [v4] L4 fun v5 L5 =>
 wpOp F .min [v1, v5] L5 fun v6 L6 =>
 wpOp F (.bin .lss) [(l 7), v6] L6 fun v7 L7 =>
 condW v7
 (wpOp F .nilchk [(l 0)] L7 fun v8 L8 =>
 wpOp F (.fad 0) [v8] L8 fun v9 L9 =>
 wpOp F (.ld none) [v9] L9 fun v10 L10 =>
 wpOp F (.iad 3) [v10, (l 7)] L10 fun v11 L11 =>
 wpOp F (.ld (some 3)) [v11] L11 fun v12 L12 =>
 wpOp F .nilchk [(l 0)] L12 fun v13 L13 =>
 wpOp F (.fad 0) [v13] L13 fun v14 L14 =>
 wpOp F (.ld none) [v14] L14 fun v15 L15 =>
 wpOp F (.iad 3) [v15, (l 6)] L15 fun v16 L16 =>
 wpOp F (.ld (some 3)) [v16] L16 fun v17 L17 =>
 CallL F (N k_heap_ahead) [v12, v17] L17 fun v18 L18 =>
 wpOp F (.bin .lss) [v18, (.i .i64 0)] L18 fun v19 L19 =>
 condW v19
 (wpOp F (.bin .add) [(l 7), (.i .i64 1)] L19 fun v20 L20 =>
 k2 (Env.put (Env.put l 6 (l 7)) 7 v20) L20)
 (wpOp F (.bin .add) [(l 7), (.i .i64 1)] L19 fun v21 L21 =>
 k2 (Env.put l 7 v21) L21))
 (D_heap_Heap_down_11 F N Q k1 l L7)
theorem e_heap_Heap_down_15 (F : Nat → Option AFn) (N : Nat → Nat) (Q : AV → Lg → Prop) (k1 : Env → Lg → Prop) (k2 : Env → Lg → Prop) (l t : Env) (L : Lg) : wp F (q_heap_Heap_down_15 N) l t L (fun (l _ : Env) (L : Lg) => k2 l L) (fun (j : Nat) (l t : Env) (L : Lg) => bif Nat.beq j 2 then (fun (l t : Env) (L : Lg) => D_heap_Heap_down_11 F N Q k1 l L) l t L else (fun (j : Nat) (l t : Env) (L : Lg) => bif Nat.beq j 1 then (fun (l _ : Env) (L : Lg) => k1 l L) l t L else (fun (j : Nat) (l t : Env) (L : Lg) => bif Nat.beq j 0 then (fun (l t : Env) (L : Lg) => D_heap_Heap_down_3 F N Q (l 0) (l 1) (l 4) L) l t L else (fun _ _ _ _ => False) j l t L) j l t L) j l t L) (fin [] Q) = D_heap_Heap_down_15 F N Q k1 k2 l L := by kernel_rfl
def q_heap_Heap_down_14 (N : Nat → Nat) : ACode := (.loop (q_heap_Heap_down_15 N))
noncomputable def D_heap_Heap_down_14 (F : Nat → Option AFn) (N : Nat → Nat) (Q : AV → Lg → Prop) (k1 : Env → Lg → Prop) (l : Env) (L : Lg) : Prop :=
 loopW (fun l t L k2 => D_heap_Heap_down_15 F N Q k1 k2 l L) l L
theorem e_heap_Heap_down_14 (F : Nat → Option AFn) (N : Nat → Nat) (Q : AV → Lg → Prop) (k1 : Env → Lg → Prop) (l t : Env) (L : Lg) : wp F (q_heap_Heap_down_14 N) l t L (fun (l t : Env) (L : Lg) => D_heap_Heap_down_11 F N Q k1 l L) (fun (j : Nat) (l t : Env) (L : Lg) => bif Nat.beq j 2 then (fun (l t : Env) (L : Lg) => D_heap_Heap_down_11 F N Q k1 l L) l t L else (fun (j : Nat) (l t : Env) (L : Lg) => bif Nat.beq j 1 then (fun (l _ : Env) (L : Lg) => k1 l L) l t L else (fun (j : Nat) (l t : Env) (L : Lg) => bif Nat.beq j 0 then (fun (l t : Env) (L : Lg) => D_heap_Heap_down_3 F N Q (l 0) (l 1) (l 4) L) l t L else (fun _ _ _ _ => False) j l t L) j l t L) j l t L) (fin [] Q) = D_heap_Heap_down_14 F N Q k1 l L := Eq.trans (wpq_loop F (q_heap_Heap_down_15 N) l t L (fun (l t : Env) (L : Lg) => D_heap_Heap_down_11 F N Q k1 l L) (fun (j : Nat) (l t : Env) (L : Lg) => bif Nat.beq j 2 then (fun (l t : Env) (L : Lg) => D_heap_Heap_down_11 F N Q k1 l L) l t L else (fun (j : Nat) (l t : Env) (L : Lg) => bif Nat.beq j 1 then (fun (l _ : Env) (L : Lg) => k1 l L) l t L else (fun (j : Nat) (l t : Env) (L : Lg) => bif Nat.beq j 0 then (fun (l t : Env) (L : Lg) => D_heap_Heap_down_3 F N Q (l 0) (l 1) (l 4) L) l t L else (fun _ _ _ _ => False) j l t L) j l t L) j l t L) (fin [] Q)) (Eq.trans (congrArg (fun B => loopW B l L) (funext fun l => funext fun t => funext fun L => funext fun k2 => e_heap_Heap_down_15 F N Q k1 k2 l t L)) (by kernel_rfl))
def q_heap_Heap_down_13 (N : Nat → Nat) : ACode := (.block 2 (q_heap_Heap_down_14 N))
theorem e_heap_Heap_down_13 (F : Nat → Option AFn) (N : Nat → Nat) (Q : AV → Lg → Prop) (k1 : Env → Lg → Prop) (l t : Env) (L : Lg) : wp F (q_heap_Heap_down_13 N) l t L (fun (l t : Env) (L : Lg) => D_heap_Heap_down_11 F N Q k1 l L) (fun (j : Nat) (l t : Env) (L : Lg) => bif Nat.beq j 1 then (fun (l _ : Env) (L : Lg) => k1 l L) l t L else (fun (j : Nat) (l t : Env) (L : Lg) => bif Nat.beq j 0 then (fun (l t : Env) (L : Lg) => D_heap_Heap_down_3 F N Q (l 0) (l 1) (l 4) L) l t L else (fun _ _ _ _ => False) j l t L) j l t L) (fin [] Q) = D_heap_Heap_down_14 F N Q k1 l L := Eq.trans (wpq_block F 2 (q_heap_Heap_down_14 N) l t L (fun (l t : Env) (L : Lg) => D_heap_Heap_down_11 F N Q k1 l L) (fun (j : Nat) (l t : Env) (L : Lg) => bif Nat.beq j 1 then (fun (l _ : Env) (L : Lg) => k1 l L) l t L else (fun (j : Nat) (l t : Env) (L : Lg) => bif Nat.beq j 0 then (fun (l t : Env) (L : Lg) => D_heap_Heap_down_3 F N Q (l 0) (l 1) (l 4) L) l t L else (fun _ _ _ _ => False) j l t L) j l t L) (fin [] Q)) (e_heap_Heap_down_14 F N Q k1 l t L)
def q_heap_Heap_down_12a (N : Nat → Nat) : ACode := (.reg [⟨.t 26, none, .mv, [.l 5]⟩, ⟨.t 27, none, .bin .add, [.t 26, .c (.i .i64 1)]⟩, ⟨.l 7, none, .mv, [.t 27]⟩])
def q_heap_Heap_down_12 (N : Nat → Nat) : ACode := (.seq (q_heap_Heap_down_12a N) (q_heap_Heap_down_13 N))
noncomputable def D_heap_Heap_down_12 (F : Nat → Option AFn) (N : Nat → Nat) (Q : AV → Lg → Prop) (k1 : Env → Lg → Prop) (l : Env) (L : Lg) : Prop :=
 wpOp F (.bin .add) [(l 5), (.i .i64 1)] L fun v1 L1 =>
 D_heap_Heap_down_14 F N Q k1 (Env.put l 7 v1) L1
theorem e_heap_Heap_down_12 (F : Nat → Option AFn) (N : Nat → Nat) (Q : AV → Lg → Prop) (k1 : Env → Lg → Prop) (l t : Env) (L : Lg) : wp F (q_heap_Heap_down_12 N) l t L (fun (l t : Env) (L : Lg) => D_heap_Heap_down_11 F N Q k1 l L) (fun (j : Nat) (l t : Env) (L : Lg) => bif Nat.beq j 1 then (fun (l _ : Env) (L : Lg) => k1 l L) l t L else (fun (j : Nat) (l t : Env) (L : Lg) => bif Nat.beq j 0 then (fun (l t : Env) (L : Lg) => D_heap_Heap_down_3 F N Q (l 0) (l 1) (l 4) L) l t L else (fun _ _ _ _ => False) j l t L) j l t L) (fin [] Q) = D_heap_Heap_down_12 F N Q k1 l L := Eq.trans (wpq_seq F (q_heap_Heap_down_12a N) (q_heap_Heap_down_13 N) l t L (fun (l t : Env) (L : Lg) => D_heap_Heap_down_11 F N Q k1 l L) (fun (j : Nat) (l t : Env) (L : Lg) => bif Nat.beq j 1 then (fun (l _ : Env) (L : Lg) => k1 l L) l t L else (fun (j : Nat) (l t : Env) (L : Lg) => bif Nat.beq j 0 then (fun (l t : Env) (L : Lg) => D_heap_Heap_down_3 F N Q (l 0) (l 1) (l 4) L) l t L else (fun _ _ _ _ => False) j l t L) j l t L) (fin [] Q)) (Eq.trans (congrArg (fun Z : Kn => wp F (q_heap_Heap_down_12a N) l t L Z (fun (j : Nat) (l t : Env) (L : Lg) => bif Nat.beq j 1 then (fun (l _ : Env) (L : Lg) => k1 l L) l t L else (fun (j : Nat) (l t : Env) (L : Lg) => bif Nat.beq j 0 then (fun (l t : Env) (L : Lg) => D_heap_Heap_down_3 F N Q (l 0) (l 1) (l 4) L) l t L else (fun _ _ _ _ => False) j l t L) j l t L) (fin [] Q)) (funext fun l => funext fun t => funext fun L => e_heap_Heap_down_13 F N Q k1 l t L)) (by kernel_rfl))
def q_heap_Heap_down_10 (N : Nat → Nat) : ACode := (.seq (q_heap_Heap_down_12 N) (q_heap_Heap_down_11 N))
theorem e_heap_Heap_down_10 (F : Nat → Option AFn) (N : Nat → Nat) (Q : AV → Lg → Prop) (k1 : Env → Lg → Prop) (l t : Env) (L : Lg) : wp F (q_heap_Heap_down_10 N) l t L (fun (l _ : Env) (L : Lg) => k1 l L) (fun (j : Nat) (l t : Env) (L : Lg) => bif Nat.beq j 1 then (fun (l _ : Env) (L : Lg) => k1 l L) l t L else (fun (j : Nat) (l t : Env) (L : Lg) => bif Nat.beq j 0 then (fun (l t : Env) (L : Lg) => D_heap_Heap_down_3 F N Q (l 0) (l 1) (l 4) L) l t L else (fun _ _ _ _ => False) j l t L) j l t L) (fin [] Q) = D_heap_Heap_down_12 F N Q k1 l L := Eq.trans (wpq_seq F (q_heap_Heap_down_12 N) (q_heap_Heap_down_11 N) l t L (fun (l _ : Env) (L : Lg) => k1 l L) (fun (j : Nat) (l t : Env) (L : Lg) => bif Nat.beq j 1 then (fun (l _ : Env) (L : Lg) => k1 l L) l t L else (fun (j : Nat) (l t : Env) (L : Lg) => bif Nat.beq j 0 then (fun (l t : Env) (L : Lg) => D_heap_Heap_down_3 F N Q (l 0) (l 1) (l 4) L) l t L else (fun _ _ _ _ => False) j l t L) j l t L) (fin [] Q)) (Eq.trans (congrArg (fun Z : Kn => wp F (q_heap_Heap_down_12 N) l t L Z (fun (j : Nat) (l t : Env) (L : Lg) => bif Nat.beq j 1 then (fun (l _ : Env) (L : Lg) => k1 l L) l t L else (fun (j : Nat) (l t : Env) (L : Lg) => bif Nat.beq j 0 then (fun (l t : Env) (L : Lg) => D_heap_Heap_down_3 F N Q (l 0) (l 1) (l 4) L) l t L else (fun _ _ _ _ => False) j l t L) j l t L) (fin [] Q)) (funext fun l => funext fun t => funext fun L => e_heap_Heap_down_11 F N Q k1 l t L)) (e_heap_Heap_down_12 F N Q k1 l t L))
def q_heap_Heap_down_9a (N : Nat → Nat) : ACode := (.reg [⟨.t 25, none, .mv, [.l 5]⟩, ⟨.l 6, none, .mv, [.t 25]⟩])
def q_heap_Heap_down_9 (N : Nat → Nat) : ACode := (.seq (q_heap_Heap_down_9a N) (q_heap_Heap_down_10 N))
noncomputable def D_heap_Heap_down_9 (F : Nat → Option AFn) (N : Nat → Nat) (Q : AV → Lg → Prop) (k1 : Env → Lg → Prop) (l : Env) (L : Lg) : Prop :=
 D_heap_Heap_down_12 F N Q k1 (Env.put l 6 (l 5)) L
theorem e_heap_Heap_down_9 (F : Nat → Option AFn) (N : Nat → Nat) (Q : AV → Lg → Prop) (k1 : Env → Lg → Prop) (l t : Env) (L : Lg) : wp F (q_heap_Heap_down_9 N) l t L (fun (l _ : Env) (L : Lg) => k1 l L) (fun (j : Nat) (l t : Env) (L : Lg) => bif Nat.beq j 1 then (fun (l _ : Env) (L : Lg) => k1 l L) l t L else (fun (j : Nat) (l t : Env) (L : Lg) => bif Nat.beq j 0 then (fun (l t : Env) (L : Lg) => D_heap_Heap_down_3 F N Q (l 0) (l 1) (l 4) L) l t L else (fun _ _ _ _ => False) j l t L) j l t L) (fin [] Q) = D_heap_Heap_down_9 F N Q k1 l L := Eq.trans (wpq_seq F (q_heap_Heap_down_9a N) (q_heap_Heap_down_10 N) l t L (fun (l _ : Env) (L : Lg) => k1 l L) (fun (j : Nat) (l t : Env) (L : Lg) => bif Nat.beq j 1 then (fun (l _ : Env) (L : Lg) => k1 l L) l t L else (fun (j : Nat) (l t : Env) (L : Lg) => bif Nat.beq j 0 then (fun (l t : Env) (L : Lg) => D_heap_Heap_down_3 F N Q (l 0) (l 1) (l 4) L) l t L else (fun _ _ _ _ => False) j l t L) j l t L) (fin [] Q)) (Eq.trans (congrArg (fun Z : Kn => wp F (q_heap_Heap_down_9a N) l t L Z (fun (j : Nat) (l t : Env) (L : Lg) => bif Nat.beq j 1 then (fun (l _ : Env) (L : Lg) => k1 l L) l t L else (fun (j : Nat) (l t : Env) (L : Lg) => bif Nat.beq j 0 then (fun (l t : Env) (L : Lg) => D_heap_Heap_down_3 F N Q (l 0) (l 1) (l 4) L) l t L else (fun _ _ _ _ => False) j l t L) j l t L) (fin [] Q)) (funext fun l => funext fun t => funext fun L => e_heap_Heap_down_10 F N Q k1 l t L)) (by kernel_rfl))
def q_heap_Heap_down_8a (N : Nat → Nat) : ACode := (.seq (.reg [⟨.t 18, none, .mv, [.l 5]⟩, ⟨.t 19, none, .mv, [.l 0]⟩, ⟨.t 20, none, .nilchk, [.t 19]⟩, ⟨.t 21, none, .fad 0, [.t 20]⟩, ⟨.t 22, none, .ld none, [.t 21]⟩, ⟨.t 23, none, .lenSl, [.t 22]⟩, ⟨.t 24, none, .bin .geq, [.t 18, .t 23]⟩]) (.cond (.t 24) (.exit 0) .skip))
def q_heap_Heap_down_8 (N : Nat → Nat) : ACode := (.seq (q_heap_Heap_down_8a N) (q_heap_Heap_down_9 N))
noncomputable def D_heap_Heap_down_8 (F : Nat → Option AFn) (N : Nat → Nat) (Q : AV → Lg → Prop) (k1 : Env → Lg → Prop) (l : Env) (L : Lg) : Prop :=
 wpOp F .nilchk [(l 0)] L fun v1 L1 =>
 wpOp F (.fad 0) [v1] L1 fun v2 L2 =>
 wpOp F (.ld none) [v2] L2 fun v3 L3 =>
 wpOp F .lenSl [v3] L3 fun v4 L4 =>
 wpOp F (.bin .geq) [(l 5), v4] L4 fun v5 L5 =>
 condW v5
 (D_heap_Heap_down_3 F N Q (l 0) (l 1) (l 4) L5)
 (D_heap_Heap_down_9 F N Q k1 l L5)
theorem e_heap_Heap_down_8 (F : Nat → Option AFn) (N : Nat → Nat) (Q : AV → Lg → Prop) (k1 : Env → Lg → Prop) (l t : Env) (L : Lg) : wp F (q_heap_Heap_down_8 N) l t L (fun (l _ : Env) (L : Lg) => k1 l L) (fun (j : Nat) (l t : Env) (L : Lg) => bif Nat.beq j 1 then (fun (l _ : Env) (L : Lg) => k1 l L) l t L else (fun (j : Nat) (l t : Env) (L : Lg) => bif Nat.beq j 0 then (fun (l t : Env) (L : Lg) => D_heap_Heap_down_3 F N Q (l 0) (l 1) (l 4) L) l t L else (fun _ _ _ _ => False) j l t L) j l t L) (fin [] Q) = D_heap_Heap_down_8 F N Q k1 l L := Eq.trans (wpq_seq F (q_heap_Heap_down_8a N) (q_heap_Heap_down_9 N) l t L (fun (l _ : Env) (L : Lg) => k1 l L) (fun (j : Nat) (l t : Env) (L : Lg) => bif Nat.beq j 1 then (fun (l _ : Env) (L : Lg) => k1 l L) l t L else (fun (j : Nat) (l t : Env) (L : Lg) => bif Nat.beq j 0 then (fun (l t : Env) (L : Lg) => D_heap_Heap_down_3 F N Q (l 0) (l 1) (l 4) L) l t L else (fun _ _ _ _ => False) j l t L) j l t L) (fin [] Q)) (Eq.trans (congrArg (fun Z : Kn => wp F (q_heap_Heap_down_8a N) l t L Z (fun (j : Nat) (l t : Env) (L : Lg) => bif Nat.beq j 1 then (fun (l _ : Env) (L : Lg) => k1 l L) l t L else (fun (j : Nat) (l t : Env) (L : Lg) => bif Nat.beq j 0 then (fun (l t : Env) (L : Lg) => D_heap_Heap_down_3 F N Q (l 0) (l 1) (l 4) L) l t L else (fun _ _ _ _ => False) j l t L) j l t L) (fin [] Q)) (funext fun l => funext fun t => funext fun L => e_heap_Heap_down_9 F N Q k1 l t L)) (by kernel_rfl))
def q_heap_Heap_down_7a (N : Nat → Nat) : ACode := (.reg [⟨.t 15, none, .mv, [.l 1]⟩, ⟨.t 16, none, .bin .mul, [.c (.i .i64 4), .t 15]⟩, ⟨.t 17, none, .bin .add, [.t 16, .c (.i .i64 1)]⟩, ⟨.l 5, none, .mv, [.t 17]⟩])
def q_heap_Heap_down_7 (N : Nat → Nat) : ACode := (.seq (q_heap_Heap_down_7a N) (q_heap_Heap_down_8 N))
noncomputable def D_heap_Heap_down_7 (F : Nat → Option AFn) (N : Nat → Nat) (Q : AV → Lg → Prop) (k1 : Env → Lg → Prop) (l : Env) (L : Lg) : Prop :=
 wpOp F (.bin .mul) [(.i .i64 4), (l 1)] L fun v1 L1 =>
 wpOp F (.bin .add) [v1, (.i .i64 1)] L1 fun v2 L2 =>
 D_heap_Heap_down_8 F N Q k1 (Env.put l 5 v2) L2
theorem e_heap_Heap_down_7 (F : Nat → Option AFn) (N : Nat → Nat) (Q : AV → Lg → Prop) (k1 : Env → Lg → Prop) (l t : Env) (L : Lg) : wp F (q_heap_Heap_down_7 N) l t L (fun (l _ : Env) (L : Lg) => k1 l L) (fun (j : Nat) (l t : Env) (L : Lg) => bif Nat.beq j 1 then (fun (l _ : Env) (L : Lg) => k1 l L) l t L else (fun (j : Nat) (l t : Env) (L : Lg) => bif Nat.beq j 0 then (fun (l t : Env) (L : Lg) => D_heap_Heap_down_3 F N Q (l 0) (l 1) (l 4) L) l t L else (fun _ _ _ _ => False) j l t L) j l t L) (fin [] Q) = D_heap_Heap_down_7 F N Q k1 l L := Eq.trans (wpq_seq F (q_heap_Heap_down_7a N) (q_heap_Heap_down_8 N) l t L (fun (l _ : Env) (L : Lg) => k1 l L) (fun (j : Nat) (l t : Env) (L : Lg) => bif Nat.beq j 1 then (fun (l _ : Env) (L : Lg) => k1 l L) l t L else (fun (j : Nat) (l t : Env) (L : Lg) => bif Nat.beq j 0 then (fun (l t : Env) (L : Lg) => D_heap_Heap_down_3 F N Q (l 0) (l 1) (l 4) L) l t L else (fun _ _ _ _ => False) j l t L) j l t L) (fin [] Q)) (Eq.trans (congrArg (fun Z : Kn => wp F (q_heap_Heap_down_7a N) l t L Z (fun (j : Nat) (l t : Env) (L : Lg) => bif Nat.beq j 1 then (fun (l _ : Env) (L : Lg) => k1 l L) l t L else (fun (j : Nat) (l t : Env) (L : Lg) => bif Nat.beq j 0 then (fun (l t : Env) (L : Lg) => D_heap_Heap_down_3 F N Q (l 0) (l 1) (l 4) L) l t L else (fun _ _ _ _ => False) j l t L) j l t L) (fin [] Q)) (funext fun l => funext fun t => funext fun L => e_heap_Heap_down_8 F N Q k1 l t L)) (by kernel_rfl))
def q_heap_Heap_down_6 (N : Nat → Nat) : ACode := (.block 1 (q_heap_Heap_down_7 N))
theorem e_heap_Heap_down_6 (F : Nat → Option AFn) (N : Nat → Nat) (Q : AV → Lg → Prop) (k1 : Env → Lg → Prop) (l t : Env) (L : Lg) : wp F (q_heap_Heap_down_6 N) l t L (fun (l _ : Env) (L : Lg) => k1 l L) (fun (j : Nat) (l t : Env) (L : Lg) => bif Nat.beq j 0 then (fun (l t : Env) (L : Lg) => D_heap_Heap_down_3 F N Q (l 0) (l 1) (l 4) L) l t L else (fun _ _ _ _ => False) j l t L) (fin [] Q) = D_heap_Heap_down_7 F N Q k1 l L := Eq.trans (wpq_block F 1 (q_heap_Heap_down_7 N) l t L (fun (l _ : Env) (L : Lg) => k1 l L) (fun (j : Nat) (l t : Env) (L : Lg) => bif Nat.beq j 0 then (fun (l t : Env) (L : Lg) => D_heap_Heap_down_3 F N Q (l 0) (l 1) (l 4) L) l t L else (fun _ _ _ _ => False) j l t L) (fin [] Q)) (e_heap_Heap_down_7 F N Q k1 l t L)
def q_heap_Heap_down_5 (N : Nat → Nat) : ACode := (.loop (q_heap_Heap_down_6 N))
noncomputable def D_heap_Heap_down_5 (F : Nat → Option AFn) (N : Nat → Nat) (Q : AV → Lg → Prop) (l : Env) (L : Lg) : Prop :=
 loopW (fun l t L k1 => D_heap_Heap_down_7 F N Q k1 l L) l L
theorem e_heap_Heap_down_5 (F : Nat → Option AFn) (N : Nat → Nat) (Q : AV → Lg → Prop) (l t : Env) (L : Lg) : wp F (q_heap_Heap_down_5 N) l t L (fun (l t : Env) (L : Lg) => D_heap_Heap_down_3 F N Q (l 0) (l 1) (l 4) L) (fun (j : Nat) (l t : Env) (L : Lg) => bif Nat.beq j 0 then (fun (l t : Env) (L : Lg) => D_heap_Heap_down_3 F N Q (l 0) (l 1) (l 4) L) l t L else (fun _ _ _ _ => False) j l t L) (fin [] Q) = D_heap_Heap_down_5 F N Q l L := Eq.trans (wpq_loop F (q_heap_Heap_down_6 N) l t L (fun (l t : Env) (L : Lg) => D_heap_Heap_down_3 F N Q (l 0) (l 1) (l 4) L) (fun (j : Nat) (l t : Env) (L : Lg) => bif Nat.beq j 0 then (fun (l t : Env) (L : Lg) => D_heap_Heap_down_3 F N Q (l 0) (l 1) (l 4) L) l t L else (fun _ _ _ _ => False) j l t L) (fin [] Q)) (Eq.trans (congrArg (fun B => loopW B l L) (funext fun l => funext fun t => funext fun L => funext fun k1 => e_heap_Heap_down_6 F N Q k1 l t L)) (by kernel_rfl))
def q_heap_Heap_down_4 (N : Nat → Nat) : ACode := (.block 0 (q_heap_Heap_down_5 N))
theorem e_heap_Heap_down_4 (F : Nat → Option AFn) (N : Nat → Nat) (Q : AV → Lg → Prop) (l t : Env) (L : Lg) : wp F (q_heap_Heap_down_4 N) l t L (fun (l t : Env) (L : Lg) => D_heap_Heap_down_3 F N Q (l 0) (l 1) (l 4) L) (fun _ _ _ _ => False) (fin [] Q) = D_heap_Heap_down_5 F N Q l L := Eq.trans (wpq_block F 0 (q_heap_Heap_down_5 N) l t L (fun (l t : Env) (L : Lg) => D_heap_Heap_down_3 F N Q (l 0) (l 1) (l 4) L) (fun _ _ _ _ => False) (fin [] Q)) (e_heap_Heap_down_5 F N Q l t L)
def q_heap_Heap_down_2 (N : Nat → Nat) : ACode := (.seq (q_heap_Heap_down_4 N) (q_heap_Heap_down_3 N))
theorem e_heap_Heap_down_2 (F : Nat → Option AFn) (N : Nat → Nat) (Q : AV → Lg → Prop) (l t : Env) (L : Lg) : wp F (q_heap_Heap_down_2 N) l t L (fin [] Q) (fun _ _ _ _ => False) (fin [] Q) = D_heap_Heap_down_5 F N Q l L := Eq.trans (wpq_seq F (q_heap_Heap_down_4 N) (q_heap_Heap_down_3 N) l t L (fin [] Q) (fun _ _ _ _ => False) (fin [] Q)) (Eq.trans (congrArg (fun Z : Kn => wp F (q_heap_Heap_down_4 N) l t L Z (fun _ _ _ _ => False) (fin [] Q)) (funext fun l => funext fun t => funext fun L => e_heap_Heap_down_3 F N Q l t L)) (e_heap_Heap_down_4 F N Q l t L))
def q_heap_Heap_down_1a (N : Nat → Nat) : ACode := (.reg [⟨.t 8, none, .mv, [.l 0]⟩, ⟨.t 9, none, .nilchk, [.t 8]⟩, ⟨.t 10, none, .fad 0, [.t 9]⟩, ⟨.t 11, none, .ld none, [.t 10]⟩, ⟨.t 12, none, .mv, [.l 1]⟩, ⟨.t 13, none, .iad 3, [.t 11, .t 12]⟩, ⟨.t 14, none, .ld (some 3), [.t 13]⟩, ⟨.l 4, none, .alloc [.i .i64 0, .i .i64 0, .i .i64 0], []⟩, ⟨.no, none, .st 3, [.l 4, .t 14]⟩])
def q_heap_Heap_down_1 (N : Nat → Nat) : ACode := (.seq (q_heap_Heap_down_1a N) (q_heap_Heap_down_2 N))
noncomputable def D_heap_Heap_down_1 (F : Nat → Option AFn) (N : Nat → Nat) (Q : AV → Lg → Prop) (l : Env) (L : Lg) : Prop :=
 wpOp F .nilchk [(l 0)] L fun v1 L1 =>
 wpOp F (.fad 0) [v1] L1 fun v2 L2 =>
 wpOp F (.ld none) [v2] L2 fun v3 L3 =>
 wpOp F (.iad 3) [v3, (l 1)] L3 fun v4 L4 =>
 wpOp F (.ld (some 3)) [v4] L4 fun v5 L5 =>
 wpOp F (.alloc [.i .i64 0, .i .i64 0, .i .i64 0]) [] L5 fun v6 L6 =>
 wpOp F (.st 3) [v6, v5] L6 fun _ L7 =>
 D_heap_Heap_down_5 F N Q (Env.put l 4 v6) L7
theorem e_heap_Heap_down_1 (F : Nat → Option AFn) (N : Nat → Nat) (Q : AV → Lg → Prop) (l t : Env) (L : Lg) : wp F (q_heap_Heap_down_1 N) l t L (fin [] Q) (fun _ _ _ _ => False) (fin [] Q) = D_heap_Heap_down_1 F N Q l L := Eq.trans (wpq_seq F (q_heap_Heap_down_1a N) (q_heap_Heap_down_2 N) l t L (fin [] Q) (fun _ _ _ _ => False) (fin [] Q)) (Eq.trans (congrArg (fun Z : Kn => wp F (q_heap_Heap_down_1a N) l t L Z (fun _ _ _ _ => False) (fin [] Q)) (funext fun l => funext fun t => funext fun L => e_heap_Heap_down_2 F N Q l t L)) (by kernel_rfl))
/-- (*tarpaulin/heap.Heap).down -/
def c_heap_Heap_down (N : Nat → Nat) : AFn := ⟨q_heap_Heap_down_1 N, []⟩
structure H_heap_Heap_down (N : Nat → Nat) (F : Nat → Option AFn) : Prop where
  code : F (N k_heap_Heap_down) = some (c_heap_Heap_down N)
  heap_ahead : H_heap_ahead N F
  heap_Heap_put : H_heap_Heap_put N F
theorem r_heap_Heap_down {F : Nat → Option AFn} {N : Nat → Nat} (h : F (N k_heap_Heap_down) = some (c_heap_Heap_down N)) {Q : AV → Lg → Prop} {a0 a1 : AV} {L : Lg} (e : D_heap_Heap_down_1 F N Q (initE [a0, a1] 0) L) : CallL F (N k_heap_Heap_down) [a0, a1] L Q :=
  CallL.of_wp h (Eq.mpr (Eq.trans (e_heap_Heap_down_1 F N Q (initE [a0, a1] 0) Env.nil L) (by kernel_rfl : _ = D_heap_Heap_down_1 F N Q (initE [a0, a1] 0) L)) e)
def q_heap_Heap_Remove_7 (N : Nat → Nat) : ACode := (.seq (.reg [⟨.t 48, none, .mv, [.l 0]⟩, ⟨.t 49, none, .nilchk, [.t 48]⟩, ⟨.t 50, none, .fad 1, [.t 49]⟩, ⟨.t 51, none, .ld none, [.t 50]⟩, ⟨.t 52, none, .mv, [.l 1]⟩, ⟨.no, none, .mdel, [.t 51, .t 52]⟩]) (.seq (.seq (.reg [⟨.t 53, none, .mv, [.l 8]⟩, ⟨.t 54, none, .mv, [.l 9]⟩, ⟨.t 55, none, .bin .lss, [.t 53, .t 54]⟩]) (.cond (.t 55) (.seq (.reg [⟨.t 56, none, .mv, [.l 0]⟩, ⟨.t 57, none, .mv, [.l 8]⟩, ⟨.t 58, none, .ld (some 3), [.l 10]⟩, ⟨.t 59, none, .call (N k_heap_Heap_put), [.t 56, .t 57, .t 58]⟩]) (.seq (.reg [⟨.t 60, none, .mv, [.l 0]⟩, ⟨.t 61, none, .mv, [.l 8]⟩, ⟨.t 62, none, .call (N k_heap_Heap_up), [.t 60, .t 61]⟩]) (.reg [⟨.t 63, none, .mv, [.l 0]⟩, ⟨.t 64, none, .mv, [.l 0]⟩, ⟨.t 65, none, .nilchk, [.t 64]⟩, ⟨.t 66, none, .fad 1, [.t 65]⟩, ⟨.t 67, none, .ld none, [.t 66]⟩, ⟨.t 68, none, .fad 0, [.l 10]⟩, ⟨.t 69, none, .ld none, [.t 68]⟩, ⟨.t 70, none, .lkup (.i .i64 0) false, [.t 67, .t 69]⟩, ⟨.t 71, none, .call (N k_heap_Heap_down), [.t 63, .t 70]⟩]))) .skip)) (.seq (.reg [⟨.t 72, none, .ld (some 3), [.l 6]⟩, ⟨.no, none, .st 3, [.l 4, .t 72]⟩, ⟨.l 5, none, .mv, [.c (.b true)]⟩]) .ret)))
noncomputable def D_heap_Heap_Remove_7 (F : Nat → Option AFn) (N : Nat → Nat) (Q : AV → Lg → Prop) (x0 : AV) (x1 : AV) (x4 : AV) (x6 : AV) (x8 : AV) (x9 : AV) (x10 : AV) (L : Lg) : Prop :=
 wpOp F .nilchk [x0] L fun v1 L1 =>
 wpOp F (.fad 1) [v1] L1 fun v2 L2 =>
 wpOp F (.ld none) [v2] L2 fun v3 L3 =>
 wpOp F .mdel [v3, x1] L3 fun _ L4 =>
 wpOp F (.bin .lss) [x8, x9] L4 fun v5 L5 =>
 condW v5
 (wpOp F (.ld (some 3)) [x10] L5 fun v6 L6 =>
 CallL F (N k_heap_Heap_put) [x0, x8, v6] L6 fun v7 L7 =>
 CallL F (N k_heap_Heap_up) [x0, x8] L7 fun v8 L8 =>
 wpOp F .nilchk [x0] L8 fun v9 L9 =>
 wpOp F (.fad 1) [v9] L9 fun v10 L10 =>
 wpOp F (.ld none) [v10] L10 fun v11 L11 =>
 wpOp F (.fad 0) [x10] L11 fun v12 L12 =>
 wpOp F (.ld none) [v12] L12 fun v13 L13 =>
 wpOp F (.lkup (.i .i64 0) false) [v11, v13] L13 fun v14 L14 =>
 CallL F (N k_heap_Heap_down) [x0, v14] L14 fun v15 L15 =>
 wpOp F (.ld (some 3)) [x6] L15 fun v16 L16 =>
 wpOp F (.st 3) [x4, v16] L16 fun _ L17 =>
 fin1 (resVL Env.nil Env.nil L17 [.cell (.c x4) (some 3), .tmp (.c (.b true))]) Q L17)
 (wpOp F (.ld (some 3)) [x6] L5 fun v18 L18 =>
 wpOp F (.st 3) [x4, v18] L18 fun _ L19 =>
 fin1 (resVL Env.nil Env.nil L19 [.cell (.c x4) (some 3), .tmp (.c (.b true))]) Q L19)
theorem e_heap_Heap_Remove_7 (F : Nat → Option AFn) (N : Nat → Nat) (Q : AV → Lg → Prop) (l t : Env) (L : Lg) : wp F (q_heap_Heap_Remove_7 N) l t L (fin [.cell (.l 4) (some 3), .tmp (.l 5)] Q) (fun _ _ _ _ => False) (fin [.cell (.l 4) (some 3), .tmp (.l 5)] Q) = D_heap_Heap_Remove_7 F N Q (l 0) (l 1) (l 4) (l 6) (l 8) (l 9) (l 10) L := by kernel_rfl
def q_heap_Heap_Remove_6a (N : Nat → Nat) : ACode := (.reg [⟨.t 39, none, .mv, [.l 0]⟩, ⟨.t 40, none, .mv, [.l 0]⟩, ⟨.t 41, none, .nilchk, [.t 40]⟩, ⟨.t 42, none, .fad 0, [.t 41]⟩, ⟨.t 43, none, .ld none, [.t 42]⟩, ⟨.t 44, none, .mv, [.l 9]⟩, ⟨.t 45, none, .slc 3 false true false, [.t 43, .t 44]⟩, ⟨.t 46, none, .nilchk, [.t 39]⟩, ⟨.t 47, none, .fad 0, [.t 46]⟩, ⟨.no, none, .st 1, [.t 47, .t 45]⟩])
def q_heap_Heap_Remove_6 (N : Nat → Nat) : ACode := (.seq (q_heap_Heap_Remove_6a N) (q_heap_Heap_Remove_7 N))
noncomputable def D_heap_Heap_Remove_6 (F : Nat → Option AFn) (N : Nat → Nat) (Q : AV → Lg → Prop) (x0 : AV) (x1 : AV) (x4 : AV) (x6 : AV) (x8 : AV) (x9 : AV) (x10 : AV) (L : Lg) : Prop :=
 wpOp F .nilchk [x0] L fun v1 L1 =>
 wpOp F (.fad 0) [v1] L1 fun v2 L2 =>
 wpOp F (.ld none) [v2] L2 fun v3 L3 =>
 wpOp F (.slc 3 false true false) [v3, x9] L3 fun v4 L4 =>
 wpOp F .nilchk [x0] L4 fun v5 L5 =>
 wpOp F (.fad 0) [v5] L5 fun v6 L6 =>
 wpOp F (.st 1) [v6, v4] L6 fun _ L7 =>
 D_heap_Heap_Remove_7 F N Q x0 x1 x4 x6 x8 x9 x10 L7
theorem e_heap_Heap_Remove_6 (F : Nat → Option AFn) (N : Nat → Nat) (Q : AV → Lg → Prop) (l t : Env) (L : Lg) : wp F (q_heap_Heap_Remove_6 N) l t L (fin [.cell (.l 4) (some 3), .tmp (.l 5)] Q) (fun _ _ _ _ => False) (fin [.cell (.l 4) (some 3), .tmp (.l 5)] Q) = D_heap_Heap_Remove_6 F N Q (l 0) (l 1) (l 4) (l 6) (l 8) (l 9) (l 10) L := Eq.trans (wpq_seq F (q_heap_Heap_Remove_6a N) (q_heap_Heap_Remove_7 N) l t L (fin [.cell (.l 4) (some 3), .tmp (.l 5)] Q) (fun _ _ _ _ => False) (fin [.cell (.l 4) (some 3), .tmp (.l 5)] Q)) (Eq.trans (congrArg (fun Z : Kn => wp F (q_heap_Heap_Remove_6a N) l t L Z (fun _ _ _ _ => False) (fin [.cell (.l 4) (some 3), .tmp (.l 5)] Q)) (funext fun l => funext fun t => funext fun L => e_heap_Heap_Remove_7 F N Q l t L)) (by kernel_rfl))
def q_heap_Heap_Remove_5a (N : Nat → Nat) : ACode := (.reg [⟨.t 32, none, .mv, [.l 0]⟩, ⟨.t 33, none, .nilchk, [.t 32]⟩, ⟨.t 34, none, .fad 0, [.t 33]⟩, ⟨.t 35, none, .ld none, [.t 34]⟩, ⟨.t 36, none, .mv, [.l 9]⟩, ⟨.t 37, none, .iad 3, [.t 35, .t 36]⟩, ⟨.t 38, none, .ld (some 3), [.t 37]⟩, ⟨.l 10, none, .alloc [.i .i64 0, .i .i64 0, .i .i64 0], []⟩, ⟨.no, none, .st 3, [.l 10, .t 38]⟩])
def q_heap_Heap_Remove_5 (N : Nat → Nat) : ACode := (.seq (q_heap_Heap_Remove_5a N) (q_heap_Heap_Remove_6 N))
noncomputable def D_heap_Heap_Remove_5 (F : Nat → Option AFn) (N : Nat → Nat) (Q : AV → Lg → Prop) (x0 : AV) (x1 : AV) (x4 : AV) (x6 : AV) (x8 : AV) (x9 : AV) (L : Lg) : Prop :=
 wpOp F .nilchk [x0] L fun v1 L1 =>
 wpOp F (.fad 0) [v1] L1 fun v2 L2 =>
 wpOp F (.ld none) [v2] L2 fun v3 L3 =>
 wpOp F (.iad 3) [v3, x9] L3 fun v4 L4 =>
 wpOp F (.ld (some 3)) [v4] L4 fun v5 L5 =>
 wpOp F (.alloc [.i .i64 0, .i .i64 0, .i .i64 0]) [] L5 fun v6 L6 =>
 wpOp F (.st 3) [v6, v5] L6 fun _ L7 =>
 D_heap_Heap_Remove_6 F N Q x0 x1 x4 x6 x8 x9 v6 L7
theorem e_heap_Heap_Remove_5 (F : Nat → Option AFn) (N : Nat → Nat) (Q : AV → Lg → Prop) (l t : Env) (L : Lg) : wp F (q_heap_Heap_Remove_5 N) l t L (fin [.cell (.l 4) (some 3), .tmp (.l 5)] Q) (fun _ _ _ _ => False) (fin [.cell (.l 4) (some 3), .tmp (.l 5)] Q) = D_heap_Heap_Remove_5 F N Q (l 0) (l 1) (l 4) (l 6) (l 8) (l 9) L := Eq.trans (wpq_seq F (q_heap_Heap_Remove_5a N) (q_heap_Heap_Remove_6 N) l t L (fin [.cell (.l 4) (some 3), .tmp (.l 5)] Q) (fun _ _ _ _ => False) (fin [.cell (.l 4) (some 3), .tmp (.l 5)] Q)) (Eq.trans (congrArg (fun Z : Kn => wp F (q_heap_Heap_Remove_5a N) l t L Z (fun _ _ _ _ => False) (fin [.cell (.l 4) (some 3), .tmp (.l 5)] Q)) (funext fun l => funext fun t => funext fun L => e_heap_Heap_Remove_6 F N Q l t L)) (by kernel_rfl))
def q_heap_Heap_Remove_4a (N : Nat → Nat) : ACode := (.reg [⟨.t 20, none, .mv, [.l 0]⟩, ⟨.t 21, none, .nilchk, [.t 20]⟩, ⟨.t 22, none, .fad 1, [.t 21]⟩, ⟨.t 23, none, .ld none, [.t 22]⟩, ⟨.t 24, none, .mv, [.l 1]⟩, ⟨.t 25, none, .lkup (.i .i64 0) false, [.t 23, .t 24]⟩, ⟨.t 26, none, .mv, [.l 0]⟩, ⟨.t 27, none, .nilchk, [.t 26]⟩, ⟨.t 28, none, .fad 0, [.t 27]⟩, ⟨.t 29, none, .ld none, [.t 28]⟩, ⟨.t 30, none, .lenSl, [.t 29]⟩, ⟨.t 31, none, .bin .sub, [.t 30, .c (.i .i64 1)]⟩, ⟨.l 8, none, .mv, [.t 25]⟩, ⟨.l 9, none, .mv, [.t 31]⟩])
def q_heap_Heap_Remove_4 (N : Nat → Nat) : ACode := (.seq (q_heap_Heap_Remove_4a N) (q_heap_Heap_Remove_5 N))
noncomputable def D_heap_Heap_Remove_4 (F : Nat → Option AFn) (N : Nat → Nat) (Q : AV → Lg → Prop) (x0 : AV) (x1 : AV) (x4 : AV) (x6 : AV) (L : Lg) : Prop :=
 wpOp F .nilchk [x0] L fun v1 L1 =>
 wpOp F (.fad 1) [v1] L1 fun v2 L2 =>
 wpOp F (.ld none) [v2] L2 fun v3 L3 =>
 wpOp F (.lkup (.i .i64 0) false) [v3, x1] L3 fun v4 L4 =>
 wpOp F .nilchk [x0] L4 fun v5 L5 =>
 wpOp F (.fad 0) [v5] L5 fun v6 L6 =>
 wpOp F (.ld none) [v6] L6 fun v7 L7 =>
 wpOp F .lenSl [v7] L7 fun v8 L8 =>
 wpOp F (.bin .sub) [v8, (.i .i64 1)] L8 fun v9 L9 =>
 D_heap_Heap_Remove_5 F N Q x0 x1 x4 x6 v4 v9 L9
theorem e_heap_Heap_Remove_4 (F : Nat → Option AFn) (N : Nat → Nat) (Q : AV → Lg → Prop) (l t : Env) (L : Lg) : wp F (q_heap_Heap_Remove_4 N) l t L (fin [.cell (.l 4) (some 3), .tmp (.l 5)] Q) (fun _ _ _ _ => False) (fin [.cell (.l 4) (some 3), .tmp (.l 5)] Q) = D_heap_Heap_Remove_4 F N Q (l 0) (l 1) (l 4) (l 6) L := Eq.trans (wpq_seq F (q_heap_Heap_Remove_4a N) (q_heap_Heap_Remove_5 N) l t L (fin [.cell (.l 4) (some 3), .tmp (.l 5)] Q) (fun _ _ _ _ => False) (fin [.cell (.l 4) (some 3), .tmp (.l 5)] Q)) (Eq.trans (congrArg (fun Z : Kn => wp F (q_heap_Heap_Remove_4a N) l t L Z (fun _ _ _ _ => False) (fin [.cell (.l 4) (some 3), .tmp (.l 5)] Q)) (funext fun l => funext fun t => funext fun L => e_heap_Heap_Remove_5 F N Q l t L)) (by kernel_rfl))
def q_heap_Heap_Remove_3a (N : Nat → Nat) : ACode := (.seq (.reg [⟨.t 17, none, .mv, [.l 7]⟩, ⟨.t 18, none, .un .not, [.t 17]⟩]) (.cond (.t 18) (.seq (.reg [⟨.t 19, none, .build [.i .i64 0, .i .i64 0, .i .i64 0] [], []⟩, ⟨.no, none, .st 3, [.l 4, .t 19]⟩, ⟨.l 5, none, .mv, [.c (.b false)]⟩]) .ret) .skip))
def q_heap_Heap_Remove_3 (N : Nat → Nat) : ACode := (.seq (q_heap_Heap_Remove_3a N) (q_heap_Heap_Remove_4 N))
noncomputable def D_heap_Heap_Remove_3 (F : Nat → Option AFn) (N : Nat → Nat) (Q : AV → Lg → Prop) (x0 : AV) (x1 : AV) (x4 : AV) (x6 : AV) (x7 : AV) (L : Lg) : Prop :=
 wpOp F (.un .not) [x7] L fun v1 L1 =>
 condW v1
 (wpOp F (.build [.i .i64 0, .i .i64 0, .i .i64 0] []) [] L1 fun v2 L2 =>
 wpOp F (.st 3) [x4, v2] L2 fun _ L3 =>
 fin1 (resVL Env.nil Env.nil L3 [.cell (.c x4) (some 3), .tmp (.c (.b false))]) Q L3)
 (D_heap_Heap_Remove_4 F N Q x0 x1 x4 x6 L1)
theorem e_heap_Heap_Remove_3 (F : Nat → Option AFn) (N : Nat → Nat) (Q : AV → Lg → Prop) (l t : Env) (L : Lg) : wp F (q_heap_Heap_Remove_3 N) l t L (fin [.cell (.l 4) (some 3), .tmp (.l 5)] Q) (fun _ _ _ _ => False) (fin [.cell (.l 4) (some 3), .tmp (.l 5)] Q) = D_heap_Heap_Remove_3 F N Q (l 0) (l 1) (l 4) (l 6) (l 7) L := Eq.trans (wpq_seq F (q_heap_Heap_Remove_3a N) (q_heap_Heap_Remove_4 N) l t L (fin [.cell (.l 4) (some 3), .tmp (.l 5)] Q) (fun _ _ _ _ => False) (fin [.cell (.l 4) (some 3), .tmp (.l 5)] Q)) (Eq.trans (congrArg (fun Z : Kn => wp F (q_heap_Heap_Remove_3a N) l t L Z (fun _ _ _ _ => False) (fin [.cell (.l 4) (some 3), .tmp (.l 5)] Q)) (funext fun l => funext fun t => funext fun L => e_heap_Heap_Remove_4 F N Q l t L)) (by kernel_rfl))
def q_heap_Heap_Remove_2a (N : Nat → Nat) : ACode := (.reg [⟨.t 12, none, .mv, [.l 0]⟩, ⟨.t 13, none, .mv, [.l 1]⟩, ⟨.t 14, none, .call (N k_heap_Heap_Find), [.t 12, .t 13]⟩, ⟨.t 11, none, .mv, [.t 14]⟩, ⟨.t 15, none, .ext 0, [.t 11]⟩, ⟨.t 16, none, .ext 1, [.t 11]⟩, ⟨.l 6, none, .alloc [.i .i64 0, .i .i64 0, .i .i64 0], []⟩, ⟨.no, none, .st 3, [.l 6, .t 15]⟩, ⟨.l 7, none, .mv, [.t 16]⟩])
def q_heap_Heap_Remove_2 (N : Nat → Nat) : ACode := (.seq (q_heap_Heap_Remove_2a N) (q_heap_Heap_Remove_3 N))
noncomputable def D_heap_Heap_Remove_2 (F : Nat → Option AFn) (N : Nat → Nat) (Q : AV → Lg → Prop) (x0 : AV) (x1 : AV) (x4 : AV) (L : Lg) : Prop :=
 CallL F (N k_heap_Heap_Find) [x0, x1] L fun v1 L1 =>
 wpOp F (.ext 0) [v1] L1 fun v2 L2 =>
 wpOp F (.ext 1) [v1] L2 fun v3 L3 =>
 wpOp F (.alloc [.i .i64 0, .i .i64 0, .i .i64 0]) [] L3 fun v4 L4 =>
 wpOp F (.st 3) [v4, v2] L4 fun _ L5 =>
 D_heap_Heap_Remove_3 F N Q x0 x1 x4 v4 v3 L5
theorem e_heap_Heap_Remove_2 (F : Nat → Option AFn) (N : Nat → Nat) (Q : AV → Lg → Prop) (l t : Env) (L : Lg) : wp F (q_heap_Heap_Remove_2 N) l t L (fin [.cell (.l 4) (some 3), .tmp (.l 5)] Q) (fun _ _ _ _ => False) (fin [.cell (.l 4) (some 3), .tmp (.l 5)] Q) = D_heap_Heap_Remove_2 F N Q (l 0) (l 1) (l 4) L := Eq.trans (wpq_seq F (q_heap_Heap_Remove_2a N) (q_heap_Heap_Remove_3 N) l t L (fin [.cell (.l 4) (some 3), .tmp (.l 5)] Q) (fun _ _ _ _ => False) (fin [.cell (.l 4) (some 3), .tmp (.l 5)] Q)) (Eq.trans (congrArg (fun Z : Kn => wp F (q_heap_Heap_Remove_2a N) l t L Z (fun _ _ _ _ => False) (fin [.cell (.l 4) (some 3), .tmp (.l 5)] Q)) (funext fun l => funext fun t => funext fun L => e_heap_Heap_Remove_3 F N Q l t L)) (by kernel_rfl))
def q_heap_Heap_Remove_1a (N : Nat → Nat) : ACode := (.reg [⟨.l 4, none, .alloc [.i .i64 0, .i .i64 0, .i .i64 0], []⟩, ⟨.l 5, none, .mv, [.c (.b false)]⟩])
def q_heap_Heap_Remove_1 (N : Nat → Nat) : ACode := (.seq (q_heap_Heap_Remove_1a N) (q_heap_Heap_Remove_2 N))
noncomputable def D_heap_Heap_Remove_1 (F : Nat → Option AFn) (N : Nat → Nat) (Q : AV → Lg → Prop) (x0 : AV) (x1 : AV) (L : Lg) : Prop :=
 wpOp F (.alloc [.i .i64 0, .i .i64 0, .i .i64 0]) [] L fun v1 L1 =>
 D_heap_Heap_Remove_2 F N Q x0 x1 v1 L1
theorem e_heap_Heap_Remove_1 (F : Nat → Option AFn) (N : Nat → Nat) (Q : AV → Lg → Prop) (l t : Env) (L : Lg) : wp F (q_heap_Heap_Remove_1 N) l t L (fin [.cell (.l 4) (some 3), .tmp (.l 5)] Q) (fun _ _ _ _ => False) (fin [.cell (.l 4) (some 3), .tmp (.l 5)] Q) = D_heap_Heap_Remove_1 F N Q (l 0) (l 1) L := Eq.trans (wpq_seq F (q_heap_Heap_Remove_1a N) (q_heap_Heap_Remove_2 N) l t L (fin [.cell (.l 4) (some 3), .tmp (.l 5)] Q) (fun _ _ _ _ => False) (fin [.cell (.l 4) (some 3), .tmp (.l 5)] Q)) (Eq.trans (congrArg (fun Z : Kn => wp F (q_heap_Heap_Remove_1a N) l t L Z (fun _ _ _ _ => False) (fin [.cell (.l 4) (some 3), .tmp (.l 5)] Q)) (funext fun l => funext fun t => funext fun L => e_heap_Heap_Remove_2 F N Q l t L)) (by kernel_rfl))
/-- (*tarpaulin/heap.Heap).Remove -/
def c_heap_Heap_Remove (N : Nat → Nat) : AFn := ⟨q_heap_Heap_Remove_1 N, [.cell (.l 4) (some 3), .tmp (.l 5)]⟩
structure H_heap_Heap_Remove (N : Nat → Nat) (F : Nat → Option AFn) : Prop where
  code : F (N k_heap_Heap_Remove) = some (c_heap_Heap_Remove N)
  heap_Heap_Find : H_heap_Heap_Find N F
  heap_Heap_put : H_heap_Heap_put N F
  heap_Heap_up : H_heap_Heap_up N F
  heap_Heap_down : H_heap_Heap_down N F
theorem r_heap_Heap_Remove {F : Nat → Option AFn} {N : Nat → Nat} (h : F (N k_heap_Heap_Remove) = some (c_heap_Heap_Remove N)) {Q : AV → Lg → Prop} {a0 a1 : AV} {L : Lg} (e : D_heap_Heap_Remove_1 F N Q a0 a1 L) : CallL F (N k_heap_Heap_Remove) [a0, a1] L Q :=
  CallL.of_wp h (Eq.mpr (Eq.trans (e_heap_Heap_Remove_1 F N Q (initE [a0, a1] 0) Env.nil L) (by kernel_rfl : _ = D_heap_Heap_Remove_1 F N Q a0 a1 L)) e)
def q_expire_Timers_Stop_1 (N : Nat → Nat) : ACode := (.seq (.reg [⟨.l 4, none, .mv, [.c (.b false)]⟩]) (.seq (.seq (.reg [⟨.t 7, none, .mv, [.l 0]⟩, ⟨.t 8, none, .eq false .ptr, [.t 7, .c (.p none)]⟩]) (.cond (.t 8) (.seq (.reg [⟨.l 4, none, .mv, [.c (.b false)]⟩]) .ret) .skip)) (.seq (.reg [⟨.t 10, none, .mv, [.l 0]⟩, ⟨.t 11, none, .nilchk, [.t 10]⟩, ⟨.t 12, none, .fad 0, [.t 11]⟩, ⟨.t 13, none, .ld none, [.t 12]⟩, ⟨.t 14, none, .mv, [.l 1]⟩, ⟨.t 15, none, .call (N k_heap_Heap_Remove), [.t 13, .t 14]⟩, ⟨.t 9, none, .mv, [.t 15]⟩, ⟨.t 16, none, .ext 0, [.t 9]⟩, ⟨.t 17, none, .ext 1, [.t 9]⟩, ⟨.t 5, none, .alloc [.i .i64 0, .i .i64 0, .i .i64 0], []⟩, ⟨.no, none, .st 3, [.t 5, .t 16]⟩, ⟨.l 6, none, .mv, [.t 17]⟩]) (.seq (.reg [⟨.t 18, none, .mv, [.l 0]⟩, ⟨.t 19, none, .nilchk, [.t 18]⟩, ⟨.t 20, none, .fad 1, [.t 19]⟩, ⟨.t 21, none, .ld none, [.t 20]⟩, ⟨.t 22, none, .mv, [.l 1]⟩, ⟨.no, none, .mdel, [.t 21, .t 22]⟩]) (.seq (.reg [⟨.t 23, none, .mv, [.l 6]⟩, ⟨.l 4, none, .mv, [.t 23]⟩]) .ret)))))
noncomputable def D_expire_Timers_Stop_1 (F : Nat → Option AFn) (N : Nat → Nat) (Q : AV → Lg → Prop) (x0 : AV) (x1 : AV) (L : Lg) : Prop :=
 wpOp F (.eq false .ptr) [x0, (.p none)] L fun v1 L1 =>
 condW v1
 (fin1 (some (.b false)) Q L1)
 (wpOp F .nilchk [x0] L1 fun v2 L2 =>
 wpOp F (.fad 0) [v2] L2 fun v3 L3 =>
 wpOp F (.ld none) [v3] L3 fun v4 L4 =>
 CallL F (N k_heap_Heap_Remove) [v4, x1] L4 fun v5 L5 =>
 wpOp F (.ext 0) [v5] L5 fun v6 L6 =>
 wpOp F (.ext 1) [v5] L6 fun v7 L7 =>
 wpOp F (.alloc [.i .i64 0, .i .i64 0, .i .i64 0]) [] L7 fun v8 L8 =>
 wpOp F (.st 3) [v8, v6] L8 fun _ L9 =>
 wpOp F .nilchk [x0] L9 fun v10 L10 =>
 wpOp F (.fad 1) [v10] L10 fun v11 L11 =>
 wpOp F (.ld none) [v11] L11 fun v12 L12 =>
 wpOp F .mdel [v12, x1] L12 fun _ L13 =>
 fin1 (some v7) Q L13)
theorem e_expire_Timers_Stop_1 (F : Nat → Option AFn) (N : Nat → Nat) (Q : AV → Lg → Prop) (l t : Env) (L : Lg) : wp F (q_expire_Timers_Stop_1 N) l t L (fin [.tmp (.l 4)] Q) (fun _ _ _ _ => False) (fin [.tmp (.l 4)] Q) = D_expire_Timers_Stop_1 F N Q (l 0) (l 1) L := by kernel_rfl
/-- (*tarpaulin/expire.Timers).Stop -/
def c_expire_Timers_Stop (N : Nat → Nat) : AFn := ⟨q_expire_Timers_Stop_1 N, [.tmp (.l 4)]⟩
structure H_expire_Timers_Stop (N : Nat → Nat) (F : Nat → Option AFn) : Prop where
  code : F (N k_expire_Timers_Stop) = some (c_expire_Timers_Stop N)
  heap_Heap_Remove : H_heap_Heap_Remove N F
theorem r_expire_Timers_Stop {F : Nat → Option AFn} {N : Nat → Nat} (h : F (N k_expire_Timers_Stop) = some (c_expire_Timers_Stop N)) {Q : AV → Lg → Prop} {a0 a1 : AV} {L : Lg} (e : D_expire_Timers_Stop_1 F N Q a0 a1 L) : CallL F (N k_expire_Timers_Stop) [a0, a1] L Q :=
  CallL.of_wp h (Eq.mpr (Eq.trans (e_expire_Timers_Stop_1 F N Q (initE [a0, a1] 0) Env.nil L) (by kernel_rfl : _ = D_expire_Timers_Stop_1 F N Q a0 a1 L)) e)
def q_heap_Heap_Add_4 (N : Nat → Nat) : ACode := (.seq (.reg [⟨.t 21, none, .mv, [.l 0]⟩, ⟨.t 22, none, .nilchk, [.t 21]⟩, ⟨.t 23, none, .fad 2, [.t 22]⟩, ⟨.t 24, none, .ld none, [.t 23]⟩, ⟨.t 25, none, .bin .add, [.t 24, .c (.i .i64 1)]⟩, ⟨.t 26, none, .nilchk, [.t 21]⟩, ⟨.t 27, none, .fad 2, [.t 26]⟩, ⟨.no, none, .st 1, [.t 27, .t 25]⟩]) (.seq (.reg [⟨.t 28, none, .mv, [.l 0]⟩, ⟨.t 29, none, .mv, [.l 0]⟩, ⟨.t 30, none, .nilchk, [.t 29]⟩, ⟨.t 31, none, .fad 0, [.t 30]⟩, ⟨.t 32, none, .ld none, [.t 31]⟩, ⟨.t 33, none, .mv, [.l 1]⟩, ⟨.t 34, none, .mv, [.l 2]⟩, ⟨.t 35, none, .mv, [.l 0]⟩, ⟨.t 36, none, .nilchk, [.t 35]⟩, ⟨.t 37, none, .fad 2, [.t 36]⟩, ⟨.t 38, none, .ld none, [.t 37]⟩, ⟨.t 39, none, .build [.i .i64 0, .i .i64 0, .i .i64 0] [(0, 1), (1, 1), (2, 1)], [.t 33, .t 34, .t 38]⟩, ⟨.t 40, none, .bslice [.i .i64 0, .i .i64 0, .i .i64 0] 1 3 [0], [.t 39]⟩, ⟨.t 41, none, .app 3 24, [.t 32, .t 40]⟩, ⟨.t 42, none, .nilchk, [.t 28]⟩, ⟨.t 43, none, .fad 0, [.t 42]⟩, ⟨.no, none, .st 1, [.t 43, .t 41]⟩]) (.seq (.reg [⟨.t 44, none, .mv, [.l 0]⟩, ⟨.t 45, none, .mv, [.l 0]⟩, ⟨.t 46, none, .nilchk, [.t 45]⟩, ⟨.t 47, none, .fad 0, [.t 46]⟩, ⟨.t 48, none, .ld none, [.t 47]⟩, ⟨.t 49, none, .lenSl, [.t 48]⟩, ⟨.t 50, none, .bin .sub, [.t 49, .c (.i .i64 1)]⟩, ⟨.t 51, none, .call (N k_heap_Heap_up), [.t 44, .t 50]⟩]) (.seq (.reg [⟨.l 6, none, .mv, [.c (.i .i64 0)]⟩]) .ret))))
noncomputable def D_heap_Heap_Add_4 (F : Nat → Option AFn) (N : Nat → Nat) (Q : AV → Lg → Prop) (x0 : AV) (x1 : AV) (x2 : AV) (L : Lg) : Prop :=
 wpOp F .nilchk [x0] L fun v1 L1 =>
 wpOp F (.fad 2) [v1] L1 fun v2 L2 =>
 wpOp F (.ld none) [v2] L2 fun v3 L3 =>
 wpOp F (.bin .add) [v3, (.i .i64 1)] L3 fun v4 L4 =>
 wpOp F .nilchk [x0] L4 fun v5 L5 =>
 wpOp F (.fad 2) [v5] L5 fun v6 L6 =>
 wpOp F (.st 1) [v6, v4] L6 fun _ L7 =>
 wpOp F .nilchk [x0] L7 fun v8 L8 =>
 wpOp F (.fad 0) [v8] L8 fun v9 L9 =>
 wpOp F (.ld none) [v9] L9 fun v10 L10 =>
 wpOp F .nilchk [x0] L10 fun v11 L11 =>
 wpOp F (.fad 2) [v11] L11 fun v12 L12 =>
 wpOp F (.ld none) [v12] L12 fun v13 L13 =>
 wpOp F (.build [.i .i64 0, .i .i64 0, .i .i64 0] [(0, 1), (1, 1), (2, 1)]) [x1, x2, v13] L13 fun v14 L14 =>
 wpOp F (.bslice [.i .i64 0, .i .i64 0, .i .i64 0] 1 3 [0]) [v14] L14 fun v15 L15 =>
 wpOp F (.app 3 24) [v10, v15] L15 fun v16 L16 =>
 wpOp F .nilchk [x0] L16 fun v17 L17 =>
 wpOp F (.fad 0) [v17] L17 fun v18 L18 =>
 wpOp F (.st 1) [v18, v16] L18 fun _ L19 =>
 wpOp F .nilchk [x0] L19 fun v20 L20 =>
 wpOp F (.fad 0) [v20] L20 fun v21 L21 =>
 wpOp F (.ld none) [v21] L21 fun v22 L22 =>
 wpOp F .lenSl [v22] L22 fun v23 L23 =>
 wpOp F (.bin .sub) [v23, (.i .i64 1)] L23 fun v24 L24 =>
 CallL F (N k_heap_Heap_up) [x0, v24] L24 fun v25 L25 =>
 fin1 (some (.i .i64 0)) Q L25
theorem e_heap_Heap_Add_4 (F : Nat → Option AFn) (N : Nat → Nat) (Q : AV → Lg → Prop) (l t : Env) (L : Lg) : wp F (q_heap_Heap_Add_4 N) l t L (fin [.tmp (.l 6)] Q) (fun _ _ _ _ => False) (fin [.tmp (.l 6)] Q) = D_heap_Heap_Add_4 F N Q (l 0) (l 1) (l 2) L := by kernel_rfl
def q_heap_Heap_Add_3a (N : Nat → Nat) : ACode := (.seq (.reg [⟨.t 12, none, .mv, [.l 0]⟩, ⟨.t 13, none, .nilchk, [.t 12]⟩, ⟨.t 14, none, .fad 1, [.t 13]⟩, ⟨.t 15, none, .ld none, [.t 14]⟩, ⟨.t 16, none, .mv, [.l 1]⟩, ⟨.t 17, none, .lkup (.i .i64 0) true, [.t 15, .t 16]⟩, ⟨.t 11, none, .mv, [.t 17]⟩, ⟨.t 18, none, .ext 0, [.t 11]⟩, ⟨.t 19, none, .ext 1, [.t 11]⟩, ⟨.t 7, none, .mv, [.t 18]⟩, ⟨.l 8, none, .mv, [.t 19]⟩]) (.seq (.reg [⟨.t 20, none, .mv, [.l 8]⟩]) (.cond (.t 20) (.seq (.reg [⟨.l 6, none, .mv, [.c (.i .i64 1)]⟩]) .ret) .skip)))
def q_heap_Heap_Add_3 (N : Nat → Nat) : ACode := (.seq (q_heap_Heap_Add_3a N) (q_heap_Heap_Add_4 N))
noncomputable def D_heap_Heap_Add_3 (F : Nat → Option AFn) (N : Nat → Nat) (Q : AV → Lg → Prop) (x0 : AV) (x1 : AV) (x2 : AV) (L : Lg) : Prop :=
 wpOp F .nilchk [x0] L fun v1 L1 =>
 wpOp F (.fad 1) [v1] L1 fun v2 L2 =>
 wpOp F (.ld none) [v2] L2 fun v3 L3 =>
 wpOp F (.lkup (.i .i64 0) true) [v3, x1] L3 fun v4 L4 =>
 wpOp F (.ext 0) [v4] L4 fun v5 L5 =>
 wpOp F (.ext 1) [v4] L5 fun v6 L6 =>
 condW v6
 (fin1 (some (.i .i64 1)) Q L6)
 (D_heap_Heap_Add_4 F N Q x0 x1 x2 L6)
theorem e_heap_Heap_Add_3 (F : Nat → Option AFn) (N : Nat → Nat) (Q : AV → Lg → Prop) (l t : Env) (L : Lg) : wp F (q_heap_Heap_Add_3 N) l t L (fin [.tmp (.l 6)] Q) (fun _ _ _ _ => False) (fin [.tmp (.l 6)] Q) = D_heap_Heap_Add_3 F N Q (l 0) (l 1) (l 2) L := Eq.trans (wpq_seq F (q_heap_Heap_Add_3a N) (q_heap_Heap_Add_4 N) l t L (fin [.tmp (.l 6)] Q) (fun _ _ _ _ => False) (fin [.tmp (.l 6)] Q)) (Eq.trans (congrArg (fun Z : Kn => wp F (q_heap_Heap_Add_3a N) l t L Z (fun _ _ _ _ => False) (fin [.tmp (.l 6)] Q)) (funext fun l => funext fun t => funext fun L => e_heap_Heap_Add_4 F N Q l t L)) (by kernel_rfl))
def q_heap_Heap_Add_2a (N : Nat → Nat) : ACode := (.seq (.reg [⟨.t 9, none, .mv, [.l 0]⟩, ⟨.t 10, none, .eq false .ptr, [.t 9, .c (.p none)]⟩]) (.cond (.t 10) (.seq (.reg [⟨.l 6, none, .mv, [.c (.i .i64 1)]⟩]) .ret) .skip))
def q_heap_Heap_Add_2 (N : Nat → Nat) : ACode := (.seq (q_heap_Heap_Add_2a N) (q_heap_Heap_Add_3 N))
noncomputable def D_heap_Heap_Add_2 (F : Nat → Option AFn) (N : Nat → Nat) (Q : AV → Lg → Prop) (x0 : AV) (x1 : AV) (x2 : AV) (L : Lg) : Prop :=
 wpOp F (.eq false .ptr) [x0, (.p none)] L fun v1 L1 =>
 condW v1
 (fin1 (some (.i .i64 1)) Q L1)
 (D_heap_Heap_Add_3 F N Q x0 x1 x2 L1)
theorem e_heap_Heap_Add_2 (F : Nat → Option AFn) (N : Nat → Nat) (Q : AV → Lg → Prop) (l t : Env) (L : Lg) : wp F (q_heap_Heap_Add_2 N) l t L (fin [.tmp (.l 6)] Q) (fun _ _ _ _ => False) (fin [.tmp (.l 6)] Q) = D_heap_Heap_Add_2 F N Q (l 0) (l 1) (l 2) L := Eq.trans (wpq_seq F (q_heap_Heap_Add_2a N) (q_heap_Heap_Add_3 N) l t L (fin [.tmp (.l 6)] Q) (fun _ _ _ _ => False) (fin [.tmp (.l 6)] Q)) (Eq.trans (congrArg (fun Z : Kn => wp F (q_heap_Heap_Add_2a N) l t L Z (fun _ _ _ _ => False) (fin [.tmp (.l 6)] Q)) (funext fun l => funext fun t => funext fun L => e_heap_Heap_Add_3 F N Q l t L)) (by kernel_rfl))
def q_heap_Heap_Add_1a (N : Nat → Nat) : ACode := (.reg [⟨.l 6, none, .mv, [.c (.i .i64 0)]⟩])
def q_heap_Heap_Add_1 (N : Nat → Nat) : ACode := (.seq (q_heap_Heap_Add_1a N) (q_heap_Heap_Add_2 N))
noncomputable def D_heap_Heap_Add_1 (F : Nat → Option AFn) (N : Nat → Nat) (Q : AV → Lg → Prop) (x0 : AV) (x1 : AV) (x2 : AV) (L : Lg) : Prop :=
 D_heap_Heap_Add_2 F N Q x0 x1 x2 L
theorem e_heap_Heap_Add_1 (F : Nat → Option AFn) (N : Nat → Nat) (Q : AV → Lg → Prop) (l t : Env) (L : Lg) : wp F (q_heap_Heap_Add_1 N) l t L (fin [.tmp (.l 6)] Q) (fun _ _ _ _ => False) (fin [.tmp (.l 6)] Q) = D_heap_Heap_Add_1 F N Q (l 0) (l 1) (l 2) L := Eq.trans (wpq_seq F (q_heap_Heap_Add_1a N) (q_heap_Heap_Add_2 N) l t L (fin [.tmp (.l 6)] Q) (fun _ _ _ _ => False) (fin [.tmp (.l 6)] Q)) (Eq.trans (congrArg (fun Z : Kn => wp F (q_heap_Heap_Add_1a N) l t L Z (fun _ _ _ _ => False) (fin [.tmp (.l 6)] Q)) (funext fun l => funext fun t => funext fun L => e_heap_Heap_Add_2 F N Q l t L)) (by kernel_rfl))
/-- (*tarpaulin/heap.Heap).Add -/
def c_heap_Heap_Add (N : Nat → Nat) : AFn := ⟨q_heap_Heap_Add_1 N, [.tmp (.l 6)]⟩
structure H_heap_Heap_Add (N : Nat → Nat) (F : Nat → Option AFn) : Prop where
  code : F (N k_heap_Heap_Add) = some (c_heap_Heap_Add N)
  heap_Heap_up : H_heap_Heap_up N F
theorem r_heap_Heap_Add {F : Nat → Option AFn} {N : Nat → Nat} (h : F (N k_heap_Heap_Add) = some (c_heap_Heap_Add N)) {Q : AV → Lg → Prop} {a0 a1 a2 : AV} {L : Lg} (e : D_heap_Heap_Add_1 F N Q a0 a1 a2 L) : CallL F (N k_heap_Heap_Add) [a0, a1, a2] L Q :=
  CallL.of_wp h (Eq.mpr (Eq.trans (e_heap_Heap_Add_1 F N Q (initE [a0, a1, a2] 0) Env.nil L) (by kernel_rfl : _ = D_heap_Heap_Add_1 F N Q a0 a1 a2 L)) e)
def q_expire_Timers_Arm_1 (N : Nat → Nat) : ACode := (.seq (.reg [⟨.l 8, none, .mv, [.c (.i .i64 0)]⟩]) (.seq (.seq (.reg [⟨.t 9, none, .mv, [.l 0]⟩, ⟨.t 10, none, .eq false .ptr, [.t 9, .c (.p none)]⟩, ⟨.t 11, none, .mv, [.t 10]⟩, ⟨.t 12, some (.t 11, false), .mv, [.l 2]⟩, ⟨.t 13, some (.t 11, false), .mv, [.l 3]⟩, ⟨.t 14, some (.t 11, false), .min, [.t 12, .t 13]⟩, ⟨.t 15, some (.t 11, false), .bin .lss, [.t 14, .c (.i .i64 0)]⟩, ⟨.t 16, none, .pick, [.t 11, .c (.b true), .t 15]⟩, ⟨.t 17, none, .mv, [.t 16]⟩, ⟨.t 18, some (.t 17, false), .mv, [.l 2]⟩, ⟨.t 19, some (.t 17, false), .mv, [.l 3]⟩, ⟨.t 20, some (.t 17, false), .max, [.t 18, .t 19]⟩, ⟨.t 21, some (.t 17, false), .bin .gtr, [.t 20, .c (.i .i64 4611686018427387904)]⟩, ⟨.t 22, none, .pick, [.t 17, .c (.b true), .t 21]⟩]) (.cond (.t 22) (.seq (.reg [⟨.l 8, none, .mv, [.c (.i .i64 1)]⟩]) .ret) .skip)) (.seq (.reg [⟨.t 23, none, .mv, [.l 0]⟩, ⟨.t 24, none, .mv, [.l 1]⟩, ⟨.t 25, none, .call (N k_expire_Timers_Stop), [.t 23, .t 24]⟩]) (.seq (.reg [⟨.t 26, none, .mv, [.l 0]⟩, ⟨.t 27, none, .nilchk, [.t 26]⟩, ⟨.t 28, none, .fad 1, [.t 27]⟩, ⟨.t 29, none, .ld none, [.t 28]⟩, ⟨.t 30, none, .mv, [.l 1]⟩, ⟨.t 31, none, .mv, [.l 3]⟩, ⟨.no, none, .mset, [.t 29, .t 30, .t 31]⟩]) (.seq (.reg [⟨.t 32, none, .mv, [.l 0]⟩, ⟨.t 33, none, .nilchk, [.t 32]⟩, ⟨.t 34, none, .fad 0, [.t 33]⟩, ⟨.t 35, none, .ld none, [.t 34]⟩, ⟨.t 36, none, .mv, [.l 1]⟩, ⟨.t 37, none, .mv, [.l 2]⟩, ⟨.t 38, none, .call (N k_heap_Heap_Add), [.t 35, .t 36, .t 37]⟩, ⟨.l 8, none, .mv, [.t 38]⟩]) .ret)))))
noncomputable def D_expire_Timers_Arm_1 (F : Nat → Option AFn) (N : Nat → Nat) (Q : AV → Lg → Prop) (x0 : AV) (x1 : AV) (x2 : AV) (x3 : AV) (L : Lg) : Prop :=
 wpOp F (.eq false .ptr) [x0, (.p none)] L fun v1 L1 =>
 gdOp F v1 false .mv [x2] L1 fun v2 L2 =>
 gdOp F v1 false .mv [x3] L2 fun v3 L3 =>
 gdOp F v1 false .min [v2, v3] L3 fun v4 L4 =>
 gdOp F v1 false (.bin .lss) [v4, (.i .i64 0)] L4 fun v5 L5 =>
 wpOp F .pick [v1, (.b true), v5] L5 fun v6 L6 =>
 gdOp F v6 false .mv [x2] L6 fun v7 L7 =>
 gdOp F v6 false .mv [x3] L7 fun v8 L8 =>
 gdOp F v6 false .max [v7, v8] L8 fun v9 L9 =>
 gdOp F v6 false (.bin .gtr) [v9, (.i .i64 4611686018427387904)] L9 fun v10 L10 =>
 wpOp F .pick [v6, (.b true), v10] L10 fun v11 L11 =>
 condW v11
 (fin1 (some (.i .i64 1)) Q L11)
 (CallL F (N k_expire_Timers_Stop) [x0, x1] L11 fun v12 L12 =>
 wpOp F .nilchk [x0] L12 fun v13 L13 =>
 wpOp F (.fad 1) [v13] L13 fun v14 L14 =>
 wpOp F (.ld none) [v14] L14 fun v15 L15 =>
 wpOp F .mset [v15, x1, x3] L15 fun _ L16 =>
 wpOp F .nilchk [x0] L16 fun v17 L17 =>
 wpOp F (.fad 0) [v17] L17 fun v18 L18 =>
 wpOp F (.ld none) [v18] L18 fun v19 L19 =>
 CallL F (N k_heap_Heap_Add) [v19, x1, x2] L19 fun v20 L20 =>
 fin1 (some v20) Q L20)
theorem e_expire_Timers_Arm_1 (F : Nat → Option AFn) (N : Nat → Nat) (Q : AV → Lg → Prop) (l t : Env) (L : Lg) : wp F (q_expire_Timers_Arm_1 N) l t L (fin [.tmp (.l 8)] Q) (fun _ _ _ _ => False) (fin [.tmp (.l 8)] Q) = D_expire_Timers_Arm_1 F N Q (l 0) (l 1) (l 2) (l 3) L := by kernel_rfl
/-- (*tarpaulin/expire.Timers).Arm -/
def c_expire_Timers_Arm (N : Nat → Nat) : AFn := ⟨q_expire_Timers_Arm_1 N, [.tmp (.l 8)]⟩
structure H_expire_Timers_Arm (N : Nat → Nat) (F : Nat → Option AFn) : Prop where
  code : F (N k_expire_Timers_Arm) = some (c_expire_Timers_Arm N)
  expire_Timers_Stop : H_expire_Timers_Stop N F
  heap_Heap_Add : H_heap_Heap_Add N F
theorem r_expire_Timers_Arm {F : Nat → Option AFn} {N : Nat → Nat} (h : F (N k_expire_Timers_Arm) = some (c_expire_Timers_Arm N)) {Q : AV → Lg → Prop} {a0 a1 a2 a3 : AV} {L : Lg} (e : D_expire_Timers_Arm_1 F N Q a0 a1 a2 a3 L) : CallL F (N k_expire_Timers_Arm) [a0, a1, a2, a3] L Q :=
  CallL.of_wp h (Eq.mpr (Eq.trans (e_expire_Timers_Arm_1 F N Q (initE [a0, a1, a2, a3] 0) Env.nil L) (by kernel_rfl : _ = D_expire_Timers_Arm_1 F N Q a0 a1 a2 a3 L)) e)
def q_timer_Set_arm_3 (N : Nat → Nat) : ACode := (.seq (.regD [⟨.t 20, none, .mv, [.l 0]⟩, ⟨.t 21, none, .nilchk, [.t 20]⟩, ⟨.t 22, none, .fad 1, [.t 21]⟩, ⟨.t 23, none, .ld none, [.t 22]⟩, ⟨.t 24, none, .mv, [.l 1]⟩, ⟨.t 25, none, .mv, [.l 2]⟩, ⟨.t 26, none, .mv, [.l 3]⟩, ⟨.t 27, none, .max, [.t 26, .c (.i .i64 0)]⟩, ⟨.t 28, none, .call (N k_clock_Add), [.t 25, .t 27]⟩, ⟨.t 29, none, .mv, [.l 8]⟩, ⟨.t 30, none, .call (N k_expire_Timers_Arm), [.t 23, .t 24, .t 28, .t 29]⟩] [(3, 9)]) (.reg [⟨.t 31, none, .mv, [.l 0]⟩, ⟨.t 32, none, .nilchk, [.t 31]⟩, ⟨.t 33, none, .fad 0, [.t 32]⟩, ⟨.t 34, none, .ld none, [.t 33]⟩, ⟨.t 35, none, .mv, [.l 1]⟩, ⟨.t 36, none, .iad 4, [.t 34, .t 35]⟩, ⟨.t 37, none, .fad 3, [.t 36]⟩, ⟨.t 38, none, .ld none, [.t 37]⟩, ⟨.t 39, none, .bin .add, [.t 38, .c (.i .i64 1)]⟩, ⟨.t 40, none, .iad 4, [.t 34, .t 35]⟩, ⟨.t 41, none, .fad 3, [.t 40]⟩, ⟨.no, none, .st 1, [.t 41, .t 39]⟩]))
noncomputable def D_timer_Set_arm_3 (F : Nat → Option AFn) (N : Nat → Nat) (Q : AV → Lg → Prop) (x0 : AV) (x1 : AV) (x2 : AV) (x3 : AV) (x8 : AV) (L : Lg) : Prop :=
 wpOp F .nilchk [x0] L fun v1 L1 =>
 wpOp F (.fad 1) [v1] L1 fun v2 L2 =>
 wpOp F (.ld none) [v2] L2 fun v3 L3 =>
 wpOp F .max [x3, (.i .i64 0)] L3 fun v4 L4 =>
 CallL F (N k_clock_Add) [x2, v4] L4 fun v5 L5 =>
 CallL F (N k_expire_Timers_Arm) [v3, x1, v5, x8] L5 fun v6 L6 =>
 (againV (.ld none) [v2] L2 L5 ∧ True) ∧ (wpOp F .nilchk [x0] L6 fun v7 L7 =>
 wpOp F (.fad 0) [v7] L7 fun v8 L8 =>
 wpOp F (.ld none) [v8] L8 fun v9 L9 =>
 wpOp F (.iad 4) [v9, x1] L9 fun v10 L10 =>
 wpOp F (.fad 3) [v10] L10 fun v11 L11 =>
 wpOp F (.ld none) [v11] L11 fun v12 L12 =>
 wpOp F (.bin .add) [v12, (.i .i64 1)] L12 fun v13 L13 =>
 wpOp F (.iad 4) [v9, x1] L13 fun v14 L14 =>
 wpOp F (.fad 3) [v14] L14 fun v15 L15 =>
 wpOp F (.st 1) [v15, v13] L15 fun _ L16 =>
 fin1 (some (.tup [])) Q L16)
theorem e_timer_Set_arm_3 (F : Nat → Option AFn) (N : Nat → Nat) (Q : AV → Lg → Prop) (l t : Env) (L : Lg) : wp F (q_timer_Set_arm_3 N) l t L (fin [] Q) (fun _ _ _ _ => False) (fin [] Q) = D_timer_Set_arm_3 F N Q (l 0) (l 1) (l 2) (l 3) (l 8) L := by kernel_rfl
def q_timer_Set_arm_2a (N : Nat → Nat) : ACode := (.seq (.reg [⟨.t 9, none, .mv, [.l 0]⟩, ⟨.t 10, none, .nilchk, [.t 9]⟩, ⟨.t 11, none, .fad 0, [.t 10]⟩, ⟨.t 12, none, .ld none, [.t 11]⟩, ⟨.t 13, none, .mv, [.l 1]⟩, ⟨.t 14, none, .iad 4, [.t 12, .t 13]⟩, ⟨.t 15, none, .fad 0, [.t 14]⟩, ⟨.t 16, none, .ld none, [.t 15]⟩, ⟨.t 17, none, .bin .eql, [.t 16, .c (.i .i64 2)]⟩]) (.cond (.t 17) (.reg [⟨.t 18, none, .mv, [.l 3]⟩, ⟨.t 19, none, .min, [.t 18, .c (.i .i64 4611686018427387904)]⟩, ⟨.l 8, none, .mv, [.t 19]⟩]) .skip))
def q_timer_Set_arm_2 (N : Nat → Nat) : ACode := (.seq (q_timer_Set_arm_2a N) (q_timer_Set_arm_3 N))
noncomputable def D_timer_Set_arm_2 (F : Nat → Option AFn) (N : Nat → Nat) (Q : AV → Lg → Prop) (x0 : AV) (x1 : AV) (x2 : AV) (x3 : AV) (x8 : AV) (L : Lg) : Prop :=
 wpOp F .nilchk [x0] L fun v1 L1 =>
 wpOp F (.fad 0) [v1] L1 fun v2 L2 =>
 wpOp F (.ld none) [v2] L2 fun v3 L3 =>
 wpOp F (.iad 4) [v3, x1] L3 fun v4 L4 =>
 wpOp F (.fad 0) [v4] L4 fun v5 L5 =>
 wpOp F (.ld none) [v5] L5 fun v6 L6 =>
 wpOp F (.bin .eql) [v6, (.i .i64 2)] L6 fun v7 L7 =>
 condW v7
 (wpOp F .min [x3, (.i .i64 4611686018427387904)] L7 fun v8 L8 =>
 D_timer_Set_arm_3 F N Q x0 x1 x2 x3 v8 L8)
 (D_timer_Set_arm_3 F N Q x0 x1 x2 x3 x8 L7)
theorem e_timer_Set_arm_2 (F : Nat → Option AFn) (N : Nat → Nat) (Q : AV → Lg → Prop) (l t : Env) (L : Lg) : wp F (q_timer_Set_arm_2 N) l t L (fin [] Q) (fun _ _ _ _ => False) (fin [] Q) = D_timer_Set_arm_2 F N Q (l 0) (l 1) (l 2) (l 3) (l 8) L := Eq.trans (wpq_seq F (q_timer_Set_arm_2a N) (q_timer_Set_arm_3 N) l t L (fin [] Q) (fun _ _ _ _ => False) (fin [] Q)) (Eq.trans (congrArg (fun Z : Kn => wp F (q_timer_Set_arm_2a N) l t L Z (fun _ _ _ _ => False) (fin [] Q)) (funext fun l => funext fun t => funext fun L => e_timer_Set_arm_3 F N Q l t L)) (by kernel_rfl))
def q_timer_Set_arm_1a (N : Nat → Nat) : ACode := (.reg [⟨.l 8, none, .mv, [.c (.i .i64 0)]⟩])
def q_timer_Set_arm_1 (N : Nat → Nat) : ACode := (.seq (q_timer_Set_arm_1a N) (q_timer_Set_arm_2 N))
noncomputable def D_timer_Set_arm_1 (F : Nat → Option AFn) (N : Nat → Nat) (Q : AV → Lg → Prop) (x0 : AV) (x1 : AV) (x2 : AV) (x3 : AV) (L : Lg) : Prop :=
 D_timer_Set_arm_2 F N Q x0 x1 x2 x3 (.i .i64 0) L
theorem e_timer_Set_arm_1 (F : Nat → Option AFn) (N : Nat → Nat) (Q : AV → Lg → Prop) (l t : Env) (L : Lg) : wp F (q_timer_Set_arm_1 N) l t L (fin [] Q) (fun _ _ _ _ => False) (fin [] Q) = D_timer_Set_arm_1 F N Q (l 0) (l 1) (l 2) (l 3) L := Eq.trans (wpq_seq F (q_timer_Set_arm_1a N) (q_timer_Set_arm_2 N) l t L (fin [] Q) (fun _ _ _ _ => False) (fin [] Q)) (Eq.trans (congrArg (fun Z : Kn => wp F (q_timer_Set_arm_1a N) l t L Z (fun _ _ _ _ => False) (fin [] Q)) (funext fun l => funext fun t => funext fun L => e_timer_Set_arm_2 F N Q l t L)) (by kernel_rfl))
/-- (*tarpaulin/timer.Set).arm -/
def c_timer_Set_arm (N : Nat → Nat) : AFn := ⟨q_timer_Set_arm_1 N, []⟩
structure H_timer_Set_arm (N : Nat → Nat) (F : Nat → Option AFn) : Prop where
  code : F (N k_timer_Set_arm) = some (c_timer_Set_arm N)
  clock_Add : H_clock_Add N F
  expire_Timers_Arm : H_expire_Timers_Arm N F
theorem r_timer_Set_arm {F : Nat → Option AFn} {N : Nat → Nat} (h : F (N k_timer_Set_arm) = some (c_timer_Set_arm N)) {Q : AV → Lg → Prop} {a0 a1 a2 a3 : AV} {L : Lg} (e : D_timer_Set_arm_1 F N Q a0 a1 a2 a3 L) : CallL F (N k_timer_Set_arm) [a0, a1, a2, a3] L Q :=
  CallL.of_wp h (Eq.mpr (Eq.trans (e_timer_Set_arm_1 F N Q (initE [a0, a1, a2, a3] 0) Env.nil L) (by kernel_rfl : _ = D_timer_Set_arm_1 F N Q a0 a1 a2 a3 L)) e)
def q_timer_Set_make_4 (N : Nat → Nat) : ACode := (.seq (.reg [⟨.t 50, none, .mv, [.l 0]⟩, ⟨.t 51, none, .mv, [.l 0]⟩, ⟨.t 52, none, .nilchk, [.t 51]⟩, ⟨.t 53, none, .fad 0, [.t 52]⟩, ⟨.t 54, none, .ld none, [.t 53]⟩, ⟨.t 55, none, .ld (some 4), [.l 5]⟩, ⟨.t 56, none, .bslice [.i .i64 0, .i .i64 0, .p none, .i .i64 0] 1 4 [0], [.t 55]⟩, ⟨.t 57, none, .app 4 32, [.t 54, .t 56]⟩, ⟨.t 58, none, .nilchk, [.t 50]⟩, ⟨.t 59, none, .fad 0, [.t 58]⟩, ⟨.no, none, .st 1, [.t 59, .t 57]⟩]) (.seq (.reg [⟨.t 60, none, .mv, [.l 0]⟩, ⟨.t 61, none, .mv, [.l 0]⟩, ⟨.t 62, none, .nilchk, [.t 61]⟩, ⟨.t 63, none, .fad 0, [.t 62]⟩, ⟨.t 64, none, .ld none, [.t 63]⟩, ⟨.t 65, none, .lenSl, [.t 64]⟩, ⟨.t 66, none, .bin .sub, [.t 65, .c (.i .i64 1)]⟩, ⟨.t 67, none, .mv, [.l 2]⟩, ⟨.t 68, none, .mv, [.l 3]⟩, ⟨.t 69, none, .call (N k_timer_Set_arm), [.t 60, .t 66, .t 67, .t 68]⟩]) (.seq (.reg [⟨.t 70, none, .mv, [.l 0]⟩, ⟨.t 71, none, .nilchk, [.t 70]⟩, ⟨.t 72, none, .fad 0, [.t 71]⟩, ⟨.t 73, none, .ld none, [.t 72]⟩, ⟨.t 74, none, .lenSl, [.t 73]⟩, ⟨.t 75, none, .bin .sub, [.t 74, .c (.i .i64 1)]⟩, ⟨.l 8, none, .mv, [.t 75]⟩, ⟨.l 9, none, .mv, [.c (.i .i64 0)]⟩]) .ret)))
noncomputable def D_timer_Set_make_4 (F : Nat → Option AFn) (N : Nat → Nat) (Q : AV → Lg → Prop) (x0 : AV) (x2 : AV) (x3 : AV) (x5 : AV) (L : Lg) : Prop :=
 wpOp F .nilchk [x0] L fun v1 L1 =>
 wpOp F (.fad 0) [v1] L1 fun v2 L2 =>
 wpOp F (.ld none) [v2] L2 fun v3 L3 =>
 wpOp F (.ld (some 4)) [x5] L3 fun v4 L4 =>
 wpOp F (.bslice [.i .i64 0, .i .i64 0, .p none, .i .i64 0] 1 4 [0]) [v4] L4 fun v5 L5 =>
 wpOp F (.app 4 32) [v3, v5] L5 fun v6 L6 =>
 wpOp F .nilchk [x0] L6 fun v7 L7 =>
 wpOp F (.fad 0) [v7] L7 fun v8 L8 =>
 wpOp F (.st 1) [v8, v6] L8 fun _ L9 =>
 wpOp F .nilchk [x0] L9 fun v10 L10 =>
 wpOp F (.fad 0) [v10] L10 fun v11 L11 =>
 wpOp F (.ld none) [v11] L11 fun v12 L12 =>
 wpOp F .lenSl [v12] L12 fun v13 L13 =>
 wpOp F (.bin .sub) [v13, (.i .i64 1)] L13 fun v14 L14 =>
 CallL F (N k_timer_Set_arm) [x0, v14, x2, x3] L14 fun v15 L15 =>
 wpOp F .nilchk [x0] L15 fun v16 L16 =>
 wpOp F (.fad 0) [v16] L16 fun v17 L17 =>
 wpOp F (.ld none) [v17] L17 fun v18 L18 =>
 wpOp F .lenSl [v18] L18 fun v19 L19 =>
 wpOp F (.bin .sub) [v19, (.i .i64 1)] L19 fun v20 L20 =>
 fin1 (some (.tup [v20, (.i .i64 0)])) Q L20
theorem e_timer_Set_make_4 (F : Nat → Option AFn) (N : Nat → Nat) (Q : AV → Lg → Prop) (l t : Env) (L : Lg) : wp F (q_timer_Set_make_4 N) l t L (fin [.tmp (.l 8), .tmp (.l 9)] Q) (fun _ _ _ _ => False) (fin [.tmp (.l 8), .tmp (.l 9)] Q) = D_timer_Set_make_4 F N Q (l 0) (l 2) (l 3) (l 5) L := by kernel_rfl
def q_timer_Set_make_3a (N : Nat → Nat) : ACode := (.seq (.reg [⟨.t 40, none, .fad 0, [.l 5]⟩, ⟨.t 41, none, .ld none, [.t 40]⟩, ⟨.t 42, none, .bin .neq, [.t 41, .c (.i .i64 4)]⟩]) (.cond (.t 42) (.reg [⟨.t 43, none, .mv, [.l 0]⟩, ⟨.t 44, none, .nilchk, [.t 43]⟩, ⟨.t 45, none, .fad 2, [.t 44]⟩, ⟨.t 46, none, .ld none, [.t 45]⟩, ⟨.t 47, none, .bin .add, [.t 46, .c (.i .i64 1)]⟩, ⟨.t 48, none, .nilchk, [.t 43]⟩, ⟨.t 49, none, .fad 2, [.t 48]⟩, ⟨.no, none, .st 1, [.t 49, .t 47]⟩]) .skip))
def q_timer_Set_make_3 (N : Nat → Nat) : ACode := (.seq (q_timer_Set_make_3a N) (q_timer_Set_make_4 N))
noncomputable def D_timer_Set_make_3 (F : Nat → Option AFn) (N : Nat → Nat) (Q : AV → Lg → Prop) (x0 : AV) (x2 : AV) (x3 : AV) (x5 : AV) (L : Lg) : Prop :=
 wpOp F (.fad 0) [x5] L fun v1 L1 =>
 wpOp F (.ld none) [v1] L1 fun v2 L2 =>
 wpOp F (.bin .neq) [v2, (.i .i64 4)] L2 fun v3 L3 =>
 condW v3
 (wpOp F .nilchk [x0] L3 fun v4 L4 =>
 wpOp F (.fad 2) [v4] L4 fun v5 L5 =>
 wpOp F (.ld none) [v5] L5 fun v6 L6 =>
 wpOp F (.bin .add) [v6, (.i .i64 1)] L6 fun v7 L7 =>
 wpOp F .nilchk [x0] L7 fun v8 L8 =>
 wpOp F (.fad 2) [v8] L8 fun v9 L9 =>
 wpOp F (.st 1) [v9, v7] L9 fun _ L10 =>
 D_timer_Set_make_4 F N Q x0 x2 x3 x5 L10)
 (D_timer_Set_make_4 F N Q x0 x2 x3 x5 L3)
theorem e_timer_Set_make_3 (F : Nat → Option AFn) (N : Nat → Nat) (Q : AV → Lg → Prop) (l t : Env) (L : Lg) : wp F (q_timer_Set_make_3 N) l t L (fin [.tmp (.l 8), .tmp (.l 9)] Q) (fun _ _ _ _ => False) (fin [.tmp (.l 8), .tmp (.l 9)] Q) = D_timer_Set_make_3 F N Q (l 0) (l 2) (l 3) (l 5) L := Eq.trans (wpq_seq F (q_timer_Set_make_3a N) (q_timer_Set_make_4 N) l t L (fin [.tmp (.l 8), .tmp (.l 9)] Q) (fun _ _ _ _ => False) (fin [.tmp (.l 8), .tmp (.l 9)] Q)) (Eq.trans (congrArg (fun Z : Kn => wp F (q_timer_Set_make_3a N) l t L Z (fun _ _ _ _ => False) (fin [.tmp (.l 8), .tmp (.l 9)] Q)) (funext fun l => funext fun t => funext fun L => e_timer_Set_make_4 F N Q l t L)) (by kernel_rfl))
def q_timer_Set_make_2a (N : Nat → Nat) : ACode := (.block 0 (.seq (.reg [⟨.t 11, none, .mv, [.l 2]⟩, ⟨.t 12, none, .call (N k_timer_bad), [.t 11]⟩, ⟨.t 13, none, .mv, [.t 12]⟩, ⟨.t 14, some (.t 13, false), .fad 1, [.l 5]⟩, ⟨.t 15, some (.t 13, false), .ld none, [.t 14]⟩, ⟨.t 16, some (.t 13, false), .bin .lss, [.t 15, .c (.i .i64 0)]⟩, ⟨.t 17, none, .pick, [.t 13, .c (.b true), .t 16]⟩, ⟨.t 18, none, .mv, [.t 17]⟩, ⟨.t 19, some (.t 18, false), .fad 0, [.l 5]⟩, ⟨.t 20, some (.t 18, false), .ld none, [.t 19]⟩, ⟨.t 21, some (.t 18, false), .bin .eql, [.t 20, .c (.i .i64 2)]⟩, ⟨.t 22, some (.t 18, false), .mv, [.t 21]⟩, ⟨.t 23, some (.t 22, true), .mv, [.l 3]⟩, ⟨.t 24, some (.t 22, true), .bin .lss, [.t 23, .c (.i .i64 1)]⟩, ⟨.t 25, some (.t 18, false), .pick, [.t 22, .t 24, .c (.b false)]⟩, ⟨.t 26, none, .pick, [.t 18, .c (.b true), .t 25]⟩, ⟨.t 10, none, .mv, [.t 26]⟩]) (.cond (.t 10) (.seq (.reg [⟨.l 8, none, .mv, [.c (.i .i64 0)]⟩, ⟨.l 9, none, .mv, [.c (.i .i64 1)]⟩]) .ret) (.seq (.seq (.reg [⟨.t 28, none, .mv, [.l 0]⟩, ⟨.t 29, none, .eq false .ptr, [.t 28, .c (.p none)]⟩, ⟨.t 27, none, .mv, [.t 29]⟩]) (.cond (.t 27) .skip (.reg [⟨.t 30, none, .fad 0, [.l 5]⟩, ⟨.t 31, none, .ld none, [.t 30]⟩, ⟨.t 32, none, .bin .neq, [.t 31, .c (.i .i64 4)]⟩, ⟨.t 33, none, .mv, [.t 32]⟩, ⟨.t 34, some (.t 33, true), .mv, [.l 0]⟩, ⟨.t 35, some (.t 33, true), .nilchk, [.t 34]⟩, ⟨.t 36, some (.t 33, true), .fad 2, [.t 35]⟩, ⟨.t 37, some (.t 33, true), .ld none, [.t 36]⟩, ⟨.t 38, some (.t 33, true), .bin .geq, [.t 37, .c (.i .i64 64)]⟩, ⟨.t 39, none, .pick, [.t 33, .t 38, .c (.b false)]⟩, ⟨.t 27, none, .mv, [.t 39]⟩]))) (.cond (.t 27) (.seq (.reg [⟨.l 8, none, .mv, [.c (.i .i64 0)]⟩, ⟨.l 9, none, .mv, [.c (.i .i64 3)]⟩]) .ret) .skip)))))
def q_timer_Set_make_2 (N : Nat → Nat) : ACode := (.seq (q_timer_Set_make_2a N) (q_timer_Set_make_3 N))
noncomputable def D_timer_Set_make_2 (F : Nat → Option AFn) (N : Nat → Nat) (Q : AV → Lg → Prop) (x0 : AV) (x2 : AV) (x3 : AV) (x5 : AV) (L : Lg) : Prop :=
 CallL F (N k_timer_bad) [x2] L fun v1 L1 =>
 gdOp F v1 false (.fad 1) [x5] L1 fun v2 L2 =>
 gdOp F v1 false (.ld none) [v2] L2 fun v3 L3 =>
 gdOp F v1 false (.bin .lss) [v3, (.i .i64 0)] L3 fun v4 L4 =>
 wpOp F .pick [v1, (.b true), v4] L4 fun v5 L5 =>
 gdOp F v5 false (.fad 0) [x5] L5 fun v6 L6 =>
 gdOp F v5 false (.ld none) [v6] L6 fun v7 L7 =>
 gdOp F v5 false (.bin .eql) [v7, (.i .i64 2)] L7 fun v8 L8 =>
 gdOp F v5 false .mv [v8] L8 fun v9 L9 =>
 gdOp F v9 true .mv [x3] L9 fun v10 L10 =>
 gdOp F v9 true (.bin .lss) [v10, (.i .i64 1)] L10 fun v11 L11 =>
 gdOp F v5 false .pick [v9, v11, (.b false)] L11 fun v12 L12 =>
 wpOp F .pick [v5, (.b true), v12] L12 fun v13 L13 =>
 condW v13
 (fin1 (some (.tup [(.i .i64 0), (.i .i64 1)])) Q L13)
 (wpOp F (.eq false .ptr) [x0, (.p none)] L13 fun v14 L14 =>
 condW v14
 (condW v14
 (fin1 (some (.tup [(.i .i64 0), (.i .i64 3)])) Q L14)
 (D_timer_Set_make_3 F N Q x0 x2 x3 x5 L14))
 (wpOp F (.fad 0) [x5] L14 fun v15 L15 =>
 wpOp F (.ld none) [v15] L15 fun v16 L16 =>
 wpOp F (.bin .neq) [v16, (.i .i64 4)] L16 fun v17 L17 =>
 gdOp F v17 true .mv [x0] L17 fun v18 L18 =>
 gdOp F v17 true .nilchk [v18] L18 fun v19 L19 =>
 gdOp F v17 true (.fad 2) [v19] L19 fun v20 L20 =>
 gdOp F v17 true (.ld none) [v20] L20 fun v21 L21 =>
 gdOp F v17 true (.bin .geq) [v21, (.i .i64 64)] L21 fun v22 L22 =>
 wpOp F .pick [v17, v22, (.b false)] L22 fun v23 L23 =>
 condW v23
 (fin1 (some (.tup [(.i .i64 0), (.i .i64 3)])) Q L23)
 (D_timer_Set_make_3 F N Q x0 x2 x3 x5 L23)))
theorem e_timer_Set_make_2 (F : Nat → Option AFn) (N : Nat → Nat) (Q : AV → Lg → Prop) (l t : Env) (L : Lg) : wp F (q_timer_Set_make_2 N) l t L (fin [.tmp (.l 8), .tmp (.l 9)] Q) (fun _ _ _ _ => False) (fin [.tmp (.l 8), .tmp (.l 9)] Q) = D_timer_Set_make_2 F N Q (l 0) (l 2) (l 3) (l 5) L := Eq.trans (wpq_seq F (q_timer_Set_make_2a N) (q_timer_Set_make_3 N) l t L (fin [.tmp (.l 8), .tmp (.l 9)] Q) (fun _ _ _ _ => False) (fin [.tmp (.l 8), .tmp (.l 9)] Q)) (Eq.trans (congrArg (fun Z : Kn => wp F (q_timer_Set_make_2a N) l t L Z (fun _ _ _ _ => False) (fin [.tmp (.l 8), .tmp (.l 9)] Q)) (funext fun l => funext fun t => funext fun L => e_timer_Set_make_3 F N Q l t L)) (by kernel_rfl))
def q_timer_Set_make_1a (N : Nat → Nat) : ACode := (.reg [⟨.l 5, none, .box, [.l 1]⟩, ⟨.l 8, none, .mv, [.c (.i .i64 0)]⟩, ⟨.l 9, none, .mv, [.c (.i .i64 0)]⟩])
def q_timer_Set_make_1 (N : Nat → Nat) : ACode := (.seq (q_timer_Set_make_1a N) (q_timer_Set_make_2 N))
noncomputable def D_timer_Set_make_1 (F : Nat → Option AFn) (N : Nat → Nat) (Q : AV → Lg → Prop) (x0 : AV) (x1 : AV) (x2 : AV) (x3 : AV) (L : Lg) : Prop :=
 wpOp F .box [x1] L fun v1 L1 =>
 D_timer_Set_make_2 F N Q x0 x2 x3 v1 L1
theorem e_timer_Set_make_1 (F : Nat → Option AFn) (N : Nat → Nat) (Q : AV → Lg → Prop) (l t : Env) (L : Lg) : wp F (q_timer_Set_make_1 N) l t L (fin [.tmp (.l 8), .tmp (.l 9)] Q) (fun _ _ _ _ => False) (fin [.tmp (.l 8), .tmp (.l 9)] Q) = D_timer_Set_make_1 F N Q (l 0) (l 1) (l 2) (l 3) L := Eq.trans (wpq_seq F (q_timer_Set_make_1a N) (q_timer_Set_make_2 N) l t L (fin [.tmp (.l 8), .tmp (.l 9)] Q) (fun _ _ _ _ => False) (fin [.tmp (.l 8), .tmp (.l 9)] Q)) (Eq.trans (congrArg (fun Z : Kn => wp F (q_timer_Set_make_1a N) l t L Z (fun _ _ _ _ => False) (fin [.tmp (.l 8), .tmp (.l 9)] Q)) (funext fun l => funext fun t => funext fun L => e_timer_Set_make_2 F N Q l t L)) (by kernel_rfl))
/-- (*tarpaulin/timer.Set).make -/
def c_timer_Set_make (N : Nat → Nat) : AFn := ⟨q_timer_Set_make_1 N, [.tmp (.l 8), .tmp (.l 9)]⟩
structure H_timer_Set_make (N : Nat → Nat) (F : Nat → Option AFn) : Prop where
  code : F (N k_timer_Set_make) = some (c_timer_Set_make N)
  timer_bad : H_timer_bad N F
  timer_Set_arm : H_timer_Set_arm N F
theorem r_timer_Set_make {F : Nat → Option AFn} {N : Nat → Nat} (h : F (N k_timer_Set_make) = some (c_timer_Set_make N)) {Q : AV → Lg → Prop} {a0 a1 a2 a3 : AV} {L : Lg} (e : D_timer_Set_make_1 F N Q a0 a1 a2 a3 L) : CallL F (N k_timer_Set_make) [a0, a1, a2, a3] L Q :=
  CallL.of_wp h (Eq.mpr (Eq.trans (e_timer_Set_make_1 F N Q (initE [a0, a1, a2, a3] 0) Env.nil L) (by kernel_rfl : _ = D_timer_Set_make_1 F N Q a0 a1 a2 a3 L)) e)
def q_timer_Set_channel_1 (N : Nat → Nat) : ACode := (.seq (.reg [⟨.l 8, none, .mv, [.c (.i .i64 0)]⟩, ⟨.l 9, none, .mv, [.c (.p none)]⟩, ⟨.l 10, none, .mv, [.c (.i .i64 0)]⟩]) (.seq (.reg [⟨.t 14, none, .call (N k_chanq_Timed), []⟩, ⟨.l 11, none, .mv, [.t 14]⟩]) (.seq (.reg [⟨.t 16, none, .mv, [.l 0]⟩, ⟨.t 17, none, .mv, [.l 1]⟩, ⟨.t 18, none, .mv, [.l 11]⟩, ⟨.t 19, none, .build [.i .i64 0, .i .i64 0, .p none, .i .i64 0] [(0, 1), (2, 1)], [.t 17, .t 18]⟩, ⟨.t 20, none, .mv, [.l 2]⟩, ⟨.t 21, none, .mv, [.l 3]⟩, ⟨.t 22, none, .call (N k_timer_Set_make), [.t 16, .t 19, .t 20, .t 21]⟩, ⟨.t 15, none, .mv, [.t 22]⟩, ⟨.t 23, none, .ext 0, [.t 15]⟩, ⟨.t 24, none, .ext 1, [.t 15]⟩, ⟨.l 12, none, .mv, [.t 23]⟩, ⟨.l 13, none, .mv, [.t 24]⟩]) (.seq (.seq (.reg [⟨.t 25, none, .mv, [.l 13]⟩, ⟨.t 26, none, .bin .neq, [.t 25, .c (.i .i64 0)]⟩]) (.cond (.t 26) (.seq (.reg [⟨.t 27, none, .mv, [.l 13]⟩, ⟨.l 8, none, .mv, [.c (.i .i64 0)]⟩, ⟨.l 9, none, .mv, [.c (.p none)]⟩, ⟨.l 10, none, .mv, [.t 27]⟩]) .ret) .skip)) (.seq (.reg [⟨.t 28, none, .mv, [.l 12]⟩, ⟨.t 29, none, .mv, [.l 11]⟩, ⟨.l 8, none, .mv, [.t 28]⟩, ⟨.l 9, none, .mv, [.t 29]⟩, ⟨.l 10, none, .mv, [.c (.i .i64 0)]⟩]) .ret)))))
noncomputable def D_timer_Set_channel_1 (F : Nat → Option AFn) (N : Nat → Nat) (Q : AV → Lg → Prop) (x0 : AV) (x1 : AV) (x2 : AV) (x3 : AV) (L : Lg) : Prop :=
 CallL F (N k_chanq_Timed) [] L fun v1 L1 =>
 wpOp F (.build [.i .i64 0, .i .i64 0, .p none, .i .i64 0] [(0, 1), (2, 1)]) [x1, v1] L1 fun v2 L2 =>
 CallL F (N k_timer_Set_make) [x0, v2, x2, x3] L2 fun v3 L3 =>
 wpOp F (.ext 0) [v3] L3 fun v4 L4 =>
 wpOp F (.ext 1) [v3] L4 fun v5 L5 =>
 wpOp F (.bin .neq) [v5, (.i .i64 0)] L5 fun v6 L6 =>
 condW v6
 (fin1 (some (.tup [(.i .i64 0), (.p none), v5])) Q L6)
 (fin1 (some (.tup [v4, v1, (.i .i64 0)])) Q L6)
theorem e_timer_Set_channel_1 (F : Nat → Option AFn) (N : Nat → Nat) (Q : AV → Lg → Prop) (l t : Env) (L : Lg) : wp F (q_timer_Set_channel_1 N) l t L (fin [.tmp (.l 8), .tmp (.l 9), .tmp (.l 10)] Q) (fun _ _ _ _ => False) (fin [.tmp (.l 8), .tmp (.l 9), .tmp (.l 10)] Q) = D_timer_Set_channel_1 F N Q (l 0) (l 1) (l 2) (l 3) L := by kernel_rfl
/-- (*tarpaulin/timer.Set).channel -/
def c_timer_Set_channel (N : Nat → Nat) : AFn := ⟨q_timer_Set_channel_1 N, [.tmp (.l 8), .tmp (.l 9), .tmp (.l 10)]⟩
structure H_timer_Set_channel (N : Nat → Nat) (F : Nat → Option AFn) : Prop where
  code : F (N k_timer_Set_channel) = some (c_timer_Set_channel N)
  chanq_Timed : H_chanq_Timed N F
  timer_Set_make : H_timer_Set_make N F
theorem r_timer_Set_channel {F : Nat → Option AFn} {N : Nat → Nat} (h : F (N k_timer_Set_channel) = some (c_timer_Set_channel N)) {Q : AV → Lg → Prop} {a0 a1 a2 a3 : AV} {L : Lg} (e : D_timer_Set_channel_1 F N Q a0 a1 a2 a3 L) : CallL F (N k_timer_Set_channel) [a0, a1, a2, a3] L Q :=
  CallL.of_wp h (Eq.mpr (Eq.trans (e_timer_Set_channel_1 F N Q (initE [a0, a1, a2, a3] 0) Env.nil L) (by kernel_rfl : _ = D_timer_Set_channel_1 F N Q a0 a1 a2 a3 L)) e)
def q_timer_Set_Timer_1 (N : Nat → Nat) : ACode := (.seq (.reg [⟨.l 6, none, .mv, [.c (.i .i64 0)]⟩, ⟨.l 7, none, .mv, [.c (.p none)]⟩, ⟨.l 8, none, .mv, [.c (.i .i64 0)]⟩]) (.seq (.reg [⟨.t 9, none, .mv, [.l 0]⟩, ⟨.t 10, none, .mv, [.l 1]⟩, ⟨.t 11, none, .mv, [.l 2]⟩, ⟨.t 12, none, .call (N k_timer_Set_channel), [.t 9, .c (.i .i64 1), .t 10, .t 11]⟩, ⟨.t 13, none, .ext 0, [.t 12]⟩, ⟨.t 14, none, .ext 1, [.t 12]⟩, ⟨.t 15, none, .ext 2, [.t 12]⟩, ⟨.l 6, none, .mv, [.t 13]⟩, ⟨.l 7, none, .mv, [.t 14]⟩, ⟨.l 8, none, .mv, [.t 15]⟩]) .ret))
noncomputable def D_timer_Set_Timer_1 (F : Nat → Option AFn) (N : Nat → Nat) (Q : AV → Lg → Prop) (x0 : AV) (x1 : AV) (x2 : AV) (L : Lg) : Prop :=
 CallL F (N k_timer_Set_channel) [x0, (.i .i64 1), x1, x2] L fun v1 L1 =>
 wpOp F (.ext 0) [v1] L1 fun v2 L2 =>
 wpOp F (.ext 1) [v1] L2 fun v3 L3 =>
 wpOp F (.ext 2) [v1] L3 fun v4 L4 =>
 fin1 (some (.tup [v2, v3, v4])) Q L4
theorem e_timer_Set_Timer_1 (F : Nat → Option AFn) (N : Nat → Nat) (Q : AV → Lg → Prop) (l t : Env) (L : Lg) : wp F (q_timer_Set_Timer_1 N) l t L (fin [.tmp (.l 6), .tmp (.l 7), .tmp (.l 8)] Q) (fun _ _ _ _ => False) (fin [.tmp (.l 6), .tmp (.l 7), .tmp (.l 8)] Q) = D_timer_Set_Timer_1 F N Q (l 0) (l 1) (l 2) L := by kernel_rfl
/-- (*tarpaulin/timer.Set).Timer -/
def c_timer_Set_Timer (N : Nat → Nat) : AFn := ⟨q_timer_Set_Timer_1 N, [.tmp (.l 6), .tmp (.l 7), .tmp (.l 8)]⟩
structure H_timer_Set_Timer (N : Nat → Nat) (F : Nat → Option AFn) : Prop where
  code : F (N k_timer_Set_Timer) = some (c_timer_Set_Timer N)
  timer_Set_channel : H_timer_Set_channel N F
theorem r_timer_Set_Timer {F : Nat → Option AFn} {N : Nat → Nat} (h : F (N k_timer_Set_Timer) = some (c_timer_Set_Timer N)) {Q : AV → Lg → Prop} {a0 a1 a2 : AV} {L : Lg} (e : D_timer_Set_Timer_1 F N Q a0 a1 a2 L) : CallL F (N k_timer_Set_Timer) [a0, a1, a2] L Q :=
  CallL.of_wp h (Eq.mpr (Eq.trans (e_timer_Set_Timer_1 F N Q (initE [a0, a1, a2] 0) Env.nil L) (by kernel_rfl : _ = D_timer_Set_Timer_1 F N Q a0 a1 a2 L)) e)
def q_heap_Heap_Len_1 (N : Nat → Nat) : ACode := (.seq (.reg [⟨.l 2, none, .mv, [.c (.i .i64 0)]⟩]) (.seq (.seq (.reg [⟨.t 3, none, .mv, [.l 0]⟩, ⟨.t 4, none, .eq false .ptr, [.t 3, .c (.p none)]⟩]) (.cond (.t 4) (.seq (.reg [⟨.l 2, none, .mv, [.c (.i .i64 0)]⟩]) .ret) .skip)) (.seq (.reg [⟨.t 5, none, .mv, [.l 0]⟩, ⟨.t 6, none, .nilchk, [.t 5]⟩, ⟨.t 7, none, .fad 0, [.t 6]⟩, ⟨.t 8, none, .ld none, [.t 7]⟩, ⟨.t 9, none, .lenSl, [.t 8]⟩, ⟨.l 2, none, .mv, [.t 9]⟩]) .ret)))
noncomputable def D_heap_Heap_Len_1 (F : Nat → Option AFn) (N : Nat → Nat) (Q : AV → Lg → Prop) (x0 : AV) (L : Lg) : Prop :=
 wpOp F (.eq false .ptr) [x0, (.p none)] L fun v1 L1 =>
 condW v1
 (fin1 (some (.i .i64 0)) Q L1)
 (wpOp F .nilchk [x0] L1 fun v2 L2 =>
 wpOp F (.fad 0) [v2] L2 fun v3 L3 =>
 wpOp F (.ld none) [v3] L3 fun v4 L4 =>
 wpOp F .lenSl [v4] L4 fun v5 L5 =>
 fin1 (some v5) Q L5)
theorem e_heap_Heap_Len_1 (F : Nat → Option AFn) (N : Nat → Nat) (Q : AV → Lg → Prop) (l t : Env) (L : Lg) : wp F (q_heap_Heap_Len_1 N) l t L (fin [.tmp (.l 2)] Q) (fun _ _ _ _ => False) (fin [.tmp (.l 2)] Q) = D_heap_Heap_Len_1 F N Q (l 0) L := by kernel_rfl
/-- (*tarpaulin/heap.Heap).Len -/
def c_heap_Heap_Len (N : Nat → Nat) : AFn := ⟨q_heap_Heap_Len_1 N, [.tmp (.l 2)]⟩
structure H_heap_Heap_Len (N : Nat → Nat) (F : Nat → Option AFn) : Prop where
  code : F (N k_heap_Heap_Len) = some (c_heap_Heap_Len N)
theorem r_heap_Heap_Len {F : Nat → Option AFn} {N : Nat → Nat} (h : F (N k_heap_Heap_Len) = some (c_heap_Heap_Len N)) {Q : AV → Lg → Prop} {a0 : AV} {L : Lg} (e : D_heap_Heap_Len_1 F N Q a0 L) : CallL F (N k_heap_Heap_Len) [a0] L Q :=
  CallL.of_wp h (Eq.mpr (Eq.trans (e_heap_Heap_Len_1 F N Q (initE [a0] 0) Env.nil L) (by kernel_rfl : _ = D_heap_Heap_Len_1 F N Q a0 L)) e)
def q_heap_Heap_Min_1 (N : Nat → Nat) : ACode := (.seq (.reg [⟨.l 2, none, .alloc [.i .i64 0, .i .i64 0, .i .i64 0], []⟩, ⟨.l 3, none, .mv, [.c (.b false)]⟩]) (.seq (.seq (.reg [⟨.t 4, none, .mv, [.l 0]⟩, ⟨.t 5, none, .call (N k_heap_Heap_Len), [.t 4]⟩, ⟨.t 6, none, .bin .eql, [.t 5, .c (.i .i64 0)]⟩]) (.cond (.t 6) (.seq (.reg [⟨.t 7, none, .build [.i .i64 0, .i .i64 0, .i .i64 0] [], []⟩, ⟨.no, none, .st 3, [.l 2, .t 7]⟩, ⟨.l 3, none, .mv, [.c (.b false)]⟩]) .ret) .skip)) (.seq (.reg [⟨.t 8, none, .mv, [.l 0]⟩, ⟨.t 9, none, .nilchk, [.t 8]⟩, ⟨.t 10, none, .fad 0, [.t 9]⟩, ⟨.t 11, none, .ld none, [.t 10]⟩, ⟨.t 12, none, .iad 3, [.t 11, .c (.i .i64 0)]⟩, ⟨.t 13, none, .ld (some 3), [.t 12]⟩, ⟨.no, none, .st 3, [.l 2, .t 13]⟩, ⟨.l 3, none, .mv, [.c (.b true)]⟩]) .ret)))
noncomputable def D_heap_Heap_Min_1 (F : Nat → Option AFn) (N : Nat → Nat) (Q : AV → Lg → Prop) (x0 : AV) (L : Lg) : Prop :=
 wpOp F (.alloc [.i .i64 0, .i .i64 0, .i .i64 0]) [] L fun v1 L1 =>
 CallL F (N k_heap_Heap_Len) [x0] L1 fun v2 L2 =>
 wpOp F (.bin .eql) [v2, (.i .i64 0)] L2 fun v3 L3 =>
 condW v3
 (wpOp F (.build [.i .i64 0, .i .i64 0, .i .i64 0] []) [] L3 fun v4 L4 =>
 wpOp F (.st 3) [v1, v4] L4 fun _ L5 =>
 fin1 (resVL Env.nil Env.nil L5 [.cell (.c v1) (some 3), .tmp (.c (.b false))]) Q L5)
 (wpOp F .nilchk [x0] L3 fun v6 L6 =>
 wpOp F (.fad 0) [v6] L6 fun v7 L7 =>
 wpOp F (.ld none) [v7] L7 fun v8 L8 =>
 wpOp F (.iad 3) [v8, (.i .i64 0)] L8 fun v9 L9 =>
 wpOp F (.ld (some 3)) [v9] L9 fun v10 L10 =>
 wpOp F (.st 3) [v1, v10] L10 fun _ L11 =>
 fin1 (resVL Env.nil Env.nil L11 [.cell (.c v1) (some 3), .tmp (.c (.b true))]) Q L11)
theorem e_heap_Heap_Min_1 (F : Nat → Option AFn) (N : Nat → Nat) (Q : AV → Lg → Prop) (l t : Env) (L : Lg) : wp F (q_heap_Heap_Min_1 N) l t L (fin [.cell (.l 2) (some 3), .tmp (.l 3)] Q) (fun _ _ _ _ => False) (fin [.cell (.l 2) (some 3), .tmp (.l 3)] Q) = D_heap_Heap_Min_1 F N Q (l 0) L := by kernel_rfl
/-- (*tarpaulin/heap.Heap).Min -/
def c_heap_Heap_Min (N : Nat → Nat) : AFn := ⟨q_heap_Heap_Min_1 N, [.cell (.l 2) (some 3), .tmp (.l 3)]⟩
structure H_heap_Heap_Min (N : Nat → Nat) (F : Nat → Option AFn) : Prop where
  code : F (N k_heap_Heap_Min) = some (c_heap_Heap_Min N)
  heap_Heap_Len : H_heap_Heap_Len N F
theorem r_heap_Heap_Min {F : Nat → Option AFn} {N : Nat → Nat} (h : F (N k_heap_Heap_Min) = some (c_heap_Heap_Min N)) {Q : AV → Lg → Prop} {a0 : AV} {L : Lg} (e : D_heap_Heap_Min_1 F N Q a0 L) : CallL F (N k_heap_Heap_Min) [a0] L Q :=
  CallL.of_wp h (Eq.mpr (Eq.trans (e_heap_Heap_Min_1 F N Q (initE [a0] 0) Env.nil L) (by kernel_rfl : _ = D_heap_Heap_Min_1 F N Q a0 L)) e)
def q_expire_Timers_Next_1 (N : Nat → Nat) : ACode := (.seq (.reg [⟨.l 2, none, .mv, [.c (.i .i64 0)]⟩, ⟨.l 3, none, .mv, [.c (.b false)]⟩]) (.seq (.seq (.reg [⟨.t 6, none, .mv, [.l 0]⟩, ⟨.t 7, none, .eq false .ptr, [.t 6, .c (.p none)]⟩]) (.cond (.t 7) (.seq (.reg [⟨.l 2, none, .mv, [.c (.i .i64 0)]⟩, ⟨.l 3, none, .mv, [.c (.b false)]⟩]) .ret) .skip)) (.seq (.reg [⟨.t 9, none, .mv, [.l 0]⟩, ⟨.t 10, none, .nilchk, [.t 9]⟩, ⟨.t 11, none, .fad 0, [.t 10]⟩, ⟨.t 12, none, .ld none, [.t 11]⟩, ⟨.t 13, none, .call (N k_heap_Heap_Min), [.t 12]⟩, ⟨.t 8, none, .mv, [.t 13]⟩, ⟨.t 14, none, .ext 0, [.t 8]⟩, ⟨.t 15, none, .ext 1, [.t 8]⟩, ⟨.l 4, none, .alloc [.i .i64 0, .i .i64 0, .i .i64 0], []⟩, ⟨.no, none, .st 3, [.l 4, .t 14]⟩, ⟨.l 5, none, .mv, [.t 15]⟩]) (.seq (.reg [⟨.t 16, none, .fad 1, [.l 4]⟩, ⟨.t 17, none, .ld none, [.t 16]⟩, ⟨.t 18, none, .mv, [.l 5]⟩, ⟨.l 2, none, .mv, [.t 17]⟩, ⟨.l 3, none, .mv, [.t 18]⟩]) .ret))))
noncomputable def D_expire_Timers_Next_1 (F : Nat → Option AFn) (N : Nat → Nat) (Q : AV → Lg → Prop) (x0 : AV) (L : Lg) : Prop :=
 wpOp F (.eq false .ptr) [x0, (.p none)] L fun v1 L1 =>
 condW v1
 (fin1 (some (.tup [(.i .i64 0), (.b false)])) Q L1)
 (wpOp F .nilchk [x0] L1 fun v2 L2 =>
 wpOp F (.fad 0) [v2] L2 fun v3 L3 =>
 wpOp F (.ld none) [v3] L3 fun v4 L4 =>
 CallL F (N k_heap_Heap_Min) [v4] L4 fun v5 L5 =>
 wpOp F (.ext 0) [v5] L5 fun v6 L6 =>
 wpOp F (.ext 1) [v5] L6 fun v7 L7 =>
 wpOp F (.alloc [.i .i64 0, .i .i64 0, .i .i64 0]) [] L7 fun v8 L8 =>
 wpOp F (.st 3) [v8, v6] L8 fun _ L9 =>
 wpOp F (.fad 1) [v8] L9 fun v10 L10 =>
 wpOp F (.ld none) [v10] L10 fun v11 L11 =>
 fin1 (some (.tup [v11, v7])) Q L11)
theorem e_expire_Timers_Next_1 (F : Nat → Option AFn) (N : Nat → Nat) (Q : AV → Lg → Prop) (l t : Env) (L : Lg) : wp F (q_expire_Timers_Next_1 N) l t L (fin [.tmp (.l 2), .tmp (.l 3)] Q) (fun _ _ _ _ => False) (fin [.tmp (.l 2), .tmp (.l 3)] Q) = D_expire_Timers_Next_1 F N Q (l 0) L := by kernel_rfl
/-- (*tarpaulin/expire.Timers).Next -/
def c_expire_Timers_Next (N : Nat → Nat) : AFn := ⟨q_expire_Timers_Next_1 N, [.tmp (.l 2), .tmp (.l 3)]⟩
structure H_expire_Timers_Next (N : Nat → Nat) (F : Nat → Option AFn) : Prop where
  code : F (N k_expire_Timers_Next) = some (c_expire_Timers_Next N)
  heap_Heap_Min : H_heap_Heap_Min N F
theorem r_expire_Timers_Next {F : Nat → Option AFn} {N : Nat → Nat} (h : F (N k_expire_Timers_Next) = some (c_expire_Timers_Next N)) {Q : AV → Lg → Prop} {a0 : AV} {L : Lg} (e : D_expire_Timers_Next_1 F N Q a0 L) : CallL F (N k_expire_Timers_Next) [a0] L Q :=
  CallL.of_wp h (Eq.mpr (Eq.trans (e_expire_Timers_Next_1 F N Q (initE [a0] 0) Env.nil L) (by kernel_rfl : _ = D_expire_Timers_Next_1 F N Q a0 L)) e)
def q_heap_Heap_Pop_1 (N : Nat → Nat) : ACode := (.seq (.reg [⟨.l 2, none, .alloc [.i .i64 0, .i .i64 0, .i .i64 0], []⟩, ⟨.l 3, none, .mv, [.c (.b false)]⟩]) (.seq (.reg [⟨.t 7, none, .mv, [.l 0]⟩, ⟨.t 8, none, .call (N k_heap_Heap_Min), [.t 7]⟩, ⟨.t 6, none, .mv, [.t 8]⟩, ⟨.t 9, none, .ext 0, [.t 6]⟩, ⟨.t 10, none, .ext 1, [.t 6]⟩, ⟨.l 4, none, .alloc [.i .i64 0, .i .i64 0, .i .i64 0], []⟩, ⟨.no, none, .st 3, [.l 4, .t 9]⟩, ⟨.l 5, none, .mv, [.t 10]⟩]) (.seq (.seq (.reg [⟨.t 11, none, .mv, [.l 5]⟩]) (.cond (.t 11) (.reg [⟨.t 12, none, .mv, [.l 0]⟩, ⟨.t 13, none, .fad 0, [.l 4]⟩, ⟨.t 14, none, .ld none, [.t 13]⟩, ⟨.t 15, none, .call (N k_heap_Heap_Remove), [.t 12, .t 14]⟩]) .skip)) (.seq (.reg [⟨.t 16, none, .ld (some 3), [.l 4]⟩, ⟨.t 17, none, .mv, [.l 5]⟩, ⟨.no, none, .st 3, [.l 2, .t 16]⟩, ⟨.l 3, none, .mv, [.t 17]⟩]) .ret))))
noncomputable def D_heap_Heap_Pop_1 (F : Nat → Option AFn) (N : Nat → Nat) (Q : AV → Lg → Prop) (x0 : AV) (L : Lg) : Prop :=
 wpOp F (.alloc [.i .i64 0, .i .i64 0, .i .i64 0]) [] L fun v1 L1 =>
 CallL F (N k_heap_Heap_Min) [x0] L1 fun v2 L2 =>
 wpOp F (.ext 0) [v2] L2 fun v3 L3 =>
 wpOp F (.ext 1) [v2] L3 fun v4 L4 =>
 wpOp F (.alloc [.i .i64 0, .i .i64 0, .i .i64 0]) [] L4 fun v5 L5 =>
 wpOp F (.st 3) [v5, v3] L5 fun _ L6 =>
 condW v4
 (wpOp F (.fad 0) [v5] L6 fun v7 L7 =>
 wpOp F (.ld none) [v7] L7 fun v8 L8 =>
 CallL F (N k_heap_Heap_Remove) [x0, v8] L8 fun v9 L9 =>
 wpOp F (.ld (some 3)) [v5] L9 fun v10 L10 =>
 wpOp F (.st 3) [v1, v10] L10 fun _ L11 =>
 fin1 (resVL Env.nil Env.nil L11 [.cell (.c v1) (some 3), .tmp (.c v4)]) Q L11)
 (wpOp F (.ld (some 3)) [v5] L6 fun v12 L12 =>
 wpOp F (.st 3) [v1, v12] L12 fun _ L13 =>
 fin1 (resVL Env.nil Env.nil L13 [.cell (.c v1) (some 3), .tmp (.c v4)]) Q L13)
theorem e_heap_Heap_Pop_1 (F : Nat → Option AFn) (N : Nat → Nat) (Q : AV → Lg → Prop) (l t : Env) (L : Lg) : wp F (q_heap_Heap_Pop_1 N) l t L (fin [.cell (.l 2) (some 3), .tmp (.l 3)] Q) (fun _ _ _ _ => False) (fin [.cell (.l 2) (some 3), .tmp (.l 3)] Q) = D_heap_Heap_Pop_1 F N Q (l 0) L := by kernel_rfl
/-- (*tarpaulin/heap.Heap).Pop -/
def c_heap_Heap_Pop (N : Nat → Nat) : AFn := ⟨q_heap_Heap_Pop_1 N, [.cell (.l 2) (some 3), .tmp (.l 3)]⟩
structure H_heap_Heap_Pop (N : Nat → Nat) (F : Nat → Option AFn) : Prop where
  code : F (N k_heap_Heap_Pop) = some (c_heap_Heap_Pop N)
  heap_Heap_Min : H_heap_Heap_Min N F
  heap_Heap_Remove : H_heap_Heap_Remove N F
theorem r_heap_Heap_Pop {F : Nat → Option AFn} {N : Nat → Nat} (h : F (N k_heap_Heap_Pop) = some (c_heap_Heap_Pop N)) {Q : AV → Lg → Prop} {a0 : AV} {L : Lg} (e : D_heap_Heap_Pop_1 F N Q a0 L) : CallL F (N k_heap_Heap_Pop) [a0] L Q :=
  CallL.of_wp h (Eq.mpr (Eq.trans (e_heap_Heap_Pop_1 F N Q (initE [a0] 0) Env.nil L) (by kernel_rfl : _ = D_heap_Heap_Pop_1 F N Q a0 L)) e)
def q_expire_Timers_Take_7 (N : Nat → Nat) : ACode := (.seq (.seq (.reg [⟨.t 52, none, .mv, [.l 6]⟩, ⟨.t 53, none, .mv, [.l 10]⟩, ⟨.t 54, none, .mv, [.l 1]⟩, ⟨.t 55, none, .call (N k_clock_Next), [.t 52, .t 53, .t 54]⟩, ⟨.t 51, none, .mv, [.t 55]⟩, ⟨.t 56, none, .ext 0, [.t 51]⟩, ⟨.t 57, none, .ext 1, [.t 51]⟩, ⟨.l 11, none, .mv, [.t 56]⟩, ⟨.l 12, none, .mv, [.t 57]⟩]) (.seq (.reg [⟨.t 58, none, .mv, [.l 12]⟩, ⟨.t 59, none, .bin .eql, [.t 58, .c (.i .i64 0)]⟩, ⟨.t 60, none, .mv, [.t 59]⟩, ⟨.t 61, some (.t 60, true), .mv, [.l 11]⟩, ⟨.t 62, some (.t 60, true), .mv, [.l 1]⟩, ⟨.t 63, some (.t 60, true), .bin .gtr, [.t 61, .t 62]⟩, ⟨.t 64, none, .pick, [.t 60, .t 63, .c (.b false)]⟩]) (.cond (.t 64) (.reg [⟨.t 65, none, .mv, [.l 0]⟩, ⟨.t 66, none, .fad 0, [.l 8]⟩, ⟨.t 67, none, .ld none, [.t 66]⟩, ⟨.t 68, none, .mv, [.l 11]⟩, ⟨.t 69, none, .mv, [.l 10]⟩, ⟨.t 70, none, .call (N k_expire_Timers_Arm), [.t 65, .t 67, .t 68, .t 69]⟩]) .skip))) (.seq (.reg [⟨.t 71, none, .fad 0, [.l 8]⟩, ⟨.t 72, none, .ld none, [.t 71]⟩, ⟨.t 73, none, .mv, [.l 6]⟩, ⟨.t 74, none, .mv, [.l 1]⟩, ⟨.t 75, none, .build [.i .i64 0, .i .i64 0, .i .i64 0] [(0, 1), (1, 1), (2, 1)], [.t 72, .t 73, .t 74]⟩, ⟨.no, none, .st 3, [.l 4, .t 75]⟩, ⟨.l 5, none, .mv, [.c (.b true)]⟩]) .ret))
noncomputable def D_expire_Timers_Take_7 (F : Nat → Option AFn) (N : Nat → Nat) (Q : AV → Lg → Prop) (x0 : AV) (x1 : AV) (x4 : AV) (x6 : AV) (x8 : AV) (x10 : AV) (L : Lg) : Prop :=
 CallL F (N k_clock_Next) [x6, x10, x1] L fun v1 L1 =>
 wpOp F (.ext 0) [v1] L1 fun v2 L2 =>
 wpOp F (.ext 1) [v1] L2 fun v3 L3 =>
 wpOp F (.bin .eql) [v3, (.i .i64 0)] L3 fun v4 L4 =>
 gdOp F v4 true .mv [v2] L4 fun v5 L5 =>
 gdOp F v4 true .mv [x1] L5 fun v6 L6 =>
 gdOp F v4 true (.bin .gtr) [v5, v6] L6 fun v7 L7 =>
 wpOp F .pick [v4, v7, (.b false)] L7 fun v8 L8 =>
 condW v8
 (wpOp F (.fad 0) [x8] L8 fun v9 L9 =>
 wpOp F (.ld none) [v9] L9 fun v10 L10 =>
 CallL F (N k_expire_Timers_Arm) [x0, v10, v2, x10] L10 fun v11 L11 =>
 wpOp F (.fad 0) [x8] L11 fun v12 L12 =>
 wpOp F (.ld none) [v12] L12 fun v13 L13 =>
 wpOp F (.build [.i .i64 0, .i .i64 0, .i .i64 0] [(0, 1), (1, 1), (2, 1)]) [v13, x6, x1] L13 fun v14 L14 =>
 wpOp F (.st 3) [x4, v14] L14 fun _ L15 =>
 fin1 (resVL Env.nil Env.nil L15 [.cell (.c x4) (some 3), .tmp (.c (.b true))]) Q L15)
 (wpOp F (.fad 0) [x8] L8 fun v16 L16 =>
 wpOp F (.ld none) [v16] L16 fun v17 L17 =>
 wpOp F (.build [.i .i64 0, .i .i64 0, .i .i64 0] [(0, 1), (1, 1), (2, 1)]) [v17, x6, x1] L17 fun v18 L18 =>
 wpOp F (.st 3) [x4, v18] L18 fun _ L19 =>
 fin1 (resVL Env.nil Env.nil L19 [.cell (.c x4) (some 3), .tmp (.c (.b true))]) Q L19)
theorem e_expire_Timers_Take_7 (F : Nat → Option AFn) (N : Nat → Nat) (Q : AV → Lg → Prop) (l t : Env) (L : Lg) : wp F (q_expire_Timers_Take_7 N) l t L (fin [.cell (.l 4) (some 3), .tmp (.l 5)] Q) (fun _ _ _ _ => False) (fin [.cell (.l 4) (some 3), .tmp (.l 5)] Q) = D_expire_Timers_Take_7 F N Q (l 0) (l 1) (l 4) (l 6) (l 8) (l 10) L := by kernel_rfl
def q_expire_Timers_Take_6a (N : Nat → Nat) : ACode := (.reg [⟨.t 45, none, .mv, [.l 0]⟩, ⟨.t 46, none, .nilchk, [.t 45]⟩, ⟨.t 47, none, .fad 1, [.t 46]⟩, ⟨.t 48, none, .ld none, [.t 47]⟩, ⟨.t 49, none, .fad 0, [.l 8]⟩, ⟨.t 50, none, .ld none, [.t 49]⟩, ⟨.no, none, .mdel, [.t 48, .t 50]⟩])
def q_expire_Timers_Take_6 (N : Nat → Nat) : ACode := (.seq (q_expire_Timers_Take_6a N) (q_expire_Timers_Take_7 N))
noncomputable def D_expire_Timers_Take_6 (F : Nat → Option AFn) (N : Nat → Nat) (Q : AV → Lg → Prop) (x0 : AV) (x1 : AV) (x4 : AV) (x6 : AV) (x8 : AV) (x10 : AV) (L : Lg) : Prop :=
 wpOp F .nilchk [x0] L fun v1 L1 =>
 wpOp F (.fad 1) [v1] L1 fun v2 L2 =>
 wpOp F (.ld none) [v2] L2 fun v3 L3 =>
 wpOp F (.fad 0) [x8] L3 fun v4 L4 =>
 wpOp F (.ld none) [v4] L4 fun v5 L5 =>
 wpOp F .mdel [v3, v5] L5 fun _ L6 =>
 D_expire_Timers_Take_7 F N Q x0 x1 x4 x6 x8 x10 L6
theorem e_expire_Timers_Take_6 (F : Nat → Option AFn) (N : Nat → Nat) (Q : AV → Lg → Prop) (l t : Env) (L : Lg) : wp F (q_expire_Timers_Take_6 N) l t L (fin [.cell (.l 4) (some 3), .tmp (.l 5)] Q) (fun _ _ _ _ => False) (fin [.cell (.l 4) (some 3), .tmp (.l 5)] Q) = D_expire_Timers_Take_6 F N Q (l 0) (l 1) (l 4) (l 6) (l 8) (l 10) L := Eq.trans (wpq_seq F (q_expire_Timers_Take_6a N) (q_expire_Timers_Take_7 N) l t L (fin [.cell (.l 4) (some 3), .tmp (.l 5)] Q) (fun _ _ _ _ => False) (fin [.cell (.l 4) (some 3), .tmp (.l 5)] Q)) (Eq.trans (congrArg (fun Z : Kn => wp F (q_expire_Timers_Take_6a N) l t L Z (fun _ _ _ _ => False) (fin [.cell (.l 4) (some 3), .tmp (.l 5)] Q)) (funext fun l => funext fun t => funext fun L => e_expire_Timers_Take_7 F N Q l t L)) (by kernel_rfl))
def q_expire_Timers_Take_5a (N : Nat → Nat) : ACode := (.reg [⟨.t 38, none, .mv, [.l 0]⟩, ⟨.t 39, none, .nilchk, [.t 38]⟩, ⟨.t 40, none, .fad 1, [.t 39]⟩, ⟨.t 41, none, .ld none, [.t 40]⟩, ⟨.t 42, none, .fad 0, [.l 8]⟩, ⟨.t 43, none, .ld none, [.t 42]⟩, ⟨.t 44, none, .lkup (.i .i64 0) false, [.t 41, .t 43]⟩, ⟨.l 10, none, .mv, [.t 44]⟩])
def q_expire_Timers_Take_5 (N : Nat → Nat) : ACode := (.seq (q_expire_Timers_Take_5a N) (q_expire_Timers_Take_6 N))
noncomputable def D_expire_Timers_Take_5 (F : Nat → Option AFn) (N : Nat → Nat) (Q : AV → Lg → Prop) (x0 : AV) (x1 : AV) (x4 : AV) (x6 : AV) (x8 : AV) (L : Lg) : Prop :=
 wpOp F .nilchk [x0] L fun v1 L1 =>
 wpOp F (.fad 1) [v1] L1 fun v2 L2 =>
 wpOp F (.ld none) [v2] L2 fun v3 L3 =>
 wpOp F (.fad 0) [x8] L3 fun v4 L4 =>
 wpOp F (.ld none) [v4] L4 fun v5 L5 =>
 wpOp F (.lkup (.i .i64 0) false) [v3, v5] L5 fun v6 L6 =>
 D_expire_Timers_Take_6 F N Q x0 x1 x4 x6 x8 v6 L6
theorem e_expire_Timers_Take_5 (F : Nat → Option AFn) (N : Nat → Nat) (Q : AV → Lg → Prop) (l t : Env) (L : Lg) : wp F (q_expire_Timers_Take_5 N) l t L (fin [.cell (.l 4) (some 3), .tmp (.l 5)] Q) (fun _ _ _ _ => False) (fin [.cell (.l 4) (some 3), .tmp (.l 5)] Q) = D_expire_Timers_Take_5 F N Q (l 0) (l 1) (l 4) (l 6) (l 8) L := Eq.trans (wpq_seq F (q_expire_Timers_Take_5a N) (q_expire_Timers_Take_6 N) l t L (fin [.cell (.l 4) (some 3), .tmp (.l 5)] Q) (fun _ _ _ _ => False) (fin [.cell (.l 4) (some 3), .tmp (.l 5)] Q)) (Eq.trans (congrArg (fun Z : Kn => wp F (q_expire_Timers_Take_5a N) l t L Z (fun _ _ _ _ => False) (fin [.cell (.l 4) (some 3), .tmp (.l 5)] Q)) (funext fun l => funext fun t => funext fun L => e_expire_Timers_Take_6 F N Q l t L)) (by kernel_rfl))
def q_expire_Timers_Take_4a (N : Nat → Nat) : ACode := (.reg [⟨.t 31, none, .mv, [.l 0]⟩, ⟨.t 32, none, .nilchk, [.t 31]⟩, ⟨.t 33, none, .fad 0, [.t 32]⟩, ⟨.t 34, none, .ld none, [.t 33]⟩, ⟨.t 35, none, .call (N k_heap_Heap_Pop), [.t 34]⟩, ⟨.t 30, none, .mv, [.t 35]⟩, ⟨.t 36, none, .ext 0, [.t 30]⟩, ⟨.t 37, none, .ext 1, [.t 30]⟩, ⟨.l 8, none, .alloc [.i .i64 0, .i .i64 0, .i .i64 0], []⟩, ⟨.no, none, .st 3, [.l 8, .t 36]⟩, ⟨.t 9, none, .mv, [.t 37]⟩])
def q_expire_Timers_Take_4 (N : Nat → Nat) : ACode := (.seq (q_expire_Timers_Take_4a N) (q_expire_Timers_Take_5 N))
noncomputable def D_expire_Timers_Take_4 (F : Nat → Option AFn) (N : Nat → Nat) (Q : AV → Lg → Prop) (x0 : AV) (x1 : AV) (x4 : AV) (x6 : AV) (L : Lg) : Prop :=
 wpOp F .nilchk [x0] L fun v1 L1 =>
 wpOp F (.fad 0) [v1] L1 fun v2 L2 =>
 wpOp F (.ld none) [v2] L2 fun v3 L3 =>
 CallL F (N k_heap_Heap_Pop) [v3] L3 fun v4 L4 =>
 wpOp F (.ext 0) [v4] L4 fun v5 L5 =>
 wpOp F (.ext 1) [v4] L5 fun v6 L6 =>
 wpOp F (.alloc [.i .i64 0, .i .i64 0, .i .i64 0]) [] L6 fun v7 L7 =>
 wpOp F (.st 3) [v7, v5] L7 fun _ L8 =>
 D_expire_Timers_Take_5 F N Q x0 x1 x4 x6 v7 L8
theorem e_expire_Timers_Take_4 (F : Nat → Option AFn) (N : Nat → Nat) (Q : AV → Lg → Prop) (l t : Env) (L : Lg) : wp F (q_expire_Timers_Take_4 N) l t L (fin [.cell (.l 4) (some 3), .tmp (.l 5)] Q) (fun _ _ _ _ => False) (fin [.cell (.l 4) (some 3), .tmp (.l 5)] Q) = D_expire_Timers_Take_4 F N Q (l 0) (l 1) (l 4) (l 6) L := Eq.trans (wpq_seq F (q_expire_Timers_Take_4a N) (q_expire_Timers_Take_5 N) l t L (fin [.cell (.l 4) (some 3), .tmp (.l 5)] Q) (fun _ _ _ _ => False) (fin [.cell (.l 4) (some 3), .tmp (.l 5)] Q)) (Eq.trans (congrArg (fun Z : Kn => wp F (q_expire_Timers_Take_4a N) l t L Z (fun _ _ _ _ => False) (fin [.cell (.l 4) (some 3), .tmp (.l 5)] Q)) (funext fun l => funext fun t => funext fun L => e_expire_Timers_Take_5 F N Q l t L)) (by kernel_rfl))
def q_expire_Timers_Take_3a (N : Nat → Nat) : ACode := (.seq (.reg [⟨.t 18, none, .mv, [.l 7]⟩, ⟨.t 19, none, .un .not, [.t 18]⟩, ⟨.t 20, none, .mv, [.t 19]⟩, ⟨.t 21, some (.t 20, false), .mv, [.l 1]⟩, ⟨.t 22, some (.t 20, false), .bin .lss, [.t 21, .c (.i .i64 0)]⟩, ⟨.t 23, none, .pick, [.t 20, .c (.b true), .t 22]⟩, ⟨.t 24, none, .mv, [.t 23]⟩, ⟨.t 25, some (.t 24, false), .mv, [.l 6]⟩, ⟨.t 26, some (.t 24, false), .mv, [.l 1]⟩, ⟨.t 27, some (.t 24, false), .bin .gtr, [.t 25, .t 26]⟩, ⟨.t 28, none, .pick, [.t 24, .c (.b true), .t 27]⟩]) (.cond (.t 28) (.seq (.reg [⟨.t 29, none, .build [.i .i64 0, .i .i64 0, .i .i64 0] [], []⟩, ⟨.no, none, .st 3, [.l 4, .t 29]⟩, ⟨.l 5, none, .mv, [.c (.b false)]⟩]) .ret) .skip))
def q_expire_Timers_Take_3 (N : Nat → Nat) : ACode := (.seq (q_expire_Timers_Take_3a N) (q_expire_Timers_Take_4 N))
noncomputable def D_expire_Timers_Take_3 (F : Nat → Option AFn) (N : Nat → Nat) (Q : AV → Lg → Prop) (x0 : AV) (x1 : AV) (x4 : AV) (x6 : AV) (x7 : AV) (L : Lg) : Prop :=
 wpOp F (.un .not) [x7] L fun v1 L1 =>
 gdOp F v1 false .mv [x1] L1 fun v2 L2 =>
 gdOp F v1 false (.bin .lss) [v2, (.i .i64 0)] L2 fun v3 L3 =>
 wpOp F .pick [v1, (.b true), v3] L3 fun v4 L4 =>
 gdOp F v4 false .mv [x6] L4 fun v5 L5 =>
 gdOp F v4 false .mv [x1] L5 fun v6 L6 =>
 gdOp F v4 false (.bin .gtr) [v5, v6] L6 fun v7 L7 =>
 wpOp F .pick [v4, (.b true), v7] L7 fun v8 L8 =>
 condW v8
 (wpOp F (.build [.i .i64 0, .i .i64 0, .i .i64 0] []) [] L8 fun v9 L9 =>
 wpOp F (.st 3) [x4, v9] L9 fun _ L10 =>
 fin1 (resVL Env.nil Env.nil L10 [.cell (.c x4) (some 3), .tmp (.c (.b false))]) Q L10)
 (D_expire_Timers_Take_4 F N Q x0 x1 x4 x6 L8)
theorem e_expire_Timers_Take_3 (F : Nat → Option AFn) (N : Nat → Nat) (Q : AV → Lg → Prop) (l t : Env) (L : Lg) : wp F (q_expire_Timers_Take_3 N) l t L (fin [.cell (.l 4) (some 3), .tmp (.l 5)] Q) (fun _ _ _ _ => False) (fin [.cell (.l 4) (some 3), .tmp (.l 5)] Q) = D_expire_Timers_Take_3 F N Q (l 0) (l 1) (l 4) (l 6) (l 7) L := Eq.trans (wpq_seq F (q_expire_Timers_Take_3a N) (q_expire_Timers_Take_4 N) l t L (fin [.cell (.l 4) (some 3), .tmp (.l 5)] Q) (fun _ _ _ _ => False) (fin [.cell (.l 4) (some 3), .tmp (.l 5)] Q)) (Eq.trans (congrArg (fun Z : Kn => wp F (q_expire_Timers_Take_3a N) l t L Z (fun _ _ _ _ => False) (fin [.cell (.l 4) (some 3), .tmp (.l 5)] Q)) (funext fun l => funext fun t => funext fun L => e_expire_Timers_Take_4 F N Q l t L)) (by kernel_rfl))
def q_expire_Timers_Take_2a (N : Nat → Nat) : ACode := (.reg [⟨.t 14, none, .mv, [.l 0]⟩, ⟨.t 15, none, .call (N k_expire_Timers_Next), [.t 14]⟩, ⟨.t 13, none, .mv, [.t 15]⟩, ⟨.t 16, none, .ext 0, [.t 13]⟩, ⟨.t 17, none, .ext 1, [.t 13]⟩, ⟨.l 6, none, .mv, [.t 16]⟩, ⟨.l 7, none, .mv, [.t 17]⟩])
def q_expire_Timers_Take_2 (N : Nat → Nat) : ACode := (.seq (q_expire_Timers_Take_2a N) (q_expire_Timers_Take_3 N))
noncomputable def D_expire_Timers_Take_2 (F : Nat → Option AFn) (N : Nat → Nat) (Q : AV → Lg → Prop) (x0 : AV) (x1 : AV) (x4 : AV) (L : Lg) : Prop :=
 CallL F (N k_expire_Timers_Next) [x0] L fun v1 L1 =>
 wpOp F (.ext 0) [v1] L1 fun v2 L2 =>
 wpOp F (.ext 1) [v1] L2 fun v3 L3 =>
 D_expire_Timers_Take_3 F N Q x0 x1 x4 v2 v3 L3
theorem e_expire_Timers_Take_2 (F : Nat → Option AFn) (N : Nat → Nat) (Q : AV → Lg → Prop) (l t : Env) (L : Lg) : wp F (q_expire_Timers_Take_2 N) l t L (fin [.cell (.l 4) (some 3), .tmp (.l 5)] Q) (fun _ _ _ _ => False) (fin [.cell (.l 4) (some 3), .tmp (.l 5)] Q) = D_expire_Timers_Take_2 F N Q (l 0) (l 1) (l 4) L := Eq.trans (wpq_seq F (q_expire_Timers_Take_2a N) (q_expire_Timers_Take_3 N) l t L (fin [.cell (.l 4) (some 3), .tmp (.l 5)] Q) (fun _ _ _ _ => False) (fin [.cell (.l 4) (some 3), .tmp (.l 5)] Q)) (Eq.trans (congrArg (fun Z : Kn => wp F (q_expire_Timers_Take_2a N) l t L Z (fun _ _ _ _ => False) (fin [.cell (.l 4) (some 3), .tmp (.l 5)] Q)) (funext fun l => funext fun t => funext fun L => e_expire_Timers_Take_3 F N Q l t L)) (by kernel_rfl))
def q_expire_Timers_Take_1a (N : Nat → Nat) : ACode := (.reg [⟨.l 4, none, .alloc [.i .i64 0, .i .i64 0, .i .i64 0], []⟩, ⟨.l 5, none, .mv, [.c (.b false)]⟩])
def q_expire_Timers_Take_1 (N : Nat → Nat) : ACode := (.seq (q_expire_Timers_Take_1a N) (q_expire_Timers_Take_2 N))
noncomputable def D_expire_Timers_Take_1 (F : Nat → Option AFn) (N : Nat → Nat) (Q : AV → Lg → Prop) (x0 : AV) (x1 : AV) (L : Lg) : Prop :=
 wpOp F (.alloc [.i .i64 0, .i .i64 0, .i .i64 0]) [] L fun v1 L1 =>
 D_expire_Timers_Take_2 F N Q x0 x1 v1 L1
theorem e_expire_Timers_Take_1 (F : Nat → Option AFn) (N : Nat → Nat) (Q : AV → Lg → Prop) (l t : Env) (L : Lg) : wp F (q_expire_Timers_Take_1 N) l t L (fin [.cell (.l 4) (some 3), .tmp (.l 5)] Q) (fun _ _ _ _ => False) (fin [.cell (.l 4) (some 3), .tmp (.l 5)] Q) = D_expire_Timers_Take_1 F N Q (l 0) (l 1) L := Eq.trans (wpq_seq F (q_expire_Timers_Take_1a N) (q_expire_Timers_Take_2 N) l t L (fin [.cell (.l 4) (some 3), .tmp (.l 5)] Q) (fun _ _ _ _ => False) (fin [.cell (.l 4) (some 3), .tmp (.l 5)] Q)) (Eq.trans (congrArg (fun Z : Kn => wp F (q_expire_Timers_Take_1a N) l t L Z (fun _ _ _ _ => False) (fin [.cell (.l 4) (some 3), .tmp (.l 5)] Q)) (funext fun l => funext fun t => funext fun L => e_expire_Timers_Take_2 F N Q l t L)) (by kernel_rfl))
/-- (*tarpaulin/expire.Timers).Take -/
def c_expire_Timers_Take (N : Nat → Nat) : AFn := ⟨q_expire_Timers_Take_1 N, [.cell (.l 4) (some 3), .tmp (.l 5)]⟩
structure H_expire_Timers_Take (N : Nat → Nat) (F : Nat → Option AFn) : Prop where
  code : F (N k_expire_Timers_Take) = some (c_expire_Timers_Take N)
  expire_Timers_Next : H_expire_Timers_Next N F
  heap_Heap_Pop : H_heap_Heap_Pop N F
  clock_Next : H_clock_Next N F
  expire_Timers_Arm : H_expire_Timers_Arm N F
theorem r_expire_Timers_Take {F : Nat → Option AFn} {N : Nat → Nat} (h : F (N k_expire_Timers_Take) = some (c_expire_Timers_Take N)) {Q : AV → Lg → Prop} {a0 a1 : AV} {L : Lg} (e : D_expire_Timers_Take_1 F N Q a0 a1 L) : CallL F (N k_expire_Timers_Take) [a0, a1] L Q :=
  CallL.of_wp h (Eq.mpr (Eq.trans (e_expire_Timers_Take_1 F N Q (initE [a0, a1] 0) Env.nil L) (by kernel_rfl : _ = D_expire_Timers_Take_1 F N Q a0 a1 L)) e)
def q_chanq_Chan_deliver_1 (N : Nat → Nat) : ACode := (.seq (.reg [⟨.l 4, none, .mv, [.c (.sl none 0 0 0)]⟩]) (.seq (.reg [⟨.t 8, none, .mv, [.l 0]⟩, ⟨.t 9, none, .nilchk, [.t 8]⟩, ⟨.t 10, none, .fad 1, [.t 9]⟩, ⟨.t 11, none, .ld none, [.t 10]⟩, ⟨.t 12, none, .call (N k_wait_Queue_Pop), [.t 11]⟩, ⟨.t 7, none, .mv, [.t 12]⟩, ⟨.t 13, none, .ext 0, [.t 7]⟩, ⟨.t 14, none, .ext 1, [.t 7]⟩, ⟨.l 5, none, .alloc [.i .i64 0, .i .i64 0, .i .i64 0], []⟩, ⟨.no, none, .st 3, [.l 5, .t 13]⟩, ⟨.l 6, none, .mv, [.t 14]⟩]) (.seq (.seq (.reg [⟨.t 15, none, .mv, [.l 6]⟩, ⟨.t 16, none, .un .not, [.t 15]⟩]) (.cond (.t 16) (.seq (.reg [⟨.l 4, none, .mv, [.c (.sl none 0 0 0)]⟩]) .ret) .skip)) (.seq (.reg [⟨.t 17, none, .fad 0, [.l 5]⟩, ⟨.t 18, none, .ld none, [.t 17]⟩, ⟨.t 19, none, .fad 1, [.l 5]⟩, ⟨.t 20, none, .ld none, [.t 19]⟩, ⟨.t 21, none, .mv, [.l 1]⟩, ⟨.t 22, none, .build [.i .i64 0, .i .i64 0, .i .i64 0, .b false, .b false] [(0, 1), (1, 1), (2, 1), (3, 1)], [.t 18, .t 20, .t 21, .c (.b true)]⟩, ⟨.t 23, none, .bslice [.i .i64 0, .i .i64 0, .i .i64 0, .b false, .b false] 1 5 [0], [.t 22]⟩, ⟨.l 4, none, .mv, [.t 23]⟩]) .ret))))
noncomputable def D_chanq_Chan_deliver_1 (F : Nat → Option AFn) (N : Nat → Nat) (Q : AV → Lg → Prop) (x0 : AV) (x1 : AV) (L : Lg) : Prop :=
 wpOp F .nilchk [x0] L fun v1 L1 =>
 wpOp F (.fad 1) [v1] L1 fun v2 L2 =>
 wpOp F (.ld none) [v2] L2 fun v3 L3 =>
 CallL F (N k_wait_Queue_Pop) [v3] L3 fun v4 L4 =>
 wpOp F (.ext 0) [v4] L4 fun v5 L5 =>
 wpOp F (.ext 1) [v4] L5 fun v6 L6 =>
 wpOp F (.alloc [.i .i64 0, .i .i64 0, .i .i64 0]) [] L6 fun v7 L7 =>
 wpOp F (.st 3) [v7, v5] L7 fun _ L8 =>
 wpOp F (.un .not) [v6] L8 fun v9 L9 =>
 condW v9
 (fin1 (some (.sl none 0 0 0)) Q L9)
 (wpOp F (.fad 0) [v7] L9 fun v10 L10 =>
 wpOp F (.ld none) [v10] L10 fun v11 L11 =>
 wpOp F (.fad 1) [v7] L11 fun v12 L12 =>
 wpOp F (.ld none) [v12] L12 fun v13 L13 =>
 wpOp F (.build [.i .i64 0, .i .i64 0, .i .i64 0, .b false, .b false] [(0, 1), (1, 1), (2, 1), (3, 1)]) [v11, v13, x1, (.b true)] L13 fun v14 L14 =>
 wpOp F (.bslice [.i .i64 0, .i .i64 0, .i .i64 0, .b false, .b false] 1 5 [0]) [v14] L14 fun v15 L15 =>
 fin1 (some v15) Q L15)
theorem e_chanq_Chan_deliver_1 (F : Nat → Option AFn) (N : Nat → Nat) (Q : AV → Lg → Prop) (l t : Env) (L : Lg) : wp F (q_chanq_Chan_deliver_1 N) l t L (fin [.tmp (.l 4)] Q) (fun _ _ _ _ => False) (fin [.tmp (.l 4)] Q) = D_chanq_Chan_deliver_1 F N Q (l 0) (l 1) L := by kernel_rfl
/-- (*tarpaulin/chanq.Chan).deliver -/
def c_chanq_Chan_deliver (N : Nat → Nat) : AFn := ⟨q_chanq_Chan_deliver_1 N, [.tmp (.l 4)]⟩
structure H_chanq_Chan_deliver (N : Nat → Nat) (F : Nat → Option AFn) : Prop where
  code : F (N k_chanq_Chan_deliver) = some (c_chanq_Chan_deliver N)
  wait_Queue_Pop : H_wait_Queue_Pop N F
theorem r_chanq_Chan_deliver {F : Nat → Option AFn} {N : Nat → Nat} (h : F (N k_chanq_Chan_deliver) = some (c_chanq_Chan_deliver N)) {Q : AV → Lg → Prop} {a0 a1 : AV} {L : Lg} (e : D_chanq_Chan_deliver_1 F N Q a0 a1 L) : CallL F (N k_chanq_Chan_deliver) [a0, a1] L Q :=
  CallL.of_wp h (Eq.mpr (Eq.trans (e_chanq_Chan_deliver_1 F N Q (initE [a0, a1] 0) Env.nil L) (by kernel_rfl : _ = D_chanq_Chan_deliver_1 F N Q a0 a1 L)) e)
def q_chanq_Chan_Put_1 (N : Nat → Nat) : ACode := (.seq (.reg [⟨.l 4, none, .mv, [.c (.sl none 0 0 0)]⟩, ⟨.l 5, none, .mv, [.c (.b false)]⟩]) (.seq (.seq (.reg [⟨.t 6, none, .mv, [.l 0]⟩, ⟨.t 7, none, .eq false .ptr, [.t 6, .c (.p none)]⟩, ⟨.t 8, none, .mv, [.t 7]⟩, ⟨.t 9, some (.t 8, false), .mv, [.l 0]⟩, ⟨.t 10, some (.t 8, false), .nilchk, [.t 9]⟩, ⟨.t 11, some (.t 8, false), .fad 3, [.t 10]⟩, ⟨.t 12, some (.t 8, false), .ld none, [.t 11]⟩, ⟨.t 13, some (.t 8, false), .un .not, [.t 12]⟩, ⟨.t 14, none, .pick, [.t 8, .c (.b true), .t 13]⟩]) (.cond (.t 14) (.seq (.reg [⟨.l 4, none, .mv, [.c (.sl none 0 0 0)]⟩, ⟨.l 5, none, .mv, [.c (.b false)]⟩]) .ret) .skip)) (.seq (.seq (.reg [⟨.t 15, none, .mv, [.l 0]⟩, ⟨.t 16, none, .mv, [.l 1]⟩, ⟨.t 17, none, .call (N k_chanq_Chan_deliver), [.t 15, .t 16]⟩, ⟨.l 4, none, .mv, [.t 17]⟩]) (.seq (.reg [⟨.t 18, none, .mv, [.l 4]⟩, ⟨.t 19, none, .lenSl, [.t 18]⟩, ⟨.t 20, none, .bin .gtr, [.t 19, .c (.i .i64 0)]⟩]) (.cond (.t 20) (.seq (.reg [⟨.t 21, none, .mv, [.l 4]⟩, ⟨.l 4, none, .mv, [.t 21]⟩, ⟨.l 5, none, .mv, [.c (.b true)]⟩]) .ret) .skip))) (.seq (.reg [⟨.t 22, none, .mv, [.l 0]⟩, ⟨.t 23, none, .nilchk, [.t 22]⟩, ⟨.t 24, none, .fad 0, [.t 23]⟩, ⟨.t 25, none, .ld none, [.t 24]⟩, ⟨.t 26, none, .mv, [.l 1]⟩, ⟨.t 27, none, .call (N k_ring_Ring_Push), [.t 25, .t 26]⟩, ⟨.l 4, none, .mv, [.c (.sl none 0 0 0)]⟩, ⟨.l 5, none, .mv, [.t 27]⟩]) .ret))))
noncomputable def D_chanq_Chan_Put_1 (F : Nat → Option AFn) (N : Nat → Nat) (Q : AV → Lg → Prop) (x0 : AV) (x1 : AV) (L : Lg) : Prop :=
 wpOp F (.eq false .ptr) [x0, (.p none)] L fun v1 L1 =>
 gdOp F v1 false .mv [x0] L1 fun v2 L2 =>
 gdOp F v1 false .nilchk [v2] L2 fun v3 L3 =>
 gdOp F v1 false (.fad 3) [v3] L3 fun v4 L4 =>
 gdOp F v1 false (.ld none) [v4] L4 fun v5 L5 =>
 gdOp F v1 false (.un .not) [v5] L5 fun v6 L6 =>
 wpOp F .pick [v1, (.b true), v6] L6 fun v7 L7 =>
 condW v7
 (fin1 (some (.tup [(.sl none 0 0 0), (.b false)])) Q L7)
 (CallL F (N k_chanq_Chan_deliver) [x0, x1] L7 fun v8 L8 =>
 wpOp F .lenSl [v8] L8 fun v9 L9 =>
 wpOp F (.bin .gtr) [v9, (.i .i64 0)] L9 fun v10 L10 =>
 condW v10
 (fin1 (some (.tup [v8, (.b true)])) Q L10)
 (wpOp F .nilchk [x0] L10 fun v11 L11 =>
 wpOp F (.fad 0) [v11] L11 fun v12 L12 =>
 wpOp F (.ld none) [v12] L12 fun v13 L13 =>
 CallL F (N k_ring_Ring_Push) [v13, x1] L13 fun v14 L14 =>
 fin1 (some (.tup [(.sl none 0 0 0), v14])) Q L14))
theorem e_chanq_Chan_Put_1 (F : Nat → Option AFn) (N : Nat → Nat) (Q : AV → Lg → Prop) (l t : Env) (L : Lg) : wp F (q_chanq_Chan_Put_1 N) l t L (fin [.tmp (.l 4), .tmp (.l 5)] Q) (fun _ _ _ _ => False) (fin [.tmp (.l 4), .tmp (.l 5)] Q) = D_chanq_Chan_Put_1 F N Q (l 0) (l 1) L := by kernel_rfl
/-- (*tarpaulin/chanq.Chan).Put -/
def c_chanq_Chan_Put (N : Nat → Nat) : AFn := ⟨q_chanq_Chan_Put_1 N, [.tmp (.l 4), .tmp (.l 5)]⟩
structure H_chanq_Chan_Put (N : Nat → Nat) (F : Nat → Option AFn) : Prop where
  code : F (N k_chanq_Chan_Put) = some (c_chanq_Chan_Put N)
  chanq_Chan_deliver : H_chanq_Chan_deliver N F
  ring_Ring_Push : H_ring_Ring_Push N F
theorem r_chanq_Chan_Put {F : Nat → Option AFn} {N : Nat → Nat} (h : F (N k_chanq_Chan_Put) = some (c_chanq_Chan_Put N)) {Q : AV → Lg → Prop} {a0 a1 : AV} {L : Lg} (e : D_chanq_Chan_Put_1 F N Q a0 a1 L) : CallL F (N k_chanq_Chan_Put) [a0, a1] L Q :=
  CallL.of_wp h (Eq.mpr (Eq.trans (e_chanq_Chan_Put_1 F N Q (initE [a0, a1] 0) Env.nil L) (by kernel_rfl : _ = D_chanq_Chan_Put_1 F N Q a0 a1 L)) e)
def q_timer_Set_Fire_5 (N : Nat → Nat) : ACode := (.seq (.reg [⟨.t 25, none, .mv, [.l 0]⟩, ⟨.t 26, none, .nilchk, [.t 25]⟩, ⟨.t 27, none, .fad 0, [.t 26]⟩, ⟨.t 28, none, .ld none, [.t 27]⟩, ⟨.t 29, none, .fad 0, [.l 6]⟩, ⟨.t 30, none, .ld none, [.t 29]⟩, ⟨.t 31, none, .iad 4, [.t 28, .t 30]⟩, ⟨.t 32, none, .ld (some 4), [.t 31]⟩, ⟨.l 8, none, .alloc [.i .i64 0, .i .i64 0, .p none, .i .i64 0], []⟩, ⟨.no, none, .st 4, [.l 8, .t 32]⟩]) (.seq (.reg [⟨.t 33, none, .fad 0, [.l 6]⟩, ⟨.t 34, none, .ld none, [.t 33]⟩, ⟨.t 35, none, .fad 0, [.l 8]⟩, ⟨.t 36, none, .ld none, [.t 35]⟩, ⟨.t 37, none, .fad 1, [.l 6]⟩, ⟨.t 38, none, .ld none, [.t 37]⟩, ⟨.t 39, none, .fad 2, [.l 6]⟩, ⟨.t 40, none, .ld none, [.t 39]⟩, ⟨.t 41, none, .fad 1, [.l 8]⟩, ⟨.t 42, none, .ld none, [.t 41]⟩, ⟨.t 43, none, .build [.i .i64 0, .i .i64 0, .i .i64 0, .i .i64 0, .i .i64 0, .sl none 0 0 0, .b false] [(0, 1), (1, 1), (2, 1), (3, 1), (4, 1)], [.t 34, .t 36, .t 38, .t 40, .t 42]⟩, ⟨.l 9, none, .alloc [.i .i64 0, .i .i64 0, .i .i64 0, .i .i64 0, .i .i64 0, .sl none 0 0 0, .b false], []⟩, ⟨.no, none, .st 7, [.l 9, .t 43]⟩]) (.seq (.reg [⟨.t 45, none, .fad 2, [.l 8]⟩, ⟨.t 46, none, .ld none, [.t 45]⟩, ⟨.t 47, none, .mv, [.l 1]⟩, ⟨.t 48, none, .call (N k_chanq_Chan_Put), [.t 46, .t 47]⟩, ⟨.t 44, none, .mv, [.t 48]⟩, ⟨.t 49, none, .ext 0, [.t 44]⟩, ⟨.t 50, none, .ext 1, [.t 44]⟩, ⟨.t 51, none, .fad 5, [.l 9]⟩, ⟨.no, none, .st 1, [.t 51, .t 49]⟩, ⟨.t 52, none, .fad 6, [.l 9]⟩, ⟨.no, none, .st 1, [.t 52, .t 50]⟩]) (.seq (.reg [⟨.t 53, none, .ld (some 7), [.l 9]⟩, ⟨.no, none, .st 7, [.l 4, .t 53]⟩, ⟨.l 5, none, .mv, [.c (.b true)]⟩]) .ret))))
noncomputable def D_timer_Set_Fire_5 (F : Nat → Option AFn) (N : Nat → Nat) (Q : AV → Lg → Prop) (x0 : AV) (x1 : AV) (x4 : AV) (x6 : AV) (L : Lg) : Prop :=
 wpOp F .nilchk [x0] L fun v1 L1 =>
 wpOp F (.fad 0) [v1] L1 fun v2 L2 =>
 wpOp F (.ld none) [v2] L2 fun v3 L3 =>
 wpOp F (.fad 0) [x6] L3 fun v4 L4 =>
 wpOp F (.ld none) [v4] L4 fun v5 L5 =>
 wpOp F (.iad 4) [v3, v5] L5 fun v6 L6 =>
 wpOp F (.ld (some 4)) [v6] L6 fun v7 L7 =>
 wpOp F (.alloc [.i .i64 0, .i .i64 0, .p none, .i .i64 0]) [] L7 fun v8 L8 =>
 wpOp F (.st 4) [v8, v7] L8 fun _ L9 =>
 wpOp F (.fad 0) [x6] L9 fun v10 L10 =>
 wpOp F (.ld none) [v10] L10 fun v11 L11 =>
 wpOp F (.fad 0) [v8] L11 fun v12 L12 =>
 wpOp F (.ld none) [v12] L12 fun v13 L13 =>
 wpOp F (.fad 1) [x6] L13 fun v14 L14 =>
 wpOp F (.ld none) [v14] L14 fun v15 L15 =>
 wpOp F (.fad 2) [x6] L15 fun v16 L16 =>
 wpOp F (.ld none) [v16] L16 fun v17 L17 =>
 wpOp F (.fad 1) [v8] L17 fun v18 L18 =>
 wpOp F (.ld none) [v18] L18 fun v19 L19 =>
 wpOp F (.build [.i .i64 0, .i .i64 0, .i .i64 0, .i .i64 0, .i .i64 0, .sl none 0 0 0, .b false] [(0, 1), (1, 1), (2, 1), (3, 1), (4, 1)]) [v11, v13, v15, v17, v19] L19 fun v20 L20 =>
 wpOp F (.alloc [.i .i64 0, .i .i64 0, .i .i64 0, .i .i64 0, .i .i64 0, .sl none 0 0 0, .b false]) [] L20 fun v21 L21 =>
 wpOp F (.st 7) [v21, v20] L21 fun _ L22 =>
 wpOp F (.fad 2) [v8] L22 fun v23 L23 =>
 wpOp F (.ld none) [v23] L23 fun v24 L24 =>
 CallL F (N k_chanq_Chan_Put) [v24, x1] L24 fun v25 L25 =>
 wpOp F (.ext 0) [v25] L25 fun v26 L26 =>
 wpOp F (.ext 1) [v25] L26 fun v27 L27 =>
 wpOp F (.fad 5) [v21] L27 fun v28 L28 =>
 wpOp F (.st 1) [v28, v26] L28 fun _ L29 =>
 wpOp F (.fad 6) [v21] L29 fun v30 L30 =>
 wpOp F (.st 1) [v30, v27] L30 fun _ L31 =>
 wpOp F (.ld (some 7)) [v21] L31 fun v32 L32 =>
 wpOp F (.st 7) [x4, v32] L32 fun _ L33 =>
 fin1 (resVL Env.nil Env.nil L33 [.cell (.c x4) (some 7), .tmp (.c (.b true))]) Q L33
theorem e_timer_Set_Fire_5 (F : Nat → Option AFn) (N : Nat → Nat) (Q : AV → Lg → Prop) (l t : Env) (L : Lg) : wp F (q_timer_Set_Fire_5 N) l t L (fin [.cell (.l 4) (some 7), .tmp (.l 5)] Q) (fun _ _ _ _ => False) (fin [.cell (.l 4) (some 7), .tmp (.l 5)] Q) = D_timer_Set_Fire_5 F N Q (l 0) (l 1) (l 4) (l 6) L := by kernel_rfl
def q_timer_Set_Fire_4a (N : Nat → Nat) : ACode := (.seq (.reg [⟨.t 22, none, .mv, [.l 7]⟩, ⟨.t 23, none, .un .not, [.t 22]⟩]) (.cond (.t 23) (.seq (.reg [⟨.t 24, none, .build [.i .i64 0, .i .i64 0, .i .i64 0, .i .i64 0, .i .i64 0, .sl none 0 0 0, .b false] [], []⟩, ⟨.no, none, .st 7, [.l 4, .t 24]⟩, ⟨.l 5, none, .mv, [.c (.b false)]⟩]) .ret) .skip))
def q_timer_Set_Fire_4 (N : Nat → Nat) : ACode := (.seq (q_timer_Set_Fire_4a N) (q_timer_Set_Fire_5 N))
noncomputable def D_timer_Set_Fire_4 (F : Nat → Option AFn) (N : Nat → Nat) (Q : AV → Lg → Prop) (x0 : AV) (x1 : AV) (x4 : AV) (x6 : AV) (x7 : AV) (L : Lg) : Prop :=
 wpOp F (.un .not) [x7] L fun v1 L1 =>
 condW v1
 (wpOp F (.build [.i .i64 0, .i .i64 0, .i .i64 0, .i .i64 0, .i .i64 0, .sl none 0 0 0, .b false] []) [] L1 fun v2 L2 =>
 wpOp F (.st 7) [x4, v2] L2 fun _ L3 =>
 fin1 (resVL Env.nil Env.nil L3 [.cell (.c x4) (some 7), .tmp (.c (.b false))]) Q L3)
 (D_timer_Set_Fire_5 F N Q x0 x1 x4 x6 L1)
theorem e_timer_Set_Fire_4 (F : Nat → Option AFn) (N : Nat → Nat) (Q : AV → Lg → Prop) (l t : Env) (L : Lg) : wp F (q_timer_Set_Fire_4 N) l t L (fin [.cell (.l 4) (some 7), .tmp (.l 5)] Q) (fun _ _ _ _ => False) (fin [.cell (.l 4) (some 7), .tmp (.l 5)] Q) = D_timer_Set_Fire_4 F N Q (l 0) (l 1) (l 4) (l 6) (l 7) L := Eq.trans (wpq_seq F (q_timer_Set_Fire_4a N) (q_timer_Set_Fire_5 N) l t L (fin [.cell (.l 4) (some 7), .tmp (.l 5)] Q) (fun _ _ _ _ => False) (fin [.cell (.l 4) (some 7), .tmp (.l 5)] Q)) (Eq.trans (congrArg (fun Z : Kn => wp F (q_timer_Set_Fire_4a N) l t L Z (fun _ _ _ _ => False) (fin [.cell (.l 4) (some 7), .tmp (.l 5)] Q)) (funext fun l => funext fun t => funext fun L => e_timer_Set_Fire_5 F N Q l t L)) (by kernel_rfl))
def q_timer_Set_Fire_3a (N : Nat → Nat) : ACode := (.reg [⟨.t 14, none, .mv, [.l 0]⟩, ⟨.t 15, none, .nilchk, [.t 14]⟩, ⟨.t 16, none, .fad 1, [.t 15]⟩, ⟨.t 17, none, .ld none, [.t 16]⟩, ⟨.t 18, none, .mv, [.l 1]⟩, ⟨.t 19, none, .call (N k_expire_Timers_Take), [.t 17, .t 18]⟩, ⟨.t 13, none, .mv, [.t 19]⟩, ⟨.t 20, none, .ext 0, [.t 13]⟩, ⟨.t 21, none, .ext 1, [.t 13]⟩, ⟨.l 6, none, .alloc [.i .i64 0, .i .i64 0, .i .i64 0], []⟩, ⟨.no, none, .st 3, [.l 6, .t 20]⟩, ⟨.l 7, none, .mv, [.t 21]⟩])
def q_timer_Set_Fire_3 (N : Nat → Nat) : ACode := (.seq (q_timer_Set_Fire_3a N) (q_timer_Set_Fire_4 N))
noncomputable def D_timer_Set_Fire_3 (F : Nat → Option AFn) (N : Nat → Nat) (Q : AV → Lg → Prop) (x0 : AV) (x1 : AV) (x4 : AV) (L : Lg) : Prop :=
 wpOp F .nilchk [x0] L fun v1 L1 =>
 wpOp F (.fad 1) [v1] L1 fun v2 L2 =>
 wpOp F (.ld none) [v2] L2 fun v3 L3 =>
 CallL F (N k_expire_Timers_Take) [v3, x1] L3 fun v4 L4 =>
 wpOp F (.ext 0) [v4] L4 fun v5 L5 =>
 wpOp F (.ext 1) [v4] L5 fun v6 L6 =>
 wpOp F (.alloc [.i .i64 0, .i .i64 0, .i .i64 0]) [] L6 fun v7 L7 =>
 wpOp F (.st 3) [v7, v5] L7 fun _ L8 =>
 D_timer_Set_Fire_4 F N Q x0 x1 x4 v7 v6 L8
theorem e_timer_Set_Fire_3 (F : Nat → Option AFn) (N : Nat → Nat) (Q : AV → Lg → Prop) (l t : Env) (L : Lg) : wp F (q_timer_Set_Fire_3 N) l t L (fin [.cell (.l 4) (some 7), .tmp (.l 5)] Q) (fun _ _ _ _ => False) (fin [.cell (.l 4) (some 7), .tmp (.l 5)] Q) = D_timer_Set_Fire_3 F N Q (l 0) (l 1) (l 4) L := Eq.trans (wpq_seq F (q_timer_Set_Fire_3a N) (q_timer_Set_Fire_4 N) l t L (fin [.cell (.l 4) (some 7), .tmp (.l 5)] Q) (fun _ _ _ _ => False) (fin [.cell (.l 4) (some 7), .tmp (.l 5)] Q)) (Eq.trans (congrArg (fun Z : Kn => wp F (q_timer_Set_Fire_3a N) l t L Z (fun _ _ _ _ => False) (fin [.cell (.l 4) (some 7), .tmp (.l 5)] Q)) (funext fun l => funext fun t => funext fun L => e_timer_Set_Fire_4 F N Q l t L)) (by kernel_rfl))
def q_timer_Set_Fire_2a (N : Nat → Nat) : ACode := (.seq (.reg [⟨.t 10, none, .mv, [.l 0]⟩, ⟨.t 11, none, .eq false .ptr, [.t 10, .c (.p none)]⟩]) (.cond (.t 11) (.seq (.reg [⟨.t 12, none, .build [.i .i64 0, .i .i64 0, .i .i64 0, .i .i64 0, .i .i64 0, .sl none 0 0 0, .b false] [], []⟩, ⟨.no, none, .st 7, [.l 4, .t 12]⟩, ⟨.l 5, none, .mv, [.c (.b false)]⟩]) .ret) .skip))
def q_timer_Set_Fire_2 (N : Nat → Nat) : ACode := (.seq (q_timer_Set_Fire_2a N) (q_timer_Set_Fire_3 N))
noncomputable def D_timer_Set_Fire_2 (F : Nat → Option AFn) (N : Nat → Nat) (Q : AV → Lg → Prop) (x0 : AV) (x1 : AV) (x4 : AV) (L : Lg) : Prop :=
 wpOp F (.eq false .ptr) [x0, (.p none)] L fun v1 L1 =>
 condW v1
 (wpOp F (.build [.i .i64 0, .i .i64 0, .i .i64 0, .i .i64 0, .i .i64 0, .sl none 0 0 0, .b false] []) [] L1 fun v2 L2 =>
 wpOp F (.st 7) [x4, v2] L2 fun _ L3 =>
 fin1 (resVL Env.nil Env.nil L3 [.cell (.c x4) (some 7), .tmp (.c (.b false))]) Q L3)
 (D_timer_Set_Fire_3 F N Q x0 x1 x4 L1)
theorem e_timer_Set_Fire_2 (F : Nat → Option AFn) (N : Nat → Nat) (Q : AV → Lg → Prop) (l t : Env) (L : Lg) : wp F (q_timer_Set_Fire_2 N) l t L (fin [.cell (.l 4) (some 7), .tmp (.l 5)] Q) (fun _ _ _ _ => False) (fin [.cell (.l 4) (some 7), .tmp (.l 5)] Q) = D_timer_Set_Fire_2 F N Q (l 0) (l 1) (l 4) L := Eq.trans (wpq_seq F (q_timer_Set_Fire_2a N) (q_timer_Set_Fire_3 N) l t L (fin [.cell (.l 4) (some 7), .tmp (.l 5)] Q) (fun _ _ _ _ => False) (fin [.cell (.l 4) (some 7), .tmp (.l 5)] Q)) (Eq.trans (congrArg (fun Z : Kn => wp F (q_timer_Set_Fire_2a N) l t L Z (fun _ _ _ _ => False) (fin [.cell (.l 4) (some 7), .tmp (.l 5)] Q)) (funext fun l => funext fun t => funext fun L => e_timer_Set_Fire_3 F N Q l t L)) (by kernel_rfl))
def q_timer_Set_Fire_1a (N : Nat → Nat) : ACode := (.reg [⟨.l 4, none, .alloc [.i .i64 0, .i .i64 0, .i .i64 0, .i .i64 0, .i .i64 0, .sl none 0 0 0, .b false], []⟩, ⟨.l 5, none, .mv, [.c (.b false)]⟩])
def q_timer_Set_Fire_1 (N : Nat → Nat) : ACode := (.seq (q_timer_Set_Fire_1a N) (q_timer_Set_Fire_2 N))
noncomputable def D_timer_Set_Fire_1 (F : Nat → Option AFn) (N : Nat → Nat) (Q : AV → Lg → Prop) (x0 : AV) (x1 : AV) (L : Lg) : Prop :=
 wpOp F (.alloc [.i .i64 0, .i .i64 0, .i .i64 0, .i .i64 0, .i .i64 0, .sl none 0 0 0, .b false]) [] L fun v1 L1 =>
 D_timer_Set_Fire_2 F N Q x0 x1 v1 L1
theorem e_timer_Set_Fire_1 (F : Nat → Option AFn) (N : Nat → Nat) (Q : AV → Lg → Prop) (l t : Env) (L : Lg) : wp F (q_timer_Set_Fire_1 N) l t L (fin [.cell (.l 4) (some 7), .tmp (.l 5)] Q) (fun _ _ _ _ => False) (fin [.cell (.l 4) (some 7), .tmp (.l 5)] Q) = D_timer_Set_Fire_1 F N Q (l 0) (l 1) L := Eq.trans (wpq_seq F (q_timer_Set_Fire_1a N) (q_timer_Set_Fire_2 N) l t L (fin [.cell (.l 4) (some 7), .tmp (.l 5)] Q) (fun _ _ _ _ => False) (fin [.cell (.l 4) (some 7), .tmp (.l 5)] Q)) (Eq.trans (congrArg (fun Z : Kn => wp F (q_timer_Set_Fire_1a N) l t L Z (fun _ _ _ _ => False) (fin [.cell (.l 4) (some 7), .tmp (.l 5)] Q)) (funext fun l => funext fun t => funext fun L => e_timer_Set_Fire_2 F N Q l t L)) (by kernel_rfl))
/-- (*tarpaulin/timer.Set).Fire -/
def c_timer_Set_Fire (N : Nat → Nat) : AFn := ⟨q_timer_Set_Fire_1 N, [.cell (.l 4) (some 7), .tmp (.l 5)]⟩
structure H_timer_Set_Fire (N : Nat → Nat) (F : Nat → Option AFn) : Prop where
  code : F (N k_timer_Set_Fire) = some (c_timer_Set_Fire N)
  expire_Timers_Take : H_expire_Timers_Take N F
  chanq_Chan_Put : H_chanq_Chan_Put N F
theorem r_timer_Set_Fire {F : Nat → Option AFn} {N : Nat → Nat} (h : F (N k_timer_Set_Fire) = some (c_timer_Set_Fire N)) {Q : AV → Lg → Prop} {a0 a1 : AV} {L : Lg} (e : D_timer_Set_Fire_1 F N Q a0 a1 L) : CallL F (N k_timer_Set_Fire) [a0, a1] L Q :=
  CallL.of_wp h (Eq.mpr (Eq.trans (e_timer_Set_Fire_1 F N Q (initE [a0, a1] 0) Env.nil L) (by kernel_rfl : _ = D_timer_Set_Fire_1 F N Q a0 a1 L)) e)
def q_timer_Set_has_1 (N : Nat → Nat) : ACode := (.seq (.reg [⟨.l 4, none, .mv, [.c (.b false)]⟩]) (.seq (.reg [⟨.t 5, none, .mv, [.l 0]⟩, ⟨.t 6, none, .eq true .ptr, [.t 5, .c (.p none)]⟩, ⟨.t 7, none, .mv, [.t 6]⟩, ⟨.t 8, some (.t 7, true), .mv, [.l 1]⟩, ⟨.t 9, some (.t 7, true), .bin .geq, [.t 8, .c (.i .i64 0)]⟩, ⟨.t 10, none, .pick, [.t 7, .t 9, .c (.b false)]⟩, ⟨.t 11, none, .mv, [.t 10]⟩, ⟨.t 12, some (.t 11, true), .mv, [.l 1]⟩, ⟨.t 13, some (.t 11, true), .mv, [.l 0]⟩, ⟨.t 14, some (.t 11, true), .nilchk, [.t 13]⟩, ⟨.t 15, some (.t 11, true), .fad 0, [.t 14]⟩, ⟨.t 16, some (.t 11, true), .ld none, [.t 15]⟩, ⟨.t 17, some (.t 11, true), .lenSl, [.t 16]⟩, ⟨.t 18, some (.t 11, true), .bin .lss, [.t 12, .t 17]⟩, ⟨.t 19, none, .pick, [.t 11, .t 18, .c (.b false)]⟩, ⟨.l 4, none, .mv, [.t 19]⟩]) .ret))
noncomputable def D_timer_Set_has_1 (F : Nat → Option AFn) (N : Nat → Nat) (Q : AV → Lg → Prop) (x0 : AV) (x1 : AV) (L : Lg) : Prop :=
 wpOp F (.eq true .ptr) [x0, (.p none)] L fun v1 L1 =>
 gdOp F v1 true .mv [x1] L1 fun v2 L2 =>
 gdOp F v1 true (.bin .geq) [v2, (.i .i64 0)] L2 fun v3 L3 =>
 wpOp F .pick [v1, v3, (.b false)] L3 fun v4 L4 =>
 gdOp F v4 true .mv [x1] L4 fun v5 L5 =>
 gdOp F v4 true .mv [x0] L5 fun v6 L6 =>
 gdOp F v4 true .nilchk [v6] L6 fun v7 L7 =>
 gdOp F v4 true (.fad 0) [v7] L7 fun v8 L8 =>
 gdOp F v4 true (.ld none) [v8] L8 fun v9 L9 =>
 gdOp F v4 true .lenSl [v9] L9 fun v10 L10 =>
 gdOp F v4 true (.bin .lss) [v5, v10] L10 fun v11 L11 =>
 wpOp F .pick [v4, v11, (.b false)] L11 fun v12 L12 =>
 fin1 (some v12) Q L12
theorem e_timer_Set_has_1 (F : Nat → Option AFn) (N : Nat → Nat) (Q : AV → Lg → Prop) (l t : Env) (L : Lg) : wp F (q_timer_Set_has_1 N) l t L (fin [.tmp (.l 4)] Q) (fun _ _ _ _ => False) (fin [.tmp (.l 4)] Q) = D_timer_Set_has_1 F N Q (l 0) (l 1) L := by kernel_rfl
/-- (*tarpaulin/timer.Set).has -/
def c_timer_Set_has (N : Nat → Nat) : AFn := ⟨q_timer_Set_has_1 N, [.tmp (.l 4)]⟩
structure H_timer_Set_has (N : Nat → Nat) (F : Nat → Option AFn) : Prop where
  code : F (N k_timer_Set_has) = some (c_timer_Set_has N)
theorem r_timer_Set_has {F : Nat → Option AFn} {N : Nat → Nat} (h : F (N k_timer_Set_has) = some (c_timer_Set_has N)) {Q : AV → Lg → Prop} {a0 a1 : AV} {L : Lg} (e : D_timer_Set_has_1 F N Q a0 a1 L) : CallL F (N k_timer_Set_has) [a0, a1] L Q :=
  CallL.of_wp h (Eq.mpr (Eq.trans (e_timer_Set_has_1 F N Q (initE [a0, a1] 0) Env.nil L) (by kernel_rfl : _ = D_timer_Set_has_1 F N Q a0 a1 L)) e)
def q_chanq_Chan_Drop_1 (N : Nat → Nat) : ACode := (.seq (.reg [⟨.l 2, none, .mv, [.c (.b false)]⟩]) (.seq (.reg [⟨.t 3, none, .mv, [.l 0]⟩, ⟨.t 4, none, .eq true .ptr, [.t 3, .c (.p none)]⟩, ⟨.t 5, none, .mv, [.t 4]⟩, ⟨.t 6, some (.t 5, true), .mv, [.l 0]⟩, ⟨.t 7, some (.t 5, true), .nilchk, [.t 6]⟩, ⟨.t 8, some (.t 5, true), .fad 3, [.t 7]⟩, ⟨.t 9, some (.t 5, true), .ld none, [.t 8]⟩, ⟨.t 10, none, .pick, [.t 5, .t 9, .c (.b false)]⟩, ⟨.t 11, none, .mv, [.t 10]⟩, ⟨.t 12, some (.t 11, true), .mv, [.l 0]⟩, ⟨.t 13, some (.t 11, true), .nilchk, [.t 12]⟩, ⟨.t 14, some (.t 11, true), .fad 0, [.t 13]⟩, ⟨.t 15, some (.t 11, true), .ld none, [.t 14]⟩, ⟨.t 16, some (.t 11, true), .call (N k_ring_Ring_Clear), [.t 15]⟩, ⟨.t 17, some (.t 11, true), .bin .gtr, [.t 16, .c (.i .i64 0)]⟩, ⟨.t 18, none, .pick, [.t 11, .t 17, .c (.b false)]⟩, ⟨.l 2, none, .mv, [.t 18]⟩]) .ret))
noncomputable def D_chanq_Chan_Drop_1 (F : Nat → Option AFn) (N : Nat → Nat) (Q : AV → Lg → Prop) (x0 : AV) (L : Lg) : Prop :=
 wpOp F (.eq true .ptr) [x0, (.p none)] L fun v1 L1 =>
 gdOp F v1 true .mv [x0] L1 fun v2 L2 =>
 gdOp F v1 true .nilchk [v2] L2 fun v3 L3 =>
 gdOp F v1 true (.fad 3) [v3] L3 fun v4 L4 =>
 gdOp F v1 true (.ld none) [v4] L4 fun v5 L5 =>
 wpOp F .pick [v1, v5, (.b false)] L5 fun v6 L6 =>
 gdOp F v6 true .mv [x0] L6 fun v7 L7 =>
 gdOp F v6 true .nilchk [v7] L7 fun v8 L8 =>
 gdOp F v6 true (.fad 0) [v8] L8 fun v9 L9 =>
 gdOp F v6 true (.ld none) [v9] L9 fun v10 L10 =>
 gdOp F v6 true (.call (N k_ring_Ring_Clear)) [v10] L10 fun v11 L11 =>
 gdOp F v6 true (.bin .gtr) [v11, (.i .i64 0)] L11 fun v12 L12 =>
 wpOp F .pick [v6, v12, (.b false)] L12 fun v13 L13 =>
 fin1 (some v13) Q L13
theorem e_chanq_Chan_Drop_1 (F : Nat → Option AFn) (N : Nat → Nat) (Q : AV → Lg → Prop) (l t : Env) (L : Lg) : wp F (q_chanq_Chan_Drop_1 N) l t L (fin [.tmp (.l 2)] Q) (fun _ _ _ _ => False) (fin [.tmp (.l 2)] Q) = D_chanq_Chan_Drop_1 F N Q (l 0) L := by kernel_rfl
/-- (*tarpaulin/chanq.Chan).Drop -/
def c_chanq_Chan_Drop (N : Nat → Nat) : AFn := ⟨q_chanq_Chan_Drop_1 N, [.tmp (.l 2)]⟩
structure H_chanq_Chan_Drop (N : Nat → Nat) (F : Nat → Option AFn) : Prop where
  code : F (N k_chanq_Chan_Drop) = some (c_chanq_Chan_Drop N)
  ring_Ring_Clear : H_ring_Ring_Clear N F
theorem r_chanq_Chan_Drop {F : Nat → Option AFn} {N : Nat → Nat} (h : F (N k_chanq_Chan_Drop) = some (c_chanq_Chan_Drop N)) {Q : AV → Lg → Prop} {a0 : AV} {L : Lg} (e : D_chanq_Chan_Drop_1 F N Q a0 L) : CallL F (N k_chanq_Chan_Drop) [a0] L Q :=
  CallL.of_wp h (Eq.mpr (Eq.trans (e_chanq_Chan_Drop_1 F N Q (initE [a0] 0) Env.nil L) (by kernel_rfl : _ = D_chanq_Chan_Drop_1 F N Q a0 L)) e)
def q_timer_Set_Stop_1 (N : Nat → Nat) : ACode := (.seq (.reg [⟨.l 4, none, .mv, [.c (.b false)]⟩, ⟨.l 5, none, .mv, [.c (.i .i64 0)]⟩]) (.seq (.seq (.reg [⟨.t 7, none, .mv, [.l 0]⟩, ⟨.t 8, none, .mv, [.l 1]⟩, ⟨.t 9, none, .call (N k_timer_Set_has), [.t 7, .t 8]⟩, ⟨.t 10, none, .un .not, [.t 9]⟩]) (.cond (.t 10) (.seq (.reg [⟨.l 4, none, .mv, [.c (.b false)]⟩, ⟨.l 5, none, .mv, [.c (.i .i64 4)]⟩]) .ret) .skip)) (.seq (.reg [⟨.t 11, none, .mv, [.l 0]⟩, ⟨.t 12, none, .nilchk, [.t 11]⟩, ⟨.t 13, none, .fad 1, [.t 12]⟩, ⟨.t 14, none, .ld none, [.t 13]⟩, ⟨.t 15, none, .mv, [.l 1]⟩, ⟨.t 16, none, .call (N k_expire_Timers_Stop), [.t 14, .t 15]⟩, ⟨.l 6, none, .mv, [.t 16]⟩]) (.seq (.reg [⟨.t 17, none, .mv, [.l 0]⟩, ⟨.t 18, none, .nilchk, [.t 17]⟩, ⟨.t 19, none, .fad 0, [.t 18]⟩, ⟨.t 20, none, .ld none, [.t 19]⟩, ⟨.t 21, none, .mv, [.l 1]⟩, ⟨.t 22, none, .iad 4, [.t 20, .t 21]⟩, ⟨.t 23, none, .fad 2, [.t 22]⟩, ⟨.t 24, none, .ld none, [.t 23]⟩, ⟨.t 25, none, .call (N k_chanq_Chan_Drop), [.t 24]⟩, ⟨.t 26, none, .mv, [.t 25]⟩, ⟨.t 27, some (.t 26, false), .mv, [.l 6]⟩, ⟨.t 28, none, .pick, [.t 26, .c (.b true), .t 27]⟩, ⟨.l 4, none, .mv, [.t 28]⟩, ⟨.l 5, none, .mv, [.c (.i .i64 0)]⟩]) .ret))))
noncomputable def D_timer_Set_Stop_1 (F : Nat → Option AFn) (N : Nat → Nat) (Q : AV → Lg → Prop) (x0 : AV) (x1 : AV) (L : Lg) : Prop :=
 CallL F (N k_timer_Set_has) [x0, x1] L fun v1 L1 =>
 wpOp F (.un .not) [v1] L1 fun v2 L2 =>
 condW v2
 (fin1 (some (.tup [(.b false), (.i .i64 4)])) Q L2)
 (wpOp F .nilchk [x0] L2 fun v3 L3 =>
 wpOp F (.fad 1) [v3] L3 fun v4 L4 =>
 wpOp F (.ld none) [v4] L4 fun v5 L5 =>
 CallL F (N k_expire_Timers_Stop) [v5, x1] L5 fun v6 L6 =>
 wpOp F .nilchk [x0] L6 fun v7 L7 =>
 wpOp F (.fad 0) [v7] L7 fun v8 L8 =>
 wpOp F (.ld none) [v8] L8 fun v9 L9 =>
 wpOp F (.iad 4) [v9, x1] L9 fun v10 L10 =>
 wpOp F (.fad 2) [v10] L10 fun v11 L11 =>
 wpOp F (.ld none) [v11] L11 fun v12 L12 =>
 CallL F (N k_chanq_Chan_Drop) [v12] L12 fun v13 L13 =>
 gdOp F v13 false .mv [v6] L13 fun v14 L14 =>
 wpOp F .pick [v13, (.b true), v14] L14 fun v15 L15 =>
 fin1 (some (.tup [v15, (.i .i64 0)])) Q L15)
theorem e_timer_Set_Stop_1 (F : Nat → Option AFn) (N : Nat → Nat) (Q : AV → Lg → Prop) (l t : Env) (L : Lg) : wp F (q_timer_Set_Stop_1 N) l t L (fin [.tmp (.l 4), .tmp (.l 5)] Q) (fun _ _ _ _ => False) (fin [.tmp (.l 4), .tmp (.l 5)] Q) = D_timer_Set_Stop_1 F N Q (l 0) (l 1) L := by kernel_rfl
/-- (*tarpaulin/timer.Set).Stop -/
def c_timer_Set_Stop (N : Nat → Nat) : AFn := ⟨q_timer_Set_Stop_1 N, [.tmp (.l 4), .tmp (.l 5)]⟩
structure H_timer_Set_Stop (N : Nat → Nat) (F : Nat → Option AFn) : Prop where
  code : F (N k_timer_Set_Stop) = some (c_timer_Set_Stop N)
  timer_Set_has : H_timer_Set_has N F
  expire_Timers_Stop : H_expire_Timers_Stop N F
  chanq_Chan_Drop : H_chanq_Chan_Drop N F
theorem r_timer_Set_Stop {F : Nat → Option AFn} {N : Nat → Nat} (h : F (N k_timer_Set_Stop) = some (c_timer_Set_Stop N)) {Q : AV → Lg → Prop} {a0 a1 : AV} {L : Lg} (e : D_timer_Set_Stop_1 F N Q a0 a1 L) : CallL F (N k_timer_Set_Stop) [a0, a1] L Q :=
  CallL.of_wp h (Eq.mpr (Eq.trans (e_timer_Set_Stop_1 F N Q (initE [a0, a1] 0) Env.nil L) (by kernel_rfl : _ = D_timer_Set_Stop_1 F N Q a0 a1 L)) e)
def q_timer_Set_Ticker_1 (N : Nat → Nat) : ACode := (.seq (.reg [⟨.l 6, none, .mv, [.c (.i .i64 0)]⟩, ⟨.l 7, none, .mv, [.c (.p none)]⟩, ⟨.l 8, none, .mv, [.c (.i .i64 0)]⟩]) (.seq (.reg [⟨.t 9, none, .mv, [.l 0]⟩, ⟨.t 10, none, .mv, [.l 1]⟩, ⟨.t 11, none, .mv, [.l 2]⟩, ⟨.t 12, none, .call (N k_timer_Set_channel), [.t 9, .c (.i .i64 2), .t 10, .t 11]⟩, ⟨.t 13, none, .ext 0, [.t 12]⟩, ⟨.t 14, none, .ext 1, [.t 12]⟩, ⟨.t 15, none, .ext 2, [.t 12]⟩, ⟨.l 6, none, .mv, [.t 13]⟩, ⟨.l 7, none, .mv, [.t 14]⟩, ⟨.l 8, none, .mv, [.t 15]⟩]) .ret))
noncomputable def D_timer_Set_Ticker_1 (F : Nat → Option AFn) (N : Nat → Nat) (Q : AV → Lg → Prop) (x0 : AV) (x1 : AV) (x2 : AV) (L : Lg) : Prop :=
 CallL F (N k_timer_Set_channel) [x0, (.i .i64 2), x1, x2] L fun v1 L1 =>
 wpOp F (.ext 0) [v1] L1 fun v2 L2 =>
 wpOp F (.ext 1) [v1] L2 fun v3 L3 =>
 wpOp F (.ext 2) [v1] L3 fun v4 L4 =>
 fin1 (some (.tup [v2, v3, v4])) Q L4
theorem e_timer_Set_Ticker_1 (F : Nat → Option AFn) (N : Nat → Nat) (Q : AV → Lg → Prop) (l t : Env) (L : Lg) : wp F (q_timer_Set_Ticker_1 N) l t L (fin [.tmp (.l 6), .tmp (.l 7), .tmp (.l 8)] Q) (fun _ _ _ _ => False) (fin [.tmp (.l 6), .tmp (.l 7), .tmp (.l 8)] Q) = D_timer_Set_Ticker_1 F N Q (l 0) (l 1) (l 2) L := by kernel_rfl
/-- (*tarpaulin/timer.Set).Ticker -/
def c_timer_Set_Ticker (N : Nat → Nat) : AFn := ⟨q_timer_Set_Ticker_1 N, [.tmp (.l 6), .tmp (.l 7), .tmp (.l 8)]⟩
structure H_timer_Set_Ticker (N : Nat → Nat) (F : Nat → Option AFn) : Prop where
  code : F (N k_timer_Set_Ticker) = some (c_timer_Set_Ticker N)
  timer_Set_channel : H_timer_Set_channel N F
theorem r_timer_Set_Ticker {F : Nat → Option AFn} {N : Nat → Nat} (h : F (N k_timer_Set_Ticker) = some (c_timer_Set_Ticker N)) {Q : AV → Lg → Prop} {a0 a1 a2 : AV} {L : Lg} (e : D_timer_Set_Ticker_1 F N Q a0 a1 a2 L) : CallL F (N k_timer_Set_Ticker) [a0, a1, a2] L Q :=
  CallL.of_wp h (Eq.mpr (Eq.trans (e_timer_Set_Ticker_1 F N Q (initE [a0, a1, a2] 0) Env.nil L) (by kernel_rfl : _ = D_timer_Set_Ticker_1 F N Q a0 a1 a2 L)) e)
def q_timer_Set_Func_1 (N : Nat → Nat) : ACode := (.seq (.reg [⟨.l 8, none, .mv, [.c (.i .i64 0)]⟩, ⟨.l 9, none, .mv, [.c (.i .i64 0)]⟩]) (.seq (.reg [⟨.t 10, none, .mv, [.l 0]⟩, ⟨.t 11, none, .mv, [.l 3]⟩, ⟨.t 12, none, .build [.i .i64 0, .i .i64 0, .p none, .i .i64 0] [(0, 1), (1, 1)], [.c (.i .i64 3), .t 11]⟩, ⟨.t 13, none, .mv, [.l 1]⟩, ⟨.t 14, none, .mv, [.l 2]⟩, ⟨.t 15, none, .call (N k_timer_Set_make), [.t 10, .t 12, .t 13, .t 14]⟩, ⟨.t 16, none, .ext 0, [.t 15]⟩, ⟨.t 17, none, .ext 1, [.t 15]⟩, ⟨.l 8, none, .mv, [.t 16]⟩, ⟨.l 9, none, .mv, [.t 17]⟩]) .ret))
noncomputable def D_timer_Set_Func_1 (F : Nat → Option AFn) (N : Nat → Nat) (Q : AV → Lg → Prop) (x0 : AV) (x1 : AV) (x2 : AV) (x3 : AV) (L : Lg) : Prop :=
 wpOp F (.build [.i .i64 0, .i .i64 0, .p none, .i .i64 0] [(0, 1), (1, 1)]) [(.i .i64 3), x3] L fun v1 L1 =>
 CallL F (N k_timer_Set_make) [x0, v1, x1, x2] L1 fun v2 L2 =>
 wpOp F (.ext 0) [v2] L2 fun v3 L3 =>
 wpOp F (.ext 1) [v2] L3 fun v4 L4 =>
 fin1 (some (.tup [v3, v4])) Q L4
theorem e_timer_Set_Func_1 (F : Nat → Option AFn) (N : Nat → Nat) (Q : AV → Lg → Prop) (l t : Env) (L : Lg) : wp F (q_timer_Set_Func_1 N) l t L (fin [.tmp (.l 8), .tmp (.l 9)] Q) (fun _ _ _ _ => False) (fin [.tmp (.l 8), .tmp (.l 9)] Q) = D_timer_Set_Func_1 F N Q (l 0) (l 1) (l 2) (l 3) L := by kernel_rfl
/-- (*tarpaulin/timer.Set).Func -/
def c_timer_Set_Func (N : Nat → Nat) : AFn := ⟨q_timer_Set_Func_1 N, [.tmp (.l 8), .tmp (.l 9)]⟩
structure H_timer_Set_Func (N : Nat → Nat) (F : Nat → Option AFn) : Prop where
  code : F (N k_timer_Set_Func) = some (c_timer_Set_Func N)
  timer_Set_make : H_timer_Set_make N F
theorem r_timer_Set_Func {F : Nat → Option AFn} {N : Nat → Nat} (h : F (N k_timer_Set_Func) = some (c_timer_Set_Func N)) {Q : AV → Lg → Prop} {a0 a1 a2 a3 : AV} {L : Lg} (e : D_timer_Set_Func_1 F N Q a0 a1 a2 a3 L) : CallL F (N k_timer_Set_Func) [a0, a1, a2, a3] L Q :=
  CallL.of_wp h (Eq.mpr (Eq.trans (e_timer_Set_Func_1 F N Q (initE [a0, a1, a2, a3] 0) Env.nil L) (by kernel_rfl : _ = D_timer_Set_Func_1 F N Q a0 a1 a2 a3 L)) e)
def q_timer_Set_Reset_3 (N : Nat → Nat) : ACode := (.seq (.reg [⟨.t 46, none, .mv, [.l 0]⟩, ⟨.t 47, none, .mv, [.l 1]⟩, ⟨.t 48, none, .call (N k_timer_Set_Stop), [.t 46, .t 47]⟩, ⟨.t 45, none, .mv, [.t 48]⟩, ⟨.t 49, none, .ext 0, [.t 45]⟩, ⟨.t 50, none, .ext 1, [.t 45]⟩, ⟨.l 10, none, .mv, [.t 49]⟩, ⟨.t 11, none, .mv, [.t 50]⟩]) (.seq (.reg [⟨.t 51, none, .mv, [.l 0]⟩, ⟨.t 52, none, .mv, [.l 1]⟩, ⟨.t 53, none, .mv, [.l 2]⟩, ⟨.t 54, none, .mv, [.l 3]⟩, ⟨.t 55, none, .call (N k_timer_Set_arm), [.t 51, .t 52, .t 53, .t 54]⟩]) (.seq (.reg [⟨.t 56, none, .mv, [.l 10]⟩, ⟨.l 8, none, .mv, [.t 56]⟩, ⟨.l 9, none, .mv, [.c (.i .i64 0)]⟩]) .ret)))
noncomputable def D_timer_Set_Reset_3 (F : Nat → Option AFn) (N : Nat → Nat) (Q : AV → Lg → Prop) (x0 : AV) (x1 : AV) (x2 : AV) (x3 : AV) (L : Lg) : Prop :=
 CallL F (N k_timer_Set_Stop) [x0, x1] L fun v1 L1 =>
 wpOp F (.ext 0) [v1] L1 fun v2 L2 =>
 wpOp F (.ext 1) [v1] L2 fun v3 L3 =>
 CallL F (N k_timer_Set_arm) [x0, x1, x2, x3] L3 fun v4 L4 =>
 fin1 (some (.tup [v2, (.i .i64 0)])) Q L4
theorem e_timer_Set_Reset_3 (F : Nat → Option AFn) (N : Nat → Nat) (Q : AV → Lg → Prop) (l t : Env) (L : Lg) : wp F (q_timer_Set_Reset_3 N) l t L (fin [.tmp (.l 8), .tmp (.l 9)] Q) (fun _ _ _ _ => False) (fin [.tmp (.l 8), .tmp (.l 9)] Q) = D_timer_Set_Reset_3 F N Q (l 0) (l 1) (l 2) (l 3) L := by kernel_rfl
def q_timer_Set_Reset_2a (N : Nat → Nat) : ACode := (.block 0 (.seq (.reg [⟨.t 13, none, .mv, [.l 0]⟩, ⟨.t 14, none, .mv, [.l 1]⟩, ⟨.t 15, none, .call (N k_timer_Set_has), [.t 13, .t 14]⟩, ⟨.t 16, none, .un .not, [.t 15]⟩, ⟨.t 12, none, .mv, [.t 16]⟩]) (.cond (.t 12) (.seq (.reg [⟨.l 8, none, .mv, [.c (.b false)]⟩, ⟨.l 9, none, .mv, [.c (.i .i64 4)]⟩]) .ret) (.seq (.reg [⟨.t 18, none, .mv, [.l 2]⟩, ⟨.t 19, none, .call (N k_timer_bad), [.t 18]⟩, ⟨.t 20, none, .mv, [.t 19]⟩, ⟨.t 21, some (.t 20, false), .mv, [.l 0]⟩, ⟨.t 22, some (.t 20, false), .nilchk, [.t 21]⟩, ⟨.t 23, some (.t 20, false), .fad 0, [.t 22]⟩, ⟨.t 24, some (.t 20, false), .ld none, [.t 23]⟩, ⟨.t 25, some (.t 20, false), .mv, [.l 1]⟩, ⟨.t 26, some (.t 20, false), .iad 4, [.t 24, .t 25]⟩, ⟨.t 27, some (.t 20, false), .fad 0, [.t 26]⟩, ⟨.t 28, some (.t 20, false), .ld none, [.t 27]⟩, ⟨.t 29, some (.t 20, false), .bin .eql, [.t 28, .c (.i .i64 2)]⟩, ⟨.t 30, some (.t 20, false), .mv, [.t 29]⟩, ⟨.t 31, some (.t 30, true), .mv, [.l 3]⟩, ⟨.t 32, some (.t 30, true), .bin .lss, [.t 31, .c (.i .i64 1)]⟩, ⟨.t 33, some (.t 20, false), .pick, [.t 30, .t 32, .c (.b false)]⟩, ⟨.t 34, none, .pick, [.t 20, .c (.b true), .t 33]⟩, ⟨.t 17, none, .mv, [.t 34]⟩]) (.cond (.t 17) (.seq (.reg [⟨.l 8, none, .mv, [.c (.b false)]⟩, ⟨.l 9, none, .mv, [.c (.i .i64 1)]⟩]) .ret) (.seq (.reg [⟨.t 36, none, .mv, [.l 0]⟩, ⟨.t 37, none, .nilchk, [.t 36]⟩, ⟨.t 38, none, .fad 0, [.t 37]⟩, ⟨.t 39, none, .ld none, [.t 38]⟩, ⟨.t 40, none, .mv, [.l 1]⟩, ⟨.t 41, none, .iad 4, [.t 39, .t 40]⟩, ⟨.t 42, none, .fad 0, [.t 41]⟩, ⟨.t 43, none, .ld none, [.t 42]⟩, ⟨.t 44, none, .bin .eql, [.t 43, .c (.i .i64 4)]⟩, ⟨.t 35, none, .mv, [.t 44]⟩]) (.cond (.t 35) (.seq (.reg [⟨.l 8, none, .mv, [.c (.b false)]⟩, ⟨.l 9, none, .mv, [.c (.i .i64 7)]⟩]) .ret) .skip)))))))
def q_timer_Set_Reset_2 (N : Nat → Nat) : ACode := (.seq (q_timer_Set_Reset_2a N) (q_timer_Set_Reset_3 N))
noncomputable def D_timer_Set_Reset_2 (F : Nat → Option AFn) (N : Nat → Nat) (Q : AV → Lg → Prop) (x0 : AV) (x1 : AV) (x2 : AV) (x3 : AV) (L : Lg) : Prop :=
 CallL F (N k_timer_Set_has) [x0, x1] L fun v1 L1 =>
 wpOp F (.un .not) [v1] L1 fun v2 L2 =>
 condW v2
 (fin1 (some (.tup [(.b false), (.i .i64 4)])) Q L2)
 (CallL F (N k_timer_bad) [x2] L2 fun v3 L3 =>
 gdOp F v3 false .mv [x0] L3 fun v4 L4 =>
 gdOp F v3 false .nilchk [v4] L4 fun v5 L5 =>
 gdOp F v3 false (.fad 0) [v5] L5 fun v6 L6 =>
 gdOp F v3 false (.ld none) [v6] L6 fun v7 L7 =>
 gdOp F v3 false .mv [x1] L7 fun v8 L8 =>
 gdOp F v3 false (.iad 4) [v7, v8] L8 fun v9 L9 =>
 gdOp F v3 false (.fad 0) [v9] L9 fun v10 L10 =>
 gdOp F v3 false (.ld none) [v10] L10 fun v11 L11 =>
 gdOp F v3 false (.bin .eql) [v11, (.i .i64 2)] L11 fun v12 L12 =>
 gdOp F v3 false .mv [v12] L12 fun v13 L13 =>
 gdOp F v13 true .mv [x3] L13 fun v14 L14 =>
 gdOp F v13 true (.bin .lss) [v14, (.i .i64 1)] L14 fun v15 L15 =>
 gdOp F v3 false .pick [v13, v15, (.b false)] L15 fun v16 L16 =>
 wpOp F .pick [v3, (.b true), v16] L16 fun v17 L17 =>
 condW v17
 (fin1 (some (.tup [(.b false), (.i .i64 1)])) Q L17)
 (wpOp F .nilchk [x0] L17 fun v18 L18 =>
 wpOp F (.fad 0) [v18] L18 fun v19 L19 =>
 wpOp F (.ld none) [v19] L19 fun v20 L20 =>
 wpOp F (.iad 4) [v20, x1] L20 fun v21 L21 =>
 wpOp F (.fad 0) [v21] L21 fun v22 L22 =>
 wpOp F (.ld none) [v22] L22 fun v23 L23 =>
 wpOp F (.bin .eql) [v23, (.i .i64 4)] L23 fun v24 L24 =>
 condW v24
 (fin1 (some (.tup [(.b false), (.i .i64 7)])) Q L24)
 (D_timer_Set_Reset_3 F N Q x0 x1 x2 x3 L24)))
theorem e_timer_Set_Reset_2 (F : Nat → Option AFn) (N : Nat → Nat) (Q : AV → Lg → Prop) (l t : Env) (L : Lg) : wp F (q_timer_Set_Reset_2 N) l t L (fin [.tmp (.l 8), .tmp (.l 9)] Q) (fun _ _ _ _ => False) (fin [.tmp (.l 8), .tmp (.l 9)] Q) = D_timer_Set_Reset_2 F N Q (l 0) (l 1) (l 2) (l 3) L := Eq.trans (wpq_seq F (q_timer_Set_Reset_2a N) (q_timer_Set_Reset_3 N) l t L (fin [.tmp (.l 8), .tmp (.l 9)] Q) (fun _ _ _ _ => False) (fin [.tmp (.l 8), .tmp (.l 9)] Q)) (Eq.trans (congrArg (fun Z : Kn => wp F (q_timer_Set_Reset_2a N) l t L Z (fun _ _ _ _ => False) (fin [.tmp (.l 8), .tmp (.l 9)] Q)) (funext fun l => funext fun t => funext fun L => e_timer_Set_Reset_3 F N Q l t L)) (by kernel_rfl))
def q_timer_Set_Reset_1a (N : Nat → Nat) : ACode := (.reg [⟨.l 8, none, .mv, [.c (.b false)]⟩, ⟨.l 9, none, .mv, [.c (.i .i64 0)]⟩])
def q_timer_Set_Reset_1 (N : Nat → Nat) : ACode := (.seq (q_timer_Set_Reset_1a N) (q_timer_Set_Reset_2 N))
noncomputable def D_timer_Set_Reset_1 (F : Nat → Option AFn) (N : Nat → Nat) (Q : AV → Lg → Prop) (x0 : AV) (x1 : AV) (x2 : AV) (x3 : AV) (L : Lg) : Prop :=
 D_timer_Set_Reset_2 F N Q x0 x1 x2 x3 L
theorem e_timer_Set_Reset_1 (F : Nat → Option AFn) (N : Nat → Nat) (Q : AV → Lg → Prop) (l t : Env) (L : Lg) : wp F (q_timer_Set_Reset_1 N) l t L (fin [.tmp (.l 8), .tmp (.l 9)] Q) (fun _ _ _ _ => False) (fin [.tmp (.l 8), .tmp (.l 9)] Q) = D_timer_Set_Reset_1 F N Q (l 0) (l 1) (l 2) (l 3) L := Eq.trans (wpq_seq F (q_timer_Set_Reset_1a N) (q_timer_Set_Reset_2 N) l t L (fin [.tmp (.l 8), .tmp (.l 9)] Q) (fun _ _ _ _ => False) (fin [.tmp (.l 8), .tmp (.l 9)] Q)) (Eq.trans (congrArg (fun Z : Kn => wp F (q_timer_Set_Reset_1a N) l t L Z (fun _ _ _ _ => False) (fin [.tmp (.l 8), .tmp (.l 9)] Q)) (funext fun l => funext fun t => funext fun L => e_timer_Set_Reset_2 F N Q l t L)) (by kernel_rfl))
/-- (*tarpaulin/timer.Set).Reset -/
def c_timer_Set_Reset (N : Nat → Nat) : AFn := ⟨q_timer_Set_Reset_1 N, [.tmp (.l 8), .tmp (.l 9)]⟩
structure H_timer_Set_Reset (N : Nat → Nat) (F : Nat → Option AFn) : Prop where
  code : F (N k_timer_Set_Reset) = some (c_timer_Set_Reset N)
  timer_Set_has : H_timer_Set_has N F
  timer_bad : H_timer_bad N F
  timer_Set_Stop : H_timer_Set_Stop N F
  timer_Set_arm : H_timer_Set_arm N F
theorem r_timer_Set_Reset {F : Nat → Option AFn} {N : Nat → Nat} (h : F (N k_timer_Set_Reset) = some (c_timer_Set_Reset N)) {Q : AV → Lg → Prop} {a0 a1 a2 a3 : AV} {L : Lg} (e : D_timer_Set_Reset_1 F N Q a0 a1 a2 a3 L) : CallL F (N k_timer_Set_Reset) [a0, a1, a2, a3] L Q :=
  CallL.of_wp h (Eq.mpr (Eq.trans (e_timer_Set_Reset_1 F N Q (initE [a0, a1, a2, a3] 0) Env.nil L) (by kernel_rfl : _ = D_timer_Set_Reset_1 F N Q a0 a1 a2 a3 L)) e)
def q_timer_Set_Lapse_1 (N : Nat → Nat) : ACode := (.seq (.reg [⟨.l 6, none, .mv, [.c (.i .i64 0)]⟩, ⟨.l 7, none, .mv, [.c (.i .i64 0)]⟩]) (.seq (.reg [⟨.t 8, none, .mv, [.l 0]⟩, ⟨.t 9, none, .mv, [.l 2]⟩, ⟨.t 10, none, .build [.i .i64 0, .i .i64 0, .p none, .i .i64 0] [(0, 1), (1, 1)], [.c (.i .i64 4), .t 9]⟩, ⟨.t 11, none, .mv, [.l 1]⟩, ⟨.t 12, none, .call (N k_timer_Set_make), [.t 8, .t 10, .c (.i .i64 0), .t 11]⟩, ⟨.t 13, none, .ext 0, [.t 12]⟩, ⟨.t 14, none, .ext 1, [.t 12]⟩, ⟨.l 6, none, .mv, [.t 13]⟩, ⟨.l 7, none, .mv, [.t 14]⟩]) .ret))
noncomputable def D_timer_Set_Lapse_1 (F : Nat → Option AFn) (N : Nat → Nat) (Q : AV → Lg → Prop) (x0 : AV) (x1 : AV) (x2 : AV) (L : Lg) : Prop :=
 wpOp F (.build [.i .i64 0, .i .i64 0, .p none, .i .i64 0] [(0, 1), (1, 1)]) [(.i .i64 4), x2] L fun v1 L1 =>
 CallL F (N k_timer_Set_make) [x0, v1, (.i .i64 0), x1] L1 fun v2 L2 =>
 wpOp F (.ext 0) [v2] L2 fun v3 L3 =>
 wpOp F (.ext 1) [v2] L3 fun v4 L4 =>
 fin1 (some (.tup [v3, v4])) Q L4
theorem e_timer_Set_Lapse_1 (F : Nat → Option AFn) (N : Nat → Nat) (Q : AV → Lg → Prop) (l t : Env) (L : Lg) : wp F (q_timer_Set_Lapse_1 N) l t L (fin [.tmp (.l 6), .tmp (.l 7)] Q) (fun _ _ _ _ => False) (fin [.tmp (.l 6), .tmp (.l 7)] Q) = D_timer_Set_Lapse_1 F N Q (l 0) (l 1) (l 2) L := by kernel_rfl
/-- (*tarpaulin/timer.Set).Lapse -/
def c_timer_Set_Lapse (N : Nat → Nat) : AFn := ⟨q_timer_Set_Lapse_1 N, [.tmp (.l 6), .tmp (.l 7)]⟩
structure H_timer_Set_Lapse (N : Nat → Nat) (F : Nat → Option AFn) : Prop where
  code : F (N k_timer_Set_Lapse) = some (c_timer_Set_Lapse N)
  timer_Set_make : H_timer_Set_make N F
theorem r_timer_Set_Lapse {F : Nat → Option AFn} {N : Nat → Nat} (h : F (N k_timer_Set_Lapse) = some (c_timer_Set_Lapse N)) {Q : AV → Lg → Prop} {a0 a1 a2 : AV} {L : Lg} (e : D_timer_Set_Lapse_1 F N Q a0 a1 a2 L) : CallL F (N k_timer_Set_Lapse) [a0, a1, a2] L Q :=
  CallL.of_wp h (Eq.mpr (Eq.trans (e_timer_Set_Lapse_1 F N Q (initE [a0, a1, a2] 0) Env.nil L) (by kernel_rfl : _ = D_timer_Set_Lapse_1 F N Q a0 a1 a2 L)) e)
def q_chanq_Chan_Mute_1 (N : Nat → Nat) : ACode := (.seq (.reg [⟨.l 2, none, .mv, [.c (.b false)]⟩]) (.seq (.reg [⟨.t 3, none, .mv, [.l 0]⟩, ⟨.t 4, none, .eq true .ptr, [.t 3, .c (.p none)]⟩, ⟨.t 5, none, .mv, [.t 4]⟩, ⟨.t 6, some (.t 5, true), .mv, [.l 0]⟩, ⟨.t 7, some (.t 5, true), .nilchk, [.t 6]⟩, ⟨.t 8, some (.t 5, true), .fad 3, [.t 7]⟩, ⟨.t 9, some (.t 5, true), .ld none, [.t 8]⟩, ⟨.t 10, some (.t 5, true), .mv, [.t 9]⟩, ⟨.t 11, some (.t 10, false), .mv, [.l 0]⟩, ⟨.t 12, some (.t 10, false), .nilchk, [.t 11]⟩, ⟨.t 13, some (.t 10, false), .fad 4, [.t 12]⟩, ⟨.t 14, some (.t 10, false), .ld none, [.t 13]⟩, ⟨.t 15, some (.t 5, true), .pick, [.t 10, .c (.b true), .t 14]⟩, ⟨.t 16, none, .pick, [.t 5, .t 15, .c (.b false)]⟩, ⟨.l 2, none, .mv, [.t 16]⟩]) .ret))
noncomputable def D_chanq_Chan_Mute_1 (F : Nat → Option AFn) (N : Nat → Nat) (Q : AV → Lg → Prop) (x0 : AV) (L : Lg) : Prop :=
 wpOp F (.eq true .ptr) [x0, (.p none)] L fun v1 L1 =>
 gdOp F v1 true .mv [x0] L1 fun v2 L2 =>
 gdOp F v1 true .nilchk [v2] L2 fun v3 L3 =>
 gdOp F v1 true (.fad 3) [v3] L3 fun v4 L4 =>
 gdOp F v1 true (.ld none) [v4] L4 fun v5 L5 =>
 gdOp F v1 true .mv [v5] L5 fun v6 L6 =>
 gdOp F v6 false .mv [x0] L6 fun v7 L7 =>
 gdOp F v6 false .nilchk [v7] L7 fun v8 L8 =>
 gdOp F v6 false (.fad 4) [v8] L8 fun v9 L9 =>
 gdOp F v6 false (.ld none) [v9] L9 fun v10 L10 =>
 gdOp F v1 true .pick [v6, (.b true), v10] L10 fun v11 L11 =>
 wpOp F .pick [v1, v11, (.b false)] L11 fun v12 L12 =>
 fin1 (some v12) Q L12
theorem e_chanq_Chan_Mute_1 (F : Nat → Option AFn) (N : Nat → Nat) (Q : AV → Lg → Prop) (l t : Env) (L : Lg) : wp F (q_chanq_Chan_Mute_1 N) l t L (fin [.tmp (.l 2)] Q) (fun _ _ _ _ => False) (fin [.tmp (.l 2)] Q) = D_chanq_Chan_Mute_1 F N Q (l 0) L := by kernel_rfl
/-- (*tarpaulin/chanq.Chan).Mute -/
def c_chanq_Chan_Mute (N : Nat → Nat) : AFn := ⟨q_chanq_Chan_Mute_1 N, [.tmp (.l 2)]⟩
structure H_chanq_Chan_Mute (N : Nat → Nat) (F : Nat → Option AFn) : Prop where
  code : F (N k_chanq_Chan_Mute) = some (c_chanq_Chan_Mute N)
theorem r_chanq_Chan_Mute {F : Nat → Option AFn} {N : Nat → Nat} (h : F (N k_chanq_Chan_Mute) = some (c_chanq_Chan_Mute N)) {Q : AV → Lg → Prop} {a0 : AV} {L : Lg} (e : D_chanq_Chan_Mute_1 F N Q a0 L) : CallL F (N k_chanq_Chan_Mute) [a0] L Q :=
  CallL.of_wp h (Eq.mpr (Eq.trans (e_chanq_Chan_Mute_1 F N Q (initE [a0] 0) Env.nil L) (by kernel_rfl : _ = D_chanq_Chan_Mute_1 F N Q a0 L)) e)
def q_chanq_Chan_free_1 (N : Nat → Nat) : ACode := (.seq (.reg [⟨.l 4, none, .mv, [.c (.b false)]⟩]) (.seq (.seq (.reg [⟨.t 5, none, .mv, [.l 1]⟩]) (.cond (.t 5) (.seq (.regD [⟨.t 6, none, .mv, [.l 0]⟩, ⟨.t 7, none, .nilchk, [.t 6]⟩, ⟨.t 8, none, .fad 0, [.t 7]⟩, ⟨.t 9, none, .ld none, [.t 8]⟩, ⟨.t 10, none, .call (N k_ring_Ring_Len), [.t 9]⟩, ⟨.t 11, none, .mv, [.l 0]⟩, ⟨.t 12, none, .nilchk, [.t 11]⟩, ⟨.t 13, none, .fad 0, [.t 12]⟩, ⟨.t 14, none, .ld none, [.t 13]⟩, ⟨.t 15, none, .call (N k_ring_Ring_Size), [.t 14]⟩, ⟨.t 16, none, .bin .lss, [.t 10, .t 15]⟩, ⟨.l 4, none, .mv, [.t 16]⟩] [(8, 0)]) .ret) .skip)) (.seq (.reg [⟨.t 17, none, .mv, [.l 0]⟩, ⟨.t 18, none, .nilchk, [.t 17]⟩, ⟨.t 19, none, .fad 0, [.t 18]⟩, ⟨.t 20, none, .ld none, [.t 19]⟩, ⟨.t 21, none, .call (N k_ring_Ring_Len), [.t 20]⟩, ⟨.t 22, none, .bin .gtr, [.t 21, .c (.i .i64 0)]⟩, ⟨.l 4, none, .mv, [.t 22]⟩]) .ret)))
noncomputable def D_chanq_Chan_free_1 (F : Nat → Option AFn) (N : Nat → Nat) (Q : AV → Lg → Prop) (x0 : AV) (x1 : AV) (L : Lg) : Prop :=
 condW x1
 (wpOp F .nilchk [x0] L fun v1 L1 =>
 wpOp F (.fad 0) [v1] L1 fun v2 L2 =>
 wpOp F (.ld none) [v2] L2 fun v3 L3 =>
 CallL F (N k_ring_Ring_Len) [v3] L3 fun v4 L4 =>
 wpOp F .nilchk [x0] L4 fun v5 L5 =>
 wpOp F (.fad 0) [v5] L5 fun v6 L6 =>
 wpOp F (.ld none) [v6] L6 fun v7 L7 =>
 CallL F (N k_ring_Ring_Size) [v7] L7 fun v8 L8 =>
 wpOp F (.bin .lss) [v4, v8] L8 fun v9 L9 =>
 (againV (.ld none) [v6] L6 L ∧ True) ∧ (fin1 (some v9) Q L9))
 (wpOp F .nilchk [x0] L fun v10 L10 =>
 wpOp F (.fad 0) [v10] L10 fun v11 L11 =>
 wpOp F (.ld none) [v11] L11 fun v12 L12 =>
 CallL F (N k_ring_Ring_Len) [v12] L12 fun v13 L13 =>
 wpOp F (.bin .gtr) [v13, (.i .i64 0)] L13 fun v14 L14 =>
 fin1 (some v14) Q L14)
theorem e_chanq_Chan_free_1 (F : Nat → Option AFn) (N : Nat → Nat) (Q : AV → Lg → Prop) (l t : Env) (L : Lg) : wp F (q_chanq_Chan_free_1 N) l t L (fin [.tmp (.l 4)] Q) (fun _ _ _ _ => False) (fin [.tmp (.l 4)] Q) = D_chanq_Chan_free_1 F N Q (l 0) (l 1) L := by kernel_rfl
/-- (*tarpaulin/chanq.Chan).free -/
def c_chanq_Chan_free (N : Nat → Nat) : AFn := ⟨q_chanq_Chan_free_1 N, [.tmp (.l 4)]⟩
structure H_chanq_Chan_free (N : Nat → Nat) (F : Nat → Option AFn) : Prop where
  code : F (N k_chanq_Chan_free) = some (c_chanq_Chan_free N)
  ring_Ring_Len : H_ring_Ring_Len N F
  ring_Ring_Size : H_ring_Ring_Size N F
theorem r_chanq_Chan_free {F : Nat → Option AFn} {N : Nat → Nat} (h : F (N k_chanq_Chan_free) = some (c_chanq_Chan_free N)) {Q : AV → Lg → Prop} {a0 a1 : AV} {L : Lg} (e : D_chanq_Chan_free_1 F N Q a0 a1 L) : CallL F (N k_chanq_Chan_free) [a0, a1] L Q :=
  CallL.of_wp h (Eq.mpr (Eq.trans (e_chanq_Chan_free_1 F N Q (initE [a0, a1] 0) Env.nil L) (by kernel_rfl : _ = D_chanq_Chan_free_1 F N Q a0 a1 L)) e)
def q_chanq_Chan_queue_1 (N : Nat → Nat) : ACode := (.seq (.reg [⟨.l 4, none, .mv, [.c (.p none)]⟩]) (.seq (.block 0 (.seq (.reg [⟨.t 6, none, .mv, [.l 0]⟩, ⟨.t 7, none, .eq false .ptr, [.t 6, .c (.p none)]⟩, ⟨.t 5, none, .mv, [.t 7]⟩]) (.cond (.t 5) (.seq (.reg [⟨.l 4, none, .mv, [.c (.p none)]⟩]) .ret) (.seq (.reg [⟨.t 9, none, .mv, [.l 1]⟩, ⟨.t 8, none, .mv, [.t 9]⟩]) (.cond (.t 8) (.seq (.reg [⟨.t 10, none, .mv, [.l 0]⟩, ⟨.t 11, none, .nilchk, [.t 10]⟩, ⟨.t 12, none, .fad 2, [.t 11]⟩, ⟨.t 13, none, .ld none, [.t 12]⟩, ⟨.l 4, none, .mv, [.t 13]⟩]) .ret) .skip))))) (.seq (.reg [⟨.t 14, none, .mv, [.l 0]⟩, ⟨.t 15, none, .nilchk, [.t 14]⟩, ⟨.t 16, none, .fad 1, [.t 15]⟩, ⟨.t 17, none, .ld none, [.t 16]⟩, ⟨.l 4, none, .mv, [.t 17]⟩]) .ret)))
noncomputable def D_chanq_Chan_queue_1 (F : Nat → Option AFn) (N : Nat → Nat) (Q : AV → Lg → Prop) (x0 : AV) (x1 : AV) (L : Lg) : Prop :=
 wpOp F (.eq false .ptr) [x0, (.p none)] L fun v1 L1 =>
 condW v1
 (fin1 (some (.p none)) Q L1)
 (condW x1
 (wpOp F .nilchk [x0] L1 fun v2 L2 =>
 wpOp F (.fad 2) [v2] L2 fun v3 L3 =>
 wpOp F (.ld none) [v3] L3 fun v4 L4 =>
 fin1 (some v4) Q L4)
 (wpOp F .nilchk [x0] L1 fun v5 L5 =>
 wpOp F (.fad 1) [v5] L5 fun v6 L6 =>
 wpOp F (.ld none) [v6] L6 fun v7 L7 =>
 fin1 (some v7) Q L7))
theorem e_chanq_Chan_queue_1 (F : Nat → Option AFn) (N : Nat → Nat) (Q : AV → Lg → Prop) (l t : Env) (L : Lg) : wp F (q_chanq_Chan_queue_1 N) l t L (fin [.tmp (.l 4)] Q) (fun _ _ _ _ => False) (fin [.tmp (.l 4)] Q) = D_chanq_Chan_queue_1 F N Q (l 0) (l 1) L := by kernel_rfl
/-- (*tarpaulin/chanq.Chan).queue -/
def c_chanq_Chan_queue (N : Nat → Nat) : AFn := ⟨q_chanq_Chan_queue_1 N, [.tmp (.l 4)]⟩
structure H_chanq_Chan_queue (N : Nat → Nat) (F : Nat → Option AFn) : Prop where
  code : F (N k_chanq_Chan_queue) = some (c_chanq_Chan_queue N)
theorem r_chanq_Chan_queue {F : Nat → Option AFn} {N : Nat → Nat} (h : F (N k_chanq_Chan_queue) = some (c_chanq_Chan_queue N)) {Q : AV → Lg → Prop} {a0 a1 : AV} {L : Lg} (e : D_chanq_Chan_queue_1 F N Q a0 a1 L) : CallL F (N k_chanq_Chan_queue) [a0, a1] L Q :=
  CallL.of_wp h (Eq.mpr (Eq.trans (e_chanq_Chan_queue_1 F N Q (initE [a0, a1] 0) Env.nil L) (by kernel_rfl : _ = D_chanq_Chan_queue_1 F N Q a0 a1 L)) e)
def q_chanq_Chan_Can_3 (N : Nat → Nat) : ACode := (.seq (.reg [⟨.t 13, none, .mv, [.l 0]⟩, ⟨.t 14, none, .nilchk, [.t 13]⟩, ⟨.t 15, none, .fad 5, [.t 14]⟩, ⟨.t 16, none, .ld none, [.t 15]⟩, ⟨.t 17, none, .mv, [.t 16]⟩, ⟨.t 18, some (.t 17, false), .mv, [.l 0]⟩, ⟨.t 19, some (.t 17, false), .mv, [.l 1]⟩, ⟨.t 20, some (.t 17, false), .call (N k_chanq_Chan_free), [.t 18, .t 19]⟩, ⟨.t 21, none, .pick, [.t 17, .c (.b true), .t 20]⟩, ⟨.t 22, none, .mv, [.t 21]⟩, ⟨.t 23, some (.t 22, false), .mv, [.l 0]⟩, ⟨.t 24, some (.t 22, false), .mv, [.l 1]⟩, ⟨.t 25, some (.t 22, false), .un .not, [.t 24]⟩, ⟨.t 26, some (.t 22, false), .call (N k_chanq_Chan_queue), [.t 23, .t 25]⟩, ⟨.t 27, some (.t 22, false), .call (N k_wait_Queue_Len), [.t 26]⟩, ⟨.t 28, some (.t 22, false), .bin .gtr, [.t 27, .c (.i .i64 0)]⟩, ⟨.t 29, none, .pick, [.t 22, .c (.b true), .t 28]⟩, ⟨.l 4, none, .mv, [.t 29]⟩]) .ret)
noncomputable def D_chanq_Chan_Can_3 (F : Nat → Option AFn) (N : Nat → Nat) (Q : AV → Lg → Prop) (x0 : AV) (x1 : AV) (L : Lg) : Prop :=
 wpOp F .nilchk [x0] L fun v1 L1 =>
 wpOp F (.fad 5) [v1] L1 fun v2 L2 =>
 wpOp F (.ld none) [v2] L2 fun v3 L3 =>
 gdOp F v3 false .mv [x0] L3 fun v4 L4 =>
 gdOp F v3 false .mv [x1] L4 fun v5 L5 =>
 gdOp F v3 false (.call (N k_chanq_Chan_free)) [v4, v5] L5 fun v6 L6 =>
 wpOp F .pick [v3, (.b true), v6] L6 fun v7 L7 =>
 gdOp F v7 false .mv [x0] L7 fun v8 L8 =>
 gdOp F v7 false .mv [x1] L8 fun v9 L9 =>
 gdOp F v7 false (.un .not) [v9] L9 fun v10 L10 =>
 gdOp F v7 false (.call (N k_chanq_Chan_queue)) [v8, v10] L10 fun v11 L11 =>
 gdOp F v7 false (.call (N k_wait_Queue_Len)) [v11] L11 fun v12 L12 =>
 gdOp F v7 false (.bin .gtr) [v12, (.i .i64 0)] L12 fun v13 L13 =>
 wpOp F .pick [v7, (.b true), v13] L13 fun v14 L14 =>
 fin1 (some v14) Q L14
theorem e_chanq_Chan_Can_3 (F : Nat → Option AFn) (N : Nat → Nat) (Q : AV → Lg → Prop) (l t : Env) (L : Lg) : wp F (q_chanq_Chan_Can_3 N) l t L (fin [.tmp (.l 4)] Q) (fun _ _ _ _ => False) (fin [.tmp (.l 4)] Q) = D_chanq_Chan_Can_3 F N Q (l 0) (l 1) L := by kernel_rfl
def q_chanq_Chan_Can_2a (N : Nat → Nat) : ACode := (.block 0 (.seq (.seq (.reg [⟨.t 6, none, .mv, [.l 0]⟩, ⟨.t 7, none, .eq false .ptr, [.t 6, .c (.p none)]⟩, ⟨.t 5, none, .mv, [.t 7]⟩]) (.cond (.t 5) .skip (.reg [⟨.t 8, none, .mv, [.l 0]⟩, ⟨.t 9, none, .call (N k_chanq_Chan_Mute), [.t 8]⟩, ⟨.t 10, none, .mv, [.t 9]⟩, ⟨.t 11, some (.t 10, true), .mv, [.l 1]⟩, ⟨.t 12, none, .pick, [.t 10, .t 11, .c (.b false)]⟩, ⟨.t 5, none, .mv, [.t 12]⟩]))) (.cond (.t 5) (.seq (.reg [⟨.l 4, none, .mv, [.c (.b false)]⟩]) .ret) .skip)))
def q_chanq_Chan_Can_2 (N : Nat → Nat) : ACode := (.seq (q_chanq_Chan_Can_2a N) (q_chanq_Chan_Can_3 N))
noncomputable def D_chanq_Chan_Can_2 (F : Nat → Option AFn) (N : Nat → Nat) (Q : AV → Lg → Prop) (x0 : AV) (x1 : AV) (L : Lg) : Prop :=
 wpOp F (.eq false .ptr) [x0, (.p none)] L fun v1 L1 =>
 condW v1
 (condW v1
 (fin1 (some (.b false)) Q L1)
 (D_chanq_Chan_Can_3 F N Q x0 x1 L1))
 (CallL F (N k_chanq_Chan_Mute) [x0] L1 fun v2 L2 =>
 gdOp F v2 true .mv [x1] L2 fun v3 L3 =>
 wpOp F .pick [v2, v3, (.b false)] L3 fun v4 L4 =>
 condW v4
 (fin1 (some (.b false)) Q L4)
 (D_chanq_Chan_Can_3 F N Q x0 x1 L4))
theorem e_chanq_Chan_Can_2 (F : Nat → Option AFn) (N : Nat → Nat) (Q : AV → Lg → Prop) (l t : Env) (L : Lg) : wp F (q_chanq_Chan_Can_2 N) l t L (fin [.tmp (.l 4)] Q) (fun _ _ _ _ => False) (fin [.tmp (.l 4)] Q) = D_chanq_Chan_Can_2 F N Q (l 0) (l 1) L := Eq.trans (wpq_seq F (q_chanq_Chan_Can_2a N) (q_chanq_Chan_Can_3 N) l t L (fin [.tmp (.l 4)] Q) (fun _ _ _ _ => False) (fin [.tmp (.l 4)] Q)) (Eq.trans (congrArg (fun Z : Kn => wp F (q_chanq_Chan_Can_2a N) l t L Z (fun _ _ _ _ => False) (fin [.tmp (.l 4)] Q)) (funext fun l => funext fun t => funext fun L => e_chanq_Chan_Can_3 F N Q l t L)) (by kernel_rfl))
def q_chanq_Chan_Can_1a (N : Nat → Nat) : ACode := (.reg [⟨.l 4, none, .mv, [.c (.b false)]⟩])
def q_chanq_Chan_Can_1 (N : Nat → Nat) : ACode := (.seq (q_chanq_Chan_Can_1a N) (q_chanq_Chan_Can_2 N))
noncomputable def D_chanq_Chan_Can_1 (F : Nat → Option AFn) (N : Nat → Nat) (Q : AV → Lg → Prop) (x0 : AV) (x1 : AV) (L : Lg) : Prop :=
 D_chanq_Chan_Can_2 F N Q x0 x1 L
theorem e_chanq_Chan_Can_1 (F : Nat → Option AFn) (N : Nat → Nat) (Q : AV → Lg → Prop) (l t : Env) (L : Lg) : wp F (q_chanq_Chan_Can_1 N) l t L (fin [.tmp (.l 4)] Q) (fun _ _ _ _ => False) (fin [.tmp (.l 4)] Q) = D_chanq_Chan_Can_1 F N Q (l 0) (l 1) L := Eq.trans (wpq_seq F (q_chanq_Chan_Can_1a N) (q_chanq_Chan_Can_2 N) l t L (fin [.tmp (.l 4)] Q) (fun _ _ _ _ => False) (fin [.tmp (.l 4)] Q)) (Eq.trans (congrArg (fun Z : Kn => wp F (q_chanq_Chan_Can_1a N) l t L Z (fun _ _ _ _ => False) (fin [.tmp (.l 4)] Q)) (funext fun l => funext fun t => funext fun L => e_chanq_Chan_Can_2 F N Q l t L)) (by kernel_rfl))
/-- (*tarpaulin/chanq.Chan).Can -/
def c_chanq_Chan_Can (N : Nat → Nat) : AFn := ⟨q_chanq_Chan_Can_1 N, [.tmp (.l 4)]⟩
structure H_chanq_Chan_Can (N : Nat → Nat) (F : Nat → Option AFn) : Prop where
  code : F (N k_chanq_Chan_Can) = some (c_chanq_Chan_Can N)
  chanq_Chan_Mute : H_chanq_Chan_Mute N F
  chanq_Chan_free : H_chanq_Chan_free N F
  chanq_Chan_queue : H_chanq_Chan_queue N F
  wait_Queue_Len : H_wait_Queue_Len N F
theorem r_chanq_Chan_Can {F : Nat → Option AFn} {N : Nat → Nat} (h : F (N k_chanq_Chan_Can) = some (c_chanq_Chan_Can N)) {Q : AV → Lg → Prop} {a0 a1 : AV} {L : Lg} (e : D_chanq_Chan_Can_1 F N Q a0 a1 L) : CallL F (N k_chanq_Chan_Can) [a0, a1] L Q :=
  CallL.of_wp h (Eq.mpr (Eq.trans (e_chanq_Chan_Can_1 F N Q (initE [a0, a1] 0) Env.nil L) (by kernel_rfl : _ = D_chanq_Chan_Can_1 F N Q a0 a1 L)) e)
def q_timer_Set_Gen_1 (N : Nat → Nat) : ACode := (.seq (.reg [⟨.l 4, none, .mv, [.c (.i .i64 0)]⟩]) (.seq (.seq (.reg [⟨.t 5, none, .mv, [.l 0]⟩, ⟨.t 6, none, .mv, [.l 1]⟩, ⟨.t 7, none, .call (N k_timer_Set_has), [.t 5, .t 6]⟩, ⟨.t 8, none, .un .not, [.t 7]⟩]) (.cond (.t 8) (.seq (.reg [⟨.l 4, none, .mv, [.c (.i .i64 0)]⟩]) .ret) .skip)) (.seq (.reg [⟨.t 9, none, .mv, [.l 0]⟩, ⟨.t 10, none, .nilchk, [.t 9]⟩, ⟨.t 11, none, .fad 0, [.t 10]⟩, ⟨.t 12, none, .ld none, [.t 11]⟩, ⟨.t 13, none, .mv, [.l 1]⟩, ⟨.t 14, none, .iad 4, [.t 12, .t 13]⟩, ⟨.t 15, none, .fad 3, [.t 14]⟩, ⟨.t 16, none, .ld none, [.t 15]⟩, ⟨.l 4, none, .mv, [.t 16]⟩]) .ret)))
noncomputable def D_timer_Set_Gen_1 (F : Nat → Option AFn) (N : Nat → Nat) (Q : AV → Lg → Prop) (x0 : AV) (x1 : AV) (L : Lg) : Prop :=
 CallL F (N k_timer_Set_has) [x0, x1] L fun v1 L1 =>
 wpOp F (.un .not) [v1] L1 fun v2 L2 =>
 condW v2
 (fin1 (some (.i .i64 0)) Q L2)
 (wpOp F .nilchk [x0] L2 fun v3 L3 =>
 wpOp F (.fad 0) [v3] L3 fun v4 L4 =>
 wpOp F (.ld none) [v4] L4 fun v5 L5 =>
 wpOp F (.iad 4) [v5, x1] L5 fun v6 L6 =>
 wpOp F (.fad 3) [v6] L6 fun v7 L7 =>
 wpOp F (.ld none) [v7] L7 fun v8 L8 =>
 fin1 (some v8) Q L8)
theorem e_timer_Set_Gen_1 (F : Nat → Option AFn) (N : Nat → Nat) (Q : AV → Lg → Prop) (l t : Env) (L : Lg) : wp F (q_timer_Set_Gen_1 N) l t L (fin [.tmp (.l 4)] Q) (fun _ _ _ _ => False) (fin [.tmp (.l 4)] Q) = D_timer_Set_Gen_1 F N Q (l 0) (l 1) L := by kernel_rfl
/-- (*tarpaulin/timer.Set).Gen -/
def c_timer_Set_Gen (N : Nat → Nat) : AFn := ⟨q_timer_Set_Gen_1 N, [.tmp (.l 4)]⟩
structure H_timer_Set_Gen (N : Nat → Nat) (F : Nat → Option AFn) : Prop where
  code : F (N k_timer_Set_Gen) = some (c_timer_Set_Gen N)
  timer_Set_has : H_timer_Set_has N F
theorem r_timer_Set_Gen {F : Nat → Option AFn} {N : Nat → Nat} (h : F (N k_timer_Set_Gen) = some (c_timer_Set_Gen N)) {Q : AV → Lg → Prop} {a0 a1 : AV} {L : Lg} (e : D_timer_Set_Gen_1 F N Q a0 a1 L) : CallL F (N k_timer_Set_Gen) [a0, a1] L Q :=
  CallL.of_wp h (Eq.mpr (Eq.trans (e_timer_Set_Gen_1 F N Q (initE [a0, a1] 0) Env.nil L) (by kernel_rfl : _ = D_timer_Set_Gen_1 F N Q a0 a1 L)) e)
def q_timer_Set_Chan_1 (N : Nat → Nat) : ACode := (.seq (.reg [⟨.l 4, none, .mv, [.c (.p none)]⟩]) (.seq (.seq (.reg [⟨.t 5, none, .mv, [.l 0]⟩, ⟨.t 6, none, .mv, [.l 1]⟩, ⟨.t 7, none, .call (N k_timer_Set_has), [.t 5, .t 6]⟩, ⟨.t 8, none, .un .not, [.t 7]⟩]) (.cond (.t 8) (.seq (.reg [⟨.l 4, none, .mv, [.c (.p none)]⟩]) .ret) .skip)) (.seq (.reg [⟨.t 9, none, .mv, [.l 0]⟩, ⟨.t 10, none, .nilchk, [.t 9]⟩, ⟨.t 11, none, .fad 0, [.t 10]⟩, ⟨.t 12, none, .ld none, [.t 11]⟩, ⟨.t 13, none, .mv, [.l 1]⟩, ⟨.t 14, none, .iad 4, [.t 12, .t 13]⟩, ⟨.t 15, none, .fad 2, [.t 14]⟩, ⟨.t 16, none, .ld none, [.t 15]⟩, ⟨.l 4, none, .mv, [.t 16]⟩]) .ret)))
noncomputable def D_timer_Set_Chan_1 (F : Nat → Option AFn) (N : Nat → Nat) (Q : AV → Lg → Prop) (x0 : AV) (x1 : AV) (L : Lg) : Prop :=
 CallL F (N k_timer_Set_has) [x0, x1] L fun v1 L1 =>
 wpOp F (.un .not) [v1] L1 fun v2 L2 =>
 condW v2
 (fin1 (some (.p none)) Q L2)
 (wpOp F .nilchk [x0] L2 fun v3 L3 =>
 wpOp F (.fad 0) [v3] L3 fun v4 L4 =>
 wpOp F (.ld none) [v4] L4 fun v5 L5 =>
 wpOp F (.iad 4) [v5, x1] L5 fun v6 L6 =>
 wpOp F (.fad 2) [v6] L6 fun v7 L7 =>
 wpOp F (.ld none) [v7] L7 fun v8 L8 =>
 fin1 (some v8) Q L8)
theorem e_timer_Set_Chan_1 (F : Nat → Option AFn) (N : Nat → Nat) (Q : AV → Lg → Prop) (l t : Env) (L : Lg) : wp F (q_timer_Set_Chan_1 N) l t L (fin [.tmp (.l 4)] Q) (fun _ _ _ _ => False) (fin [.tmp (.l 4)] Q) = D_timer_Set_Chan_1 F N Q (l 0) (l 1) L := by kernel_rfl
/-- (*tarpaulin/timer.Set).Chan -/
def c_timer_Set_Chan (N : Nat → Nat) : AFn := ⟨q_timer_Set_Chan_1 N, [.tmp (.l 4)]⟩
structure H_timer_Set_Chan (N : Nat → Nat) (F : Nat → Option AFn) : Prop where
  code : F (N k_timer_Set_Chan) = some (c_timer_Set_Chan N)
  timer_Set_has : H_timer_Set_has N F
theorem r_timer_Set_Chan {F : Nat → Option AFn} {N : Nat → Nat} (h : F (N k_timer_Set_Chan) = some (c_timer_Set_Chan N)) {Q : AV → Lg → Prop} {a0 a1 : AV} {L : Lg} (e : D_timer_Set_Chan_1 F N Q a0 a1 L) : CallL F (N k_timer_Set_Chan) [a0, a1] L Q :=
  CallL.of_wp h (Eq.mpr (Eq.trans (e_timer_Set_Chan_1 F N Q (initE [a0, a1] 0) Env.nil L) (by kernel_rfl : _ = D_timer_Set_Chan_1 F N Q a0 a1 L)) e)
def q_chanq_Chan_Recv_7 (N : Nat → Nat) : ACode := (.seq (.reg [⟨.t 57, none, .mv, [.l 2]⟩, ⟨.t 58, none, .mv, [.l 5]⟩, ⟨.l 2, none, .mv, [.t 57]⟩, ⟨.l 3, none, .mv, [.c (.b true)]⟩, ⟨.l 4, none, .mv, [.c (.b true)]⟩, ⟨.l 5, none, .mv, [.t 58]⟩]) .ret)
noncomputable def D_chanq_Chan_Recv_7 (F : Nat → Option AFn) (N : Nat → Nat) (Q : AV → Lg → Prop) (x2 : AV) (x5 : AV) (L : Lg) : Prop :=
 fin1 (some (.tup [x2, (.b true), (.b true), x5])) Q L
theorem e_chanq_Chan_Recv_7 (F : Nat → Option AFn) (N : Nat → Nat) (Q : AV → Lg → Prop) (l t : Env) (L : Lg) : wp F (q_chanq_Chan_Recv_7 N) l t L (fin [.tmp (.l 2), .tmp (.l 3), .tmp (.l 4), .tmp (.l 5)] Q) (fun _ _ _ _ => False) (fin [.tmp (.l 2), .tmp (.l 3), .tmp (.l 4), .tmp (.l 5)] Q) = D_chanq_Chan_Recv_7 F N Q (l 2) (l 5) L := by kernel_rfl
def q_chanq_Chan_Recv_6a (N : Nat → Nat) : ACode := (.block 0 (.seq (.reg [⟨.t 35, none, .mv, [.l 6]⟩, ⟨.t 36, none, .mv, [.t 35]⟩, ⟨.t 37, some (.t 36, true), .mv, [.l 8]⟩, ⟨.t 38, none, .pick, [.t 36, .t 37, .c (.b false)]⟩, ⟨.t 34, none, .mv, [.t 38]⟩]) (.cond (.t 34) (.reg [⟨.t 39, none, .mv, [.l 0]⟩, ⟨.t 40, none, .nilchk, [.t 39]⟩, ⟨.t 41, none, .fad 0, [.t 40]⟩, ⟨.t 42, none, .ld none, [.t 41]⟩, ⟨.t 43, none, .fad 2, [.l 7]⟩, ⟨.t 44, none, .ld none, [.t 43]⟩, ⟨.t 45, none, .call (N k_ring_Ring_Push), [.t 42, .t 44]⟩]) (.seq (.reg [⟨.t 47, none, .mv, [.l 8]⟩, ⟨.t 46, none, .mv, [.t 47]⟩]) (.cond (.t 46) (.reg [⟨.t 48, none, .fad 2, [.l 7]⟩, ⟨.t 49, none, .ld none, [.t 48]⟩, ⟨.l 2, none, .mv, [.t 49]⟩]) (.seq (.reg [⟨.t 51, none, .mv, [.l 6]⟩, ⟨.t 52, none, .un .not, [.t 51]⟩, ⟨.t 50, none, .mv, [.t 52]⟩]) (.cond (.t 50) (.seq (.reg [⟨.t 53, none, .mv, [.l 0]⟩, ⟨.t 54, none, .nilchk, [.t 53]⟩, ⟨.t 55, none, .fad 5, [.t 54]⟩, ⟨.t 56, none, .ld none, [.t 55]⟩, ⟨.l 2, none, .mv, [.c (.i .i64 0)]⟩, ⟨.l 3, none, .mv, [.c (.b false)]⟩, ⟨.l 4, none, .mv, [.t 56]⟩, ⟨.l 5, none, .mv, [.c (.sl none 0 0 0)]⟩]) .ret) .skip)))))))
def q_chanq_Chan_Recv_6 (N : Nat → Nat) : ACode := (.seq (q_chanq_Chan_Recv_6a N) (q_chanq_Chan_Recv_7 N))
noncomputable def D_chanq_Chan_Recv_6 (F : Nat → Option AFn) (N : Nat → Nat) (Q : AV → Lg → Prop) (x0 : AV) (x2 : AV) (x5 : AV) (x6 : AV) (x7 : AV) (x8 : AV) (L : Lg) : Prop :=
 gdOp F x6 true .mv [x8] L fun v1 L1 =>
 wpOp F .pick [x6, v1, (.b false)] L1 fun v2 L2 =>
 condW v2
 (wpOp F .nilchk [x0] L2 fun v3 L3 =>
 wpOp F (.fad 0) [v3] L3 fun v4 L4 =>
 wpOp F (.ld none) [v4] L4 fun v5 L5 =>
 wpOp F (.fad 2) [x7] L5 fun v6 L6 =>
 wpOp F (.ld none) [v6] L6 fun v7 L7 =>
 CallL F (N k_ring_Ring_Push) [v5, v7] L7 fun v8 L8 =>
 D_chanq_Chan_Recv_7 F N Q x2 x5 L8)
 (condW x8
 (wpOp F (.fad 2) [x7] L2 fun v9 L9 =>
 wpOp F (.ld none) [v9] L9 fun v10 L10 =>
 D_chanq_Chan_Recv_7 F N Q v10 x5 L10)
 (wpOp F (.un .not) [x6] L2 fun v11 L11 =>
 condW v11
 (wpOp F .nilchk [x0] L11 fun v12 L12 =>
 wpOp F (.fad 5) [v12] L12 fun v13 L13 =>
 wpOp F (.ld none) [v13] L13 fun v14 L14 =>
 fin1 (some (.tup [(.i .i64 0), (.b false), v14, (.sl none 0 0 0)])) Q L14)
 (D_chanq_Chan_Recv_7 F N Q x2 x5 L11)))
theorem e_chanq_Chan_Recv_6 (F : Nat → Option AFn) (N : Nat → Nat) (Q : AV → Lg → Prop) (l t : Env) (L : Lg) : wp F (q_chanq_Chan_Recv_6 N) l t L (fin [.tmp (.l 2), .tmp (.l 3), .tmp (.l 4), .tmp (.l 5)] Q) (fun _ _ _ _ => False) (fin [.tmp (.l 2), .tmp (.l 3), .tmp (.l 4), .tmp (.l 5)] Q) = D_chanq_Chan_Recv_6 F N Q (l 0) (l 2) (l 5) (l 6) (l 7) (l 8) L := Eq.trans (wpq_seq F (q_chanq_Chan_Recv_6a N) (q_chanq_Chan_Recv_7 N) l t L (fin [.tmp (.l 2), .tmp (.l 3), .tmp (.l 4), .tmp (.l 5)] Q) (fun _ _ _ _ => False) (fin [.tmp (.l 2), .tmp (.l 3), .tmp (.l 4), .tmp (.l 5)] Q)) (Eq.trans (congrArg (fun Z : Kn => wp F (q_chanq_Chan_Recv_6a N) l t L Z (fun _ _ _ _ => False) (fin [.tmp (.l 2), .tmp (.l 3), .tmp (.l 4), .tmp (.l 5)] Q)) (funext fun l => funext fun t => funext fun L => e_chanq_Chan_Recv_7 F N Q l t L)) (by kernel_rfl))
def q_chanq_Chan_Recv_5a (N : Nat → Nat) : ACode := (.seq (.reg [⟨.t 27, none, .mv, [.l 8]⟩]) (.cond (.t 27) (.reg [⟨.t 28, none, .fad 0, [.l 7]⟩, ⟨.t 29, none, .ld none, [.t 28]⟩, ⟨.t 30, none, .fad 1, [.l 7]⟩, ⟨.t 31, none, .ld none, [.t 30]⟩, ⟨.t 32, none, .build [.i .i64 0, .i .i64 0, .i .i64 0, .b false, .b false] [(0, 1), (1, 1), (3, 1)], [.t 29, .t 31, .c (.b true)]⟩, ⟨.t 33, none, .bslice [.i .i64 0, .i .i64 0, .i .i64 0, .b false, .b false] 1 5 [0], [.t 32]⟩, ⟨.l 5, none, .mv, [.t 33]⟩]) .skip))
def q_chanq_Chan_Recv_5 (N : Nat → Nat) : ACode := (.seq (q_chanq_Chan_Recv_5a N) (q_chanq_Chan_Recv_6 N))
noncomputable def D_chanq_Chan_Recv_5 (F : Nat → Option AFn) (N : Nat → Nat) (Q : AV → Lg → Prop) (x0 : AV) (x2 : AV) (x5 : AV) (x6 : AV) (x7 : AV) (x8 : AV) (L : Lg) : Prop :=
 condW x8
 (wpOp F (.fad 0) [x7] L fun v1 L1 =>
 wpOp F (.ld none) [v1] L1 fun v2 L2 =>
 wpOp F (.fad 1) [x7] L2 fun v3 L3 =>
 wpOp F (.ld none) [v3] L3 fun v4 L4 =>
 wpOp F (.build [.i .i64 0, .i .i64 0, .i .i64 0, .b false, .b false] [(0, 1), (1, 1), (3, 1)]) [v2, v4, (.b true)] L4 fun v5 L5 =>
 wpOp F (.bslice [.i .i64 0, .i .i64 0, .i .i64 0, .b false, .b false] 1 5 [0]) [v5] L5 fun v6 L6 =>
 D_chanq_Chan_Recv_6 F N Q x0 x2 v6 x6 x7 x8 L6)
 (D_chanq_Chan_Recv_6 F N Q x0 x2 x5 x6 x7 x8 L)
theorem e_chanq_Chan_Recv_5 (F : Nat → Option AFn) (N : Nat → Nat) (Q : AV → Lg → Prop) (l t : Env) (L : Lg) : wp F (q_chanq_Chan_Recv_5 N) l t L (fin [.tmp (.l 2), .tmp (.l 3), .tmp (.l 4), .tmp (.l 5)] Q) (fun _ _ _ _ => False) (fin [.tmp (.l 2), .tmp (.l 3), .tmp (.l 4), .tmp (.l 5)] Q) = D_chanq_Chan_Recv_5 F N Q (l 0) (l 2) (l 5) (l 6) (l 7) (l 8) L := Eq.trans (wpq_seq F (q_chanq_Chan_Recv_5a N) (q_chanq_Chan_Recv_6 N) l t L (fin [.tmp (.l 2), .tmp (.l 3), .tmp (.l 4), .tmp (.l 5)] Q) (fun _ _ _ _ => False) (fin [.tmp (.l 2), .tmp (.l 3), .tmp (.l 4), .tmp (.l 5)] Q)) (Eq.trans (congrArg (fun Z : Kn => wp F (q_chanq_Chan_Recv_5a N) l t L Z (fun _ _ _ _ => False) (fin [.tmp (.l 2), .tmp (.l 3), .tmp (.l 4), .tmp (.l 5)] Q)) (funext fun l => funext fun t => funext fun L => e_chanq_Chan_Recv_6 F N Q l t L)) (by kernel_rfl))
def q_chanq_Chan_Recv_4a (N : Nat → Nat) : ACode := (.reg [⟨.t 20, none, .mv, [.l 0]⟩, ⟨.t 21, none, .nilchk, [.t 20]⟩, ⟨.t 22, none, .fad 2, [.t 21]⟩, ⟨.t 23, none, .ld none, [.t 22]⟩, ⟨.t 24, none, .call (N k_wait_Queue_Pop), [.t 23]⟩, ⟨.t 19, none, .mv, [.t 24]⟩, ⟨.t 25, none, .ext 0, [.t 19]⟩, ⟨.t 26, none, .ext 1, [.t 19]⟩, ⟨.l 7, none, .alloc [.i .i64 0, .i .i64 0, .i .i64 0], []⟩, ⟨.no, none, .st 3, [.l 7, .t 25]⟩, ⟨.l 8, none, .mv, [.t 26]⟩])
def q_chanq_Chan_Recv_4 (N : Nat → Nat) : ACode := (.seq (q_chanq_Chan_Recv_4a N) (q_chanq_Chan_Recv_5 N))
noncomputable def D_chanq_Chan_Recv_4 (F : Nat → Option AFn) (N : Nat → Nat) (Q : AV → Lg → Prop) (x0 : AV) (x2 : AV) (x5 : AV) (x6 : AV) (L : Lg) : Prop :=
 wpOp F .nilchk [x0] L fun v1 L1 =>
 wpOp F (.fad 2) [v1] L1 fun v2 L2 =>
 wpOp F (.ld none) [v2] L2 fun v3 L3 =>
 CallL F (N k_wait_Queue_Pop) [v3] L3 fun v4 L4 =>
 wpOp F (.ext 0) [v4] L4 fun v5 L5 =>
 wpOp F (.ext 1) [v4] L5 fun v6 L6 =>
 wpOp F (.alloc [.i .i64 0, .i .i64 0, .i .i64 0]) [] L6 fun v7 L7 =>
 wpOp F (.st 3) [v7, v5] L7 fun _ L8 =>
 D_chanq_Chan_Recv_5 F N Q x0 x2 x5 x6 v7 v6 L8
theorem e_chanq_Chan_Recv_4 (F : Nat → Option AFn) (N : Nat → Nat) (Q : AV → Lg → Prop) (l t : Env) (L : Lg) : wp F (q_chanq_Chan_Recv_4 N) l t L (fin [.tmp (.l 2), .tmp (.l 3), .tmp (.l 4), .tmp (.l 5)] Q) (fun _ _ _ _ => False) (fin [.tmp (.l 2), .tmp (.l 3), .tmp (.l 4), .tmp (.l 5)] Q) = D_chanq_Chan_Recv_4 F N Q (l 0) (l 2) (l 5) (l 6) L := Eq.trans (wpq_seq F (q_chanq_Chan_Recv_4a N) (q_chanq_Chan_Recv_5 N) l t L (fin [.tmp (.l 2), .tmp (.l 3), .tmp (.l 4), .tmp (.l 5)] Q) (fun _ _ _ _ => False) (fin [.tmp (.l 2), .tmp (.l 3), .tmp (.l 4), .tmp (.l 5)] Q)) (Eq.trans (congrArg (fun Z : Kn => wp F (q_chanq_Chan_Recv_4a N) l t L Z (fun _ _ _ _ => False) (fin [.tmp (.l 2), .tmp (.l 3), .tmp (.l 4), .tmp (.l 5)] Q)) (funext fun l => funext fun t => funext fun L => e_chanq_Chan_Recv_5 F N Q l t L)) (by kernel_rfl))
def q_chanq_Chan_Recv_3a (N : Nat → Nat) : ACode := (.reg [⟨.t 12, none, .mv, [.l 0]⟩, ⟨.t 13, none, .nilchk, [.t 12]⟩, ⟨.t 14, none, .fad 0, [.t 13]⟩, ⟨.t 15, none, .ld none, [.t 14]⟩, ⟨.t 16, none, .call (N k_ring_Ring_Pop), [.t 15]⟩, ⟨.t 11, none, .mv, [.t 16]⟩, ⟨.t 17, none, .ext 0, [.t 11]⟩, ⟨.t 18, none, .ext 1, [.t 11]⟩, ⟨.l 2, none, .mv, [.t 17]⟩, ⟨.l 6, none, .mv, [.t 18]⟩])
def q_chanq_Chan_Recv_3 (N : Nat → Nat) : ACode := (.seq (q_chanq_Chan_Recv_3a N) (q_chanq_Chan_Recv_4 N))
noncomputable def D_chanq_Chan_Recv_3 (F : Nat → Option AFn) (N : Nat → Nat) (Q : AV → Lg → Prop) (x0 : AV) (x5 : AV) (L : Lg) : Prop :=
 wpOp F .nilchk [x0] L fun v1 L1 =>
 wpOp F (.fad 0) [v1] L1 fun v2 L2 =>
 wpOp F (.ld none) [v2] L2 fun v3 L3 =>
 CallL F (N k_ring_Ring_Pop) [v3] L3 fun v4 L4 =>
 wpOp F (.ext 0) [v4] L4 fun v5 L5 =>
 wpOp F (.ext 1) [v4] L5 fun v6 L6 =>
 D_chanq_Chan_Recv_4 F N Q x0 v5 x5 v6 L6
theorem e_chanq_Chan_Recv_3 (F : Nat → Option AFn) (N : Nat → Nat) (Q : AV → Lg → Prop) (l t : Env) (L : Lg) : wp F (q_chanq_Chan_Recv_3 N) l t L (fin [.tmp (.l 2), .tmp (.l 3), .tmp (.l 4), .tmp (.l 5)] Q) (fun _ _ _ _ => False) (fin [.tmp (.l 2), .tmp (.l 3), .tmp (.l 4), .tmp (.l 5)] Q) = D_chanq_Chan_Recv_3 F N Q (l 0) (l 5) L := Eq.trans (wpq_seq F (q_chanq_Chan_Recv_3a N) (q_chanq_Chan_Recv_4 N) l t L (fin [.tmp (.l 2), .tmp (.l 3), .tmp (.l 4), .tmp (.l 5)] Q) (fun _ _ _ _ => False) (fin [.tmp (.l 2), .tmp (.l 3), .tmp (.l 4), .tmp (.l 5)] Q)) (Eq.trans (congrArg (fun Z : Kn => wp F (q_chanq_Chan_Recv_3a N) l t L Z (fun _ _ _ _ => False) (fin [.tmp (.l 2), .tmp (.l 3), .tmp (.l 4), .tmp (.l 5)] Q)) (funext fun l => funext fun t => funext fun L => e_chanq_Chan_Recv_4 F N Q l t L)) (by kernel_rfl))
def q_chanq_Chan_Recv_2a (N : Nat → Nat) : ACode := (.seq (.reg [⟨.t 9, none, .mv, [.l 0]⟩, ⟨.t 10, none, .eq false .ptr, [.t 9, .c (.p none)]⟩]) (.cond (.t 10) (.seq (.reg [⟨.l 2, none, .mv, [.c (.i .i64 0)]⟩, ⟨.l 3, none, .mv, [.c (.b false)]⟩, ⟨.l 4, none, .mv, [.c (.b false)]⟩, ⟨.l 5, none, .mv, [.c (.sl none 0 0 0)]⟩]) .ret) .skip))
def q_chanq_Chan_Recv_2 (N : Nat → Nat) : ACode := (.seq (q_chanq_Chan_Recv_2a N) (q_chanq_Chan_Recv_3 N))
noncomputable def D_chanq_Chan_Recv_2 (F : Nat → Option AFn) (N : Nat → Nat) (Q : AV → Lg → Prop) (x0 : AV) (x5 : AV) (L : Lg) : Prop :=
 wpOp F (.eq false .ptr) [x0, (.p none)] L fun v1 L1 =>
 condW v1
 (fin1 (some (.tup [(.i .i64 0), (.b false), (.b false), (.sl none 0 0 0)])) Q L1)
 (D_chanq_Chan_Recv_3 F N Q x0 x5 L1)
theorem e_chanq_Chan_Recv_2 (F : Nat → Option AFn) (N : Nat → Nat) (Q : AV → Lg → Prop) (l t : Env) (L : Lg) : wp F (q_chanq_Chan_Recv_2 N) l t L (fin [.tmp (.l 2), .tmp (.l 3), .tmp (.l 4), .tmp (.l 5)] Q) (fun _ _ _ _ => False) (fin [.tmp (.l 2), .tmp (.l 3), .tmp (.l 4), .tmp (.l 5)] Q) = D_chanq_Chan_Recv_2 F N Q (l 0) (l 5) L := Eq.trans (wpq_seq F (q_chanq_Chan_Recv_2a N) (q_chanq_Chan_Recv_3 N) l t L (fin [.tmp (.l 2), .tmp (.l 3), .tmp (.l 4), .tmp (.l 5)] Q) (fun _ _ _ _ => False) (fin [.tmp (.l 2), .tmp (.l 3), .tmp (.l 4), .tmp (.l 5)] Q)) (Eq.trans (congrArg (fun Z : Kn => wp F (q_chanq_Chan_Recv_2a N) l t L Z (fun _ _ _ _ => False) (fin [.tmp (.l 2), .tmp (.l 3), .tmp (.l 4), .tmp (.l 5)] Q)) (funext fun l => funext fun t => funext fun L => e_chanq_Chan_Recv_3 F N Q l t L)) (by kernel_rfl))
def q_chanq_Chan_Recv_1a (N : Nat → Nat) : ACode := (.reg [⟨.l 2, none, .mv, [.c (.i .i64 0)]⟩, ⟨.l 3, none, .mv, [.c (.b false)]⟩, ⟨.l 4, none, .mv, [.c (.b false)]⟩, ⟨.l 5, none, .mv, [.c (.sl none 0 0 0)]⟩])
def q_chanq_Chan_Recv_1 (N : Nat → Nat) : ACode := (.seq (q_chanq_Chan_Recv_1a N) (q_chanq_Chan_Recv_2 N))
noncomputable def D_chanq_Chan_Recv_1 (F : Nat → Option AFn) (N : Nat → Nat) (Q : AV → Lg → Prop) (x0 : AV) (L : Lg) : Prop :=
 D_chanq_Chan_Recv_2 F N Q x0 (.sl none 0 0 0) L
theorem e_chanq_Chan_Recv_1 (F : Nat → Option AFn) (N : Nat → Nat) (Q : AV → Lg → Prop) (l t : Env) (L : Lg) : wp F (q_chanq_Chan_Recv_1 N) l t L (fin [.tmp (.l 2), .tmp (.l 3), .tmp (.l 4), .tmp (.l 5)] Q) (fun _ _ _ _ => False) (fin [.tmp (.l 2), .tmp (.l 3), .tmp (.l 4), .tmp (.l 5)] Q) = D_chanq_Chan_Recv_1 F N Q (l 0) L := Eq.trans (wpq_seq F (q_chanq_Chan_Recv_1a N) (q_chanq_Chan_Recv_2 N) l t L (fin [.tmp (.l 2), .tmp (.l 3), .tmp (.l 4), .tmp (.l 5)] Q) (fun _ _ _ _ => False) (fin [.tmp (.l 2), .tmp (.l 3), .tmp (.l 4), .tmp (.l 5)] Q)) (Eq.trans (congrArg (fun Z : Kn => wp F (q_chanq_Chan_Recv_1a N) l t L Z (fun _ _ _ _ => False) (fin [.tmp (.l 2), .tmp (.l 3), .tmp (.l 4), .tmp (.l 5)] Q)) (funext fun l => funext fun t => funext fun L => e_chanq_Chan_Recv_2 F N Q l t L)) (by kernel_rfl))
/-- (*tarpaulin/chanq.Chan).Recv -/
def c_chanq_Chan_Recv (N : Nat → Nat) : AFn := ⟨q_chanq_Chan_Recv_1 N, [.tmp (.l 2), .tmp (.l 3), .tmp (.l 4), .tmp (.l 5)]⟩
structure H_chanq_Chan_Recv (N : Nat → Nat) (F : Nat → Option AFn) : Prop where
  code : F (N k_chanq_Chan_Recv) = some (c_chanq_Chan_Recv N)
  ring_Ring_Pop : H_ring_Ring_Pop N F
  wait_Queue_Pop : H_wait_Queue_Pop N F
  ring_Ring_Push : H_ring_Ring_Push N F
theorem r_chanq_Chan_Recv {F : Nat → Option AFn} {N : Nat → Nat} (h : F (N k_chanq_Chan_Recv) = some (c_chanq_Chan_Recv N)) {Q : AV → Lg → Prop} {a0 : AV} {L : Lg} (e : D_chanq_Chan_Recv_1 F N Q a0 L) : CallL F (N k_chanq_Chan_Recv) [a0] L Q :=
  CallL.of_wp h (Eq.mpr (Eq.trans (e_chanq_Chan_Recv_1 F N Q (initE [a0] 0) Env.nil L) (by kernel_rfl : _ = D_chanq_Chan_Recv_1 F N Q a0 L)) e)
def q_chanq_Chan_Wait_1_1 (N : Nat → Nat) : ACode := (.seq (.reg [⟨.l 2, none, .box, [.l 0]⟩, ⟨.l 3, none, .mv, [.c (.b false)]⟩]) (.seq (.reg [⟨.t 4, none, .fad 0, [.l 2]⟩, ⟨.t 5, none, .ld none, [.t 4]⟩, ⟨.t 6, none, .fad 0, [.l 1]⟩, ⟨.t 7, none, .ld none, [.t 6]⟩, ⟨.t 8, none, .bin .neq, [.t 5, .t 7]⟩, ⟨.l 3, none, .mv, [.t 8]⟩]) .ret))
noncomputable def D_chanq_Chan_Wait_1_1 (F : Nat → Option AFn) (N : Nat → Nat) (Q : AV → Lg → Prop) (x0 : AV) (x1 : AV) (L : Lg) : Prop :=
 wpOp F .box [x0] L fun v1 L1 =>
 wpOp F (.fad 0) [v1] L1 fun v2 L2 =>
 wpOp F (.ld none) [v2] L2 fun v3 L3 =>
 wpOp F (.fad 0) [x1] L3 fun v4 L4 =>
 wpOp F (.ld none) [v4] L4 fun v5 L5 =>
 wpOp F (.bin .neq) [v3, v5] L5 fun v6 L6 =>
 fin1 (some v6) Q L6
theorem e_chanq_Chan_Wait_1_1 (F : Nat → Option AFn) (N : Nat → Nat) (Q : AV → Lg → Prop) (l t : Env) (L : Lg) : wp F (q_chanq_Chan_Wait_1_1 N) l t L (fin [.tmp (.l 3)] Q) (fun _ _ _ _ => False) (fin [.tmp (.l 3)] Q) = D_chanq_Chan_Wait_1_1 F N Q (l 0) (l 1) L := by kernel_rfl
/-- (*tarpaulin/chanq.Chan).Wait$1 -/
def c_chanq_Chan_Wait_1 (N : Nat → Nat) : AFn := ⟨q_chanq_Chan_Wait_1_1 N, [.tmp (.l 3)]⟩
structure H_chanq_Chan_Wait_1 (N : Nat → Nat) (F : Nat → Option AFn) : Prop where
  code : F (N k_chanq_Chan_Wait_1) = some (c_chanq_Chan_Wait_1 N)
theorem r_chanq_Chan_Wait_1 {F : Nat → Option AFn} {N : Nat → Nat} (h : F (N k_chanq_Chan_Wait_1) = some (c_chanq_Chan_Wait_1 N)) {Q : AV → Lg → Prop} {a0 a1 : AV} {L : Lg} (e : D_chanq_Chan_Wait_1_1 F N Q a0 a1 L) : CallL F (N k_chanq_Chan_Wait_1) [a0, a1] L Q :=
  CallL.of_wp h (Eq.mpr (Eq.trans (e_chanq_Chan_Wait_1_1 F N Q (initE [a0, a1] 0) Env.nil L) (by kernel_rfl : _ = D_chanq_Chan_Wait_1_1 F N Q a0 a1 L)) e)
def q_chanq_Chan_Waiting_1 (N : Nat → Nat) : ACode := (.seq (.reg [⟨.l 4, none, .mv, [.c (.sl none 0 0 0)]⟩]) (.seq (.reg [⟨.t 5, none, .mv, [.l 0]⟩, ⟨.t 6, none, .mv, [.l 1]⟩, ⟨.t 7, none, .call (N k_chanq_Chan_queue), [.t 5, .t 6]⟩, ⟨.t 8, none, .call (N k_wait_Queue_All), [.t 7]⟩, ⟨.l 4, none, .mv, [.t 8]⟩]) .ret))
noncomputable def D_chanq_Chan_Waiting_1 (F : Nat → Option AFn) (N : Nat → Nat) (Q : AV → Lg → Prop) (x0 : AV) (x1 : AV) (L : Lg) : Prop :=
 CallL F (N k_chanq_Chan_queue) [x0, x1] L fun v1 L1 =>
 CallL F (N k_wait_Queue_All) [v1] L1 fun v2 L2 =>
 fin1 (some v2) Q L2
theorem e_chanq_Chan_Waiting_1 (F : Nat → Option AFn) (N : Nat → Nat) (Q : AV → Lg → Prop) (l t : Env) (L : Lg) : wp F (q_chanq_Chan_Waiting_1 N) l t L (fin [.tmp (.l 4)] Q) (fun _ _ _ _ => False) (fin [.tmp (.l 4)] Q) = D_chanq_Chan_Waiting_1 F N Q (l 0) (l 1) L := by kernel_rfl
/-- (*tarpaulin/chanq.Chan).Waiting -/
def c_chanq_Chan_Waiting (N : Nat → Nat) : AFn := ⟨q_chanq_Chan_Waiting_1 N, [.tmp (.l 4)]⟩
structure H_chanq_Chan_Waiting (N : Nat → Nat) (F : Nat → Option AFn) : Prop where
  code : F (N k_chanq_Chan_Waiting) = some (c_chanq_Chan_Waiting N)
  chanq_Chan_queue : H_chanq_Chan_queue N F
  wait_Queue_All : H_wait_Queue_All N F
theorem r_chanq_Chan_Waiting {F : Nat → Option AFn} {N : Nat → Nat} (h : F (N k_chanq_Chan_Waiting) = some (c_chanq_Chan_Waiting N)) {Q : AV → Lg → Prop} {a0 a1 : AV} {L : Lg} (e : D_chanq_Chan_Waiting_1 F N Q a0 a1 L) : CallL F (N k_chanq_Chan_Waiting) [a0, a1] L Q :=
  CallL.of_wp h (Eq.mpr (Eq.trans (e_chanq_Chan_Waiting_1 F N Q (initE [a0, a1] 0) Env.nil L) (by kernel_rfl : _ = D_chanq_Chan_Waiting_1 F N Q a0 a1 L)) e)
def q_slices_IndexFunc_WaitWait_3 (N : Nat → Nat) : ACode := (.seq (.reg [⟨.l 4, none, .mv, [.c (.i .i64 (-1))]⟩]) .ret)
noncomputable def D_slices_IndexFunc_WaitWait_3 (F : Nat → Option AFn) (N : Nat → Nat) (Q : AV → Lg → Prop) (L : Lg) : Prop :=
 fin1 (some (.i .i64 (-1))) Q L
theorem e_slices_IndexFunc_WaitWait_3 (F : Nat → Option AFn) (N : Nat → Nat) (Q : AV → Lg → Prop) (l t : Env) (L : Lg) : wp F (q_slices_IndexFunc_WaitWait_3 N) l t L (fin [.tmp (.l 4)] Q) (fun _ _ _ _ => False) (fin [.tmp (.l 4)] Q) = D_slices_IndexFunc_WaitWait_3 F N Q L := by kernel_rfl
def q_slices_IndexFunc_WaitWait_7 (N : Nat → Nat) : ACode := (.seq (.reg [⟨.t 9, none, .bin .lss, [.l 8, .l 7]⟩]) (.seq (.cond (.t 9) .skip (.exit 0)) (.seq (.block 1 (.seq (.reg [⟨.t 10, none, .mv, [.l 8]⟩, ⟨.l 5, none, .mv, [.t 10]⟩]) (.seq (.reg [⟨.t 11, none, .mv, [.l 1]⟩, ⟨.t 12, none, .mv, [.l 0]⟩, ⟨.t 13, none, .mv, [.l 5]⟩, ⟨.t 14, none, .iad 3, [.t 12, .t 13]⟩, ⟨.t 15, none, .ld (some 3), [.t 14]⟩, ⟨.t 16, none, .callv, [.t 11, .t 15]⟩]) (.cond (.t 16) (.seq (.reg [⟨.t 17, none, .mv, [.l 5]⟩, ⟨.l 4, none, .mv, [.t 17]⟩]) .ret) .skip)))) (.reg [⟨.t 18, none, .bin .add, [.l 8, .c (.i .i64 1)]⟩, ⟨.l 8, none, .mv, [.t 18]⟩]))))
noncomputable def D_slices_IndexFunc_WaitWait_7 (F : Nat → Option AFn) (N : Nat → Nat) (Q : AV → Lg → Prop) (k1 : Env → Lg → Prop) (l : Env) (L : Lg) : Prop :=
 wpOp F (.bin .lss) [(l 8), (l 7)] L fun v1 L1 =>
 condW v1
 (wpOp F (.iad 3) [(l 0), (l 8)] L1 fun v2 L2 =>
 wpOp F (.ld (some 3)) [v2] L2 fun v3 L3 =>
 wpOp F .callv [(l 1), v3] L3 fun v4 L4 =>
 condW v4
 (fin1 (some (l 8)) Q L4)
 (wpOp F (.bin .add) [(l 8), (.i .i64 1)] L4 fun v5 L5 =>
 k1 (Env.put (Env.put l 5 (l 8)) 8 v5) L5))
 (D_slices_IndexFunc_WaitWait_3 F N Q L1)
theorem e_slices_IndexFunc_WaitWait_7 (F : Nat → Option AFn) (N : Nat → Nat) (Q : AV → Lg → Prop) (k1 : Env → Lg → Prop) (l t : Env) (L : Lg) : wp F (q_slices_IndexFunc_WaitWait_7 N) l t L (fun (l _ : Env) (L : Lg) => k1 l L) (fun (j : Nat) (l t : Env) (L : Lg) => bif Nat.beq j 0 then (fun (l t : Env) (L : Lg) => D_slices_IndexFunc_WaitWait_3 F N Q L) l t L else (fun _ _ _ _ => False) j l t L) (fin [.tmp (.l 4)] Q) = D_slices_IndexFunc_WaitWait_7 F N Q k1 l L := by kernel_rfl
def q_slices_IndexFunc_WaitWait_6 (N : Nat → Nat) : ACode := (.loop (q_slices_IndexFunc_WaitWait_7 N))
noncomputable def D_slices_IndexFunc_WaitWait_6 (F : Nat → Option AFn) (N : Nat → Nat) (Q : AV → Lg → Prop) (l : Env) (L : Lg) : Prop :=
 loopW (fun l t L k1 => D_slices_IndexFunc_WaitWait_7 F N Q k1 l L) l L
theorem e_slices_IndexFunc_WaitWait_6 (F : Nat → Option AFn) (N : Nat → Nat) (Q : AV → Lg → Prop) (l t : Env) (L : Lg) : wp F (q_slices_IndexFunc_WaitWait_6 N) l t L (fun (l t : Env) (L : Lg) => D_slices_IndexFunc_WaitWait_3 F N Q L) (fun (j : Nat) (l t : Env) (L : Lg) => bif Nat.beq j 0 then (fun (l t : Env) (L : Lg) => D_slices_IndexFunc_WaitWait_3 F N Q L) l t L else (fun _ _ _ _ => False) j l t L) (fin [.tmp (.l 4)] Q) = D_slices_IndexFunc_WaitWait_6 F N Q l L := Eq.trans (wpq_loop F (q_slices_IndexFunc_WaitWait_7 N) l t L (fun (l t : Env) (L : Lg) => D_slices_IndexFunc_WaitWait_3 F N Q L) (fun (j : Nat) (l t : Env) (L : Lg) => bif Nat.beq j 0 then (fun (l t : Env) (L : Lg) => D_slices_IndexFunc_WaitWait_3 F N Q L) l t L else (fun _ _ _ _ => False) j l t L) (fin [.tmp (.l 4)] Q)) (Eq.trans (congrArg (fun B => loopW B l L) (funext fun l => funext fun t => funext fun L => funext fun k1 => e_slices_IndexFunc_WaitWait_7 F N Q k1 l t L)) (by kernel_rfl))
def q_slices_IndexFunc_WaitWait_5 (N : Nat → Nat) : ACode := (.block 0 (q_slices_IndexFunc_WaitWait_6 N))
theorem e_slices_IndexFunc_WaitWait_5 (F : Nat → Option AFn) (N : Nat → Nat) (Q : AV → Lg → Prop) (l t : Env) (L : Lg) : wp F (q_slices_IndexFunc_WaitWait_5 N) l t L (fun (l t : Env) (L : Lg) => D_slices_IndexFunc_WaitWait_3 F N Q L) (fun _ _ _ _ => False) (fin [.tmp (.l 4)] Q) = D_slices_IndexFunc_WaitWait_6 F N Q l L := Eq.trans (wpq_block F 0 (q_slices_IndexFunc_WaitWait_6 N) l t L (fun (l t : Env) (L : Lg) => D_slices_IndexFunc_WaitWait_3 F N Q L) (fun _ _ _ _ => False) (fin [.tmp (.l 4)] Q)) (e_slices_IndexFunc_WaitWait_6 F N Q l t L)
def q_slices_IndexFunc_WaitWait_4a (N : Nat → Nat) : ACode := (.reg [⟨.t 6, none, .mv, [.l 0]⟩, ⟨.l 7, none, .lenSl, [.t 6]⟩, ⟨.l 8, none, .mv, [.c (.i .i64 0)]⟩])
def q_slices_IndexFunc_WaitWait_4 (N : Nat → Nat) : ACode := (.seq (q_slices_IndexFunc_WaitWait_4a N) (q_slices_IndexFunc_WaitWait_5 N))
noncomputable def D_slices_IndexFunc_WaitWait_4 (F : Nat → Option AFn) (N : Nat → Nat) (Q : AV → Lg → Prop) (l : Env) (L : Lg) : Prop :=
 wpOp F .lenSl [(l 0)] L fun v1 L1 =>
 D_slices_IndexFunc_WaitWait_6 F N Q (Env.put (Env.put l 7 v1) 8 (.i .i64 0)) L1
theorem e_slices_IndexFunc_WaitWait_4 (F : Nat → Option AFn) (N : Nat → Nat) (Q : AV → Lg → Prop) (l t : Env) (L : Lg) : wp F (q_slices_IndexFunc_WaitWait_4 N) l t L (fun (l t : Env) (L : Lg) => D_slices_IndexFunc_WaitWait_3 F N Q L) (fun _ _ _ _ => False) (fin [.tmp (.l 4)] Q) = D_slices_IndexFunc_WaitWait_4 F N Q l L := Eq.trans (wpq_seq F (q_slices_IndexFunc_WaitWait_4a N) (q_slices_IndexFunc_WaitWait_5 N) l t L (fun (l t : Env) (L : Lg) => D_slices_IndexFunc_WaitWait_3 F N Q L) (fun _ _ _ _ => False) (fin [.tmp (.l 4)] Q)) (Eq.trans (congrArg (fun Z : Kn => wp F (q_slices_IndexFunc_WaitWait_4a N) l t L Z (fun _ _ _ _ => False) (fin [.tmp (.l 4)] Q)) (funext fun l => funext fun t => funext fun L => e_slices_IndexFunc_WaitWait_5 F N Q l t L)) (by kernel_rfl))
def q_slices_IndexFunc_WaitWait_2 (N : Nat → Nat) : ACode := (.seq (q_slices_IndexFunc_WaitWait_4 N) (q_slices_IndexFunc_WaitWait_3 N))
theorem e_slices_IndexFunc_WaitWait_2 (F : Nat → Option AFn) (N : Nat → Nat) (Q : AV → Lg → Prop) (l t : Env) (L : Lg) : wp F (q_slices_IndexFunc_WaitWait_2 N) l t L (fin [.tmp (.l 4)] Q) (fun _ _ _ _ => False) (fin [.tmp (.l 4)] Q) = D_slices_IndexFunc_WaitWait_4 F N Q l L := Eq.trans (wpq_seq F (q_slices_IndexFunc_WaitWait_4 N) (q_slices_IndexFunc_WaitWait_3 N) l t L (fin [.tmp (.l 4)] Q) (fun _ _ _ _ => False) (fin [.tmp (.l 4)] Q)) (Eq.trans (congrArg (fun Z : Kn => wp F (q_slices_IndexFunc_WaitWait_4 N) l t L Z (fun _ _ _ _ => False) (fin [.tmp (.l 4)] Q)) (funext fun l => funext fun t => funext fun L => e_slices_IndexFunc_WaitWait_3 F N Q l t L)) (e_slices_IndexFunc_WaitWait_4 F N Q l t L))
def q_slices_IndexFunc_WaitWait_1a (N : Nat → Nat) : ACode := (.reg [⟨.l 4, none, .mv, [.c (.i .i64 0)]⟩])
def q_slices_IndexFunc_WaitWait_1 (N : Nat → Nat) : ACode := (.seq (q_slices_IndexFunc_WaitWait_1a N) (q_slices_IndexFunc_WaitWait_2 N))
noncomputable def D_slices_IndexFunc_WaitWait_1 (F : Nat → Option AFn) (N : Nat → Nat) (Q : AV → Lg → Prop) (l : Env) (L : Lg) : Prop :=
 D_slices_IndexFunc_WaitWait_4 F N Q (Env.put l 4 (.i .i64 0)) L
theorem e_slices_IndexFunc_WaitWait_1 (F : Nat → Option AFn) (N : Nat → Nat) (Q : AV → Lg → Prop) (l t : Env) (L : Lg) : wp F (q_slices_IndexFunc_WaitWait_1 N) l t L (fin [.tmp (.l 4)] Q) (fun _ _ _ _ => False) (fin [.tmp (.l 4)] Q) = D_slices_IndexFunc_WaitWait_1 F N Q l L := Eq.trans (wpq_seq F (q_slices_IndexFunc_WaitWait_1a N) (q_slices_IndexFunc_WaitWait_2 N) l t L (fin [.tmp (.l 4)] Q) (fun _ _ _ _ => False) (fin [.tmp (.l 4)] Q)) (Eq.trans (congrArg (fun Z : Kn => wp F (q_slices_IndexFunc_WaitWait_1a N) l t L Z (fun _ _ _ _ => False) (fin [.tmp (.l 4)] Q)) (funext fun l => funext fun t => funext fun L => e_slices_IndexFunc_WaitWait_2 F N Q l t L)) (by kernel_rfl))
/-- slices.IndexFunc[[]tarpaulin/api.Wait,tarpaulin/api.Wait] -/
def c_slices_IndexFunc_WaitWait (N : Nat → Nat) : AFn := ⟨q_slices_IndexFunc_WaitWait_1 N, [.tmp (.l 4)]⟩
structure H_slices_IndexFunc_WaitWait (N : Nat → Nat) (F : Nat → Option AFn) : Prop where
  code : F (N k_slices_IndexFunc_WaitWait) = some (c_slices_IndexFunc_WaitWait N)
theorem r_slices_IndexFunc_WaitWait {F : Nat → Option AFn} {N : Nat → Nat} (h : F (N k_slices_IndexFunc_WaitWait) = some (c_slices_IndexFunc_WaitWait N)) {Q : AV → Lg → Prop} {a0 a1 : AV} {L : Lg} (e : D_slices_IndexFunc_WaitWait_1 F N Q (initE [a0, a1] 0) L) : CallL F (N k_slices_IndexFunc_WaitWait) [a0, a1] L Q :=
  CallL.of_wp h (Eq.mpr (Eq.trans (e_slices_IndexFunc_WaitWait_1 F N Q (initE [a0, a1] 0) Env.nil L) (by kernel_rfl : _ = D_slices_IndexFunc_WaitWait_1 F N Q (initE [a0, a1] 0) L)) e)
def q_slices_ContainsFunc_WaitWait_1 (N : Nat → Nat) : ACode := (.seq (.reg [⟨.l 4, none, .mv, [.c (.b false)]⟩]) (.seq (.reg [⟨.t 5, none, .mv, [.l 0]⟩, ⟨.t 6, none, .mv, [.l 1]⟩, ⟨.t 7, none, .call (N k_slices_IndexFunc_WaitWait), [.t 5, .t 6]⟩, ⟨.t 8, none, .bin .geq, [.t 7, .c (.i .i64 0)]⟩, ⟨.l 4, none, .mv, [.t 8]⟩]) .ret))
noncomputable def D_slices_ContainsFunc_WaitWait_1 (F : Nat → Option AFn) (N : Nat → Nat) (Q : AV → Lg → Prop) (x0 : AV) (x1 : AV) (L : Lg) : Prop :=
 CallL F (N k_slices_IndexFunc_WaitWait) [x0, x1] L fun v1 L1 =>
 wpOp F (.bin .geq) [v1, (.i .i64 0)] L1 fun v2 L2 =>
 fin1 (some v2) Q L2
theorem e_slices_ContainsFunc_WaitWait_1 (F : Nat → Option AFn) (N : Nat → Nat) (Q : AV → Lg → Prop) (l t : Env) (L : Lg) : wp F (q_slices_ContainsFunc_WaitWait_1 N) l t L (fin [.tmp (.l 4)] Q) (fun _ _ _ _ => False) (fin [.tmp (.l 4)] Q) = D_slices_ContainsFunc_WaitWait_1 F N Q (l 0) (l 1) L := by kernel_rfl
/-- slices.ContainsFunc[[]tarpaulin/api.Wait,tarpaulin/api.Wait] -/
def c_slices_ContainsFunc_WaitWait (N : Nat → Nat) : AFn := ⟨q_slices_ContainsFunc_WaitWait_1 N, [.tmp (.l 4)]⟩
structure H_slices_ContainsFunc_WaitWait (N : Nat → Nat) (F : Nat → Option AFn) : Prop where
  code : F (N k_slices_ContainsFunc_WaitWait) = some (c_slices_ContainsFunc_WaitWait N)
  slices_IndexFunc_WaitWait : H_slices_IndexFunc_WaitWait N F
theorem r_slices_ContainsFunc_WaitWait {F : Nat → Option AFn} {N : Nat → Nat} (h : F (N k_slices_ContainsFunc_WaitWait) = some (c_slices_ContainsFunc_WaitWait N)) {Q : AV → Lg → Prop} {a0 a1 : AV} {L : Lg} (e : D_slices_ContainsFunc_WaitWait_1 F N Q a0 a1 L) : CallL F (N k_slices_ContainsFunc_WaitWait) [a0, a1] L Q :=
  CallL.of_wp h (Eq.mpr (Eq.trans (e_slices_ContainsFunc_WaitWait_1 F N Q (initE [a0, a1] 0) Env.nil L) (by kernel_rfl : _ = D_slices_ContainsFunc_WaitWait_1 F N Q a0 a1 L)) e)
def q_chanq_Chan_Wait_1 (N : Nat → Nat) : ACode := (.seq (.reg [⟨.l 4, none, .box, [.l 1]⟩, ⟨.l 6, none, .mv, [.c (.i .i64 0)]⟩]) (.seq (.block 0 (.seq (.reg [⟨.t 9, none, .mv, [.l 0]⟩, ⟨.t 10, none, .eq false .ptr, [.t 9, .c (.p none)]⟩, ⟨.t 8, none, .mv, [.t 10]⟩]) (.cond (.t 8) (.seq (.reg [⟨.l 6, none, .mv, [.c (.i .i64 6)]⟩]) .ret) (.seq (.reg [⟨.t 12, none, .mv, [.l 0]⟩, ⟨.t 13, none, .call (N k_chanq_Chan_Mute), [.t 12]⟩, ⟨.t 14, none, .mv, [.t 13]⟩, ⟨.t 15, some (.t 14, true), .mv, [.l 2]⟩, ⟨.t 16, none, .pick, [.t 14, .t 15, .c (.b false)]⟩, ⟨.t 11, none, .mv, [.t 16]⟩]) (.cond (.t 11) (.seq (.reg [⟨.l 6, none, .mv, [.c (.i .i64 7)]⟩]) .ret) (.seq (.reg [⟨.t 18, none, .mv, [.l 0]⟩, ⟨.t 19, none, .nilchk, [.t 18]⟩, ⟨.t 20, none, .fad 5, [.t 19]⟩, ⟨.t 21, none, .ld none, [.t 20]⟩, ⟨.t 17, none, .mv, [.t 21]⟩]) (.cond (.t 17) (.seq (.reg [⟨.l 6, none, .mv, [.c (.i .i64 5)]⟩]) .ret) .skip))))))) (.seq (.reg [⟨.t 22, none, .mkfn (N k_chanq_Chan_Wait_1) 0, [.l 4]⟩, ⟨.l 7, none, .mv, [.t 22]⟩]) (.seq (.seq (.reg [⟨.t 23, none, .mv, [.l 0]⟩, ⟨.t 24, none, .mv, [.l 2]⟩, ⟨.t 25, none, .call (N k_chanq_Chan_free), [.t 23, .t 24]⟩, ⟨.t 26, none, .mv, [.t 25]⟩, ⟨.t 27, some (.t 26, false), .mv, [.l 0]⟩, ⟨.t 28, some (.t 26, false), .mv, [.l 2]⟩, ⟨.t 29, some (.t 26, false), .un .not, [.t 28]⟩, ⟨.t 30, some (.t 26, false), .call (N k_chanq_Chan_Waiting), [.t 27, .t 29]⟩, ⟨.t 31, some (.t 26, false), .mv, [.l 7]⟩, ⟨.t 32, some (.t 26, false), .call (N k_slices_ContainsFunc_WaitWait), [.t 30, .t 31]⟩, ⟨.t 33, none, .pick, [.t 26, .c (.b true), .t 32]⟩]) (.cond (.t 33) (.seq (.reg [⟨.l 6, none, .mv, [.c (.i .i64 1)]⟩]) .ret) .skip)) (.seq (.regD [⟨.t 34, none, .mv, [.l 0]⟩, ⟨.t 35, none, .mv, [.l 2]⟩, ⟨.t 36, none, .call (N k_chanq_Chan_queue), [.t 34, .t 35]⟩, ⟨.t 37, none, .ld (some 3), [.l 4]⟩, ⟨.t 38, none, .call (N k_wait_Queue_Push), [.t 36, .t 37]⟩] [(3, 0)]) (.seq (.reg [⟨.l 6, none, .mv, [.c (.i .i64 0)]⟩]) .ret))))))
noncomputable def D_chanq_Chan_Wait_1 (F : Nat → Option AFn) (N : Nat → Nat) (Q : AV → Lg → Prop) (x0 : AV) (x1 : AV) (x2 : AV) (L : Lg) : Prop :=
 wpOp F .box [x1] L fun v1 L1 =>
 wpOp F (.eq false .ptr) [x0, (.p none)] L1 fun v2 L2 =>
 condW v2
 (fin1 (some (.i .i64 6)) Q L2)
 (CallL F (N k_chanq_Chan_Mute) [x0] L2 fun v3 L3 =>
 gdOp F v3 true .mv [x2] L3 fun v4 L4 =>
 wpOp F .pick [v3, v4, (.b false)] L4 fun v5 L5 =>
 condW v5
 (fin1 (some (.i .i64 7)) Q L5)
 (wpOp F .nilchk [x0] L5 fun v6 L6 =>
 wpOp F (.fad 5) [v6] L6 fun v7 L7 =>
 wpOp F (.ld none) [v7] L7 fun v8 L8 =>
 condW v8
 (fin1 (some (.i .i64 5)) Q L8)
 (wpOp F (.mkfn (N k_chanq_Chan_Wait_1) 0) [v1] L8 fun v9 L9 =>
 CallL F (N k_chanq_Chan_free) [x0, x2] L9 fun v10 L10 =>
 gdOp F v10 false .mv [x0] L10 fun v11 L11 =>
 gdOp F v10 false .mv [x2] L11 fun v12 L12 =>
 gdOp F v10 false (.un .not) [v12] L12 fun v13 L13 =>
 gdOp F v10 false (.call (N k_chanq_Chan_Waiting)) [v11, v13] L13 fun v14 L14 =>
 gdOp F v10 false .mv [v9] L14 fun v15 L15 =>
 gdOp F v10 false (.call (N k_slices_ContainsFunc_WaitWait)) [v14, v15] L15 fun v16 L16 =>
 wpOp F .pick [v10, (.b true), v16] L16 fun v17 L17 =>
 condW v17
 (fin1 (some (.i .i64 1)) Q L17)
 (CallL F (N k_chanq_Chan_queue) [x0, x2] L17 fun v18 L18 =>
 wpOp F (.ld (some 3)) [v1] L18 fun v19 L19 =>
 CallL F (N k_wait_Queue_Push) [v18, v19] L19 fun v20 L20 =>
 (againV (.ld (some 3)) [v1] L18 L17 ∧ True) ∧ (fin1 (some (.i .i64 0)) Q L20)))))
theorem e_chanq_Chan_Wait_1 (F : Nat → Option AFn) (N : Nat → Nat) (Q : AV → Lg → Prop) (l t : Env) (L : Lg) : wp F (q_chanq_Chan_Wait_1 N) l t L (fin [.tmp (.l 6)] Q) (fun _ _ _ _ => False) (fin [.tmp (.l 6)] Q) = D_chanq_Chan_Wait_1 F N Q (l 0) (l 1) (l 2) L := by kernel_rfl
/-- (*tarpaulin/chanq.Chan).Wait -/
def c_chanq_Chan_Wait (N : Nat → Nat) : AFn := ⟨q_chanq_Chan_Wait_1 N, [.tmp (.l 6)]⟩
structure H_chanq_Chan_Wait (N : Nat → Nat) (F : Nat → Option AFn) : Prop where
  code : F (N k_chanq_Chan_Wait) = some (c_chanq_Chan_Wait N)
  chanq_Chan_Mute : H_chanq_Chan_Mute N F
  chanq_Chan_Wait_1 : H_chanq_Chan_Wait_1 N F
  chanq_Chan_free : H_chanq_Chan_free N F
  chanq_Chan_Waiting : H_chanq_Chan_Waiting N F
  slices_ContainsFunc_WaitWait : H_slices_ContainsFunc_WaitWait N F
  chanq_Chan_queue : H_chanq_Chan_queue N F
  wait_Queue_Push : H_wait_Queue_Push N F
theorem r_chanq_Chan_Wait {F : Nat → Option AFn} {N : Nat → Nat} (h : F (N k_chanq_Chan_Wait) = some (c_chanq_Chan_Wait N)) {Q : AV → Lg → Prop} {a0 a1 a2 : AV} {L : Lg} (e : D_chanq_Chan_Wait_1 F N Q a0 a1 a2 L) : CallL F (N k_chanq_Chan_Wait) [a0, a1, a2] L Q :=
  CallL.of_wp h (Eq.mpr (Eq.trans (e_chanq_Chan_Wait_1 F N Q (initE [a0, a1, a2] 0) Env.nil L) (by kernel_rfl : _ = D_chanq_Chan_Wait_1 F N Q a0 a1 a2 L)) e)
def q_timer_Set_Next_1 (N : Nat → Nat) : ACode := (.seq (.reg [⟨.l 2, none, .mv, [.c (.i .i64 0)]⟩, ⟨.l 3, none, .mv, [.c (.b false)]⟩]) (.seq (.seq (.reg [⟨.t 4, none, .mv, [.l 0]⟩, ⟨.t 5, none, .eq false .ptr, [.t 4, .c (.p none)]⟩]) (.cond (.t 5) (.seq (.reg [⟨.l 2, none, .mv, [.c (.i .i64 0)]⟩, ⟨.l 3, none, .mv, [.c (.b false)]⟩]) .ret) .skip)) (.seq (.reg [⟨.t 6, none, .mv, [.l 0]⟩, ⟨.t 7, none, .nilchk, [.t 6]⟩, ⟨.t 8, none, .fad 1, [.t 7]⟩, ⟨.t 9, none, .ld none, [.t 8]⟩, ⟨.t 10, none, .call (N k_expire_Timers_Next), [.t 9]⟩, ⟨.t 11, none, .ext 0, [.t 10]⟩, ⟨.t 12, none, .ext 1, [.t 10]⟩, ⟨.l 2, none, .mv, [.t 11]⟩, ⟨.l 3, none, .mv, [.t 12]⟩]) .ret)))
noncomputable def D_timer_Set_Next_1 (F : Nat → Option AFn) (N : Nat → Nat) (Q : AV → Lg → Prop) (x0 : AV) (L : Lg) : Prop :=
 wpOp F (.eq false .ptr) [x0, (.p none)] L fun v1 L1 =>
 condW v1
 (fin1 (some (.tup [(.i .i64 0), (.b false)])) Q L1)
 (wpOp F .nilchk [x0] L1 fun v2 L2 =>
 wpOp F (.fad 1) [v2] L2 fun v3 L3 =>
 wpOp F (.ld none) [v3] L3 fun v4 L4 =>
 CallL F (N k_expire_Timers_Next) [v4] L4 fun v5 L5 =>
 wpOp F (.ext 0) [v5] L5 fun v6 L6 =>
 wpOp F (.ext 1) [v5] L6 fun v7 L7 =>
 fin1 (some (.tup [v6, v7])) Q L7)
theorem e_timer_Set_Next_1 (F : Nat → Option AFn) (N : Nat → Nat) (Q : AV → Lg → Prop) (l t : Env) (L : Lg) : wp F (q_timer_Set_Next_1 N) l t L (fin [.tmp (.l 2), .tmp (.l 3)] Q) (fun _ _ _ _ => False) (fin [.tmp (.l 2), .tmp (.l 3)] Q) = D_timer_Set_Next_1 F N Q (l 0) L := by kernel_rfl
/-- (*tarpaulin/timer.Set).Next -/
def c_timer_Set_Next (N : Nat → Nat) : AFn := ⟨q_timer_Set_Next_1 N, [.tmp (.l 2), .tmp (.l 3)]⟩
structure H_timer_Set_Next (N : Nat → Nat) (F : Nat → Option AFn) : Prop where
  code : F (N k_timer_Set_Next) = some (c_timer_Set_Next N)
  expire_Timers_Next : H_expire_Timers_Next N F
theorem r_timer_Set_Next {F : Nat → Option AFn} {N : Nat → Nat} (h : F (N k_timer_Set_Next) = some (c_timer_Set_Next N)) {Q : AV → Lg → Prop} {a0 : AV} {L : Lg} (e : D_timer_Set_Next_1 F N Q a0 L) : CallL F (N k_timer_Set_Next) [a0] L Q :=
  CallL.of_wp h (Eq.mpr (Eq.trans (e_timer_Set_Next_1 F N Q (initE [a0] 0) Env.nil L) (by kernel_rfl : _ = D_timer_Set_Next_1 F N Q a0 L)) e)
def q_timer_Set_Len_1 (N : Nat → Nat) : ACode := (.seq (.reg [⟨.l 2, none, .mv, [.c (.i .i64 0)]⟩]) (.seq (.seq (.reg [⟨.t 3, none, .mv, [.l 0]⟩, ⟨.t 4, none, .eq false .ptr, [.t 3, .c (.p none)]⟩]) (.cond (.t 4) (.seq (.reg [⟨.l 2, none, .mv, [.c (.i .i64 0)]⟩]) .ret) .skip)) (.seq (.reg [⟨.t 5, none, .mv, [.l 0]⟩, ⟨.t 6, none, .nilchk, [.t 5]⟩, ⟨.t 7, none, .fad 0, [.t 6]⟩, ⟨.t 8, none, .ld none, [.t 7]⟩, ⟨.t 9, none, .lenSl, [.t 8]⟩, ⟨.l 2, none, .mv, [.t 9]⟩]) .ret)))
noncomputable def D_timer_Set_Len_1 (F : Nat → Option AFn) (N : Nat → Nat) (Q : AV → Lg → Prop) (x0 : AV) (L : Lg) : Prop :=
 wpOp F (.eq false .ptr) [x0, (.p none)] L fun v1 L1 =>
 condW v1
 (fin1 (some (.i .i64 0)) Q L1)
 (wpOp F .nilchk [x0] L1 fun v2 L2 =>
 wpOp F (.fad 0) [v2] L2 fun v3 L3 =>
 wpOp F (.ld none) [v3] L3 fun v4 L4 =>
 wpOp F .lenSl [v4] L4 fun v5 L5 =>
 fin1 (some v5) Q L5)
theorem e_timer_Set_Len_1 (F : Nat → Option AFn) (N : Nat → Nat) (Q : AV → Lg → Prop) (l t : Env) (L : Lg) : wp F (q_timer_Set_Len_1 N) l t L (fin [.tmp (.l 2)] Q) (fun _ _ _ _ => False) (fin [.tmp (.l 2)] Q) = D_timer_Set_Len_1 F N Q (l 0) L := by kernel_rfl
/-- (*tarpaulin/timer.Set).Len -/
def c_timer_Set_Len (N : Nat → Nat) : AFn := ⟨q_timer_Set_Len_1 N, [.tmp (.l 2)]⟩
structure H_timer_Set_Len (N : Nat → Nat) (F : Nat → Option AFn) : Prop where
  code : F (N k_timer_Set_Len) = some (c_timer_Set_Len N)
theorem r_timer_Set_Len {F : Nat → Option AFn} {N : Nat → Nat} (h : F (N k_timer_Set_Len) = some (c_timer_Set_Len N)) {Q : AV → Lg → Prop} {a0 : AV} {L : Lg} (e : D_timer_Set_Len_1 F N Q a0 L) : CallL F (N k_timer_Set_Len) [a0] L Q :=
  CallL.of_wp h (Eq.mpr (Eq.trans (e_timer_Set_Len_1 F N Q (initE [a0] 0) Env.nil L) (by kernel_rfl : _ = D_timer_Set_Len_1 F N Q a0 L)) e)
def q_timer_Set_Kind_1 (N : Nat → Nat) : ACode := (.seq (.reg [⟨.l 4, none, .mv, [.c (.i .i64 0)]⟩]) (.seq (.seq (.reg [⟨.t 5, none, .mv, [.l 0]⟩, ⟨.t 6, none, .mv, [.l 1]⟩, ⟨.t 7, none, .call (N k_timer_Set_has), [.t 5, .t 6]⟩, ⟨.t 8, none, .un .not, [.t 7]⟩]) (.cond (.t 8) (.seq (.reg [⟨.l 4, none, .mv, [.c (.i .i64 0)]⟩]) .ret) .skip)) (.seq (.reg [⟨.t 9, none, .mv, [.l 0]⟩, ⟨.t 10, none, .nilchk, [.t 9]⟩, ⟨.t 11, none, .fad 0, [.t 10]⟩, ⟨.t 12, none, .ld none, [.t 11]⟩, ⟨.t 13, none, .mv, [.l 1]⟩, ⟨.t 14, none, .iad 4, [.t 12, .t 13]⟩, ⟨.t 15, none, .fad 0, [.t 14]⟩, ⟨.t 16, none, .ld none, [.t 15]⟩, ⟨.l 4, none, .mv, [.t 16]⟩]) .ret)))
noncomputable def D_timer_Set_Kind_1 (F : Nat → Option AFn) (N : Nat → Nat) (Q : AV → Lg → Prop) (x0 : AV) (x1 : AV) (L : Lg) : Prop :=
 CallL F (N k_timer_Set_has) [x0, x1] L fun v1 L1 =>
 wpOp F (.un .not) [v1] L1 fun v2 L2 =>
 condW v2
 (fin1 (some (.i .i64 0)) Q L2)
 (wpOp F .nilchk [x0] L2 fun v3 L3 =>
 wpOp F (.fad 0) [v3] L3 fun v4 L4 =>
 wpOp F (.ld none) [v4] L4 fun v5 L5 =>
 wpOp F (.iad 4) [v5, x1] L5 fun v6 L6 =>
 wpOp F (.fad 0) [v6] L6 fun v7 L7 =>
 wpOp F (.ld none) [v7] L7 fun v8 L8 =>
 fin1 (some v8) Q L8)
theorem e_timer_Set_Kind_1 (F : Nat → Option AFn) (N : Nat → Nat) (Q : AV → Lg → Prop) (l t : Env) (L : Lg) : wp F (q_timer_Set_Kind_1 N) l t L (fin [.tmp (.l 4)] Q) (fun _ _ _ _ => False) (fin [.tmp (.l 4)] Q) = D_timer_Set_Kind_1 F N Q (l 0) (l 1) L := by kernel_rfl
/-- (*tarpaulin/timer.Set).Kind -/
def c_timer_Set_Kind (N : Nat → Nat) : AFn := ⟨q_timer_Set_Kind_1 N, [.tmp (.l 4)]⟩
structure H_timer_Set_Kind (N : Nat → Nat) (F : Nat → Option AFn) : Prop where
  code : F (N k_timer_Set_Kind) = some (c_timer_Set_Kind N)
  timer_Set_has : H_timer_Set_has N F
theorem r_timer_Set_Kind {F : Nat → Option AFn} {N : Nat → Nat} (h : F (N k_timer_Set_Kind) = some (c_timer_Set_Kind N)) {Q : AV → Lg → Prop} {a0 a1 : AV} {L : Lg} (e : D_timer_Set_Kind_1 F N Q a0 a1 L) : CallL F (N k_timer_Set_Kind) [a0, a1] L Q :=
  CallL.of_wp h (Eq.mpr (Eq.trans (e_timer_Set_Kind_1 F N Q (initE [a0, a1] 0) Env.nil L) (by kernel_rfl : _ = D_timer_Set_Kind_1 F N Q a0 a1 L)) e)
def q_chanq_Chan_Len_1 (N : Nat → Nat) : ACode := (.seq (.reg [⟨.l 2, none, .mv, [.c (.i .i64 0)]⟩]) (.seq (.seq (.reg [⟨.t 3, none, .mv, [.l 0]⟩, ⟨.t 4, none, .eq false .ptr, [.t 3, .c (.p none)]⟩, ⟨.t 5, none, .mv, [.t 4]⟩, ⟨.t 6, some (.t 5, false), .mv, [.l 0]⟩, ⟨.t 7, some (.t 5, false), .nilchk, [.t 6]⟩, ⟨.t 8, some (.t 5, false), .fad 3, [.t 7]⟩, ⟨.t 9, some (.t 5, false), .ld none, [.t 8]⟩, ⟨.t 10, none, .pick, [.t 5, .c (.b true), .t 9]⟩]) (.cond (.t 10) (.seq (.reg [⟨.l 2, none, .mv, [.c (.i .i64 0)]⟩]) .ret) .skip)) (.seq (.reg [⟨.t 11, none, .mv, [.l 0]⟩, ⟨.t 12, none, .nilchk, [.t 11]⟩, ⟨.t 13, none, .fad 0, [.t 12]⟩, ⟨.t 14, none, .ld none, [.t 13]⟩, ⟨.t 15, none, .call (N k_ring_Ring_Len), [.t 14]⟩, ⟨.l 2, none, .mv, [.t 15]⟩]) .ret)))
noncomputable def D_chanq_Chan_Len_1 (F : Nat → Option AFn) (N : Nat → Nat) (Q : AV → Lg → Prop) (x0 : AV) (L : Lg) : Prop :=
 wpOp F (.eq false .ptr) [x0, (.p none)] L fun v1 L1 =>
 gdOp F v1 false .mv [x0] L1 fun v2 L2 =>
 gdOp F v1 false .nilchk [v2] L2 fun v3 L3 =>
 gdOp F v1 false (.fad 3) [v3] L3 fun v4 L4 =>
 gdOp F v1 false (.ld none) [v4] L4 fun v5 L5 =>
 wpOp F .pick [v1, (.b true), v5] L5 fun v6 L6 =>
 condW v6
 (fin1 (some (.i .i64 0)) Q L6)
 (wpOp F .nilchk [x0] L6 fun v7 L7 =>
 wpOp F (.fad 0) [v7] L7 fun v8 L8 =>
 wpOp F (.ld none) [v8] L8 fun v9 L9 =>
 CallL F (N k_ring_Ring_Len) [v9] L9 fun v10 L10 =>
 fin1 (some v10) Q L10)
theorem e_chanq_Chan_Len_1 (F : Nat → Option AFn) (N : Nat → Nat) (Q : AV → Lg → Prop) (l t : Env) (L : Lg) : wp F (q_chanq_Chan_Len_1 N) l t L (fin [.tmp (.l 2)] Q) (fun _ _ _ _ => False) (fin [.tmp (.l 2)] Q) = D_chanq_Chan_Len_1 F N Q (l 0) L := by kernel_rfl
/-- (*tarpaulin/chanq.Chan).Len -/
def c_chanq_Chan_Len (N : Nat → Nat) : AFn := ⟨q_chanq_Chan_Len_1 N, [.tmp (.l 2)]⟩
structure H_chanq_Chan_Len (N : Nat → Nat) (F : Nat → Option AFn) : Prop where
  code : F (N k_chanq_Chan_Len) = some (c_chanq_Chan_Len N)
  ring_Ring_Len : H_ring_Ring_Len N F
theorem r_chanq_Chan_Len {F : Nat → Option AFn} {N : Nat → Nat} (h : F (N k_chanq_Chan_Len) = some (c_chanq_Chan_Len N)) {Q : AV → Lg → Prop} {a0 : AV} {L : Lg} (e : D_chanq_Chan_Len_1 F N Q a0 L) : CallL F (N k_chanq_Chan_Len) [a0] L Q :=
  CallL.of_wp h (Eq.mpr (Eq.trans (e_chanq_Chan_Len_1 F N Q (initE [a0] 0) Env.nil L) (by kernel_rfl : _ = D_chanq_Chan_Len_1 F N Q a0 L)) e)
def q_chanq_Chan_Cap_1 (N : Nat → Nat) : ACode := (.seq (.reg [⟨.l 2, none, .mv, [.c (.i .i64 0)]⟩]) (.seq (.seq (.reg [⟨.t 3, none, .mv, [.l 0]⟩, ⟨.t 4, none, .eq false .ptr, [.t 3, .c (.p none)]⟩, ⟨.t 5, none, .mv, [.t 4]⟩, ⟨.t 6, some (.t 5, false), .mv, [.l 0]⟩, ⟨.t 7, some (.t 5, false), .nilchk, [.t 6]⟩, ⟨.t 8, some (.t 5, false), .fad 3, [.t 7]⟩, ⟨.t 9, some (.t 5, false), .ld none, [.t 8]⟩, ⟨.t 10, none, .pick, [.t 5, .c (.b true), .t 9]⟩]) (.cond (.t 10) (.seq (.reg [⟨.l 2, none, .mv, [.c (.i .i64 0)]⟩]) .ret) .skip)) (.seq (.reg [⟨.t 11, none, .mv, [.l 0]⟩, ⟨.t 12, none, .nilchk, [.t 11]⟩, ⟨.t 13, none, .fad 0, [.t 12]⟩, ⟨.t 14, none, .ld none, [.t 13]⟩, ⟨.t 15, none, .call (N k_ring_Ring_Size), [.t 14]⟩, ⟨.l 2, none, .mv, [.t 15]⟩]) .ret)))
noncomputable def D_chanq_Chan_Cap_1 (F : Nat → Option AFn) (N : Nat → Nat) (Q : AV → Lg → Prop) (x0 : AV) (L : Lg) : Prop :=
 wpOp F (.eq false .ptr) [x0, (.p none)] L fun v1 L1 =>
 gdOp F v1 false .mv [x0] L1 fun v2 L2 =>
 gdOp F v1 false .nilchk [v2] L2 fun v3 L3 =>
 gdOp F v1 false (.fad 3) [v3] L3 fun v4 L4 =>
 gdOp F v1 false (.ld none) [v4] L4 fun v5 L5 =>
 wpOp F .pick [v1, (.b true), v5] L5 fun v6 L6 =>
 condW v6
 (fin1 (some (.i .i64 0)) Q L6)
 (wpOp F .nilchk [x0] L6 fun v7 L7 =>
 wpOp F (.fad 0) [v7] L7 fun v8 L8 =>
 wpOp F (.ld none) [v8] L8 fun v9 L9 =>
 CallL F (N k_ring_Ring_Size) [v9] L9 fun v10 L10 =>
 fin1 (some v10) Q L10)
theorem e_chanq_Chan_Cap_1 (F : Nat → Option AFn) (N : Nat → Nat) (Q : AV → Lg → Prop) (l t : Env) (L : Lg) : wp F (q_chanq_Chan_Cap_1 N) l t L (fin [.tmp (.l 2)] Q) (fun _ _ _ _ => False) (fin [.tmp (.l 2)] Q) = D_chanq_Chan_Cap_1 F N Q (l 0) L := by kernel_rfl
/-- (*tarpaulin/chanq.Chan).Cap -/
def c_chanq_Chan_Cap (N : Nat → Nat) : AFn := ⟨q_chanq_Chan_Cap_1 N, [.tmp (.l 2)]⟩
structure H_chanq_Chan_Cap (N : Nat → Nat) (F : Nat → Option AFn) : Prop where
  code : F (N k_chanq_Chan_Cap) = some (c_chanq_Chan_Cap N)
  ring_Ring_Size : H_ring_Ring_Size N F
theorem r_chanq_Chan_Cap {F : Nat → Option AFn} {N : Nat → Nat} (h : F (N k_chanq_Chan_Cap) = some (c_chanq_Chan_Cap N)) {Q : AV → Lg → Prop} {a0 : AV} {L : Lg} (e : D_chanq_Chan_Cap_1 F N Q a0 L) : CallL F (N k_chanq_Chan_Cap) [a0] L Q :=
  CallL.of_wp h (Eq.mpr (Eq.trans (e_chanq_Chan_Cap_1 F N Q (initE [a0] 0) Env.nil L) (by kernel_rfl : _ = D_chanq_Chan_Cap_1 F N Q a0 L)) e)
end Go.AM
