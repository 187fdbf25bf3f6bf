/- The code of functions, with names for their numbers, and what is left of its weakest preconditions. PRINTED by our printgen.py. -/
import Derived.Test.YtijhjfpiglaleaaGenB
import Derived.KernelRfl
set_option linter.unusedVariables false
set_option maxRecDepth 100000
namespace Go.AM
def k_tarpaulinlaw13_TimerTicks : Nat := 114
def q_tarpaulinlaw13_TimerTicks_9 (N : Nat → Nat) : ACode := (.seq (.reg [⟨.t 141, none, .call (N k_tarpaulinlaw13_awake), []⟩, ⟨.l 4, none, .mv, [.t 141]⟩]) .ret)
noncomputable def D_tarpaulinlaw13_TimerTicks_9 (F : Nat → Option AFn) (N : Nat → Nat) (Q : AV → Lg → Prop) (L : Lg) : Prop :=
 CallL F (N k_tarpaulinlaw13_awake) [] L fun v1 L1 =>
 fin1 (some v1) Q L1
theorem e_tarpaulinlaw13_TimerTicks_9 (F : Nat → Option AFn) (N : Nat → Nat) (Q : AV → Lg → Prop) (l t : Env) (L : Lg) : wp F (q_tarpaulinlaw13_TimerTicks_9 N) l t L (fin [.tmp (.l 4)] Q) (fun _ _ _ _ => False) (fin [.tmp (.l 4)] Q) = D_tarpaulinlaw13_TimerTicks_9 F N Q L := by kernel_rfl
def q_tarpaulinlaw13_TimerTicks_15 (N : Nat → Nat) : ACode := (.reg [⟨.t 54, none, .mv, [.l 12]⟩, ⟨.t 55, none, .bin .add, [.t 54, .c (.i .i64 1)]⟩, ⟨.l 12, none, .mv, [.t 55]⟩])
noncomputable def D_tarpaulinlaw13_TimerTicks_15 (F : Nat → Option AFn) (N : Nat → Nat) (Q : AV → Lg → Prop) (k1 : Env → Lg → Prop) (l : Env) (L : Lg) : Prop :=
 wpOp F (.bin .add) [(l 12), (.i .i64 1)] L fun v1 L1 =>
 k1 (Env.put l 12 v1) L1
theorem e_tarpaulinlaw13_TimerTicks_15 (F : Nat → Option AFn) (N : Nat → Nat) (Q : AV → Lg → Prop) (k1 : Env → Lg → Prop) (l t : Env) (L : Lg) : wp F (q_tarpaulinlaw13_TimerTicks_15 N) l t L (fun (l _ : Env) (L : Lg) => k1 l L) (fun (j : Nat) (l t : Env) (L : Lg) => bif Nat.beq j 0 then (fun (l t : Env) (L : Lg) => D_tarpaulinlaw13_TimerTicks_9 F N Q L) l t L else (fun _ _ _ _ => False) j l t L) (fin [.tmp (.l 4)] Q) = D_tarpaulinlaw13_TimerTicks_15 F N Q k1 l L := by kernel_rfl
def q_tarpaulinlaw13_TimerTicks_22 (N : Nat → Nat) : ACode := (.seq (.reg [⟨.t 135, none, .mv, [.l 5]⟩, ⟨.t 136, none, .mv, [.l 9]⟩, ⟨.t 137, none, .call (N k_timer_Set_Fire), [.t 135, .t 136]⟩, ⟨.t 134, none, .mv, [.t 137]⟩, ⟨.t 138, none, .ext 0, [.t 134]⟩, ⟨.t 139, none, .ext 1, [.t 134]⟩, ⟨.t 19, none, .alloc [.i .i64 0, .i .i64 0, .i .i64 0, .i .i64 0, .i .i64 0, .sl none 0 0 0, .b false], []⟩, ⟨.no, none, .st 7, [.t 19, .t 138]⟩, ⟨.l 20, none, .mv, [.t 139]⟩]) (.seq (.reg [⟨.t 140, none, .mv, [.l 20]⟩]) (.cond (.t 140) (.seq (.reg [⟨.l 4, none, .mv, [.c (.b false)]⟩]) .ret) .skip)))
noncomputable def D_tarpaulinlaw13_TimerTicks_22 (F : Nat → Option AFn) (N : Nat → Nat) (Q : AV → Lg → Prop) (k1 : Env → Lg → Prop) (l : Env) (L : Lg) : Prop :=
 CallL F (N k_timer_Set_Fire) [(l 5), (l 9)] L fun v1 L1 =>
 wpOp F (.ext 0) [v1] L1 fun v2 L2 =>
 wpOp F (.ext 1) [v1] L2 fun v3 L3 =>
 wpOp F (.alloc [.i .i64 0, .i .i64 0, .i .i64 0, .i .i64 0, .i .i64 0, .sl none 0 0 0, .b false]) [] L3 fun v4 L4 =>
 wpOp F (.st 7) [v4, v2] L4 fun _ L5 =>
 condW v3
 (fin1 (some (.b false)) Q L5)
 (D_tarpaulinlaw13_TimerTicks_15 F N Q k1 (Env.put l 20 v3) L5)
theorem e_tarpaulinlaw13_TimerTicks_22 (F : Nat → Option AFn) (N : Nat → Nat) (Q : AV → Lg → Prop) (k1 : Env → Lg → Prop) (l t : Env) (L : Lg) : wp F (q_tarpaulinlaw13_TimerTicks_22 N) l t L (fun (l t : Env) (L : Lg) => D_tarpaulinlaw13_TimerTicks_15 F N Q k1 l L) (fun (j : Nat) (l t : Env) (L : Lg) => bif Nat.beq j 1 then (fun (l t : Env) (L : Lg) => D_tarpaulinlaw13_TimerTicks_15 F N Q k1 l L) l t L else (fun (j : Nat) (l t : Env) (L : Lg) => bif Nat.beq j 0 then (fun (l t : Env) (L : Lg) => D_tarpaulinlaw13_TimerTicks_9 F N Q L) l t L else (fun _ _ _ _ => False) j l t L) j l t L) (fin [.tmp (.l 4)] Q) = D_tarpaulinlaw13_TimerTicks_22 F N Q k1 l L := by kernel_rfl
def q_tarpaulinlaw13_TimerTicks_21a (N : Nat → Nat) : ACode := (.seq (.reg [⟨.t 120, none, .mv, [.l 18]⟩]) (.cond (.t 120) (.seq (.reg [⟨.t 121, none, .mv, [.l 10]⟩, ⟨.t 122, none, .mv, [.l 0]⟩, ⟨.t 123, none, .mv, [.l 9]⟩, ⟨.t 124, none, .mv, [.l 10]⟩, ⟨.t 125, none, .bin .sub, [.t 123, .t 124]⟩, ⟨.t 126, none, .mv, [.l 0]⟩, ⟨.t 127, none, .bin .quo, [.t 125, .t 126]⟩, ⟨.t 128, none, .bin .add, [.t 127, .c (.i .i64 1)]⟩, ⟨.t 129, none, .bin .mul, [.t 122, .t 128]⟩, ⟨.t 130, none, .bin .add, [.t 121, .t 129]⟩, ⟨.l 10, none, .mv, [.t 130]⟩]) (.seq (.reg [⟨.t 131, none, .mv, [.l 11]⟩, ⟨.t 132, none, .bin .lss, [.t 131, .c (.i .i64 0)]⟩]) (.cond (.t 132) (.reg [⟨.t 133, none, .mv, [.l 9]⟩, ⟨.l 11, none, .mv, [.t 133]⟩]) .skip))) .skip))
def q_tarpaulinlaw13_TimerTicks_21 (N : Nat → Nat) : ACode := (.seq (q_tarpaulinlaw13_TimerTicks_21a N) (q_tarpaulinlaw13_TimerTicks_22 N))
noncomputable def D_tarpaulinlaw13_TimerTicks_21 (F : Nat → Option AFn) (N : Nat → Nat) (Q : AV → Lg → Prop) (k1 : Env → Lg → Prop) (l : Env) (L : Lg) : Prop :=
 condW (l 18)
 (wpOp F (.bin .sub) [(l 9), (l 10)] L fun v1 L1 =>
 wpOp F (.bin .quo) [v1, (l 0)] L1 fun v2 L2 =>
 wpOp F (.bin .add) [v2, (.i .i64 1)] L2 fun v3 L3 =>
 wpOp F (.bin .mul) [(l 0), v3] L3 fun v4 L4 =>
 wpOp F (.bin .add) [(l 10), v4] L4 fun v5 L5 =>
 wpOp F (.bin .lss) [(l 11), (.i .i64 0)] L5 fun v6 L6 =>
 condW v6
 (D_tarpaulinlaw13_TimerTicks_22 F N Q k1 (Env.put (Env.put l 10 v5) 11 (l 9)) L6)
 (D_tarpaulinlaw13_TimerTicks_22 F N Q k1 (Env.put l 10 v5) L6))
 (D_tarpaulinlaw13_TimerTicks_22 F N Q k1 l L)
theorem e_tarpaulinlaw13_TimerTicks_21 (F : Nat → Option AFn) (N : Nat → Nat) (Q : AV → Lg → Prop) (k1 : Env → Lg → Prop) (l t : Env) (L : Lg) : wp F (q_tarpaulinlaw13_TimerTicks_21 N) l t L (fun (l t : Env) (L : Lg) => D_tarpaulinlaw13_TimerTicks_15 F N Q k1 l L) (fun (j : Nat) (l t : Env) (L : Lg) => bif Nat.beq j 1 then (fun (l t : Env) (L : Lg) => D_tarpaulinlaw13_TimerTicks_15 F N Q k1 l L) l t L else (fun (j : Nat) (l t : Env) (L : Lg) => bif Nat.beq j 0 then (fun (l t : Env) (L : Lg) => D_tarpaulinlaw13_TimerTicks_9 F N Q L) l t L else (fun _ _ _ _ => False) j l t L) j l t L) (fin [.tmp (.l 4)] Q) = D_tarpaulinlaw13_TimerTicks_21 F N Q k1 l L := Eq.trans (wpq_seq F (q_tarpaulinlaw13_TimerTicks_21a N) (q_tarpaulinlaw13_TimerTicks_22 N) l t L (fun (l t : Env) (L : Lg) => D_tarpaulinlaw13_TimerTicks_15 F N Q k1 l L) (fun (j : Nat) (l t : Env) (L : Lg) => bif Nat.beq j 1 then (fun (l t : Env) (L : Lg) => D_tarpaulinlaw13_TimerTicks_15 F N Q k1 l L) l t L else (fun (j : Nat) (l t : Env) (L : Lg) => bif Nat.beq j 0 then (fun (l t : Env) (L : Lg) => D_tarpaulinlaw13_TimerTicks_9 F N Q L) l t L else (fun _ _ _ _ => False) j l t L) j l t L) (fin [.tmp (.l 4)] Q)) (Eq.trans (congrArg (fun Z : Kn => wp F (q_tarpaulinlaw13_TimerTicks_21a N) l t L Z (fun (j : Nat) (l t : Env) (L : Lg) => bif Nat.beq j 1 then (fun (l t : Env) (L : Lg) => D_tarpaulinlaw13_TimerTicks_15 F N Q k1 l L) l t L else (fun (j : Nat) (l t : Env) (L : Lg) => bif Nat.beq j 0 then (fun (l t : Env) (L : Lg) => D_tarpaulinlaw13_TimerTicks_9 F N Q L) l t L else (fun _ _ _ _ => False) j l t L) j l t L) (fin [.tmp (.l 4)] Q)) (funext fun l => funext fun t => funext fun L => e_tarpaulinlaw13_TimerTicks_22 F N Q k1 l t L)) (by kernel_rfl))
def q_tarpaulinlaw13_TimerTicks_20a (N : Nat → Nat) : ACode := (.seq (.reg [⟨.t 99, none, .mv, [.l 18]⟩, ⟨.t 100, none, .mv, [.l 10]⟩, ⟨.t 101, none, .mv, [.l 9]⟩, ⟨.t 102, none, .bin .leq, [.t 100, .t 101]⟩, ⟨.t 103, none, .eq true .bool, [.t 99, .t 102]⟩, ⟨.t 104, none, .mv, [.t 103]⟩, ⟨.t 105, some (.t 104, false), .mv, [.l 18]⟩, ⟨.t 106, some (.t 104, false), .mv, [.t 105]⟩, ⟨.t 107, some (.t 106, true), .fad 2, [.l 17]⟩, ⟨.t 108, some (.t 106, true), .ld none, [.t 107]⟩, ⟨.t 109, some (.t 106, true), .mv, [.l 10]⟩, ⟨.t 110, some (.t 106, true), .bin .neq, [.t 108, .t 109]⟩, ⟨.t 111, some (.t 106, true), .mv, [.t 110]⟩, ⟨.t 112, some (.t 111, false), .fad 6, [.l 17]⟩, ⟨.t 113, some (.t 111, false), .ld none, [.t 112]⟩, ⟨.t 114, some (.t 111, false), .mv, [.l 11]⟩, ⟨.t 115, some (.t 111, false), .bin .lss, [.t 114, .c (.i .i64 0)]⟩, ⟨.t 116, some (.t 111, false), .eq true .bool, [.t 113, .t 115]⟩, ⟨.t 117, some (.t 106, true), .pick, [.t 111, .c (.b true), .t 116]⟩, ⟨.t 118, some (.t 104, false), .pick, [.t 106, .t 117, .c (.b false)]⟩, ⟨.t 119, none, .pick, [.t 104, .c (.b true), .t 118]⟩]) (.cond (.t 119) (.seq (.reg [⟨.l 4, none, .mv, [.c (.b false)]⟩]) .ret) .skip))
def q_tarpaulinlaw13_TimerTicks_20 (N : Nat → Nat) : ACode := (.seq (q_tarpaulinlaw13_TimerTicks_20a N) (q_tarpaulinlaw13_TimerTicks_21 N))
noncomputable def D_tarpaulinlaw13_TimerTicks_20 (F : Nat → Option AFn) (N : Nat → Nat) (Q : AV → Lg → Prop) (k1 : Env → Lg → Prop) (l : Env) (L : Lg) : Prop :=
 wpOp F (.bin .leq) [(l 10), (l 9)] L fun v1 L1 =>
 wpOp F (.eq true .bool) [(l 18), v1] L1 fun v2 L2 =>
 gdOp F v2 false .mv [(l 18)] L2 fun v3 L3 =>
 gdOp F v2 false .mv [v3] L3 fun v4 L4 =>
 gdOp F v4 true (.fad 2) [(l 17)] L4 fun v5 L5 =>
 gdOp F v4 true (.ld none) [v5] L5 fun v6 L6 =>
 gdOp F v4 true .mv [(l 10)] L6 fun v7 L7 =>
 gdOp F v4 true (.bin .neq) [v6, v7] L7 fun v8 L8 =>
 gdOp F v4 true .mv [v8] L8 fun v9 L9 =>
 gdOp F v9 false (.fad 6) [(l 17)] L9 fun v10 L10 =>
 gdOp F v9 false (.ld none) [v10] L10 fun v11 L11 =>
 gdOp F v9 false .mv [(l 11)] L11 fun v12 L12 =>
 gdOp F v9 false (.bin .lss) [v12, (.i .i64 0)] L12 fun v13 L13 =>
 gdOp F v9 false (.eq true .bool) [v11, v13] L13 fun v14 L14 =>
 gdOp F v4 true .pick [v9, (.b true), v14] L14 fun v15 L15 =>
 gdOp F v2 false .pick [v4, v15, (.b false)] L15 fun v16 L16 =>
 wpOp F .pick [v2, (.b true), v16] L16 fun v17 L17 =>
 condW v17
 (fin1 (some (.b false)) Q L17)
 (D_tarpaulinlaw13_TimerTicks_21 F N Q k1 l L17)
theorem e_tarpaulinlaw13_TimerTicks_20 (F : Nat → Option AFn) (N : Nat → Nat) (Q : AV → Lg → Prop) (k1 : Env → Lg → Prop) (l t : Env) (L : Lg) : wp F (q_tarpaulinlaw13_TimerTicks_20 N) l t L (fun (l t : Env) (L : Lg) => D_tarpaulinlaw13_TimerTicks_15 F N Q k1 l L) (fun (j : Nat) (l t : Env) (L : Lg) => bif Nat.beq j 1 then (fun (l t : Env) (L : Lg) => D_tarpaulinlaw13_TimerTicks_15 F N Q k1 l L) l t L else (fun (j : Nat) (l t : Env) (L : Lg) => bif Nat.beq j 0 then (fun (l t : Env) (L : Lg) => D_tarpaulinlaw13_TimerTicks_9 F N Q L) l t L else (fun _ _ _ _ => False) j l t L) j l t L) (fin [.tmp (.l 4)] Q) = D_tarpaulinlaw13_TimerTicks_20 F N Q k1 l L := Eq.trans (wpq_seq F (q_tarpaulinlaw13_TimerTicks_20a N) (q_tarpaulinlaw13_TimerTicks_21 N) l t L (fun (l t : Env) (L : Lg) => D_tarpaulinlaw13_TimerTicks_15 F N Q k1 l L) (fun (j : Nat) (l t : Env) (L : Lg) => bif Nat.beq j 1 then (fun (l t : Env) (L : Lg) => D_tarpaulinlaw13_TimerTicks_15 F N Q k1 l L) l t L else (fun (j : Nat) (l t : Env) (L : Lg) => bif Nat.beq j 0 then (fun (l t : Env) (L : Lg) => D_tarpaulinlaw13_TimerTicks_9 F N Q L) l t L else (fun _ _ _ _ => False) j l t L) j l t L) (fin [.tmp (.l 4)] Q)) (Eq.trans (congrArg (fun Z : Kn => wp F (q_tarpaulinlaw13_TimerTicks_20a N) l t L Z (fun (j : Nat) (l t : Env) (L : Lg) => bif Nat.beq j 1 then (fun (l t : Env) (L : Lg) => D_tarpaulinlaw13_TimerTicks_15 F N Q k1 l L) l t L else (fun (j : Nat) (l t : Env) (L : Lg) => bif Nat.beq j 0 then (fun (l t : Env) (L : Lg) => D_tarpaulinlaw13_TimerTicks_9 F N Q L) l t L else (fun _ _ _ _ => False) j l t L) j l t L) (fin [.tmp (.l 4)] Q)) (funext fun l => funext fun t => funext fun L => e_tarpaulinlaw13_TimerTicks_21 F N Q k1 l t L)) (by kernel_rfl))
def q_tarpaulinlaw13_TimerTicks_19a (N : Nat → Nat) : ACode := (.reg [⟨.t 94, none, .mv, [.l 5]⟩, ⟨.t 95, none, .mv, [.l 9]⟩, ⟨.t 96, none, .call (N k_timer_Set_Fire), [.t 94, .t 95]⟩, ⟨.t 93, none, .mv, [.t 96]⟩, ⟨.t 97, none, .ext 0, [.t 93]⟩, ⟨.t 98, none, .ext 1, [.t 93]⟩, ⟨.l 17, none, .alloc [.i .i64 0, .i .i64 0, .i .i64 0, .i .i64 0, .i .i64 0, .sl none 0 0 0, .b false], []⟩, ⟨.no, none, .st 7, [.l 17, .t 97]⟩, ⟨.l 18, none, .mv, [.t 98]⟩])
def q_tarpaulinlaw13_TimerTicks_19 (N : Nat → Nat) : ACode := (.seq (q_tarpaulinlaw13_TimerTicks_19a N) (q_tarpaulinlaw13_TimerTicks_20 N))
noncomputable def D_tarpaulinlaw13_TimerTicks_19 (F : Nat → Option AFn) (N : Nat → Nat) (Q : AV → Lg → Prop) (k1 : Env → Lg → Prop) (l : Env) (L : Lg) : Prop :=
 CallL F (N k_timer_Set_Fire) [(l 5), (l 9)] L fun v1 L1 =>
 wpOp F (.ext 0) [v1] L1 fun v2 L2 =>
 wpOp F (.ext 1) [v1] L2 fun v3 L3 =>
 wpOp F (.alloc [.i .i64 0, .i .i64 0, .i .i64 0, .i .i64 0, .i .i64 0, .sl none 0 0 0, .b false]) [] L3 fun v4 L4 =>
 wpOp F (.st 7) [v4, v2] L4 fun _ L5 =>
 D_tarpaulinlaw13_TimerTicks_20 F N Q k1 (Env.put (Env.put l 17 v4) 18 v3) L5
theorem e_tarpaulinlaw13_TimerTicks_19 (F : Nat → Option AFn) (N : Nat → Nat) (Q : AV → Lg → Prop) (k1 : Env → Lg → Prop) (l t : Env) (L : Lg) : wp F (q_tarpaulinlaw13_TimerTicks_19 N) l t L (fun (l t : Env) (L : Lg) => D_tarpaulinlaw13_TimerTicks_15 F N Q k1 l L) (fun (j : Nat) (l t : Env) (L : Lg) => bif Nat.beq j 1 then (fun (l t : Env) (L : Lg) => D_tarpaulinlaw13_TimerTicks_15 F N Q k1 l L) l t L else (fun (j : Nat) (l t : Env) (L : Lg) => bif Nat.beq j 0 then (fun (l t : Env) (L : Lg) => D_tarpaulinlaw13_TimerTicks_9 F N Q L) l t L else (fun _ _ _ _ => False) j l t L) j l t L) (fin [.tmp (.l 4)] Q) = D_tarpaulinlaw13_TimerTicks_19 F N Q k1 l L := Eq.trans (wpq_seq F (q_tarpaulinlaw13_TimerTicks_19a N) (q_tarpaulinlaw13_TimerTicks_20 N) l t L (fun (l t : Env) (L : Lg) => D_tarpaulinlaw13_TimerTicks_15 F N Q k1 l L) (fun (j : Nat) (l t : Env) (L : Lg) => bif Nat.beq j 1 then (fun (l t : Env) (L : Lg) => D_tarpaulinlaw13_TimerTicks_15 F N Q k1 l L) l t L else (fun (j : Nat) (l t : Env) (L : Lg) => bif Nat.beq j 0 then (fun (l t : Env) (L : Lg) => D_tarpaulinlaw13_TimerTicks_9 F N Q L) l t L else (fun _ _ _ _ => False) j l t L) j l t L) (fin [.tmp (.l 4)] Q)) (Eq.trans (congrArg (fun Z : Kn => wp F (q_tarpaulinlaw13_TimerTicks_19a N) l t L Z (fun (j : Nat) (l t : Env) (L : Lg) => bif Nat.beq j 1 then (fun (l t : Env) (L : Lg) => D_tarpaulinlaw13_TimerTicks_15 F N Q k1 l L) l t L else (fun (j : Nat) (l t : Env) (L : Lg) => bif Nat.beq j 0 then (fun (l t : Env) (L : Lg) => D_tarpaulinlaw13_TimerTicks_9 F N Q L) l t L else (fun _ _ _ _ => False) j l t L) j l t L) (fin [.tmp (.l 4)] Q)) (funext fun l => funext fun t => funext fun L => e_tarpaulinlaw13_TimerTicks_20 F N Q k1 l t L)) (by kernel_rfl))
def q_tarpaulinlaw13_TimerTicks_18a (N : Nat → Nat) : ACode := (.reg [⟨.t 86, none, .mv, [.l 9]⟩, ⟨.t 87, none, .mv, [.l 1]⟩, ⟨.t 88, none, .mv, [.l 12]⟩, ⟨.t 89, none, .iad 1, [.t 87, .t 88]⟩, ⟨.t 90, none, .ld none, [.t 89]⟩, ⟨.t 91, none, .call (N k_tarpaulinalike_Round), [.t 90, .c (.i .i64 300)]⟩, ⟨.t 92, none, .bin .add, [.t 86, .t 91]⟩, ⟨.l 9, none, .mv, [.t 92]⟩])
def q_tarpaulinlaw13_TimerTicks_18 (N : Nat → Nat) : ACode := (.seq (q_tarpaulinlaw13_TimerTicks_18a N) (q_tarpaulinlaw13_TimerTicks_19 N))
noncomputable def D_tarpaulinlaw13_TimerTicks_18 (F : Nat → Option AFn) (N : Nat → Nat) (Q : AV → Lg → Prop) (k1 : Env → Lg → Prop) (l : Env) (L : Lg) : Prop :=
 wpOp F (.iad 1) [(l 1), (l 12)] L fun v1 L1 =>
 wpOp F (.ld none) [v1] L1 fun v2 L2 =>
 CallL F (N k_tarpaulinalike_Round) [v2, (.i .i64 300)] L2 fun v3 L3 =>
 wpOp F (.bin .add) [(l 9), v3] L3 fun v4 L4 =>
 D_tarpaulinlaw13_TimerTicks_19 F N Q k1 (Env.put l 9 v4) L4
theorem e_tarpaulinlaw13_TimerTicks_18 (F : Nat → Option AFn) (N : Nat → Nat) (Q : AV → Lg → Prop) (k1 : Env → Lg → Prop) (l t : Env) (L : Lg) : wp F (q_tarpaulinlaw13_TimerTicks_18 N) l t L (fun (l t : Env) (L : Lg) => D_tarpaulinlaw13_TimerTicks_15 F N Q k1 l L) (fun (j : Nat) (l t : Env) (L : Lg) => bif Nat.beq j 1 then (fun (l t : Env) (L : Lg) => D_tarpaulinlaw13_TimerTicks_15 F N Q k1 l L) l t L else (fun (j : Nat) (l t : Env) (L : Lg) => bif Nat.beq j 0 then (fun (l t : Env) (L : Lg) => D_tarpaulinlaw13_TimerTicks_9 F N Q L) l t L else (fun _ _ _ _ => False) j l t L) j l t L) (fin [.tmp (.l 4)] Q) = D_tarpaulinlaw13_TimerTicks_18 F N Q k1 l L := Eq.trans (wpq_seq F (q_tarpaulinlaw13_TimerTicks_18a N) (q_tarpaulinlaw13_TimerTicks_19 N) l t L (fun (l t : Env) (L : Lg) => D_tarpaulinlaw13_TimerTicks_15 F N Q k1 l L) (fun (j : Nat) (l t : Env) (L : Lg) => bif Nat.beq j 1 then (fun (l t : Env) (L : Lg) => D_tarpaulinlaw13_TimerTicks_15 F N Q k1 l L) l t L else (fun (j : Nat) (l t : Env) (L : Lg) => bif Nat.beq j 0 then (fun (l t : Env) (L : Lg) => D_tarpaulinlaw13_TimerTicks_9 F N Q L) l t L else (fun _ _ _ _ => False) j l t L) j l t L) (fin [.tmp (.l 4)] Q)) (Eq.trans (congrArg (fun Z : Kn => wp F (q_tarpaulinlaw13_TimerTicks_18a N) l t L Z (fun (j : Nat) (l t : Env) (L : Lg) => bif Nat.beq j 1 then (fun (l t : Env) (L : Lg) => D_tarpaulinlaw13_TimerTicks_15 F N Q k1 l L) l t L else (fun (j : Nat) (l t : Env) (L : Lg) => bif Nat.beq j 0 then (fun (l t : Env) (L : Lg) => D_tarpaulinlaw13_TimerTicks_9 F N Q L) l t L else (fun _ _ _ _ => False) j l t L) j l t L) (fin [.tmp (.l 4)] Q)) (funext fun l => funext fun t => funext fun L => e_tarpaulinlaw13_TimerTicks_19 F N Q k1 l t L)) (by kernel_rfl))
def q_tarpaulinlaw13_TimerTicks_17a (N : Nat → Nat) : ACode := (.seq (.reg [⟨.t 56, none, .mv, [.l 1]⟩, ⟨.t 57, none, .mv, [.l 12]⟩, ⟨.t 58, none, .iad 1, [.t 56, .t 57]⟩, ⟨.t 59, none, .ld none, [.t 58]⟩, ⟨.t 60, none, .bin .rem, [.t 59, .c (.i .i64 3)]⟩, ⟨.t 61, none, .bin .eql, [.t 60, .c (.i .i64 0)]⟩]) (.cond (.t 61) (.seq (.reg [⟨.t 63, none, .mv, [.l 7]⟩, ⟨.t 64, none, .call (N k_chanq_Chan_Recv), [.t 63]⟩, ⟨.t 62, none, .mv, [.t 64]⟩, ⟨.t 65, none, .ext 0, [.t 62]⟩, ⟨.t 66, none, .ext 1, [.t 62]⟩, ⟨.t 67, none, .ext 2, [.t 62]⟩, ⟨.t 68, none, .ext 3, [.t 62]⟩, ⟨.l 13, none, .mv, [.t 65]⟩, ⟨.l 14, none, .mv, [.t 66]⟩, ⟨.l 15, none, .mv, [.t 67]⟩, ⟨.t 16, none, .mv, [.t 68]⟩]) (.seq (.seq (.reg [⟨.t 69, none, .mv, [.l 14]⟩, ⟨.t 70, none, .mv, [.l 11]⟩, ⟨.t 71, none, .bin .geq, [.t 70, .c (.i .i64 0)]⟩, ⟨.t 72, none, .eq true .bool, [.t 69, .t 71]⟩, ⟨.t 73, none, .mv, [.t 72]⟩, ⟨.t 74, some (.t 73, false), .mv, [.l 15]⟩, ⟨.t 75, some (.t 73, false), .mv, [.l 14]⟩, ⟨.t 76, some (.t 73, false), .eq true .bool, [.t 74, .t 75]⟩, ⟨.t 77, none, .pick, [.t 73, .c (.b true), .t 76]⟩, ⟨.t 78, none, .mv, [.t 77]⟩, ⟨.t 79, some (.t 78, false), .mv, [.l 14]⟩, ⟨.t 80, some (.t 78, false), .mv, [.t 79]⟩, ⟨.t 81, some (.t 80, true), .mv, [.l 13]⟩, ⟨.t 82, some (.t 80, true), .mv, [.l 11]⟩, ⟨.t 83, some (.t 80, true), .bin .neq, [.t 81, .t 82]⟩, ⟨.t 84, some (.t 78, false), .pick, [.t 80, .t 83, .c (.b false)]⟩, ⟨.t 85, none, .pick, [.t 78, .c (.b true), .t 84]⟩]) (.cond (.t 85) (.seq (.reg [⟨.l 4, none, .mv, [.c (.b false)]⟩]) .ret) .skip)) (.seq (.reg [⟨.l 11, none, .mv, [.c (.i .i64 (-1))]⟩]) (.exit 1)))) .skip))
def q_tarpaulinlaw13_TimerTicks_17 (N : Nat → Nat) : ACode := (.seq (q_tarpaulinlaw13_TimerTicks_17a N) (q_tarpaulinlaw13_TimerTicks_18 N))
noncomputable def D_tarpaulinlaw13_TimerTicks_17 (F : Nat → Option AFn) (N : Nat → Nat) (Q : AV → Lg → Prop) (k1 : Env → Lg → Prop) (l : Env) (L : Lg) : Prop :=
 wpOp F (.iad 1) [(l 1), (l 12)] L fun v1 L1 =>
 wpOp F (.ld none) [v1] L1 fun v2 L2 =>
 wpOp F (.bin .rem) [v2, (.i .i64 3)] L2 fun v3 L3 =>
 wpOp F (.bin .eql) [v3, (.i .i64 0)] L3 fun v4 L4 =>
 condW v4
 (CallL F (N k_chanq_Chan_Recv) [(l 7)] L4 fun v5 L5 =>
 wpOp F (.ext 0) [v5] L5 fun v6 L6 =>
 wpOp F (.ext 1) [v5] L6 fun v7 L7 =>
 wpOp F (.ext 2) [v5] L7 fun v8 L8 =>
 wpOp F (.ext 3) [v5] L8 fun v9 L9 =>
 wpOp F (.bin .geq) [(l 11), (.i .i64 0)] L9 fun v10 L10 =>
 wpOp F (.eq true .bool) [v7, v10] L10 fun v11 L11 =>
 gdOp F v11 false .mv [v8] L11 fun v12 L12 =>
 gdOp F v11 false .mv [v7] L12 fun v13 L13 =>
 gdOp F v11 false (.eq true .bool) [v12, v13] L13 fun v14 L14 =>
 wpOp F .pick [v11, (.b true), v14] L14 fun v15 L15 =>
 gdOp F v15 false .mv [v7] L15 fun v16 L16 =>
 gdOp F v15 false .mv [v16] L16 fun v17 L17 =>
 gdOp F v17 true .mv [v6] L17 fun v18 L18 =>
 gdOp F v17 true .mv [(l 11)] L18 fun v19 L19 =>
 gdOp F v17 true (.bin .neq) [v18, v19] L19 fun v20 L20 =>
 gdOp F v15 false .pick [v17, v20, (.b false)] L20 fun v21 L21 =>
 wpOp F .pick [v15, (.b true), v21] L21 fun v22 L22 =>
 condW v22
 (fin1 (some (.b false)) Q L22)
 (D_tarpaulinlaw13_TimerTicks_15 F N Q k1 (Env.put (Env.put (Env.put (Env.put l 13 v6) 14 v7) 15 v8) 11 (.i .i64 (-1))) L22))
 (D_tarpaulinlaw13_TimerTicks_18 F N Q k1 l L4)
theorem e_tarpaulinlaw13_TimerTicks_17 (F : Nat → Option AFn) (N : Nat → Nat) (Q : AV → Lg → Prop) (k1 : Env → Lg → Prop) (l t : Env) (L : Lg) : wp F (q_tarpaulinlaw13_TimerTicks_17 N) l t L (fun (l t : Env) (L : Lg) => D_tarpaulinlaw13_TimerTicks_15 F N Q k1 l L) (fun (j : Nat) (l t : Env) (L : Lg) => bif Nat.beq j 1 then (fun (l t : Env) (L : Lg) => D_tarpaulinlaw13_TimerTicks_15 F N Q k1 l L) l t L else (fun (j : Nat) (l t : Env) (L : Lg) => bif Nat.beq j 0 then (fun (l t : Env) (L : Lg) => D_tarpaulinlaw13_TimerTicks_9 F N Q L) l t L else (fun _ _ _ _ => False) j l t L) j l t L) (fin [.tmp (.l 4)] Q) = D_tarpaulinlaw13_TimerTicks_17 F N Q k1 l L := Eq.trans (wpq_seq F (q_tarpaulinlaw13_TimerTicks_17a N) (q_tarpaulinlaw13_TimerTicks_18 N) l t L (fun (l t : Env) (L : Lg) => D_tarpaulinlaw13_TimerTicks_15 F N Q k1 l L) (fun (j : Nat) (l t : Env) (L : Lg) => bif Nat.beq j 1 then (fun (l t : Env) (L : Lg) => D_tarpaulinlaw13_TimerTicks_15 F N Q k1 l L) l t L else (fun (j : Nat) (l t : Env) (L : Lg) => bif Nat.beq j 0 then (fun (l t : Env) (L : Lg) => D_tarpaulinlaw13_TimerTicks_9 F N Q L) l t L else (fun _ _ _ _ => False) j l t L) j l t L) (fin [.tmp (.l 4)] Q)) (Eq.trans (congrArg (fun Z : Kn => wp F (q_tarpaulinlaw13_TimerTicks_17a N) l t L Z (fun (j : Nat) (l t : Env) (L : Lg) => bif Nat.beq j 1 then (fun (l t : Env) (L : Lg) => D_tarpaulinlaw13_TimerTicks_15 F N Q k1 l L) l t L else (fun (j : Nat) (l t : Env) (L : Lg) => bif Nat.beq j 0 then (fun (l t : Env) (L : Lg) => D_tarpaulinlaw13_TimerTicks_9 F N Q L) l t L else (fun _ _ _ _ => False) j l t L) j l t L) (fin [.tmp (.l 4)] Q)) (funext fun l => funext fun t => funext fun L => e_tarpaulinlaw13_TimerTicks_18 F N Q k1 l t L)) (by kernel_rfl))
def q_tarpaulinlaw13_TimerTicks_16 (N : Nat → Nat) : ACode := (.block 1 (q_tarpaulinlaw13_TimerTicks_17 N))
theorem e_tarpaulinlaw13_TimerTicks_16 (F : Nat → Option AFn) (N : Nat → Nat) (Q : AV → Lg → Prop) (k1 : Env → Lg → Prop) (l t : Env) (L : Lg) : wp F (q_tarpaulinlaw13_TimerTicks_16 N) l t L (fun (l t : Env) (L : Lg) => D_tarpaulinlaw13_TimerTicks_15 F N Q k1 l L) (fun (j : Nat) (l t : Env) (L : Lg) => bif Nat.beq j 0 then (fun (l t : Env) (L : Lg) => D_tarpaulinlaw13_TimerTicks_9 F N Q L) l t L else (fun _ _ _ _ => False) j l t L) (fin [.tmp (.l 4)] Q) = D_tarpaulinlaw13_TimerTicks_17 F N Q k1 l L := Eq.trans (wpq_block F 1 (q_tarpaulinlaw13_TimerTicks_17 N) l t L (fun (l t : Env) (L : Lg) => D_tarpaulinlaw13_TimerTicks_15 F N Q k1 l L) (fun (j : Nat) (l t : Env) (L : Lg) => bif Nat.beq j 0 then (fun (l t : Env) (L : Lg) => D_tarpaulinlaw13_TimerTicks_9 F N Q L) l t L else (fun _ _ _ _ => False) j l t L) (fin [.tmp (.l 4)] Q)) (e_tarpaulinlaw13_TimerTicks_17 F N Q k1 l t L)
def q_tarpaulinlaw13_TimerTicks_14 (N : Nat → Nat) : ACode := (.seq (q_tarpaulinlaw13_TimerTicks_16 N) (q_tarpaulinlaw13_TimerTicks_15 N))
theorem e_tarpaulinlaw13_TimerTicks_14 (F : Nat → Option AFn) (N : Nat → Nat) (Q : AV → Lg → Prop) (k1 : Env → Lg → Prop) (l t : Env) (L : Lg) : wp F (q_tarpaulinlaw13_TimerTicks_14 N) l t L (fun (l _ : Env) (L : Lg) => k1 l L) (fun (j : Nat) (l t : Env) (L : Lg) => bif Nat.beq j 0 then (fun (l t : Env) (L : Lg) => D_tarpaulinlaw13_TimerTicks_9 F N Q L) l t L else (fun _ _ _ _ => False) j l t L) (fin [.tmp (.l 4)] Q) = D_tarpaulinlaw13_TimerTicks_17 F N Q k1 l L := Eq.trans (wpq_seq F (q_tarpaulinlaw13_TimerTicks_16 N) (q_tarpaulinlaw13_TimerTicks_15 N) l t L (fun (l _ : Env) (L : Lg) => k1 l L) (fun (j : Nat) (l t : Env) (L : Lg) => bif Nat.beq j 0 then (fun (l t : Env) (L : Lg) => D_tarpaulinlaw13_TimerTicks_9 F N Q L) l t L else (fun _ _ _ _ => False) j l t L) (fin [.tmp (.l 4)] Q)) (Eq.trans (congrArg (fun Z : Kn => wp F (q_tarpaulinlaw13_TimerTicks_16 N) l t L Z (fun (j : Nat) (l t : Env) (L : Lg) => bif Nat.beq j 0 then (fun (l t : Env) (L : Lg) => D_tarpaulinlaw13_TimerTicks_9 F N Q L) l t L else (fun _ _ _ _ => False) j l t L) (fin [.tmp (.l 4)] Q)) (funext fun l => funext fun t => funext fun L => e_tarpaulinlaw13_TimerTicks_15 F N Q k1 l t L)) (e_tarpaulinlaw13_TimerTicks_16 F N Q k1 l t L))
def q_tarpaulinlaw13_TimerTicks_13a (N : Nat → Nat) : ACode := (.seq (.reg [⟨.t 50, none, .mv, [.l 12]⟩, ⟨.t 51, none, .mv, [.l 1]⟩, ⟨.t 52, none, .lenSl, [.t 51]⟩, ⟨.t 53, none, .bin .lss, [.t 50, .t 52]⟩]) (.cond (.t 53) .skip (.exit 0)))
def q_tarpaulinlaw13_TimerTicks_13 (N : Nat → Nat) : ACode := (.seq (q_tarpaulinlaw13_TimerTicks_13a N) (q_tarpaulinlaw13_TimerTicks_14 N))
noncomputable def D_tarpaulinlaw13_TimerTicks_13 (F : Nat → Option AFn) (N : Nat → Nat) (Q : AV → Lg → Prop) (k1 : Env → Lg → Prop) (l : Env) (L : Lg) : Prop :=
 wpOp F .lenSl [(l 1)] L fun v1 L1 =>
 wpOp F (.bin .lss) [(l 12), v1] L1 fun v2 L2 =>
 condW v2
 (D_tarpaulinlaw13_TimerTicks_17 F N Q k1 l L2)
 (D_tarpaulinlaw13_TimerTicks_9 F N Q L2)
theorem e_tarpaulinlaw13_TimerTicks_13 (F : Nat → Option AFn) (N : Nat → Nat) (Q : AV → Lg → Prop) (k1 : Env → Lg → Prop) (l t : Env) (L : Lg) : wp F (q_tarpaulinlaw13_TimerTicks_13 N) l t L (fun (l _ : Env) (L : Lg) => k1 l L) (fun (j : Nat) (l t : Env) (L : Lg) => bif Nat.beq j 0 then (fun (l t : Env) (L : Lg) => D_tarpaulinlaw13_TimerTicks_9 F N Q L) l t L else (fun _ _ _ _ => False) j l t L) (fin [.tmp (.l 4)] Q) = D_tarpaulinlaw13_TimerTicks_13 F N Q k1 l L := Eq.trans (wpq_seq F (q_tarpaulinlaw13_TimerTicks_13a N) (q_tarpaulinlaw13_TimerTicks_14 N) l t L (fun (l _ : Env) (L : Lg) => k1 l L) (fun (j : Nat) (l t : Env) (L : Lg) => bif Nat.beq j 0 then (fun (l t : Env) (L : Lg) => D_tarpaulinlaw13_TimerTicks_9 F N Q L) l t L else (fun _ _ _ _ => False) j l t L) (fin [.tmp (.l 4)] Q)) (Eq.trans (congrArg (fun Z : Kn => wp F (q_tarpaulinlaw13_TimerTicks_13a N) l t L Z (fun (j : Nat) (l t : Env) (L : Lg) => bif Nat.beq j 0 then (fun (l t : Env) (L : Lg) => D_tarpaulinlaw13_TimerTicks_9 F N Q L) l t L else (fun _ _ _ _ => False) j l t L) (fin [.tmp (.l 4)] Q)) (funext fun l => funext fun t => funext fun L => e_tarpaulinlaw13_TimerTicks_14 F N Q k1 l t L)) (by kernel_rfl))
def q_tarpaulinlaw13_TimerTicks_12 (N : Nat → Nat) : ACode := (.loop (q_tarpaulinlaw13_TimerTicks_13 N))
noncomputable def D_tarpaulinlaw13_TimerTicks_12 (F : Nat → Option AFn) (N : Nat → Nat) (Q : AV → Lg → Prop) (l : Env) (L : Lg) : Prop :=
 loopW (fun l t L k1 => D_tarpaulinlaw13_TimerTicks_13 F N Q k1 l L) l L
theorem e_tarpaulinlaw13_TimerTicks_12 (F : Nat → Option AFn) (N : Nat → Nat) (Q : AV → Lg → Prop) (l t : Env) (L : Lg) : wp F (q_tarpaulinlaw13_TimerTicks_12 N) l t L (fun (l t : Env) (L : Lg) => D_tarpaulinlaw13_TimerTicks_9 F N Q L) (fun (j : Nat) (l t : Env) (L : Lg) => bif Nat.beq j 0 then (fun (l t : Env) (L : Lg) => D_tarpaulinlaw13_TimerTicks_9 F N Q L) l t L else (fun _ _ _ _ => False) j l t L) (fin [.tmp (.l 4)] Q) = D_tarpaulinlaw13_TimerTicks_12 F N Q l L := Eq.trans (wpq_loop F (q_tarpaulinlaw13_TimerTicks_13 N) l t L (fun (l t : Env) (L : Lg) => D_tarpaulinlaw13_TimerTicks_9 F N Q L) (fun (j : Nat) (l t : Env) (L : Lg) => bif Nat.beq j 0 then (fun (l t : Env) (L : Lg) => D_tarpaulinlaw13_TimerTicks_9 F N Q L) l t L else (fun _ _ _ _ => False) j l t L) (fin [.tmp (.l 4)] Q)) (Eq.trans (congrArg (fun B => loopW B l L) (funext fun l => funext fun t => funext fun L => funext fun k1 => e_tarpaulinlaw13_TimerTicks_13 F N Q k1 l t L)) (by kernel_rfl))
def q_tarpaulinlaw13_TimerTicks_11 (N : Nat → Nat) : ACode := (.block 0 (q_tarpaulinlaw13_TimerTicks_12 N))
theorem e_tarpaulinlaw13_TimerTicks_11 (F : Nat → Option AFn) (N : Nat → Nat) (Q : AV → Lg → Prop) (l t : Env) (L : Lg) : wp F (q_tarpaulinlaw13_TimerTicks_11 N) l t L (fun (l t : Env) (L : Lg) => D_tarpaulinlaw13_TimerTicks_9 F N Q L) (fun _ _ _ _ => False) (fin [.tmp (.l 4)] Q) = D_tarpaulinlaw13_TimerTicks_12 F N Q l L := Eq.trans (wpq_block F 0 (q_tarpaulinlaw13_TimerTicks_12 N) l t L (fun (l t : Env) (L : Lg) => D_tarpaulinlaw13_TimerTicks_9 F N Q L) (fun _ _ _ _ => False) (fin [.tmp (.l 4)] Q)) (e_tarpaulinlaw13_TimerTicks_12 F N Q l t L)
def q_tarpaulinlaw13_TimerTicks_10a (N : Nat → Nat) : ACode := (.reg [⟨.l 12, none, .mv, [.c (.i .i64 0)]⟩])
def q_tarpaulinlaw13_TimerTicks_10 (N : Nat → Nat) : ACode := (.seq (q_tarpaulinlaw13_TimerTicks_10a N) (q_tarpaulinlaw13_TimerTicks_11 N))
noncomputable def D_tarpaulinlaw13_TimerTicks_10 (F : Nat → Option AFn) (N : Nat → Nat) (Q : AV → Lg → Prop) (l : Env) (L : Lg) : Prop :=
 D_tarpaulinlaw13_TimerTicks_12 F N Q (Env.put l 12 (.i .i64 0)) L
theorem e_tarpaulinlaw13_TimerTicks_10 (F : Nat → Option AFn) (N : Nat → Nat) (Q : AV → Lg → Prop) (l t : Env) (L : Lg) : wp F (q_tarpaulinlaw13_TimerTicks_10 N) l t L (fun (l t : Env) (L : Lg) => D_tarpaulinlaw13_TimerTicks_9 F N Q L) (fun _ _ _ _ => False) (fin [.tmp (.l 4)] Q) = D_tarpaulinlaw13_TimerTicks_10 F N Q l L := Eq.trans (wpq_seq F (q_tarpaulinlaw13_TimerTicks_10a N) (q_tarpaulinlaw13_TimerTicks_11 N) l t L (fun (l t : Env) (L : Lg) => D_tarpaulinlaw13_TimerTicks_9 F N Q L) (fun _ _ _ _ => False) (fin [.tmp (.l 4)] Q)) (Eq.trans (congrArg (fun Z : Kn => wp F (q_tarpaulinlaw13_TimerTicks_10a N) l t L Z (fun _ _ _ _ => False) (fin [.tmp (.l 4)] Q)) (funext fun l => funext fun t => funext fun L => e_tarpaulinlaw13_TimerTicks_11 F N Q l t L)) (by kernel_rfl))
def q_tarpaulinlaw13_TimerTicks_8 (N : Nat → Nat) : ACode := (.seq (q_tarpaulinlaw13_TimerTicks_10 N) (q_tarpaulinlaw13_TimerTicks_9 N))
theorem e_tarpaulinlaw13_TimerTicks_8 (F : Nat → Option AFn) (N : Nat → Nat) (Q : AV → Lg → Prop) (l t : Env) (L : Lg) : wp F (q_tarpaulinlaw13_TimerTicks_8 N) l t L (fin [.tmp (.l 4)] Q) (fun _ _ _ _ => False) (fin [.tmp (.l 4)] Q) = D_tarpaulinlaw13_TimerTicks_10 F N Q l L := Eq.trans (wpq_seq F (q_tarpaulinlaw13_TimerTicks_10 N) (q_tarpaulinlaw13_TimerTicks_9 N) l t L (fin [.tmp (.l 4)] Q) (fun _ _ _ _ => False) (fin [.tmp (.l 4)] Q)) (Eq.trans (congrArg (fun Z : Kn => wp F (q_tarpaulinlaw13_TimerTicks_10 N) l t L Z (fun _ _ _ _ => False) (fin [.tmp (.l 4)] Q)) (funext fun l => funext fun t => funext fun L => e_tarpaulinlaw13_TimerTicks_9 F N Q l t L)) (e_tarpaulinlaw13_TimerTicks_10 F N Q l t L))
def q_tarpaulinlaw13_TimerTicks_7a (N : Nat → Nat) : ACode := (.reg [⟨.t 49, none, .mv, [.l 0]⟩, ⟨.l 9, none, .mv, [.c (.i .i64 0)]⟩, ⟨.l 10, none, .mv, [.t 49]⟩, ⟨.l 11, none, .mv, [.c (.i .i64 (-1))]⟩])
def q_tarpaulinlaw13_TimerTicks_7 (N : Nat → Nat) : ACode := (.seq (q_tarpaulinlaw13_TimerTicks_7a N) (q_tarpaulinlaw13_TimerTicks_8 N))
noncomputable def D_tarpaulinlaw13_TimerTicks_7 (F : Nat → Option AFn) (N : Nat → Nat) (Q : AV → Lg → Prop) (l : Env) (L : Lg) : Prop :=
 D_tarpaulinlaw13_TimerTicks_10 F N Q (Env.put (Env.put (Env.put l 9 (.i .i64 0)) 10 (l 0)) 11 (.i .i64 (-1))) L
theorem e_tarpaulinlaw13_TimerTicks_7 (F : Nat → Option AFn) (N : Nat → Nat) (Q : AV → Lg → Prop) (l t : Env) (L : Lg) : wp F (q_tarpaulinlaw13_TimerTicks_7 N) l t L (fin [.tmp (.l 4)] Q) (fun _ _ _ _ => False) (fin [.tmp (.l 4)] Q) = D_tarpaulinlaw13_TimerTicks_7 F N Q l L := Eq.trans (wpq_seq F (q_tarpaulinlaw13_TimerTicks_7a N) (q_tarpaulinlaw13_TimerTicks_8 N) l t L (fin [.tmp (.l 4)] Q) (fun _ _ _ _ => False) (fin [.tmp (.l 4)] Q)) (Eq.trans (congrArg (fun Z : Kn => wp F (q_tarpaulinlaw13_TimerTicks_7a N) l t L Z (fun _ _ _ _ => False) (fin [.tmp (.l 4)] Q)) (funext fun l => funext fun t => funext fun L => e_tarpaulinlaw13_TimerTicks_8 F N Q l t L)) (by kernel_rfl))
def q_tarpaulinlaw13_TimerTicks_6a (N : Nat → Nat) : ACode := (.seq (.reg [⟨.t 43, none, .mv, [.l 8]⟩, ⟨.t 44, none, .bin .neq, [.t 43, .c (.i .i64 0)]⟩, ⟨.t 45, none, .mv, [.t 44]⟩, ⟨.t 46, some (.t 45, false), .mv, [.l 7]⟩, ⟨.t 47, some (.t 45, false), .eq false .ptr, [.t 46, .c (.p none)]⟩, ⟨.t 48, none, .pick, [.t 45, .c (.b true), .t 47]⟩]) (.cond (.t 48) (.seq (.reg [⟨.l 4, none, .mv, [.c (.b false)]⟩]) .ret) .skip))
def q_tarpaulinlaw13_TimerTicks_6 (N : Nat → Nat) : ACode := (.seq (q_tarpaulinlaw13_TimerTicks_6a N) (q_tarpaulinlaw13_TimerTicks_7 N))
noncomputable def D_tarpaulinlaw13_TimerTicks_6 (F : Nat → Option AFn) (N : Nat → Nat) (Q : AV → Lg → Prop) (l : Env) (L : Lg) : Prop :=
 wpOp F (.bin .neq) [(l 8), (.i .i64 0)] L fun v1 L1 =>
 gdOp F v1 false .mv [(l 7)] L1 fun v2 L2 =>
 gdOp F v1 false (.eq false .ptr) [v2, (.p none)] L2 fun v3 L3 =>
 wpOp F .pick [v1, (.b true), v3] L3 fun v4 L4 =>
 condW v4
 (fin1 (some (.b false)) Q L4)
 (D_tarpaulinlaw13_TimerTicks_7 F N Q l L4)
theorem e_tarpaulinlaw13_TimerTicks_6 (F : Nat → Option AFn) (N : Nat → Nat) (Q : AV → Lg → Prop) (l t : Env) (L : Lg) : wp F (q_tarpaulinlaw13_TimerTicks_6 N) l t L (fin [.tmp (.l 4)] Q) (fun _ _ _ _ => False) (fin [.tmp (.l 4)] Q) = D_tarpaulinlaw13_TimerTicks_6 F N Q l L := Eq.trans (wpq_seq F (q_tarpaulinlaw13_TimerTicks_6a N) (q_tarpaulinlaw13_TimerTicks_7 N) l t L (fin [.tmp (.l 4)] Q) (fun _ _ _ _ => False) (fin [.tmp (.l 4)] Q)) (Eq.trans (congrArg (fun Z : Kn => wp F (q_tarpaulinlaw13_TimerTicks_6a N) l t L Z (fun _ _ _ _ => False) (fin [.tmp (.l 4)] Q)) (funext fun l => funext fun t => funext fun L => e_tarpaulinlaw13_TimerTicks_7 F N Q l t L)) (by kernel_rfl))
def q_tarpaulinlaw13_TimerTicks_5a (N : Nat → Nat) : ACode := (.reg [⟨.t 37, none, .mv, [.l 5]⟩, ⟨.t 38, none, .mv, [.l 0]⟩, ⟨.t 39, none, .call (N k_timer_Set_Ticker), [.t 37, .c (.i .i64 0), .t 38]⟩, ⟨.t 36, none, .mv, [.t 39]⟩, ⟨.t 40, none, .ext 0, [.t 36]⟩, ⟨.t 41, none, .ext 1, [.t 36]⟩, ⟨.t 42, none, .ext 2, [.t 36]⟩, ⟨.t 6, none, .mv, [.t 40]⟩, ⟨.l 7, none, .mv, [.t 41]⟩, ⟨.l 8, none, .mv, [.t 42]⟩])
def q_tarpaulinlaw13_TimerTicks_5 (N : Nat → Nat) : ACode := (.seq (q_tarpaulinlaw13_TimerTicks_5a N) (q_tarpaulinlaw13_TimerTicks_6 N))
noncomputable def D_tarpaulinlaw13_TimerTicks_5 (F : Nat → Option AFn) (N : Nat → Nat) (Q : AV → Lg → Prop) (l : Env) (L : Lg) : Prop :=
 CallL F (N k_timer_Set_Ticker) [(l 5), (.i .i64 0), (l 0)] L fun v1 L1 =>
 wpOp F (.ext 0) [v1] L1 fun v2 L2 =>
 wpOp F (.ext 1) [v1] L2 fun v3 L3 =>
 wpOp F (.ext 2) [v1] L3 fun v4 L4 =>
 D_tarpaulinlaw13_TimerTicks_6 F N Q (Env.put (Env.put l 7 v3) 8 v4) L4
theorem e_tarpaulinlaw13_TimerTicks_5 (F : Nat → Option AFn) (N : Nat → Nat) (Q : AV → Lg → Prop) (l t : Env) (L : Lg) : wp F (q_tarpaulinlaw13_TimerTicks_5 N) l t L (fin [.tmp (.l 4)] Q) (fun _ _ _ _ => False) (fin [.tmp (.l 4)] Q) = D_tarpaulinlaw13_TimerTicks_5 F N Q l L := Eq.trans (wpq_seq F (q_tarpaulinlaw13_TimerTicks_5a N) (q_tarpaulinlaw13_TimerTicks_6 N) l t L (fin [.tmp (.l 4)] Q) (fun _ _ _ _ => False) (fin [.tmp (.l 4)] Q)) (Eq.trans (congrArg (fun Z : Kn => wp F (q_tarpaulinlaw13_TimerTicks_5a N) l t L Z (fun _ _ _ _ => False) (fin [.tmp (.l 4)] Q)) (funext fun l => funext fun t => funext fun L => e_tarpaulinlaw13_TimerTicks_6 F N Q l t L)) (by kernel_rfl))
def q_tarpaulinlaw13_TimerTicks_4a (N : Nat → Nat) : ACode := (.seq (.reg [⟨.t 34, none, .mv, [.l 5]⟩, ⟨.t 35, none, .eq false .ptr, [.t 34, .c (.p none)]⟩]) (.cond (.t 35) (.seq (.reg [⟨.l 4, none, .mv, [.c (.b false)]⟩]) .ret) .skip))
def q_tarpaulinlaw13_TimerTicks_4 (N : Nat → Nat) : ACode := (.seq (q_tarpaulinlaw13_TimerTicks_4a N) (q_tarpaulinlaw13_TimerTicks_5 N))
noncomputable def D_tarpaulinlaw13_TimerTicks_4 (F : Nat → Option AFn) (N : Nat → Nat) (Q : AV → Lg → Prop) (l : Env) (L : Lg) : Prop :=
 wpOp F (.eq false .ptr) [(l 5), (.p none)] L fun v1 L1 =>
 condW v1
 (fin1 (some (.b false)) Q L1)
 (D_tarpaulinlaw13_TimerTicks_5 F N Q l L1)
theorem e_tarpaulinlaw13_TimerTicks_4 (F : Nat → Option AFn) (N : Nat → Nat) (Q : AV → Lg → Prop) (l t : Env) (L : Lg) : wp F (q_tarpaulinlaw13_TimerTicks_4 N) l t L (fin [.tmp (.l 4)] Q) (fun _ _ _ _ => False) (fin [.tmp (.l 4)] Q) = D_tarpaulinlaw13_TimerTicks_4 F N Q l L := Eq.trans (wpq_seq F (q_tarpaulinlaw13_TimerTicks_4a N) (q_tarpaulinlaw13_TimerTicks_5 N) l t L (fin [.tmp (.l 4)] Q) (fun _ _ _ _ => False) (fin [.tmp (.l 4)] Q)) (Eq.trans (congrArg (fun Z : Kn => wp F (q_tarpaulinlaw13_TimerTicks_4a N) l t L Z (fun _ _ _ _ => False) (fin [.tmp (.l 4)] Q)) (funext fun l => funext fun t => funext fun L => e_tarpaulinlaw13_TimerTicks_5 F N Q l t L)) (by kernel_rfl))
def q_tarpaulinlaw13_TimerTicks_3a (N : Nat → Nat) : ACode := (.reg [⟨.t 33, none, .call (N k_timer_New), []⟩, ⟨.l 5, none, .mv, [.t 33]⟩])
def q_tarpaulinlaw13_TimerTicks_3 (N : Nat → Nat) : ACode := (.seq (q_tarpaulinlaw13_TimerTicks_3a N) (q_tarpaulinlaw13_TimerTicks_4 N))
noncomputable def D_tarpaulinlaw13_TimerTicks_3 (F : Nat → Option AFn) (N : Nat → Nat) (Q : AV → Lg → Prop) (l : Env) (L : Lg) : Prop :=
 CallL F (N k_timer_New) [] L fun v1 L1 =>
 D_tarpaulinlaw13_TimerTicks_4 F N Q (Env.put l 5 v1) L1
theorem e_tarpaulinlaw13_TimerTicks_3 (F : Nat → Option AFn) (N : Nat → Nat) (Q : AV → Lg → Prop) (l t : Env) (L : Lg) : wp F (q_tarpaulinlaw13_TimerTicks_3 N) l t L (fin [.tmp (.l 4)] Q) (fun _ _ _ _ => False) (fin [.tmp (.l 4)] Q) = D_tarpaulinlaw13_TimerTicks_3 F N Q l L := Eq.trans (wpq_seq F (q_tarpaulinlaw13_TimerTicks_3a N) (q_tarpaulinlaw13_TimerTicks_4 N) l t L (fin [.tmp (.l 4)] Q) (fun _ _ _ _ => False) (fin [.tmp (.l 4)] Q)) (Eq.trans (congrArg (fun Z : Kn => wp F (q_tarpaulinlaw13_TimerTicks_3a N) l t L Z (fun _ _ _ _ => False) (fin [.tmp (.l 4)] Q)) (funext fun l => funext fun t => funext fun L => e_tarpaulinlaw13_TimerTicks_4 F N Q l t L)) (by kernel_rfl))
def q_tarpaulinlaw13_TimerTicks_2a (N : Nat → Nat) : ACode := (.seq (.reg [⟨.t 21, none, .mv, [.l 0]⟩, ⟨.t 22, none, .bin .lss, [.t 21, .c (.i .i64 1)]⟩, ⟨.t 23, none, .mv, [.t 22]⟩, ⟨.t 24, some (.t 23, false), .mv, [.l 0]⟩, ⟨.t 25, some (.t 23, false), .bin .gtr, [.t 24, .c (.i .i64 100)]⟩, ⟨.t 26, none, .pick, [.t 23, .c (.b true), .t 25]⟩, ⟨.t 27, none, .mv, [.t 26]⟩, ⟨.t 28, some (.t 27, false), .mv, [.l 1]⟩, ⟨.t 29, some (.t 27, false), .lenSl, [.t 28]⟩, ⟨.t 30, some (.t 27, false), .bin .gtr, [.t 29, .c (.i .i64 50)]⟩, ⟨.t 31, none, .pick, [.t 27, .c (.b true), .t 30]⟩]) (.cond (.t 31) (.seq (.reg [⟨.t 32, none, .call (N k_tarpaulinlaw13_awake), []⟩, ⟨.l 4, none, .mv, [.t 32]⟩]) .ret) .skip))
def q_tarpaulinlaw13_TimerTicks_2 (N : Nat → Nat) : ACode := (.seq (q_tarpaulinlaw13_TimerTicks_2a N) (q_tarpaulinlaw13_TimerTicks_3 N))
noncomputable def D_tarpaulinlaw13_TimerTicks_2 (F : Nat → Option AFn) (N : Nat → Nat) (Q : AV → Lg → Prop) (l : Env) (L : Lg) : Prop :=
 wpOp F (.bin .lss) [(l 0), (.i .i64 1)] L fun v1 L1 =>
 gdOp F v1 false .mv [(l 0)] L1 fun v2 L2 =>
 gdOp F v1 false (.bin .gtr) [v2, (.i .i64 100)] L2 fun v3 L3 =>
 wpOp F .pick [v1, (.b true), v3] L3 fun v4 L4 =>
 gdOp F v4 false .mv [(l 1)] L4 fun v5 L5 =>
 gdOp F v4 false .lenSl [v5] L5 fun v6 L6 =>
 gdOp F v4 false (.bin .gtr) [v6, (.i .i64 50)] L6 fun v7 L7 =>
 wpOp F .pick [v4, (.b true), v7] L7 fun v8 L8 =>
 condW v8
 (CallL F (N k_tarpaulinlaw13_awake) [] L8 fun v9 L9 =>
 fin1 (some v9) Q L9)
 (D_tarpaulinlaw13_TimerTicks_3 F N Q l L8)
theorem e_tarpaulinlaw13_TimerTicks_2 (F : Nat → Option AFn) (N : Nat → Nat) (Q : AV → Lg → Prop) (l t : Env) (L : Lg) : wp F (q_tarpaulinlaw13_TimerTicks_2 N) l t L (fin [.tmp (.l 4)] Q) (fun _ _ _ _ => False) (fin [.tmp (.l 4)] Q) = D_tarpaulinlaw13_TimerTicks_2 F N Q l L := Eq.trans (wpq_seq F (q_tarpaulinlaw13_TimerTicks_2a N) (q_tarpaulinlaw13_TimerTicks_3 N) l t L (fin [.tmp (.l 4)] Q) (fun _ _ _ _ => False) (fin [.tmp (.l 4)] Q)) (Eq.trans (congrArg (fun Z : Kn => wp F (q_tarpaulinlaw13_TimerTicks_2a N) l t L Z (fun _ _ _ _ => False) (fin [.tmp (.l 4)] Q)) (funext fun l => funext fun t => funext fun L => e_tarpaulinlaw13_TimerTicks_3 F N Q l t L)) (by kernel_rfl))
def q_tarpaulinlaw13_TimerTicks_1a (N : Nat → Nat) : ACode := (.reg [⟨.l 4, none, .mv, [.c (.b false)]⟩])
def q_tarpaulinlaw13_TimerTicks_1 (N : Nat → Nat) : ACode := (.seq (q_tarpaulinlaw13_TimerTicks_1a N) (q_tarpaulinlaw13_TimerTicks_2 N))
noncomputable def D_tarpaulinlaw13_TimerTicks_1 (F : Nat → Option AFn) (N : Nat → Nat) (Q : AV → Lg → Prop) (l : Env) (L : Lg) : Prop :=
 D_tarpaulinlaw13_TimerTicks_2 F N Q (Env.put l 4 (.b false)) L
theorem e_tarpaulinlaw13_TimerTicks_1 (F : Nat → Option AFn) (N : Nat → Nat) (Q : AV → Lg → Prop) (l t : Env) (L : Lg) : wp F (q_tarpaulinlaw13_TimerTicks_1 N) l t L (fin [.tmp (.l 4)] Q) (fun _ _ _ _ => False) (fin [.tmp (.l 4)] Q) = D_tarpaulinlaw13_TimerTicks_1 F N Q l L := Eq.trans (wpq_seq F (q_tarpaulinlaw13_TimerTicks_1a N) (q_tarpaulinlaw13_TimerTicks_2 N) l t L (fin [.tmp (.l 4)] Q) (fun _ _ _ _ => False) (fin [.tmp (.l 4)] Q)) (Eq.trans (congrArg (fun Z : Kn => wp F (q_tarpaulinlaw13_TimerTicks_1a N) l t L Z (fun _ _ _ _ => False) (fin [.tmp (.l 4)] Q)) (funext fun l => funext fun t => funext fun L => e_tarpaulinlaw13_TimerTicks_2 F N Q l t L)) (by kernel_rfl))
/-- tarpaulin/tarpaulinlaw13.TimerTicks -/
def c_tarpaulinlaw13_TimerTicks (N : Nat → Nat) : AFn := ⟨q_tarpaulinlaw13_TimerTicks_1 N, [.tmp (.l 4)]⟩
theorem r_tarpaulinlaw13_TimerTicks {F : Nat → Option AFn} {N : Nat → Nat} (h : F (N k_tarpaulinlaw13_TimerTicks) = some (c_tarpaulinlaw13_TimerTicks N)) {Q : AV → Lg → Prop} {a0 a1 : AV} {L : Lg} (e : D_tarpaulinlaw13_TimerTicks_1 F N Q (initE [a0, a1] 0) L) : CallL F (N k_tarpaulinlaw13_TimerTicks) [a0, a1] L Q :=
  CallL.of_wp h (Eq.mpr (Eq.trans (e_tarpaulinlaw13_TimerTicks_1 F N Q (initE [a0, a1] 0) Env.nil L) (by kernel_rfl : _ = D_tarpaulinlaw13_TimerTicks_1 F N Q (initE [a0, a1] 0) L)) e)
end Go.AM
