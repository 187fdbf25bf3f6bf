/- The code of functions, with names for their numbers, and what is left of its weakest preconditions. PRINTED by our printgen.py. -/
import Derived.Test.YtijhjfpiglaleaaGenB
import Derived.KernelRfl
set_option linter.unusedVariables false
set_option maxRecDepth 100000
namespace Go.AM
def k_tarpaulinlaw13_TimerMany : Nat := 112
def q_tarpaulinlaw13_TimerMany_10 (N : Nat → Nat) : ACode := (.seq (.reg [⟨.t 167, none, .mv, [.l 5]⟩, ⟨.t 168, none, .call (N k_timer_Set_Lapse), [.t 167, .c (.i .i64 5), .c (.i .i64 0)]⟩, ⟨.t 166, none, .mv, [.t 168]⟩, ⟨.t 169, none, .ext 0, [.t 166]⟩, ⟨.t 170, none, .ext 1, [.t 166]⟩, ⟨.t 21, none, .mv, [.t 169]⟩, ⟨.l 22, none, .mv, [.t 170]⟩]) (.seq (.reg [⟨.t 171, none, .mv, [.l 16]⟩, ⟨.t 172, none, .un .not, [.t 171]⟩, ⟨.t 173, none, .mv, [.t 172]⟩, ⟨.t 174, some (.t 173, true), .mv, [.l 22]⟩, ⟨.t 175, some (.t 173, true), .bin .eql, [.t 174, .c (.i .i64 0)]⟩, ⟨.t 176, none, .pick, [.t 173, .t 175, .c (.b false)]⟩, ⟨.t 177, none, .mv, [.t 176]⟩, ⟨.t 178, some (.t 177, true), .call (N k_tarpaulinlaw13_awake), []⟩, ⟨.t 179, none, .pick, [.t 177, .t 178, .c (.b false)]⟩, ⟨.l 4, none, .mv, [.t 179]⟩]) .ret))
noncomputable def D_tarpaulinlaw13_TimerMany_10 (F : Nat → Option AFn) (N : Nat → Nat) (Q : AV → Lg → Prop) (x5 : AV) (x16 : AV) (L : Lg) : Prop :=
 CallL F (N k_timer_Set_Lapse) [x5, (.i .i64 5), (.i .i64 0)] L fun v1 L1 =>
 wpOp F (.ext 0) [v1] L1 fun v2 L2 =>
 wpOp F (.ext 1) [v1] L2 fun v3 L3 =>
 wpOp F (.un .not) [x16] L3 fun v4 L4 =>
 gdOp F v4 true .mv [v3] L4 fun v5 L5 =>
 gdOp F v4 true (.bin .eql) [v5, (.i .i64 0)] L5 fun v6 L6 =>
 wpOp F .pick [v4, v6, (.b false)] L6 fun v7 L7 =>
 gdOp F v7 true (.call (N k_tarpaulinlaw13_awake)) [] L7 fun v8 L8 =>
 wpOp F .pick [v7, v8, (.b false)] L8 fun v9 L9 =>
 fin1 (some v9) Q L9
theorem e_tarpaulinlaw13_TimerMany_10 (F : Nat → Option AFn) (N : Nat → Nat) (Q : AV → Lg → Prop) (l t : Env) (L : Lg) : wp F (q_tarpaulinlaw13_TimerMany_10 N) l t L (fin [.tmp (.l 4)] Q) (fun _ _ _ _ => False) (fin [.tmp (.l 4)] Q) = D_tarpaulinlaw13_TimerMany_10 F N Q (l 5) (l 16) L := by kernel_rfl
def q_tarpaulinlaw13_TimerMany_14 (N : Nat → Nat) : ACode := (.seq (.seq (.reg [⟨.t 141, none, .mv, [.l 17]⟩, ⟨.t 142, none, .mv, [.l 1]⟩, ⟨.t 143, none, .bin .add, [.c (.i .i64 64), .t 142]⟩, ⟨.t 144, none, .bin .lss, [.t 141, .t 143]⟩]) (.cond (.t 144) .skip (.exit 4))) (.seq (.block 5 (.seq (.reg [⟨.t 148, none, .mv, [.l 5]⟩, ⟨.t 149, none, .call (N k_timer_Set_Timer), [.t 148, .c (.i .i64 0), .c (.i .i64 1)]⟩, ⟨.t 147, none, .mv, [.t 149]⟩, ⟨.t 150, none, .ext 0, [.t 147]⟩, ⟨.t 151, none, .ext 1, [.t 147]⟩, ⟨.t 152, none, .ext 2, [.t 147]⟩, ⟨.t 18, none, .mv, [.t 150]⟩, ⟨.t 19, none, .mv, [.t 151]⟩, ⟨.l 20, none, .mv, [.t 152]⟩]) (.seq (.reg [⟨.t 153, none, .mv, [.l 20]⟩, ⟨.t 154, none, .bin .eql, [.t 153, .c (.i .i64 0)]⟩, ⟨.t 155, none, .mv, [.l 17]⟩, ⟨.t 156, none, .bin .lss, [.t 155, .c (.i .i64 64)]⟩, ⟨.t 157, none, .eq true .bool, [.t 154, .t 156]⟩, ⟨.t 158, none, .mv, [.t 157]⟩, ⟨.t 159, some (.t 158, false), .mv, [.l 20]⟩, ⟨.t 160, some (.t 158, false), .bin .neq, [.t 159, .c (.i .i64 0)]⟩, ⟨.t 161, some (.t 158, false), .mv, [.t 160]⟩, ⟨.t 162, some (.t 161, true), .mv, [.l 20]⟩, ⟨.t 163, some (.t 161, true), .bin .neq, [.t 162, .c (.i .i64 3)]⟩, ⟨.t 164, some (.t 158, false), .pick, [.t 161, .t 163, .c (.b false)]⟩, ⟨.t 165, none, .pick, [.t 158, .c (.b true), .t 164]⟩]) (.cond (.t 165) (.seq (.reg [⟨.l 4, none, .mv, [.c (.b false)]⟩]) .ret) .skip)))) (.reg [⟨.t 145, none, .mv, [.l 17]⟩, ⟨.t 146, none, .bin .add, [.t 145, .c (.i .i64 1)]⟩, ⟨.l 17, none, .mv, [.t 146]⟩])))
noncomputable def D_tarpaulinlaw13_TimerMany_14 (F : Nat → Option AFn) (N : Nat → Nat) (Q : AV → Lg → Prop) (k1 : Env → Lg → Prop) (l : Env) (L : Lg) : Prop :=
 wpOp F (.bin .add) [(.i .i64 64), (l 1)] L fun v1 L1 =>
 wpOp F (.bin .lss) [(l 17), v1] L1 fun v2 L2 =>
 condW v2
 (CallL F (N k_timer_Set_Timer) [(l 5), (.i .i64 0), (.i .i64 1)] L2 fun v3 L3 =>
 wpOp F (.ext 0) [v3] L3 fun v4 L4 =>
 wpOp F (.ext 1) [v3] L4 fun v5 L5 =>
 wpOp F (.ext 2) [v3] L5 fun v6 L6 =>
 wpOp F (.bin .eql) [v6, (.i .i64 0)] L6 fun v7 L7 =>
 wpOp F (.bin .lss) [(l 17), (.i .i64 64)] L7 fun v8 L8 =>
 wpOp F (.eq true .bool) [v7, v8] L8 fun v9 L9 =>
 gdOp F v9 false .mv [v6] L9 fun v10 L10 =>
 gdOp F v9 false (.bin .neq) [v10, (.i .i64 0)] L10 fun v11 L11 =>
 gdOp F v9 false .mv [v11] L11 fun v12 L12 =>
 gdOp F v12 true .mv [v6] L12 fun v13 L13 =>
 gdOp F v12 true (.bin .neq) [v13, (.i .i64 3)] L13 fun v14 L14 =>
 gdOp F v9 false .pick [v12, v14, (.b false)] L14 fun v15 L15 =>
 wpOp F .pick [v9, (.b true), v15] L15 fun v16 L16 =>
 condW v16
 (fin1 (some (.b false)) Q L16)
 (wpOp F (.bin .add) [(l 17), (.i .i64 1)] L16 fun v17 L17 =>
 k1 (Env.put (Env.put l 20 v6) 17 v17) L17))
 (D_tarpaulinlaw13_TimerMany_10 F N Q (l 5) (l 16) L2)
theorem e_tarpaulinlaw13_TimerMany_14 (F : Nat → Option AFn) (N : Nat → Nat) (Q : AV → Lg → Prop) (k1 : Env → Lg → Prop) (l t : Env) (L : Lg) : wp F (q_tarpaulinlaw13_TimerMany_14 N) l t L (fun (l _ : Env) (L : Lg) => k1 l L) (fun (j : Nat) (l t : Env) (L : Lg) => bif Nat.beq j 4 then (fun (l t : Env) (L : Lg) => D_tarpaulinlaw13_TimerMany_10 F N Q (l 5) (l 16) L) l t L else (fun _ _ _ _ => False) j l t L) (fin [.tmp (.l 4)] Q) = D_tarpaulinlaw13_TimerMany_14 F N Q k1 l L := by kernel_rfl
def q_tarpaulinlaw13_TimerMany_13 (N : Nat → Nat) : ACode := (.loop (q_tarpaulinlaw13_TimerMany_14 N))
noncomputable def D_tarpaulinlaw13_TimerMany_13 (F : Nat → Option AFn) (N : Nat → Nat) (Q : AV → Lg → Prop) (l : Env) (L : Lg) : Prop :=
 loopW (fun l t L k1 => D_tarpaulinlaw13_TimerMany_14 F N Q k1 l L) l L
theorem e_tarpaulinlaw13_TimerMany_13 (F : Nat → Option AFn) (N : Nat → Nat) (Q : AV → Lg → Prop) (l t : Env) (L : Lg) : wp F (q_tarpaulinlaw13_TimerMany_13 N) l t L (fun (l t : Env) (L : Lg) => D_tarpaulinlaw13_TimerMany_10 F N Q (l 5) (l 16) L) (fun (j : Nat) (l t : Env) (L : Lg) => bif Nat.beq j 4 then (fun (l t : Env) (L : Lg) => D_tarpaulinlaw13_TimerMany_10 F N Q (l 5) (l 16) L) l t L else (fun _ _ _ _ => False) j l t L) (fin [.tmp (.l 4)] Q) = D_tarpaulinlaw13_TimerMany_13 F N Q l L := Eq.trans (wpq_loop F (q_tarpaulinlaw13_TimerMany_14 N) l t L (fun (l t : Env) (L : Lg) => D_tarpaulinlaw13_TimerMany_10 F N Q (l 5) (l 16) L) (fun (j : Nat) (l t : Env) (L : Lg) => bif Nat.beq j 4 then (fun (l t : Env) (L : Lg) => D_tarpaulinlaw13_TimerMany_10 F N Q (l 5) (l 16) L) l t L else (fun _ _ _ _ => False) j l t L) (fin [.tmp (.l 4)] Q)) (Eq.trans (congrArg (fun B => loopW B l L) (funext fun l => funext fun t => funext fun L => funext fun k1 => e_tarpaulinlaw13_TimerMany_14 F N Q k1 l t L)) (by kernel_rfl))
def q_tarpaulinlaw13_TimerMany_12 (N : Nat → Nat) : ACode := (.block 4 (q_tarpaulinlaw13_TimerMany_13 N))
theorem e_tarpaulinlaw13_TimerMany_12 (F : Nat → Option AFn) (N : Nat → Nat) (Q : AV → Lg → Prop) (l t : Env) (L : Lg) : wp F (q_tarpaulinlaw13_TimerMany_12 N) l t L (fun (l t : Env) (L : Lg) => D_tarpaulinlaw13_TimerMany_10 F N Q (l 5) (l 16) L) (fun _ _ _ _ => False) (fin [.tmp (.l 4)] Q) = D_tarpaulinlaw13_TimerMany_13 F N Q l L := Eq.trans (wpq_block F 4 (q_tarpaulinlaw13_TimerMany_13 N) l t L (fun (l t : Env) (L : Lg) => D_tarpaulinlaw13_TimerMany_10 F N Q (l 5) (l 16) L) (fun _ _ _ _ => False) (fin [.tmp (.l 4)] Q)) (e_tarpaulinlaw13_TimerMany_13 F N Q l t L)
def q_tarpaulinlaw13_TimerMany_11a (N : Nat → Nat) : ACode := (.reg [⟨.t 139, none, .mv, [.l 0]⟩, ⟨.t 140, none, .lenSl, [.t 139]⟩, ⟨.l 17, none, .mv, [.t 140]⟩])
def q_tarpaulinlaw13_TimerMany_11 (N : Nat → Nat) : ACode := (.seq (q_tarpaulinlaw13_TimerMany_11a N) (q_tarpaulinlaw13_TimerMany_12 N))
noncomputable def D_tarpaulinlaw13_TimerMany_11 (F : Nat → Option AFn) (N : Nat → Nat) (Q : AV → Lg → Prop) (l : Env) (L : Lg) : Prop :=
 wpOp F .lenSl [(l 0)] L fun v1 L1 =>
 D_tarpaulinlaw13_TimerMany_13 F N Q (Env.put l 17 v1) L1
theorem e_tarpaulinlaw13_TimerMany_11 (F : Nat → Option AFn) (N : Nat → Nat) (Q : AV → Lg → Prop) (l t : Env) (L : Lg) : wp F (q_tarpaulinlaw13_TimerMany_11 N) l t L (fun (l t : Env) (L : Lg) => D_tarpaulinlaw13_TimerMany_10 F N Q (l 5) (l 16) L) (fun _ _ _ _ => False) (fin [.tmp (.l 4)] Q) = D_tarpaulinlaw13_TimerMany_11 F N Q l L := Eq.trans (wpq_seq F (q_tarpaulinlaw13_TimerMany_11a N) (q_tarpaulinlaw13_TimerMany_12 N) l t L (fun (l t : Env) (L : Lg) => D_tarpaulinlaw13_TimerMany_10 F N Q (l 5) (l 16) L) (fun _ _ _ _ => False) (fin [.tmp (.l 4)] Q)) (Eq.trans (congrArg (fun Z : Kn => wp F (q_tarpaulinlaw13_TimerMany_11a N) l t L Z (fun _ _ _ _ => False) (fin [.tmp (.l 4)] Q)) (funext fun l => funext fun t => funext fun L => e_tarpaulinlaw13_TimerMany_12 F N Q l t L)) (by kernel_rfl))
def q_tarpaulinlaw13_TimerMany_9 (N : Nat → Nat) : ACode := (.seq (q_tarpaulinlaw13_TimerMany_11 N) (q_tarpaulinlaw13_TimerMany_10 N))
theorem e_tarpaulinlaw13_TimerMany_9 (F : Nat → Option AFn) (N : Nat → Nat) (Q : AV → Lg → Prop) (l t : Env) (L : Lg) : wp F (q_tarpaulinlaw13_TimerMany_9 N) l t L (fin [.tmp (.l 4)] Q) (fun _ _ _ _ => False) (fin [.tmp (.l 4)] Q) = D_tarpaulinlaw13_TimerMany_11 F N Q l L := Eq.trans (wpq_seq F (q_tarpaulinlaw13_TimerMany_11 N) (q_tarpaulinlaw13_TimerMany_10 N) l t L (fin [.tmp (.l 4)] Q) (fun _ _ _ _ => False) (fin [.tmp (.l 4)] Q)) (Eq.trans (congrArg (fun Z : Kn => wp F (q_tarpaulinlaw13_TimerMany_11 N) l t L Z (fun _ _ _ _ => False) (fin [.tmp (.l 4)] Q)) (funext fun l => funext fun t => funext fun L => e_tarpaulinlaw13_TimerMany_10 F N Q l t L)) (e_tarpaulinlaw13_TimerMany_11 F N Q l t L))
def q_tarpaulinlaw13_TimerMany_8a (N : Nat → Nat) : ACode := (.reg [⟨.t 135, none, .mv, [.l 5]⟩, ⟨.t 136, none, .call (N k_timer_Set_Fire), [.t 135, .c (.i .i64 4611686018427387904)]⟩, ⟨.t 134, none, .mv, [.t 136]⟩, ⟨.t 137, none, .ext 0, [.t 134]⟩, ⟨.t 138, none, .ext 1, [.t 134]⟩, ⟨.t 15, none, .alloc [.i .i64 0, .i .i64 0, .i .i64 0, .i .i64 0, .i .i64 0, .sl none 0 0 0, .b false], []⟩, ⟨.no, none, .st 7, [.t 15, .t 137]⟩, ⟨.l 16, none, .mv, [.t 138]⟩])
def q_tarpaulinlaw13_TimerMany_8 (N : Nat → Nat) : ACode := (.seq (q_tarpaulinlaw13_TimerMany_8a N) (q_tarpaulinlaw13_TimerMany_9 N))
noncomputable def D_tarpaulinlaw13_TimerMany_8 (F : Nat → Option AFn) (N : Nat → Nat) (Q : AV → Lg → Prop) (l : Env) (L : Lg) : Prop :=
 CallL F (N k_timer_Set_Fire) [(l 5), (.i .i64 4611686018427387904)] L fun v1 L1 =>
 wpOp F (.ext 0) [v1] L1 fun v2 L2 =>
 wpOp F (.ext 1) [v1] L2 fun v3 L3 =>
 wpOp F (.alloc [.i .i64 0, .i .i64 0, .i .i64 0, .i .i64 0, .i .i64 0, .sl none 0 0 0, .b false]) [] L3 fun v4 L4 =>
 wpOp F (.st 7) [v4, v2] L4 fun _ L5 =>
 D_tarpaulinlaw13_TimerMany_11 F N Q (Env.put l 16 v3) L5
theorem e_tarpaulinlaw13_TimerMany_8 (F : Nat → Option AFn) (N : Nat → Nat) (Q : AV → Lg → Prop) (l t : Env) (L : Lg) : wp F (q_tarpaulinlaw13_TimerMany_8 N) l t L (fin [.tmp (.l 4)] Q) (fun _ _ _ _ => False) (fin [.tmp (.l 4)] Q) = D_tarpaulinlaw13_TimerMany_8 F N Q l L := Eq.trans (wpq_seq F (q_tarpaulinlaw13_TimerMany_8a N) (q_tarpaulinlaw13_TimerMany_9 N) l t L (fin [.tmp (.l 4)] Q) (fun _ _ _ _ => False) (fin [.tmp (.l 4)] Q)) (Eq.trans (congrArg (fun Z : Kn => wp F (q_tarpaulinlaw13_TimerMany_8a N) l t L Z (fun _ _ _ _ => False) (fin [.tmp (.l 4)] Q)) (funext fun l => funext fun t => funext fun L => e_tarpaulinlaw13_TimerMany_9 F N Q l t L)) (by kernel_rfl))
def q_tarpaulinlaw13_TimerMany_20 (N : Nat → Nat) : ACode := (.reg [⟨.t 67, none, .mv, [.l 12]⟩, ⟨.t 68, none, .bin .add, [.t 67, .c (.i .i64 1)]⟩, ⟨.l 12, none, .mv, [.t 68]⟩])
noncomputable def D_tarpaulinlaw13_TimerMany_20 (F : Nat → Option AFn) (N : Nat → Nat) (Q : AV → Lg → Prop) (k1 : Env → Lg → Prop) (l : Env) (L : Lg) : Prop :=
 wpOp F (.bin .add) [(l 12), (.i .i64 1)] L fun v1 L1 =>
 k1 (Env.put l 12 v1) L1
theorem e_tarpaulinlaw13_TimerMany_20 (F : Nat → Option AFn) (N : Nat → Nat) (Q : AV → Lg → Prop) (k1 : Env → Lg → Prop) (l t : Env) (L : Lg) : wp F (q_tarpaulinlaw13_TimerMany_20 N) l t L (fun (l _ : Env) (L : Lg) => k1 l L) (fun (j : Nat) (l t : Env) (L : Lg) => bif Nat.beq j 2 then (fun (l t : Env) (L : Lg) => D_tarpaulinlaw13_TimerMany_8 F N Q l L) l t L else (fun _ _ _ _ => False) j l t L) (fin [.tmp (.l 4)] Q) = D_tarpaulinlaw13_TimerMany_20 F N Q k1 l L := by kernel_rfl
def q_tarpaulinlaw13_TimerMany_24 (N : Nat → Nat) : ACode := (.reg [⟨.t 130, none, .fad 2, [.l 13]⟩, ⟨.t 131, none, .ld none, [.t 130]⟩, ⟨.t 132, none, .fad 0, [.l 13]⟩, ⟨.t 133, none, .ld none, [.t 132]⟩, ⟨.l 10, none, .mv, [.t 131]⟩, ⟨.l 11, none, .mv, [.t 133]⟩])
noncomputable def D_tarpaulinlaw13_TimerMany_24 (F : Nat → Option AFn) (N : Nat → Nat) (Q : AV → Lg → Prop) (k1 : Env → Lg → Prop) (l : Env) (L : Lg) : Prop :=
 wpOp F (.fad 2) [(l 13)] L fun v1 L1 =>
 wpOp F (.ld none) [v1] L1 fun v2 L2 =>
 wpOp F (.fad 0) [(l 13)] L2 fun v3 L3 =>
 wpOp F (.ld none) [v3] L3 fun v4 L4 =>
 D_tarpaulinlaw13_TimerMany_20 F N Q k1 (Env.put (Env.put l 10 v2) 11 v4) L4
theorem e_tarpaulinlaw13_TimerMany_24 (F : Nat → Option AFn) (N : Nat → Nat) (Q : AV → Lg → Prop) (k1 : Env → Lg → Prop) (l t : Env) (L : Lg) : wp F (q_tarpaulinlaw13_TimerMany_24 N) l t L (fun (l t : Env) (L : Lg) => D_tarpaulinlaw13_TimerMany_20 F N Q k1 l L) (fun (j : Nat) (l t : Env) (L : Lg) => bif Nat.beq j 3 then (fun (l t : Env) (L : Lg) => D_tarpaulinlaw13_TimerMany_20 F N Q k1 l L) l t L else (fun (j : Nat) (l t : Env) (L : Lg) => bif Nat.beq j 2 then (fun (l t : Env) (L : Lg) => D_tarpaulinlaw13_TimerMany_8 F N Q l L) l t L else (fun _ _ _ _ => False) j l t L) j l t L) (fin [.tmp (.l 4)] Q) = D_tarpaulinlaw13_TimerMany_24 F N Q k1 l L := by kernel_rfl
def q_tarpaulinlaw13_TimerMany_26 (N : Nat → Nat) : ACode := (.cond (.t 129) (.seq (.reg [⟨.l 4, none, .mv, [.c (.b false)]⟩]) .ret) .skip)
noncomputable def D_tarpaulinlaw13_TimerMany_26 (F : Nat → Option AFn) (N : Nat → Nat) (Q : AV → Lg → Prop) (k1 : Env → Lg → Prop) (l : Env) (t129 : AV) (L : Lg) : Prop :=
 condW t129
 (fin1 (some (.b false)) Q L)
 (D_tarpaulinlaw13_TimerMany_24 F N Q k1 l L)
theorem e_tarpaulinlaw13_TimerMany_26 (F : Nat → Option AFn) (N : Nat → Nat) (Q : AV → Lg → Prop) (k1 : Env → Lg → Prop) (l t : Env) (L : Lg) : wp F (q_tarpaulinlaw13_TimerMany_26 N) l t L (fun (l t : Env) (L : Lg) => D_tarpaulinlaw13_TimerMany_24 F N Q k1 l L) (fun (j : Nat) (l t : Env) (L : Lg) => bif Nat.beq j 3 then (fun (l t : Env) (L : Lg) => D_tarpaulinlaw13_TimerMany_20 F N Q k1 l L) l t L else (fun (j : Nat) (l t : Env) (L : Lg) => bif Nat.beq j 2 then (fun (l t : Env) (L : Lg) => D_tarpaulinlaw13_TimerMany_8 F N Q l L) l t L else (fun _ _ _ _ => False) j l t L) j l t L) (fin [.tmp (.l 4)] Q) = D_tarpaulinlaw13_TimerMany_26 F N Q k1 l (t 129) L := by kernel_rfl
def q_tarpaulinlaw13_TimerMany_25a (N : Nat → Nat) : ACode := (.regD [⟨.t 74, none, .mv, [.l 14]⟩, ⟨.t 75, none, .un .not, [.t 74]⟩, ⟨.t 76, none, .mv, [.t 75]⟩, ⟨.t 77, some (.t 76, false), .fad 1, [.l 13]⟩, ⟨.t 78, some (.t 76, false), .ld none, [.t 77]⟩, ⟨.t 79, some (.t 76, false), .bin .neq, [.t 78, .c (.i .i64 3)]⟩, ⟨.t 80, none, .pick, [.t 76, .c (.b true), .t 79]⟩, ⟨.t 81, none, .mv, [.t 80]⟩, ⟨.t 82, some (.t 81, false), .fad 4, [.l 13]⟩, ⟨.t 83, some (.t 81, false), .ld none, [.t 82]⟩, ⟨.t 84, some (.t 81, false), .fad 0, [.l 13]⟩, ⟨.t 85, some (.t 81, false), .ld none, [.t 84]⟩, ⟨.t 86, some (.t 81, false), .bin .neq, [.t 83, .t 85]⟩, ⟨.t 87, none, .pick, [.t 81, .c (.b true), .t 86]⟩, ⟨.t 88, none, .mv, [.t 87]⟩, ⟨.t 89, some (.t 88, false), .fad 0, [.l 13]⟩, ⟨.t 90, some (.t 88, false), .ld none, [.t 89]⟩, ⟨.t 91, some (.t 88, false), .bin .lss, [.t 90, .c (.i .i64 0)]⟩, ⟨.t 92, none, .pick, [.t 88, .c (.b true), .t 91]⟩, ⟨.t 93, none, .mv, [.t 92]⟩, ⟨.t 94, some (.t 93, false), .fad 0, [.l 13]⟩, ⟨.t 95, some (.t 93, false), .ld none, [.t 94]⟩, ⟨.t 96, some (.t 93, false), .mv, [.l 0]⟩, ⟨.t 97, some (.t 93, false), .lenSl, [.t 96]⟩, ⟨.t 98, some (.t 93, false), .bin .geq, [.t 95, .t 97]⟩, ⟨.t 99, none, .pick, [.t 93, .c (.b true), .t 98]⟩, ⟨.t 100, none, .mv, [.t 99]⟩, ⟨.t 101, some (.t 100, false), .fad 2, [.l 13]⟩, ⟨.t 102, some (.t 100, false), .ld none, [.t 101]⟩, ⟨.t 103, some (.t 100, false), .mv, [.l 0]⟩, ⟨.t 104, some (.t 100, false), .fad 0, [.l 13]⟩, ⟨.t 105, some (.t 100, false), .ld none, [.t 104]⟩, ⟨.t 106, some (.t 100, false), .iad 1, [.t 103, .t 105]⟩, ⟨.t 107, some (.t 100, false), .ld none, [.t 106]⟩, ⟨.t 108, some (.t 100, false), .call (N k_tarpaulinalike_Round), [.t 107, .c (.i .i64 100)]⟩, ⟨.t 109, some (.t 100, false), .bin .add, [.c (.i .i64 10), .t 108]⟩, ⟨.t 110, some (.t 100, false), .bin .neq, [.t 102, .t 109]⟩, ⟨.t 111, none, .pick, [.t 100, .c (.b true), .t 110]⟩, ⟨.t 112, none, .mv, [.t 111]⟩, ⟨.t 113, some (.t 112, false), .fad 2, [.l 13]⟩, ⟨.t 114, some (.t 112, false), .ld none, [.t 113]⟩, ⟨.t 115, some (.t 112, false), .mv, [.l 10]⟩, ⟨.t 116, some (.t 112, false), .bin .lss, [.t 114, .t 115]⟩, ⟨.t 117, none, .pick, [.t 112, .c (.b true), .t 116]⟩, ⟨.t 118, none, .mv, [.t 117]⟩, ⟨.t 119, some (.t 118, false), .fad 2, [.l 13]⟩, ⟨.t 120, some (.t 118, false), .ld none, [.t 119]⟩, ⟨.t 121, some (.t 118, false), .mv, [.l 10]⟩, ⟨.t 122, some (.t 118, false), .bin .eql, [.t 120, .t 121]⟩, ⟨.t 123, some (.t 118, false), .mv, [.t 122]⟩, ⟨.t 124, some (.t 123, true), .fad 0, [.l 13]⟩, ⟨.t 125, some (.t 123, true), .ld none, [.t 124]⟩, ⟨.t 126, some (.t 123, true), .mv, [.l 11]⟩, ⟨.t 127, some (.t 123, true), .bin .lss, [.t 125, .t 126]⟩, ⟨.t 128, some (.t 118, false), .pick, [.t 123, .t 127, .c (.b false)]⟩, ⟨.t 129, none, .pick, [.t 118, .c (.b true), .t 128]⟩] [(28, 35)])
def q_tarpaulinlaw13_TimerMany_25 (N : Nat → Nat) : ACode := (.seq (q_tarpaulinlaw13_TimerMany_25a N) (q_tarpaulinlaw13_TimerMany_26 N))
noncomputable def D_tarpaulinlaw13_TimerMany_25 (F : Nat → Option AFn) (N : Nat → Nat) (Q : AV → Lg → Prop) (k1 : Env → Lg → Prop) (l : Env) (L : Lg) : Prop :=
 wpOp F (.un .not) [(l 14)] L fun v1 L1 =>
 gdOp F v1 false (.fad 1) [(l 13)] L1 fun v2 L2 =>
 gdOp F v1 false (.ld none) [v2] L2 fun v3 L3 =>
 gdOp F v1 false (.bin .neq) [v3, (.i .i64 3)] L3 fun v4 L4 =>
 wpOp F .pick [v1, (.b true), v4] L4 fun v5 L5 =>
 gdOp F v5 false (.fad 4) [(l 13)] L5 fun v6 L6 =>
 gdOp F v5 false (.ld none) [v6] L6 fun v7 L7 =>
 gdOp F v5 false (.fad 0) [(l 13)] L7 fun v8 L8 =>
 gdOp F v5 false (.ld none) [v8] L8 fun v9 L9 =>
 gdOp F v5 false (.bin .neq) [v7, v9] L9 fun v10 L10 =>
 wpOp F .pick [v5, (.b true), v10] L10 fun v11 L11 =>
 gdOp F v11 false (.fad 0) [(l 13)] L11 fun v12 L12 =>
 gdOp F v11 false (.ld none) [v12] L12 fun v13 L13 =>
 gdOp F v11 false (.bin .lss) [v13, (.i .i64 0)] L13 fun v14 L14 =>
 wpOp F .pick [v11, (.b true), v14] L14 fun v15 L15 =>
 gdOp F v15 false (.fad 0) [(l 13)] L15 fun v16 L16 =>
 gdOp F v15 false (.ld none) [v16] L16 fun v17 L17 =>
 gdOp F v15 false .mv [(l 0)] L17 fun v18 L18 =>
 gdOp F v15 false .lenSl [v18] L18 fun v19 L19 =>
 gdOp F v15 false (.bin .geq) [v17, v19] L19 fun v20 L20 =>
 wpOp F .pick [v15, (.b true), v20] L20 fun v21 L21 =>
 gdOp F v21 false (.fad 2) [(l 13)] L21 fun v22 L22 =>
 gdOp F v21 false (.ld none) [v22] L22 fun v23 L23 =>
 gdOp F v21 false .mv [(l 0)] L23 fun v24 L24 =>
 gdOp F v21 false (.fad 0) [(l 13)] L24 fun v25 L25 =>
 gdOp F v21 false (.ld none) [v25] L25 fun v26 L26 =>
 gdOp F v21 false (.iad 1) [v24, v26] L26 fun v27 L27 =>
 gdOp F v21 false (.ld none) [v27] L27 fun v28 L28 =>
 gdOp F v21 false (.call (N k_tarpaulinalike_Round)) [v28, (.i .i64 100)] L28 fun v29 L29 =>
 gdOp F v21 false (.bin .add) [(.i .i64 10), v29] L29 fun v30 L30 =>
 gdOp F v21 false (.bin .neq) [v23, v30] L30 fun v31 L31 =>
 wpOp F .pick [v21, (.b true), v31] L31 fun v32 L32 =>
 gdOp F v32 false (.fad 2) [(l 13)] L32 fun v33 L33 =>
 gdOp F v32 false (.ld none) [v33] L33 fun v34 L34 =>
 gdOp F v32 false .mv [(l 10)] L34 fun v35 L35 =>
 gdOp F v32 false (.bin .lss) [v34, v35] L35 fun v36 L36 =>
 wpOp F .pick [v32, (.b true), v36] L36 fun v37 L37 =>
 gdOp F v37 false (.fad 2) [(l 13)] L37 fun v38 L38 =>
 gdOp F v37 false (.ld none) [v38] L38 fun v39 L39 =>
 gdOp F v37 false .mv [(l 10)] L39 fun v40 L40 =>
 gdOp F v37 false (.bin .eql) [v39, v40] L40 fun v41 L41 =>
 gdOp F v37 false .mv [v41] L41 fun v42 L42 =>
 gdOp F v42 true (.fad 0) [(l 13)] L42 fun v43 L43 =>
 gdOp F v42 true (.ld none) [v43] L43 fun v44 L44 =>
 gdOp F v42 true .mv [(l 11)] L44 fun v45 L45 =>
 gdOp F v42 true (.bin .lss) [v44, v45] L45 fun v46 L46 =>
 gdOp F v37 false .pick [v42, v46, (.b false)] L46 fun v47 L47 =>
 wpOp F .pick [v37, (.b true), v47] L47 fun v48 L48 =>
 (againG v21 false (againV (.ld none) [v22] L22 L29) ∧ True) ∧ (D_tarpaulinlaw13_TimerMany_26 F N Q k1 l v48 L48)
theorem e_tarpaulinlaw13_TimerMany_25 (F : Nat → Option AFn) (N : Nat → Nat) (Q : AV → Lg → Prop) (k1 : Env → Lg → Prop) (l t : Env) (L : Lg) : wp F (q_tarpaulinlaw13_TimerMany_25 N) l t L (fun (l t : Env) (L : Lg) => D_tarpaulinlaw13_TimerMany_24 F N Q k1 l L) (fun (j : Nat) (l t : Env) (L : Lg) => bif Nat.beq j 3 then (fun (l t : Env) (L : Lg) => D_tarpaulinlaw13_TimerMany_20 F N Q k1 l L) l t L else (fun (j : Nat) (l t : Env) (L : Lg) => bif Nat.beq j 2 then (fun (l t : Env) (L : Lg) => D_tarpaulinlaw13_TimerMany_8 F N Q l L) l t L else (fun _ _ _ _ => False) j l t L) j l t L) (fin [.tmp (.l 4)] Q) = D_tarpaulinlaw13_TimerMany_25 F N Q k1 l L := Eq.trans (wpq_seq F (q_tarpaulinlaw13_TimerMany_25a N) (q_tarpaulinlaw13_TimerMany_26 N) l t L (fun (l t : Env) (L : Lg) => D_tarpaulinlaw13_TimerMany_24 F N Q k1 l L) (fun (j : Nat) (l t : Env) (L : Lg) => bif Nat.beq j 3 then (fun (l t : Env) (L : Lg) => D_tarpaulinlaw13_TimerMany_20 F N Q k1 l L) l t L else (fun (j : Nat) (l t : Env) (L : Lg) => bif Nat.beq j 2 then (fun (l t : Env) (L : Lg) => D_tarpaulinlaw13_TimerMany_8 F N Q l L) l t L else (fun _ _ _ _ => False) j l t L) j l t L) (fin [.tmp (.l 4)] Q)) (Eq.trans (congrArg (fun Z : Kn => wp F (q_tarpaulinlaw13_TimerMany_25a N) l t L Z (fun (j : Nat) (l t : Env) (L : Lg) => bif Nat.beq j 3 then (fun (l t : Env) (L : Lg) => D_tarpaulinlaw13_TimerMany_20 F N Q k1 l L) l t L else (fun (j : Nat) (l t : Env) (L : Lg) => bif Nat.beq j 2 then (fun (l t : Env) (L : Lg) => D_tarpaulinlaw13_TimerMany_8 F N Q l L) l t L else (fun _ _ _ _ => False) j l t L) j l t L) (fin [.tmp (.l 4)] Q)) (funext fun l => funext fun t => funext fun L => e_tarpaulinlaw13_TimerMany_26 F N Q k1 l t L)) (by kernel_rfl))
def q_tarpaulinlaw13_TimerMany_23 (N : Nat → Nat) : ACode := (.seq (q_tarpaulinlaw13_TimerMany_25 N) (q_tarpaulinlaw13_TimerMany_24 N))
theorem e_tarpaulinlaw13_TimerMany_23 (F : Nat → Option AFn) (N : Nat → Nat) (Q : AV → Lg → Prop) (k1 : Env → Lg → Prop) (l t : Env) (L : Lg) : wp F (q_tarpaulinlaw13_TimerMany_23 N) l t L (fun (l t : Env) (L : Lg) => D_tarpaulinlaw13_TimerMany_20 F N Q k1 l L) (fun (j : Nat) (l t : Env) (L : Lg) => bif Nat.beq j 3 then (fun (l t : Env) (L : Lg) => D_tarpaulinlaw13_TimerMany_20 F N Q k1 l L) l t L else (fun (j : Nat) (l t : Env) (L : Lg) => bif Nat.beq j 2 then (fun (l t : Env) (L : Lg) => D_tarpaulinlaw13_TimerMany_8 F N Q l L) l t L else (fun _ _ _ _ => False) j l t L) j l t L) (fin [.tmp (.l 4)] Q) = D_tarpaulinlaw13_TimerMany_25 F N Q k1 l L := Eq.trans (wpq_seq F (q_tarpaulinlaw13_TimerMany_25 N) (q_tarpaulinlaw13_TimerMany_24 N) l t L (fun (l t : Env) (L : Lg) => D_tarpaulinlaw13_TimerMany_20 F N Q k1 l L) (fun (j : Nat) (l t : Env) (L : Lg) => bif Nat.beq j 3 then (fun (l t : Env) (L : Lg) => D_tarpaulinlaw13_TimerMany_20 F N Q k1 l L) l t L else (fun (j : Nat) (l t : Env) (L : Lg) => bif Nat.beq j 2 then (fun (l t : Env) (L : Lg) => D_tarpaulinlaw13_TimerMany_8 F N Q l L) l t L else (fun _ _ _ _ => False) j l t L) j l t L) (fin [.tmp (.l 4)] Q)) (Eq.trans (congrArg (fun Z : Kn => wp F (q_tarpaulinlaw13_TimerMany_25 N) l t L Z (fun (j : Nat) (l t : Env) (L : Lg) => bif Nat.beq j 3 then (fun (l t : Env) (L : Lg) => D_tarpaulinlaw13_TimerMany_20 F N Q k1 l L) l t L else (fun (j : Nat) (l t : Env) (L : Lg) => bif Nat.beq j 2 then (fun (l t : Env) (L : Lg) => D_tarpaulinlaw13_TimerMany_8 F N Q l L) l t L else (fun _ _ _ _ => False) j l t L) j l t L) (fin [.tmp (.l 4)] Q)) (funext fun l => funext fun t => funext fun L => e_tarpaulinlaw13_TimerMany_24 F N Q k1 l t L)) (e_tarpaulinlaw13_TimerMany_25 F N Q k1 l t L))
def q_tarpaulinlaw13_TimerMany_22a (N : Nat → Nat) : ACode := (.reg [⟨.t 70, none, .mv, [.l 5]⟩, ⟨.t 71, none, .call (N k_timer_Set_Fire), [.t 70, .c (.i .i64 200)]⟩, ⟨.t 69, none, .mv, [.t 71]⟩, ⟨.t 72, none, .ext 0, [.t 69]⟩, ⟨.t 73, none, .ext 1, [.t 69]⟩, ⟨.l 13, none, .alloc [.i .i64 0, .i .i64 0, .i .i64 0, .i .i64 0, .i .i64 0, .sl none 0 0 0, .b false], []⟩, ⟨.no, none, .st 7, [.l 13, .t 72]⟩, ⟨.l 14, none, .mv, [.t 73]⟩])
def q_tarpaulinlaw13_TimerMany_22 (N : Nat → Nat) : ACode := (.seq (q_tarpaulinlaw13_TimerMany_22a N) (q_tarpaulinlaw13_TimerMany_23 N))
noncomputable def D_tarpaulinlaw13_TimerMany_22 (F : Nat → Option AFn) (N : Nat → Nat) (Q : AV → Lg → Prop) (k1 : Env → Lg → Prop) (l : Env) (L : Lg) : Prop :=
 CallL F (N k_timer_Set_Fire) [(l 5), (.i .i64 200)] L fun v1 L1 =>
 wpOp F (.ext 0) [v1] L1 fun v2 L2 =>
 wpOp F (.ext 1) [v1] L2 fun v3 L3 =>
 wpOp F (.alloc [.i .i64 0, .i .i64 0, .i .i64 0, .i .i64 0, .i .i64 0, .sl none 0 0 0, .b false]) [] L3 fun v4 L4 =>
 wpOp F (.st 7) [v4, v2] L4 fun _ L5 =>
 D_tarpaulinlaw13_TimerMany_25 F N Q k1 (Env.put (Env.put l 13 v4) 14 v3) L5
theorem e_tarpaulinlaw13_TimerMany_22 (F : Nat → Option AFn) (N : Nat → Nat) (Q : AV → Lg → Prop) (k1 : Env → Lg → Prop) (l t : Env) (L : Lg) : wp F (q_tarpaulinlaw13_TimerMany_22 N) l t L (fun (l t : Env) (L : Lg) => D_tarpaulinlaw13_TimerMany_20 F N Q k1 l L) (fun (j : Nat) (l t : Env) (L : Lg) => bif Nat.beq j 3 then (fun (l t : Env) (L : Lg) => D_tarpaulinlaw13_TimerMany_20 F N Q k1 l L) l t L else (fun (j : Nat) (l t : Env) (L : Lg) => bif Nat.beq j 2 then (fun (l t : Env) (L : Lg) => D_tarpaulinlaw13_TimerMany_8 F N Q l L) l t L else (fun _ _ _ _ => False) j l t L) j l t L) (fin [.tmp (.l 4)] Q) = D_tarpaulinlaw13_TimerMany_22 F N Q k1 l L := Eq.trans (wpq_seq F (q_tarpaulinlaw13_TimerMany_22a N) (q_tarpaulinlaw13_TimerMany_23 N) l t L (fun (l t : Env) (L : Lg) => D_tarpaulinlaw13_TimerMany_20 F N Q k1 l L) (fun (j : Nat) (l t : Env) (L : Lg) => bif Nat.beq j 3 then (fun (l t : Env) (L : Lg) => D_tarpaulinlaw13_TimerMany_20 F N Q k1 l L) l t L else (fun (j : Nat) (l t : Env) (L : Lg) => bif Nat.beq j 2 then (fun (l t : Env) (L : Lg) => D_tarpaulinlaw13_TimerMany_8 F N Q l L) l t L else (fun _ _ _ _ => False) j l t L) j l t L) (fin [.tmp (.l 4)] Q)) (Eq.trans (congrArg (fun Z : Kn => wp F (q_tarpaulinlaw13_TimerMany_22a N) l t L Z (fun (j : Nat) (l t : Env) (L : Lg) => bif Nat.beq j 3 then (fun (l t : Env) (L : Lg) => D_tarpaulinlaw13_TimerMany_20 F N Q k1 l L) l t L else (fun (j : Nat) (l t : Env) (L : Lg) => bif Nat.beq j 2 then (fun (l t : Env) (L : Lg) => D_tarpaulinlaw13_TimerMany_8 F N Q l L) l t L else (fun _ _ _ _ => False) j l t L) j l t L) (fin [.tmp (.l 4)] Q)) (funext fun l => funext fun t => funext fun L => e_tarpaulinlaw13_TimerMany_23 F N Q k1 l t L)) (by kernel_rfl))
def q_tarpaulinlaw13_TimerMany_21 (N : Nat → Nat) : ACode := (.block 3 (q_tarpaulinlaw13_TimerMany_22 N))
theorem e_tarpaulinlaw13_TimerMany_21 (F : Nat → Option AFn) (N : Nat → Nat) (Q : AV → Lg → Prop) (k1 : Env → Lg → Prop) (l t : Env) (L : Lg) : wp F (q_tarpaulinlaw13_TimerMany_21 N) l t L (fun (l t : Env) (L : Lg) => D_tarpaulinlaw13_TimerMany_20 F N Q k1 l L) (fun (j : Nat) (l t : Env) (L : Lg) => bif Nat.beq j 2 then (fun (l t : Env) (L : Lg) => D_tarpaulinlaw13_TimerMany_8 F N Q l L) l t L else (fun _ _ _ _ => False) j l t L) (fin [.tmp (.l 4)] Q) = D_tarpaulinlaw13_TimerMany_22 F N Q k1 l L := Eq.trans (wpq_block F 3 (q_tarpaulinlaw13_TimerMany_22 N) l t L (fun (l t : Env) (L : Lg) => D_tarpaulinlaw13_TimerMany_20 F N Q k1 l L) (fun (j : Nat) (l t : Env) (L : Lg) => bif Nat.beq j 2 then (fun (l t : Env) (L : Lg) => D_tarpaulinlaw13_TimerMany_8 F N Q l L) l t L else (fun _ _ _ _ => False) j l t L) (fin [.tmp (.l 4)] Q)) (e_tarpaulinlaw13_TimerMany_22 F N Q k1 l t L)
def q_tarpaulinlaw13_TimerMany_19 (N : Nat → Nat) : ACode := (.seq (q_tarpaulinlaw13_TimerMany_21 N) (q_tarpaulinlaw13_TimerMany_20 N))
theorem e_tarpaulinlaw13_TimerMany_19 (F : Nat → Option AFn) (N : Nat → Nat) (Q : AV → Lg → Prop) (k1 : Env → Lg → Prop) (l t : Env) (L : Lg) : wp F (q_tarpaulinlaw13_TimerMany_19 N) l t L (fun (l _ : Env) (L : Lg) => k1 l L) (fun (j : Nat) (l t : Env) (L : Lg) => bif Nat.beq j 2 then (fun (l t : Env) (L : Lg) => D_tarpaulinlaw13_TimerMany_8 F N Q l L) l t L else (fun _ _ _ _ => False) j l t L) (fin [.tmp (.l 4)] Q) = D_tarpaulinlaw13_TimerMany_22 F N Q k1 l L := Eq.trans (wpq_seq F (q_tarpaulinlaw13_TimerMany_21 N) (q_tarpaulinlaw13_TimerMany_20 N) l t L (fun (l _ : Env) (L : Lg) => k1 l L) (fun (j : Nat) (l t : Env) (L : Lg) => bif Nat.beq j 2 then (fun (l t : Env) (L : Lg) => D_tarpaulinlaw13_TimerMany_8 F N Q l L) l t L else (fun _ _ _ _ => False) j l t L) (fin [.tmp (.l 4)] Q)) (Eq.trans (congrArg (fun Z : Kn => wp F (q_tarpaulinlaw13_TimerMany_21 N) l t L Z (fun (j : Nat) (l t : Env) (L : Lg) => bif Nat.beq j 2 then (fun (l t : Env) (L : Lg) => D_tarpaulinlaw13_TimerMany_8 F N Q l L) l t L else (fun _ _ _ _ => False) j l t L) (fin [.tmp (.l 4)] Q)) (funext fun l => funext fun t => funext fun L => e_tarpaulinlaw13_TimerMany_20 F N Q k1 l t L)) (e_tarpaulinlaw13_TimerMany_21 F N Q k1 l t L))
def q_tarpaulinlaw13_TimerMany_18a (N : Nat → Nat) : ACode := (.seq (.reg [⟨.t 63, none, .mv, [.l 12]⟩, ⟨.t 64, none, .mv, [.l 0]⟩, ⟨.t 65, none, .lenSl, [.t 64]⟩, ⟨.t 66, none, .bin .lss, [.t 63, .t 65]⟩]) (.cond (.t 66) .skip (.exit 2)))
def q_tarpaulinlaw13_TimerMany_18 (N : Nat → Nat) : ACode := (.seq (q_tarpaulinlaw13_TimerMany_18a N) (q_tarpaulinlaw13_TimerMany_19 N))
noncomputable def D_tarpaulinlaw13_TimerMany_18 (F : Nat → Option AFn) (N : Nat → Nat) (Q : AV → Lg → Prop) (k1 : Env → Lg → Prop) (l : Env) (L : Lg) : Prop :=
 wpOp F .lenSl [(l 0)] L fun v1 L1 =>
 wpOp F (.bin .lss) [(l 12), v1] L1 fun v2 L2 =>
 condW v2
 (D_tarpaulinlaw13_TimerMany_22 F N Q k1 l L2)
 (D_tarpaulinlaw13_TimerMany_8 F N Q l L2)
theorem e_tarpaulinlaw13_TimerMany_18 (F : Nat → Option AFn) (N : Nat → Nat) (Q : AV → Lg → Prop) (k1 : Env → Lg → Prop) (l t : Env) (L : Lg) : wp F (q_tarpaulinlaw13_TimerMany_18 N) l t L (fun (l _ : Env) (L : Lg) => k1 l L) (fun (j : Nat) (l t : Env) (L : Lg) => bif Nat.beq j 2 then (fun (l t : Env) (L : Lg) => D_tarpaulinlaw13_TimerMany_8 F N Q l L) l t L else (fun _ _ _ _ => False) j l t L) (fin [.tmp (.l 4)] Q) = D_tarpaulinlaw13_TimerMany_18 F N Q k1 l L := Eq.trans (wpq_seq F (q_tarpaulinlaw13_TimerMany_18a N) (q_tarpaulinlaw13_TimerMany_19 N) l t L (fun (l _ : Env) (L : Lg) => k1 l L) (fun (j : Nat) (l t : Env) (L : Lg) => bif Nat.beq j 2 then (fun (l t : Env) (L : Lg) => D_tarpaulinlaw13_TimerMany_8 F N Q l L) l t L else (fun _ _ _ _ => False) j l t L) (fin [.tmp (.l 4)] Q)) (Eq.trans (congrArg (fun Z : Kn => wp F (q_tarpaulinlaw13_TimerMany_18a N) l t L Z (fun (j : Nat) (l t : Env) (L : Lg) => bif Nat.beq j 2 then (fun (l t : Env) (L : Lg) => D_tarpaulinlaw13_TimerMany_8 F N Q l L) l t L else (fun _ _ _ _ => False) j l t L) (fin [.tmp (.l 4)] Q)) (funext fun l => funext fun t => funext fun L => e_tarpaulinlaw13_TimerMany_19 F N Q k1 l t L)) (by kernel_rfl))
def q_tarpaulinlaw13_TimerMany_17 (N : Nat → Nat) : ACode := (.loop (q_tarpaulinlaw13_TimerMany_18 N))
noncomputable def D_tarpaulinlaw13_TimerMany_17 (F : Nat → Option AFn) (N : Nat → Nat) (Q : AV → Lg → Prop) (l : Env) (L : Lg) : Prop :=
 loopW (fun l t L k1 => D_tarpaulinlaw13_TimerMany_18 F N Q k1 l L) l L
theorem e_tarpaulinlaw13_TimerMany_17 (F : Nat → Option AFn) (N : Nat → Nat) (Q : AV → Lg → Prop) (l t : Env) (L : Lg) : wp F (q_tarpaulinlaw13_TimerMany_17 N) l t L (fun (l t : Env) (L : Lg) => D_tarpaulinlaw13_TimerMany_8 F N Q l L) (fun (j : Nat) (l t : Env) (L : Lg) => bif Nat.beq j 2 then (fun (l t : Env) (L : Lg) => D_tarpaulinlaw13_TimerMany_8 F N Q l L) l t L else (fun _ _ _ _ => False) j l t L) (fin [.tmp (.l 4)] Q) = D_tarpaulinlaw13_TimerMany_17 F N Q l L := Eq.trans (wpq_loop F (q_tarpaulinlaw13_TimerMany_18 N) l t L (fun (l t : Env) (L : Lg) => D_tarpaulinlaw13_TimerMany_8 F N Q l L) (fun (j : Nat) (l t : Env) (L : Lg) => bif Nat.beq j 2 then (fun (l t : Env) (L : Lg) => D_tarpaulinlaw13_TimerMany_8 F N Q l L) l t L else (fun _ _ _ _ => False) j l t L) (fin [.tmp (.l 4)] Q)) (Eq.trans (congrArg (fun B => loopW B l L) (funext fun l => funext fun t => funext fun L => funext fun k1 => e_tarpaulinlaw13_TimerMany_18 F N Q k1 l t L)) (by kernel_rfl))
def q_tarpaulinlaw13_TimerMany_16 (N : Nat → Nat) : ACode := (.block 2 (q_tarpaulinlaw13_TimerMany_17 N))
theorem e_tarpaulinlaw13_TimerMany_16 (F : Nat → Option AFn) (N : Nat → Nat) (Q : AV → Lg → Prop) (l t : Env) (L : Lg) : wp F (q_tarpaulinlaw13_TimerMany_16 N) l t L (fun (l t : Env) (L : Lg) => D_tarpaulinlaw13_TimerMany_8 F N Q l L) (fun _ _ _ _ => False) (fin [.tmp (.l 4)] Q) = D_tarpaulinlaw13_TimerMany_17 F N Q l L := Eq.trans (wpq_block F 2 (q_tarpaulinlaw13_TimerMany_17 N) l t L (fun (l t : Env) (L : Lg) => D_tarpaulinlaw13_TimerMany_8 F N Q l L) (fun _ _ _ _ => False) (fin [.tmp (.l 4)] Q)) (e_tarpaulinlaw13_TimerMany_17 F N Q l t L)
def q_tarpaulinlaw13_TimerMany_15a (N : Nat → Nat) : ACode := (.reg [⟨.l 12, none, .mv, [.c (.i .i64 0)]⟩])
def q_tarpaulinlaw13_TimerMany_15 (N : Nat → Nat) : ACode := (.seq (q_tarpaulinlaw13_TimerMany_15a N) (q_tarpaulinlaw13_TimerMany_16 N))
noncomputable def D_tarpaulinlaw13_TimerMany_15 (F : Nat → Option AFn) (N : Nat → Nat) (Q : AV → Lg → Prop) (l : Env) (L : Lg) : Prop :=
 D_tarpaulinlaw13_TimerMany_17 F N Q (Env.put l 12 (.i .i64 0)) L
theorem e_tarpaulinlaw13_TimerMany_15 (F : Nat → Option AFn) (N : Nat → Nat) (Q : AV → Lg → Prop) (l t : Env) (L : Lg) : wp F (q_tarpaulinlaw13_TimerMany_15 N) l t L (fun (l t : Env) (L : Lg) => D_tarpaulinlaw13_TimerMany_8 F N Q l L) (fun _ _ _ _ => False) (fin [.tmp (.l 4)] Q) = D_tarpaulinlaw13_TimerMany_15 F N Q l L := Eq.trans (wpq_seq F (q_tarpaulinlaw13_TimerMany_15a N) (q_tarpaulinlaw13_TimerMany_16 N) l t L (fun (l t : Env) (L : Lg) => D_tarpaulinlaw13_TimerMany_8 F N Q l L) (fun _ _ _ _ => False) (fin [.tmp (.l 4)] Q)) (Eq.trans (congrArg (fun Z : Kn => wp F (q_tarpaulinlaw13_TimerMany_15a N) l t L Z (fun _ _ _ _ => False) (fin [.tmp (.l 4)] Q)) (funext fun l => funext fun t => funext fun L => e_tarpaulinlaw13_TimerMany_16 F N Q l t L)) (by kernel_rfl))
def q_tarpaulinlaw13_TimerMany_7 (N : Nat → Nat) : ACode := (.seq (q_tarpaulinlaw13_TimerMany_15 N) (q_tarpaulinlaw13_TimerMany_8 N))
theorem e_tarpaulinlaw13_TimerMany_7 (F : Nat → Option AFn) (N : Nat → Nat) (Q : AV → Lg → Prop) (l t : Env) (L : Lg) : wp F (q_tarpaulinlaw13_TimerMany_7 N) l t L (fin [.tmp (.l 4)] Q) (fun _ _ _ _ => False) (fin [.tmp (.l 4)] Q) = D_tarpaulinlaw13_TimerMany_15 F N Q l L := Eq.trans (wpq_seq F (q_tarpaulinlaw13_TimerMany_15 N) (q_tarpaulinlaw13_TimerMany_8 N) l t L (fin [.tmp (.l 4)] Q) (fun _ _ _ _ => False) (fin [.tmp (.l 4)] Q)) (Eq.trans (congrArg (fun Z : Kn => wp F (q_tarpaulinlaw13_TimerMany_15 N) l t L Z (fun _ _ _ _ => False) (fin [.tmp (.l 4)] Q)) (funext fun l => funext fun t => funext fun L => e_tarpaulinlaw13_TimerMany_8 F N Q l t L)) (e_tarpaulinlaw13_TimerMany_15 F N Q l t L))
def q_tarpaulinlaw13_TimerMany_6a (N : Nat → Nat) : ACode := (.reg [⟨.l 10, none, .mv, [.c (.i .i64 (-1))]⟩, ⟨.l 11, none, .mv, [.c (.i .i64 (-1))]⟩])
def q_tarpaulinlaw13_TimerMany_6 (N : Nat → Nat) : ACode := (.seq (q_tarpaulinlaw13_TimerMany_6a N) (q_tarpaulinlaw13_TimerMany_7 N))
noncomputable def D_tarpaulinlaw13_TimerMany_6 (F : Nat → Option AFn) (N : Nat → Nat) (Q : AV → Lg → Prop) (l : Env) (L : Lg) : Prop :=
 D_tarpaulinlaw13_TimerMany_15 F N Q (Env.put (Env.put l 10 (.i .i64 (-1))) 11 (.i .i64 (-1))) L
theorem e_tarpaulinlaw13_TimerMany_6 (F : Nat → Option AFn) (N : Nat → Nat) (Q : AV → Lg → Prop) (l t : Env) (L : Lg) : wp F (q_tarpaulinlaw13_TimerMany_6 N) l t L (fin [.tmp (.l 4)] Q) (fun _ _ _ _ => False) (fin [.tmp (.l 4)] Q) = D_tarpaulinlaw13_TimerMany_6 F N Q l L := Eq.trans (wpq_seq F (q_tarpaulinlaw13_TimerMany_6a N) (q_tarpaulinlaw13_TimerMany_7 N) l t L (fin [.tmp (.l 4)] Q) (fun _ _ _ _ => False) (fin [.tmp (.l 4)] Q)) (Eq.trans (congrArg (fun Z : Kn => wp F (q_tarpaulinlaw13_TimerMany_6a N) l t L Z (fun _ _ _ _ => False) (fin [.tmp (.l 4)] Q)) (funext fun l => funext fun t => funext fun L => e_tarpaulinlaw13_TimerMany_7 F N Q l t L)) (by kernel_rfl))
def q_tarpaulinlaw13_TimerMany_30 (N : Nat → Nat) : ACode := (.seq (.seq (.reg [⟨.t 38, none, .mv, [.l 6]⟩, ⟨.t 39, none, .mv, [.l 0]⟩, ⟨.t 40, none, .lenSl, [.t 39]⟩, ⟨.t 41, none, .bin .lss, [.t 38, .t 40]⟩]) (.cond (.t 41) .skip (.exit 0))) (.seq (.block 1 (.seq (.reg [⟨.t 44, none, .mv, [.l 0]⟩, ⟨.t 45, none, .mv, [.l 6]⟩, ⟨.t 46, none, .iad 1, [.t 44, .t 45]⟩, ⟨.t 47, none, .ld none, [.t 46]⟩, ⟨.t 48, none, .call (N k_tarpaulinalike_Round), [.t 47, .c (.i .i64 100)]⟩, ⟨.l 7, none, .mv, [.t 48]⟩]) (.seq (.reg [⟨.t 50, none, .mv, [.l 5]⟩, ⟨.t 51, none, .mv, [.l 7]⟩, ⟨.t 52, none, .mv, [.l 6]⟩, ⟨.t 53, none, .call (N k_timer_Set_Func), [.t 50, .c (.i .i64 10), .t 51, .t 52]⟩, ⟨.t 49, none, .mv, [.t 53]⟩, ⟨.t 54, none, .ext 0, [.t 49]⟩, ⟨.t 55, none, .ext 1, [.t 49]⟩, ⟨.l 8, none, .mv, [.t 54]⟩, ⟨.l 9, none, .mv, [.t 55]⟩]) (.seq (.reg [⟨.t 56, none, .mv, [.l 9]⟩, ⟨.t 57, none, .bin .neq, [.t 56, .c (.i .i64 0)]⟩, ⟨.t 58, none, .mv, [.t 57]⟩, ⟨.t 59, some (.t 58, false), .mv, [.l 8]⟩, ⟨.t 60, some (.t 58, false), .mv, [.l 6]⟩, ⟨.t 61, some (.t 58, false), .bin .neq, [.t 59, .t 60]⟩, ⟨.t 62, none, .pick, [.t 58, .c (.b true), .t 61]⟩]) (.cond (.t 62) (.seq (.reg [⟨.l 4, none, .mv, [.c (.b false)]⟩]) .ret) .skip))))) (.reg [⟨.t 42, none, .mv, [.l 6]⟩, ⟨.t 43, none, .bin .add, [.t 42, .c (.i .i64 1)]⟩, ⟨.l 6, none, .mv, [.t 43]⟩])))
noncomputable def D_tarpaulinlaw13_TimerMany_30 (F : Nat → Option AFn) (N : Nat → Nat) (Q : AV → Lg → Prop) (k1 : Env → Lg → Prop) (l : Env) (L : Lg) : Prop :=
 wpOp F .lenSl [(l 0)] L fun v1 L1 =>
 wpOp F (.bin .lss) [(l 6), v1] L1 fun v2 L2 =>
 condW v2
 (wpOp F (.iad 1) [(l 0), (l 6)] L2 fun v3 L3 =>
 wpOp F (.ld none) [v3] L3 fun v4 L4 =>
 CallL F (N k_tarpaulinalike_Round) [v4, (.i .i64 100)] L4 fun v5 L5 =>
 CallL F (N k_timer_Set_Func) [(l 5), (.i .i64 10), v5, (l 6)] L5 fun v6 L6 =>
 wpOp F (.ext 0) [v6] L6 fun v7 L7 =>
 wpOp F (.ext 1) [v6] L7 fun v8 L8 =>
 wpOp F (.bin .neq) [v8, (.i .i64 0)] L8 fun v9 L9 =>
 gdOp F v9 false .mv [v7] L9 fun v10 L10 =>
 gdOp F v9 false .mv [(l 6)] L10 fun v11 L11 =>
 gdOp F v9 false (.bin .neq) [v10, v11] L11 fun v12 L12 =>
 wpOp F .pick [v9, (.b true), v12] L12 fun v13 L13 =>
 condW v13
 (fin1 (some (.b false)) Q L13)
 (wpOp F (.bin .add) [(l 6), (.i .i64 1)] L13 fun v14 L14 =>
 k1 (Env.put (Env.put (Env.put (Env.put l 7 v5) 8 v7) 9 v8) 6 v14) L14))
 (D_tarpaulinlaw13_TimerMany_6 F N Q l L2)
theorem e_tarpaulinlaw13_TimerMany_30 (F : Nat → Option AFn) (N : Nat → Nat) (Q : AV → Lg → Prop) (k1 : Env → Lg → Prop) (l t : Env) (L : Lg) : wp F (q_tarpaulinlaw13_TimerMany_30 N) l t L (fun (l _ : Env) (L : Lg) => k1 l L) (fun (j : Nat) (l t : Env) (L : Lg) => bif Nat.beq j 0 then (fun (l t : Env) (L : Lg) => D_tarpaulinlaw13_TimerMany_6 F N Q l L) l t L else (fun _ _ _ _ => False) j l t L) (fin [.tmp (.l 4)] Q) = D_tarpaulinlaw13_TimerMany_30 F N Q k1 l L := by kernel_rfl
def q_tarpaulinlaw13_TimerMany_29 (N : Nat → Nat) : ACode := (.loop (q_tarpaulinlaw13_TimerMany_30 N))
noncomputable def D_tarpaulinlaw13_TimerMany_29 (F : Nat → Option AFn) (N : Nat → Nat) (Q : AV → Lg → Prop) (l : Env) (L : Lg) : Prop :=
 loopW (fun l t L k1 => D_tarpaulinlaw13_TimerMany_30 F N Q k1 l L) l L
theorem e_tarpaulinlaw13_TimerMany_29 (F : Nat → Option AFn) (N : Nat → Nat) (Q : AV → Lg → Prop) (l t : Env) (L : Lg) : wp F (q_tarpaulinlaw13_TimerMany_29 N) l t L (fun (l t : Env) (L : Lg) => D_tarpaulinlaw13_TimerMany_6 F N Q l L) (fun (j : Nat) (l t : Env) (L : Lg) => bif Nat.beq j 0 then (fun (l t : Env) (L : Lg) => D_tarpaulinlaw13_TimerMany_6 F N Q l L) l t L else (fun _ _ _ _ => False) j l t L) (fin [.tmp (.l 4)] Q) = D_tarpaulinlaw13_TimerMany_29 F N Q l L := Eq.trans (wpq_loop F (q_tarpaulinlaw13_TimerMany_30 N) l t L (fun (l t : Env) (L : Lg) => D_tarpaulinlaw13_TimerMany_6 F N Q l L) (fun (j : Nat) (l t : Env) (L : Lg) => bif Nat.beq j 0 then (fun (l t : Env) (L : Lg) => D_tarpaulinlaw13_TimerMany_6 F N Q l L) l t L else (fun _ _ _ _ => False) j l t L) (fin [.tmp (.l 4)] Q)) (Eq.trans (congrArg (fun B => loopW B l L) (funext fun l => funext fun t => funext fun L => funext fun k1 => e_tarpaulinlaw13_TimerMany_30 F N Q k1 l t L)) (by kernel_rfl))
def q_tarpaulinlaw13_TimerMany_28 (N : Nat → Nat) : ACode := (.block 0 (q_tarpaulinlaw13_TimerMany_29 N))
theorem e_tarpaulinlaw13_TimerMany_28 (F : Nat → Option AFn) (N : Nat → Nat) (Q : AV → Lg → Prop) (l t : Env) (L : Lg) : wp F (q_tarpaulinlaw13_TimerMany_28 N) l t L (fun (l t : Env) (L : Lg) => D_tarpaulinlaw13_TimerMany_6 F N Q l L) (fun _ _ _ _ => False) (fin [.tmp (.l 4)] Q) = D_tarpaulinlaw13_TimerMany_29 F N Q l L := Eq.trans (wpq_block F 0 (q_tarpaulinlaw13_TimerMany_29 N) l t L (fun (l t : Env) (L : Lg) => D_tarpaulinlaw13_TimerMany_6 F N Q l L) (fun _ _ _ _ => False) (fin [.tmp (.l 4)] Q)) (e_tarpaulinlaw13_TimerMany_29 F N Q l t L)
def q_tarpaulinlaw13_TimerMany_27a (N : Nat → Nat) : ACode := (.reg [⟨.l 6, none, .mv, [.c (.i .i64 0)]⟩])
def q_tarpaulinlaw13_TimerMany_27 (N : Nat → Nat) : ACode := (.seq (q_tarpaulinlaw13_TimerMany_27a N) (q_tarpaulinlaw13_TimerMany_28 N))
noncomputable def D_tarpaulinlaw13_TimerMany_27 (F : Nat → Option AFn) (N : Nat → Nat) (Q : AV → Lg → Prop) (l : Env) (L : Lg) : Prop :=
 D_tarpaulinlaw13_TimerMany_29 F N Q (Env.put l 6 (.i .i64 0)) L
theorem e_tarpaulinlaw13_TimerMany_27 (F : Nat → Option AFn) (N : Nat → Nat) (Q : AV → Lg → Prop) (l t : Env) (L : Lg) : wp F (q_tarpaulinlaw13_TimerMany_27 N) l t L (fun (l t : Env) (L : Lg) => D_tarpaulinlaw13_TimerMany_6 F N Q l L) (fun _ _ _ _ => False) (fin [.tmp (.l 4)] Q) = D_tarpaulinlaw13_TimerMany_27 F N Q l L := Eq.trans (wpq_seq F (q_tarpaulinlaw13_TimerMany_27a N) (q_tarpaulinlaw13_TimerMany_28 N) l t L (fun (l t : Env) (L : Lg) => D_tarpaulinlaw13_TimerMany_6 F N Q l L) (fun _ _ _ _ => False) (fin [.tmp (.l 4)] Q)) (Eq.trans (congrArg (fun Z : Kn => wp F (q_tarpaulinlaw13_TimerMany_27a N) l t L Z (fun _ _ _ _ => False) (fin [.tmp (.l 4)] Q)) (funext fun l => funext fun t => funext fun L => e_tarpaulinlaw13_TimerMany_28 F N Q l t L)) (by kernel_rfl))
def q_tarpaulinlaw13_TimerMany_5 (N : Nat → Nat) : ACode := (.seq (q_tarpaulinlaw13_TimerMany_27 N) (q_tarpaulinlaw13_TimerMany_6 N))
theorem e_tarpaulinlaw13_TimerMany_5 (F : Nat → Option AFn) (N : Nat → Nat) (Q : AV → Lg → Prop) (l t : Env) (L : Lg) : wp F (q_tarpaulinlaw13_TimerMany_5 N) l t L (fin [.tmp (.l 4)] Q) (fun _ _ _ _ => False) (fin [.tmp (.l 4)] Q) = D_tarpaulinlaw13_TimerMany_27 F N Q l L := Eq.trans (wpq_seq F (q_tarpaulinlaw13_TimerMany_27 N) (q_tarpaulinlaw13_TimerMany_6 N) l t L (fin [.tmp (.l 4)] Q) (fun _ _ _ _ => False) (fin [.tmp (.l 4)] Q)) (Eq.trans (congrArg (fun Z : Kn => wp F (q_tarpaulinlaw13_TimerMany_27 N) l t L Z (fun _ _ _ _ => False) (fin [.tmp (.l 4)] Q)) (funext fun l => funext fun t => funext fun L => e_tarpaulinlaw13_TimerMany_6 F N Q l t L)) (e_tarpaulinlaw13_TimerMany_27 F N Q l t L))
def q_tarpaulinlaw13_TimerMany_4a (N : Nat → Nat) : ACode := (.seq (.reg [⟨.t 36, none, .mv, [.l 5]⟩, ⟨.t 37, none, .eq false .ptr, [.t 36, .c (.p none)]⟩]) (.cond (.t 37) (.seq (.reg [⟨.l 4, none, .mv, [.c (.b false)]⟩]) .ret) .skip))
def q_tarpaulinlaw13_TimerMany_4 (N : Nat → Nat) : ACode := (.seq (q_tarpaulinlaw13_TimerMany_4a N) (q_tarpaulinlaw13_TimerMany_5 N))
noncomputable def D_tarpaulinlaw13_TimerMany_4 (F : Nat → Option AFn) (N : Nat → Nat) (Q : AV → Lg → Prop) (l : Env) (L : Lg) : Prop :=
 wpOp F (.eq false .ptr) [(l 5), (.p none)] L fun v1 L1 =>
 condW v1
 (fin1 (some (.b false)) Q L1)
 (D_tarpaulinlaw13_TimerMany_27 F N Q l L1)
theorem e_tarpaulinlaw13_TimerMany_4 (F : Nat → Option AFn) (N : Nat → Nat) (Q : AV → Lg → Prop) (l t : Env) (L : Lg) : wp F (q_tarpaulinlaw13_TimerMany_4 N) l t L (fin [.tmp (.l 4)] Q) (fun _ _ _ _ => False) (fin [.tmp (.l 4)] Q) = D_tarpaulinlaw13_TimerMany_4 F N Q l L := Eq.trans (wpq_seq F (q_tarpaulinlaw13_TimerMany_4a N) (q_tarpaulinlaw13_TimerMany_5 N) l t L (fin [.tmp (.l 4)] Q) (fun _ _ _ _ => False) (fin [.tmp (.l 4)] Q)) (Eq.trans (congrArg (fun Z : Kn => wp F (q_tarpaulinlaw13_TimerMany_4a N) l t L Z (fun _ _ _ _ => False) (fin [.tmp (.l 4)] Q)) (funext fun l => funext fun t => funext fun L => e_tarpaulinlaw13_TimerMany_5 F N Q l t L)) (by kernel_rfl))
def q_tarpaulinlaw13_TimerMany_3a (N : Nat → Nat) : ACode := (.reg [⟨.t 35, none, .call (N k_timer_New), []⟩, ⟨.l 5, none, .mv, [.t 35]⟩])
def q_tarpaulinlaw13_TimerMany_3 (N : Nat → Nat) : ACode := (.seq (q_tarpaulinlaw13_TimerMany_3a N) (q_tarpaulinlaw13_TimerMany_4 N))
noncomputable def D_tarpaulinlaw13_TimerMany_3 (F : Nat → Option AFn) (N : Nat → Nat) (Q : AV → Lg → Prop) (l : Env) (L : Lg) : Prop :=
 CallL F (N k_timer_New) [] L fun v1 L1 =>
 D_tarpaulinlaw13_TimerMany_4 F N Q (Env.put l 5 v1) L1
theorem e_tarpaulinlaw13_TimerMany_3 (F : Nat → Option AFn) (N : Nat → Nat) (Q : AV → Lg → Prop) (l t : Env) (L : Lg) : wp F (q_tarpaulinlaw13_TimerMany_3 N) l t L (fin [.tmp (.l 4)] Q) (fun _ _ _ _ => False) (fin [.tmp (.l 4)] Q) = D_tarpaulinlaw13_TimerMany_3 F N Q l L := Eq.trans (wpq_seq F (q_tarpaulinlaw13_TimerMany_3a N) (q_tarpaulinlaw13_TimerMany_4 N) l t L (fin [.tmp (.l 4)] Q) (fun _ _ _ _ => False) (fin [.tmp (.l 4)] Q)) (Eq.trans (congrArg (fun Z : Kn => wp F (q_tarpaulinlaw13_TimerMany_3a N) l t L Z (fun _ _ _ _ => False) (fin [.tmp (.l 4)] Q)) (funext fun l => funext fun t => funext fun L => e_tarpaulinlaw13_TimerMany_4 F N Q l t L)) (by kernel_rfl))
def q_tarpaulinlaw13_TimerMany_2a (N : Nat → Nat) : ACode := (.seq (.reg [⟨.t 23, none, .mv, [.l 0]⟩, ⟨.t 24, none, .lenSl, [.t 23]⟩, ⟨.t 25, none, .bin .gtr, [.t 24, .c (.i .i64 64)]⟩, ⟨.t 26, none, .mv, [.t 25]⟩, ⟨.t 27, some (.t 26, false), .mv, [.l 1]⟩, ⟨.t 28, some (.t 26, false), .bin .lss, [.t 27, .c (.i .i64 0)]⟩, ⟨.t 29, none, .pick, [.t 26, .c (.b true), .t 28]⟩, ⟨.t 30, none, .mv, [.t 29]⟩, ⟨.t 31, some (.t 30, false), .mv, [.l 1]⟩, ⟨.t 32, some (.t 30, false), .bin .gtr, [.t 31, .c (.i .i64 10)]⟩, ⟨.t 33, none, .pick, [.t 30, .c (.b true), .t 32]⟩]) (.cond (.t 33) (.seq (.reg [⟨.t 34, none, .call (N k_tarpaulinlaw13_awake), []⟩, ⟨.l 4, none, .mv, [.t 34]⟩]) .ret) .skip))
def q_tarpaulinlaw13_TimerMany_2 (N : Nat → Nat) : ACode := (.seq (q_tarpaulinlaw13_TimerMany_2a N) (q_tarpaulinlaw13_TimerMany_3 N))
noncomputable def D_tarpaulinlaw13_TimerMany_2 (F : Nat → Option AFn) (N : Nat → Nat) (Q : AV → Lg → Prop) (l : Env) (L : Lg) : Prop :=
 wpOp F .lenSl [(l 0)] L fun v1 L1 =>
 wpOp F (.bin .gtr) [v1, (.i .i64 64)] L1 fun v2 L2 =>
 gdOp F v2 false .mv [(l 1)] L2 fun v3 L3 =>
 gdOp F v2 false (.bin .lss) [v3, (.i .i64 0)] L3 fun v4 L4 =>
 wpOp F .pick [v2, (.b true), v4] L4 fun v5 L5 =>
 gdOp F v5 false .mv [(l 1)] L5 fun v6 L6 =>
 gdOp F v5 false (.bin .gtr) [v6, (.i .i64 10)] L6 fun v7 L7 =>
 wpOp F .pick [v5, (.b true), v7] L7 fun v8 L8 =>
 condW v8
 (CallL F (N k_tarpaulinlaw13_awake) [] L8 fun v9 L9 =>
 fin1 (some v9) Q L9)
 (D_tarpaulinlaw13_TimerMany_3 F N Q l L8)
theorem e_tarpaulinlaw13_TimerMany_2 (F : Nat → Option AFn) (N : Nat → Nat) (Q : AV → Lg → Prop) (l t : Env) (L : Lg) : wp F (q_tarpaulinlaw13_TimerMany_2 N) l t L (fin [.tmp (.l 4)] Q) (fun _ _ _ _ => False) (fin [.tmp (.l 4)] Q) = D_tarpaulinlaw13_TimerMany_2 F N Q l L := Eq.trans (wpq_seq F (q_tarpaulinlaw13_TimerMany_2a N) (q_tarpaulinlaw13_TimerMany_3 N) l t L (fin [.tmp (.l 4)] Q) (fun _ _ _ _ => False) (fin [.tmp (.l 4)] Q)) (Eq.trans (congrArg (fun Z : Kn => wp F (q_tarpaulinlaw13_TimerMany_2a N) l t L Z (fun _ _ _ _ => False) (fin [.tmp (.l 4)] Q)) (funext fun l => funext fun t => funext fun L => e_tarpaulinlaw13_TimerMany_3 F N Q l t L)) (by kernel_rfl))
def q_tarpaulinlaw13_TimerMany_1a (N : Nat → Nat) : ACode := (.reg [⟨.l 4, none, .mv, [.c (.b false)]⟩])
def q_tarpaulinlaw13_TimerMany_1 (N : Nat → Nat) : ACode := (.seq (q_tarpaulinlaw13_TimerMany_1a N) (q_tarpaulinlaw13_TimerMany_2 N))
noncomputable def D_tarpaulinlaw13_TimerMany_1 (F : Nat → Option AFn) (N : Nat → Nat) (Q : AV → Lg → Prop) (l : Env) (L : Lg) : Prop :=
 D_tarpaulinlaw13_TimerMany_2 F N Q (Env.put l 4 (.b false)) L
theorem e_tarpaulinlaw13_TimerMany_1 (F : Nat → Option AFn) (N : Nat → Nat) (Q : AV → Lg → Prop) (l t : Env) (L : Lg) : wp F (q_tarpaulinlaw13_TimerMany_1 N) l t L (fin [.tmp (.l 4)] Q) (fun _ _ _ _ => False) (fin [.tmp (.l 4)] Q) = D_tarpaulinlaw13_TimerMany_1 F N Q l L := Eq.trans (wpq_seq F (q_tarpaulinlaw13_TimerMany_1a N) (q_tarpaulinlaw13_TimerMany_2 N) l t L (fin [.tmp (.l 4)] Q) (fun _ _ _ _ => False) (fin [.tmp (.l 4)] Q)) (Eq.trans (congrArg (fun Z : Kn => wp F (q_tarpaulinlaw13_TimerMany_1a N) l t L Z (fun _ _ _ _ => False) (fin [.tmp (.l 4)] Q)) (funext fun l => funext fun t => funext fun L => e_tarpaulinlaw13_TimerMany_2 F N Q l t L)) (by kernel_rfl))
/-- tarpaulin/tarpaulinlaw13.TimerMany -/
def c_tarpaulinlaw13_TimerMany (N : Nat → Nat) : AFn := ⟨q_tarpaulinlaw13_TimerMany_1 N, [.tmp (.l 4)]⟩
theorem r_tarpaulinlaw13_TimerMany {F : Nat → Option AFn} {N : Nat → Nat} (h : F (N k_tarpaulinlaw13_TimerMany) = some (c_tarpaulinlaw13_TimerMany N)) {Q : AV → Lg → Prop} {a0 a1 : AV} {L : Lg} (e : D_tarpaulinlaw13_TimerMany_1 F N Q (initE [a0, a1] 0) L) : CallL F (N k_tarpaulinlaw13_TimerMany) [a0, a1] L Q :=
  CallL.of_wp h (Eq.mpr (Eq.trans (e_tarpaulinlaw13_TimerMany_1 F N Q (initE [a0, a1] 0) Env.nil L) (by kernel_rfl : _ = D_tarpaulinlaw13_TimerMany_1 F N Q (initE [a0, a1] 0) L)) e)
end Go.AM
