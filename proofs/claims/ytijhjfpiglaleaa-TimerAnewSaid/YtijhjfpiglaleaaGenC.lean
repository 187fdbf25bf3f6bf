/- The code of functions, with names for their numbers, and what is left of its weakest preconditions. PRINTED by our printgen.py. -/
import Derived.Test.YtijhjfpiglaleaaGenB
import Derived.KernelRfl
set_option linter.unusedVariables false
set_option maxRecDepth 100000
namespace Go.AM
def k_tarpaulinlaw13_TimerAnew : Nat := 113
def q_tarpaulinlaw13_TimerAnew_11 (N : Nat → Nat) : ACode := (.seq (.seq (.reg [⟨.t 147, none, .mv, [.l 2]⟩, ⟨.t 148, none, .lenSl, [.t 147]⟩, ⟨.t 149, none, .bin .eql, [.t 148, .c (.i .i64 0)]⟩]) (.cond (.t 149) (.seq (.reg [⟨.t 151, none, .mv, [.l 7]⟩, ⟨.t 152, none, .call (N k_timer_Set_Next), [.t 151]⟩, ⟨.t 150, none, .mv, [.t 152]⟩, ⟨.t 153, none, .ext 0, [.t 150]⟩, ⟨.t 154, none, .ext 1, [.t 150]⟩, ⟨.l 21, none, .mv, [.t 153]⟩, ⟨.l 22, none, .mv, [.t 154]⟩]) (.seq (.reg [⟨.t 155, none, .mv, [.l 22]⟩, ⟨.t 156, none, .mv, [.t 155]⟩, ⟨.t 157, some (.t 156, true), .mv, [.l 21]⟩, ⟨.t 158, some (.t 156, true), .mv, [.l 1]⟩, ⟨.t 159, some (.t 156, true), .bin .eql, [.t 157, .t 158]⟩, ⟨.t 160, none, .pick, [.t 156, .t 159, .c (.b false)]⟩, ⟨.t 161, none, .mv, [.t 160]⟩, ⟨.t 162, some (.t 161, true), .mv, [.l 7]⟩, ⟨.t 163, some (.t 161, true), .mv, [.l 8]⟩, ⟨.t 164, some (.t 161, true), .call (N k_timer_Set_Gen), [.t 162, .t 163]⟩, ⟨.t 165, some (.t 161, true), .bin .eql, [.t 164, .c (.i .i64 1)]⟩, ⟨.t 166, none, .pick, [.t 161, .t 165, .c (.b false)]⟩, ⟨.t 167, none, .mv, [.t 166]⟩, ⟨.t 168, some (.t 167, true), .call (N k_tarpaulinlaw13_awake), []⟩, ⟨.t 169, none, .pick, [.t 167, .t 168, .c (.b false)]⟩, ⟨.l 6, none, .mv, [.t 169]⟩]) .ret)) .skip)) (.seq (.reg [⟨.t 170, none, .mv, [.l 7]⟩, ⟨.t 171, none, .call (N k_timer_Set_Len), [.t 170]⟩, ⟨.t 172, none, .bin .eql, [.t 171, .c (.i .i64 1)]⟩, ⟨.t 173, none, .mv, [.t 172]⟩, ⟨.t 174, some (.t 173, true), .call (N k_tarpaulinlaw13_awake), []⟩, ⟨.t 175, none, .pick, [.t 173, .t 174, .c (.b false)]⟩, ⟨.l 6, none, .mv, [.t 175]⟩]) .ret))
noncomputable def D_tarpaulinlaw13_TimerAnew_11 (F : Nat → Option AFn) (N : Nat → Nat) (Q : AV → Lg → Prop) (x1 : AV) (x2 : AV) (x7 : AV) (x8 : AV) (L : Lg) : Prop :=
 wpOp F .lenSl [x2] L fun v1 L1 =>
 wpOp F (.bin .eql) [v1, (.i .i64 0)] L1 fun v2 L2 =>
 condW v2
 (CallL F (N k_timer_Set_Next) [x7] L2 fun v3 L3 =>
 wpOp F (.ext 0) [v3] L3 fun v4 L4 =>
 wpOp F (.ext 1) [v3] L4 fun v5 L5 =>
 gdOp F v5 true .mv [v4] L5 fun v6 L6 =>
 gdOp F v5 true .mv [x1] L6 fun v7 L7 =>
 gdOp F v5 true (.bin .eql) [v6, v7] L7 fun v8 L8 =>
 wpOp F .pick [v5, v8, (.b false)] L8 fun v9 L9 =>
 gdOp F v9 true .mv [x7] L9 fun v10 L10 =>
 gdOp F v9 true .mv [x8] L10 fun v11 L11 =>
 gdOp F v9 true (.call (N k_timer_Set_Gen)) [v10, v11] L11 fun v12 L12 =>
 gdOp F v9 true (.bin .eql) [v12, (.i .i64 1)] L12 fun v13 L13 =>
 wpOp F .pick [v9, v13, (.b false)] L13 fun v14 L14 =>
 gdOp F v14 true (.call (N k_tarpaulinlaw13_awake)) [] L14 fun v15 L15 =>
 wpOp F .pick [v14, v15, (.b false)] L15 fun v16 L16 =>
 fin1 (some v16) Q L16)
 (CallL F (N k_timer_Set_Len) [x7] L2 fun v17 L17 =>
 wpOp F (.bin .eql) [v17, (.i .i64 1)] L17 fun v18 L18 =>
 gdOp F v18 true (.call (N k_tarpaulinlaw13_awake)) [] L18 fun v19 L19 =>
 wpOp F .pick [v18, v19, (.b false)] L19 fun v20 L20 =>
 fin1 (some v20) Q L20)
theorem e_tarpaulinlaw13_TimerAnew_11 (F : Nat → Option AFn) (N : Nat → Nat) (Q : AV → Lg → Prop) (l t : Env) (L : Lg) : wp F (q_tarpaulinlaw13_TimerAnew_11 N) l t L (fin [.tmp (.l 6)] Q) (fun _ _ _ _ => False) (fin [.tmp (.l 6)] Q) = D_tarpaulinlaw13_TimerAnew_11 F N Q (l 1) (l 2) (l 7) (l 8) L := by kernel_rfl
def q_tarpaulinlaw13_TimerAnew_17 (N : Nat → Nat) : ACode := (.reg [⟨.t 89, none, .mv, [.l 13]⟩, ⟨.t 90, none, .bin .add, [.t 89, .c (.i .i64 1)]⟩, ⟨.l 13, none, .mv, [.t 90]⟩])
noncomputable def D_tarpaulinlaw13_TimerAnew_17 (F : Nat → Option AFn) (N : Nat → Nat) (Q : AV → Lg → Prop) (k1 : Env → Lg → Prop) (l : Env) (L : Lg) : Prop :=
 wpOp F (.bin .add) [(l 13), (.i .i64 1)] L fun v1 L1 =>
 k1 (Env.put l 13 v1) L1
theorem e_tarpaulinlaw13_TimerAnew_17 (F : Nat → Option AFn) (N : Nat → Nat) (Q : AV → Lg → Prop) (k1 : Env → Lg → Prop) (l t : Env) (L : Lg) : wp F (q_tarpaulinlaw13_TimerAnew_17 N) l t L (fun (l _ : Env) (L : Lg) => k1 l L) (fun (j : Nat) (l t : Env) (L : Lg) => bif Nat.beq j 1 then (fun (l t : Env) (L : Lg) => D_tarpaulinlaw13_TimerAnew_11 F N Q (l 1) (l 2) (l 7) (l 8) L) l t L else (fun _ _ _ _ => False) j l t L) (fin [.tmp (.l 6)] Q) = D_tarpaulinlaw13_TimerAnew_17 F N Q k1 l L := by kernel_rfl
def q_tarpaulinlaw13_TimerAnew_23 (N : Nat → Nat) : ACode := (.seq (.seq (.reg [⟨.t 113, none, .mv, [.l 16]⟩, ⟨.t 114, none, .bin .neq, [.t 113, .c (.i .i64 0)]⟩, ⟨.t 115, none, .mv, [.t 114]⟩, ⟨.t 116, some (.t 115, false), .mv, [.l 18]⟩, ⟨.t 117, some (.t 115, false), .un .not, [.t 116]⟩, ⟨.t 118, none, .pick, [.t 115, .c (.b true), .t 117]⟩, ⟨.t 119, none, .mv, [.t 118]⟩, ⟨.t 120, some (.t 119, false), .mv, [.l 17]⟩, ⟨.t 121, some (.t 119, false), .mv, [.l 12]⟩, ⟨.t 122, some (.t 119, false), .bin .neq, [.t 120, .t 121]⟩, ⟨.t 123, none, .pick, [.t 119, .c (.b true), .t 122]⟩, ⟨.t 124, none, .mv, [.t 123]⟩, ⟨.t 125, some (.t 124, false), .mv, [.l 7]⟩, ⟨.t 126, some (.t 124, false), .mv, [.l 8]⟩, ⟨.t 127, some (.t 124, false), .call (N k_timer_Set_Gen), [.t 125, .t 126]⟩, ⟨.t 128, some (.t 124, false), .mv, [.l 13]⟩, ⟨.t 129, some (.t 124, false), .bin .add, [.t 128, .c (.i .i64 2)]⟩, ⟨.t 130, some (.t 124, false), .bin .neq, [.t 127, .t 129]⟩, ⟨.t 131, none, .pick, [.t 124, .c (.b true), .t 130]⟩]) (.cond (.t 131) (.seq (.reg [⟨.l 6, none, .mv, [.c (.b false)]⟩]) .ret) .skip)) (.seq (.reg [⟨.t 132, none, .mv, [.l 11]⟩, ⟨.t 133, none, .mv, [.l 14]⟩, ⟨.t 134, none, .bin .quo, [.t 133, .c (.i .i64 2)]⟩, ⟨.t 135, none, .bin .add, [.t 132, .t 134]⟩, ⟨.l 11, none, .mv, [.t 135]⟩]) (.seq (.reg [⟨.t 137, none, .mv, [.l 7]⟩, ⟨.t 138, none, .mv, [.l 11]⟩, ⟨.t 139, none, .call (N k_timer_Set_Fire), [.t 137, .t 138]⟩, ⟨.t 136, none, .mv, [.t 139]⟩, ⟨.t 140, none, .ext 0, [.t 136]⟩, ⟨.t 141, none, .ext 1, [.t 136]⟩, ⟨.t 19, none, .alloc [.i .i64 0, .i .i64 0, .i .i64 0, .i .i64 0, .i .i64 0, .sl none 0 0 0, .b false], []⟩, ⟨.no, none, .st 7, [.t 19, .t 140]⟩, ⟨.l 20, none, .mv, [.t 141]⟩]) (.seq (.reg [⟨.t 142, none, .mv, [.l 20]⟩, ⟨.t 143, none, .mv, [.l 12]⟩, ⟨.t 144, none, .mv, [.l 11]⟩, ⟨.t 145, none, .bin .leq, [.t 143, .t 144]⟩, ⟨.t 146, none, .eq true .bool, [.t 142, .t 145]⟩]) (.cond (.t 146) (.seq (.reg [⟨.l 6, none, .mv, [.c (.b false)]⟩]) .ret) .skip)))))
noncomputable def D_tarpaulinlaw13_TimerAnew_23 (F : Nat → Option AFn) (N : Nat → Nat) (Q : AV → Lg → Prop) (k1 : Env → Lg → Prop) (l : Env) (L : Lg) : Prop :=
 wpOp F (.bin .neq) [(l 16), (.i .i64 0)] L fun v1 L1 =>
 gdOp F v1 false .mv [(l 18)] L1 fun v2 L2 =>
 gdOp F v1 false (.un .not) [v2] L2 fun v3 L3 =>
 wpOp F .pick [v1, (.b true), v3] L3 fun v4 L4 =>
 gdOp F v4 false .mv [(l 17)] L4 fun v5 L5 =>
 gdOp F v4 false .mv [(l 12)] L5 fun v6 L6 =>
 gdOp F v4 false (.bin .neq) [v5, v6] L6 fun v7 L7 =>
 wpOp F .pick [v4, (.b true), v7] L7 fun v8 L8 =>
 gdOp F v8 false .mv [(l 7)] L8 fun v9 L9 =>
 gdOp F v8 false .mv [(l 8)] L9 fun v10 L10 =>
 gdOp F v8 false (.call (N k_timer_Set_Gen)) [v9, v10] L10 fun v11 L11 =>
 gdOp F v8 false .mv [(l 13)] L11 fun v12 L12 =>
 gdOp F v8 false (.bin .add) [v12, (.i .i64 2)] L12 fun v13 L13 =>
 gdOp F v8 false (.bin .neq) [v11, v13] L13 fun v14 L14 =>
 wpOp F .pick [v8, (.b true), v14] L14 fun v15 L15 =>
 condW v15
 (fin1 (some (.b false)) Q L15)
 (wpOp F (.bin .quo) [(l 14), (.i .i64 2)] L15 fun v16 L16 =>
 wpOp F (.bin .add) [(l 11), v16] L16 fun v17 L17 =>
 CallL F (N k_timer_Set_Fire) [(l 7), v17] L17 fun v18 L18 =>
 wpOp F (.ext 0) [v18] L18 fun v19 L19 =>
 wpOp F (.ext 1) [v18] L19 fun v20 L20 =>
 wpOp F (.alloc [.i .i64 0, .i .i64 0, .i .i64 0, .i .i64 0, .i .i64 0, .sl none 0 0 0, .b false]) [] L20 fun v21 L21 =>
 wpOp F (.st 7) [v21, v19] L21 fun _ L22 =>
 wpOp F (.bin .leq) [(l 12), v17] L22 fun v23 L23 =>
 wpOp F (.eq true .bool) [v20, v23] L23 fun v24 L24 =>
 condW v24
 (fin1 (some (.b false)) Q L24)
 (D_tarpaulinlaw13_TimerAnew_17 F N Q k1 (Env.put (Env.put l 11 v17) 20 v20) L24))
theorem e_tarpaulinlaw13_TimerAnew_23 (F : Nat → Option AFn) (N : Nat → Nat) (Q : AV → Lg → Prop) (k1 : Env → Lg → Prop) (l t : Env) (L : Lg) : wp F (q_tarpaulinlaw13_TimerAnew_23 N) l t L (fun (l t : Env) (L : Lg) => D_tarpaulinlaw13_TimerAnew_17 F N Q k1 l L) (fun (j : Nat) (l t : Env) (L : Lg) => bif Nat.beq j 2 then (fun (l t : Env) (L : Lg) => D_tarpaulinlaw13_TimerAnew_17 F N Q k1 l L) l t L else (fun (j : Nat) (l t : Env) (L : Lg) => bif Nat.beq j 1 then (fun (l t : Env) (L : Lg) => D_tarpaulinlaw13_TimerAnew_11 F N Q (l 1) (l 2) (l 7) (l 8) L) l t L else (fun _ _ _ _ => False) j l t L) j l t L) (fin [.tmp (.l 6)] Q) = D_tarpaulinlaw13_TimerAnew_23 F N Q k1 l L := by kernel_rfl
def q_tarpaulinlaw13_TimerAnew_22a (N : Nat → Nat) : ACode := (.reg [⟨.t 109, none, .mv, [.l 7]⟩, ⟨.t 110, none, .call (N k_timer_Set_Next), [.t 109]⟩, ⟨.t 108, none, .mv, [.t 110]⟩, ⟨.t 111, none, .ext 0, [.t 108]⟩, ⟨.t 112, none, .ext 1, [.t 108]⟩, ⟨.l 17, none, .mv, [.t 111]⟩, ⟨.l 18, none, .mv, [.t 112]⟩])
def q_tarpaulinlaw13_TimerAnew_22 (N : Nat → Nat) : ACode := (.seq (q_tarpaulinlaw13_TimerAnew_22a N) (q_tarpaulinlaw13_TimerAnew_23 N))
noncomputable def D_tarpaulinlaw13_TimerAnew_22 (F : Nat → Option AFn) (N : Nat → Nat) (Q : AV → Lg → Prop) (k1 : Env → Lg → Prop) (l : Env) (L : Lg) : Prop :=
 CallL F (N k_timer_Set_Next) [(l 7)] L fun v1 L1 =>
 wpOp F (.ext 0) [v1] L1 fun v2 L2 =>
 wpOp F (.ext 1) [v1] L2 fun v3 L3 =>
 D_tarpaulinlaw13_TimerAnew_23 F N Q k1 (Env.put (Env.put l 17 v2) 18 v3) L3
theorem e_tarpaulinlaw13_TimerAnew_22 (F : Nat → Option AFn) (N : Nat → Nat) (Q : AV → Lg → Prop) (k1 : Env → Lg → Prop) (l t : Env) (L : Lg) : wp F (q_tarpaulinlaw13_TimerAnew_22 N) l t L (fun (l t : Env) (L : Lg) => D_tarpaulinlaw13_TimerAnew_17 F N Q k1 l L) (fun (j : Nat) (l t : Env) (L : Lg) => bif Nat.beq j 2 then (fun (l t : Env) (L : Lg) => D_tarpaulinlaw13_TimerAnew_17 F N Q k1 l L) l t L else (fun (j : Nat) (l t : Env) (L : Lg) => bif Nat.beq j 1 then (fun (l t : Env) (L : Lg) => D_tarpaulinlaw13_TimerAnew_11 F N Q (l 1) (l 2) (l 7) (l 8) L) l t L else (fun _ _ _ _ => False) j l t L) j l t L) (fin [.tmp (.l 6)] Q) = D_tarpaulinlaw13_TimerAnew_22 F N Q k1 l L := Eq.trans (wpq_seq F (q_tarpaulinlaw13_TimerAnew_22a N) (q_tarpaulinlaw13_TimerAnew_23 N) l t L (fun (l t : Env) (L : Lg) => D_tarpaulinlaw13_TimerAnew_17 F N Q k1 l L) (fun (j : Nat) (l t : Env) (L : Lg) => bif Nat.beq j 2 then (fun (l t : Env) (L : Lg) => D_tarpaulinlaw13_TimerAnew_17 F N Q k1 l L) l t L else (fun (j : Nat) (l t : Env) (L : Lg) => bif Nat.beq j 1 then (fun (l t : Env) (L : Lg) => D_tarpaulinlaw13_TimerAnew_11 F N Q (l 1) (l 2) (l 7) (l 8) L) l t L else (fun _ _ _ _ => False) j l t L) j l t L) (fin [.tmp (.l 6)] Q)) (Eq.trans (congrArg (fun Z : Kn => wp F (q_tarpaulinlaw13_TimerAnew_22a N) l t L Z (fun (j : Nat) (l t : Env) (L : Lg) => bif Nat.beq j 2 then (fun (l t : Env) (L : Lg) => D_tarpaulinlaw13_TimerAnew_17 F N Q k1 l L) l t L else (fun (j : Nat) (l t : Env) (L : Lg) => bif Nat.beq j 1 then (fun (l t : Env) (L : Lg) => D_tarpaulinlaw13_TimerAnew_11 F N Q (l 1) (l 2) (l 7) (l 8) L) l t L else (fun _ _ _ _ => False) j l t L) j l t L) (fin [.tmp (.l 6)] Q)) (funext fun l => funext fun t => funext fun L => e_tarpaulinlaw13_TimerAnew_23 F N Q k1 l t L)) (by kernel_rfl))
def q_tarpaulinlaw13_TimerAnew_21a (N : Nat → Nat) : ACode := (.reg [⟨.t 105, none, .mv, [.l 11]⟩, ⟨.t 106, none, .mv, [.l 14]⟩, ⟨.t 107, none, .bin .add, [.t 105, .t 106]⟩, ⟨.l 12, none, .mv, [.t 107]⟩])
def q_tarpaulinlaw13_TimerAnew_21 (N : Nat → Nat) : ACode := (.seq (q_tarpaulinlaw13_TimerAnew_21a N) (q_tarpaulinlaw13_TimerAnew_22 N))
noncomputable def D_tarpaulinlaw13_TimerAnew_21 (F : Nat → Option AFn) (N : Nat → Nat) (Q : AV → Lg → Prop) (k1 : Env → Lg → Prop) (l : Env) (L : Lg) : Prop :=
 wpOp F (.bin .add) [(l 11), (l 14)] L fun v1 L1 =>
 D_tarpaulinlaw13_TimerAnew_22 F N Q k1 (Env.put l 12 v1) L1
theorem e_tarpaulinlaw13_TimerAnew_21 (F : Nat → Option AFn) (N : Nat → Nat) (Q : AV → Lg → Prop) (k1 : Env → Lg → Prop) (l t : Env) (L : Lg) : wp F (q_tarpaulinlaw13_TimerAnew_21 N) l t L (fun (l t : Env) (L : Lg) => D_tarpaulinlaw13_TimerAnew_17 F N Q k1 l L) (fun (j : Nat) (l t : Env) (L : Lg) => bif Nat.beq j 2 then (fun (l t : Env) (L : Lg) => D_tarpaulinlaw13_TimerAnew_17 F N Q k1 l L) l t L else (fun (j : Nat) (l t : Env) (L : Lg) => bif Nat.beq j 1 then (fun (l t : Env) (L : Lg) => D_tarpaulinlaw13_TimerAnew_11 F N Q (l 1) (l 2) (l 7) (l 8) L) l t L else (fun _ _ _ _ => False) j l t L) j l t L) (fin [.tmp (.l 6)] Q) = D_tarpaulinlaw13_TimerAnew_21 F N Q k1 l L := Eq.trans (wpq_seq F (q_tarpaulinlaw13_TimerAnew_21a N) (q_tarpaulinlaw13_TimerAnew_22 N) l t L (fun (l t : Env) (L : Lg) => D_tarpaulinlaw13_TimerAnew_17 F N Q k1 l L) (fun (j : Nat) (l t : Env) (L : Lg) => bif Nat.beq j 2 then (fun (l t : Env) (L : Lg) => D_tarpaulinlaw13_TimerAnew_17 F N Q k1 l L) l t L else (fun (j : Nat) (l t : Env) (L : Lg) => bif Nat.beq j 1 then (fun (l t : Env) (L : Lg) => D_tarpaulinlaw13_TimerAnew_11 F N Q (l 1) (l 2) (l 7) (l 8) L) l t L else (fun _ _ _ _ => False) j l t L) j l t L) (fin [.tmp (.l 6)] Q)) (Eq.trans (congrArg (fun Z : Kn => wp F (q_tarpaulinlaw13_TimerAnew_21a N) l t L Z (fun (j : Nat) (l t : Env) (L : Lg) => bif Nat.beq j 2 then (fun (l t : Env) (L : Lg) => D_tarpaulinlaw13_TimerAnew_17 F N Q k1 l L) l t L else (fun (j : Nat) (l t : Env) (L : Lg) => bif Nat.beq j 1 then (fun (l t : Env) (L : Lg) => D_tarpaulinlaw13_TimerAnew_11 F N Q (l 1) (l 2) (l 7) (l 8) L) l t L else (fun _ _ _ _ => False) j l t L) j l t L) (fin [.tmp (.l 6)] Q)) (funext fun l => funext fun t => funext fun L => e_tarpaulinlaw13_TimerAnew_22 F N Q k1 l t L)) (by kernel_rfl))
def q_tarpaulinlaw13_TimerAnew_20a (N : Nat → Nat) : ACode := (.reg [⟨.t 98, none, .mv, [.l 7]⟩, ⟨.t 99, none, .mv, [.l 8]⟩, ⟨.t 100, none, .mv, [.l 11]⟩, ⟨.t 101, none, .mv, [.l 14]⟩, ⟨.t 102, none, .call (N k_timer_Set_Reset), [.t 98, .t 99, .t 100, .t 101]⟩, ⟨.t 97, none, .mv, [.t 102]⟩, ⟨.t 103, none, .ext 0, [.t 97]⟩, ⟨.t 104, none, .ext 1, [.t 97]⟩, ⟨.t 15, none, .mv, [.t 103]⟩, ⟨.l 16, none, .mv, [.t 104]⟩])
def q_tarpaulinlaw13_TimerAnew_20 (N : Nat → Nat) : ACode := (.seq (q_tarpaulinlaw13_TimerAnew_20a N) (q_tarpaulinlaw13_TimerAnew_21 N))
noncomputable def D_tarpaulinlaw13_TimerAnew_20 (F : Nat → Option AFn) (N : Nat → Nat) (Q : AV → Lg → Prop) (k1 : Env → Lg → Prop) (l : Env) (L : Lg) : Prop :=
 CallL F (N k_timer_Set_Reset) [(l 7), (l 8), (l 11), (l 14)] L fun v1 L1 =>
 wpOp F (.ext 0) [v1] L1 fun v2 L2 =>
 wpOp F (.ext 1) [v1] L2 fun v3 L3 =>
 D_tarpaulinlaw13_TimerAnew_21 F N Q k1 (Env.put l 16 v3) L3
theorem e_tarpaulinlaw13_TimerAnew_20 (F : Nat → Option AFn) (N : Nat → Nat) (Q : AV → Lg → Prop) (k1 : Env → Lg → Prop) (l t : Env) (L : Lg) : wp F (q_tarpaulinlaw13_TimerAnew_20 N) l t L (fun (l t : Env) (L : Lg) => D_tarpaulinlaw13_TimerAnew_17 F N Q k1 l L) (fun (j : Nat) (l t : Env) (L : Lg) => bif Nat.beq j 2 then (fun (l t : Env) (L : Lg) => D_tarpaulinlaw13_TimerAnew_17 F N Q k1 l L) l t L else (fun (j : Nat) (l t : Env) (L : Lg) => bif Nat.beq j 1 then (fun (l t : Env) (L : Lg) => D_tarpaulinlaw13_TimerAnew_11 F N Q (l 1) (l 2) (l 7) (l 8) L) l t L else (fun _ _ _ _ => False) j l t L) j l t L) (fin [.tmp (.l 6)] Q) = D_tarpaulinlaw13_TimerAnew_20 F N Q k1 l L := Eq.trans (wpq_seq F (q_tarpaulinlaw13_TimerAnew_20a N) (q_tarpaulinlaw13_TimerAnew_21 N) l t L (fun (l t : Env) (L : Lg) => D_tarpaulinlaw13_TimerAnew_17 F N Q k1 l L) (fun (j : Nat) (l t : Env) (L : Lg) => bif Nat.beq j 2 then (fun (l t : Env) (L : Lg) => D_tarpaulinlaw13_TimerAnew_17 F N Q k1 l L) l t L else (fun (j : Nat) (l t : Env) (L : Lg) => bif Nat.beq j 1 then (fun (l t : Env) (L : Lg) => D_tarpaulinlaw13_TimerAnew_11 F N Q (l 1) (l 2) (l 7) (l 8) L) l t L else (fun _ _ _ _ => False) j l t L) j l t L) (fin [.tmp (.l 6)] Q)) (Eq.trans (congrArg (fun Z : Kn => wp F (q_tarpaulinlaw13_TimerAnew_20a N) l t L Z (fun (j : Nat) (l t : Env) (L : Lg) => bif Nat.beq j 2 then (fun (l t : Env) (L : Lg) => D_tarpaulinlaw13_TimerAnew_17 F N Q k1 l L) l t L else (fun (j : Nat) (l t : Env) (L : Lg) => bif Nat.beq j 1 then (fun (l t : Env) (L : Lg) => D_tarpaulinlaw13_TimerAnew_11 F N Q (l 1) (l 2) (l 7) (l 8) L) l t L else (fun _ _ _ _ => False) j l t L) j l t L) (fin [.tmp (.l 6)] Q)) (funext fun l => funext fun t => funext fun L => e_tarpaulinlaw13_TimerAnew_21 F N Q k1 l t L)) (by kernel_rfl))
def q_tarpaulinlaw13_TimerAnew_19a (N : Nat → Nat) : ACode := (.reg [⟨.t 91, none, .mv, [.l 2]⟩, ⟨.t 92, none, .mv, [.l 13]⟩, ⟨.t 93, none, .iad 1, [.t 91, .t 92]⟩, ⟨.t 94, none, .ld none, [.t 93]⟩, ⟨.t 95, none, .call (N k_tarpaulinalike_Round), [.t 94, .c (.i .i64 500)]⟩, ⟨.t 96, none, .bin .add, [.c (.i .i64 1), .t 95]⟩, ⟨.l 14, none, .mv, [.t 96]⟩])
def q_tarpaulinlaw13_TimerAnew_19 (N : Nat → Nat) : ACode := (.seq (q_tarpaulinlaw13_TimerAnew_19a N) (q_tarpaulinlaw13_TimerAnew_20 N))
noncomputable def D_tarpaulinlaw13_TimerAnew_19 (F : Nat → Option AFn) (N : Nat → Nat) (Q : AV → Lg → Prop) (k1 : Env → Lg → Prop) (l : Env) (L : Lg) : Prop :=
 wpOp F (.iad 1) [(l 2), (l 13)] L fun v1 L1 =>
 wpOp F (.ld none) [v1] L1 fun v2 L2 =>
 CallL F (N k_tarpaulinalike_Round) [v2, (.i .i64 500)] L2 fun v3 L3 =>
 wpOp F (.bin .add) [(.i .i64 1), v3] L3 fun v4 L4 =>
 D_tarpaulinlaw13_TimerAnew_20 F N Q k1 (Env.put l 14 v4) L4
theorem e_tarpaulinlaw13_TimerAnew_19 (F : Nat → Option AFn) (N : Nat → Nat) (Q : AV → Lg → Prop) (k1 : Env → Lg → Prop) (l t : Env) (L : Lg) : wp F (q_tarpaulinlaw13_TimerAnew_19 N) l t L (fun (l t : Env) (L : Lg) => D_tarpaulinlaw13_TimerAnew_17 F N Q k1 l L) (fun (j : Nat) (l t : Env) (L : Lg) => bif Nat.beq j 2 then (fun (l t : Env) (L : Lg) => D_tarpaulinlaw13_TimerAnew_17 F N Q k1 l L) l t L else (fun (j : Nat) (l t : Env) (L : Lg) => bif Nat.beq j 1 then (fun (l t : Env) (L : Lg) => D_tarpaulinlaw13_TimerAnew_11 F N Q (l 1) (l 2) (l 7) (l 8) L) l t L else (fun _ _ _ _ => False) j l t L) j l t L) (fin [.tmp (.l 6)] Q) = D_tarpaulinlaw13_TimerAnew_19 F N Q k1 l L := Eq.trans (wpq_seq F (q_tarpaulinlaw13_TimerAnew_19a N) (q_tarpaulinlaw13_TimerAnew_20 N) l t L (fun (l t : Env) (L : Lg) => D_tarpaulinlaw13_TimerAnew_17 F N Q k1 l L) (fun (j : Nat) (l t : Env) (L : Lg) => bif Nat.beq j 2 then (fun (l t : Env) (L : Lg) => D_tarpaulinlaw13_TimerAnew_17 F N Q k1 l L) l t L else (fun (j : Nat) (l t : Env) (L : Lg) => bif Nat.beq j 1 then (fun (l t : Env) (L : Lg) => D_tarpaulinlaw13_TimerAnew_11 F N Q (l 1) (l 2) (l 7) (l 8) L) l t L else (fun _ _ _ _ => False) j l t L) j l t L) (fin [.tmp (.l 6)] Q)) (Eq.trans (congrArg (fun Z : Kn => wp F (q_tarpaulinlaw13_TimerAnew_19a N) l t L Z (fun (j : Nat) (l t : Env) (L : Lg) => bif Nat.beq j 2 then (fun (l t : Env) (L : Lg) => D_tarpaulinlaw13_TimerAnew_17 F N Q k1 l L) l t L else (fun (j : Nat) (l t : Env) (L : Lg) => bif Nat.beq j 1 then (fun (l t : Env) (L : Lg) => D_tarpaulinlaw13_TimerAnew_11 F N Q (l 1) (l 2) (l 7) (l 8) L) l t L else (fun _ _ _ _ => False) j l t L) j l t L) (fin [.tmp (.l 6)] Q)) (funext fun l => funext fun t => funext fun L => e_tarpaulinlaw13_TimerAnew_20 F N Q k1 l t L)) (by kernel_rfl))
def q_tarpaulinlaw13_TimerAnew_18 (N : Nat → Nat) : ACode := (.block 2 (q_tarpaulinlaw13_TimerAnew_19 N))
theorem e_tarpaulinlaw13_TimerAnew_18 (F : Nat → Option AFn) (N : Nat → Nat) (Q : AV → Lg → Prop) (k1 : Env → Lg → Prop) (l t : Env) (L : Lg) : wp F (q_tarpaulinlaw13_TimerAnew_18 N) l t L (fun (l t : Env) (L : Lg) => D_tarpaulinlaw13_TimerAnew_17 F N Q k1 l L) (fun (j : Nat) (l t : Env) (L : Lg) => bif Nat.beq j 1 then (fun (l t : Env) (L : Lg) => D_tarpaulinlaw13_TimerAnew_11 F N Q (l 1) (l 2) (l 7) (l 8) L) l t L else (fun _ _ _ _ => False) j l t L) (fin [.tmp (.l 6)] Q) = D_tarpaulinlaw13_TimerAnew_19 F N Q k1 l L := Eq.trans (wpq_block F 2 (q_tarpaulinlaw13_TimerAnew_19 N) l t L (fun (l t : Env) (L : Lg) => D_tarpaulinlaw13_TimerAnew_17 F N Q k1 l L) (fun (j : Nat) (l t : Env) (L : Lg) => bif Nat.beq j 1 then (fun (l t : Env) (L : Lg) => D_tarpaulinlaw13_TimerAnew_11 F N Q (l 1) (l 2) (l 7) (l 8) L) l t L else (fun _ _ _ _ => False) j l t L) (fin [.tmp (.l 6)] Q)) (e_tarpaulinlaw13_TimerAnew_19 F N Q k1 l t L)
def q_tarpaulinlaw13_TimerAnew_16 (N : Nat → Nat) : ACode := (.seq (q_tarpaulinlaw13_TimerAnew_18 N) (q_tarpaulinlaw13_TimerAnew_17 N))
theorem e_tarpaulinlaw13_TimerAnew_16 (F : Nat → Option AFn) (N : Nat → Nat) (Q : AV → Lg → Prop) (k1 : Env → Lg → Prop) (l t : Env) (L : Lg) : wp F (q_tarpaulinlaw13_TimerAnew_16 N) l t L (fun (l _ : Env) (L : Lg) => k1 l L) (fun (j : Nat) (l t : Env) (L : Lg) => bif Nat.beq j 1 then (fun (l t : Env) (L : Lg) => D_tarpaulinlaw13_TimerAnew_11 F N Q (l 1) (l 2) (l 7) (l 8) L) l t L else (fun _ _ _ _ => False) j l t L) (fin [.tmp (.l 6)] Q) = D_tarpaulinlaw13_TimerAnew_19 F N Q k1 l L := Eq.trans (wpq_seq F (q_tarpaulinlaw13_TimerAnew_18 N) (q_tarpaulinlaw13_TimerAnew_17 N) l t L (fun (l _ : Env) (L : Lg) => k1 l L) (fun (j : Nat) (l t : Env) (L : Lg) => bif Nat.beq j 1 then (fun (l t : Env) (L : Lg) => D_tarpaulinlaw13_TimerAnew_11 F N Q (l 1) (l 2) (l 7) (l 8) L) l t L else (fun _ _ _ _ => False) j l t L) (fin [.tmp (.l 6)] Q)) (Eq.trans (congrArg (fun Z : Kn => wp F (q_tarpaulinlaw13_TimerAnew_18 N) l t L Z (fun (j : Nat) (l t : Env) (L : Lg) => bif Nat.beq j 1 then (fun (l t : Env) (L : Lg) => D_tarpaulinlaw13_TimerAnew_11 F N Q (l 1) (l 2) (l 7) (l 8) L) l t L else (fun _ _ _ _ => False) j l t L) (fin [.tmp (.l 6)] Q)) (funext fun l => funext fun t => funext fun L => e_tarpaulinlaw13_TimerAnew_17 F N Q k1 l t L)) (e_tarpaulinlaw13_TimerAnew_18 F N Q k1 l t L))
def q_tarpaulinlaw13_TimerAnew_15a (N : Nat → Nat) : ACode := (.seq (.reg [⟨.t 85, none, .mv, [.l 13]⟩, ⟨.t 86, none, .mv, [.l 2]⟩, ⟨.t 87, none, .lenSl, [.t 86]⟩, ⟨.t 88, none, .bin .lss, [.t 85, .t 87]⟩]) (.cond (.t 88) .skip (.exit 1)))
def q_tarpaulinlaw13_TimerAnew_15 (N : Nat → Nat) : ACode := (.seq (q_tarpaulinlaw13_TimerAnew_15a N) (q_tarpaulinlaw13_TimerAnew_16 N))
noncomputable def D_tarpaulinlaw13_TimerAnew_15 (F : Nat → Option AFn) (N : Nat → Nat) (Q : AV → Lg → Prop) (k1 : Env → Lg → Prop) (l : Env) (L : Lg) : Prop :=
 wpOp F .lenSl [(l 2)] L fun v1 L1 =>
 wpOp F (.bin .lss) [(l 13), v1] L1 fun v2 L2 =>
 condW v2
 (D_tarpaulinlaw13_TimerAnew_19 F N Q k1 l L2)
 (D_tarpaulinlaw13_TimerAnew_11 F N Q (l 1) (l 2) (l 7) (l 8) L2)
theorem e_tarpaulinlaw13_TimerAnew_15 (F : Nat → Option AFn) (N : Nat → Nat) (Q : AV → Lg → Prop) (k1 : Env → Lg → Prop) (l t : Env) (L : Lg) : wp F (q_tarpaulinlaw13_TimerAnew_15 N) l t L (fun (l _ : Env) (L : Lg) => k1 l L) (fun (j : Nat) (l t : Env) (L : Lg) => bif Nat.beq j 1 then (fun (l t : Env) (L : Lg) => D_tarpaulinlaw13_TimerAnew_11 F N Q (l 1) (l 2) (l 7) (l 8) L) l t L else (fun _ _ _ _ => False) j l t L) (fin [.tmp (.l 6)] Q) = D_tarpaulinlaw13_TimerAnew_15 F N Q k1 l L := Eq.trans (wpq_seq F (q_tarpaulinlaw13_TimerAnew_15a N) (q_tarpaulinlaw13_TimerAnew_16 N) l t L (fun (l _ : Env) (L : Lg) => k1 l L) (fun (j : Nat) (l t : Env) (L : Lg) => bif Nat.beq j 1 then (fun (l t : Env) (L : Lg) => D_tarpaulinlaw13_TimerAnew_11 F N Q (l 1) (l 2) (l 7) (l 8) L) l t L else (fun _ _ _ _ => False) j l t L) (fin [.tmp (.l 6)] Q)) (Eq.trans (congrArg (fun Z : Kn => wp F (q_tarpaulinlaw13_TimerAnew_15a N) l t L Z (fun (j : Nat) (l t : Env) (L : Lg) => bif Nat.beq j 1 then (fun (l t : Env) (L : Lg) => D_tarpaulinlaw13_TimerAnew_11 F N Q (l 1) (l 2) (l 7) (l 8) L) l t L else (fun _ _ _ _ => False) j l t L) (fin [.tmp (.l 6)] Q)) (funext fun l => funext fun t => funext fun L => e_tarpaulinlaw13_TimerAnew_16 F N Q k1 l t L)) (by kernel_rfl))
def q_tarpaulinlaw13_TimerAnew_14 (N : Nat → Nat) : ACode := (.loop (q_tarpaulinlaw13_TimerAnew_15 N))
noncomputable def D_tarpaulinlaw13_TimerAnew_14 (F : Nat → Option AFn) (N : Nat → Nat) (Q : AV → Lg → Prop) (l : Env) (L : Lg) : Prop :=
 loopW (fun l t L k1 => D_tarpaulinlaw13_TimerAnew_15 F N Q k1 l L) l L
theorem e_tarpaulinlaw13_TimerAnew_14 (F : Nat → Option AFn) (N : Nat → Nat) (Q : AV → Lg → Prop) (l t : Env) (L : Lg) : wp F (q_tarpaulinlaw13_TimerAnew_14 N) l t L (fun (l t : Env) (L : Lg) => D_tarpaulinlaw13_TimerAnew_11 F N Q (l 1) (l 2) (l 7) (l 8) L) (fun (j : Nat) (l t : Env) (L : Lg) => bif Nat.beq j 1 then (fun (l t : Env) (L : Lg) => D_tarpaulinlaw13_TimerAnew_11 F N Q (l 1) (l 2) (l 7) (l 8) L) l t L else (fun _ _ _ _ => False) j l t L) (fin [.tmp (.l 6)] Q) = D_tarpaulinlaw13_TimerAnew_14 F N Q l L := Eq.trans (wpq_loop F (q_tarpaulinlaw13_TimerAnew_15 N) l t L (fun (l t : Env) (L : Lg) => D_tarpaulinlaw13_TimerAnew_11 F N Q (l 1) (l 2) (l 7) (l 8) L) (fun (j : Nat) (l t : Env) (L : Lg) => bif Nat.beq j 1 then (fun (l t : Env) (L : Lg) => D_tarpaulinlaw13_TimerAnew_11 F N Q (l 1) (l 2) (l 7) (l 8) L) l t L else (fun _ _ _ _ => False) j l t L) (fin [.tmp (.l 6)] Q)) (Eq.trans (congrArg (fun B => loopW B l L) (funext fun l => funext fun t => funext fun L => funext fun k1 => e_tarpaulinlaw13_TimerAnew_15 F N Q k1 l t L)) (by kernel_rfl))
def q_tarpaulinlaw13_TimerAnew_13 (N : Nat → Nat) : ACode := (.block 1 (q_tarpaulinlaw13_TimerAnew_14 N))
theorem e_tarpaulinlaw13_TimerAnew_13 (F : Nat → Option AFn) (N : Nat → Nat) (Q : AV → Lg → Prop) (l t : Env) (L : Lg) : wp F (q_tarpaulinlaw13_TimerAnew_13 N) l t L (fun (l t : Env) (L : Lg) => D_tarpaulinlaw13_TimerAnew_11 F N Q (l 1) (l 2) (l 7) (l 8) L) (fun _ _ _ _ => False) (fin [.tmp (.l 6)] Q) = D_tarpaulinlaw13_TimerAnew_14 F N Q l L := Eq.trans (wpq_block F 1 (q_tarpaulinlaw13_TimerAnew_14 N) l t L (fun (l t : Env) (L : Lg) => D_tarpaulinlaw13_TimerAnew_11 F N Q (l 1) (l 2) (l 7) (l 8) L) (fun _ _ _ _ => False) (fin [.tmp (.l 6)] Q)) (e_tarpaulinlaw13_TimerAnew_14 F N Q l t L)
def q_tarpaulinlaw13_TimerAnew_12a (N : Nat → Nat) : ACode := (.reg [⟨.l 13, none, .mv, [.c (.i .i64 0)]⟩])
def q_tarpaulinlaw13_TimerAnew_12 (N : Nat → Nat) : ACode := (.seq (q_tarpaulinlaw13_TimerAnew_12a N) (q_tarpaulinlaw13_TimerAnew_13 N))
noncomputable def D_tarpaulinlaw13_TimerAnew_12 (F : Nat → Option AFn) (N : Nat → Nat) (Q : AV → Lg → Prop) (l : Env) (L : Lg) : Prop :=
 D_tarpaulinlaw13_TimerAnew_14 F N Q (Env.put l 13 (.i .i64 0)) L
theorem e_tarpaulinlaw13_TimerAnew_12 (F : Nat → Option AFn) (N : Nat → Nat) (Q : AV → Lg → Prop) (l t : Env) (L : Lg) : wp F (q_tarpaulinlaw13_TimerAnew_12 N) l t L (fun (l t : Env) (L : Lg) => D_tarpaulinlaw13_TimerAnew_11 F N Q (l 1) (l 2) (l 7) (l 8) L) (fun _ _ _ _ => False) (fin [.tmp (.l 6)] Q) = D_tarpaulinlaw13_TimerAnew_12 F N Q l L := Eq.trans (wpq_seq F (q_tarpaulinlaw13_TimerAnew_12a N) (q_tarpaulinlaw13_TimerAnew_13 N) l t L (fun (l t : Env) (L : Lg) => D_tarpaulinlaw13_TimerAnew_11 F N Q (l 1) (l 2) (l 7) (l 8) L) (fun _ _ _ _ => False) (fin [.tmp (.l 6)] Q)) (Eq.trans (congrArg (fun Z : Kn => wp F (q_tarpaulinlaw13_TimerAnew_12a N) l t L Z (fun _ _ _ _ => False) (fin [.tmp (.l 6)] Q)) (funext fun l => funext fun t => funext fun L => e_tarpaulinlaw13_TimerAnew_13 F N Q l t L)) (by kernel_rfl))
def q_tarpaulinlaw13_TimerAnew_10 (N : Nat → Nat) : ACode := (.seq (q_tarpaulinlaw13_TimerAnew_12 N) (q_tarpaulinlaw13_TimerAnew_11 N))
theorem e_tarpaulinlaw13_TimerAnew_10 (F : Nat → Option AFn) (N : Nat → Nat) (Q : AV → Lg → Prop) (l t : Env) (L : Lg) : wp F (q_tarpaulinlaw13_TimerAnew_10 N) l t L (fin [.tmp (.l 6)] Q) (fun _ _ _ _ => False) (fin [.tmp (.l 6)] Q) = D_tarpaulinlaw13_TimerAnew_12 F N Q l L := Eq.trans (wpq_seq F (q_tarpaulinlaw13_TimerAnew_12 N) (q_tarpaulinlaw13_TimerAnew_11 N) l t L (fin [.tmp (.l 6)] Q) (fun _ _ _ _ => False) (fin [.tmp (.l 6)] Q)) (Eq.trans (congrArg (fun Z : Kn => wp F (q_tarpaulinlaw13_TimerAnew_12 N) l t L Z (fun _ _ _ _ => False) (fin [.tmp (.l 6)] Q)) (funext fun l => funext fun t => funext fun L => e_tarpaulinlaw13_TimerAnew_11 F N Q l t L)) (e_tarpaulinlaw13_TimerAnew_12 F N Q l t L))
def q_tarpaulinlaw13_TimerAnew_9a (N : Nat → Nat) : ACode := (.reg [⟨.t 84, none, .mv, [.l 1]⟩, ⟨.l 11, none, .mv, [.c (.i .i64 0)]⟩, ⟨.l 12, none, .mv, [.t 84]⟩])
def q_tarpaulinlaw13_TimerAnew_9 (N : Nat → Nat) : ACode := (.seq (q_tarpaulinlaw13_TimerAnew_9a N) (q_tarpaulinlaw13_TimerAnew_10 N))
noncomputable def D_tarpaulinlaw13_TimerAnew_9 (F : Nat → Option AFn) (N : Nat → Nat) (Q : AV → Lg → Prop) (l : Env) (L : Lg) : Prop :=
 D_tarpaulinlaw13_TimerAnew_12 F N Q (Env.put (Env.put l 11 (.i .i64 0)) 12 (l 1)) L
theorem e_tarpaulinlaw13_TimerAnew_9 (F : Nat → Option AFn) (N : Nat → Nat) (Q : AV → Lg → Prop) (l t : Env) (L : Lg) : wp F (q_tarpaulinlaw13_TimerAnew_9 N) l t L (fin [.tmp (.l 6)] Q) (fun _ _ _ _ => False) (fin [.tmp (.l 6)] Q) = D_tarpaulinlaw13_TimerAnew_9 F N Q l L := Eq.trans (wpq_seq F (q_tarpaulinlaw13_TimerAnew_9a N) (q_tarpaulinlaw13_TimerAnew_10 N) l t L (fin [.tmp (.l 6)] Q) (fun _ _ _ _ => False) (fin [.tmp (.l 6)] Q)) (Eq.trans (congrArg (fun Z : Kn => wp F (q_tarpaulinlaw13_TimerAnew_9a N) l t L Z (fun _ _ _ _ => False) (fin [.tmp (.l 6)] Q)) (funext fun l => funext fun t => funext fun L => e_tarpaulinlaw13_TimerAnew_10 F N Q l t L)) (by kernel_rfl))
def q_tarpaulinlaw13_TimerAnew_8a (N : Nat → Nat) : ACode := (.seq (.reg [⟨.t 66, none, .mv, [.l 9]⟩, ⟨.t 67, none, .bin .neq, [.t 66, .c (.i .i64 0)]⟩, ⟨.t 68, none, .mv, [.t 67]⟩, ⟨.t 69, some (.t 68, false), .mv, [.l 7]⟩, ⟨.t 70, some (.t 68, false), .mv, [.l 8]⟩, ⟨.t 71, some (.t 68, false), .call (N k_timer_Set_Kind), [.t 69, .t 70]⟩, ⟨.t 72, some (.t 68, false), .mv, [.l 10]⟩, ⟨.t 73, some (.t 68, false), .bin .neq, [.t 71, .t 72]⟩, ⟨.t 74, none, .pick, [.t 68, .c (.b true), .t 73]⟩, ⟨.t 75, none, .mv, [.t 74]⟩, ⟨.t 76, some (.t 75, false), .mv, [.l 7]⟩, ⟨.t 77, some (.t 75, false), .mv, [.l 8]⟩, ⟨.t 78, some (.t 75, false), .call (N k_timer_Set_Chan), [.t 76, .t 77]⟩, ⟨.t 79, some (.t 75, false), .eq false .ptr, [.t 78, .c (.p none)]⟩, ⟨.t 80, some (.t 75, false), .mv, [.l 10]⟩, ⟨.t 81, some (.t 75, false), .bin .eql, [.t 80, .c (.i .i64 3)]⟩, ⟨.t 82, some (.t 75, false), .eq true .bool, [.t 79, .t 81]⟩, ⟨.t 83, none, .pick, [.t 75, .c (.b true), .t 82]⟩]) (.cond (.t 83) (.seq (.reg [⟨.l 6, none, .mv, [.c (.b false)]⟩]) .ret) .skip))
def q_tarpaulinlaw13_TimerAnew_8 (N : Nat → Nat) : ACode := (.seq (q_tarpaulinlaw13_TimerAnew_8a N) (q_tarpaulinlaw13_TimerAnew_9 N))
noncomputable def D_tarpaulinlaw13_TimerAnew_8 (F : Nat → Option AFn) (N : Nat → Nat) (Q : AV → Lg → Prop) (l : Env) (L : Lg) : Prop :=
 wpOp F (.bin .neq) [(l 9), (.i .i64 0)] L fun v1 L1 =>
 gdOp F v1 false .mv [(l 7)] L1 fun v2 L2 =>
 gdOp F v1 false .mv [(l 8)] L2 fun v3 L3 =>
 gdOp F v1 false (.call (N k_timer_Set_Kind)) [v2, v3] L3 fun v4 L4 =>
 gdOp F v1 false .mv [(l 10)] L4 fun v5 L5 =>
 gdOp F v1 false (.bin .neq) [v4, v5] L5 fun v6 L6 =>
 wpOp F .pick [v1, (.b true), v6] L6 fun v7 L7 =>
 gdOp F v7 false .mv [(l 7)] L7 fun v8 L8 =>
 gdOp F v7 false .mv [(l 8)] L8 fun v9 L9 =>
 gdOp F v7 false (.call (N k_timer_Set_Chan)) [v8, v9] L9 fun v10 L10 =>
 gdOp F v7 false (.eq false .ptr) [v10, (.p none)] L10 fun v11 L11 =>
 gdOp F v7 false .mv [(l 10)] L11 fun v12 L12 =>
 gdOp F v7 false (.bin .eql) [v12, (.i .i64 3)] L12 fun v13 L13 =>
 gdOp F v7 false (.eq true .bool) [v11, v13] L13 fun v14 L14 =>
 wpOp F .pick [v7, (.b true), v14] L14 fun v15 L15 =>
 condW v15
 (fin1 (some (.b false)) Q L15)
 (D_tarpaulinlaw13_TimerAnew_9 F N Q l L15)
theorem e_tarpaulinlaw13_TimerAnew_8 (F : Nat → Option AFn) (N : Nat → Nat) (Q : AV → Lg → Prop) (l t : Env) (L : Lg) : wp F (q_tarpaulinlaw13_TimerAnew_8 N) l t L (fin [.tmp (.l 6)] Q) (fun _ _ _ _ => False) (fin [.tmp (.l 6)] Q) = D_tarpaulinlaw13_TimerAnew_8 F N Q l L := Eq.trans (wpq_seq F (q_tarpaulinlaw13_TimerAnew_8a N) (q_tarpaulinlaw13_TimerAnew_9 N) l t L (fin [.tmp (.l 6)] Q) (fun _ _ _ _ => False) (fin [.tmp (.l 6)] Q)) (Eq.trans (congrArg (fun Z : Kn => wp F (q_tarpaulinlaw13_TimerAnew_8a N) l t L Z (fun _ _ _ _ => False) (fin [.tmp (.l 6)] Q)) (funext fun l => funext fun t => funext fun L => e_tarpaulinlaw13_TimerAnew_9 F N Q l t L)) (by kernel_rfl))
def q_tarpaulinlaw13_TimerAnew_7a (N : Nat → Nat) : ACode := (.seq (.reg [⟨.l 41, none, .mv, [.l 10]⟩]) (.block 0 (.seq (.reg [⟨.t 49, none, .bin .eql, [.l 41, .c (.i .i64 1)]⟩, ⟨.t 48, none, .mv, [.t 49]⟩]) (.cond (.t 48) (.reg [⟨.t 51, none, .mv, [.l 7]⟩, ⟨.t 52, none, .mv, [.l 1]⟩, ⟨.t 53, none, .call (N k_timer_Set_Timer), [.t 51, .c (.i .i64 0), .t 52]⟩, ⟨.t 50, none, .mv, [.t 53]⟩, ⟨.t 54, none, .ext 0, [.t 50]⟩, ⟨.t 55, none, .ext 1, [.t 50]⟩, ⟨.t 56, none, .ext 2, [.t 50]⟩, ⟨.l 8, none, .mv, [.t 54]⟩, ⟨.l 9, none, .mv, [.t 56]⟩]) (.seq (.reg [⟨.t 58, none, .bin .eql, [.l 41, .c (.i .i64 2)]⟩, ⟨.t 57, none, .mv, [.t 58]⟩]) (.cond (.t 57) (.reg [⟨.t 60, none, .mv, [.l 7]⟩, ⟨.t 61, none, .mv, [.l 1]⟩, ⟨.t 62, none, .call (N k_timer_Set_Ticker), [.t 60, .c (.i .i64 0), .t 61]⟩, ⟨.t 59, none, .mv, [.t 62]⟩, ⟨.t 63, none, .ext 0, [.t 59]⟩, ⟨.t 64, none, .ext 1, [.t 59]⟩, ⟨.t 65, none, .ext 2, [.t 59]⟩, ⟨.l 8, none, .mv, [.t 63]⟩, ⟨.l 9, none, .mv, [.t 65]⟩]) (.reg [⟨.t 43, none, .mv, [.l 7]⟩, ⟨.t 44, none, .mv, [.l 1]⟩, ⟨.t 45, none, .call (N k_timer_Set_Func), [.t 43, .c (.i .i64 0), .t 44, .c (.i .i64 7)]⟩, ⟨.t 42, none, .mv, [.t 45]⟩, ⟨.t 46, none, .ext 0, [.t 42]⟩, ⟨.t 47, none, .ext 1, [.t 42]⟩, ⟨.l 8, none, .mv, [.t 46]⟩, ⟨.l 9, none, .mv, [.t 47]⟩])))))))
def q_tarpaulinlaw13_TimerAnew_7 (N : Nat → Nat) : ACode := (.seq (q_tarpaulinlaw13_TimerAnew_7a N) (q_tarpaulinlaw13_TimerAnew_8 N))
noncomputable def D_tarpaulinlaw13_TimerAnew_7 (F : Nat → Option AFn) (N : Nat → Nat) (Q : AV → Lg → Prop) (l : Env) (L : Lg) : Prop :=
 wpOp F (.bin .eql) [(l 10), (.i .i64 1)] L fun v1 L1 =>
 condW v1
 (CallL F (N k_timer_Set_Timer) [(l 7), (.i .i64 0), (l 1)] L1 fun v2 L2 =>
 wpOp F (.ext 0) [v2] L2 fun v3 L3 =>
 wpOp F (.ext 1) [v2] L3 fun v4 L4 =>
 wpOp F (.ext 2) [v2] L4 fun v5 L5 =>
 D_tarpaulinlaw13_TimerAnew_8 F N Q (Env.put (Env.put (Env.put l 41 (l 10)) 8 v3) 9 v5) L5)
 (wpOp F (.bin .eql) [(l 10), (.i .i64 2)] L1 fun v6 L6 =>
 condW v6
 (CallL F (N k_timer_Set_Ticker) [(l 7), (.i .i64 0), (l 1)] L6 fun v7 L7 =>
 wpOp F (.ext 0) [v7] L7 fun v8 L8 =>
 wpOp F (.ext 1) [v7] L8 fun v9 L9 =>
 wpOp F (.ext 2) [v7] L9 fun v10 L10 =>
 D_tarpaulinlaw13_TimerAnew_8 F N Q (Env.put (Env.put (Env.put l 41 (l 10)) 8 v8) 9 v10) L10)
 (CallL F (N k_timer_Set_Func) [(l 7), (.i .i64 0), (l 1), (.i .i64 7)] L6 fun v11 L11 =>
 wpOp F (.ext 0) [v11] L11 fun v12 L12 =>
 wpOp F (.ext 1) [v11] L12 fun v13 L13 =>
 D_tarpaulinlaw13_TimerAnew_8 F N Q (Env.put (Env.put (Env.put l 41 (l 10)) 8 v12) 9 v13) L13))
theorem e_tarpaulinlaw13_TimerAnew_7 (F : Nat → Option AFn) (N : Nat → Nat) (Q : AV → Lg → Prop) (l t : Env) (L : Lg) : wp F (q_tarpaulinlaw13_TimerAnew_7 N) l t L (fin [.tmp (.l 6)] Q) (fun _ _ _ _ => False) (fin [.tmp (.l 6)] Q) = D_tarpaulinlaw13_TimerAnew_7 F N Q l L := Eq.trans (wpq_seq F (q_tarpaulinlaw13_TimerAnew_7a N) (q_tarpaulinlaw13_TimerAnew_8 N) l t L (fin [.tmp (.l 6)] Q) (fun _ _ _ _ => False) (fin [.tmp (.l 6)] Q)) (Eq.trans (congrArg (fun Z : Kn => wp F (q_tarpaulinlaw13_TimerAnew_7a N) l t L Z (fun _ _ _ _ => False) (fin [.tmp (.l 6)] Q)) (funext fun l => funext fun t => funext fun L => e_tarpaulinlaw13_TimerAnew_8 F N Q l t L)) (by kernel_rfl))
def q_tarpaulinlaw13_TimerAnew_6a (N : Nat → Nat) : ACode := (.reg [⟨.t 38, none, .mv, [.l 0]⟩, ⟨.t 39, none, .call (N k_tarpaulinalike_Round), [.t 38, .c (.i .i64 3)]⟩, ⟨.t 40, none, .bin .add, [.c (.i .i64 1), .t 39]⟩, ⟨.l 10, none, .mv, [.t 40]⟩])
def q_tarpaulinlaw13_TimerAnew_6 (N : Nat → Nat) : ACode := (.seq (q_tarpaulinlaw13_TimerAnew_6a N) (q_tarpaulinlaw13_TimerAnew_7 N))
noncomputable def D_tarpaulinlaw13_TimerAnew_6 (F : Nat → Option AFn) (N : Nat → Nat) (Q : AV → Lg → Prop) (l : Env) (L : Lg) : Prop :=
 CallL F (N k_tarpaulinalike_Round) [(l 0), (.i .i64 3)] L fun v1 L1 =>
 wpOp F (.bin .add) [(.i .i64 1), v1] L1 fun v2 L2 =>
 D_tarpaulinlaw13_TimerAnew_7 F N Q (Env.put l 10 v2) L2
theorem e_tarpaulinlaw13_TimerAnew_6 (F : Nat → Option AFn) (N : Nat → Nat) (Q : AV → Lg → Prop) (l t : Env) (L : Lg) : wp F (q_tarpaulinlaw13_TimerAnew_6 N) l t L (fin [.tmp (.l 6)] Q) (fun _ _ _ _ => False) (fin [.tmp (.l 6)] Q) = D_tarpaulinlaw13_TimerAnew_6 F N Q l L := Eq.trans (wpq_seq F (q_tarpaulinlaw13_TimerAnew_6a N) (q_tarpaulinlaw13_TimerAnew_7 N) l t L (fin [.tmp (.l 6)] Q) (fun _ _ _ _ => False) (fin [.tmp (.l 6)] Q)) (Eq.trans (congrArg (fun Z : Kn => wp F (q_tarpaulinlaw13_TimerAnew_6a N) l t L Z (fun _ _ _ _ => False) (fin [.tmp (.l 6)] Q)) (funext fun l => funext fun t => funext fun L => e_tarpaulinlaw13_TimerAnew_7 F N Q l t L)) (by kernel_rfl))
def q_tarpaulinlaw13_TimerAnew_5a (N : Nat → Nat) : ACode := (.reg [⟨.l 8, none, .mv, [.c (.i .i64 0)]⟩, ⟨.l 9, none, .mv, [.c (.i .i64 0)]⟩])
def q_tarpaulinlaw13_TimerAnew_5 (N : Nat → Nat) : ACode := (.seq (q_tarpaulinlaw13_TimerAnew_5a N) (q_tarpaulinlaw13_TimerAnew_6 N))
noncomputable def D_tarpaulinlaw13_TimerAnew_5 (F : Nat → Option AFn) (N : Nat → Nat) (Q : AV → Lg → Prop) (l : Env) (L : Lg) : Prop :=
 D_tarpaulinlaw13_TimerAnew_6 F N Q (Env.put (Env.put l 8 (.i .i64 0)) 9 (.i .i64 0)) L
theorem e_tarpaulinlaw13_TimerAnew_5 (F : Nat → Option AFn) (N : Nat → Nat) (Q : AV → Lg → Prop) (l t : Env) (L : Lg) : wp F (q_tarpaulinlaw13_TimerAnew_5 N) l t L (fin [.tmp (.l 6)] Q) (fun _ _ _ _ => False) (fin [.tmp (.l 6)] Q) = D_tarpaulinlaw13_TimerAnew_5 F N Q l L := Eq.trans (wpq_seq F (q_tarpaulinlaw13_TimerAnew_5a N) (q_tarpaulinlaw13_TimerAnew_6 N) l t L (fin [.tmp (.l 6)] Q) (fun _ _ _ _ => False) (fin [.tmp (.l 6)] Q)) (Eq.trans (congrArg (fun Z : Kn => wp F (q_tarpaulinlaw13_TimerAnew_5a N) l t L Z (fun _ _ _ _ => False) (fin [.tmp (.l 6)] Q)) (funext fun l => funext fun t => funext fun L => e_tarpaulinlaw13_TimerAnew_6 F N Q l t L)) (by kernel_rfl))
def q_tarpaulinlaw13_TimerAnew_4a (N : Nat → Nat) : ACode := (.seq (.reg [⟨.t 36, none, .mv, [.l 7]⟩, ⟨.t 37, none, .eq false .ptr, [.t 36, .c (.p none)]⟩]) (.cond (.t 37) (.seq (.reg [⟨.l 6, none, .mv, [.c (.b false)]⟩]) .ret) .skip))
def q_tarpaulinlaw13_TimerAnew_4 (N : Nat → Nat) : ACode := (.seq (q_tarpaulinlaw13_TimerAnew_4a N) (q_tarpaulinlaw13_TimerAnew_5 N))
noncomputable def D_tarpaulinlaw13_TimerAnew_4 (F : Nat → Option AFn) (N : Nat → Nat) (Q : AV → Lg → Prop) (l : Env) (L : Lg) : Prop :=
 wpOp F (.eq false .ptr) [(l 7), (.p none)] L fun v1 L1 =>
 condW v1
 (fin1 (some (.b false)) Q L1)
 (D_tarpaulinlaw13_TimerAnew_5 F N Q l L1)
theorem e_tarpaulinlaw13_TimerAnew_4 (F : Nat → Option AFn) (N : Nat → Nat) (Q : AV → Lg → Prop) (l t : Env) (L : Lg) : wp F (q_tarpaulinlaw13_TimerAnew_4 N) l t L (fin [.tmp (.l 6)] Q) (fun _ _ _ _ => False) (fin [.tmp (.l 6)] Q) = D_tarpaulinlaw13_TimerAnew_4 F N Q l L := Eq.trans (wpq_seq F (q_tarpaulinlaw13_TimerAnew_4a N) (q_tarpaulinlaw13_TimerAnew_5 N) l t L (fin [.tmp (.l 6)] Q) (fun _ _ _ _ => False) (fin [.tmp (.l 6)] Q)) (Eq.trans (congrArg (fun Z : Kn => wp F (q_tarpaulinlaw13_TimerAnew_4a N) l t L Z (fun _ _ _ _ => False) (fin [.tmp (.l 6)] Q)) (funext fun l => funext fun t => funext fun L => e_tarpaulinlaw13_TimerAnew_5 F N Q l t L)) (by kernel_rfl))
def q_tarpaulinlaw13_TimerAnew_3a (N : Nat → Nat) : ACode := (.reg [⟨.t 35, none, .call (N k_timer_New), []⟩, ⟨.l 7, none, .mv, [.t 35]⟩])
def q_tarpaulinlaw13_TimerAnew_3 (N : Nat → Nat) : ACode := (.seq (q_tarpaulinlaw13_TimerAnew_3a N) (q_tarpaulinlaw13_TimerAnew_4 N))
noncomputable def D_tarpaulinlaw13_TimerAnew_3 (F : Nat → Option AFn) (N : Nat → Nat) (Q : AV → Lg → Prop) (l : Env) (L : Lg) : Prop :=
 CallL F (N k_timer_New) [] L fun v1 L1 =>
 D_tarpaulinlaw13_TimerAnew_4 F N Q (Env.put l 7 v1) L1
theorem e_tarpaulinlaw13_TimerAnew_3 (F : Nat → Option AFn) (N : Nat → Nat) (Q : AV → Lg → Prop) (l t : Env) (L : Lg) : wp F (q_tarpaulinlaw13_TimerAnew_3 N) l t L (fin [.tmp (.l 6)] Q) (fun _ _ _ _ => False) (fin [.tmp (.l 6)] Q) = D_tarpaulinlaw13_TimerAnew_3 F N Q l L := Eq.trans (wpq_seq F (q_tarpaulinlaw13_TimerAnew_3a N) (q_tarpaulinlaw13_TimerAnew_4 N) l t L (fin [.tmp (.l 6)] Q) (fun _ _ _ _ => False) (fin [.tmp (.l 6)] Q)) (Eq.trans (congrArg (fun Z : Kn => wp F (q_tarpaulinlaw13_TimerAnew_3a N) l t L Z (fun _ _ _ _ => False) (fin [.tmp (.l 6)] Q)) (funext fun l => funext fun t => funext fun L => e_tarpaulinlaw13_TimerAnew_4 F N Q l t L)) (by kernel_rfl))
def q_tarpaulinlaw13_TimerAnew_2a (N : Nat → Nat) : ACode := (.seq (.reg [⟨.t 23, none, .mv, [.l 1]⟩, ⟨.t 24, none, .bin .lss, [.t 23, .c (.i .i64 1)]⟩, ⟨.t 25, none, .mv, [.t 24]⟩, ⟨.t 26, some (.t 25, false), .mv, [.l 1]⟩, ⟨.t 27, some (.t 25, false), .bin .gtr, [.t 26, .c (.i .i64 1000)]⟩, ⟨.t 28, none, .pick, [.t 25, .c (.b true), .t 27]⟩, ⟨.t 29, none, .mv, [.t 28]⟩, ⟨.t 30, some (.t 29, false), .mv, [.l 2]⟩, ⟨.t 31, some (.t 29, false), .lenSl, [.t 30]⟩, ⟨.t 32, some (.t 29, false), .bin .gtr, [.t 31, .c (.i .i64 30)]⟩, ⟨.t 33, none, .pick, [.t 29, .c (.b true), .t 32]⟩]) (.cond (.t 33) (.seq (.reg [⟨.t 34, none, .call (N k_tarpaulinlaw13_awake), []⟩, ⟨.l 6, none, .mv, [.t 34]⟩]) .ret) .skip))
def q_tarpaulinlaw13_TimerAnew_2 (N : Nat → Nat) : ACode := (.seq (q_tarpaulinlaw13_TimerAnew_2a N) (q_tarpaulinlaw13_TimerAnew_3 N))
noncomputable def D_tarpaulinlaw13_TimerAnew_2 (F : Nat → Option AFn) (N : Nat → Nat) (Q : AV → Lg → Prop) (l : Env) (L : Lg) : Prop :=
 wpOp F (.bin .lss) [(l 1), (.i .i64 1)] L fun v1 L1 =>
 gdOp F v1 false .mv [(l 1)] L1 fun v2 L2 =>
 gdOp F v1 false (.bin .gtr) [v2, (.i .i64 1000)] L2 fun v3 L3 =>
 wpOp F .pick [v1, (.b true), v3] L3 fun v4 L4 =>
 gdOp F v4 false .mv [(l 2)] L4 fun v5 L5 =>
 gdOp F v4 false .lenSl [v5] L5 fun v6 L6 =>
 gdOp F v4 false (.bin .gtr) [v6, (.i .i64 30)] L6 fun v7 L7 =>
 wpOp F .pick [v4, (.b true), v7] L7 fun v8 L8 =>
 condW v8
 (CallL F (N k_tarpaulinlaw13_awake) [] L8 fun v9 L9 =>
 fin1 (some v9) Q L9)
 (D_tarpaulinlaw13_TimerAnew_3 F N Q l L8)
theorem e_tarpaulinlaw13_TimerAnew_2 (F : Nat → Option AFn) (N : Nat → Nat) (Q : AV → Lg → Prop) (l t : Env) (L : Lg) : wp F (q_tarpaulinlaw13_TimerAnew_2 N) l t L (fin [.tmp (.l 6)] Q) (fun _ _ _ _ => False) (fin [.tmp (.l 6)] Q) = D_tarpaulinlaw13_TimerAnew_2 F N Q l L := Eq.trans (wpq_seq F (q_tarpaulinlaw13_TimerAnew_2a N) (q_tarpaulinlaw13_TimerAnew_3 N) l t L (fin [.tmp (.l 6)] Q) (fun _ _ _ _ => False) (fin [.tmp (.l 6)] Q)) (Eq.trans (congrArg (fun Z : Kn => wp F (q_tarpaulinlaw13_TimerAnew_2a N) l t L Z (fun _ _ _ _ => False) (fin [.tmp (.l 6)] Q)) (funext fun l => funext fun t => funext fun L => e_tarpaulinlaw13_TimerAnew_3 F N Q l t L)) (by kernel_rfl))
def q_tarpaulinlaw13_TimerAnew_1a (N : Nat → Nat) : ACode := (.reg [⟨.l 6, none, .mv, [.c (.b false)]⟩])
def q_tarpaulinlaw13_TimerAnew_1 (N : Nat → Nat) : ACode := (.seq (q_tarpaulinlaw13_TimerAnew_1a N) (q_tarpaulinlaw13_TimerAnew_2 N))
noncomputable def D_tarpaulinlaw13_TimerAnew_1 (F : Nat → Option AFn) (N : Nat → Nat) (Q : AV → Lg → Prop) (l : Env) (L : Lg) : Prop :=
 D_tarpaulinlaw13_TimerAnew_2 F N Q (Env.put l 6 (.b false)) L
theorem e_tarpaulinlaw13_TimerAnew_1 (F : Nat → Option AFn) (N : Nat → Nat) (Q : AV → Lg → Prop) (l t : Env) (L : Lg) : wp F (q_tarpaulinlaw13_TimerAnew_1 N) l t L (fin [.tmp (.l 6)] Q) (fun _ _ _ _ => False) (fin [.tmp (.l 6)] Q) = D_tarpaulinlaw13_TimerAnew_1 F N Q l L := Eq.trans (wpq_seq F (q_tarpaulinlaw13_TimerAnew_1a N) (q_tarpaulinlaw13_TimerAnew_2 N) l t L (fin [.tmp (.l 6)] Q) (fun _ _ _ _ => False) (fin [.tmp (.l 6)] Q)) (Eq.trans (congrArg (fun Z : Kn => wp F (q_tarpaulinlaw13_TimerAnew_1a N) l t L Z (fun _ _ _ _ => False) (fin [.tmp (.l 6)] Q)) (funext fun l => funext fun t => funext fun L => e_tarpaulinlaw13_TimerAnew_2 F N Q l t L)) (by kernel_rfl))
/-- tarpaulin/tarpaulinlaw13.TimerAnew -/
def c_tarpaulinlaw13_TimerAnew (N : Nat → Nat) : AFn := ⟨q_tarpaulinlaw13_TimerAnew_1 N, [.tmp (.l 6)]⟩
theorem r_tarpaulinlaw13_TimerAnew {F : Nat → Option AFn} {N : Nat → Nat} (h : F (N k_tarpaulinlaw13_TimerAnew) = some (c_tarpaulinlaw13_TimerAnew N)) {Q : AV → Lg → Prop} {a0 a1 a2 : AV} {L : Lg} (e : D_tarpaulinlaw13_TimerAnew_1 F N Q (initE [a0, a1, a2] 0) L) : CallL F (N k_tarpaulinlaw13_TimerAnew) [a0, a1, a2] L Q :=
  CallL.of_wp h (Eq.mpr (Eq.trans (e_tarpaulinlaw13_TimerAnew_1 F N Q (initE [a0, a1, a2] 0) Env.nil L) (by kernel_rfl : _ = D_tarpaulinlaw13_TimerAnew_1 F N Q (initE [a0, a1, a2] 0) L)) e)
end Go.AM
