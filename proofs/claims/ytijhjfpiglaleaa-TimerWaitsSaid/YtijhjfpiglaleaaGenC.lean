/- The code of functions, with names for their numbers, and what is left of its weakest preconditions. PRINTED by our printgen.py. -/
import Derived.Test.YtijhjfpiglaleaaGenB
import Derived.KernelRfl
set_option linter.unusedVariables false
set_option maxRecDepth 100000
namespace Go.AM
def k_tarpaulinlaw13_TimerWaits : Nat := 116
def q_tarpaulinlaw13_TimerWaits_10 (N : Nat → Nat) : ACode := (.seq (.reg [⟨.t 104, none, .mv, [.l 9]⟩, ⟨.t 105, none, .call (N k_chanq_Chan_Can), [.t 104, .c (.b false)]⟩, ⟨.t 106, none, .un .not, [.t 105]⟩, ⟨.t 107, none, .mv, [.t 106]⟩, ⟨.t 108, some (.t 107, true), .mv, [.l 9]⟩, ⟨.t 109, some (.t 107, true), .call (N k_chanq_Chan_Waiting), [.t 108, .c (.b false)]⟩, ⟨.t 110, some (.t 107, true), .lenSl, [.t 109]⟩, ⟨.t 111, some (.t 107, true), .bin .eql, [.t 110, .c (.i .i64 0)]⟩, ⟨.t 112, none, .pick, [.t 107, .t 111, .c (.b false)]⟩, ⟨.t 113, none, .mv, [.t 112]⟩, ⟨.t 114, some (.t 113, true), .call (N k_tarpaulinlaw13_awake), []⟩, ⟨.t 115, none, .pick, [.t 113, .t 114, .c (.b false)]⟩, ⟨.l 6, none, .mv, [.t 115]⟩]) .ret)
noncomputable def D_tarpaulinlaw13_TimerWaits_10 (F : Nat → Option AFn) (N : Nat → Nat) (Q : AV → Lg → Prop) (x9 : AV) (L : Lg) : Prop :=
 CallL F (N k_chanq_Chan_Can) [x9, (.b false)] L fun v1 L1 =>
 wpOp F (.un .not) [v1] L1 fun v2 L2 =>
 gdOp F v2 true .mv [x9] L2 fun v3 L3 =>
 gdOp F v2 true (.call (N k_chanq_Chan_Waiting)) [v3, (.b false)] L3 fun v4 L4 =>
 gdOp F v2 true .lenSl [v4] L4 fun v5 L5 =>
 gdOp F v2 true (.bin .eql) [v5, (.i .i64 0)] L5 fun v6 L6 =>
 wpOp F .pick [v2, v6, (.b false)] L6 fun v7 L7 =>
 gdOp F v7 true (.call (N k_tarpaulinlaw13_awake)) [] L7 fun v8 L8 =>
 wpOp F .pick [v7, v8, (.b false)] L8 fun v9 L9 =>
 fin1 (some v9) Q L9
theorem e_tarpaulinlaw13_TimerWaits_10 (F : Nat → Option AFn) (N : Nat → Nat) (Q : AV → Lg → Prop) (l t : Env) (L : Lg) : wp F (q_tarpaulinlaw13_TimerWaits_10 N) l t L (fin [.tmp (.l 6)] Q) (fun _ _ _ _ => False) (fin [.tmp (.l 6)] Q) = D_tarpaulinlaw13_TimerWaits_10 F N Q (l 9) L := by kernel_rfl
def q_tarpaulinlaw13_TimerWaits_16 (N : Nat → Nat) : ACode := (.reg [⟨.t 68, none, .mv, [.l 13]⟩, ⟨.t 69, none, .bin .add, [.t 68, .c (.i .i64 1)]⟩, ⟨.l 13, none, .mv, [.t 69]⟩])
noncomputable def D_tarpaulinlaw13_TimerWaits_16 (F : Nat → Option AFn) (N : Nat → Nat) (Q : AV → Lg → Prop) (k1 : Env → Lg → Prop) (l : Env) (L : Lg) : Prop :=
 wpOp F (.bin .add) [(l 13), (.i .i64 1)] L fun v1 L1 =>
 k1 (Env.put l 13 v1) L1
theorem e_tarpaulinlaw13_TimerWaits_16 (F : Nat → Option AFn) (N : Nat → Nat) (Q : AV → Lg → Prop) (k1 : Env → Lg → Prop) (l t : Env) (L : Lg) : wp F (q_tarpaulinlaw13_TimerWaits_16 N) l t L (fun (l _ : Env) (L : Lg) => k1 l L) (fun (j : Nat) (l t : Env) (L : Lg) => bif Nat.beq j 2 then (fun (l t : Env) (L : Lg) => D_tarpaulinlaw13_TimerWaits_10 F N Q (l 9) L) l t L else (fun _ _ _ _ => False) j l t L) (fin [.tmp (.l 6)] Q) = D_tarpaulinlaw13_TimerWaits_16 F N Q k1 l L := by kernel_rfl
def q_tarpaulinlaw13_TimerWaits_15a (N : Nat → Nat) : ACode := (.block 3 (.seq (.reg [⟨.t 70, none, .mv, [.l 12]⟩, ⟨.t 71, none, .mv, [.l 1]⟩, ⟨.t 72, none, .bin .add, [.t 70, .t 71]⟩, ⟨.t 73, none, .mv, [.l 2]⟩, ⟨.t 74, none, .bin .add, [.t 72, .t 73]⟩, ⟨.l 12, none, .mv, [.t 74]⟩]) (.seq (.reg [⟨.t 76, none, .mv, [.l 7]⟩, ⟨.t 77, none, .mv, [.l 12]⟩, ⟨.t 78, none, .call (N k_timer_Set_Fire), [.t 76, .t 77]⟩, ⟨.t 75, none, .mv, [.t 78]⟩, ⟨.t 79, none, .ext 0, [.t 75]⟩, ⟨.t 80, none, .ext 1, [.t 75]⟩, ⟨.l 14, none, .alloc [.i .i64 0, .i .i64 0, .i .i64 0, .i .i64 0, .i .i64 0, .sl none 0 0 0, .b false], []⟩, ⟨.no, none, .st 7, [.l 14, .t 79]⟩, ⟨.l 15, none, .mv, [.t 80]⟩]) (.seq (.reg [⟨.t 81, none, .mv, [.l 15]⟩, ⟨.t 82, none, .un .not, [.t 81]⟩, ⟨.t 83, none, .mv, [.t 82]⟩, ⟨.t 84, some (.t 83, false), .fad 6, [.l 14]⟩, ⟨.t 85, some (.t 83, false), .ld none, [.t 84]⟩, ⟨.t 86, some (.t 83, false), .un .not, [.t 85]⟩, ⟨.t 87, none, .pick, [.t 83, .c (.b true), .t 86]⟩, ⟨.t 88, none, .mv, [.t 87]⟩, ⟨.t 89, some (.t 88, false), .fad 5, [.l 14]⟩, ⟨.t 90, some (.t 88, false), .ld none, [.t 89]⟩, ⟨.t 91, some (.t 88, false), .lenSl, [.t 90]⟩, ⟨.t 92, some (.t 88, false), .bin .neq, [.t 91, .c (.i .i64 1)]⟩, ⟨.t 93, none, .pick, [.t 88, .c (.b true), .t 92]⟩, ⟨.t 94, none, .mv, [.t 93]⟩, ⟨.t 95, some (.t 94, false), .fad 5, [.l 14]⟩, ⟨.t 96, some (.t 94, false), .ld none, [.t 95]⟩, ⟨.t 97, some (.t 94, false), .iad 5, [.t 96, .c (.i .i64 0)]⟩, ⟨.t 98, some (.t 94, false), .ld (some 5), [.t 97]⟩, ⟨.t 99, some (.t 94, false), .mv, [.l 13]⟩, ⟨.t 100, some (.t 94, false), .mv, [.l 12]⟩, ⟨.t 101, some (.t 94, false), .build [.i .i64 0, .i .i64 0, .i .i64 0, .b false, .b false] [(0, 1), (1, 1), (2, 1), (3, 1)], [.t 99, .c (.i .i64 3), .t 100, .c (.b true)]⟩, ⟨.t 102, some (.t 94, false), .eq true (.agg [(0, 1), (1, 1), (2, 1), (3, 0), (4, 0)]), [.t 98, .t 101]⟩, ⟨.t 103, none, .pick, [.t 94, .c (.b true), .t 102]⟩]) (.cond (.t 103) (.seq (.reg [⟨.l 6, none, .mv, [.c (.b false)]⟩]) .ret) .skip)))))
def q_tarpaulinlaw13_TimerWaits_15 (N : Nat → Nat) : ACode := (.seq (q_tarpaulinlaw13_TimerWaits_15a N) (q_tarpaulinlaw13_TimerWaits_16 N))
noncomputable def D_tarpaulinlaw13_TimerWaits_15 (F : Nat → Option AFn) (N : Nat → Nat) (Q : AV → Lg → Prop) (k1 : Env → Lg → Prop) (l : Env) (L : Lg) : Prop :=
 wpOp F (.bin .add) [(l 12), (l 1)] L fun v1 L1 =>
 wpOp F (.bin .add) [v1, (l 2)] L1 fun v2 L2 =>
 CallL F (N k_timer_Set_Fire) [(l 7), v2] L2 fun v3 L3 =>
 wpOp F (.ext 0) [v3] L3 fun v4 L4 =>
 wpOp F (.ext 1) [v3] L4 fun v5 L5 =>
 wpOp F (.alloc [.i .i64 0, .i .i64 0, .i .i64 0, .i .i64 0, .i .i64 0, .sl none 0 0 0, .b false]) [] L5 fun v6 L6 =>
 wpOp F (.st 7) [v6, v4] L6 fun _ L7 =>
 wpOp F (.un .not) [v5] L7 fun v8 L8 =>
 gdOp F v8 false (.fad 6) [v6] L8 fun v9 L9 =>
 gdOp F v8 false (.ld none) [v9] L9 fun v10 L10 =>
 gdOp F v8 false (.un .not) [v10] L10 fun v11 L11 =>
 wpOp F .pick [v8, (.b true), v11] L11 fun v12 L12 =>
 gdOp F v12 false (.fad 5) [v6] L12 fun v13 L13 =>
 gdOp F v12 false (.ld none) [v13] L13 fun v14 L14 =>
 gdOp F v12 false .lenSl [v14] L14 fun v15 L15 =>
 gdOp F v12 false (.bin .neq) [v15, (.i .i64 1)] L15 fun v16 L16 =>
 wpOp F .pick [v12, (.b true), v16] L16 fun v17 L17 =>
 gdOp F v17 false (.fad 5) [v6] L17 fun v18 L18 =>
 gdOp F v17 false (.ld none) [v18] L18 fun v19 L19 =>
 gdOp F v17 false (.iad 5) [v19, (.i .i64 0)] L19 fun v20 L20 =>
 gdOp F v17 false (.ld (some 5)) [v20] L20 fun v21 L21 =>
 gdOp F v17 false .mv [(l 13)] L21 fun v22 L22 =>
 gdOp F v17 false .mv [v2] L22 fun v23 L23 =>
 gdOp F v17 false (.build [.i .i64 0, .i .i64 0, .i .i64 0, .b false, .b false] [(0, 1), (1, 1), (2, 1), (3, 1)]) [v22, (.i .i64 3), v23, (.b true)] L23 fun v24 L24 =>
 gdOp F v17 false (.eq true (.agg [(0, 1), (1, 1), (2, 1), (3, 0), (4, 0)])) [v21, v24] L24 fun v25 L25 =>
 wpOp F .pick [v17, (.b true), v25] L25 fun v26 L26 =>
 condW v26
 (fin1 (some (.b false)) Q L26)
 (D_tarpaulinlaw13_TimerWaits_16 F N Q k1 (Env.put (Env.put (Env.put l 12 v2) 14 v6) 15 v5) L26)
theorem e_tarpaulinlaw13_TimerWaits_15 (F : Nat → Option AFn) (N : Nat → Nat) (Q : AV → Lg → Prop) (k1 : Env → Lg → Prop) (l t : Env) (L : Lg) : wp F (q_tarpaulinlaw13_TimerWaits_15 N) l t L (fun (l _ : Env) (L : Lg) => k1 l L) (fun (j : Nat) (l t : Env) (L : Lg) => bif Nat.beq j 2 then (fun (l t : Env) (L : Lg) => D_tarpaulinlaw13_TimerWaits_10 F N Q (l 9) L) l t L else (fun _ _ _ _ => False) j l t L) (fin [.tmp (.l 6)] Q) = D_tarpaulinlaw13_TimerWaits_15 F N Q k1 l L := Eq.trans (wpq_seq F (q_tarpaulinlaw13_TimerWaits_15a N) (q_tarpaulinlaw13_TimerWaits_16 N) l t L (fun (l _ : Env) (L : Lg) => k1 l L) (fun (j : Nat) (l t : Env) (L : Lg) => bif Nat.beq j 2 then (fun (l t : Env) (L : Lg) => D_tarpaulinlaw13_TimerWaits_10 F N Q (l 9) L) l t L else (fun _ _ _ _ => False) j l t L) (fin [.tmp (.l 6)] Q)) (Eq.trans (congrArg (fun Z : Kn => wp F (q_tarpaulinlaw13_TimerWaits_15a N) l t L Z (fun (j : Nat) (l t : Env) (L : Lg) => bif Nat.beq j 2 then (fun (l t : Env) (L : Lg) => D_tarpaulinlaw13_TimerWaits_10 F N Q (l 9) L) l t L else (fun _ _ _ _ => False) j l t L) (fin [.tmp (.l 6)] Q)) (funext fun l => funext fun t => funext fun L => e_tarpaulinlaw13_TimerWaits_16 F N Q k1 l t L)) (by kernel_rfl))
def q_tarpaulinlaw13_TimerWaits_14a (N : Nat → Nat) : ACode := (.seq (.reg [⟨.t 65, none, .mv, [.l 13]⟩, ⟨.t 66, none, .mv, [.l 0]⟩, ⟨.t 67, none, .bin .lss, [.t 65, .t 66]⟩]) (.cond (.t 67) .skip (.exit 2)))
def q_tarpaulinlaw13_TimerWaits_14 (N : Nat → Nat) : ACode := (.seq (q_tarpaulinlaw13_TimerWaits_14a N) (q_tarpaulinlaw13_TimerWaits_15 N))
noncomputable def D_tarpaulinlaw13_TimerWaits_14 (F : Nat → Option AFn) (N : Nat → Nat) (Q : AV → Lg → Prop) (k1 : Env → Lg → Prop) (l : Env) (L : Lg) : Prop :=
 wpOp F (.bin .lss) [(l 13), (l 0)] L fun v1 L1 =>
 condW v1
 (D_tarpaulinlaw13_TimerWaits_15 F N Q k1 l L1)
 (D_tarpaulinlaw13_TimerWaits_10 F N Q (l 9) L1)
theorem e_tarpaulinlaw13_TimerWaits_14 (F : Nat → Option AFn) (N : Nat → Nat) (Q : AV → Lg → Prop) (k1 : Env → Lg → Prop) (l t : Env) (L : Lg) : wp F (q_tarpaulinlaw13_TimerWaits_14 N) l t L (fun (l _ : Env) (L : Lg) => k1 l L) (fun (j : Nat) (l t : Env) (L : Lg) => bif Nat.beq j 2 then (fun (l t : Env) (L : Lg) => D_tarpaulinlaw13_TimerWaits_10 F N Q (l 9) L) l t L else (fun _ _ _ _ => False) j l t L) (fin [.tmp (.l 6)] Q) = D_tarpaulinlaw13_TimerWaits_14 F N Q k1 l L := Eq.trans (wpq_seq F (q_tarpaulinlaw13_TimerWaits_14a N) (q_tarpaulinlaw13_TimerWaits_15 N) l t L (fun (l _ : Env) (L : Lg) => k1 l L) (fun (j : Nat) (l t : Env) (L : Lg) => bif Nat.beq j 2 then (fun (l t : Env) (L : Lg) => D_tarpaulinlaw13_TimerWaits_10 F N Q (l 9) L) l t L else (fun _ _ _ _ => False) j l t L) (fin [.tmp (.l 6)] Q)) (Eq.trans (congrArg (fun Z : Kn => wp F (q_tarpaulinlaw13_TimerWaits_14a N) l t L Z (fun (j : Nat) (l t : Env) (L : Lg) => bif Nat.beq j 2 then (fun (l t : Env) (L : Lg) => D_tarpaulinlaw13_TimerWaits_10 F N Q (l 9) L) l t L else (fun _ _ _ _ => False) j l t L) (fin [.tmp (.l 6)] Q)) (funext fun l => funext fun t => funext fun L => e_tarpaulinlaw13_TimerWaits_15 F N Q k1 l t L)) (by kernel_rfl))
def q_tarpaulinlaw13_TimerWaits_13 (N : Nat → Nat) : ACode := (.loop (q_tarpaulinlaw13_TimerWaits_14 N))
noncomputable def D_tarpaulinlaw13_TimerWaits_13 (F : Nat → Option AFn) (N : Nat → Nat) (Q : AV → Lg → Prop) (l : Env) (L : Lg) : Prop :=
 loopW (fun l t L k1 => D_tarpaulinlaw13_TimerWaits_14 F N Q k1 l L) l L
theorem e_tarpaulinlaw13_TimerWaits_13 (F : Nat → Option AFn) (N : Nat → Nat) (Q : AV → Lg → Prop) (l t : Env) (L : Lg) : wp F (q_tarpaulinlaw13_TimerWaits_13 N) l t L (fun (l t : Env) (L : Lg) => D_tarpaulinlaw13_TimerWaits_10 F N Q (l 9) L) (fun (j : Nat) (l t : Env) (L : Lg) => bif Nat.beq j 2 then (fun (l t : Env) (L : Lg) => D_tarpaulinlaw13_TimerWaits_10 F N Q (l 9) L) l t L else (fun _ _ _ _ => False) j l t L) (fin [.tmp (.l 6)] Q) = D_tarpaulinlaw13_TimerWaits_13 F N Q l L := Eq.trans (wpq_loop F (q_tarpaulinlaw13_TimerWaits_14 N) l t L (fun (l t : Env) (L : Lg) => D_tarpaulinlaw13_TimerWaits_10 F N Q (l 9) L) (fun (j : Nat) (l t : Env) (L : Lg) => bif Nat.beq j 2 then (fun (l t : Env) (L : Lg) => D_tarpaulinlaw13_TimerWaits_10 F N Q (l 9) L) l t L else (fun _ _ _ _ => False) j l t L) (fin [.tmp (.l 6)] Q)) (Eq.trans (congrArg (fun B => loopW B l L) (funext fun l => funext fun t => funext fun L => funext fun k1 => e_tarpaulinlaw13_TimerWaits_14 F N Q k1 l t L)) (by kernel_rfl))
def q_tarpaulinlaw13_TimerWaits_12 (N : Nat → Nat) : ACode := (.block 2 (q_tarpaulinlaw13_TimerWaits_13 N))
theorem e_tarpaulinlaw13_TimerWaits_12 (F : Nat → Option AFn) (N : Nat → Nat) (Q : AV → Lg → Prop) (l t : Env) (L : Lg) : wp F (q_tarpaulinlaw13_TimerWaits_12 N) l t L (fun (l t : Env) (L : Lg) => D_tarpaulinlaw13_TimerWaits_10 F N Q (l 9) L) (fun _ _ _ _ => False) (fin [.tmp (.l 6)] Q) = D_tarpaulinlaw13_TimerWaits_13 F N Q l L := Eq.trans (wpq_block F 2 (q_tarpaulinlaw13_TimerWaits_13 N) l t L (fun (l t : Env) (L : Lg) => D_tarpaulinlaw13_TimerWaits_10 F N Q (l 9) L) (fun _ _ _ _ => False) (fin [.tmp (.l 6)] Q)) (e_tarpaulinlaw13_TimerWaits_13 F N Q l t L)
def q_tarpaulinlaw13_TimerWaits_11a (N : Nat → Nat) : ACode := (.reg [⟨.l 13, none, .mv, [.c (.i .i64 0)]⟩])
def q_tarpaulinlaw13_TimerWaits_11 (N : Nat → Nat) : ACode := (.seq (q_tarpaulinlaw13_TimerWaits_11a N) (q_tarpaulinlaw13_TimerWaits_12 N))
noncomputable def D_tarpaulinlaw13_TimerWaits_11 (F : Nat → Option AFn) (N : Nat → Nat) (Q : AV → Lg → Prop) (l : Env) (L : Lg) : Prop :=
 D_tarpaulinlaw13_TimerWaits_13 F N Q (Env.put l 13 (.i .i64 0)) L
theorem e_tarpaulinlaw13_TimerWaits_11 (F : Nat → Option AFn) (N : Nat → Nat) (Q : AV → Lg → Prop) (l t : Env) (L : Lg) : wp F (q_tarpaulinlaw13_TimerWaits_11 N) l t L (fun (l t : Env) (L : Lg) => D_tarpaulinlaw13_TimerWaits_10 F N Q (l 9) L) (fun _ _ _ _ => False) (fin [.tmp (.l 6)] Q) = D_tarpaulinlaw13_TimerWaits_11 F N Q l L := Eq.trans (wpq_seq F (q_tarpaulinlaw13_TimerWaits_11a N) (q_tarpaulinlaw13_TimerWaits_12 N) l t L (fun (l t : Env) (L : Lg) => D_tarpaulinlaw13_TimerWaits_10 F N Q (l 9) L) (fun _ _ _ _ => False) (fin [.tmp (.l 6)] Q)) (Eq.trans (congrArg (fun Z : Kn => wp F (q_tarpaulinlaw13_TimerWaits_11a N) l t L Z (fun _ _ _ _ => False) (fin [.tmp (.l 6)] Q)) (funext fun l => funext fun t => funext fun L => e_tarpaulinlaw13_TimerWaits_12 F N Q l t L)) (by kernel_rfl))
def q_tarpaulinlaw13_TimerWaits_9 (N : Nat → Nat) : ACode := (.seq (q_tarpaulinlaw13_TimerWaits_11 N) (q_tarpaulinlaw13_TimerWaits_10 N))
theorem e_tarpaulinlaw13_TimerWaits_9 (F : Nat → Option AFn) (N : Nat → Nat) (Q : AV → Lg → Prop) (l t : Env) (L : Lg) : wp F (q_tarpaulinlaw13_TimerWaits_9 N) l t L (fin [.tmp (.l 6)] Q) (fun _ _ _ _ => False) (fin [.tmp (.l 6)] Q) = D_tarpaulinlaw13_TimerWaits_11 F N Q l L := Eq.trans (wpq_seq F (q_tarpaulinlaw13_TimerWaits_11 N) (q_tarpaulinlaw13_TimerWaits_10 N) l t L (fin [.tmp (.l 6)] Q) (fun _ _ _ _ => False) (fin [.tmp (.l 6)] Q)) (Eq.trans (congrArg (fun Z : Kn => wp F (q_tarpaulinlaw13_TimerWaits_11 N) l t L Z (fun _ _ _ _ => False) (fin [.tmp (.l 6)] Q)) (funext fun l => funext fun t => funext fun L => e_tarpaulinlaw13_TimerWaits_10 F N Q l t L)) (e_tarpaulinlaw13_TimerWaits_11 F N Q l t L))
def q_tarpaulinlaw13_TimerWaits_8a (N : Nat → Nat) : ACode := (.reg [⟨.l 12, none, .mv, [.c (.i .i64 0)]⟩])
def q_tarpaulinlaw13_TimerWaits_8 (N : Nat → Nat) : ACode := (.seq (q_tarpaulinlaw13_TimerWaits_8a N) (q_tarpaulinlaw13_TimerWaits_9 N))
noncomputable def D_tarpaulinlaw13_TimerWaits_8 (F : Nat → Option AFn) (N : Nat → Nat) (Q : AV → Lg → Prop) (l : Env) (L : Lg) : Prop :=
 D_tarpaulinlaw13_TimerWaits_11 F N Q (Env.put l 12 (.i .i64 0)) L
theorem e_tarpaulinlaw13_TimerWaits_8 (F : Nat → Option AFn) (N : Nat → Nat) (Q : AV → Lg → Prop) (l t : Env) (L : Lg) : wp F (q_tarpaulinlaw13_TimerWaits_8 N) l t L (fin [.tmp (.l 6)] Q) (fun _ _ _ _ => False) (fin [.tmp (.l 6)] Q) = D_tarpaulinlaw13_TimerWaits_8 F N Q l L := Eq.trans (wpq_seq F (q_tarpaulinlaw13_TimerWaits_8a N) (q_tarpaulinlaw13_TimerWaits_9 N) l t L (fin [.tmp (.l 6)] Q) (fun _ _ _ _ => False) (fin [.tmp (.l 6)] Q)) (Eq.trans (congrArg (fun Z : Kn => wp F (q_tarpaulinlaw13_TimerWaits_8a N) l t L Z (fun _ _ _ _ => False) (fin [.tmp (.l 6)] Q)) (funext fun l => funext fun t => funext fun L => e_tarpaulinlaw13_TimerWaits_9 F N Q l t L)) (by kernel_rfl))
def q_tarpaulinlaw13_TimerWaits_20 (N : Nat → Nat) : ACode := (.seq (.seq (.reg [⟨.t 55, none, .mv, [.l 11]⟩, ⟨.t 56, none, .mv, [.l 0]⟩, ⟨.t 57, none, .bin .lss, [.t 55, .t 56]⟩]) (.cond (.t 57) .skip (.exit 0))) (.seq (.block 1 (.seq (.reg [⟨.t 60, none, .mv, [.l 9]⟩, ⟨.t 61, none, .mv, [.l 11]⟩, ⟨.t 62, none, .build [.i .i64 0, .i .i64 0, .i .i64 0] [(0, 1), (1, 1)], [.t 61, .c (.i .i64 3)]⟩, ⟨.t 63, none, .call (N k_chanq_Chan_Wait), [.t 60, .t 62, .c (.b false)]⟩, ⟨.t 64, none, .bin .neq, [.t 63, .c (.i .i64 0)]⟩]) (.cond (.t 64) (.seq (.reg [⟨.l 6, none, .mv, [.c (.b false)]⟩]) .ret) .skip))) (.reg [⟨.t 58, none, .mv, [.l 11]⟩, ⟨.t 59, none, .bin .add, [.t 58, .c (.i .i64 1)]⟩, ⟨.l 11, none, .mv, [.t 59]⟩])))
noncomputable def D_tarpaulinlaw13_TimerWaits_20 (F : Nat → Option AFn) (N : Nat → Nat) (Q : AV → Lg → Prop) (k1 : Env → Lg → Prop) (l : Env) (L : Lg) : Prop :=
 wpOp F (.bin .lss) [(l 11), (l 0)] L fun v1 L1 =>
 condW v1
 (wpOp F (.build [.i .i64 0, .i .i64 0, .i .i64 0] [(0, 1), (1, 1)]) [(l 11), (.i .i64 3)] L1 fun v2 L2 =>
 CallL F (N k_chanq_Chan_Wait) [(l 9), v2, (.b false)] L2 fun v3 L3 =>
 wpOp F (.bin .neq) [v3, (.i .i64 0)] L3 fun v4 L4 =>
 condW v4
 (fin1 (some (.b false)) Q L4)
 (wpOp F (.bin .add) [(l 11), (.i .i64 1)] L4 fun v5 L5 =>
 k1 (Env.put l 11 v5) L5))
 (D_tarpaulinlaw13_TimerWaits_8 F N Q l L1)
theorem e_tarpaulinlaw13_TimerWaits_20 (F : Nat → Option AFn) (N : Nat → Nat) (Q : AV → Lg → Prop) (k1 : Env → Lg → Prop) (l t : Env) (L : Lg) : wp F (q_tarpaulinlaw13_TimerWaits_20 N) l t L (fun (l _ : Env) (L : Lg) => k1 l L) (fun (j : Nat) (l t : Env) (L : Lg) => bif Nat.beq j 0 then (fun (l t : Env) (L : Lg) => D_tarpaulinlaw13_TimerWaits_8 F N Q l L) l t L else (fun _ _ _ _ => False) j l t L) (fin [.tmp (.l 6)] Q) = D_tarpaulinlaw13_TimerWaits_20 F N Q k1 l L := by kernel_rfl
def q_tarpaulinlaw13_TimerWaits_19 (N : Nat → Nat) : ACode := (.loop (q_tarpaulinlaw13_TimerWaits_20 N))
noncomputable def D_tarpaulinlaw13_TimerWaits_19 (F : Nat → Option AFn) (N : Nat → Nat) (Q : AV → Lg → Prop) (l : Env) (L : Lg) : Prop :=
 loopW (fun l t L k1 => D_tarpaulinlaw13_TimerWaits_20 F N Q k1 l L) l L
theorem e_tarpaulinlaw13_TimerWaits_19 (F : Nat → Option AFn) (N : Nat → Nat) (Q : AV → Lg → Prop) (l t : Env) (L : Lg) : wp F (q_tarpaulinlaw13_TimerWaits_19 N) l t L (fun (l t : Env) (L : Lg) => D_tarpaulinlaw13_TimerWaits_8 F N Q l L) (fun (j : Nat) (l t : Env) (L : Lg) => bif Nat.beq j 0 then (fun (l t : Env) (L : Lg) => D_tarpaulinlaw13_TimerWaits_8 F N Q l L) l t L else (fun _ _ _ _ => False) j l t L) (fin [.tmp (.l 6)] Q) = D_tarpaulinlaw13_TimerWaits_19 F N Q l L := Eq.trans (wpq_loop F (q_tarpaulinlaw13_TimerWaits_20 N) l t L (fun (l t : Env) (L : Lg) => D_tarpaulinlaw13_TimerWaits_8 F N Q l L) (fun (j : Nat) (l t : Env) (L : Lg) => bif Nat.beq j 0 then (fun (l t : Env) (L : Lg) => D_tarpaulinlaw13_TimerWaits_8 F N Q l L) l t L else (fun _ _ _ _ => False) j l t L) (fin [.tmp (.l 6)] Q)) (Eq.trans (congrArg (fun B => loopW B l L) (funext fun l => funext fun t => funext fun L => funext fun k1 => e_tarpaulinlaw13_TimerWaits_20 F N Q k1 l t L)) (by kernel_rfl))
def q_tarpaulinlaw13_TimerWaits_18 (N : Nat → Nat) : ACode := (.block 0 (q_tarpaulinlaw13_TimerWaits_19 N))
theorem e_tarpaulinlaw13_TimerWaits_18 (F : Nat → Option AFn) (N : Nat → Nat) (Q : AV → Lg → Prop) (l t : Env) (L : Lg) : wp F (q_tarpaulinlaw13_TimerWaits_18 N) l t L (fun (l t : Env) (L : Lg) => D_tarpaulinlaw13_TimerWaits_8 F N Q l L) (fun _ _ _ _ => False) (fin [.tmp (.l 6)] Q) = D_tarpaulinlaw13_TimerWaits_19 F N Q l L := Eq.trans (wpq_block F 0 (q_tarpaulinlaw13_TimerWaits_19 N) l t L (fun (l t : Env) (L : Lg) => D_tarpaulinlaw13_TimerWaits_8 F N Q l L) (fun _ _ _ _ => False) (fin [.tmp (.l 6)] Q)) (e_tarpaulinlaw13_TimerWaits_19 F N Q l t L)
def q_tarpaulinlaw13_TimerWaits_17a (N : Nat → Nat) : ACode := (.reg [⟨.l 11, none, .mv, [.c (.i .i64 0)]⟩])
def q_tarpaulinlaw13_TimerWaits_17 (N : Nat → Nat) : ACode := (.seq (q_tarpaulinlaw13_TimerWaits_17a N) (q_tarpaulinlaw13_TimerWaits_18 N))
noncomputable def D_tarpaulinlaw13_TimerWaits_17 (F : Nat → Option AFn) (N : Nat → Nat) (Q : AV → Lg → Prop) (l : Env) (L : Lg) : Prop :=
 D_tarpaulinlaw13_TimerWaits_19 F N Q (Env.put l 11 (.i .i64 0)) L
theorem e_tarpaulinlaw13_TimerWaits_17 (F : Nat → Option AFn) (N : Nat → Nat) (Q : AV → Lg → Prop) (l t : Env) (L : Lg) : wp F (q_tarpaulinlaw13_TimerWaits_17 N) l t L (fun (l t : Env) (L : Lg) => D_tarpaulinlaw13_TimerWaits_8 F N Q l L) (fun _ _ _ _ => False) (fin [.tmp (.l 6)] Q) = D_tarpaulinlaw13_TimerWaits_17 F N Q l L := Eq.trans (wpq_seq F (q_tarpaulinlaw13_TimerWaits_17a N) (q_tarpaulinlaw13_TimerWaits_18 N) l t L (fun (l t : Env) (L : Lg) => D_tarpaulinlaw13_TimerWaits_8 F N Q l L) (fun _ _ _ _ => False) (fin [.tmp (.l 6)] Q)) (Eq.trans (congrArg (fun Z : Kn => wp F (q_tarpaulinlaw13_TimerWaits_17a N) l t L Z (fun _ _ _ _ => False) (fin [.tmp (.l 6)] Q)) (funext fun l => funext fun t => funext fun L => e_tarpaulinlaw13_TimerWaits_18 F N Q l t L)) (by kernel_rfl))
def q_tarpaulinlaw13_TimerWaits_7 (N : Nat → Nat) : ACode := (.seq (q_tarpaulinlaw13_TimerWaits_17 N) (q_tarpaulinlaw13_TimerWaits_8 N))
theorem e_tarpaulinlaw13_TimerWaits_7 (F : Nat → Option AFn) (N : Nat → Nat) (Q : AV → Lg → Prop) (l t : Env) (L : Lg) : wp F (q_tarpaulinlaw13_TimerWaits_7 N) l t L (fin [.tmp (.l 6)] Q) (fun _ _ _ _ => False) (fin [.tmp (.l 6)] Q) = D_tarpaulinlaw13_TimerWaits_17 F N Q l L := Eq.trans (wpq_seq F (q_tarpaulinlaw13_TimerWaits_17 N) (q_tarpaulinlaw13_TimerWaits_8 N) l t L (fin [.tmp (.l 6)] Q) (fun _ _ _ _ => False) (fin [.tmp (.l 6)] Q)) (Eq.trans (congrArg (fun Z : Kn => wp F (q_tarpaulinlaw13_TimerWaits_17 N) l t L Z (fun _ _ _ _ => False) (fin [.tmp (.l 6)] Q)) (funext fun l => funext fun t => funext fun L => e_tarpaulinlaw13_TimerWaits_8 F N Q l t L)) (e_tarpaulinlaw13_TimerWaits_17 F N Q l t L))
def q_tarpaulinlaw13_TimerWaits_6a (N : Nat → Nat) : ACode := (.seq (.reg [⟨.t 49, none, .mv, [.l 10]⟩, ⟨.t 50, none, .bin .neq, [.t 49, .c (.i .i64 0)]⟩, ⟨.t 51, none, .mv, [.t 50]⟩, ⟨.t 52, some (.t 51, false), .mv, [.l 9]⟩, ⟨.t 53, some (.t 51, false), .eq false .ptr, [.t 52, .c (.p none)]⟩, ⟨.t 54, none, .pick, [.t 51, .c (.b true), .t 53]⟩]) (.cond (.t 54) (.seq (.reg [⟨.l 6, none, .mv, [.c (.b false)]⟩]) .ret) .skip))
def q_tarpaulinlaw13_TimerWaits_6 (N : Nat → Nat) : ACode := (.seq (q_tarpaulinlaw13_TimerWaits_6a N) (q_tarpaulinlaw13_TimerWaits_7 N))
noncomputable def D_tarpaulinlaw13_TimerWaits_6 (F : Nat → Option AFn) (N : Nat → Nat) (Q : AV → Lg → Prop) (l : Env) (L : Lg) : Prop :=
 wpOp F (.bin .neq) [(l 10), (.i .i64 0)] L fun v1 L1 =>
 gdOp F v1 false .mv [(l 9)] L1 fun v2 L2 =>
 gdOp F v1 false (.eq false .ptr) [v2, (.p none)] L2 fun v3 L3 =>
 wpOp F .pick [v1, (.b true), v3] L3 fun v4 L4 =>
 condW v4
 (fin1 (some (.b false)) Q L4)
 (D_tarpaulinlaw13_TimerWaits_17 F N Q l L4)
theorem e_tarpaulinlaw13_TimerWaits_6 (F : Nat → Option AFn) (N : Nat → Nat) (Q : AV → Lg → Prop) (l t : Env) (L : Lg) : wp F (q_tarpaulinlaw13_TimerWaits_6 N) l t L (fin [.tmp (.l 6)] Q) (fun _ _ _ _ => False) (fin [.tmp (.l 6)] Q) = D_tarpaulinlaw13_TimerWaits_6 F N Q l L := Eq.trans (wpq_seq F (q_tarpaulinlaw13_TimerWaits_6a N) (q_tarpaulinlaw13_TimerWaits_7 N) l t L (fin [.tmp (.l 6)] Q) (fun _ _ _ _ => False) (fin [.tmp (.l 6)] Q)) (Eq.trans (congrArg (fun Z : Kn => wp F (q_tarpaulinlaw13_TimerWaits_6a N) l t L Z (fun _ _ _ _ => False) (fin [.tmp (.l 6)] Q)) (funext fun l => funext fun t => funext fun L => e_tarpaulinlaw13_TimerWaits_7 F N Q l t L)) (by kernel_rfl))
def q_tarpaulinlaw13_TimerWaits_5a (N : Nat → Nat) : ACode := (.reg [⟨.t 43, none, .mv, [.l 7]⟩, ⟨.t 44, none, .mv, [.l 1]⟩, ⟨.t 45, none, .call (N k_timer_Set_Ticker), [.t 43, .c (.i .i64 0), .t 44]⟩, ⟨.t 42, none, .mv, [.t 45]⟩, ⟨.t 46, none, .ext 0, [.t 42]⟩, ⟨.t 47, none, .ext 1, [.t 42]⟩, ⟨.t 48, none, .ext 2, [.t 42]⟩, ⟨.t 8, none, .mv, [.t 46]⟩, ⟨.l 9, none, .mv, [.t 47]⟩, ⟨.l 10, none, .mv, [.t 48]⟩])
def q_tarpaulinlaw13_TimerWaits_5 (N : Nat → Nat) : ACode := (.seq (q_tarpaulinlaw13_TimerWaits_5a N) (q_tarpaulinlaw13_TimerWaits_6 N))
noncomputable def D_tarpaulinlaw13_TimerWaits_5 (F : Nat → Option AFn) (N : Nat → Nat) (Q : AV → Lg → Prop) (l : Env) (L : Lg) : Prop :=
 CallL F (N k_timer_Set_Ticker) [(l 7), (.i .i64 0), (l 1)] L fun v1 L1 =>
 wpOp F (.ext 0) [v1] L1 fun v2 L2 =>
 wpOp F (.ext 1) [v1] L2 fun v3 L3 =>
 wpOp F (.ext 2) [v1] L3 fun v4 L4 =>
 D_tarpaulinlaw13_TimerWaits_6 F N Q (Env.put (Env.put l 9 v3) 10 v4) L4
theorem e_tarpaulinlaw13_TimerWaits_5 (F : Nat → Option AFn) (N : Nat → Nat) (Q : AV → Lg → Prop) (l t : Env) (L : Lg) : wp F (q_tarpaulinlaw13_TimerWaits_5 N) l t L (fin [.tmp (.l 6)] Q) (fun _ _ _ _ => False) (fin [.tmp (.l 6)] Q) = D_tarpaulinlaw13_TimerWaits_5 F N Q l L := Eq.trans (wpq_seq F (q_tarpaulinlaw13_TimerWaits_5a N) (q_tarpaulinlaw13_TimerWaits_6 N) l t L (fin [.tmp (.l 6)] Q) (fun _ _ _ _ => False) (fin [.tmp (.l 6)] Q)) (Eq.trans (congrArg (fun Z : Kn => wp F (q_tarpaulinlaw13_TimerWaits_5a N) l t L Z (fun _ _ _ _ => False) (fin [.tmp (.l 6)] Q)) (funext fun l => funext fun t => funext fun L => e_tarpaulinlaw13_TimerWaits_6 F N Q l t L)) (by kernel_rfl))
def q_tarpaulinlaw13_TimerWaits_4a (N : Nat → Nat) : ACode := (.seq (.reg [⟨.t 40, none, .mv, [.l 7]⟩, ⟨.t 41, none, .eq false .ptr, [.t 40, .c (.p none)]⟩]) (.cond (.t 41) (.seq (.reg [⟨.l 6, none, .mv, [.c (.b false)]⟩]) .ret) .skip))
def q_tarpaulinlaw13_TimerWaits_4 (N : Nat → Nat) : ACode := (.seq (q_tarpaulinlaw13_TimerWaits_4a N) (q_tarpaulinlaw13_TimerWaits_5 N))
noncomputable def D_tarpaulinlaw13_TimerWaits_4 (F : Nat → Option AFn) (N : Nat → Nat) (Q : AV → Lg → Prop) (l : Env) (L : Lg) : Prop :=
 wpOp F (.eq false .ptr) [(l 7), (.p none)] L fun v1 L1 =>
 condW v1
 (fin1 (some (.b false)) Q L1)
 (D_tarpaulinlaw13_TimerWaits_5 F N Q l L1)
theorem e_tarpaulinlaw13_TimerWaits_4 (F : Nat → Option AFn) (N : Nat → Nat) (Q : AV → Lg → Prop) (l t : Env) (L : Lg) : wp F (q_tarpaulinlaw13_TimerWaits_4 N) l t L (fin [.tmp (.l 6)] Q) (fun _ _ _ _ => False) (fin [.tmp (.l 6)] Q) = D_tarpaulinlaw13_TimerWaits_4 F N Q l L := Eq.trans (wpq_seq F (q_tarpaulinlaw13_TimerWaits_4a N) (q_tarpaulinlaw13_TimerWaits_5 N) l t L (fin [.tmp (.l 6)] Q) (fun _ _ _ _ => False) (fin [.tmp (.l 6)] Q)) (Eq.trans (congrArg (fun Z : Kn => wp F (q_tarpaulinlaw13_TimerWaits_4a N) l t L Z (fun _ _ _ _ => False) (fin [.tmp (.l 6)] Q)) (funext fun l => funext fun t => funext fun L => e_tarpaulinlaw13_TimerWaits_5 F N Q l t L)) (by kernel_rfl))
def q_tarpaulinlaw13_TimerWaits_3a (N : Nat → Nat) : ACode := (.reg [⟨.t 39, none, .call (N k_timer_New), []⟩, ⟨.l 7, none, .mv, [.t 39]⟩])
def q_tarpaulinlaw13_TimerWaits_3 (N : Nat → Nat) : ACode := (.seq (q_tarpaulinlaw13_TimerWaits_3a N) (q_tarpaulinlaw13_TimerWaits_4 N))
noncomputable def D_tarpaulinlaw13_TimerWaits_3 (F : Nat → Option AFn) (N : Nat → Nat) (Q : AV → Lg → Prop) (l : Env) (L : Lg) : Prop :=
 CallL F (N k_timer_New) [] L fun v1 L1 =>
 D_tarpaulinlaw13_TimerWaits_4 F N Q (Env.put l 7 v1) L1
theorem e_tarpaulinlaw13_TimerWaits_3 (F : Nat → Option AFn) (N : Nat → Nat) (Q : AV → Lg → Prop) (l t : Env) (L : Lg) : wp F (q_tarpaulinlaw13_TimerWaits_3 N) l t L (fin [.tmp (.l 6)] Q) (fun _ _ _ _ => False) (fin [.tmp (.l 6)] Q) = D_tarpaulinlaw13_TimerWaits_3 F N Q l L := Eq.trans (wpq_seq F (q_tarpaulinlaw13_TimerWaits_3a N) (q_tarpaulinlaw13_TimerWaits_4 N) l t L (fin [.tmp (.l 6)] Q) (fun _ _ _ _ => False) (fin [.tmp (.l 6)] Q)) (Eq.trans (congrArg (fun Z : Kn => wp F (q_tarpaulinlaw13_TimerWaits_3a N) l t L Z (fun _ _ _ _ => False) (fin [.tmp (.l 6)] Q)) (funext fun l => funext fun t => funext fun L => e_tarpaulinlaw13_TimerWaits_4 F N Q l t L)) (by kernel_rfl))
def q_tarpaulinlaw13_TimerWaits_2a (N : Nat → Nat) : ACode := (.seq (.reg [⟨.t 16, none, .mv, [.l 0]⟩, ⟨.t 17, none, .bin .lss, [.t 16, .c (.i .i64 1)]⟩, ⟨.t 18, none, .mv, [.t 17]⟩, ⟨.t 19, some (.t 18, false), .mv, [.l 0]⟩, ⟨.t 20, some (.t 18, false), .bin .gtr, [.t 19, .c (.i .i64 10)]⟩, ⟨.t 21, none, .pick, [.t 18, .c (.b true), .t 20]⟩, ⟨.t 22, none, .mv, [.t 21]⟩, ⟨.t 23, some (.t 22, false), .mv, [.l 1]⟩, ⟨.t 24, some (.t 22, false), .bin .lss, [.t 23, .c (.i .i64 1)]⟩, ⟨.t 25, none, .pick, [.t 22, .c (.b true), .t 24]⟩, ⟨.t 26, none, .mv, [.t 25]⟩, ⟨.t 27, some (.t 26, false), .mv, [.l 1]⟩, ⟨.t 28, some (.t 26, false), .bin .gtr, [.t 27, .c (.i .i64 100)]⟩, ⟨.t 29, none, .pick, [.t 26, .c (.b true), .t 28]⟩, ⟨.t 30, none, .mv, [.t 29]⟩, ⟨.t 31, some (.t 30, false), .mv, [.l 2]⟩, ⟨.t 32, some (.t 30, false), .bin .lss, [.t 31, .c (.i .i64 0)]⟩, ⟨.t 33, none, .pick, [.t 30, .c (.b true), .t 32]⟩, ⟨.t 34, none, .mv, [.t 33]⟩, ⟨.t 35, some (.t 34, false), .mv, [.l 2]⟩, ⟨.t 36, some (.t 34, false), .bin .gtr, [.t 35, .c (.i .i64 300)]⟩, ⟨.t 37, none, .pick, [.t 34, .c (.b true), .t 36]⟩]) (.cond (.t 37) (.seq (.reg [⟨.t 38, none, .call (N k_tarpaulinlaw13_awake), []⟩, ⟨.l 6, none, .mv, [.t 38]⟩]) .ret) .skip))
def q_tarpaulinlaw13_TimerWaits_2 (N : Nat → Nat) : ACode := (.seq (q_tarpaulinlaw13_TimerWaits_2a N) (q_tarpaulinlaw13_TimerWaits_3 N))
noncomputable def D_tarpaulinlaw13_TimerWaits_2 (F : Nat → Option AFn) (N : Nat → Nat) (Q : AV → Lg → Prop) (l : Env) (L : Lg) : Prop :=
 wpOp F (.bin .lss) [(l 0), (.i .i64 1)] L fun v1 L1 =>
 gdOp F v1 false .mv [(l 0)] L1 fun v2 L2 =>
 gdOp F v1 false (.bin .gtr) [v2, (.i .i64 10)] L2 fun v3 L3 =>
 wpOp F .pick [v1, (.b true), v3] L3 fun v4 L4 =>
 gdOp F v4 false .mv [(l 1)] L4 fun v5 L5 =>
 gdOp F v4 false (.bin .lss) [v5, (.i .i64 1)] L5 fun v6 L6 =>
 wpOp F .pick [v4, (.b true), v6] L6 fun v7 L7 =>
 gdOp F v7 false .mv [(l 1)] L7 fun v8 L8 =>
 gdOp F v7 false (.bin .gtr) [v8, (.i .i64 100)] L8 fun v9 L9 =>
 wpOp F .pick [v7, (.b true), v9] L9 fun v10 L10 =>
 gdOp F v10 false .mv [(l 2)] L10 fun v11 L11 =>
 gdOp F v10 false (.bin .lss) [v11, (.i .i64 0)] L11 fun v12 L12 =>
 wpOp F .pick [v10, (.b true), v12] L12 fun v13 L13 =>
 gdOp F v13 false .mv [(l 2)] L13 fun v14 L14 =>
 gdOp F v13 false (.bin .gtr) [v14, (.i .i64 300)] L14 fun v15 L15 =>
 wpOp F .pick [v13, (.b true), v15] L15 fun v16 L16 =>
 condW v16
 (CallL F (N k_tarpaulinlaw13_awake) [] L16 fun v17 L17 =>
 fin1 (some v17) Q L17)
 (D_tarpaulinlaw13_TimerWaits_3 F N Q l L16)
theorem e_tarpaulinlaw13_TimerWaits_2 (F : Nat → Option AFn) (N : Nat → Nat) (Q : AV → Lg → Prop) (l t : Env) (L : Lg) : wp F (q_tarpaulinlaw13_TimerWaits_2 N) l t L (fin [.tmp (.l 6)] Q) (fun _ _ _ _ => False) (fin [.tmp (.l 6)] Q) = D_tarpaulinlaw13_TimerWaits_2 F N Q l L := Eq.trans (wpq_seq F (q_tarpaulinlaw13_TimerWaits_2a N) (q_tarpaulinlaw13_TimerWaits_3 N) l t L (fin [.tmp (.l 6)] Q) (fun _ _ _ _ => False) (fin [.tmp (.l 6)] Q)) (Eq.trans (congrArg (fun Z : Kn => wp F (q_tarpaulinlaw13_TimerWaits_2a N) l t L Z (fun _ _ _ _ => False) (fin [.tmp (.l 6)] Q)) (funext fun l => funext fun t => funext fun L => e_tarpaulinlaw13_TimerWaits_3 F N Q l t L)) (by kernel_rfl))
def q_tarpaulinlaw13_TimerWaits_1a (N : Nat → Nat) : ACode := (.reg [⟨.l 6, none, .mv, [.c (.b false)]⟩])
def q_tarpaulinlaw13_TimerWaits_1 (N : Nat → Nat) : ACode := (.seq (q_tarpaulinlaw13_TimerWaits_1a N) (q_tarpaulinlaw13_TimerWaits_2 N))
noncomputable def D_tarpaulinlaw13_TimerWaits_1 (F : Nat → Option AFn) (N : Nat → Nat) (Q : AV → Lg → Prop) (l : Env) (L : Lg) : Prop :=
 D_tarpaulinlaw13_TimerWaits_2 F N Q (Env.put l 6 (.b false)) L
theorem e_tarpaulinlaw13_TimerWaits_1 (F : Nat → Option AFn) (N : Nat → Nat) (Q : AV → Lg → Prop) (l t : Env) (L : Lg) : wp F (q_tarpaulinlaw13_TimerWaits_1 N) l t L (fin [.tmp (.l 6)] Q) (fun _ _ _ _ => False) (fin [.tmp (.l 6)] Q) = D_tarpaulinlaw13_TimerWaits_1 F N Q l L := Eq.trans (wpq_seq F (q_tarpaulinlaw13_TimerWaits_1a N) (q_tarpaulinlaw13_TimerWaits_2 N) l t L (fin [.tmp (.l 6)] Q) (fun _ _ _ _ => False) (fin [.tmp (.l 6)] Q)) (Eq.trans (congrArg (fun Z : Kn => wp F (q_tarpaulinlaw13_TimerWaits_1a N) l t L Z (fun _ _ _ _ => False) (fin [.tmp (.l 6)] Q)) (funext fun l => funext fun t => funext fun L => e_tarpaulinlaw13_TimerWaits_2 F N Q l t L)) (by kernel_rfl))
/-- tarpaulin/tarpaulinlaw13.TimerWaits -/
def c_tarpaulinlaw13_TimerWaits (N : Nat → Nat) : AFn := ⟨q_tarpaulinlaw13_TimerWaits_1 N, [.tmp (.l 6)]⟩
theorem r_tarpaulinlaw13_TimerWaits {F : Nat → Option AFn} {N : Nat → Nat} (h : F (N k_tarpaulinlaw13_TimerWaits) = some (c_tarpaulinlaw13_TimerWaits N)) {Q : AV → Lg → Prop} {a0 a1 a2 : AV} {L : Lg} (e : D_tarpaulinlaw13_TimerWaits_1 F N Q (initE [a0, a1, a2] 0) L) : CallL F (N k_tarpaulinlaw13_TimerWaits) [a0, a1, a2] L Q :=
  CallL.of_wp h (Eq.mpr (Eq.trans (e_tarpaulinlaw13_TimerWaits_1 F N Q (initE [a0, a1, a2] 0) Env.nil L) (by kernel_rfl : _ = D_tarpaulinlaw13_TimerWaits_1 F N Q (initE [a0, a1, a2] 0) L)) e)
end Go.AM
