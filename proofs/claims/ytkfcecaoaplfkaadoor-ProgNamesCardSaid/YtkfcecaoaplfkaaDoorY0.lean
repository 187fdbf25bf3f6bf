/- Functions, for the strict machine. PRINTED by our prints.py. -/
import Derived.Test.YtkfcecaoaplfkaaDoorChecked
import Derived.Test.YtkfcecaoaplfkaaDoorNmG2
set_option linter.unusedVariables false
set_option maxRecDepth 100000
namespace Go.Proofs.YtkfcecaoaplfkaaDoor.T
open Go.AM
noncomputable section
noncomputable def tbl : Nat → Option AFn := tblOf Tryd.prog [(5, 1011), (7, 243), (9, 3), (10, 57367), (12, 5), (14, 7), (16, 51), (17, 32281802128991715863), (19, 135), (22, 19), (23, 15), (24, 23), (25, 8189), (26, 15), (27, 30786325577847), (29, 5), (32, 435), (35, 199), (36, 19), (37, 7), (38, 5), (40, 5), (41, 61), (43, 435), (44, 524047), (45, 5), (48, 199), (49, 1991), (50, 1991), (51, 562949953429447), (52, 199), (53, 1991), (54, 19), (55, 1807), (56, 3855), (57, 5), (58, 5), (59, 783), (60, 5), (61, 5), (62, 71), (63, 1055), (64, 5), (65, 783)]
theorem c5 : tbl 5 = some (fnOf (tbl 5)) := by kernel_rfl
/-- tarpaulin/tarpaulinlaw4.ProgLimits -/
def Y_5_8 (C : CS) (k : KS) (x0 x1 x5 x7 x8 : AV) (S : St) : Prop :=
 C 14 [x5] S fun v1 S1 =>
 bEq v1 (.i .i64 0) S1 fun v2 S2 =>
 bLe x0 (.i .i64 100) S2 fun v3 S3 =>
 sR (.eq false .bool) [v2, v3] S3 fun v4 S4 =>
 gdO v4 true (sMv [x7] S4) S4 fun v5 S5 =>
 gdO v4 true (C 10 [v5] S5) S5 fun v6 S6 =>
 gdO v4 true (bEq v6 (.i .i64 0) S6) S6 fun v7 S7 =>
 gdO v4 true (sMv [x1] S7) S7 fun v8 S8 =>
 gdO v4 true (bGe v8 (.i .i64 1) S8) S8 fun v9 S9 =>
 gdO v4 true (sMv [v9] S9) S9 fun v10 S10 =>
 gdO v10 true (sMv [x1] S10) S10 fun v11 S11 =>
 gdO v10 true (bLe v11 (.i .i64 16) S11) S11 fun v12 S12 =>
 gdO v4 true (bPick v10 v12 (.b false) S12) S12 fun v13 S13 =>
 gdO v4 true (sR (.eq false .bool) [v7, v13] S13) S13 fun v14 S14 =>
 bPick v4 v14 (.b false) S14 fun v15 S15 =>
 gdO v15 true (bLdN 6 x8 S15) S15 fun v16 S16 =>
 gdO v15 true (sAl (.bslice [.i .i64 0, .i .i64 0, .i .i64 0, .i .i64 0, .sl none 0 0 0, .b false] 1 6 [0]) [v16] S16) S16 fun v17 S17 =>
 gdO v15 true (C 14 [v17] S17) S17 fun v18 S18 =>
 gdO v15 true (bEq v18 (.i .i64 0) S18) S18 fun v19 S19 =>
 gdO v15 true (sMv [x1] S19) S19 fun v20 S20 =>
 gdO v15 true (bLe v20 (.i .i64 16) S20) S20 fun v21 S21 =>
 gdO v15 true (sR (.eq false .bool) [v19, v21] S21) S21 fun v22 S22 =>
 bPick v15 v22 (.b false) S22 fun v23 S23 =>
 gdO v23 true (C 9 [] S23) S23 fun v24 S24 =>
 bPick v23 v24 (.b false) S24 fun v25 S25 =>
 k v25 S25
def Y_5_12 (C : CS) (k : KS) (k1 : AV → AV → AV → AV → AV → AV → St → Prop) (x0 x1 x5 x7 x8 x9 : AV) (S : St) : Prop :=
 bLt x9 x1 S fun v1 S1 =>
 condX v1
 (sAl (.bslice [.sl none 0 0 0] 1 1 [0]) [(.sl none 0 0 0)] S1 fun v2 S2 =>
 bApp 1 24 x7 v2 S2 fun v3 S3 =>
 bFad 4 x8 S3 fun v4 S4 =>
 bLd v4 S4 fun v5 S5 =>
 sBuild [.b false, .i .i64 0, .i .i64 0] [] [] S5 fun v6 S6 =>
 sAl (.bslice [.b false, .i .i64 0, .i .i64 0] 1 3 [0]) [v6] S6 fun v7 S7 =>
 bApp 3 24 v5 v7 S7 fun v8 S8 =>
 bFad 4 x8 S8 fun v9 S9 =>
 bSt 1 v9 v8 S9 fun _ S10 =>
 bAdd x9 (.i .i64 1) S10 fun v11 S11 =>
 k1 x0 x1 x5 v3 x8 v11 S11)
 (Y_5_8 C k x0 x1 x5 x7 x8 S1)
def Y_5_9 (C : CS) (k : KS) (x0 x1 x5 x7 x8 : AV) (S : St) : Prop :=
 lp6 (Y_5_12 C k) x0 x1 x5 x7 x8 (.i .i64 0) S
def Y_5_6 (C : CS) (k : KS) (x0 x1 x5 x7 : AV) (S : St) : Prop :=
 sBuild [.i .i64 0, .i .i64 0, .i .i64 0, .i .i64 0, .sl none 0 0 0, .b false] [(0, 1)] [(.i .i64 15)] S fun v1 S1 =>
 bAlloc [.i .i64 0, .i .i64 0, .i .i64 0, .i .i64 0, .sl none 0 0 0, .b false] S1 fun v2 S2 =>
 bSt 6 v2 v1 S2 fun _ S3 =>
 Y_5_9 C k x0 x1 x5 x7 v2 S3
def Y_5_5 (C : CS) (k : KS) (x0 x1 x5 : AV) (S : St) : Prop :=
 Y_5_6 C k x0 x1 x5 (.sl none 0 0 0) S
def Y_5_16 (C : CS) (k : KS) (k1 : AV → AV → AV → AV → St → Prop) (x0 x1 x5 x6 : AV) (S : St) : Prop :=
 bLt x6 x0 S fun v1 S1 =>
 condX v1
 (sBuild [.i .i64 0, .i .i64 0, .i .i64 0, .i .i64 0, .sl none 0 0 0, .b false] [(0, 1)] [(.i .i64 7)] S1 fun v2 S2 =>
 sAl (.bslice [.i .i64 0, .i .i64 0, .i .i64 0, .i .i64 0, .sl none 0 0 0, .b false] 1 6 [0]) [v2] S2 fun v3 S3 =>
 bApp 6 64 x5 v3 S3 fun v4 S4 =>
 bAdd x6 (.i .i64 1) S4 fun v5 S5 =>
 k1 x0 x1 v4 v5 S5)
 (Y_5_5 C k x0 x1 x5 S1)
def Y_5_13 (C : CS) (k : KS) (x0 x1 x5 : AV) (S : St) : Prop :=
 lp4 (Y_5_16 C k) x0 x1 x5 (.i .i64 0) S
def Y_5_3 (C : CS) (k : KS) (x0 x1 : AV) (S : St) : Prop :=
 Y_5_13 C k x0 x1 (.sl none 0 0 0) S
def Y_5_2 (C : CS) (k : KS) (x0 x1 : AV) (S : St) : Prop :=
 bLt x0 (.i .i64 0) S fun v1 S1 =>
 gdO v1 false (sMv [x0] S1) S1 fun v2 S2 =>
 gdO v1 false (bGt v2 (.i .i64 120) S2) S2 fun v3 S3 =>
 bPick v1 (.b true) v3 S3 fun v4 S4 =>
 gdO v4 false (sMv [x1] S4) S4 fun v5 S5 =>
 gdO v4 false (bLt v5 (.i .i64 0) S5) S5 fun v6 S6 =>
 bPick v4 (.b true) v6 S6 fun v7 S7 =>
 gdO v7 false (sMv [x1] S7) S7 fun v8 S8 =>
 gdO v7 false (bGt v8 (.i .i64 30) S8) S8 fun v9 S9 =>
 bPick v7 (.b true) v9 S9 fun v10 S10 =>
 condX v10
 (C 9 [] S10 fun v11 S11 =>
 k v11 S11)
 (Y_5_3 C k x0 x1 S10)
def Y_5_1 (C : CS) (k : KS) (x0 x1 : AV) (S : St) : Prop :=
 Y_5_2 C k x0 x1 S
def Z_5 (C : CS) (vs : List AV) (S : St) (k : KS) : Prop := ar2 ((fun (C : CS) (k : KS) (a0 a1 : AV) (S : St) => Y_5_1 C k a0 a1 S) C k) vs S
theorem z_5 {F : Nat → Option AFn} (h : ∀ f, Nat.beq f 9 = false → F f = tbl f) : FnOk F 5 Z_5 := fn2 ((h 5 (by kernel_rfl)).trans c5) (Y := fun (C : CS) (k : KS) (a0 a1 : AV) (S : St) => Y_5_1 C k a0 a1 S) fun C l t S k => xS (fun l t S => xS (fun l t S => xS (fun l t S => xS (fun l t S => xS (fun l t S => xS (fun l t S => xS (fun l t S => xf (Y_5_8 C k (l 0) (l 1) (l 5) (l 7) (l 8) S)) (xS (fun l t S => xB (xL6 0 1 5 7 8 9 (Y_5_12 C k) (fun l t S k1 => xf (Y_5_12 C k k1 (l 0) (l 1) (l 5) (l 7) (l 8) (l 9) S)) (xf (lp6 (Y_5_12 C k) (l 0) (l 1) (l 5) (l 7) (l 8) (l 9) S)))) (xf (Y_5_9 C k (l 0) (l 1) (l 5) (l 7) (l 8) S)))) (xf (Y_5_6 C k (l 0) (l 1) (l 5) (l 7) S))) (xf (Y_5_5 C k (l 0) (l 1) (l 5) S))) (xS (fun l t S => xB (xL4 0 1 5 6 (Y_5_16 C k) (fun l t S k1 => xf (Y_5_16 C k k1 (l 0) (l 1) (l 5) (l 6) S)) (xf (lp4 (Y_5_16 C k) (l 0) (l 1) (l 5) (l 6) S)))) (xf (Y_5_13 C k (l 0) (l 1) (l 5) S)))) (xf (Y_5_3 C k (l 0) (l 1) S))) (xf (Y_5_2 C k (l 0) (l 1) S))) (xf (Y_5_1 C k (l 0) (l 1) S))
theorem c7 : tbl 7 = some (fnOf (tbl 7)) := by kernel_rfl
/-- tarpaulin/tarpaulinlaw4.ProgNames -/
def Y_7_5 (C : CS) (k : KS) (x0 x1 x5 x6 : AV) (S : St) : Prop :=
 sR (.sbin .eql) [x5, (.s [])] S fun v1 S1 =>
 gdO v1 false (sMv [x5] S1) S1 fun v2 S2 =>
 gdO v1 false (sMv [x6] S2) S2 fun v3 S3 =>
 gdO v1 false (sR (.sbin .eql) [v2, v3] S3) S3 fun v4 S4 =>
 gdO v1 false (sMv [x0] S4) S4 fun v5 S5 =>
 gdO v1 false (sMv [x1] S5) S5 fun v6 S6 =>
 gdO v1 false (bEq v5 v6 S6) S6 fun v7 S7 =>
 gdO v1 false (sR (.eq false .bool) [v4, v7] S7) S7 fun v8 S8 =>
 bPick v1 (.b true) v8 S8 fun v9 S9 =>
 gdO v9 true (C 9 [] S9) S9 fun v10 S10 =>
 bPick v9 v10 (.b false) S10 fun v11 S11 =>
 k v11 S11
def Y_7_9 (C : CS) (k : KS) (k1 : AV → AV → AV → AV → AV → St → Prop) (x0 x1 x5 x6 x7 : AV) (S : St) : Prop :=
 sR .lenS [x5] S fun v1 S1 =>
 bLt x7 v1 S1 fun v2 S2 =>
 condX v2
 (bIxS x5 x7 S2 fun v3 S3 =>
 bLt v3 (.i .u8 97) S3 fun v4 S4 =>
 gdO v4 false (sMv [x5] S4) S4 fun v5 S5 =>
 gdO v4 false (sMv [x7] S5) S5 fun v6 S6 =>
 gdO v4 false (bIxS v5 v6 S6) S6 fun v7 S7 =>
 gdO v4 false (bGt v7 (.i .u8 122) S7) S7 fun v8 S8 =>
 bPick v4 (.b true) v8 S8 fun v9 S9 =>
 condX v9
 (k (.b false) S9)
 (bAdd x7 (.i .i64 1) S9 fun v10 S10 =>
 k1 x0 x1 x5 x6 v10 S10))
 (Y_7_5 C k x0 x1 x5 x6 S2)
def Y_7_6 (C : CS) (k : KS) (x0 x1 x5 x6 : AV) (S : St) : Prop :=
 lp5 (Y_7_9 C k) x0 x1 x5 x6 (.i .i64 0) S
def Y_7_3 (C : CS) (k : KS) (x0 x1 x5 x6 : AV) (S : St) : Prop :=
 sR (.sbin .eql) [x5, (.s [])] S fun v1 S1 =>
 bLt x0 (.i .i64 1) S1 fun v2 S2 =>
 gdO v2 false (sMv [x0] S2) S2 fun v3 S3 =>
 gdO v2 false (bGt v3 (.i .i64 32) S3) S3 fun v4 S4 =>
 bPick v2 (.b true) v4 S4 fun v5 S5 =>
 sR (.eq true .bool) [v1, v5] S5 fun v6 S6 =>
 gdO v6 false (sMv [x6] S6) S6 fun v7 S7 =>
 gdO v6 false (sR (.sbin .eql) [v7, (.s [])] S7) S7 fun v8 S8 =>
 gdO v6 false (sMv [x1] S8) S8 fun v9 S9 =>
 gdO v6 false (bLt v9 (.i .i64 1) S9) S9 fun v10 S10 =>
 gdO v6 false (sMv [v10] S10) S10 fun v11 S11 =>
 gdO v11 false (sMv [x1] S11) S11 fun v12 S12 =>
 gdO v11 false (bGt v12 (.i .i64 32) S12) S12 fun v13 S13 =>
 gdO v6 false (bPick v11 (.b true) v13 S13) S13 fun v14 S14 =>
 gdO v6 false (sR (.eq true .bool) [v8, v14] S14) S14 fun v15 S15 =>
 bPick v6 (.b true) v15 S15 fun v16 S16 =>
 condX v16
 (k (.b false) S16)
 (Y_7_6 C k x0 x1 x5 x6 S16)
def Y_7_2 (C : CS) (k : KS) (x0 x1 : AV) (S : St) : Prop :=
 C 12 [x0] S fun v1 S1 =>
 C 12 [x1] S1 fun v2 S2 =>
 Y_7_3 C k x0 x1 v1 v2 S2
def Y_7_1 (C : CS) (k : KS) (x0 x1 : AV) (S : St) : Prop :=
 Y_7_2 C k x0 x1 S
def Z_7 (C : CS) (vs : List AV) (S : St) (k : KS) : Prop := ar2 ((fun (C : CS) (k : KS) (a0 a1 : AV) (S : St) => Y_7_1 C k a0 a1 S) C k) vs S
theorem z_7 {F : Nat → Option AFn} (h : ∀ f, Nat.beq f 9 = false → F f = tbl f) : FnOk F 7 Z_7 := fn2 ((h 7 (by kernel_rfl)).trans c7) (Y := fun (C : CS) (k : KS) (a0 a1 : AV) (S : St) => Y_7_1 C k a0 a1 S) fun C l t S k => xS (fun l t S => xS (fun l t S => xS (fun l t S => xS (fun l t S => xf (Y_7_5 C k (l 0) (l 1) (l 5) (l 6) S)) (xS (fun l t S => xB (xL5 0 1 5 6 7 (Y_7_9 C k) (fun l t S k1 => xf (Y_7_9 C k k1 (l 0) (l 1) (l 5) (l 6) (l 7) S)) (xf (lp5 (Y_7_9 C k) (l 0) (l 1) (l 5) (l 6) (l 7) S)))) (xf (Y_7_6 C k (l 0) (l 1) (l 5) (l 6) S)))) (xf (Y_7_3 C k (l 0) (l 1) (l 5) (l 6) S))) (xf (Y_7_2 C k (l 0) (l 1) S))) (xf (Y_7_1 C k (l 0) (l 1) S))
theorem c9 : tbl 9 = some (fnOf (tbl 9)) := by kernel_rfl
/-- tarpaulin/tarpaulinlaw4.awake -/
def Y_9_4 (C : CS) (k : KS) (x0 : AV) (S : St) : Prop :=
 k x0 S
def Y_9_3 (C : CS) (k : KS) (x1 : AV) (S : St) : Prop :=
 bLdN 6 x1 S fun v1 S1 =>
 sBuild [.i .i64 0, .i .i64 0, .i .i64 0, .i .i64 0, .sl none 0 0 0, .b false] [(0, 1), (1, 1)] [(.i .i64 4), (.i .i64 2)] S1 fun v2 S2 =>
 sAl (.bslice [.i .i64 0, .i .i64 0, .i .i64 0, .i .i64 0, .sl none 0 0 0, .b false] 2 6 [0, 1]) [v1, v2] S2 fun v3 S3 =>
 C 14 [v3] S3 fun v4 S4 =>
 bEq v4 (.i .i64 0) S4 fun v5 S5 =>
 gdO v5 true (sBuild [.i .i64 0, .i .i64 0, .i .i64 0, .i .i64 0, .sl none 0 0 0, .b false] [(0, 1), (1, 1)] [(.i .i64 4), (.i .i64 2)] S5) S5 fun v6 S6 =>
 gdO v5 true (sAl (.bslice [.i .i64 0, .i .i64 0, .i .i64 0, .i .i64 0, .sl none 0 0 0, .b false] 1 6 [0]) [v6] S6) S6 fun v7 S7 =>
 gdO v5 true (C 14 [v7] S7) S7 fun v8 S8 =>
 gdO v5 true (bEq v8 (.i .i64 1) S8) S8 fun v9 S9 =>
 bPick v5 v9 (.b false) S9 fun v10 S10 =>
 gdO v10 true (sBuild [.i .i64 0, .i .i64 0, .i .i64 0, .i .i64 0, .sl none 0 0 0, .b false] [(0, 1), (1, 1)] [(.i .i64 1), (.i .i64 8)] S10) S10 fun v11 S11 =>
 gdO v10 true (sAl (.bslice [.i .i64 0, .i .i64 0, .i .i64 0, .i .i64 0, .sl none 0 0 0, .b false] 1 6 [0]) [v11] S11) S11 fun v12 S12 =>
 gdO v10 true (C 14 [v12] S12) S12 fun v13 S13 =>
 gdO v10 true (bEq v13 (.i .i64 1) S13) S13 fun v14 S14 =>
 bPick v10 v14 (.b false) S14 fun v15 S15 =>
 gdO v15 true (sBuild [.i .i64 0, .i .i64 0, .i .i64 0, .i .i64 0, .sl none 0 0 0, .b false] [(0, 1), (2, 1)] [(.i .i64 8), (.i .i64 1)] S15) S15 fun v16 S16 =>
 gdO v15 true (sAl (.bslice [.i .i64 0, .i .i64 0, .i .i64 0, .i .i64 0, .sl none 0 0 0, .b false] 1 6 [0]) [v16] S16) S16 fun v17 S17 =>
 gdO v15 true (sAl (.bslice [.sl none 0 0 0] 2 1 [0, 1]) [v17, (.sl none 0 0 0)] S17) S17 fun v18 S18 =>
 gdO v15 true (C 10 [v18] S18) S18 fun v19 S19 =>
 gdO v15 true (bEq v19 (.i .i64 0) S19) S19 fun v20 S20 =>
 bPick v15 v20 (.b false) S20 fun v21 S21 =>
 gdO v21 true (sBuild [.i .i64 0, .i .i64 0, .i .i64 0, .i .i64 0, .sl none 0 0 0, .b false] [(0, 1), (2, 1)] [(.i .i64 8), (.i .i64 1)] S21) S21 fun v22 S22 =>
 gdO v21 true (sAl (.bslice [.i .i64 0, .i .i64 0, .i .i64 0, .i .i64 0, .sl none 0 0 0, .b false] 1 6 [0]) [v22] S22) S22 fun v23 S23 =>
 gdO v21 true (sAl (.bslice [.sl none 0 0 0] 1 1 [0]) [v23] S23) S23 fun v24 S24 =>
 gdO v21 true (C 10 [v24] S24) S24 fun v25 S25 =>
 gdO v21 true (bEq v25 (.i .i64 1) S25) S25 fun v26 S26 =>
 bPick v21 v26 (.b false) S26 fun v27 S27 =>
 gdO v27 true (C 10 [(.sl none 0 0 0)] S27) S27 fun v28 S28 =>
 gdO v27 true (bEq v28 (.i .i64 1) S28) S28 fun v29 S29 =>
 bPick v27 v29 (.b false) S29 fun v30 S30 =>
 gdO v30 true (bLdN 6 x1 S30) S30 fun v31 S31 =>
 gdO v30 true (C 17 [v31] S31) S31 fun v32 S32 =>
 gdO v30 true (sAl (.bslice [.i .i64 0] 3 1 [0, 1, 2]) [(.i .i64 4), (.i .i64 5), (.i .i64 6)] S32) S32 fun v33 S33 =>
 gdO v30 true (C 16 [v32, v33] S33) S33 fun v34 S34 =>
 bPick v30 v34 (.b false) S34 fun v35 S35 =>
 gdO v35 true (bLdN 6 x1 S35) S35 fun v36 S36 =>
 gdO v35 true (C 19 [v36] S36) S36 fun v37 S37 =>
 gdO v35 true (sAl (.bslice [.i .i64 0] 3 1 [0, 1, 2]) [(.i .i64 1), (.i .i64 2), (.i .i64 3)] S37) S37 fun v38 S38 =>
 gdO v35 true (C 16 [v37, v38] S38) S38 fun v39 S39 =>
 bPick v35 v39 (.b false) S39 fun v40 S40 =>
 gdO v40 true (C 12 [(.i .i64 32)] S40) S40 fun v41 S41 =>
 gdO v40 true (sR (.sbin .eql) [v41, (.s [117, 110, 97, 102, 116, 101, 114])] S41) S41 fun v42 S42 =>
 bPick v40 v42 (.b false) S42 fun v43 S43 =>
 gdO v43 true (C 12 [(.i .i64 0)] S43) S43 fun v44 S44 =>
 gdO v43 true (sR (.sbin .eql) [v44, (.s [])] S44) S44 fun v45 S45 =>
 bPick v43 v45 (.b false) S45 fun v46 S46 =>
 Y_9_4 C k v46 S46
def Y_9_2 (C : CS) (k : KS) (S : St) : Prop :=
 sBuild [.b false, .i .i64 0, .i .i64 0] [(1, 1)] [(.i .i64 4)] S fun v1 S1 =>
 sBuild [.b false, .i .i64 0, .i .i64 0] [(0, 1), (1, 1), (2, 1)] [(.b true), (.i .i64 5), (.i .i64 6)] S1 fun v2 S2 =>
 sAl (.bslice [.b false, .i .i64 0, .i .i64 0] 2 3 [0, 1]) [v1, v2] S2 fun v3 S3 =>
 sBuild [.i .i64 0, .i .i64 0, .i .i64 0, .i .i64 0, .sl none 0 0 0, .b false] [(0, 1), (1, 1), (2, 1), (3, 1), (4, 1), (5, 1)] [(.i .i64 15), (.i .i64 1), (.i .i64 2), (.i .i64 3), v3, (.b true)] S3 fun v4 S4 =>
 bAlloc [.i .i64 0, .i .i64 0, .i .i64 0, .i .i64 0, .sl none 0 0 0, .b false] S4 fun v5 S5 =>
 bSt 6 v5 v4 S5 fun _ S6 =>
 Y_9_3 C k v5 S6
def Y_9_1 (C : CS) (k : KS) (S : St) : Prop :=
 Y_9_2 C k S
def Z_9 (C : CS) (vs : List AV) (S : St) (k : KS) : Prop := ar0 ((fun (C : CS) (k : KS) (S : St) => Y_9_1 C k S) C k) vs S
theorem z_9 : FnOk tbl 9 Z_9 := fn0 (c9 : tbl 9 = some (fnOf (tbl 9))) (Y := fun (C : CS) (k : KS) (S : St) => Y_9_1 C k S) fun C l t S k => xS (fun l t S => xS (fun l t S => xS (fun l t S => xf (Y_9_4 C k (l 0) S)) (xf (Y_9_3 C k (l 1) S))) (xf (Y_9_2 C k S))) (xf (Y_9_1 C k S))
theorem c10 : tbl 10 = some (fnOf (tbl 10)) := by kernel_rfl
/-- tarpaulin/prog.All -/
def Y_10_4 (C : CS) (k : KS) (S : St) : Prop :=
 k (.i .i64 0) S
def Y_10_8 (C : CS) (k : KS) (k1 : AV → AV → AV → AV → St → Prop) (x1 x13 x14 x15 : AV) (S : St) : Prop :=
 bLt x15 x14 S fun v1 S1 =>
 condX v1
 (bIad 1 x13 x15 S1 fun v2 S2 =>
 bLd v2 S2 fun v3 S3 =>
 C 14 [v3] S3 fun v4 S4 =>
 bNe v4 (.i .i64 0) S4 fun v5 S5 =>
 gdO v5 false (sMv [v3] S5) S5 fun v6 S6 =>
 gdO v5 false (sR (.mkfn 23 0) [x1] S6) S6 fun v7 S7 =>
 gdO v5 false (C 22 [v6, v7] S7) S7 fun v8 S8 =>
 bPick v5 (.b true) v8 S8 fun v9 S9 =>
 condX v9
 (k (.i .i64 1) S9)
 (bAdd x15 (.i .i64 1) S9 fun v10 S10 =>
 k1 x1 x13 x14 v10 S10))
 (Y_10_4 C k S1)
def Y_10_5 (C : CS) (k : KS) (x1 : AV) (S : St) : Prop :=
 bLd x1 S fun v1 S1 =>
 bLen v1 S1 fun v2 S2 =>
 lp4 (Y_10_8 C k) x1 v1 v2 (.i .i64 0) S2
def Y_10_2 (C : CS) (k : KS) (x1 : AV) (S : St) : Prop :=
 bLd x1 S fun v1 S1 =>
 bLen v1 S1 fun v2 S2 =>
 bLt v2 (.i .i64 1) S2 fun v3 S3 =>
 gdO v3 false (bLd x1 S3) S3 fun v4 S4 =>
 gdO v3 false (bLen v4 S4) S4 fun v5 S5 =>
 gdO v3 false (bGt v5 (.i .i64 16) S5) S5 fun v6 S6 =>
 bPick v3 (.b true) v6 S6 fun v7 S7 =>
 condX v7
 (k (.i .i64 1) S7)
 (Y_10_5 C k x1 S7)
def Y_10_1 (C : CS) (k : KS) (x0 : AV) (S : St) : Prop :=
 sAl .box [x0] S fun v1 S1 =>
 Y_10_2 C k v1 S1
def Z_10 (C : CS) (vs : List AV) (S : St) (k : KS) : Prop := ar1 ((fun (C : CS) (k : KS) (a0 : AV) (S : St) => Y_10_1 C k a0 S) C k) vs S
theorem z_10 {F : Nat → Option AFn} (h : ∀ f, Nat.beq f 9 = false → F f = tbl f) : FnOk F 10 Z_10 := fn1 ((h 10 (by kernel_rfl)).trans c10) (Y := fun (C : CS) (k : KS) (a0 : AV) (S : St) => Y_10_1 C k a0 S) fun C l t S k => xS (fun l t S => xS (fun l t S => xS (fun l t S => xf (Y_10_4 C k S)) (xS (fun l t S => xB (xL4 1 13 14 15 (Y_10_8 C k) (fun l t S k1 => xf (Y_10_8 C k k1 (l 1) (l 13) (l 14) (l 15) S)) (xf (lp4 (Y_10_8 C k) (l 1) (l 13) (l 14) (l 15) S)))) (xf (Y_10_5 C k (l 1) S)))) (xf (Y_10_2 C k (l 1) S))) (xf (Y_10_1 C k (l 0) S))
theorem c12 : tbl 12 = some (fnOf (tbl 12)) := by kernel_rfl
/-- tarpaulin/prog.Name -/
def Y_12_1 (C : CS) (k : KS) (x0 : AV) (S : St) : Prop :=
 bLt x0 (.i .i64 1) S fun v1 S1 =>
 gdO v1 false (sMv [x0] S1) S1 fun v2 S2 =>
 gdO v1 false (bGt v2 (.i .i64 32) S2) S2 fun v3 S3 =>
 bPick v1 (.b true) v3 S3 fun v4 S4 =>
 condX v4
 (k (.s []) S4)
 (C 25 [(.s [115, 101, 116, 32, 109, 111, 118, 101, 32, 105, 110, 99, 32, 106, 117, 109, 112, 32, 122, 101, 114, 111, 32, 101, 109, 105, 116, 32, 101, 120, 105, 116, 32, 103, 111, 32, 109, 97, 107, 101, 32, 115, 101, 110, 100, 32, 114, 101, 99, 118, 32, 99, 108, 111, 115, 101, 32, 108, 101, 110, 32, 99, 97, 112, 32, 115, 101, 108, 101, 99, 116, 32, 110, 111, 119, 32, 110, 101, 119, 116, 105, 109, 101, 114, 32, 116, 105, 99, 107, 101, 114, 32, 102, 117, 110, 99, 32, 115, 116, 111, 112, 32, 114, 101, 115, 101, 116, 32, 99, 97, 110, 99, 101, 108, 115, 32, 100, 101, 97, 100, 108, 105, 110, 101, 32, 116, 105, 109, 101, 111, 117, 116, 32, 119, 105, 116, 104, 111, 117, 116, 32, 99, 97, 110, 99, 101, 108, 32, 101, 114, 114, 32, 99, 97, 117, 115, 101, 32, 100, 111, 110, 101, 32, 117, 110, 116, 105, 108, 32, 97, 102, 116, 101, 114, 32, 117, 110, 97, 102, 116, 101, 114])] S4 fun v5 S5 =>
 bSub x0 (.i .i64 1) S5 fun v6 S6 =>
 bIad 1 v5 v6 S6 fun v7 S7 =>
 bLd v7 S7 fun v8 S8 =>
 k v8 S8)
def Z_12 (C : CS) (vs : List AV) (S : St) (k : KS) : Prop := ar1 ((fun (C : CS) (k : KS) (a0 : AV) (S : St) => Y_12_1 C k a0 S) C k) vs S
theorem z_12 {F : Nat → Option AFn} (h : ∀ f, Nat.beq f 9 = false → F f = tbl f) : FnOk F 12 Z_12 := fn1 ((h 12 (by kernel_rfl)).trans c12) (Y := fun (C : CS) (k : KS) (a0 : AV) (S : St) => Y_12_1 C k a0 S) fun C l t S k => xf (Y_12_1 C k (l 0) S)
theorem c14 : tbl 14 = some (fnOf (tbl 14)) := by kernel_rfl
/-- tarpaulin/prog.Check -/
def Y_14_1 (C : CS) (k : KS) (x0 : AV) (S : St) : Prop :=
 sAl .box [x0] S fun v1 S1 =>
 bLd v1 S1 fun v2 S2 =>
 bLen v2 S2 fun v3 S3 =>
 bGt v3 (.i .i64 100) S3 fun v4 S4 =>
 gdO v4 false (bLd v1 S4) S4 fun v5 S5 =>
 gdO v4 false (sR (.mkfn 26 0) [v1] S5) S5 fun v6 S6 =>
 gdO v4 false (C 22 [v5, v6] S6) S6 fun v7 S7 =>
 bPick v4 (.b true) v7 S7 fun v8 S8 =>
 condX v8
 (k (.i .i64 1) S8)
 (k (.i .i64 0) S8)
def Z_14 (C : CS) (vs : List AV) (S : St) (k : KS) : Prop := ar1 ((fun (C : CS) (k : KS) (a0 : AV) (S : St) => Y_14_1 C k a0 S) C k) vs S
theorem z_14 {F : Nat → Option AFn} (h : ∀ f, Nat.beq f 9 = false → F f = tbl f) : FnOk F 14 Z_14 := fn1 ((h 14 (by kernel_rfl)).trans c14) (Y := fun (C : CS) (k : KS) (a0 : AV) (S : St) => Y_14_1 C k a0 S) fun C l t S k => xf (Y_14_1 C k (l 0) S)
theorem c16 : tbl 16 = some (fnOf (tbl 16)) := by kernel_rfl
/-- tarpaulin/tarpaulinalike.Ints -/
def Y_16_4 (C : CS) (k : KS) (S : St) : Prop :=
 k (.b true) S
def Y_16_8 (C : CS) (k : KS) (k1 : AV → AV → AV → St → Prop) (x0 x1 x5 : AV) (S : St) : Prop :=
 bLen x0 S fun v1 S1 =>
 bLt x5 v1 S1 fun v2 S2 =>
 condX v2
 (bIad 1 x0 x5 S2 fun v3 S3 =>
 bLd v3 S3 fun v4 S4 =>
 bIad 1 x1 x5 S4 fun v5 S5 =>
 bLd v5 S5 fun v6 S6 =>
 bNe v4 v6 S6 fun v7 S7 =>
 condX v7
 (k (.b false) S7)
 (bAdd x5 (.i .i64 1) S7 fun v8 S8 =>
 k1 x0 x1 v8 S8))
 (Y_16_4 C k S2)
def Y_16_5 (C : CS) (k : KS) (x0 x1 : AV) (S : St) : Prop :=
 lp3 (Y_16_8 C k) x0 x1 (.i .i64 0) S
def Y_16_2 (C : CS) (k : KS) (x0 x1 : AV) (S : St) : Prop :=
 bLen x0 S fun v1 S1 =>
 bLen x1 S1 fun v2 S2 =>
 bNe v1 v2 S2 fun v3 S3 =>
 condX v3
 (k (.b false) S3)
 (Y_16_5 C k x0 x1 S3)
def Y_16_1 (C : CS) (k : KS) (x0 x1 : AV) (S : St) : Prop :=
 Y_16_2 C k x0 x1 S
def Z_16 (C : CS) (vs : List AV) (S : St) (k : KS) : Prop := ar2 ((fun (C : CS) (k : KS) (a0 a1 : AV) (S : St) => Y_16_1 C k a0 a1 S) C k) vs S
theorem z_16 {F : Nat → Option AFn} (h : ∀ f, Nat.beq f 9 = false → F f = tbl f) : FnOk F 16 Z_16 := fn2 ((h 16 (by kernel_rfl)).trans c16) (Y := fun (C : CS) (k : KS) (a0 a1 : AV) (S : St) => Y_16_1 C k a0 a1 S) fun C l t S k => xS (fun l t S => xS (fun l t S => xS (fun l t S => xf (Y_16_4 C k S)) (xS (fun l t S => xB (xL3 0 1 5 (Y_16_8 C k) (fun l t S k1 => xf (Y_16_8 C k k1 (l 0) (l 1) (l 5) S)) (xf (lp3 (Y_16_8 C k) (l 0) (l 1) (l 5) S)))) (xf (Y_16_5 C k (l 0) (l 1) S)))) (xf (Y_16_2 C k (l 0) (l 1) S))) (xf (Y_16_1 C k (l 0) (l 1) S))
theorem c17 : tbl 17 = some (fnOf (tbl 17)) := by kernel_rfl
/-- tarpaulin/prog.Reads -/
def Y_17_4 (C : CS) (k : KS) (x2 : AV) (S : St) : Prop :=
 C 29 [x2] S fun v1 S1 =>
 k v1 S1
def Y_17_9 (C : CS) (k : KS) (x2 : AV) (S : St) : Prop :=
 Y_17_4 C k x2 S
def Y_17_13 (C : CS) (k : KS) (k1 : AV → AV → AV → AV → St → Prop) (x2 x62 x63 x64 : AV) (S : St) : Prop :=
 bLt x64 x63 S fun v1 S1 =>
 condX v1
 (bIad 3 x62 x64 S1 fun v2 S2 =>
 bLdN 3 v2 S2 fun v3 S3 =>
 bAlloc [.b false, .i .i64 0, .i .i64 0] S3 fun v4 S4 =>
 bSt 3 v4 v3 S4 fun _ S5 =>
 bFad 1 v4 S5 fun v6 S6 =>
 bLd v6 S6 fun v7 S7 =>
 sAl (.bslice [.i .i64 0] 1 1 [0]) [v7] S7 fun v8 S8 =>
 bApp 1 8 x2 v8 S8 fun v9 S9 =>
 bFad 0 v4 S9 fun v10 S10 =>
 bLd v10 S10 fun v11 S11 =>
 condX v11
 (bFad 2 v4 S11 fun v12 S12 =>
 bLd v12 S12 fun v13 S13 =>
 sAl (.bslice [.i .i64 0] 1 1 [0]) [v13] S13 fun v14 S14 =>
 bApp 1 8 v9 v14 S14 fun v15 S15 =>
 bAdd x64 (.i .i64 1) S15 fun v16 S16 =>
 k1 v15 x62 x63 v16 S16)
 (bAdd x64 (.i .i64 1) S11 fun v17 S17 =>
 k1 v9 x62 x63 v17 S17))
 (Y_17_9 C k x2 S1)
def Y_17_10 (C : CS) (k : KS) (x1 x2 : AV) (S : St) : Prop :=
 bFad 4 x1 S fun v1 S1 =>
 bLd v1 S1 fun v2 S2 =>
 bLen v2 S2 fun v3 S3 =>
 lp4 (Y_17_13 C k) x2 v2 v3 (.i .i64 0) S3
def Y_17_16 (C : CS) (k : KS) (x1 x2 : AV) (S : St) : Prop :=
 bFad 1 x1 S fun v1 S1 =>
 bLd v1 S1 fun v2 S2 =>
 sAl (.bslice [.i .i64 0] 1 1 [0]) [v2] S2 fun v3 S3 =>
 bApp 1 8 x2 v3 S3 fun v4 S4 =>
 Y_17_4 C k v4 S4
def Y_17_19 (C : CS) (k : KS) (x1 x2 : AV) (S : St) : Prop :=
 bFad 2 x1 S fun v1 S1 =>
 bLd v1 S1 fun v2 S2 =>
 sAl (.bslice [.i .i64 0] 1 1 [0]) [v2] S2 fun v3 S3 =>
 bApp 1 8 x2 v3 S3 fun v4 S4 =>
 Y_17_16 C k x1 v4 S4
def Y_17_22 (C : CS) (k : KS) (x1 x2 : AV) (S : St) : Prop :=
 bFad 2 x1 S fun v1 S1 =>
 bLd v1 S1 fun v2 S2 =>
 sAl (.bslice [.i .i64 0] 1 1 [0]) [v2] S2 fun v3 S3 =>
 bApp 1 8 x2 v3 S3 fun v4 S4 =>
 Y_17_4 C k v4 S4
def Y_17_25 (C : CS) (k : KS) (x1 x2 : AV) (S : St) : Prop :=
 bFad 3 x1 S fun v1 S1 =>
 bLd v1 S1 fun v2 S2 =>
 sAl (.bslice [.i .i64 0] 1 1 [0]) [v2] S2 fun v3 S3 =>
 bApp 1 8 x2 v3 S3 fun v4 S4 =>
 Y_17_22 C k x1 v4 S4
def Y_17_28 (C : CS) (k : KS) (x2 : AV) (S : St) : Prop :=
 Y_17_4 C k x2 S
def Y_17_33 (C : CS) (k : KS) (x1 x2 x9 : AV) (S : St) : Prop :=
 bEq x9 (.i .i64 15) S fun v1 S1 =>
 condX v1
 (Y_17_10 C k x1 x2 S1)
 (Y_17_28 C k x2 S1)
def Y_17_32 (C : CS) (k : KS) (x1 x2 x9 : AV) (S : St) : Prop :=
 bEq x9 (.i .i64 3) S fun v1 S1 =>
 condX v1
 (condX v1
 (Y_17_16 C k x1 x2 S1)
 (Y_17_33 C k x1 x2 x9 S1))
 (bEq x9 (.i .i64 5) S1 fun v2 S2 =>
 condX v2
 (condX v2
 (Y_17_16 C k x1 x2 S2)
 (Y_17_33 C k x1 x2 x9 S2))
 (bEq x9 (.i .i64 6) S2 fun v3 S3 =>
 condX v3
 (condX v3
 (Y_17_16 C k x1 x2 S3)
 (Y_17_33 C k x1 x2 x9 S3))
 (bEq x9 (.i .i64 11) S3 fun v4 S4 =>
 condX v4
 (condX v4
 (Y_17_16 C k x1 x2 S4)
 (Y_17_33 C k x1 x2 x9 S4))
 (bEq x9 (.i .i64 12) S4 fun v5 S5 =>
 condX v5
 (condX v5
 (Y_17_16 C k x1 x2 S5)
 (Y_17_33 C k x1 x2 x9 S5))
 (bEq x9 (.i .i64 13) S5 fun v6 S6 =>
 condX v6
 (condX v6
 (Y_17_16 C k x1 x2 S6)
 (Y_17_33 C k x1 x2 x9 S6))
 (bEq x9 (.i .i64 14) S6 fun v7 S7 =>
 condX v7
 (condX v7
 (Y_17_16 C k x1 x2 S7)
 (Y_17_33 C k x1 x2 x9 S7))
 (bEq x9 (.i .i64 20) S7 fun v8 S8 =>
 condX v8
 (condX v8
 (Y_17_16 C k x1 x2 S8)
 (Y_17_33 C k x1 x2 x9 S8))
 (bEq x9 (.i .i64 27) S8 fun v9 S9 =>
 condX v9
 (condX v9
 (Y_17_16 C k x1 x2 S9)
 (Y_17_33 C k x1 x2 x9 S9))
 (bEq x9 (.i .i64 28) S9 fun v10 S10 =>
 condX v10
 (condX v10
 (Y_17_16 C k x1 x2 S10)
 (Y_17_33 C k x1 x2 x9 S10))
 (bEq x9 (.i .i64 29) S10 fun v11 S11 =>
 condX v11
 (condX v11
 (Y_17_16 C k x1 x2 S11)
 (Y_17_33 C k x1 x2 x9 S11))
 (bEq x9 (.i .i64 30) S11 fun v12 S12 =>
 condX v12
 (condX v12
 (Y_17_16 C k x1 x2 S12)
 (Y_17_33 C k x1 x2 x9 S12))
 (bEq x9 (.i .i64 32) S12 fun v13 S13 =>
 condX v13
 (Y_17_16 C k x1 x2 S13)
 (Y_17_33 C k x1 x2 x9 S13)))))))))))))
def Y_17_31 (C : CS) (k : KS) (x1 x2 x9 : AV) (S : St) : Prop :=
 bEq x9 (.i .i64 10) S fun v1 S1 =>
 condX v1
 (condX v1
 (Y_17_19 C k x1 x2 S1)
 (Y_17_32 C k x1 x2 x9 S1))
 (bEq x9 (.i .i64 21) S1 fun v2 S2 =>
 condX v2
 (condX v2
 (Y_17_19 C k x1 x2 S2)
 (Y_17_32 C k x1 x2 x9 S2))
 (bEq x9 (.i .i64 26) S2 fun v3 S3 =>
 condX v3
 (Y_17_19 C k x1 x2 S3)
 (Y_17_32 C k x1 x2 x9 S3)))
def Y_17_30 (C : CS) (k : KS) (x1 x2 x9 : AV) (S : St) : Prop :=
 bEq x9 (.i .i64 2) S fun v1 S1 =>
 condX v1
 (condX v1
 (Y_17_22 C k x1 x2 S1)
 (Y_17_31 C k x1 x2 x9 S1))
 (bEq x9 (.i .i64 17) S1 fun v2 S2 =>
 condX v2
 (condX v2
 (Y_17_22 C k x1 x2 S2)
 (Y_17_31 C k x1 x2 x9 S2))
 (bEq x9 (.i .i64 18) S2 fun v3 S3 =>
 condX v3
 (condX v3
 (Y_17_22 C k x1 x2 S3)
 (Y_17_31 C k x1 x2 x9 S3))
 (bEq x9 (.i .i64 19) S3 fun v4 S4 =>
 condX v4
 (condX v4
 (Y_17_22 C k x1 x2 S4)
 (Y_17_31 C k x1 x2 x9 S4))
 (bEq x9 (.i .i64 22) S4 fun v5 S5 =>
 condX v5
 (condX v5
 (Y_17_22 C k x1 x2 S5)
 (Y_17_31 C k x1 x2 x9 S5))
 (bEq x9 (.i .i64 25) S5 fun v6 S6 =>
 condX v6
 (condX v6
 (Y_17_22 C k x1 x2 S6)
 (Y_17_31 C k x1 x2 x9 S6))
 (bEq x9 (.i .i64 31) S6 fun v7 S7 =>
 condX v7
 (Y_17_22 C k x1 x2 S7)
 (Y_17_31 C k x1 x2 x9 S7)))))))
def Y_17_29 (C : CS) (k : KS) (x1 x2 x9 : AV) (S : St) : Prop :=
 bEq x9 (.i .i64 23) S fun v1 S1 =>
 condX v1
 (condX v1
 (Y_17_25 C k x1 x2 S1)
 (Y_17_30 C k x1 x2 x9 S1))
 (bEq x9 (.i .i64 24) S1 fun v2 S2 =>
 condX v2
 (Y_17_25 C k x1 x2 S2)
 (Y_17_30 C k x1 x2 x9 S2))
def Y_17_5 (C : CS) (k : KS) (x1 x2 : AV) (S : St) : Prop :=
 bFad 0 x1 S fun v1 S1 =>
 bLd v1 S1 fun v2 S2 =>
 Y_17_29 C k x1 x2 v2 S2
def Y_17_2 (C : CS) (k : KS) (x1 x2 : AV) (S : St) : Prop :=
 bLdN 6 x1 S fun v1 S1 =>
 C 27 [v1, (.i .i64 100)] S1 fun v2 S2 =>
 bNot v2 S2 fun v3 S3 =>
 condX v3
 (k (.sl none 0 0 0) S3)
 (Y_17_5 C k x1 x2 S3)
def Y_17_1 (C : CS) (k : KS) (x0 : AV) (S : St) : Prop :=
 sAl .box [x0] S fun v1 S1 =>
 Y_17_2 C k v1 (.sl none 0 0 0) S1
def Z_17 (C : CS) (vs : List AV) (S : St) (k : KS) : Prop := ar1 ((fun (C : CS) (k : KS) (a0 : AV) (S : St) => Y_17_1 C k a0 S) C k) vs S
theorem z_17 {F : Nat → Option AFn} (h : ∀ f, Nat.beq f 9 = false → F f = tbl f) : FnOk F 17 Z_17 := fn1 ((h 17 (by kernel_rfl)).trans c17) (Y := fun (C : CS) (k : KS) (a0 : AV) (S : St) => Y_17_1 C k a0 S) fun C l t S k => xS (fun l t S => xS (fun l t S => xS (fun l t S => xf (Y_17_4 C k (l 2) S)) (xS (fun l t S => xB (xS (fun l t S => xS (fun l t S => xf (Y_17_9 C k (l 2) S)) (xS (fun l t S => xB (xL4 2 62 63 64 (Y_17_13 C k) (fun l t S k1 => xf (Y_17_13 C k k1 (l 2) (l 62) (l 63) (l 64) S)) (xf (lp4 (Y_17_13 C k) (l 2) (l 62) (l 63) (l 64) S)))) (xf (Y_17_10 C k (l 1) (l 2) S)))) (xB (xS (fun l t S => xf (Y_17_16 C k (l 1) (l 2) S)) (xB (xS (fun l t S => xf (Y_17_19 C k (l 1) (l 2) S)) (xB (xS (fun l t S => xf (Y_17_22 C k (l 1) (l 2) S)) (xB (xS (fun l t S => xf (Y_17_25 C k (l 1) (l 2) S)) (xB (xS (fun l t S => xf (Y_17_28 C k (l 2) S)) (xS (fun l t S => xS (fun l t S => xS (fun l t S => xS (fun l t S => xf (Y_17_33 C k (l 1) (l 2) (l 9) S)) (xf (Y_17_32 C k (l 1) (l 2) (l 9) S))) (xf (Y_17_31 C k (l 1) (l 2) (l 9) S))) (xf (Y_17_30 C k (l 1) (l 2) (l 9) S))) (xf (Y_17_29 C k (l 1) (l 2) (l 9) S))))))))))))))) (xf (Y_17_5 C k (l 1) (l 2) S)))) (xf (Y_17_2 C k (l 1) (l 2) S))) (xf (Y_17_1 C k (l 0) S))
theorem c19 : tbl 19 = some (fnOf (tbl 19)) := by kernel_rfl
/-- tarpaulin/prog.Writes -/
def Y_19_4 (C : CS) (k : KS) (x2 : AV) (S : St) : Prop :=
 C 29 [x2] S fun v1 S1 =>
 k v1 S1
def Y_19_8 (C : CS) (k : KS) (x1 x2 : AV) (S : St) : Prop :=
 bFad 1 x1 S fun v1 S1 =>
 bLd v1 S1 fun v2 S2 =>
 bFad 2 x1 S2 fun v3 S3 =>
 bLd v3 S3 fun v4 S4 =>
 bFad 3 x1 S4 fun v5 S5 =>
 bLd v5 S5 fun v6 S6 =>
 sAl (.bslice [.i .i64 0] 3 1 [0, 1, 2]) [v2, v4, v6] S6 fun v7 S7 =>
 bApp 1 8 x2 v7 S7 fun v8 S8 =>
 Y_19_4 C k v8 S8
def Y_19_11 (C : CS) (k : KS) (x1 x2 : AV) (S : St) : Prop :=
 bFad 3 x1 S fun v1 S1 =>
 bLd v1 S1 fun v2 S2 =>
 sAl (.bslice [.i .i64 0] 1 1 [0]) [v2] S2 fun v3 S3 =>
 bApp 1 8 x2 v3 S3 fun v4 S4 =>
 Y_19_4 C k v4 S4
def Y_19_14 (C : CS) (k : KS) (x1 x2 : AV) (S : St) : Prop :=
 bFad 1 x1 S fun v1 S1 =>
 bLd v1 S1 fun v2 S2 =>
 sAl (.bslice [.i .i64 0] 1 1 [0]) [v2] S2 fun v3 S3 =>
 bApp 1 8 x2 v3 S3 fun v4 S4 =>
 Y_19_4 C k v4 S4
def Y_19_17 (C : CS) (k : KS) (x1 x2 : AV) (S : St) : Prop :=
 bFad 3 x1 S fun v1 S1 =>
 bLd v1 S1 fun v2 S2 =>
 sAl (.bslice [.i .i64 0] 1 1 [0]) [v2] S2 fun v3 S3 =>
 bApp 1 8 x2 v3 S3 fun v4 S4 =>
 Y_19_14 C k x1 v4 S4
def Y_19_20 (C : CS) (k : KS) (x1 x2 : AV) (S : St) : Prop :=
 bFad 2 x1 S fun v1 S1 =>
 bLd v1 S1 fun v2 S2 =>
 sAl (.bslice [.i .i64 0] 1 1 [0]) [v2] S2 fun v3 S3 =>
 bApp 1 8 x2 v3 S3 fun v4 S4 =>
 Y_19_4 C k v4 S4
def Y_19_23 (C : CS) (k : KS) (x1 x2 : AV) (S : St) : Prop :=
 bFad 3 x1 S fun v1 S1 =>
 bLd v1 S1 fun v2 S2 =>
 sAl (.bslice [.i .i64 0] 1 1 [0]) [v2] S2 fun v3 S3 =>
 bApp 1 8 x2 v3 S3 fun v4 S4 =>
 Y_19_20 C k x1 v4 S4
def Y_19_26 (C : CS) (k : KS) (x2 : AV) (S : St) : Prop :=
 Y_19_4 C k x2 S
def Y_19_31 (C : CS) (k : KS) (x1 x2 x7 : AV) (S : St) : Prop :=
 bEq x7 (.i .i64 21) S fun v1 S1 =>
 condX v1
 (Y_19_11 C k x1 x2 S1)
 (bEq x7 (.i .i64 15) S1 fun v2 S2 =>
 condX v2
 (Y_19_8 C k x1 x2 S2)
 (Y_19_26 C k x2 S2))
def Y_19_30 (C : CS) (k : KS) (x1 x2 x7 : AV) (S : St) : Prop :=
 bEq x7 (.i .i64 1) S fun v1 S1 =>
 condX v1
 (condX v1
 (Y_19_14 C k x1 x2 S1)
 (Y_19_31 C k x1 x2 x7 S1))
 (bEq x7 (.i .i64 2) S1 fun v2 S2 =>
 condX v2
 (condX v2
 (Y_19_14 C k x1 x2 S2)
 (Y_19_31 C k x1 x2 x7 S2))
 (bEq x7 (.i .i64 3) S2 fun v3 S3 =>
 condX v3
 (condX v3
 (Y_19_14 C k x1 x2 S3)
 (Y_19_31 C k x1 x2 x7 S3))
 (bEq x7 (.i .i64 8) S3 fun v4 S4 =>
 condX v4
 (condX v4
 (Y_19_14 C k x1 x2 S4)
 (Y_19_31 C k x1 x2 x7 S4))
 (bEq x7 (.i .i64 9) S4 fun v5 S5 =>
 condX v5
 (condX v5
 (Y_19_14 C k x1 x2 S5)
 (Y_19_31 C k x1 x2 x7 S5))
 (bEq x7 (.i .i64 16) S5 fun v6 S6 =>
 condX v6
 (condX v6
 (Y_19_14 C k x1 x2 S6)
 (Y_19_31 C k x1 x2 x7 S6))
 (bEq x7 (.i .i64 19) S6 fun v7 S7 =>
 condX v7
 (condX v7
 (Y_19_14 C k x1 x2 S7)
 (Y_19_31 C k x1 x2 x7 S7))
 (bEq x7 (.i .i64 22) S7 fun v8 S8 =>
 condX v8
 (condX v8
 (Y_19_14 C k x1 x2 S8)
 (Y_19_31 C k x1 x2 x7 S8))
 (bEq x7 (.i .i64 23) S8 fun v9 S9 =>
 condX v9
 (condX v9
 (Y_19_14 C k x1 x2 S9)
 (Y_19_31 C k x1 x2 x7 S9))
 (bEq x7 (.i .i64 24) S9 fun v10 S10 =>
 condX v10
 (condX v10
 (Y_19_14 C k x1 x2 S10)
 (Y_19_31 C k x1 x2 x7 S10))
 (bEq x7 (.i .i64 25) S10 fun v11 S11 =>
 condX v11
 (condX v11
 (Y_19_14 C k x1 x2 S11)
 (Y_19_31 C k x1 x2 x7 S11))
 (bEq x7 (.i .i64 31) S11 fun v12 S12 =>
 condX v12
 (Y_19_14 C k x1 x2 S12)
 (Y_19_31 C k x1 x2 x7 S12))))))))))))
def Y_19_29 (C : CS) (k : KS) (x1 x2 x7 : AV) (S : St) : Prop :=
 bEq x7 (.i .i64 17) S fun v1 S1 =>
 condX v1
 (condX v1
 (Y_19_17 C k x1 x2 S1)
 (Y_19_30 C k x1 x2 x7 S1))
 (bEq x7 (.i .i64 18) S1 fun v2 S2 =>
 condX v2
 (Y_19_17 C k x1 x2 S2)
 (Y_19_30 C k x1 x2 x7 S2))
def Y_19_28 (C : CS) (k : KS) (x1 x2 x7 : AV) (S : St) : Prop :=
 bEq x7 (.i .i64 13) S fun v1 S1 =>
 condX v1
 (condX v1
 (Y_19_20 C k x1 x2 S1)
 (Y_19_29 C k x1 x2 x7 S1))
 (bEq x7 (.i .i64 14) S1 fun v2 S2 =>
 condX v2
 (condX v2
 (Y_19_20 C k x1 x2 S2)
 (Y_19_29 C k x1 x2 x7 S2))
 (bEq x7 (.i .i64 20) S2 fun v3 S3 =>
 condX v3
 (condX v3
 (Y_19_20 C k x1 x2 S3)
 (Y_19_29 C k x1 x2 x7 S3))
 (bEq x7 (.i .i64 27) S3 fun v4 S4 =>
 condX v4
 (condX v4
 (Y_19_20 C k x1 x2 S4)
 (Y_19_29 C k x1 x2 x7 S4))
 (bEq x7 (.i .i64 28) S4 fun v5 S5 =>
 condX v5
 (condX v5
 (Y_19_20 C k x1 x2 S5)
 (Y_19_29 C k x1 x2 x7 S5))
 (bEq x7 (.i .i64 29) S5 fun v6 S6 =>
 condX v6
 (condX v6
 (Y_19_20 C k x1 x2 S6)
 (Y_19_29 C k x1 x2 x7 S6))
 (bEq x7 (.i .i64 32) S6 fun v7 S7 =>
 condX v7
 (Y_19_20 C k x1 x2 S7)
 (Y_19_29 C k x1 x2 x7 S7)))))))
def Y_19_27 (C : CS) (k : KS) (x1 x2 x7 : AV) (S : St) : Prop :=
 bEq x7 (.i .i64 11) S fun v1 S1 =>
 condX v1
 (condX v1
 (Y_19_23 C k x1 x2 S1)
 (Y_19_28 C k x1 x2 x7 S1))
 (bEq x7 (.i .i64 30) S1 fun v2 S2 =>
 condX v2
 (Y_19_23 C k x1 x2 S2)
 (Y_19_28 C k x1 x2 x7 S2))
def Y_19_5 (C : CS) (k : KS) (x1 x2 : AV) (S : St) : Prop :=
 bFad 0 x1 S fun v1 S1 =>
 bLd v1 S1 fun v2 S2 =>
 Y_19_27 C k x1 x2 v2 S2
def Y_19_2 (C : CS) (k : KS) (x1 x2 : AV) (S : St) : Prop :=
 bLdN 6 x1 S fun v1 S1 =>
 C 27 [v1, (.i .i64 100)] S1 fun v2 S2 =>
 bNot v2 S2 fun v3 S3 =>
 condX v3
 (k (.sl none 0 0 0) S3)
 (Y_19_5 C k x1 x2 S3)
def Y_19_1 (C : CS) (k : KS) (x0 : AV) (S : St) : Prop :=
 sAl .box [x0] S fun v1 S1 =>
 Y_19_2 C k v1 (.sl none 0 0 0) S1
def Z_19 (C : CS) (vs : List AV) (S : St) (k : KS) : Prop := ar1 ((fun (C : CS) (k : KS) (a0 : AV) (S : St) => Y_19_1 C k a0 S) C k) vs S
theorem z_19 {F : Nat → Option AFn} (h : ∀ f, Nat.beq f 9 = false → F f = tbl f) : FnOk F 19 Z_19 := fn1 ((h 19 (by kernel_rfl)).trans c19) (Y := fun (C : CS) (k : KS) (a0 : AV) (S : St) => Y_19_1 C k a0 S) fun C l t S k => xS (fun l t S => xS (fun l t S => xS (fun l t S => xf (Y_19_4 C k (l 2) S)) (xS (fun l t S => xB (xS (fun l t S => xf (Y_19_8 C k (l 1) (l 2) S)) (xB (xS (fun l t S => xf (Y_19_11 C k (l 1) (l 2) S)) (xB (xS (fun l t S => xf (Y_19_14 C k (l 1) (l 2) S)) (xB (xS (fun l t S => xf (Y_19_17 C k (l 1) (l 2) S)) (xB (xS (fun l t S => xf (Y_19_20 C k (l 1) (l 2) S)) (xB (xS (fun l t S => xf (Y_19_23 C k (l 1) (l 2) S)) (xB (xS (fun l t S => xf (Y_19_26 C k (l 2) S)) (xS (fun l t S => xS (fun l t S => xS (fun l t S => xS (fun l t S => xf (Y_19_31 C k (l 1) (l 2) (l 7) S)) (xf (Y_19_30 C k (l 1) (l 2) (l 7) S))) (xf (Y_19_29 C k (l 1) (l 2) (l 7) S))) (xf (Y_19_28 C k (l 1) (l 2) (l 7) S))) (xf (Y_19_27 C k (l 1) (l 2) (l 7) S))))))))))))))))) (xf (Y_19_5 C k (l 1) (l 2) S)))) (xf (Y_19_2 C k (l 1) (l 2) S))) (xf (Y_19_1 C k (l 0) S))
theorem c22 : tbl 22 = some (fnOf (tbl 22)) := by kernel_rfl
/-- slices.ContainsFunc[[]tarpaulin/api.Instr,tarpaulin/api.Instr] -/
def Y_22_1 (C : CS) (k : KS) (x0 x1 : AV) (S : St) : Prop :=
 C 32 [x0, x1] S fun v1 S1 =>
 bGe v1 (.i .i64 0) S1 fun v2 S2 =>
 k v2 S2
def Z_22 (C : CS) (vs : List AV) (S : St) (k : KS) : Prop := ar2 ((fun (C : CS) (k : KS) (a0 a1 : AV) (S : St) => Y_22_1 C k a0 a1 S) C k) vs S
theorem z_22 {F : Nat → Option AFn} (h : ∀ f, Nat.beq f 9 = false → F f = tbl f) : FnOk F 22 Z_22 := fn2 ((h 22 (by kernel_rfl)).trans c22) (Y := fun (C : CS) (k : KS) (a0 a1 : AV) (S : St) => Y_22_1 C k a0 a1 S) fun C l t S k => xf (Y_22_1 C k (l 0) (l 1) S)
theorem c23 : tbl 23 = some (fnOf (tbl 23)) := by kernel_rfl
/-- tarpaulin/prog.All$1 -/
def Y_23_1 (C : CS) (k : KS) (x0 x1 : AV) (S : St) : Prop :=
 sAl .box [x0] S fun v1 S1 =>
 bLdN 6 v1 S1 fun v2 S2 =>
 C 24 [v2] S2 fun v3 S3 =>
 bLd x1 S3 fun v4 S4 =>
 bLen v4 S4 fun v5 S5 =>
 bGe v3 v5 S5 fun v6 S6 =>
 bif (bif (againX (.ld none) [x1] S3 S1) then true else false) then (k v6 S6) else False
def Z_23 (C : CS) (vs : List AV) (S : St) (k : KS) : Prop := ar2 ((fun (C : CS) (k : KS) (a0 a1 : AV) (S : St) => Y_23_1 C k a0 a1 S) C k) vs S
theorem z_23 {F : Nat → Option AFn} (h : ∀ f, Nat.beq f 9 = false → F f = tbl f) : FnOk F 23 Z_23 := fn2 ((h 23 (by kernel_rfl)).trans c23) (Y := fun (C : CS) (k : KS) (a0 a1 : AV) (S : St) => Y_23_1 C k a0 a1 S) fun C l t S k => xf (Y_23_1 C k (l 0) (l 1) S)
theorem c24 : tbl 24 = some (fnOf (tbl 24)) := by kernel_rfl
/-- tarpaulin/prog.starts -/
def Y_24_1 (C : CS) (k : KS) (x0 : AV) (S : St) : Prop :=
 sAl .box [x0] S fun v1 S1 =>
 bFad 0 v1 S1 fun v2 S2 =>
 bLd v2 S2 fun v3 S3 =>
 bEq v3 (.i .i64 8) S3 fun v4 S4 =>
 condX v4
 (bFad 2 v1 S4 fun v5 S5 =>
 bLd v5 S5 fun v6 S6 =>
 k v6 S6)
 (bEq v3 (.i .i64 19) S4 fun v7 S7 =>
 condX v7
 (condX v7
 (bFad 3 v1 S7 fun v8 S8 =>
 bLd v8 S8 fun v9 S9 =>
 k v9 S9)
 (k (.i .i64 (-1)) S7))
 (bEq v3 (.i .i64 31) S7 fun v10 S10 =>
 condX v10
 (bFad 3 v1 S10 fun v11 S11 =>
 bLd v11 S11 fun v12 S12 =>
 k v12 S12)
 (k (.i .i64 (-1)) S10)))
def Z_24 (C : CS) (vs : List AV) (S : St) (k : KS) : Prop := ar1 ((fun (C : CS) (k : KS) (a0 : AV) (S : St) => Y_24_1 C k a0 S) C k) vs S
theorem z_24 {F : Nat → Option AFn} (h : ∀ f, Nat.beq f 9 = false → F f = tbl f) : FnOk F 24 Z_24 := fn1 ((h 24 (by kernel_rfl)).trans c24) (Y := fun (C : CS) (k : KS) (a0 : AV) (S : St) => Y_24_1 C k a0 S) fun C l t S k => xf (Y_24_1 C k (l 0) S)
theorem c25 : tbl 25 = some (fnOf (tbl 25)) := by kernel_rfl
/-- strings.Fields -/
def Y_25_14 (C : CS) (k : KS) (x0 x9 x10 x11 : AV) (S : St) : Prop :=
 sR .lenS [x0] S fun v1 S1 =>
 bLt x11 v1 S1 fun v2 S2 =>
 condX v2
 (sR (.slcS true false) [x0, x11] S2 fun v3 S3 =>
 bIad 1 x9 x10 S3 fun v4 S4 =>
 bSt 1 v4 v3 S4 fun _ S5 =>
 k x9 S5)
 (k x9 S2)
def Y_25_24 (C : CS) (k : KS) (k1 : AV → AV → AV → AV → AV → St → Prop) (x0 x9 x10 x12 : AV) (S : St) : Prop :=
 k1 x0 x9 x10 x12 x12 S
def Y_25_27 (C : CS) (k : KS) (k1 : AV → AV → AV → AV → AV → St → Prop) (k2 : AV → AV → AV → AV → St → Prop) (x0 x9 x10 x12 : AV) (S : St) : Prop :=
 sR .lenS [x0] S fun v1 S1 =>
 bLt x12 v1 S1 fun v2 S2 =>
 gdO v2 true (sMv [x0] S2) S2 fun v3 S3 =>
 gdO v2 true (sMv [x12] S3) S3 fun v4 S4 =>
 gdO v2 true (bIxS v3 v4 S4) S4 fun v5 S5 =>
 gdO v2 true (bIadA 256 1 (.p (some (0, 0))) v5 S5) S5 fun v6 S6 =>
 gdO v2 true (bLd v6 S6) S6 fun v7 S7 =>
 gdO v2 true (bNe v7 (.i .u8 0) S7) S7 fun v8 S8 =>
 bPick v2 v8 (.b false) S8 fun v9 S9 =>
 condX v9
 (bAdd x12 (.i .i64 1) S9 fun v10 S10 =>
 k2 x0 x9 x10 v10 S10)
 (Y_25_24 C k k1 x0 x9 x10 x12 S9)
def Y_25_22 (C : CS) (k : KS) (k1 : AV → AV → AV → AV → AV → St → Prop) (x0 x9 x10 x12 : AV) (S : St) : Prop :=
 bAdd x12 (.i .i64 1) S fun v1 S1 =>
 lp4 (Y_25_27 C k k1) x0 x9 x10 v1 S1
def Y_25_21 (C : CS) (k : KS) (k1 : AV → AV → AV → AV → AV → St → Prop) (x0 x9 x10 x12 : AV) (S : St) : Prop :=
 bAdd x10 (.i .i64 1) S fun v1 S1 =>
 Y_25_22 C k k1 x0 x9 v1 x12 S1
def Y_25_20 (C : CS) (k : KS) (k1 : AV → AV → AV → AV → AV → St → Prop) (x0 x9 x10 x11 x12 : AV) (S : St) : Prop :=
 sR (.slcS true true) [x0, x11, x12] S fun v1 S1 =>
 bIad 1 x9 x10 S1 fun v2 S2 =>
 bSt 1 v2 v1 S2 fun _ S3 =>
 Y_25_21 C k k1 x0 x9 x10 x12 S3
def Y_25_19 (C : CS) (k : KS) (k1 : AV → AV → AV → AV → AV → St → Prop) (x0 x9 x10 x11 x12 : AV) (S : St) : Prop :=
 bIxS x0 x12 S fun v1 S1 =>
 bIadA 256 1 (.p (some (0, 0))) v1 S1 fun v2 S2 =>
 bLd v2 S2 fun v3 S3 =>
 bEq v3 (.i .u8 0) S3 fun v4 S4 =>
 condX v4
 (bAdd x12 (.i .i64 1) S4 fun v5 S5 =>
 k1 x0 x9 x10 x11 v5 S5)
 (Y_25_20 C k k1 x0 x9 x10 x11 x12 S4)
def Y_25_17 (C : CS) (k : KS) (k1 : AV → AV → AV → AV → AV → St → Prop) (x0 x9 x10 x11 x12 : AV) (S : St) : Prop :=
 sR .lenS [x0] S fun v1 S1 =>
 bLt x12 v1 S1 fun v2 S2 =>
 condX v2
 (Y_25_19 C k k1 x0 x9 x10 x11 x12 S2)
 (Y_25_14 C k x0 x9 x10 x11 S2)
def Y_25_12 (C : CS) (k : KS) (x0 x9 x10 x12 : AV) (S : St) : Prop :=
 lp5 (Y_25_17 C k) x0 x9 x10 x12 x12 S
def Y_25_30 (C : CS) (k : KS) (k1 : AV → AV → AV → AV → St → Prop) (x0 x9 x10 x12 : AV) (S : St) : Prop :=
 sR .lenS [x0] S fun v1 S1 =>
 bLt x12 v1 S1 fun v2 S2 =>
 gdO v2 true (sMv [x0] S2) S2 fun v3 S3 =>
 gdO v2 true (sMv [x12] S3) S3 fun v4 S4 =>
 gdO v2 true (bIxS v3 v4 S4) S4 fun v5 S5 =>
 gdO v2 true (bIadA 256 1 (.p (some (0, 0))) v5 S5) S5 fun v6 S6 =>
 gdO v2 true (bLd v6 S6) S6 fun v7 S7 =>
 gdO v2 true (bNe v7 (.i .u8 0) S7) S7 fun v8 S8 =>
 bPick v2 v8 (.b false) S8 fun v9 S9 =>
 condX v9
 (bAdd x12 (.i .i64 1) S9 fun v10 S10 =>
 k1 x0 x9 x10 v10 S10)
 (Y_25_12 C k x0 x9 x10 x12 S9)
def Y_25_10 (C : CS) (k : KS) (x0 x9 x10 : AV) (S : St) : Prop :=
 lp4 (Y_25_30 C k) x0 x9 x10 (.i .i64 0) S
def Y_25_9 (C : CS) (k : KS) (x0 x9 x10 : AV) (S : St) : Prop :=
 Y_25_10 C k x0 x9 x10 S
def Y_25_8 (C : CS) (k : KS) (x0 x9 : AV) (S : St) : Prop :=
 Y_25_9 C k x0 x9 (.i .i64 0) S
def Y_25_7 (C : CS) (k : KS) (x0 x3 : AV) (S : St) : Prop :=
 sAl (.mksl [.s []] 16) [x3, x3] S fun v1 S1 =>
 Y_25_8 C k x0 v1 S1
def Y_25_6 (C : CS) (k : KS) (x0 x3 x5 : AV) (S : St) : Prop :=
 bGe x5 (.i .u8 128) S fun v1 S1 =>
 condX v1
 (C 33 [x0, (.fn 34 [] [])] S1 fun v2 S2 =>
 k v2 S2)
 (Y_25_7 C k x0 x3 S1)
def Y_25_34 (C : CS) (k : KS) (k1 : AV → AV → AV → AV → AV → St → Prop) (x0 x3 x4 x5 x6 : AV) (S : St) : Prop :=
 sR .lenS [x0] S fun v1 S1 =>
 bLt x6 v1 S1 fun v2 S2 =>
 condX v2
 (bIxS x0 x6 S2 fun v3 S3 =>
 sR (.bin .or) [x5, v3] S3 fun v4 S4 =>
 bIadA 256 1 (.p (some (0, 0))) v3 S4 fun v5 S5 =>
 bLd v5 S5 fun v6 S6 =>
 sR (.cvtI .i64) [v6] S6 fun v7 S7 =>
 sR (.un .xor) [v7] S7 fun v8 S8 =>
 sR (.bin .and) [x4, v8] S8 fun v9 S9 =>
 bAdd x3 v9 S9 fun v10 S10 =>
 bAdd x6 (.i .i64 1) S10 fun v11 S11 =>
 k1 x0 v10 v7 v4 v11 S11)
 (Y_25_6 C k x0 x3 x5 S2)
def Y_25_31 (C : CS) (k : KS) (x0 x3 x4 x5 : AV) (S : St) : Prop :=
 lp5 (Y_25_34 C k) x0 x3 x4 x5 (.i .i64 0) S
def Y_25_4 (C : CS) (k : KS) (x0 x3 x4 : AV) (S : St) : Prop :=
 Y_25_31 C k x0 x3 x4 (.i .u8 0) S
def Y_25_3 (C : CS) (k : KS) (x0 x3 : AV) (S : St) : Prop :=
 Y_25_4 C k x0 x3 (.i .i64 1) S
def Y_25_2 (C : CS) (k : KS) (x0 : AV) (S : St) : Prop :=
 Y_25_3 C k x0 (.i .i64 0) S
def Y_25_1 (C : CS) (k : KS) (x0 : AV) (S : St) : Prop :=
 Y_25_2 C k x0 S
def Z_25 (C : CS) (vs : List AV) (S : St) (k : KS) : Prop := ar1 ((fun (C : CS) (k : KS) (a0 : AV) (S : St) => Y_25_1 C k a0 S) C k) vs S
theorem z_25 {F : Nat → Option AFn} (h : ∀ f, Nat.beq f 9 = false → F f = tbl f) : FnOk F 25 Z_25 := fn1 ((h 25 (by kernel_rfl)).trans c25) (Y := fun (C : CS) (k : KS) (a0 : AV) (S : St) => Y_25_1 C k a0 S) fun C l t S k => xS (fun l t S => xS (fun l t S => xS (fun l t S => xS (fun l t S => xS (fun l t S => xS (fun l t S => xS (fun l t S => xS (fun l t S => xS (fun l t S => xS (fun l t S => xS (fun l t S => xS (fun l t S => xS (fun l t S => xf (Y_25_14 C k (l 0) (l 9) (l 10) (l 11) S)) (xB (xL5 0 9 10 11 12 (Y_25_17 C k) (fun l t S k1 => xS (fun l t S => xB (xS (fun l t S => xS (fun l t S => xS (fun l t S => xS (fun l t S => xS (fun l t S => xf (Y_25_24 C k k1 (l 0) (l 9) (l 10) (l 12) S)) (xB (xL4 0 9 10 12 (Y_25_27 C k k1) (fun l t S k2 => xf (Y_25_27 C k k1 k2 (l 0) (l 9) (l 10) (l 12) S)) (xf (lp4 (Y_25_27 C k k1) (l 0) (l 9) (l 10) (l 12) S))))) (xf (Y_25_22 C k k1 (l 0) (l 9) (l 10) (l 12) S))) (xf (Y_25_21 C k k1 (l 0) (l 9) (l 10) (l 12) S))) (xf (Y_25_20 C k k1 (l 0) (l 9) (l 10) (l 11) (l 12) S))) (xf (Y_25_19 C k k1 (l 0) (l 9) (l 10) (l 11) (l 12) S)))) (xf (Y_25_17 C k k1 (l 0) (l 9) (l 10) (l 11) (l 12) S))) (xf (lp5 (Y_25_17 C k) (l 0) (l 9) (l 10) (l 11) (l 12) S))))) (xf (Y_25_12 C k (l 0) (l 9) (l 10) (l 12) S))) (xB (xL4 0 9 10 12 (Y_25_30 C k) (fun l t S k1 => xf (Y_25_30 C k k1 (l 0) (l 9) (l 10) (l 12) S)) (xf (lp4 (Y_25_30 C k) (l 0) (l 9) (l 10) (l 12) S))))) (xf (Y_25_10 C k (l 0) (l 9) (l 10) S))) (xf (Y_25_9 C k (l 0) (l 9) (l 10) S))) (xf (Y_25_8 C k (l 0) (l 9) S))) (xf (Y_25_7 C k (l 0) (l 3) S))) (xf (Y_25_6 C k (l 0) (l 3) (l 5) S))) (xS (fun l t S => xB (xL5 0 3 4 5 6 (Y_25_34 C k) (fun l t S k1 => xf (Y_25_34 C k k1 (l 0) (l 3) (l 4) (l 5) (l 6) S)) (xf (lp5 (Y_25_34 C k) (l 0) (l 3) (l 4) (l 5) (l 6) S)))) (xf (Y_25_31 C k (l 0) (l 3) (l 4) (l 5) S)))) (xf (Y_25_4 C k (l 0) (l 3) (l 4) S))) (xf (Y_25_3 C k (l 0) (l 3) S))) (xf (Y_25_2 C k (l 0) S))) (xf (Y_25_1 C k (l 0) S))
theorem c26 : tbl 26 = some (fnOf (tbl 26)) := by kernel_rfl
/-- tarpaulin/prog.Check$1 -/
def Y_26_1 (C : CS) (k : KS) (x0 x1 : AV) (S : St) : Prop :=
 sAl .box [x0] S fun v1 S1 =>
 bLdN 6 v1 S1 fun v2 S2 =>
 bLd x1 S2 fun v3 S3 =>
 bLen v3 S3 fun v4 S4 =>
 C 27 [v2, v4] S4 fun v5 S5 =>
 bNot v5 S5 fun v6 S6 =>
 k v6 S6
def Z_26 (C : CS) (vs : List AV) (S : St) (k : KS) : Prop := ar2 ((fun (C : CS) (k : KS) (a0 a1 : AV) (S : St) => Y_26_1 C k a0 a1 S) C k) vs S
theorem z_26 {F : Nat → Option AFn} (h : ∀ f, Nat.beq f 9 = false → F f = tbl f) : FnOk F 26 Z_26 := fn2 ((h 26 (by kernel_rfl)).trans c26) (Y := fun (C : CS) (k : KS) (a0 a1 : AV) (S : St) => Y_26_1 C k a0 a1 S) fun C l t S k => xf (Y_26_1 C k (l 0) (l 1) S)
theorem c27 : tbl 27 = some (fnOf (tbl 27)) := by kernel_rfl
/-- tarpaulin/prog.good -/
def Y_27_4 (C : CS) (k : KS) (x2 : AV) (S : St) : Prop :=
 bFad 4 x2 S fun v1 S1 =>
 bLd v1 S1 fun v2 S2 =>
 C 36 [v2, (.fn 37 [] [])] S2 fun v3 S3 =>
 bNot v3 S3 fun v4 S4 =>
 k v4 S4
def Y_27_8 (C : CS) (k : KS) (k1 : AV → AV → AV → AV → AV → St → Prop) (x1 x2 x42 x43 x44 : AV) (S : St) : Prop :=
 bLt x44 x43 S fun v1 S1 =>
 condX v1
 (bIad 1 x42 x44 S1 fun v2 S2 =>
 bLd v2 S2 fun v3 S3 =>
 bFad 0 x2 S3 fun v4 S4 =>
 bLd v4 S4 fun v5 S5 =>
 bSub v5 (.i .i64 1) S5 fun v6 S6 =>
 sR (.bin .mul) [(.i .i64 3), v6] S6 fun v7 S7 =>
 bAdd v7 x44 S7 fun v8 S8 =>
 bIxS (.s [114, 110, 45, 114, 114, 45, 114, 110, 45, 112, 45, 45, 114, 112, 45, 114, 45, 45, 45, 45, 45, 114, 103, 45, 114, 110, 45, 114, 114, 45, 114, 114, 114, 114, 45, 45, 114, 114, 45, 114, 114, 45, 114, 114, 114, 114, 45, 45, 114, 114, 114, 114, 114, 114, 114, 114, 103, 114, 114, 45, 114, 114, 114, 114, 114, 45, 114, 114, 114, 114, 114, 114, 114, 114, 45, 114, 114, 45, 114, 114, 45, 114, 114, 45, 114, 114, 45, 114, 114, 114, 114, 114, 103, 114, 114, 45]) v8 S8 fun v9 S9 =>
 C 35 [v9, v3, x1] S9 fun v10 S10 =>
 bNot v10 S10 fun v11 S11 =>
 condX v11
 (k (.b false) S11)
 (bAdd x44 (.i .i64 1) S11 fun v12 S12 =>
 k1 x1 x2 x42 x43 v12 S12))
 (Y_27_4 C k x2 S1)
def Y_27_5 (C : CS) (k : KS) (x1 x2 : AV) (S : St) : Prop :=
 bFad 1 x2 S fun v1 S1 =>
 bLd v1 S1 fun v2 S2 =>
 bFad 2 x2 S2 fun v3 S3 =>
 bLd v3 S3 fun v4 S4 =>
 bFad 3 x2 S4 fun v5 S5 =>
 bLd v5 S5 fun v6 S6 =>
 sAl (.bslice [.i .i64 0] 3 1 [0, 1, 2]) [v2, v4, v6] S6 fun v7 S7 =>
 bLen v7 S7 fun v8 S8 =>
 lp5 (Y_27_8 C k) x1 x2 v7 v8 (.i .i64 0) S8
def Y_27_2 (C : CS) (k : KS) (x1 x2 : AV) (S : St) : Prop :=
 bFad 0 x2 S fun v1 S1 =>
 bLd v1 S1 fun v2 S2 =>
 bLt v2 (.i .i64 1) S2 fun v3 S3 =>
 gdO v3 false (bFad 0 x2 S3) S3 fun v4 S4 =>
 gdO v3 false (bLd v4 S4) S4 fun v5 S5 =>
 gdO v3 false (bGt v5 (.i .i64 32) S5) S5 fun v6 S6 =>
 bPick v3 (.b true) v6 S6 fun v7 S7 =>
 gdO v7 false (bFad 0 x2 S7) S7 fun v8 S8 =>
 gdO v7 false (bLd v8 S8) S8 fun v9 S9 =>
 gdO v7 false (bNe v9 (.i .i64 15) S9) S9 fun v10 S10 =>
 gdO v7 false (sMv [v10] S10) S10 fun v11 S11 =>
 gdO v11 true (bFad 4 x2 S11) S11 fun v12 S12 =>
 gdO v11 true (bLd v12 S12) S12 fun v13 S13 =>
 gdO v11 true (bLen v13 S13) S13 fun v14 S14 =>
 gdO v11 true (bGt v14 (.i .i64 0) S14) S14 fun v15 S15 =>
 gdO v11 true (sMv [v15] S15) S15 fun v16 S16 =>
 gdO v16 false (bFad 5 x2 S16) S16 fun v17 S17 =>
 gdO v16 false (bLd v17 S17) S17 fun v18 S18 =>
 gdO v11 true (bPick v16 (.b true) v18 S18) S18 fun v19 S19 =>
 gdO v7 false (bPick v11 v19 (.b false) S19) S19 fun v20 S20 =>
 bPick v7 (.b true) v20 S20 fun v21 S21 =>
 gdO v21 false (bFad 4 x2 S21) S21 fun v22 S22 =>
 gdO v21 false (bLd v22 S22) S22 fun v23 S23 =>
 gdO v21 false (bLen v23 S23) S23 fun v24 S24 =>
 gdO v21 false (bGt v24 (.i .i64 16) S24) S24 fun v25 S25 =>
 bPick v21 (.b true) v25 S25 fun v26 S26 =>
 condX v26
 (k (.b false) S26)
 (Y_27_5 C k x1 x2 S26)
def Y_27_1 (C : CS) (k : KS) (x0 x1 : AV) (S : St) : Prop :=
 sAl .box [x0] S fun v1 S1 =>
 Y_27_2 C k x1 v1 S1
def Z_27 (C : CS) (vs : List AV) (S : St) (k : KS) : Prop := ar2 ((fun (C : CS) (k : KS) (a0 a1 : AV) (S : St) => Y_27_1 C k a0 a1 S) C k) vs S
theorem z_27 {F : Nat → Option AFn} (h : ∀ f, Nat.beq f 9 = false → F f = tbl f) : FnOk F 27 Z_27 := fn2 ((h 27 (by kernel_rfl)).trans c27) (Y := fun (C : CS) (k : KS) (a0 a1 : AV) (S : St) => Y_27_1 C k a0 a1 S) fun C l t S k => xS (fun l t S => xS (fun l t S => xS (fun l t S => xf (Y_27_4 C k (l 2) S)) (xS (fun l t S => xB (xL5 1 2 42 43 44 (Y_27_8 C k) (fun l t S k1 => xf (Y_27_8 C k k1 (l 1) (l 2) (l 42) (l 43) (l 44) S)) (xf (lp5 (Y_27_8 C k) (l 1) (l 2) (l 42) (l 43) (l 44) S)))) (xf (Y_27_5 C k (l 1) (l 2) S)))) (xf (Y_27_2 C k (l 1) (l 2) S))) (xf (Y_27_1 C k (l 0) (l 1) S))
theorem c29 : tbl 29 = some (fnOf (tbl 29)) := by kernel_rfl
/-- tarpaulin/prog.rising -/
def Y_29_1 (C : CS) (k : KS) (x0 : AV) (S : St) : Prop :=
 C 40 [x0] S fun v1 S1 =>
 C 41 [x0] S1 fun v2 S2 =>
 k v2 S2
def Z_29 (C : CS) (vs : List AV) (S : St) (k : KS) : Prop := ar1 ((fun (C : CS) (k : KS) (a0 : AV) (S : St) => Y_29_1 C k a0 S) C k) vs S
theorem z_29 {F : Nat → Option AFn} (h : ∀ f, Nat.beq f 9 = false → F f = tbl f) : FnOk F 29 Z_29 := fn1 ((h 29 (by kernel_rfl)).trans c29) (Y := fun (C : CS) (k : KS) (a0 : AV) (S : St) => Y_29_1 C k a0 S) fun C l t S k => xf (Y_29_1 C k (l 0) S)
theorem c32 : tbl 32 = some (fnOf (tbl 32)) := by kernel_rfl
/-- slices.IndexFunc[[]tarpaulin/api.Instr,tarpaulin/api.Instr] -/
def Y_32_3 (C : CS) (k : KS) (S : St) : Prop :=
 k (.i .i64 (-1)) S
def Y_32_7 (C : CS) (k : KS) (k1 : AV → AV → AV → AV → St → Prop) (x0 x1 x7 x8 : AV) (S : St) : Prop :=
 bLt x8 x7 S fun v1 S1 =>
 condX v1
 (bIad 6 x0 x8 S1 fun v2 S2 =>
 bLdN 6 v2 S2 fun v3 S3 =>
 sCv C [x1, v3] S3 fun v4 S4 =>
 condX v4
 (k x8 S4)
 (bAdd x8 (.i .i64 1) S4 fun v5 S5 =>
 k1 x0 x1 x7 v5 S5))
 (Y_32_3 C k S1)
def Y_32_4 (C : CS) (k : KS) (x0 x1 : AV) (S : St) : Prop :=
 bLen x0 S fun v1 S1 =>
 lp4 (Y_32_7 C k) x0 x1 v1 (.i .i64 0) S1
def Y_32_1 (C : CS) (k : KS) (x0 x1 : AV) (S : St) : Prop :=
 Y_32_4 C k x0 x1 S
def Z_32 (C : CS) (vs : List AV) (S : St) (k : KS) : Prop := ar2 ((fun (C : CS) (k : KS) (a0 a1 : AV) (S : St) => Y_32_1 C k a0 a1 S) C k) vs S
theorem z_32 {F : Nat → Option AFn} (h : ∀ f, Nat.beq f 9 = false → F f = tbl f) : FnOk F 32 Z_32 := fn2 ((h 32 (by kernel_rfl)).trans c32) (Y := fun (C : CS) (k : KS) (a0 a1 : AV) (S : St) => Y_32_1 C k a0 a1 S) fun C l t S k => xS (fun l t S => xS (fun l t S => xf (Y_32_3 C k S)) (xS (fun l t S => xB (xL4 0 1 7 8 (Y_32_7 C k) (fun l t S k1 => xf (Y_32_7 C k k1 (l 0) (l 1) (l 7) (l 8) S)) (xf (lp4 (Y_32_7 C k) (l 0) (l 1) (l 7) (l 8) S)))) (xf (Y_32_4 C k (l 0) (l 1) S)))) (xf (Y_32_1 C k (l 0) (l 1) S))
theorem c35 : tbl 35 = some (fnOf (tbl 35)) := by kernel_rfl
/-- tarpaulin/prog.may -/
def Y_35_1 (C : CS) (k : KS) (x0 x1 x2 : AV) (S : St) : Prop :=
 bEq x0 (.i .u8 114) S fun v1 S1 =>
 condX v1
 (C 38 [x1] S1 fun v2 S2 =>
 k v2 S2)
 (bEq x0 (.i .u8 112) S1 fun v3 S3 =>
 condX v3
 (bGe x1 (.i .i64 0) S3 fun v4 S4 =>
 gdO v4 true (sMv [x1] S4) S4 fun v5 S5 =>
 gdO v4 true (sMv [x2] S5) S5 fun v6 S6 =>
 gdO v4 true (bLe v5 v6 S6) S6 fun v7 S7 =>
 bPick v4 v7 (.b false) S7 fun v8 S8 =>
 k v8 S8)
 (bEq x0 (.i .u8 103) S3 fun v9 S9 =>
 condX v9
 (bGe x1 (.i .i64 0) S9 fun v10 S10 =>
 gdO v10 true (sMv [x1] S10) S10 fun v11 S11 =>
 gdO v10 true (bLt v11 (.i .i64 16) S11) S11 fun v12 S12 =>
 bPick v10 v12 (.b false) S12 fun v13 S13 =>
 k v13 S13)
 (bEq x0 (.i .u8 45) S9 fun v14 S14 =>
 condX v14
 (bEq x1 (.i .i64 0) S14 fun v15 S15 =>
 k v15 S15)
 (k (.b true) S14))))
def Z_35 (C : CS) (vs : List AV) (S : St) (k : KS) : Prop := ar3 ((fun (C : CS) (k : KS) (a0 a1 a2 : AV) (S : St) => Y_35_1 C k a0 a1 a2 S) C k) vs S
theorem z_35 {F : Nat → Option AFn} (h : ∀ f, Nat.beq f 9 = false → F f = tbl f) : FnOk F 35 Z_35 := fn3 ((h 35 (by kernel_rfl)).trans c35) (Y := fun (C : CS) (k : KS) (a0 a1 a2 : AV) (S : St) => Y_35_1 C k a0 a1 a2 S) fun C l t S k => xf (Y_35_1 C k (l 0) (l 1) (l 2) S)
theorem c36 : tbl 36 = some (fnOf (tbl 36)) := by kernel_rfl
/-- slices.ContainsFunc[[]tarpaulin/api.Case,tarpaulin/api.Case] -/
def Y_36_1 (C : CS) (k : KS) (x0 x1 : AV) (S : St) : Prop :=
 C 43 [x0, x1] S fun v1 S1 =>
 bGe v1 (.i .i64 0) S1 fun v2 S2 =>
 k v2 S2
def Z_36 (C : CS) (vs : List AV) (S : St) (k : KS) : Prop := ar2 ((fun (C : CS) (k : KS) (a0 a1 : AV) (S : St) => Y_36_1 C k a0 a1 S) C k) vs S
theorem z_36 {F : Nat → Option AFn} (h : ∀ f, Nat.beq f 9 = false → F f = tbl f) : FnOk F 36 Z_36 := fn2 ((h 36 (by kernel_rfl)).trans c36) (Y := fun (C : CS) (k : KS) (a0 a1 : AV) (S : St) => Y_36_1 C k a0 a1 S) fun C l t S k => xf (Y_36_1 C k (l 0) (l 1) S)
theorem c37 : tbl 37 = some (fnOf (tbl 37)) := by kernel_rfl
/-- tarpaulin/prog.good$1 -/
def Y_37_1 (C : CS) (k : KS) (x0 : AV) (S : St) : Prop :=
 sAl .box [x0] S fun v1 S1 =>
 bFad 1 v1 S1 fun v2 S2 =>
 bLd v2 S2 fun v3 S3 =>
 C 38 [v3] S3 fun v4 S4 =>
 bNot v4 S4 fun v5 S5 =>
 gdO v5 false (bFad 2 v1 S5) S5 fun v6 S6 =>
 gdO v5 false (bLd v6 S6) S6 fun v7 S7 =>
 gdO v5 false (C 38 [v7] S7) S7 fun v8 S8 =>
 gdO v5 false (bNot v8 S8) S8 fun v9 S9 =>
 bPick v5 (.b true) v9 S9 fun v10 S10 =>
 gdO v10 false (bFad 0 v1 S10) S10 fun v11 S11 =>
 gdO v10 false (bLd v11 S11) S11 fun v12 S12 =>
 gdO v10 false (bNot v12 S12) S12 fun v13 S13 =>
 gdO v10 false (sMv [v13] S13) S13 fun v14 S14 =>
 gdO v14 true (bFad 2 v1 S14) S14 fun v15 S15 =>
 gdO v14 true (bLd v15 S15) S15 fun v16 S16 =>
 gdO v14 true (bNe v16 (.i .i64 0) S16) S16 fun v17 S17 =>
 gdO v10 false (bPick v14 v17 (.b false) S17) S17 fun v18 S18 =>
 bPick v10 (.b true) v18 S18 fun v19 S19 =>
 k v19 S19
def Z_37 (C : CS) (vs : List AV) (S : St) (k : KS) : Prop := ar1 ((fun (C : CS) (k : KS) (a0 : AV) (S : St) => Y_37_1 C k a0 S) C k) vs S
theorem z_37 {F : Nat → Option AFn} (h : ∀ f, Nat.beq f 9 = false → F f = tbl f) : FnOk F 37 Z_37 := fn1 ((h 37 (by kernel_rfl)).trans c37) (Y := fun (C : CS) (k : KS) (a0 : AV) (S : St) => Y_37_1 C k a0 S) fun C l t S k => xf (Y_37_1 C k (l 0) S)
theorem c38 : tbl 38 = some (fnOf (tbl 38)) := by kernel_rfl
/-- tarpaulin/prog.register -/
def Y_38_1 (C : CS) (k : KS) (x0 : AV) (S : St) : Prop :=
 bGe x0 (.i .i64 0) S fun v1 S1 =>
 gdO v1 true (sMv [x0] S1) S1 fun v2 S2 =>
 gdO v1 true (bLt v2 (.i .i64 8) S2) S2 fun v3 S3 =>
 bPick v1 v3 (.b false) S3 fun v4 S4 =>
 k v4 S4
def Z_38 (C : CS) (vs : List AV) (S : St) (k : KS) : Prop := ar1 ((fun (C : CS) (k : KS) (a0 : AV) (S : St) => Y_38_1 C k a0 S) C k) vs S
theorem z_38 {F : Nat → Option AFn} (h : ∀ f, Nat.beq f 9 = false → F f = tbl f) : FnOk F 38 Z_38 := fn1 ((h 38 (by kernel_rfl)).trans c38) (Y := fun (C : CS) (k : KS) (a0 : AV) (S : St) => Y_38_1 C k a0 S) fun C l t S k => xf (Y_38_1 C k (l 0) S)
theorem c40 : tbl 40 = some (fnOf (tbl 40)) := by kernel_rfl
/-- slices.Sort[[]int,int] -/
def Y_40_1 (C : CS) (k : KS) (x0 : AV) (S : St) : Prop :=
 bLen x0 S fun v1 S1 =>
 sR (.cvtI .u64) [v1] S1 fun v2 S2 =>
 C 45 [v2] S2 fun v3 S3 =>
 C 44 [x0, (.i .i64 0), v1, v3] S3 fun v4 S4 =>
 k (.tup []) S4
def Z_40 (C : CS) (vs : List AV) (S : St) (k : KS) : Prop := ar1 ((fun (C : CS) (k : KS) (a0 : AV) (S : St) => Y_40_1 C k a0 S) C k) vs S
theorem z_40 {F : Nat → Option AFn} (h : ∀ f, Nat.beq f 9 = false → F f = tbl f) : FnOk F 40 Z_40 := fn1 ((h 40 (by kernel_rfl)).trans c40) (Y := fun (C : CS) (k : KS) (a0 : AV) (S : St) => Y_40_1 C k a0 S) fun C l t S k => xf (Y_40_1 C k (l 0) S)
theorem c41 : tbl 41 = some (fnOf (tbl 41)) := by kernel_rfl
/-- slices.Compact[[]int,int] -/
def Y_41_4 (C : CS) (k : KS) (x0 : AV) (S : St) : Prop :=
 k x0 S
def Y_41_10 (C : CS) (k : KS) (k1 : AV → AV → St → Prop) (x0 x3 : AV) (S : St) : Prop :=
 bAdd x3 (.i .i64 1) S fun v1 S1 =>
 k1 x0 v1 S1
def Y_41_16 (C : CS) (k : KS) (k1 : AV → AV → St → Prop) (x0 x3 : AV) (S : St) : Prop :=
 sR (.slc 1 true false false) [x0, x3] S fun v1 S1 =>
 sE (.clr [.i .i64 0]) [v1] S1 fun _ S2 =>
 sR (.slc 1 false true false) [x0, x3] S2 fun v3 S3 =>
 k v3 S3
def Y_41_20 (C : CS) (k : KS) (k1 : AV → AV → St → Prop) (k2 : AV → AV → AV → AV → St → Prop) (x0 x3 x4 x5 : AV) (S : St) : Prop :=
 bLen x4 S fun v1 S1 =>
 bLt x5 v1 S1 fun v2 S2 =>
 condX v2
 (bIad 1 x4 x5 S2 fun v3 S3 =>
 bLd v3 S3 fun v4 S4 =>
 bSub x5 (.i .i64 1) S4 fun v5 S5 =>
 bIad 1 x4 v5 S5 fun v6 S6 =>
 bLd v6 S6 fun v7 S7 =>
 bNe v4 v7 S7 fun v8 S8 =>
 condX v8
 (bIad 1 x4 x5 S8 fun v9 S9 =>
 bLd v9 S9 fun v10 S10 =>
 bIad 1 x0 x3 S10 fun v11 S11 =>
 bSt 1 v11 v10 S11 fun _ S12 =>
 bAdd x3 (.i .i64 1) S12 fun v13 S13 =>
 bAdd x5 (.i .i64 1) S13 fun v14 S14 =>
 k2 x0 v13 x4 v14 S14)
 (bAdd x5 (.i .i64 1) S8 fun v15 S15 =>
 k2 x0 x3 x4 v15 S15))
 (Y_41_16 C k k1 x0 x3 S2)
def Y_41_17 (C : CS) (k : KS) (k1 : AV → AV → St → Prop) (x0 x3 x4 : AV) (S : St) : Prop :=
 lp4 (Y_41_20 C k k1) x0 x3 x4 (.i .i64 1) S
def Y_41_14 (C : CS) (k : KS) (k1 : AV → AV → St → Prop) (x0 x3 : AV) (S : St) : Prop :=
 sR (.slc 1 true false false) [x0, x3] S fun v1 S1 =>
 Y_41_17 C k k1 x0 x3 v1 S1
def Y_41_21 (C : CS) (k : KS) (k1 : AV → AV → St → Prop) (x0 x3 : AV) (S : St) : Prop :=
 Y_41_10 C k k1 x0 x3 S
def Y_41_13 (C : CS) (k : KS) (k1 : AV → AV → St → Prop) (x0 x3 t25 : AV) (S : St) : Prop :=
 condX t25
 (Y_41_14 C k k1 x0 x3 S)
 (Y_41_21 C k k1 x0 x3 S)
def Y_41_12 (C : CS) (k : KS) (k1 : AV → AV → St → Prop) (x0 x3 : AV) (S : St) : Prop :=
 bIad 1 x0 x3 S fun v1 S1 =>
 bLd v1 S1 fun v2 S2 =>
 bSub x3 (.i .i64 1) S2 fun v3 S3 =>
 bIad 1 x0 v3 S3 fun v4 S4 =>
 bLd v4 S4 fun v5 S5 =>
 bEq v2 v5 S5 fun v6 S6 =>
 Y_41_13 C k k1 x0 x3 v6 S6
def Y_41_8 (C : CS) (k : KS) (k1 : AV → AV → St → Prop) (x0 x3 : AV) (S : St) : Prop :=
 bLen x0 S fun v1 S1 =>
 bLt x3 v1 S1 fun v2 S2 =>
 condX v2
 (Y_41_12 C k k1 x0 x3 S2)
 (Y_41_4 C k x0 S2)
def Y_41_5 (C : CS) (k : KS) (x0 : AV) (S : St) : Prop :=
 lp2 (Y_41_8 C k) x0 (.i .i64 1) S
def Y_41_2 (C : CS) (k : KS) (x0 : AV) (S : St) : Prop :=
 bLen x0 S fun v1 S1 =>
 bLt v1 (.i .i64 2) S1 fun v2 S2 =>
 condX v2
 (k x0 S2)
 (Y_41_5 C k x0 S2)
def Y_41_1 (C : CS) (k : KS) (x0 : AV) (S : St) : Prop :=
 Y_41_2 C k x0 S
def Z_41 (C : CS) (vs : List AV) (S : St) (k : KS) : Prop := ar1 ((fun (C : CS) (k : KS) (a0 : AV) (S : St) => Y_41_1 C k a0 S) C k) vs S
theorem z_41 {F : Nat → Option AFn} (h : ∀ f, Nat.beq f 9 = false → F f = tbl f) : FnOk F 41 Z_41 := fn1 ((h 41 (by kernel_rfl)).trans c41) (Y := fun (C : CS) (k : KS) (a0 : AV) (S : St) => Y_41_1 C k a0 S) fun C l t S k => xS (fun l t S => xS (fun l t S => xS (fun l t S => xf (Y_41_4 C k (l 0) S)) (xS (fun l t S => xB (xL2 0 3 (Y_41_8 C k) (fun l t S k1 => xS (fun l t S => xS (fun l t S => xf (Y_41_10 C k k1 (l 0) (l 3) S)) (xB (xS (fun l t S => xC (xS (fun l t S => xS (fun l t S => xf (Y_41_16 C k k1 (l 0) (l 3) S)) (xS (fun l t S => xB (xL4 0 3 4 5 (Y_41_20 C k k1) (fun l t S k2 => xf (Y_41_20 C k k1 k2 (l 0) (l 3) (l 4) (l 5) S)) (xf (lp4 (Y_41_20 C k k1) (l 0) (l 3) (l 4) (l 5) S)))) (xf (Y_41_17 C k k1 (l 0) (l 3) (l 4) S)))) (xf (Y_41_14 C k k1 (l 0) (l 3) S))) (xf (Y_41_21 C k k1 (l 0) (l 3) S)) (xf (Y_41_13 C k k1 (l 0) (l 3) (t 25) S))) (xf (Y_41_12 C k k1 (l 0) (l 3) S))))) (xf (Y_41_8 C k k1 (l 0) (l 3) S))) (xf (lp2 (Y_41_8 C k) (l 0) (l 3) S)))) (xf (Y_41_5 C k (l 0) S)))) (xf (Y_41_2 C k (l 0) S))) (xf (Y_41_1 C k (l 0) S))
theorem c43 : tbl 43 = some (fnOf (tbl 43)) := by kernel_rfl
/-- slices.IndexFunc[[]tarpaulin/api.Case,tarpaulin/api.Case] -/
def Y_43_3 (C : CS) (k : KS) (S : St) : Prop :=
 k (.i .i64 (-1)) S
def Y_43_7 (C : CS) (k : KS) (k1 : AV → AV → AV → AV → St → Prop) (x0 x1 x7 x8 : AV) (S : St) : Prop :=
 bLt x8 x7 S fun v1 S1 =>
 condX v1
 (bIad 3 x0 x8 S1 fun v2 S2 =>
 bLdN 3 v2 S2 fun v3 S3 =>
 sCv C [x1, v3] S3 fun v4 S4 =>
 condX v4
 (k x8 S4)
 (bAdd x8 (.i .i64 1) S4 fun v5 S5 =>
 k1 x0 x1 x7 v5 S5))
 (Y_43_3 C k S1)
def Y_43_4 (C : CS) (k : KS) (x0 x1 : AV) (S : St) : Prop :=
 bLen x0 S fun v1 S1 =>
 lp4 (Y_43_7 C k) x0 x1 v1 (.i .i64 0) S1
def Y_43_1 (C : CS) (k : KS) (x0 x1 : AV) (S : St) : Prop :=
 Y_43_4 C k x0 x1 S
def Z_43 (C : CS) (vs : List AV) (S : St) (k : KS) : Prop := ar2 ((fun (C : CS) (k : KS) (a0 a1 : AV) (S : St) => Y_43_1 C k a0 a1 S) C k) vs S
theorem z_43 {F : Nat → Option AFn} (h : ∀ f, Nat.beq f 9 = false → F f = tbl f) : FnOk F 43 Z_43 := fn2 ((h 43 (by kernel_rfl)).trans c43) (Y := fun (C : CS) (k : KS) (a0 a1 : AV) (S : St) => Y_43_1 C k a0 a1 S) fun C l t S k => xS (fun l t S => xS (fun l t S => xf (Y_43_3 C k S)) (xS (fun l t S => xB (xL4 0 1 7 8 (Y_43_7 C k) (fun l t S k1 => xf (Y_43_7 C k k1 (l 0) (l 1) (l 7) (l 8) S)) (xf (lp4 (Y_43_7 C k) (l 0) (l 1) (l 7) (l 8) S)))) (xf (Y_43_4 C k (l 0) (l 1) S)))) (xf (Y_43_1 C k (l 0) (l 1) S))
theorem c44 : tbl 44 = some (fnOf (tbl 44)) := by kernel_rfl
/-- slices.pdqsortOrdered[int] -/
def Y_44_15 (C : CS) (k : KS) (k1 : AV → AV → AV → AV → AV → AV → St → Prop) (x0 x1 x2 x3 x10 x14 x15 : AV) (S : St) : Prop :=
 bSub x14 x1 S fun v1 S1 =>
 bSub x2 x14 S1 fun v2 S2 =>
 sR (.bin .quo) [x10, (.i .i64 8)] S2 fun v3 S3 =>
 bLt v1 v2 S3 fun v4 S4 =>
 condX v4
 (bGe v1 v3 S4 fun v5 S5 =>
 C 44 [x0, x1, x14, x3] S5 fun v6 S6 =>
 bAdd x14 (.i .i64 1) S6 fun v7 S7 =>
 k1 x0 v7 x2 x3 v5 x15 S7)
 (bGe v2 v3 S4 fun v8 S8 =>
 bAdd x14 (.i .i64 1) S8 fun v9 S9 =>
 C 44 [x0, v9, x2, x3] S9 fun v10 S10 =>
 k1 x0 x1 x14 x3 v8 x15 S10)
def Y_44_14 (C : CS) (k : KS) (k1 : AV → AV → AV → AV → AV → AV → St → Prop) (x0 x1 x2 x3 x10 x11 : AV) (S : St) : Prop :=
 C 56 [x0, x1, x2, x11] S fun v1 S1 =>
 bExt 0 v1 S1 fun v2 S2 =>
 bExt 1 v1 S2 fun v3 S3 =>
 Y_44_15 C k k1 x0 x1 x2 x3 x10 v2 v3 S3
def Y_44_13 (C : CS) (k : KS) (k1 : AV → AV → AV → AV → AV → AV → St → Prop) (x0 x1 x2 x3 x8 x9 x10 x11 : AV) (S : St) : Prop :=
 bGt x1 (.i .i64 0) S fun v1 S1 =>
 gdO v1 true (sMv [x0] S1) S1 fun v2 S2 =>
 gdO v1 true (sMv [x1] S2) S2 fun v3 S3 =>
 gdO v1 true (bSub v3 (.i .i64 1) S3) S3 fun v4 S4 =>
 gdO v1 true (bIad 1 v2 v4 S4) S4 fun v5 S5 =>
 gdO v1 true (bLd v5 S5) S5 fun v6 S6 =>
 gdO v1 true (sMv [x0] S6) S6 fun v7 S7 =>
 gdO v1 true (sMv [x11] S7) S7 fun v8 S8 =>
 gdO v1 true (bIad 1 v7 v8 S8) S8 fun v9 S9 =>
 gdO v1 true (bLd v9 S9) S9 fun v10 S10 =>
 gdO v1 true (C 54 [v6, v10] S10) S10 fun v11 S11 =>
 gdO v1 true (bNot v11 S11) S11 fun v12 S12 =>
 bPick v1 v12 (.b false) S12 fun v13 S13 =>
 condX v13
 (C 55 [x0, x1, x2, x11] S13 fun v14 S14 =>
 k1 x0 v14 x2 x3 x8 x9 S14)
 (Y_44_14 C k k1 x0 x1 x2 x3 x10 x11 S13)
def Y_44_12 (C : CS) (k : KS) (k1 : AV → AV → AV → AV → AV → AV → St → Prop) (x0 x1 x2 x3 x8 x9 x10 x11 x12 : AV) (S : St) : Prop :=
 gdO x8 true (sMv [x9] S) S fun v1 S1 =>
 bPick x8 v1 (.b false) S1 fun v2 S2 =>
 gdO v2 true (sMv [x12] S2) S2 fun v3 S3 =>
 gdO v2 true (bEq v3 (.i .i64 1) S3) S3 fun v4 S4 =>
 bPick v2 v4 (.b false) S4 fun v5 S5 =>
 condX v5
 (C 53 [x0, x1, x2] S5 fun v6 S6 =>
 condX v6
 (k (.tup []) S6)
 (Y_44_13 C k k1 x0 x1 x2 x3 x8 x9 x10 x11 S6))
 (Y_44_13 C k k1 x0 x1 x2 x3 x8 x9 x10 x11 S5)
def Y_44_11 (C : CS) (k : KS) (k1 : AV → AV → AV → AV → AV → AV → St → Prop) (x0 x1 x2 x3 x8 x9 x10 x11 x12 : AV) (S : St) : Prop :=
 bEq x12 (.i .i64 2) S fun v1 S1 =>
 condX v1
 (C 52 [x0, x1, x2] S1 fun v2 S2 =>
 bSub x2 (.i .i64 1) S2 fun v3 S3 =>
 bSub x11 x1 S3 fun v4 S4 =>
 bSub v3 v4 S4 fun v5 S5 =>
 Y_44_12 C k k1 x0 x1 x2 x3 x8 x9 x10 v5 (.i .i64 1) S5)
 (Y_44_12 C k k1 x0 x1 x2 x3 x8 x9 x10 x11 x12 S1)
def Y_44_10 (C : CS) (k : KS) (k1 : AV → AV → AV → AV → AV → AV → St → Prop) (x0 x1 x2 x3 x8 x9 x10 : AV) (S : St) : Prop :=
 C 51 [x0, x1, x2] S fun v1 S1 =>
 bExt 0 v1 S1 fun v2 S2 =>
 bExt 1 v1 S2 fun v3 S3 =>
 Y_44_11 C k k1 x0 x1 x2 x3 x8 x9 x10 v2 v3 S3
def Y_44_9 (C : CS) (k : KS) (k1 : AV → AV → AV → AV → AV → AV → St → Prop) (x0 x1 x2 x3 x8 x9 x10 : AV) (S : St) : Prop :=
 bNot x8 S fun v1 S1 =>
 condX v1
 (C 50 [x0, x1, x2] S1 fun v2 S2 =>
 bSub x3 (.i .i64 1) S2 fun v3 S3 =>
 Y_44_10 C k k1 x0 x1 x2 v3 x8 x9 x10 S3)
 (Y_44_10 C k k1 x0 x1 x2 x3 x8 x9 x10 S1)
def Y_44_8 (C : CS) (k : KS) (k1 : AV → AV → AV → AV → AV → AV → St → Prop) (x0 x1 x2 x3 x8 x9 x10 : AV) (S : St) : Prop :=
 bEq x3 (.i .i64 0) S fun v1 S1 =>
 condX v1
 (C 49 [x0, x1, x2] S1 fun v2 S2 =>
 k (.tup []) S2)
 (Y_44_9 C k k1 x0 x1 x2 x3 x8 x9 x10 S1)
def Y_44_7 (C : CS) (k : KS) (k1 : AV → AV → AV → AV → AV → AV → St → Prop) (x0 x1 x2 x3 x8 x9 x10 : AV) (S : St) : Prop :=
 bLe x10 (.i .i64 12) S fun v1 S1 =>
 condX v1
 (C 48 [x0, x1, x2] S1 fun v2 S2 =>
 k (.tup []) S2)
 (Y_44_8 C k k1 x0 x1 x2 x3 x8 x9 x10 S1)
def Y_44_6 (C : CS) (k : KS) (k1 : AV → AV → AV → AV → AV → AV → St → Prop) (x0 x1 x2 x3 x8 x9 : AV) (S : St) : Prop :=
 bSub x2 x1 S fun v1 S1 =>
 Y_44_7 C k k1 x0 x1 x2 x3 x8 x9 v1 S1
def Y_44_2 (C : CS) (k : KS) (x0 x1 x2 x3 x8 : AV) (S : St) : Prop :=
 lp6 (Y_44_6 C k) x0 x1 x2 x3 x8 (.b true) S
def Y_44_1 (C : CS) (k : KS) (x0 x1 x2 x3 : AV) (S : St) : Prop :=
 Y_44_2 C k x0 x1 x2 x3 (.b true) S
def Z_44 (C : CS) (vs : List AV) (S : St) (k : KS) : Prop := ar4 ((fun (C : CS) (k : KS) (a0 a1 a2 a3 : AV) (S : St) => Y_44_1 C k a0 a1 a2 a3 S) C k) vs S
theorem z_44 {F : Nat → Option AFn} (h : ∀ f, Nat.beq f 9 = false → F f = tbl f) : FnOk F 44 Z_44 := fn4 ((h 44 (by kernel_rfl)).trans c44) (Y := fun (C : CS) (k : KS) (a0 a1 a2 a3 : AV) (S : St) => Y_44_1 C k a0 a1 a2 a3 S) fun C l t S k => xS (fun l t S => xS (fun l t S => xB (xL6 0 1 2 3 8 9 (Y_44_6 C k) (fun l t S k1 => xB (xS (fun l t S => xS (fun l t S => xS (fun l t S => xS (fun l t S => xS (fun l t S => xS (fun l t S => xS (fun l t S => xS (fun l t S => xS (fun l t S => xf (Y_44_15 C k k1 (l 0) (l 1) (l 2) (l 3) (l 10) (l 14) (l 15) S)) (xf (Y_44_14 C k k1 (l 0) (l 1) (l 2) (l 3) (l 10) (l 11) S))) (xf (Y_44_13 C k k1 (l 0) (l 1) (l 2) (l 3) (l 8) (l 9) (l 10) (l 11) S))) (xf (Y_44_12 C k k1 (l 0) (l 1) (l 2) (l 3) (l 8) (l 9) (l 10) (l 11) (l 12) S))) (xf (Y_44_11 C k k1 (l 0) (l 1) (l 2) (l 3) (l 8) (l 9) (l 10) (l 11) (l 12) S))) (xf (Y_44_10 C k k1 (l 0) (l 1) (l 2) (l 3) (l 8) (l 9) (l 10) S))) (xf (Y_44_9 C k k1 (l 0) (l 1) (l 2) (l 3) (l 8) (l 9) (l 10) S))) (xf (Y_44_8 C k k1 (l 0) (l 1) (l 2) (l 3) (l 8) (l 9) (l 10) S))) (xf (Y_44_7 C k k1 (l 0) (l 1) (l 2) (l 3) (l 8) (l 9) (l 10) S))) (xf (Y_44_6 C k k1 (l 0) (l 1) (l 2) (l 3) (l 8) (l 9) S)))) (xf (lp6 (Y_44_6 C k) (l 0) (l 1) (l 2) (l 3) (l 8) (l 9) S)))) (xf (Y_44_2 C k (l 0) (l 1) (l 2) (l 3) (l 8) S))) (xf (Y_44_1 C k (l 0) (l 1) (l 2) (l 3) S))
theorem c45 : tbl 45 = some (fnOf (tbl 45)) := by kernel_rfl
/-- math/bits.Len -/
def Y_45_1 (C : CS) (k : KS) (x0 : AV) (S : St) : Prop :=
 condX (.b false)
 (sR (.cvtI .u32) [x0] S fun v1 S1 =>
 C 57 [v1] S1 fun v2 S2 =>
 k v2 S2)
 (C 58 [x0] S fun v3 S3 =>
 k v3 S3)
def Z_45 (C : CS) (vs : List AV) (S : St) (k : KS) : Prop := ar1 ((fun (C : CS) (k : KS) (a0 : AV) (S : St) => Y_45_1 C k a0 S) C k) vs S
theorem z_45 {F : Nat → Option AFn} (h : ∀ f, Nat.beq f 9 = false → F f = tbl f) : FnOk F 45 Z_45 := fn1 ((h 45 (by kernel_rfl)).trans c45) (Y := fun (C : CS) (k : KS) (a0 : AV) (S : St) => Y_45_1 C k a0 S) fun C l t S k => xf (Y_45_1 C k (l 0) S)
theorem c48 : tbl 48 = some (fnOf (tbl 48)) := by kernel_rfl
/-- slices.insertionSortOrdered[int] -/
def Y_48_6 (C : CS) (k : KS) (k1 : AV → AV → AV → AV → St → Prop) (x0 x1 x2 x6 : AV) (S : St) : Prop :=
 bAdd x6 (.i .i64 1) S fun v1 S1 =>
 k1 x0 x1 x2 v1 S1
def Y_48_11 (C : CS) (k : KS) (k1 : AV → AV → AV → AV → St → Prop) (k2 : AV → AV → AV → AV → AV → St → Prop) (x0 x1 x2 x6 x7 : AV) (S : St) : Prop :=
 bGt x7 x1 S fun v1 S1 =>
 gdO v1 true (sMv [x0] S1) S1 fun v2 S2 =>
 gdO v1 true (sMv [x7] S2) S2 fun v3 S3 =>
 gdO v1 true (bIad 1 v2 v3 S3) S3 fun v4 S4 =>
 gdO v1 true (bLd v4 S4) S4 fun v5 S5 =>
 gdO v1 true (sMv [x0] S5) S5 fun v6 S6 =>
 gdO v1 true (sMv [x7] S6) S6 fun v7 S7 =>
 gdO v1 true (bSub v7 (.i .i64 1) S7) S7 fun v8 S8 =>
 gdO v1 true (bIad 1 v6 v8 S8) S8 fun v9 S9 =>
 gdO v1 true (bLd v9 S9) S9 fun v10 S10 =>
 gdO v1 true (C 54 [v5, v10] S10) S10 fun v11 S11 =>
 bPick v1 v11 (.b false) S11 fun v12 S12 =>
 condX v12
 (bSub x7 (.i .i64 1) S12 fun v13 S13 =>
 bSub x7 (.i .i64 1) S13 fun v14 S14 =>
 bIad 1 x0 v14 S14 fun v15 S15 =>
 bLd v15 S15 fun v16 S16 =>
 bIad 1 x0 x7 S16 fun v17 S17 =>
 bLd v17 S17 fun v18 S18 =>
 bIad 1 x0 x7 S18 fun v19 S19 =>
 bSt 1 v19 v16 S19 fun _ S20 =>
 bIad 1 x0 v13 S20 fun v21 S21 =>
 bSt 1 v21 v18 S21 fun _ S22 =>
 bSub x7 (.i .i64 1) S22 fun v23 S23 =>
 k2 x0 x1 x2 x6 v23 S23)
 (Y_48_6 C k k1 x0 x1 x2 x6 S12)
def Y_48_8 (C : CS) (k : KS) (k1 : AV → AV → AV → AV → St → Prop) (x0 x1 x2 x6 : AV) (S : St) : Prop :=
 lp5 (Y_48_11 C k k1) x0 x1 x2 x6 x6 S
def Y_48_4 (C : CS) (k : KS) (k1 : AV → AV → AV → AV → St → Prop) (x0 x1 x2 x6 : AV) (S : St) : Prop :=
 bLt x6 x2 S fun v1 S1 =>
 condX v1
 (Y_48_8 C k k1 x0 x1 x2 x6 S1)
 (k (.tup []) S1)
def Y_48_1 (C : CS) (k : KS) (x0 x1 x2 : AV) (S : St) : Prop :=
 bAdd x1 (.i .i64 1) S fun v1 S1 =>
 lp4 (Y_48_4 C k) x0 x1 x2 v1 S1
def Z_48 (C : CS) (vs : List AV) (S : St) (k : KS) : Prop := ar3 ((fun (C : CS) (k : KS) (a0 a1 a2 : AV) (S : St) => Y_48_1 C k a0 a1 a2 S) C k) vs S
theorem z_48 {F : Nat → Option AFn} (h : ∀ f, Nat.beq f 9 = false → F f = tbl f) : FnOk F 48 Z_48 := fn3 ((h 48 (by kernel_rfl)).trans c48) (Y := fun (C : CS) (k : KS) (a0 a1 a2 : AV) (S : St) => Y_48_1 C k a0 a1 a2 S) fun C l t S k => xS (fun l t S => xB (xL4 0 1 2 6 (Y_48_4 C k) (fun l t S k1 => xS (fun l t S => xS (fun l t S => xf (Y_48_6 C k k1 (l 0) (l 1) (l 2) (l 6) S)) (xB (xS (fun l t S => xB (xL5 0 1 2 6 7 (Y_48_11 C k k1) (fun l t S k2 => xf (Y_48_11 C k k1 k2 (l 0) (l 1) (l 2) (l 6) (l 7) S)) (xf (lp5 (Y_48_11 C k k1) (l 0) (l 1) (l 2) (l 6) (l 7) S)))) (xf (Y_48_8 C k k1 (l 0) (l 1) (l 2) (l 6) S))))) (xf (Y_48_4 C k k1 (l 0) (l 1) (l 2) (l 6) S))) (xf (lp4 (Y_48_4 C k) (l 0) (l 1) (l 2) (l 6) S)))) (xf (Y_48_1 C k (l 0) (l 1) (l 2) S))
theorem c49 : tbl 49 = some (fnOf (tbl 49)) := by kernel_rfl
/-- slices.heapSortOrdered[int] -/
def Y_49_8 (C : CS) (k : KS) (k1 : AV → AV → AV → AV → St → Prop) (x0 x6 x7 x10 : AV) (S : St) : Prop :=
 bGe x10 (.i .i64 0) S fun v1 S1 =>
 condX v1
 (bAdd x6 x10 S1 fun v2 S2 =>
 bAdd x6 x10 S2 fun v3 S3 =>
 bIad 1 x0 v3 S3 fun v4 S4 =>
 bLd v4 S4 fun v5 S5 =>
 bIad 1 x0 x6 S5 fun v6 S6 =>
 bLd v6 S6 fun v7 S7 =>
 bIad 1 x0 x6 S7 fun v8 S8 =>
 bSt 1 v8 v5 S8 fun _ S9 =>
 bIad 1 x0 v2 S9 fun v10 S10 =>
 bSt 1 v10 v7 S10 fun _ S11 =>
 C 59 [x0, x7, x10, x6] S11 fun v12 S12 =>
 bSub x10 (.i .i64 1) S12 fun v13 S13 =>
 k1 x0 x6 x7 v13 S13)
 (k (.tup []) S1)
def Y_49_5 (C : CS) (k : KS) (x0 x6 x7 x8 : AV) (S : St) : Prop :=
 bSub x8 (.i .i64 1) S fun v1 S1 =>
 lp4 (Y_49_8 C k) x0 x6 x7 v1 S1
def Y_49_12 (C : CS) (k : KS) (k1 : AV → AV → AV → AV → AV → St → Prop) (x0 x6 x7 x8 x9 : AV) (S : St) : Prop :=
 bGe x9 (.i .i64 0) S fun v1 S1 =>
 condX v1
 (C 59 [x0, x9, x8, x6] S1 fun v2 S2 =>
 bSub x9 (.i .i64 1) S2 fun v3 S3 =>
 k1 x0 x6 x7 x8 v3 S3)
 (Y_49_5 C k x0 x6 x7 x8 S1)
def Y_49_9 (C : CS) (k : KS) (x0 x6 x7 x8 : AV) (S : St) : Prop :=
 bSub x8 (.i .i64 1) S fun v1 S1 =>
 sR (.bin .quo) [v1, (.i .i64 2)] S1 fun v2 S2 =>
 lp5 (Y_49_12 C k) x0 x6 x7 x8 v2 S2
def Y_49_3 (C : CS) (k : KS) (x0 x1 x2 x6 x7 : AV) (S : St) : Prop :=
 bSub x2 x1 S fun v1 S1 =>
 Y_49_9 C k x0 x6 x7 v1 S1
def Y_49_2 (C : CS) (k : KS) (x0 x1 x2 x6 : AV) (S : St) : Prop :=
 Y_49_3 C k x0 x1 x2 x6 (.i .i64 0) S
def Y_49_1 (C : CS) (k : KS) (x0 x1 x2 : AV) (S : St) : Prop :=
 Y_49_2 C k x0 x1 x2 x1 S
def Z_49 (C : CS) (vs : List AV) (S : St) (k : KS) : Prop := ar3 ((fun (C : CS) (k : KS) (a0 a1 a2 : AV) (S : St) => Y_49_1 C k a0 a1 a2 S) C k) vs S
theorem z_49 {F : Nat → Option AFn} (h : ∀ f, Nat.beq f 9 = false → F f = tbl f) : FnOk F 49 Z_49 := fn3 ((h 49 (by kernel_rfl)).trans c49) (Y := fun (C : CS) (k : KS) (a0 a1 a2 : AV) (S : St) => Y_49_1 C k a0 a1 a2 S) fun C l t S k => xS (fun l t S => xS (fun l t S => xS (fun l t S => xS (fun l t S => xS (fun l t S => xB (xL4 0 6 7 10 (Y_49_8 C k) (fun l t S k1 => xf (Y_49_8 C k k1 (l 0) (l 6) (l 7) (l 10) S)) (xf (lp4 (Y_49_8 C k) (l 0) (l 6) (l 7) (l 10) S)))) (xf (Y_49_5 C k (l 0) (l 6) (l 7) (l 8) S))) (xS (fun l t S => xB (xL5 0 6 7 8 9 (Y_49_12 C k) (fun l t S k1 => xf (Y_49_12 C k k1 (l 0) (l 6) (l 7) (l 8) (l 9) S)) (xf (lp5 (Y_49_12 C k) (l 0) (l 6) (l 7) (l 8) (l 9) S)))) (xf (Y_49_9 C k (l 0) (l 6) (l 7) (l 8) S)))) (xf (Y_49_3 C k (l 0) (l 1) (l 2) (l 6) (l 7) S))) (xf (Y_49_2 C k (l 0) (l 1) (l 2) (l 6) S))) (xf (Y_49_1 C k (l 0) (l 1) (l 2) S))
theorem c50 : tbl 50 = some (fnOf (tbl 50)) := by kernel_rfl
/-- slices.breakPatternsOrdered[int] -/
def Y_50_11 (C : CS) (k : KS) (k1 : AV → AV → AV → AV → AV → AV → St → Prop) (x0 x1 x6 x7 x8 x9 : AV) (S : St) : Prop :=
 bAdd x9 (.i .i64 1) S fun v1 S1 =>
 k1 x0 x1 x6 x7 x8 v1 S1
def Y_50_15 (C : CS) (k : KS) (k1 : AV → AV → AV → AV → AV → AV → St → Prop) (x0 x1 x6 x7 x8 x9 x10 : AV) (S : St) : Prop :=
 bAdd x1 x10 S fun v1 S1 =>
 bAdd x1 x10 S1 fun v2 S2 =>
 bIad 1 x0 v2 S2 fun v3 S3 =>
 bLd v3 S3 fun v4 S4 =>
 bIad 1 x0 x9 S4 fun v5 S5 =>
 bLd v5 S5 fun v6 S6 =>
 bIad 1 x0 x9 S6 fun v7 S7 =>
 bSt 1 v7 v4 S7 fun _ S8 =>
 bIad 1 x0 v1 S8 fun v9 S9 =>
 bSt 1 v9 v6 S9 fun _ S10 =>
 Y_50_11 C k k1 x0 x1 x6 x7 x8 x9 S10
def Y_50_14 (C : CS) (k : KS) (k1 : AV → AV → AV → AV → AV → AV → St → Prop) (x0 x1 x6 x7 x8 x9 x10 : AV) (S : St) : Prop :=
 bGe x10 x6 S fun v1 S1 =>
 condX v1
 (bSub x10 x6 S1 fun v2 S2 =>
 Y_50_15 C k k1 x0 x1 x6 x7 x8 x9 v2 S2)
 (Y_50_15 C k k1 x0 x1 x6 x7 x8 x9 x10 S1)
def Y_50_13 (C : CS) (k : KS) (k1 : AV → AV → AV → AV → AV → AV → St → Prop) (x0 x1 x6 x7 x8 x9 : AV) (S : St) : Prop :=
 C 61 [x7] S fun v1 S1 =>
 bSub x8 (.i .u64 1) S1 fun v2 S2 =>
 sR (.bin .and) [v1, v2] S2 fun v3 S3 =>
 sR (.cvtI .i64) [v3] S3 fun v4 S4 =>
 Y_50_14 C k k1 x0 x1 x6 x7 x8 x9 v4 S4
def Y_50_9 (C : CS) (k : KS) (k1 : AV → AV → AV → AV → AV → AV → St → Prop) (x0 x1 x6 x7 x8 x9 : AV) (S : St) : Prop :=
 sR (.bin .quo) [x6, (.i .i64 4)] S fun v1 S1 =>
 sR (.bin .mul) [v1, (.i .i64 2)] S1 fun v2 S2 =>
 bAdd x1 v2 S2 fun v3 S3 =>
 bAdd v3 (.i .i64 1) S3 fun v4 S4 =>
 bLe x9 v4 S4 fun v5 S5 =>
 condX v5
 (Y_50_13 C k k1 x0 x1 x6 x7 x8 x9 S5)
 (k (.tup []) S5)
def Y_50_6 (C : CS) (k : KS) (x0 x1 x6 x7 x8 : AV) (S : St) : Prop :=
 sR (.bin .quo) [x6, (.i .i64 4)] S fun v1 S1 =>
 sR (.bin .mul) [v1, (.i .i64 2)] S1 fun v2 S2 =>
 bAdd x1 v2 S2 fun v3 S3 =>
 bSub v3 (.i .i64 1) S3 fun v4 S4 =>
 lp6 (Y_50_9 C k) x0 x1 x6 x7 x8 v4 S4
def Y_50_5 (C : CS) (k : KS) (x0 x1 x6 x7 : AV) (S : St) : Prop :=
 C 60 [x6] S fun v1 S1 =>
 Y_50_6 C k x0 x1 x6 x7 v1 S1
def Y_50_4 (C : CS) (k : KS) (x0 x1 x6 : AV) (S : St) : Prop :=
 sR (.cvtI .u64) [x6] S fun v1 S1 =>
 bAlloc [.i .u64 0] S1 fun v2 S2 =>
 bSt 1 v2 v1 S2 fun _ S3 =>
 Y_50_5 C k x0 x1 x6 v2 S3
def Y_50_16 (C : CS) (k : KS) (S : St) : Prop :=
 k (.tup []) S
def Y_50_3 (C : CS) (k : KS) (x0 x1 x6 t15 : AV) (S : St) : Prop :=
 condX t15
 (Y_50_4 C k x0 x1 x6 S)
 (Y_50_16 C k S)
def Y_50_2 (C : CS) (k : KS) (x0 x1 x6 : AV) (S : St) : Prop :=
 bGe x6 (.i .i64 8) S fun v1 S1 =>
 Y_50_3 C k x0 x1 x6 v1 S1
def Y_50_1 (C : CS) (k : KS) (x0 x1 x2 : AV) (S : St) : Prop :=
 bSub x2 x1 S fun v1 S1 =>
 Y_50_2 C k x0 x1 v1 S1
def Z_50 (C : CS) (vs : List AV) (S : St) (k : KS) : Prop := ar3 ((fun (C : CS) (k : KS) (a0 a1 a2 : AV) (S : St) => Y_50_1 C k a0 a1 a2 S) C k) vs S
theorem z_50 {F : Nat → Option AFn} (h : ∀ f, Nat.beq f 9 = false → F f = tbl f) : FnOk F 50 Z_50 := fn3 ((h 50 (by kernel_rfl)).trans c50) (Y := fun (C : CS) (k : KS) (a0 a1 a2 : AV) (S : St) => Y_50_1 C k a0 a1 a2 S) fun C l t S k => xS (fun l t S => xS (fun l t S => xC (xS (fun l t S => xS (fun l t S => xS (fun l t S => xB (xL6 0 1 6 7 8 9 (Y_50_9 C k) (fun l t S k1 => xS (fun l t S => xS (fun l t S => xf (Y_50_11 C k k1 (l 0) (l 1) (l 6) (l 7) (l 8) (l 9) S)) (xB (xS (fun l t S => xS (fun l t S => xf (Y_50_15 C k k1 (l 0) (l 1) (l 6) (l 7) (l 8) (l 9) (l 10) S)) (xf (Y_50_14 C k k1 (l 0) (l 1) (l 6) (l 7) (l 8) (l 9) (l 10) S))) (xf (Y_50_13 C k k1 (l 0) (l 1) (l 6) (l 7) (l 8) (l 9) S))))) (xf (Y_50_9 C k k1 (l 0) (l 1) (l 6) (l 7) (l 8) (l 9) S))) (xf (lp6 (Y_50_9 C k) (l 0) (l 1) (l 6) (l 7) (l 8) (l 9) S)))) (xf (Y_50_6 C k (l 0) (l 1) (l 6) (l 7) (l 8) S))) (xf (Y_50_5 C k (l 0) (l 1) (l 6) (l 7) S))) (xf (Y_50_4 C k (l 0) (l 1) (l 6) S))) (xf (Y_50_16 C k S)) (xf (Y_50_3 C k (l 0) (l 1) (l 6) (t 15) S))) (xf (Y_50_2 C k (l 0) (l 1) (l 6) S))) (xf (Y_50_1 C k (l 0) (l 1) (l 2) S))
theorem c51 : tbl 51 = some (fnOf (tbl 51)) := by kernel_rfl
/-- slices.choosePivotOrdered[int] -/
def Y_51_8 (C : CS) (k : KS) (x9 x11 : AV) (S : St) : Prop :=
 bLd x9 S fun v1 S1 =>
 bEq v1 (.i .i64 0) S1 fun v2 S2 =>
 condX v2
 (k (.tup [x11, (.i .i64 1)]) S2)
 (bEq v1 (.i .i64 12) S2 fun v3 S3 =>
 condX v3
 (k (.tup [x11, (.i .i64 2)]) S3)
 (k (.tup [x11, (.i .i64 0)]) S3))
def Y_51_7 (C : CS) (k : KS) (x0 x8 x9 x10 x11 x12 : AV) (S : St) : Prop :=
 bGe x8 (.i .i64 8) S fun v1 S1 =>
 condX v1
 (bGe x8 (.i .i64 50) S1 fun v2 S2 =>
 condX v2
 (C 62 [x0, x10, x9] S2 fun v3 S3 =>
 C 62 [x0, x11, x9] S3 fun v4 S4 =>
 C 62 [x0, x12, x9] S4 fun v5 S5 =>
 C 63 [x0, v3, v4, v5, x9] S5 fun v6 S6 =>
 Y_51_8 C k x9 v6 S6)
 (C 63 [x0, x10, x11, x12, x9] S2 fun v7 S7 =>
 Y_51_8 C k x9 v7 S7))
 (Y_51_8 C k x9 x11 S1)
def Y_51_6 (C : CS) (k : KS) (x0 x1 x8 x9 x10 x11 : AV) (S : St) : Prop :=
 sR (.bin .quo) [x8, (.i .i64 4)] S fun v1 S1 =>
 sR (.bin .mul) [v1, (.i .i64 3)] S1 fun v2 S2 =>
 bAdd x1 v2 S2 fun v3 S3 =>
 Y_51_7 C k x0 x8 x9 x10 x11 v3 S3
def Y_51_5 (C : CS) (k : KS) (x0 x1 x8 x9 x10 : AV) (S : St) : Prop :=
 sR (.bin .quo) [x8, (.i .i64 4)] S fun v1 S1 =>
 sR (.bin .mul) [v1, (.i .i64 2)] S1 fun v2 S2 =>
 bAdd x1 v2 S2 fun v3 S3 =>
 Y_51_6 C k x0 x1 x8 x9 x10 v3 S3
def Y_51_4 (C : CS) (k : KS) (x0 x1 x8 x9 : AV) (S : St) : Prop :=
 sR (.bin .quo) [x8, (.i .i64 4)] S fun v1 S1 =>
 sR (.bin .mul) [v1, (.i .i64 1)] S1 fun v2 S2 =>
 bAdd x1 v2 S2 fun v3 S3 =>
 Y_51_5 C k x0 x1 x8 x9 v3 S3
def Y_51_3 (C : CS) (k : KS) (x0 x1 x8 : AV) (S : St) : Prop :=
 bAlloc [.i .i64 0] S fun v1 S1 =>
 Y_51_4 C k x0 x1 x8 v1 S1
def Y_51_2 (C : CS) (k : KS) (x0 x1 x2 : AV) (S : St) : Prop :=
 bSub x2 x1 S fun v1 S1 =>
 Y_51_3 C k x0 x1 v1 S1
def Y_51_1 (C : CS) (k : KS) (x0 x1 x2 : AV) (S : St) : Prop :=
 Y_51_2 C k x0 x1 x2 S
def Z_51 (C : CS) (vs : List AV) (S : St) (k : KS) : Prop := ar3 ((fun (C : CS) (k : KS) (a0 a1 a2 : AV) (S : St) => Y_51_1 C k a0 a1 a2 S) C k) vs S
theorem z_51 {F : Nat → Option AFn} (h : ∀ f, Nat.beq f 9 = false → F f = tbl f) : FnOk F 51 Z_51 := fn3 ((h 51 (by kernel_rfl)).trans c51) (Y := fun (C : CS) (k : KS) (a0 a1 a2 : AV) (S : St) => Y_51_1 C k a0 a1 a2 S) fun C l t S k => xS (fun l t S => xS (fun l t S => xS (fun l t S => xS (fun l t S => xS (fun l t S => xS (fun l t S => xS (fun l t S => xf (Y_51_8 C k (l 9) (l 11) S)) (xf (Y_51_7 C k (l 0) (l 8) (l 9) (l 10) (l 11) (l 12) S))) (xf (Y_51_6 C k (l 0) (l 1) (l 8) (l 9) (l 10) (l 11) S))) (xf (Y_51_5 C k (l 0) (l 1) (l 8) (l 9) (l 10) S))) (xf (Y_51_4 C k (l 0) (l 1) (l 8) (l 9) S))) (xf (Y_51_3 C k (l 0) (l 1) (l 8) S))) (xf (Y_51_2 C k (l 0) (l 1) (l 2) S))) (xf (Y_51_1 C k (l 0) (l 1) (l 2) S))
theorem c52 : tbl 52 = some (fnOf (tbl 52)) := by kernel_rfl
/-- slices.reverseRangeOrdered[int] -/
def Y_52_5 (C : CS) (k : KS) (k1 : AV → AV → AV → St → Prop) (x0 x6 x7 : AV) (S : St) : Prop :=
 bLt x6 x7 S fun v1 S1 =>
 condX v1
 (bIad 1 x0 x7 S1 fun v2 S2 =>
 bLd v2 S2 fun v3 S3 =>
 bIad 1 x0 x6 S3 fun v4 S4 =>
 bLd v4 S4 fun v5 S5 =>
 bIad 1 x0 x6 S5 fun v6 S6 =>
 bSt 1 v6 v3 S6 fun _ S7 =>
 bIad 1 x0 x7 S7 fun v8 S8 =>
 bSt 1 v8 v5 S8 fun _ S9 =>
 bAdd x6 (.i .i64 1) S9 fun v10 S10 =>
 bSub x7 (.i .i64 1) S10 fun v11 S11 =>
 k1 x0 v10 v11 S11)
 (k (.tup []) S1)
def Y_52_2 (C : CS) (k : KS) (x0 x2 x6 : AV) (S : St) : Prop :=
 bSub x2 (.i .i64 1) S fun v1 S1 =>
 lp3 (Y_52_5 C k) x0 x6 v1 S1
def Y_52_1 (C : CS) (k : KS) (x0 x1 x2 : AV) (S : St) : Prop :=
 Y_52_2 C k x0 x2 x1 S
def Z_52 (C : CS) (vs : List AV) (S : St) (k : KS) : Prop := ar3 ((fun (C : CS) (k : KS) (a0 a1 a2 : AV) (S : St) => Y_52_1 C k a0 a1 a2 S) C k) vs S
theorem z_52 {F : Nat → Option AFn} (h : ∀ f, Nat.beq f 9 = false → F f = tbl f) : FnOk F 52 Z_52 := fn3 ((h 52 (by kernel_rfl)).trans c52) (Y := fun (C : CS) (k : KS) (a0 a1 a2 : AV) (S : St) => Y_52_1 C k a0 a1 a2 S) fun C l t S k => xS (fun l t S => xS (fun l t S => xB (xL3 0 6 7 (Y_52_5 C k) (fun l t S k1 => xf (Y_52_5 C k k1 (l 0) (l 6) (l 7) S)) (xf (lp3 (Y_52_5 C k) (l 0) (l 6) (l 7) S)))) (xf (Y_52_2 C k (l 0) (l 2) (l 6) S))) (xf (Y_52_1 C k (l 0) (l 1) (l 2) S))
theorem c53 : tbl 53 = some (fnOf (tbl 53)) := by kernel_rfl
/-- slices.partialInsertionSortOrdered[int] -/
def Y_53_4 (C : CS) (k : KS) (S : St) : Prop :=
 k (.b false) S
def Y_53_10 (C : CS) (k : KS) (k1 : AV → AV → AV → AV → AV → St → Prop) (x0 x1 x2 x7 x8 : AV) (S : St) : Prop :=
 bAdd x8 (.i .i64 1) S fun v1 S1 =>
 k1 x0 x1 x2 x7 v1 S1
def Y_53_22 (C : CS) (k : KS) (k1 : AV → AV → AV → AV → AV → St → Prop) (k2 : AV → AV → AV → AV → AV → AV → St → Prop) (x0 x1 x2 x7 x8 x10 : AV) (S : St) : Prop :=
 bLt x10 x2 S fun v1 S1 =>
 condX v1
 (bIad 1 x0 x10 S1 fun v2 S2 =>
 bLd v2 S2 fun v3 S3 =>
 bSub x10 (.i .i64 1) S3 fun v4 S4 =>
 bIad 1 x0 v4 S4 fun v5 S5 =>
 bLd v5 S5 fun v6 S6 =>
 C 54 [v3, v6] S6 fun v7 S7 =>
 bNot v7 S7 fun v8 S8 =>
 condX v8
 (Y_53_10 C k k1 x0 x1 x2 x7 x8 S8)
 (bSub x10 (.i .i64 1) S8 fun v9 S9 =>
 bSub x10 (.i .i64 1) S9 fun v10 S10 =>
 bIad 1 x0 v10 S10 fun v11 S11 =>
 bLd v11 S11 fun v12 S12 =>
 bIad 1 x0 x10 S12 fun v13 S13 =>
 bLd v13 S13 fun v14 S14 =>
 bIad 1 x0 x10 S14 fun v15 S15 =>
 bSt 1 v15 v12 S15 fun _ S16 =>
 bIad 1 x0 v9 S16 fun v17 S17 =>
 bSt 1 v17 v14 S17 fun _ S18 =>
 bAdd x10 (.i .i64 1) S18 fun v19 S19 =>
 k2 x0 x1 x2 x7 x8 v19 S19))
 (Y_53_10 C k k1 x0 x1 x2 x7 x8 S1)
def Y_53_19 (C : CS) (k : KS) (k1 : AV → AV → AV → AV → AV → St → Prop) (x0 x1 x2 x7 x8 : AV) (S : St) : Prop :=
 bAdd x7 (.i .i64 1) S fun v1 S1 =>
 lp6 (Y_53_22 C k k1) x0 x1 x2 x7 x8 v1 S1
def Y_53_23 (C : CS) (k : KS) (k1 : AV → AV → AV → AV → AV → St → Prop) (x0 x1 x2 x7 x8 : AV) (S : St) : Prop :=
 Y_53_10 C k k1 x0 x1 x2 x7 x8 S
def Y_53_18 (C : CS) (k : KS) (k1 : AV → AV → AV → AV → AV → St → Prop) (x0 x1 x2 x7 x8 t98 : AV) (S : St) : Prop :=
 condX t98
 (Y_53_19 C k k1 x0 x1 x2 x7 x8 S)
 (Y_53_23 C k k1 x0 x1 x2 x7 x8 S)
def Y_53_17 (C : CS) (k : KS) (k1 : AV → AV → AV → AV → AV → St → Prop) (x0 x1 x2 x7 x8 : AV) (S : St) : Prop :=
 bSub x2 x7 S fun v1 S1 =>
 bGe v1 (.i .i64 2) S1 fun v2 S2 =>
 Y_53_18 C k k1 x0 x1 x2 x7 x8 v2 S2
def Y_53_29 (C : CS) (k : KS) (k1 : AV → AV → AV → AV → AV → St → Prop) (k2 : AV → AV → AV → AV → AV → AV → St → Prop) (x0 x1 x2 x7 x8 x9 : AV) (S : St) : Prop :=
 bGe x9 (.i .i64 1) S fun v1 S1 =>
 condX v1
 (bIad 1 x0 x9 S1 fun v2 S2 =>
 bLd v2 S2 fun v3 S3 =>
 bSub x9 (.i .i64 1) S3 fun v4 S4 =>
 bIad 1 x0 v4 S4 fun v5 S5 =>
 bLd v5 S5 fun v6 S6 =>
 C 54 [v3, v6] S6 fun v7 S7 =>
 bNot v7 S7 fun v8 S8 =>
 condX v8
 (Y_53_17 C k k1 x0 x1 x2 x7 x8 S8)
 (bSub x9 (.i .i64 1) S8 fun v9 S9 =>
 bSub x9 (.i .i64 1) S9 fun v10 S10 =>
 bIad 1 x0 v10 S10 fun v11 S11 =>
 bLd v11 S11 fun v12 S12 =>
 bIad 1 x0 x9 S12 fun v13 S13 =>
 bLd v13 S13 fun v14 S14 =>
 bIad 1 x0 x9 S14 fun v15 S15 =>
 bSt 1 v15 v12 S15 fun _ S16 =>
 bIad 1 x0 v9 S16 fun v17 S17 =>
 bSt 1 v17 v14 S17 fun _ S18 =>
 bSub x9 (.i .i64 1) S18 fun v19 S19 =>
 k2 x0 x1 x2 x7 x8 v19 S19))
 (Y_53_17 C k k1 x0 x1 x2 x7 x8 S1)
def Y_53_26 (C : CS) (k : KS) (k1 : AV → AV → AV → AV → AV → St → Prop) (x0 x1 x2 x7 x8 : AV) (S : St) : Prop :=
 bSub x7 (.i .i64 1) S fun v1 S1 =>
 lp6 (Y_53_29 C k k1) x0 x1 x2 x7 x8 v1 S1
def Y_53_30 (C : CS) (k : KS) (k1 : AV → AV → AV → AV → AV → St → Prop) (x0 x1 x2 x7 x8 : AV) (S : St) : Prop :=
 Y_53_17 C k k1 x0 x1 x2 x7 x8 S
def Y_53_25 (C : CS) (k : KS) (k1 : AV → AV → AV → AV → AV → St → Prop) (x0 x1 x2 x7 x8 t61 : AV) (S : St) : Prop :=
 condX t61
 (Y_53_26 C k k1 x0 x1 x2 x7 x8 S)
 (Y_53_30 C k k1 x0 x1 x2 x7 x8 S)
def Y_53_24 (C : CS) (k : KS) (k1 : AV → AV → AV → AV → AV → St → Prop) (x0 x1 x2 x7 x8 : AV) (S : St) : Prop :=
 bSub x7 x1 S fun v1 S1 =>
 bGe v1 (.i .i64 2) S1 fun v2 S2 =>
 Y_53_25 C k k1 x0 x1 x2 x7 x8 v2 S2
def Y_53_15 (C : CS) (k : KS) (k1 : AV → AV → AV → AV → AV → St → Prop) (x0 x1 x2 x7 x8 : AV) (S : St) : Prop :=
 bSub x7 (.i .i64 1) S fun v1 S1 =>
 bSub x7 (.i .i64 1) S1 fun v2 S2 =>
 bIad 1 x0 v2 S2 fun v3 S3 =>
 bLd v3 S3 fun v4 S4 =>
 bIad 1 x0 x7 S4 fun v5 S5 =>
 bLd v5 S5 fun v6 S6 =>
 bIad 1 x0 x7 S6 fun v7 S7 =>
 bSt 1 v7 v4 S7 fun _ S8 =>
 bIad 1 x0 v1 S8 fun v9 S9 =>
 bSt 1 v9 v6 S9 fun _ S10 =>
 Y_53_24 C k k1 x0 x1 x2 x7 x8 S10
def Y_53_14 (C : CS) (k : KS) (k1 : AV → AV → AV → AV → AV → St → Prop) (x0 x1 x2 x7 x8 : AV) (S : St) : Prop :=
 bSub x2 x1 S fun v1 S1 =>
 bLt v1 (.i .i64 50) S1 fun v2 S2 =>
 condX v2
 (k (.b false) S2)
 (Y_53_15 C k k1 x0 x1 x2 x7 x8 S2)
def Y_53_13 (C : CS) (k : KS) (k1 : AV → AV → AV → AV → AV → St → Prop) (x0 x1 x2 x7 x8 : AV) (S : St) : Prop :=
 bEq x7 x2 S fun v1 S1 =>
 condX v1
 (k (.b true) S1)
 (Y_53_14 C k k1 x0 x1 x2 x7 x8 S1)
def Y_53_33 (C : CS) (k : KS) (k1 : AV → AV → AV → AV → AV → St → Prop) (k2 : AV → AV → AV → AV → AV → St → Prop) (x0 x1 x2 x7 x8 : AV) (S : St) : Prop :=
 bLt x7 x2 S fun v1 S1 =>
 gdO v1 true (sMv [x0] S1) S1 fun v2 S2 =>
 gdO v1 true (sMv [x7] S2) S2 fun v3 S3 =>
 gdO v1 true (bIad 1 v2 v3 S3) S3 fun v4 S4 =>
 gdO v1 true (bLd v4 S4) S4 fun v5 S5 =>
 gdO v1 true (sMv [x0] S5) S5 fun v6 S6 =>
 gdO v1 true (sMv [x7] S6) S6 fun v7 S7 =>
 gdO v1 true (bSub v7 (.i .i64 1) S7) S7 fun v8 S8 =>
 gdO v1 true (bIad 1 v6 v8 S8) S8 fun v9 S9 =>
 gdO v1 true (bLd v9 S9) S9 fun v10 S10 =>
 gdO v1 true (C 54 [v5, v10] S10) S10 fun v11 S11 =>
 gdO v1 true (bNot v11 S11) S11 fun v12 S12 =>
 bPick v1 v12 (.b false) S12 fun v13 S13 =>
 condX v13
 (bAdd x7 (.i .i64 1) S13 fun v14 S14 =>
 k2 x0 x1 x2 v14 x8 S14)
 (Y_53_13 C k k1 x0 x1 x2 x7 x8 S13)
def Y_53_8 (C : CS) (k : KS) (k1 : AV → AV → AV → AV → AV → St → Prop) (x0 x1 x2 x7 x8 : AV) (S : St) : Prop :=
 bLt x8 (.i .i64 5) S fun v1 S1 =>
 condX v1
 (lp5 (Y_53_33 C k k1) x0 x1 x2 x7 x8 S1)
 (Y_53_4 C k S1)
def Y_53_5 (C : CS) (k : KS) (x0 x1 x2 x7 : AV) (S : St) : Prop :=
 lp5 (Y_53_8 C k) x0 x1 x2 x7 (.i .i64 0) S
def Y_53_2 (C : CS) (k : KS) (x0 x1 x2 : AV) (S : St) : Prop :=
 bAdd x1 (.i .i64 1) S fun v1 S1 =>
 Y_53_5 C k x0 x1 x2 v1 S1
def Y_53_1 (C : CS) (k : KS) (x0 x1 x2 : AV) (S : St) : Prop :=
 Y_53_2 C k x0 x1 x2 S
def Z_53 (C : CS) (vs : List AV) (S : St) (k : KS) : Prop := ar3 ((fun (C : CS) (k : KS) (a0 a1 a2 : AV) (S : St) => Y_53_1 C k a0 a1 a2 S) C k) vs S
theorem z_53 {F : Nat → Option AFn} (h : ∀ f, Nat.beq f 9 = false → F f = tbl f) : FnOk F 53 Z_53 := fn3 ((h 53 (by kernel_rfl)).trans c53) (Y := fun (C : CS) (k : KS) (a0 a1 a2 : AV) (S : St) => Y_53_1 C k a0 a1 a2 S) fun C l t S k => xS (fun l t S => xS (fun l t S => xS (fun l t S => xf (Y_53_4 C k S)) (xS (fun l t S => xB (xL5 0 1 2 7 8 (Y_53_8 C k) (fun l t S k1 => xS (fun l t S => xS (fun l t S => xf (Y_53_10 C k k1 (l 0) (l 1) (l 2) (l 7) (l 8) S)) (xB (xS (fun l t S => xS (fun l t S => xS (fun l t S => xS (fun l t S => xS (fun l t S => xS (fun l t S => xC (xS (fun l t S => xB (xL6 0 1 2 7 8 10 (Y_53_22 C k k1) (fun l t S k2 => xf (Y_53_22 C k k1 k2 (l 0) (l 1) (l 2) (l 7) (l 8) (l 10) S)) (xf (lp6 (Y_53_22 C k k1) (l 0) (l 1) (l 2) (l 7) (l 8) (l 10) S)))) (xf (Y_53_19 C k k1 (l 0) (l 1) (l 2) (l 7) (l 8) S))) (xf (Y_53_23 C k k1 (l 0) (l 1) (l 2) (l 7) (l 8) S)) (xf (Y_53_18 C k k1 (l 0) (l 1) (l 2) (l 7) (l 8) (t 98) S))) (xf (Y_53_17 C k k1 (l 0) (l 1) (l 2) (l 7) (l 8) S))) (xS (fun l t S => xC (xS (fun l t S => xB (xL6 0 1 2 7 8 9 (Y_53_29 C k k1) (fun l t S k2 => xf (Y_53_29 C k k1 k2 (l 0) (l 1) (l 2) (l 7) (l 8) (l 9) S)) (xf (lp6 (Y_53_29 C k k1) (l 0) (l 1) (l 2) (l 7) (l 8) (l 9) S)))) (xf (Y_53_26 C k k1 (l 0) (l 1) (l 2) (l 7) (l 8) S))) (xf (Y_53_30 C k k1 (l 0) (l 1) (l 2) (l 7) (l 8) S)) (xf (Y_53_25 C k k1 (l 0) (l 1) (l 2) (l 7) (l 8) (t 61) S))) (xf (Y_53_24 C k k1 (l 0) (l 1) (l 2) (l 7) (l 8) S)))) (xf (Y_53_15 C k k1 (l 0) (l 1) (l 2) (l 7) (l 8) S))) (xf (Y_53_14 C k k1 (l 0) (l 1) (l 2) (l 7) (l 8) S))) (xf (Y_53_13 C k k1 (l 0) (l 1) (l 2) (l 7) (l 8) S))) (xB (xL5 0 1 2 7 8 (Y_53_33 C k k1) (fun l t S k2 => xf (Y_53_33 C k k1 k2 (l 0) (l 1) (l 2) (l 7) (l 8) S)) (xf (lp5 (Y_53_33 C k k1) (l 0) (l 1) (l 2) (l 7) (l 8) S))))))) (xf (Y_53_8 C k k1 (l 0) (l 1) (l 2) (l 7) (l 8) S))) (xf (lp5 (Y_53_8 C k) (l 0) (l 1) (l 2) (l 7) (l 8) S)))) (xf (Y_53_5 C k (l 0) (l 1) (l 2) (l 7) S)))) (xf (Y_53_2 C k (l 0) (l 1) (l 2) S))) (xf (Y_53_1 C k (l 0) (l 1) (l 2) S))
theorem c54 : tbl 54 = some (fnOf (tbl 54)) := by kernel_rfl
/-- cmp.Less[int] -/
def Y_54_1 (C : CS) (k : KS) (x0 x1 : AV) (S : St) : Prop :=
 C 64 [x0] S fun v1 S1 =>
 gdO v1 true (sMv [x1] S1) S1 fun v2 S2 =>
 gdO v1 true (C 64 [v2] S2) S2 fun v3 S3 =>
 gdO v1 true (bNot v3 S3) S3 fun v4 S4 =>
 bPick v1 v4 (.b false) S4 fun v5 S5 =>
 gdO v5 false (sMv [x0] S5) S5 fun v6 S6 =>
 gdO v5 false (sMv [x1] S6) S6 fun v7 S7 =>
 gdO v5 false (bLt v6 v7 S7) S7 fun v8 S8 =>
 bPick v5 (.b true) v8 S8 fun v9 S9 =>
 k v9 S9
def Z_54 (C : CS) (vs : List AV) (S : St) (k : KS) : Prop := ar2 ((fun (C : CS) (k : KS) (a0 a1 : AV) (S : St) => Y_54_1 C k a0 a1 S) C k) vs S
theorem z_54 {F : Nat → Option AFn} (h : ∀ f, Nat.beq f 9 = false → F f = tbl f) : FnOk F 54 Z_54 := fn2 ((h 54 (by kernel_rfl)).trans c54) (Y := fun (C : CS) (k : KS) (a0 a1 : AV) (S : St) => Y_54_1 C k a0 a1 S) fun C l t S k => xf (Y_54_1 C k (l 0) (l 1) S)
theorem c55 : tbl 55 = some (fnOf (tbl 55)) := by kernel_rfl
/-- slices.partitionEqualOrdered[int] -/
def Y_55_5 (C : CS) (k : KS) (x9 : AV) (S : St) : Prop :=
 k x9 S
def Y_55_11 (C : CS) (k : KS) (k1 : AV → AV → AV → AV → St → Prop) (x0 x1 x9 x10 : AV) (S : St) : Prop :=
 bGt x9 x10 S fun v1 S1 =>
 condX v1
 (Y_55_5 C k x9 S1)
 (bIad 1 x0 x10 S1 fun v2 S2 =>
 bLd v2 S2 fun v3 S3 =>
 bIad 1 x0 x9 S3 fun v4 S4 =>
 bLd v4 S4 fun v5 S5 =>
 bIad 1 x0 x9 S5 fun v6 S6 =>
 bSt 1 v6 v3 S6 fun _ S7 =>
 bIad 1 x0 x10 S7 fun v8 S8 =>
 bSt 1 v8 v5 S8 fun _ S9 =>
 bAdd x9 (.i .i64 1) S9 fun v10 S10 =>
 bSub x10 (.i .i64 1) S10 fun v11 S11 =>
 k1 x0 x1 v10 v11 S11)
def Y_55_14 (C : CS) (k : KS) (k1 : AV → AV → AV → AV → St → Prop) (k2 : AV → AV → AV → AV → St → Prop) (x0 x1 x9 x10 : AV) (S : St) : Prop :=
 bLe x9 x10 S fun v1 S1 =>
 gdO v1 true (sMv [x0] S1) S1 fun v2 S2 =>
 gdO v1 true (sMv [x1] S2) S2 fun v3 S3 =>
 gdO v1 true (bIad 1 v2 v3 S3) S3 fun v4 S4 =>
 gdO v1 true (bLd v4 S4) S4 fun v5 S5 =>
 gdO v1 true (sMv [x0] S5) S5 fun v6 S6 =>
 gdO v1 true (sMv [x10] S6) S6 fun v7 S7 =>
 gdO v1 true (bIad 1 v6 v7 S7) S7 fun v8 S8 =>
 gdO v1 true (bLd v8 S8) S8 fun v9 S9 =>
 gdO v1 true (C 54 [v5, v9] S9) S9 fun v10 S10 =>
 bPick v1 v10 (.b false) S10 fun v11 S11 =>
 condX v11
 (bSub x10 (.i .i64 1) S11 fun v12 S12 =>
 k2 x0 x1 x9 v12 S12)
 (Y_55_11 C k k1 x0 x1 x9 x10 S11)
def Y_55_17 (C : CS) (k : KS) (k1 : AV → AV → AV → AV → St → Prop) (k2 : AV → AV → AV → AV → St → Prop) (x0 x1 x9 x10 : AV) (S : St) : Prop :=
 bLe x9 x10 S fun v1 S1 =>
 gdO v1 true (sMv [x0] S1) S1 fun v2 S2 =>
 gdO v1 true (sMv [x1] S2) S2 fun v3 S3 =>
 gdO v1 true (bIad 1 v2 v3 S3) S3 fun v4 S4 =>
 gdO v1 true (bLd v4 S4) S4 fun v5 S5 =>
 gdO v1 true (sMv [x0] S5) S5 fun v6 S6 =>
 gdO v1 true (sMv [x9] S6) S6 fun v7 S7 =>
 gdO v1 true (bIad 1 v6 v7 S7) S7 fun v8 S8 =>
 gdO v1 true (bLd v8 S8) S8 fun v9 S9 =>
 gdO v1 true (C 54 [v5, v9] S9) S9 fun v10 S10 =>
 gdO v1 true (bNot v10 S10) S10 fun v11 S11 =>
 bPick v1 v11 (.b false) S11 fun v12 S12 =>
 condX v12
 (bAdd x9 (.i .i64 1) S12 fun v13 S13 =>
 k2 x0 x1 v13 x10 S13)
 (lp4 (Y_55_14 C k k1) x0 x1 x9 x10 S12)
def Y_55_18 (C : CS) (k : KS) (k1 : AV → AV → AV → AV → St → Prop) (x0 x1 x9 x10 : AV) (S : St) : Prop :=
 lp4 (Y_55_17 C k k1) x0 x1 x9 x10 S
def Y_55_3 (C : CS) (k : KS) (x0 x1 x2 : AV) (S : St) : Prop :=
 bAdd x1 (.i .i64 1) S fun v1 S1 =>
 bSub x2 (.i .i64 1) S1 fun v2 S2 =>
 lp4 (Y_55_18 C k) x0 x1 v1 v2 S2
def Y_55_2 (C : CS) (k : KS) (x0 x1 x2 x3 : AV) (S : St) : Prop :=
 bIad 1 x0 x3 S fun v1 S1 =>
 bLd v1 S1 fun v2 S2 =>
 bIad 1 x0 x1 S2 fun v3 S3 =>
 bLd v3 S3 fun v4 S4 =>
 bIad 1 x0 x1 S4 fun v5 S5 =>
 bSt 1 v5 v2 S5 fun _ S6 =>
 bIad 1 x0 x3 S6 fun v7 S7 =>
 bSt 1 v7 v4 S7 fun _ S8 =>
 Y_55_3 C k x0 x1 x2 S8
def Y_55_1 (C : CS) (k : KS) (x0 x1 x2 x3 : AV) (S : St) : Prop :=
 Y_55_2 C k x0 x1 x2 x3 S
def Z_55 (C : CS) (vs : List AV) (S : St) (k : KS) : Prop := ar4 ((fun (C : CS) (k : KS) (a0 a1 a2 a3 : AV) (S : St) => Y_55_1 C k a0 a1 a2 a3 S) C k) vs S
theorem z_55 {F : Nat → Option AFn} (h : ∀ f, Nat.beq f 9 = false → F f = tbl f) : FnOk F 55 Z_55 := fn4 ((h 55 (by kernel_rfl)).trans c55) (Y := fun (C : CS) (k : KS) (a0 a1 a2 a3 : AV) (S : St) => Y_55_1 C k a0 a1 a2 a3 S) fun C l t S k => xS (fun l t S => xS (fun l t S => xS (fun l t S => xS (fun l t S => xf (Y_55_5 C k (l 9) S)) (xB (xL4 0 1 9 10 (Y_55_18 C k) (fun l t S k1 => xB (xS (fun l t S => xS (fun l t S => xf (Y_55_11 C k k1 (l 0) (l 1) (l 9) (l 10) S)) (xB (xL4 0 1 9 10 (Y_55_14 C k k1) (fun l t S k2 => xf (Y_55_14 C k k1 k2 (l 0) (l 1) (l 9) (l 10) S)) (xf (lp4 (Y_55_14 C k k1) (l 0) (l 1) (l 9) (l 10) S))))) (xB (xL4 0 1 9 10 (Y_55_17 C k k1) (fun l t S k2 => xf (Y_55_17 C k k1 k2 (l 0) (l 1) (l 9) (l 10) S)) (xf (lp4 (Y_55_17 C k k1) (l 0) (l 1) (l 9) (l 10) S)))))) (xf (lp4 (Y_55_18 C k) (l 0) (l 1) (l 9) (l 10) S))))) (xf (Y_55_3 C k (l 0) (l 1) (l 2) S))) (xf (Y_55_2 C k (l 0) (l 1) (l 2) (l 3) S))) (xf (Y_55_1 C k (l 0) (l 1) (l 2) (l 3) S))
theorem c56 : tbl 56 = some (fnOf (tbl 56)) := by kernel_rfl
/-- slices.partitionOrdered[int] -/
def Y_56_11 (C : CS) (k : KS) (x0 x1 x11 : AV) (S : St) : Prop :=
 bIad 1 x0 x1 S fun v1 S1 =>
 bLd v1 S1 fun v2 S2 =>
 bIad 1 x0 x11 S2 fun v3 S3 =>
 bLd v3 S3 fun v4 S4 =>
 bIad 1 x0 x11 S4 fun v5 S5 =>
 bSt 1 v5 v2 S5 fun _ S6 =>
 bIad 1 x0 x1 S6 fun v7 S7 =>
 bSt 1 v7 v4 S7 fun _ S8 =>
 k (.tup [x11, (.b false)]) S8
def Y_56_17 (C : CS) (k : KS) (k1 : AV → AV → AV → AV → St → Prop) (x0 x1 x10 x11 : AV) (S : St) : Prop :=
 bGt x10 x11 S fun v1 S1 =>
 condX v1
 (Y_56_11 C k x0 x1 x11 S1)
 (bIad 1 x0 x11 S1 fun v2 S2 =>
 bLd v2 S2 fun v3 S3 =>
 bIad 1 x0 x10 S3 fun v4 S4 =>
 bLd v4 S4 fun v5 S5 =>
 bIad 1 x0 x10 S5 fun v6 S6 =>
 bSt 1 v6 v3 S6 fun _ S7 =>
 bIad 1 x0 x11 S7 fun v8 S8 =>
 bSt 1 v8 v5 S8 fun _ S9 =>
 bAdd x10 (.i .i64 1) S9 fun v10 S10 =>
 bSub x11 (.i .i64 1) S10 fun v11 S11 =>
 k1 x0 x1 v10 v11 S11)
def Y_56_20 (C : CS) (k : KS) (k1 : AV → AV → AV → AV → St → Prop) (k2 : AV → AV → AV → AV → St → Prop) (x0 x1 x10 x11 : AV) (S : St) : Prop :=
 bLe x10 x11 S fun v1 S1 =>
 gdO v1 true (sMv [x0] S1) S1 fun v2 S2 =>
 gdO v1 true (sMv [x11] S2) S2 fun v3 S3 =>
 gdO v1 true (bIad 1 v2 v3 S3) S3 fun v4 S4 =>
 gdO v1 true (bLd v4 S4) S4 fun v5 S5 =>
 gdO v1 true (sMv [x0] S5) S5 fun v6 S6 =>
 gdO v1 true (sMv [x1] S6) S6 fun v7 S7 =>
 gdO v1 true (bIad 1 v6 v7 S7) S7 fun v8 S8 =>
 gdO v1 true (bLd v8 S8) S8 fun v9 S9 =>
 gdO v1 true (C 54 [v5, v9] S9) S9 fun v10 S10 =>
 gdO v1 true (bNot v10 S10) S10 fun v11 S11 =>
 bPick v1 v11 (.b false) S11 fun v12 S12 =>
 condX v12
 (bSub x11 (.i .i64 1) S12 fun v13 S13 =>
 k2 x0 x1 x10 v13 S13)
 (Y_56_17 C k k1 x0 x1 x10 x11 S12)
def Y_56_23 (C : CS) (k : KS) (k1 : AV → AV → AV → AV → St → Prop) (k2 : AV → AV → AV → AV → St → Prop) (x0 x1 x10 x11 : AV) (S : St) : Prop :=
 bLe x10 x11 S fun v1 S1 =>
 gdO v1 true (sMv [x0] S1) S1 fun v2 S2 =>
 gdO v1 true (sMv [x10] S2) S2 fun v3 S3 =>
 gdO v1 true (bIad 1 v2 v3 S3) S3 fun v4 S4 =>
 gdO v1 true (bLd v4 S4) S4 fun v5 S5 =>
 gdO v1 true (sMv [x0] S5) S5 fun v6 S6 =>
 gdO v1 true (sMv [x1] S6) S6 fun v7 S7 =>
 gdO v1 true (bIad 1 v6 v7 S7) S7 fun v8 S8 =>
 gdO v1 true (bLd v8 S8) S8 fun v9 S9 =>
 gdO v1 true (C 54 [v5, v9] S9) S9 fun v10 S10 =>
 bPick v1 v10 (.b false) S10 fun v11 S11 =>
 condX v11
 (bAdd x10 (.i .i64 1) S11 fun v12 S12 =>
 k2 x0 x1 v12 x11 S12)
 (lp4 (Y_56_20 C k k1) x0 x1 x10 x11 S11)
def Y_56_24 (C : CS) (k : KS) (k1 : AV → AV → AV → AV → St → Prop) (x0 x1 x10 x11 : AV) (S : St) : Prop :=
 lp4 (Y_56_23 C k k1) x0 x1 x10 x11 S
def Y_56_9 (C : CS) (k : KS) (x0 x1 x10 x11 : AV) (S : St) : Prop :=
 bSub x11 (.i .i64 1) S fun v1 S1 =>
 lp4 (Y_56_24 C k) x0 x1 x10 v1 S1
def Y_56_8 (C : CS) (k : KS) (x0 x1 x10 x11 : AV) (S : St) : Prop :=
 bAdd x10 (.i .i64 1) S fun v1 S1 =>
 Y_56_9 C k x0 x1 v1 x11 S1
def Y_56_7 (C : CS) (k : KS) (x0 x1 x10 x11 : AV) (S : St) : Prop :=
 bIad 1 x0 x11 S fun v1 S1 =>
 bLd v1 S1 fun v2 S2 =>
 bIad 1 x0 x10 S2 fun v3 S3 =>
 bLd v3 S3 fun v4 S4 =>
 bIad 1 x0 x10 S4 fun v5 S5 =>
 bSt 1 v5 v2 S5 fun _ S6 =>
 bIad 1 x0 x11 S6 fun v7 S7 =>
 bSt 1 v7 v4 S7 fun _ S8 =>
 Y_56_8 C k x0 x1 x10 x11 S8
def Y_56_6 (C : CS) (k : KS) (x0 x1 x10 x11 : AV) (S : St) : Prop :=
 bGt x10 x11 S fun v1 S1 =>
 condX v1
 (bIad 1 x0 x1 S1 fun v2 S2 =>
 bLd v2 S2 fun v3 S3 =>
 bIad 1 x0 x11 S3 fun v4 S4 =>
 bLd v4 S4 fun v5 S5 =>
 bIad 1 x0 x11 S5 fun v6 S6 =>
 bSt 1 v6 v3 S6 fun _ S7 =>
 bIad 1 x0 x1 S7 fun v8 S8 =>
 bSt 1 v8 v5 S8 fun _ S9 =>
 k (.tup [x11, (.b true)]) S9)
 (Y_56_7 C k x0 x1 x10 x11 S1)
def Y_56_27 (C : CS) (k : KS) (k1 : AV → AV → AV → AV → St → Prop) (x0 x1 x10 x11 : AV) (S : St) : Prop :=
 bLe x10 x11 S fun v1 S1 =>
 gdO v1 true (sMv [x0] S1) S1 fun v2 S2 =>
 gdO v1 true (sMv [x11] S2) S2 fun v3 S3 =>
 gdO v1 true (bIad 1 v2 v3 S3) S3 fun v4 S4 =>
 gdO v1 true (bLd v4 S4) S4 fun v5 S5 =>
 gdO v1 true (sMv [x0] S5) S5 fun v6 S6 =>
 gdO v1 true (sMv [x1] S6) S6 fun v7 S7 =>
 gdO v1 true (bIad 1 v6 v7 S7) S7 fun v8 S8 =>
 gdO v1 true (bLd v8 S8) S8 fun v9 S9 =>
 gdO v1 true (C 54 [v5, v9] S9) S9 fun v10 S10 =>
 gdO v1 true (bNot v10 S10) S10 fun v11 S11 =>
 bPick v1 v11 (.b false) S11 fun v12 S12 =>
 condX v12
 (bSub x11 (.i .i64 1) S12 fun v13 S13 =>
 k1 x0 x1 x10 v13 S13)
 (Y_56_6 C k x0 x1 x10 x11 S12)
def Y_56_30 (C : CS) (k : KS) (k1 : AV → AV → AV → AV → St → Prop) (x0 x1 x10 x11 : AV) (S : St) : Prop :=
 bLe x10 x11 S fun v1 S1 =>
 gdO v1 true (sMv [x0] S1) S1 fun v2 S2 =>
 gdO v1 true (sMv [x10] S2) S2 fun v3 S3 =>
 gdO v1 true (bIad 1 v2 v3 S3) S3 fun v4 S4 =>
 gdO v1 true (bLd v4 S4) S4 fun v5 S5 =>
 gdO v1 true (sMv [x0] S5) S5 fun v6 S6 =>
 gdO v1 true (sMv [x1] S6) S6 fun v7 S7 =>
 gdO v1 true (bIad 1 v6 v7 S7) S7 fun v8 S8 =>
 gdO v1 true (bLd v8 S8) S8 fun v9 S9 =>
 gdO v1 true (C 54 [v5, v9] S9) S9 fun v10 S10 =>
 bPick v1 v10 (.b false) S10 fun v11 S11 =>
 condX v11
 (bAdd x10 (.i .i64 1) S11 fun v12 S12 =>
 k1 x0 x1 v12 x11 S12)
 (lp4 (Y_56_27 C k) x0 x1 x10 x11 S11)
def Y_56_3 (C : CS) (k : KS) (x0 x1 x2 : AV) (S : St) : Prop :=
 bAdd x1 (.i .i64 1) S fun v1 S1 =>
 bSub x2 (.i .i64 1) S1 fun v2 S2 =>
 lp4 (Y_56_30 C k) x0 x1 v1 v2 S2
def Y_56_2 (C : CS) (k : KS) (x0 x1 x2 x3 : AV) (S : St) : Prop :=
 bIad 1 x0 x3 S fun v1 S1 =>
 bLd v1 S1 fun v2 S2 =>
 bIad 1 x0 x1 S2 fun v3 S3 =>
 bLd v3 S3 fun v4 S4 =>
 bIad 1 x0 x1 S4 fun v5 S5 =>
 bSt 1 v5 v2 S5 fun _ S6 =>
 bIad 1 x0 x3 S6 fun v7 S7 =>
 bSt 1 v7 v4 S7 fun _ S8 =>
 Y_56_3 C k x0 x1 x2 S8
def Y_56_1 (C : CS) (k : KS) (x0 x1 x2 x3 : AV) (S : St) : Prop :=
 Y_56_2 C k x0 x1 x2 x3 S
def Z_56 (C : CS) (vs : List AV) (S : St) (k : KS) : Prop := ar4 ((fun (C : CS) (k : KS) (a0 a1 a2 a3 : AV) (S : St) => Y_56_1 C k a0 a1 a2 a3 S) C k) vs S
theorem z_56 {F : Nat → Option AFn} (h : ∀ f, Nat.beq f 9 = false → F f = tbl f) : FnOk F 56 Z_56 := fn4 ((h 56 (by kernel_rfl)).trans c56) (Y := fun (C : CS) (k : KS) (a0 a1 a2 a3 : AV) (S : St) => Y_56_1 C k a0 a1 a2 a3 S) fun C l t S k => xS (fun l t S => xS (fun l t S => xS (fun l t S => xS (fun l t S => xS (fun l t S => xS (fun l t S => xS (fun l t S => xS (fun l t S => xS (fun l t S => xS (fun l t S => xf (Y_56_11 C k (l 0) (l 1) (l 11) S)) (xB (xL4 0 1 10 11 (Y_56_24 C k) (fun l t S k1 => xB (xS (fun l t S => xS (fun l t S => xf (Y_56_17 C k k1 (l 0) (l 1) (l 10) (l 11) S)) (xB (xL4 0 1 10 11 (Y_56_20 C k k1) (fun l t S k2 => xf (Y_56_20 C k k1 k2 (l 0) (l 1) (l 10) (l 11) S)) (xf (lp4 (Y_56_20 C k k1) (l 0) (l 1) (l 10) (l 11) S))))) (xB (xL4 0 1 10 11 (Y_56_23 C k k1) (fun l t S k2 => xf (Y_56_23 C k k1 k2 (l 0) (l 1) (l 10) (l 11) S)) (xf (lp4 (Y_56_23 C k k1) (l 0) (l 1) (l 10) (l 11) S)))))) (xf (lp4 (Y_56_24 C k) (l 0) (l 1) (l 10) (l 11) S))))) (xf (Y_56_9 C k (l 0) (l 1) (l 10) (l 11) S))) (xf (Y_56_8 C k (l 0) (l 1) (l 10) (l 11) S))) (xf (Y_56_7 C k (l 0) (l 1) (l 10) (l 11) S))) (xf (Y_56_6 C k (l 0) (l 1) (l 10) (l 11) S))) (xB (xL4 0 1 10 11 (Y_56_27 C k) (fun l t S k1 => xf (Y_56_27 C k k1 (l 0) (l 1) (l 10) (l 11) S)) (xf (lp4 (Y_56_27 C k) (l 0) (l 1) (l 10) (l 11) S))))) (xB (xL4 0 1 10 11 (Y_56_30 C k) (fun l t S k1 => xf (Y_56_30 C k k1 (l 0) (l 1) (l 10) (l 11) S)) (xf (lp4 (Y_56_30 C k) (l 0) (l 1) (l 10) (l 11) S))))) (xf (Y_56_3 C k (l 0) (l 1) (l 2) S))) (xf (Y_56_2 C k (l 0) (l 1) (l 2) (l 3) S))) (xf (Y_56_1 C k (l 0) (l 1) (l 2) (l 3) S))
theorem c57 : tbl 57 = some (fnOf (tbl 57)) := by kernel_rfl
/-- math/bits.Len32 -/
def Y_57_3 (C : CS) (k : KS) (x0 x2 : AV) (S : St) : Prop :=
 bGe x0 (.i .u32 256) S fun v1 S1 =>
 condX v1
 (sR (.bin .shr) [x0, (.i .u64 8)] S1 fun v2 S2 =>
 bAdd x2 (.i .i64 8) S2 fun v3 S3 =>
 sR (.cvtI .u8) [v2] S3 fun v4 S4 =>
 bIxS (.s [0, 1, 2, 2, 3, 3, 3, 3, 4, 4, 4, 4, 4, 4, 4, 4, 5, 5, 5, 5, 5, 5, 5, 5, 5, 5, 5, 5, 5, 5, 5, 5, 6, 6, 6, 6, 6, 6, 6, 6, 6, 6, 6, 6, 6, 6, 6, 6, 6, 6, 6, 6, 6, 6, 6, 6, 6, 6, 6, 6, 6, 6, 6, 6, 7, 7, 7, 7, 7, 7, 7, 7, 7, 7, 7, 7, 7, 7, 7, 7, 7, 7, 7, 7, 7, 7, 7, 7, 7, 7, 7, 7, 7, 7, 7, 7, 7, 7, 7, 7, 7, 7, 7, 7, 7, 7, 7, 7, 7, 7, 7, 7, 7, 7, 7, 7, 7, 7, 7, 7, 7, 7, 7, 7, 7, 7, 7, 7, 8, 8, 8, 8, 8, 8, 8, 8, 8, 8, 8, 8, 8, 8, 8, 8, 8, 8, 8, 8, 8, 8, 8, 8, 8, 8, 8, 8, 8, 8, 8, 8, 8, 8, 8, 8, 8, 8, 8, 8, 8, 8, 8, 8, 8, 8, 8, 8, 8, 8, 8, 8, 8, 8, 8, 8, 8, 8, 8, 8, 8, 8, 8, 8, 8, 8, 8, 8, 8, 8, 8, 8, 8, 8, 8, 8, 8, 8, 8, 8, 8, 8, 8, 8, 8, 8, 8, 8, 8, 8, 8, 8, 8, 8, 8, 8, 8, 8, 8, 8, 8, 8, 8, 8, 8, 8, 8, 8, 8, 8, 8, 8, 8, 8, 8, 8, 8, 8, 8, 8, 8, 8, 8, 8, 8, 8, 8, 8]) v4 S4 fun v5 S5 =>
 sR (.cvtI .i64) [v5] S5 fun v6 S6 =>
 bAdd v3 v6 S6 fun v7 S7 =>
 k v7 S7)
 (sR (.cvtI .u8) [x0] S1 fun v8 S8 =>
 bIxS (.s [0, 1, 2, 2, 3, 3, 3, 3, 4, 4, 4, 4, 4, 4, 4, 4, 5, 5, 5, 5, 5, 5, 5, 5, 5, 5, 5, 5, 5, 5, 5, 5, 6, 6, 6, 6, 6, 6, 6, 6, 6, 6, 6, 6, 6, 6, 6, 6, 6, 6, 6, 6, 6, 6, 6, 6, 6, 6, 6, 6, 6, 6, 6, 6, 7, 7, 7, 7, 7, 7, 7, 7, 7, 7, 7, 7, 7, 7, 7, 7, 7, 7, 7, 7, 7, 7, 7, 7, 7, 7, 7, 7, 7, 7, 7, 7, 7, 7, 7, 7, 7, 7, 7, 7, 7, 7, 7, 7, 7, 7, 7, 7, 7, 7, 7, 7, 7, 7, 7, 7, 7, 7, 7, 7, 7, 7, 7, 7, 8, 8, 8, 8, 8, 8, 8, 8, 8, 8, 8, 8, 8, 8, 8, 8, 8, 8, 8, 8, 8, 8, 8, 8, 8, 8, 8, 8, 8, 8, 8, 8, 8, 8, 8, 8, 8, 8, 8, 8, 8, 8, 8, 8, 8, 8, 8, 8, 8, 8, 8, 8, 8, 8, 8, 8, 8, 8, 8, 8, 8, 8, 8, 8, 8, 8, 8, 8, 8, 8, 8, 8, 8, 8, 8, 8, 8, 8, 8, 8, 8, 8, 8, 8, 8, 8, 8, 8, 8, 8, 8, 8, 8, 8, 8, 8, 8, 8, 8, 8, 8, 8, 8, 8, 8, 8, 8, 8, 8, 8, 8, 8, 8, 8, 8, 8, 8, 8, 8, 8, 8, 8, 8, 8, 8, 8, 8, 8]) v8 S8 fun v9 S9 =>
 sR (.cvtI .i64) [v9] S9 fun v10 S10 =>
 bAdd x2 v10 S10 fun v11 S11 =>
 k v11 S11)
def Y_57_2 (C : CS) (k : KS) (x0 x2 : AV) (S : St) : Prop :=
 bGe x0 (.i .u32 65536) S fun v1 S1 =>
 condX v1
 (sR (.bin .shr) [x0, (.i .u64 16)] S1 fun v2 S2 =>
 Y_57_3 C k v2 (.i .i64 16) S2)
 (Y_57_3 C k x0 x2 S1)
def Y_57_1 (C : CS) (k : KS) (x0 : AV) (S : St) : Prop :=
 Y_57_2 C k x0 (.i .i64 0) S
def Z_57 (C : CS) (vs : List AV) (S : St) (k : KS) : Prop := ar1 ((fun (C : CS) (k : KS) (a0 : AV) (S : St) => Y_57_1 C k a0 S) C k) vs S
theorem z_57 {F : Nat → Option AFn} (h : ∀ f, Nat.beq f 9 = false → F f = tbl f) : FnOk F 57 Z_57 := fn1 ((h 57 (by kernel_rfl)).trans c57) (Y := fun (C : CS) (k : KS) (a0 : AV) (S : St) => Y_57_1 C k a0 S) fun C l t S k => xS (fun l t S => xS (fun l t S => xf (Y_57_3 C k (l 0) (l 2) S)) (xf (Y_57_2 C k (l 0) (l 2) S))) (xf (Y_57_1 C k (l 0) S))
theorem c58 : tbl 58 = some (fnOf (tbl 58)) := by kernel_rfl
/-- math/bits.Len64 -/
def Y_58_4 (C : CS) (k : KS) (x0 x2 : AV) (S : St) : Prop :=
 bGe x0 (.i .u64 256) S fun v1 S1 =>
 condX v1
 (sR (.bin .shr) [x0, (.i .u64 8)] S1 fun v2 S2 =>
 bAdd x2 (.i .i64 8) S2 fun v3 S3 =>
 sR (.cvtI .u8) [v2] S3 fun v4 S4 =>
 bIxS (.s [0, 1, 2, 2, 3, 3, 3, 3, 4, 4, 4, 4, 4, 4, 4, 4, 5, 5, 5, 5, 5, 5, 5, 5, 5, 5, 5, 5, 5, 5, 5, 5, 6, 6, 6, 6, 6, 6, 6, 6, 6, 6, 6, 6, 6, 6, 6, 6, 6, 6, 6, 6, 6, 6, 6, 6, 6, 6, 6, 6, 6, 6, 6, 6, 7, 7, 7, 7, 7, 7, 7, 7, 7, 7, 7, 7, 7, 7, 7, 7, 7, 7, 7, 7, 7, 7, 7, 7, 7, 7, 7, 7, 7, 7, 7, 7, 7, 7, 7, 7, 7, 7, 7, 7, 7, 7, 7, 7, 7, 7, 7, 7, 7, 7, 7, 7, 7, 7, 7, 7, 7, 7, 7, 7, 7, 7, 7, 7, 8, 8, 8, 8, 8, 8, 8, 8, 8, 8, 8, 8, 8, 8, 8, 8, 8, 8, 8, 8, 8, 8, 8, 8, 8, 8, 8, 8, 8, 8, 8, 8, 8, 8, 8, 8, 8, 8, 8, 8, 8, 8, 8, 8, 8, 8, 8, 8, 8, 8, 8, 8, 8, 8, 8, 8, 8, 8, 8, 8, 8, 8, 8, 8, 8, 8, 8, 8, 8, 8, 8, 8, 8, 8, 8, 8, 8, 8, 8, 8, 8, 8, 8, 8, 8, 8, 8, 8, 8, 8, 8, 8, 8, 8, 8, 8, 8, 8, 8, 8, 8, 8, 8, 8, 8, 8, 8, 8, 8, 8, 8, 8, 8, 8, 8, 8, 8, 8, 8, 8, 8, 8, 8, 8, 8, 8, 8, 8]) v4 S4 fun v5 S5 =>
 sR (.cvtI .i64) [v5] S5 fun v6 S6 =>
 bAdd v3 v6 S6 fun v7 S7 =>
 k v7 S7)
 (sR (.cvtI .u8) [x0] S1 fun v8 S8 =>
 bIxS (.s [0, 1, 2, 2, 3, 3, 3, 3, 4, 4, 4, 4, 4, 4, 4, 4, 5, 5, 5, 5, 5, 5, 5, 5, 5, 5, 5, 5, 5, 5, 5, 5, 6, 6, 6, 6, 6, 6, 6, 6, 6, 6, 6, 6, 6, 6, 6, 6, 6, 6, 6, 6, 6, 6, 6, 6, 6, 6, 6, 6, 6, 6, 6, 6, 7, 7, 7, 7, 7, 7, 7, 7, 7, 7, 7, 7, 7, 7, 7, 7, 7, 7, 7, 7, 7, 7, 7, 7, 7, 7, 7, 7, 7, 7, 7, 7, 7, 7, 7, 7, 7, 7, 7, 7, 7, 7, 7, 7, 7, 7, 7, 7, 7, 7, 7, 7, 7, 7, 7, 7, 7, 7, 7, 7, 7, 7, 7, 7, 8, 8, 8, 8, 8, 8, 8, 8, 8, 8, 8, 8, 8, 8, 8, 8, 8, 8, 8, 8, 8, 8, 8, 8, 8, 8, 8, 8, 8, 8, 8, 8, 8, 8, 8, 8, 8, 8, 8, 8, 8, 8, 8, 8, 8, 8, 8, 8, 8, 8, 8, 8, 8, 8, 8, 8, 8, 8, 8, 8, 8, 8, 8, 8, 8, 8, 8, 8, 8, 8, 8, 8, 8, 8, 8, 8, 8, 8, 8, 8, 8, 8, 8, 8, 8, 8, 8, 8, 8, 8, 8, 8, 8, 8, 8, 8, 8, 8, 8, 8, 8, 8, 8, 8, 8, 8, 8, 8, 8, 8, 8, 8, 8, 8, 8, 8, 8, 8, 8, 8, 8, 8, 8, 8, 8, 8, 8, 8]) v8 S8 fun v9 S9 =>
 sR (.cvtI .i64) [v9] S9 fun v10 S10 =>
 bAdd x2 v10 S10 fun v11 S11 =>
 k v11 S11)
def Y_58_3 (C : CS) (k : KS) (x0 x2 : AV) (S : St) : Prop :=
 bGe x0 (.i .u64 65536) S fun v1 S1 =>
 condX v1
 (sR (.bin .shr) [x0, (.i .u64 16)] S1 fun v2 S2 =>
 bAdd x2 (.i .i64 16) S2 fun v3 S3 =>
 Y_58_4 C k v2 v3 S3)
 (Y_58_4 C k x0 x2 S1)
def Y_58_2 (C : CS) (k : KS) (x0 x2 : AV) (S : St) : Prop :=
 bGe x0 (.i .u64 4294967296) S fun v1 S1 =>
 condX v1
 (sR (.bin .shr) [x0, (.i .u64 32)] S1 fun v2 S2 =>
 Y_58_3 C k v2 (.i .i64 32) S2)
 (Y_58_3 C k x0 x2 S1)
def Y_58_1 (C : CS) (k : KS) (x0 : AV) (S : St) : Prop :=
 Y_58_2 C k x0 (.i .i64 0) S
def Z_58 (C : CS) (vs : List AV) (S : St) (k : KS) : Prop := ar1 ((fun (C : CS) (k : KS) (a0 : AV) (S : St) => Y_58_1 C k a0 S) C k) vs S
theorem z_58 {F : Nat → Option AFn} (h : ∀ f, Nat.beq f 9 = false → F f = tbl f) : FnOk F 58 Z_58 := fn1 ((h 58 (by kernel_rfl)).trans c58) (Y := fun (C : CS) (k : KS) (a0 : AV) (S : St) => Y_58_1 C k a0 S) fun C l t S k => xS (fun l t S => xS (fun l t S => xS (fun l t S => xf (Y_58_4 C k (l 0) (l 2) S)) (xf (Y_58_3 C k (l 0) (l 2) S))) (xf (Y_58_2 C k (l 0) (l 2) S))) (xf (Y_58_1 C k (l 0) S))
theorem c59 : tbl 59 = some (fnOf (tbl 59)) := by kernel_rfl
/-- slices.siftDownOrdered[int] -/
def Y_59_8 (C : CS) (k : KS) (k1 : AV → AV → AV → AV → St → Prop) (x0 x2 x3 x8 x9 : AV) (S : St) : Prop :=
 bAdd x3 x8 S fun v1 S1 =>
 bIad 1 x0 v1 S1 fun v2 S2 =>
 bLd v2 S2 fun v3 S3 =>
 bAdd x3 x9 S3 fun v4 S4 =>
 bIad 1 x0 v4 S4 fun v5 S5 =>
 bLd v5 S5 fun v6 S6 =>
 C 54 [v3, v6] S6 fun v7 S7 =>
 bNot v7 S7 fun v8 S8 =>
 condX v8
 (k (.tup []) S8)
 (bAdd x3 x8 S8 fun v9 S9 =>
 bAdd x3 x9 S9 fun v10 S10 =>
 bAdd x3 x9 S10 fun v11 S11 =>
 bIad 1 x0 v11 S11 fun v12 S12 =>
 bLd v12 S12 fun v13 S13 =>
 bAdd x3 x8 S13 fun v14 S14 =>
 bIad 1 x0 v14 S14 fun v15 S15 =>
 bLd v15 S15 fun v16 S16 =>
 bIad 1 x0 v9 S16 fun v17 S17 =>
 bSt 1 v17 v13 S17 fun _ S18 =>
 bIad 1 x0 v10 S18 fun v19 S19 =>
 bSt 1 v19 v16 S19 fun _ S20 =>
 k1 x0 x2 x3 x9 S20)
def Y_59_7 (C : CS) (k : KS) (k1 : AV → AV → AV → AV → St → Prop) (x0 x2 x3 x8 x9 : AV) (S : St) : Prop :=
 bAdd x9 (.i .i64 1) S fun v1 S1 =>
 bLt v1 x2 S1 fun v2 S2 =>
 gdO v2 true (sMv [x0] S2) S2 fun v3 S3 =>
 gdO v2 true (sMv [x3] S3) S3 fun v4 S4 =>
 gdO v2 true (sMv [x9] S4) S4 fun v5 S5 =>
 gdO v2 true (bAdd v4 v5 S5) S5 fun v6 S6 =>
 gdO v2 true (bIad 1 v3 v6 S6) S6 fun v7 S7 =>
 gdO v2 true (bLd v7 S7) S7 fun v8 S8 =>
 gdO v2 true (sMv [x0] S8) S8 fun v9 S9 =>
 gdO v2 true (sMv [x3] S9) S9 fun v10 S10 =>
 gdO v2 true (sMv [x9] S10) S10 fun v11 S11 =>
 gdO v2 true (bAdd v10 v11 S11) S11 fun v12 S12 =>
 gdO v2 true (bAdd v12 (.i .i64 1) S12) S12 fun v13 S13 =>
 gdO v2 true (bIad 1 v9 v13 S13) S13 fun v14 S14 =>
 gdO v2 true (bLd v14 S14) S14 fun v15 S15 =>
 gdO v2 true (C 54 [v8, v15] S15) S15 fun v16 S16 =>
 bPick v2 v16 (.b false) S16 fun v17 S17 =>
 condX v17
 (bAdd x9 (.i .i64 1) S17 fun v18 S18 =>
 Y_59_8 C k k1 x0 x2 x3 x8 v18 S18)
 (Y_59_8 C k k1 x0 x2 x3 x8 x9 S17)
def Y_59_6 (C : CS) (k : KS) (k1 : AV → AV → AV → AV → St → Prop) (x0 x2 x3 x8 x9 : AV) (S : St) : Prop :=
 bGe x9 x2 S fun v1 S1 =>
 condX v1
 (k (.tup []) S1)
 (Y_59_7 C k k1 x0 x2 x3 x8 x9 S1)
def Y_59_5 (C : CS) (k : KS) (k1 : AV → AV → AV → AV → St → Prop) (x0 x2 x3 x8 : AV) (S : St) : Prop :=
 sR (.bin .mul) [(.i .i64 2), x8] S fun v1 S1 =>
 bAdd v1 (.i .i64 1) S1 fun v2 S2 =>
 Y_59_6 C k k1 x0 x2 x3 x8 v2 S2
def Y_59_1 (C : CS) (k : KS) (x0 x1 x2 x3 : AV) (S : St) : Prop :=
 lp4 (Y_59_5 C k) x0 x2 x3 x1 S
def Z_59 (C : CS) (vs : List AV) (S : St) (k : KS) : Prop := ar4 ((fun (C : CS) (k : KS) (a0 a1 a2 a3 : AV) (S : St) => Y_59_1 C k a0 a1 a2 a3 S) C k) vs S
theorem z_59 {F : Nat → Option AFn} (h : ∀ f, Nat.beq f 9 = false → F f = tbl f) : FnOk F 59 Z_59 := fn4 ((h 59 (by kernel_rfl)).trans c59) (Y := fun (C : CS) (k : KS) (a0 a1 a2 a3 : AV) (S : St) => Y_59_1 C k a0 a1 a2 a3 S) fun C l t S k => xS (fun l t S => xB (xL4 0 2 3 8 (Y_59_5 C k) (fun l t S k1 => xB (xS (fun l t S => xS (fun l t S => xS (fun l t S => xf (Y_59_8 C k k1 (l 0) (l 2) (l 3) (l 8) (l 9) S)) (xf (Y_59_7 C k k1 (l 0) (l 2) (l 3) (l 8) (l 9) S))) (xf (Y_59_6 C k k1 (l 0) (l 2) (l 3) (l 8) (l 9) S))) (xf (Y_59_5 C k k1 (l 0) (l 2) (l 3) (l 8) S)))) (xf (lp4 (Y_59_5 C k) (l 0) (l 2) (l 3) (l 8) S)))) (xf (Y_59_1 C k (l 0) (l 1) (l 2) (l 3) S))
theorem c60 : tbl 60 = some (fnOf (tbl 60)) := by kernel_rfl
/-- slices.nextPowerOfTwo -/
def Y_60_1 (C : CS) (k : KS) (x0 : AV) (S : St) : Prop :=
 sR (.cvtI .u64) [x0] S fun v1 S1 =>
 C 45 [v1] S1 fun v2 S2 =>
 sR (.bin .shl) [(.i .u64 1), v2] S2 fun v3 S3 =>
 k v3 S3
def Z_60 (C : CS) (vs : List AV) (S : St) (k : KS) : Prop := ar1 ((fun (C : CS) (k : KS) (a0 : AV) (S : St) => Y_60_1 C k a0 S) C k) vs S
theorem z_60 {F : Nat → Option AFn} (h : ∀ f, Nat.beq f 9 = false → F f = tbl f) : FnOk F 60 Z_60 := fn1 ((h 60 (by kernel_rfl)).trans c60) (Y := fun (C : CS) (k : KS) (a0 : AV) (S : St) => Y_60_1 C k a0 S) fun C l t S k => xf (Y_60_1 C k (l 0) S)
theorem c61 : tbl 61 = some (fnOf (tbl 61)) := by kernel_rfl
/-- (*slices.xorshift).Next -/
def Y_61_1 (C : CS) (k : KS) (x0 : AV) (S : St) : Prop :=
 bNil x0 S fun v1 S1 =>
 bLd v1 S1 fun v2 S2 =>
 bNil x0 S2 fun v3 S3 =>
 bLd v3 S3 fun v4 S4 =>
 sR (.bin .shl) [v4, (.i .u64 13)] S4 fun v5 S5 =>
 sR (.bin .xor) [v2, v5] S5 fun v6 S6 =>
 bNil x0 S6 fun v7 S7 =>
 bSt 1 v7 v6 S7 fun _ S8 =>
 bNil x0 S8 fun v9 S9 =>
 bLd v9 S9 fun v10 S10 =>
 bNil x0 S10 fun v11 S11 =>
 bLd v11 S11 fun v12 S12 =>
 sR (.bin .shr) [v12, (.i .u64 7)] S12 fun v13 S13 =>
 sR (.bin .xor) [v10, v13] S13 fun v14 S14 =>
 bNil x0 S14 fun v15 S15 =>
 bSt 1 v15 v14 S15 fun _ S16 =>
 bNil x0 S16 fun v17 S17 =>
 bLd v17 S17 fun v18 S18 =>
 bNil x0 S18 fun v19 S19 =>
 bLd v19 S19 fun v20 S20 =>
 sR (.bin .shl) [v20, (.i .u64 17)] S20 fun v21 S21 =>
 sR (.bin .xor) [v18, v21] S21 fun v22 S22 =>
 bNil x0 S22 fun v23 S23 =>
 bSt 1 v23 v22 S23 fun _ S24 =>
 bNil x0 S24 fun v25 S25 =>
 bLd v25 S25 fun v26 S26 =>
 k v26 S26
def Z_61 (C : CS) (vs : List AV) (S : St) (k : KS) : Prop := ar1 ((fun (C : CS) (k : KS) (a0 : AV) (S : St) => Y_61_1 C k a0 S) C k) vs S
theorem z_61 {F : Nat → Option AFn} (h : ∀ f, Nat.beq f 9 = false → F f = tbl f) : FnOk F 61 Z_61 := fn1 ((h 61 (by kernel_rfl)).trans c61) (Y := fun (C : CS) (k : KS) (a0 : AV) (S : St) => Y_61_1 C k a0 S) fun C l t S k => xf (Y_61_1 C k (l 0) S)
theorem c62 : tbl 62 = some (fnOf (tbl 62)) := by kernel_rfl
/-- slices.medianAdjacentOrdered[int] -/
def Y_62_1 (C : CS) (k : KS) (x0 x1 x2 : AV) (S : St) : Prop :=
 bSub x1 (.i .i64 1) S fun v1 S1 =>
 bAdd x1 (.i .i64 1) S1 fun v2 S2 =>
 C 63 [x0, v1, x1, v2, x2] S2 fun v3 S3 =>
 k v3 S3
def Z_62 (C : CS) (vs : List AV) (S : St) (k : KS) : Prop := ar3 ((fun (C : CS) (k : KS) (a0 a1 a2 : AV) (S : St) => Y_62_1 C k a0 a1 a2 S) C k) vs S
theorem z_62 {F : Nat → Option AFn} (h : ∀ f, Nat.beq f 9 = false → F f = tbl f) : FnOk F 62 Z_62 := fn3 ((h 62 (by kernel_rfl)).trans c62) (Y := fun (C : CS) (k : KS) (a0 a1 a2 : AV) (S : St) => Y_62_1 C k a0 a1 a2 S) fun C l t S k => xf (Y_62_1 C k (l 0) (l 1) (l 2) S)
theorem c63 : tbl 63 = some (fnOf (tbl 63)) := by kernel_rfl
/-- slices.medianOrdered[int] -/
def Y_63_1 (C : CS) (k : KS) (x0 x1 x2 x3 x4 : AV) (S : St) : Prop :=
 C 65 [x0, x1, x2, x4] S fun v1 S1 =>
 bExt 0 v1 S1 fun v2 S2 =>
 bExt 1 v1 S2 fun v3 S3 =>
 C 65 [x0, v3, x3, x4] S3 fun v4 S4 =>
 bExt 0 v4 S4 fun v5 S5 =>
 bExt 1 v4 S5 fun v6 S6 =>
 C 65 [x0, v2, v5, x4] S6 fun v7 S7 =>
 bExt 0 v7 S7 fun v8 S8 =>
 bExt 1 v7 S8 fun v9 S9 =>
 k v9 S9
def Z_63 (C : CS) (vs : List AV) (S : St) (k : KS) : Prop := ar5 ((fun (C : CS) (k : KS) (a0 a1 a2 a3 a4 : AV) (S : St) => Y_63_1 C k a0 a1 a2 a3 a4 S) C k) vs S
theorem z_63 {F : Nat → Option AFn} (h : ∀ f, Nat.beq f 9 = false → F f = tbl f) : FnOk F 63 Z_63 := fn5 ((h 63 (by kernel_rfl)).trans c63) (Y := fun (C : CS) (k : KS) (a0 a1 a2 a3 a4 : AV) (S : St) => Y_63_1 C k a0 a1 a2 a3 a4 S) fun C l t S k => xf (Y_63_1 C k (l 0) (l 1) (l 2) (l 3) (l 4) S)
theorem c64 : tbl 64 = some (fnOf (tbl 64)) := by kernel_rfl
/-- cmp.isNaN[int] -/
def Y_64_1 (C : CS) (k : KS) (x0 : AV) (S : St) : Prop :=
 bNe x0 x0 S fun v1 S1 =>
 k v1 S1
def Z_64 (C : CS) (vs : List AV) (S : St) (k : KS) : Prop := ar1 ((fun (C : CS) (k : KS) (a0 : AV) (S : St) => Y_64_1 C k a0 S) C k) vs S
theorem z_64 {F : Nat → Option AFn} (h : ∀ f, Nat.beq f 9 = false → F f = tbl f) : FnOk F 64 Z_64 := fn1 ((h 64 (by kernel_rfl)).trans c64) (Y := fun (C : CS) (k : KS) (a0 : AV) (S : St) => Y_64_1 C k a0 S) fun C l t S k => xf (Y_64_1 C k (l 0) S)
theorem c65 : tbl 65 = some (fnOf (tbl 65)) := by kernel_rfl
/-- slices.order2Ordered[int] -/
def Y_65_1 (C : CS) (k : KS) (x0 x1 x2 x3 : AV) (S : St) : Prop :=
 bIad 1 x0 x2 S fun v1 S1 =>
 bLd v1 S1 fun v2 S2 =>
 bIad 1 x0 x1 S2 fun v3 S3 =>
 bLd v3 S3 fun v4 S4 =>
 C 54 [v2, v4] S4 fun v5 S5 =>
 condX v5
 (bNil x3 S5 fun v6 S6 =>
 bLd v6 S6 fun v7 S7 =>
 bAdd v7 (.i .i64 1) S7 fun v8 S8 =>
 bNil x3 S8 fun v9 S9 =>
 bSt 1 v9 v8 S9 fun _ S10 =>
 k (.tup [x2, x1]) S10)
 (k (.tup [x1, x2]) S5)
def Z_65 (C : CS) (vs : List AV) (S : St) (k : KS) : Prop := ar4 ((fun (C : CS) (k : KS) (a0 a1 a2 a3 : AV) (S : St) => Y_65_1 C k a0 a1 a2 a3 S) C k) vs S
theorem z_65 {F : Nat → Option AFn} (h : ∀ f, Nat.beq f 9 = false → F f = tbl f) : FnOk F 65 Z_65 := fn4 ((h 65 (by kernel_rfl)).trans c65) (Y := fun (C : CS) (k : KS) (a0 a1 a2 a3 : AV) (S : St) => Y_65_1 C k a0 a1 a2 a3 S) fun C l t S k => xf (Y_65_1 C k (l 0) (l 1) (l 2) (l 3) S)
end
end Go.Proofs.YtkfcecaoaplfkaaDoor.T
