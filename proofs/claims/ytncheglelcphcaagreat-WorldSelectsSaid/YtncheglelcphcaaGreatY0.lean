/- Functions, for the strict machine. PRINTED by our prints.py. -/
import Derived.Test.YtncheglelcphcaaGreatChecked
import Derived.Test.YtncheglelcphcaaGreatWorldSelectsG2
set_option linter.unusedVariables false
set_option maxRecDepth 100000
namespace Go.Proofs.YtncheglelcphcaaGreat.T
open Go.AM
noncomputable section
noncomputable def tbl : Nat → Option AFn := tblOf Tryz.prog [(3, 33554191), (4, 4087), (5, 19), (6, 61), (7, 115), (8, 27), (9, 51), (10, 51), (11, 19), (12, 19), (13, 5), (14, 51), (15, 939524285), (16, 5), (17, 7189), (18, 5), (19, 5), (20, 7), (21, 63), (22, 68719476787), (23, 31687), (24, 5), (25, 243), (26, 51), (27, 19), (28, 13), (29, 5), (30, 57367), (31, 1), (32, 3), (33, 1), (34, 1), (35, 13), (36, 397), (37, 999), (38, 5), (39, 5), (40, 5), (41, 19), (42, 1011), (43, 59), (44, 5), (45, 51), (46, 9007199254744911), (47, 39), (48, 61), (49, 455), (50, 487), (51, 1935), (52, 115), (53, 5), (54, 7), (55, 19), (56, 15), (57, 23), (58, 13), (59, 1), (60, 1), (61, 1), (62, 87), (63, 5), (64, 59), (65, 19), (66, 5), (67, 19), (68, 7667), (69, 51), (70, 499), (71, 3758104199), (72, 999), (73, 31), (74, 19), (75, 19), (76, 8035), (77, 5), (78, 51), (79, 5), (80, 13), (81, 13), (82, 8388621), (83, 61), (84, 576460752311812221), (85, 221), (86, 4194557), (87, 1991), (88, 5), (89, 5), (90, 51), (91, 16779261), (92, 125), (93, 967), (94, 5), (95, 103), (96, 51), (97, 5), (98, 5), (99, 15), (100, 30786325577847), (101, 435), (102, 1), (103, 455), (104, 5), (105, 19), (106, 5), (107, 61), (108, 61), (109, 199), (110, 271), (111, 115), (112, 19), (113, 19), (114, 2066035336255469844239), (115, 27), (116, 435), (117, 19), (118, 119), (119, 61175), (120, 979), (121, 123), (122, 5), (123, 5), (124, 19), (125, 61), (126, 19), (127, 115), (128, 243), (129, 2099), (130, 5), (131, 2017612633062506255), (132, 31), (133, 455), (134, 455), (135, 783), (136, 19), (137, 115), (138, 1807), (139, 5), (140, 130831), (141, 1011), (142, 115), (143, 51), (144, 51), (145, 51), (146, 115), (147, 243), (148, 3015), (149, 435), (150, 199), (151, 199), (152, 19), (153, 7), (154, 5), (155, 19), (156, 13), (157, 2035), (158, 83), (159, 327), (160, 13), (161, 5), (162, 19), (163, 51), (164, 115), (165, 19), (166, 5), (167, 1051), (168, 13), (169, 1), (170, 115), (171, 215), (172, 509), (173, 13), (174, 5), (175, 435), (176, 7), (177, 5), (178, 253), (179, 183), (180, 16143), (181, 815), (182, 5), (183, 5), (184, 271), (185, 19), (186, 3), (187, 455), (188, 199), (189, 435), (190, 5), (191, 5), (192, 243), (193, 39), (194, 19), (195, 243), (196, 115), (197, 5), (198, 9007199256576117), (199, 91), (200, 23), (201, 15), (202, 19), (203, 19), (204, 59), (205, 29), (206, 19), (207, 3), (208, 13), (209, 31), (210, 3), (211, 19), (212, 15), (213, 15), (214, 435), (215, 5), (216, 493), (217, 115), (218, 435), (219, 5)]
theorem c3 : tbl 3 = some (fnOf (tbl 3)) := by kernel_rfl
/-- tarpaulin/tarpaulinlaw20.WorldSelects -/
def Y_3_25 (C : CS) (k : KS) (x10 x15 x19 x20 x23 : AV) (S : St) : Prop :=
 gdO x20 true (sMv [x23] S) S fun v1 S1 =>
 gdO x20 true (sMv [x10] S1) S1 fun v2 S2 =>
 gdO x20 true (bLen v2 S2) S2 fun v3 S3 =>
 gdO x20 true (bAdd v3 (.i .i64 1) S3) S3 fun v4 S4 =>
 gdO x20 true (sMv [x15] S4) S4 fun v5 S5 =>
 gdO x20 true (sBuild [.i .i64 0, .i .i64 0, .i .i64 0, .i .i64 0, .i .i64 0, .i .i64 0] [(0, 1), (1, 1), (3, 1), (4, 1), (5, 1)] [v4, (.i .i64 3), v5, (.i .i64 77), (.i .i64 1)] S5) S5 fun v6 S6 =>
 gdO x20 true (sAl (.bslice [.i .i64 0, .i .i64 0, .i .i64 0, .i .i64 0, .i .i64 0, .i .i64 0] 1 6 [0]) [v6] S6) S6 fun v7 S7 =>
 gdO x20 true (C 14 [v1, v7] S7) S7 fun v8 S8 =>
 bPick x20 v8 (.b false) S8 fun v9 S9 =>
 gdO v9 true (bFad 2 x19 S9) S9 fun v10 S10 =>
 gdO v9 true (bLd v10 S10) S10 fun v11 S11 =>
 gdO v9 true (bEq v11 (.i .i64 0) S11) S11 fun v12 S12 =>
 bPick v9 v12 (.b false) S12 fun v13 S13 =>
 gdO v13 true (bFad 4 x19 S13) S13 fun v14 S14 =>
 gdO v13 true (bIadA 8 1 v14 (.i .i64 5) S14) S14 fun v15 S15 =>
 gdO v13 true (bLd v15 S15) S15 fun v16 S16 =>
 gdO v13 true (sMv [x15] S16) S16 fun v17 S17 =>
 gdO v13 true (bEq v16 v17 S17) S17 fun v18 S18 =>
 bPick v13 v18 (.b false) S18 fun v19 S19 =>
 gdO v19 true (bFad 4 x19 S19) S19 fun v20 S20 =>
 gdO v19 true (bIadA 8 1 v20 (.i .i64 6) S20) S20 fun v21 S21 =>
 gdO v19 true (bLd v21 S21) S21 fun v22 S22 =>
 gdO v19 true (bEq v22 (.i .i64 77) S22) S22 fun v23 S23 =>
 bPick v19 v23 (.b false) S23 fun v24 S24 =>
 gdO v24 true (C 4 [] S24) S24 fun v25 S25 =>
 bPick v24 v25 (.b false) S25 fun v26 S26 =>
 k v26 S26
def Y_3_29 (C : CS) (k : KS) (k1 : AV → AV → AV → AV → AV → AV → AV → AV → St → Prop) (x9 x10 x15 x16 x19 x20 x23 x24 : AV) (S : St) : Prop :=
 bLt x24 x9 S fun v1 S1 =>
 condX v1
 (C 10 [x16, x24] S1 fun v2 S2 =>
 C 11 [v2, (.b false)] S2 fun v3 S3 =>
 bLen v3 S3 fun v4 S4 =>
 bNe v4 (.i .i64 0) S4 fun v5 S5 =>
 gdO v5 false (sMv [x16] S5) S5 fun v6 S6 =>
 gdO v5 false (sMv [x24] S6) S6 fun v7 S7 =>
 gdO v5 false (C 10 [v6, v7] S7) S7 fun v8 S8 =>
 gdO v5 false (C 13 [v8] S8) S8 fun v9 S9 =>
 gdO v5 false (bNe v9 (.i .i64 0) S9) S9 fun v10 S10 =>
 bPick v5 (.b true) v10 S10 fun v11 S11 =>
 condX v11
 (k (.b false) S11)
 (bAdd x24 (.i .i64 1) S11 fun v12 S12 =>
 k1 x9 x10 x15 x16 x19 x20 x23 v12 S12))
 (Y_3_25 C k x10 x15 x19 x20 x23 S1)
def Y_3_26 (C : CS) (k : KS) (x9 x10 x15 x16 x19 x20 x23 : AV) (S : St) : Prop :=
 lp8 (Y_3_29 C k) x9 x10 x15 x16 x19 x20 x23 (.i .i64 0) S
def Y_3_23 (C : CS) (k : KS) (x9 x10 x15 x16 x19 x23 : AV) (S : St) : Prop :=
 C 9 [x16, (.i .i64 0)] S fun v1 S1 =>
 bExt 0 v1 S1 fun v2 S2 =>
 bExt 1 v1 S2 fun v3 S3 =>
 bSt 18 x19 v2 S3 fun _ S4 =>
 Y_3_26 C k x9 x10 x15 x16 x19 v3 x23 S4
def Y_3_22 (C : CS) (k : KS) (x9 x10 x15 x16 x19 : AV) (S : St) : Prop :=
 C 12 [x16, (.i .i64 0)] S fun v1 S1 =>
 Y_3_23 C k x9 x10 x15 x16 x19 v1 S1
def Y_3_21 (C : CS) (k : KS) (x9 x10 x15 x16 x19 : AV) (S : St) : Prop :=
 C 12 [x16, (.i .i64 0)] S fun v1 S1 =>
 Y_3_22 C k x9 x10 x15 x16 x19 S1
def Y_3_33 (C : CS) (k : KS) (k1 : AV → AV → AV → AV → AV → AV → St → Prop) (x9 x10 x15 x16 x19 x22 : AV) (S : St) : Prop :=
 bLt x22 x9 S fun v1 S1 =>
 condX v1
 (C 10 [x16, x22] S1 fun v2 S2 =>
 C 11 [v2, (.b false)] S2 fun v3 S3 =>
 bLen v3 S3 fun v4 S4 =>
 bNe v4 (.i .i64 1) S4 fun v5 S5 =>
 condX v5
 (k (.b false) S5)
 (bAdd x22 (.i .i64 1) S5 fun v6 S6 =>
 k1 x9 x10 x15 x16 x19 v6 S6))
 (Y_3_21 C k x9 x10 x15 x16 x19 S1)
def Y_3_30 (C : CS) (k : KS) (x9 x10 x15 x16 x19 : AV) (S : St) : Prop :=
 lp6 (Y_3_33 C k) x9 x10 x15 x16 x19 (.i .i64 0) S
def Y_3_19 (C : CS) (k : KS) (x9 x10 x15 x16 x18 x19 : AV) (S : St) : Prop :=
 bLen x18 S fun v1 S1 =>
 bNe v1 (.i .i64 1) S1 fun v2 S2 =>
 gdO v2 false (sMv [x18] S2) S2 fun v3 S3 =>
 gdO v2 false (bIad 6 v3 (.i .i64 0) S3) S3 fun v4 S4 =>
 gdO v2 false (bFad 1 v4 S4) S4 fun v5 S5 =>
 gdO v2 false (bLd v5 S5) S5 fun v6 S6 =>
 gdO v2 false (bNe v6 (.i .i64 2) S6) S6 fun v7 S7 =>
 bPick v2 (.b true) v7 S7 fun v8 S8 =>
 gdO v8 false (bFad 2 x19 S8) S8 fun v9 S9 =>
 gdO v8 false (bLd v9 S9) S9 fun v10 S10 =>
 gdO v8 false (bNe v10 (.i .i64 1) S10) S10 fun v11 S11 =>
 bPick v8 (.b true) v11 S11 fun v12 S12 =>
 condX v12
 (k (.b false) S12)
 (Y_3_30 C k x9 x10 x15 x16 x19 S12)
def Y_3_18 (C : CS) (k : KS) (x1 x9 x10 x15 x16 x18 x19 : AV) (S : St) : Prop :=
 condX x1
 (bLen x18 S fun v1 S1 =>
 bEq v1 (.i .i64 0) S1 fun v2 S2 =>
 gdO v2 true (bFad 4 x19 S2) S2 fun v3 S3 =>
 gdO v2 true (bIadA 8 1 v3 (.i .i64 5) S3) S3 fun v4 S4 =>
 gdO v2 true (bLd v4 S4) S4 fun v5 S5 =>
 gdO v2 true (bEq v5 (.i .i64 (-1)) S5) S5 fun v6 S6 =>
 bPick v2 v6 (.b false) S6 fun v7 S7 =>
 gdO v7 true (bFad 2 x19 S7) S7 fun v8 S8 =>
 gdO v7 true (bLd v8 S8) S8 fun v9 S9 =>
 gdO v7 true (bEq v9 (.i .i64 0) S9) S9 fun v10 S10 =>
 bPick v7 v10 (.b false) S10 fun v11 S11 =>
 gdO v11 true (C 4 [] S11) S11 fun v12 S12 =>
 bPick v11 v12 (.b false) S12 fun v13 S13 =>
 k v13 S13)
 (Y_3_19 C k x9 x10 x15 x16 x18 x19 S)
def Y_3_37 (C : CS) (k : KS) (x18 x19 x21 : AV) (S : St) : Prop :=
 bLen x18 S fun v1 S1 =>
 bEq v1 (.i .i64 0) S1 fun v2 S2 =>
 gdO v2 true (bFad 4 x19 S2) S2 fun v3 S3 =>
 gdO v2 true (bIadA 8 1 v3 (.i .i64 5) S3) S3 fun v4 S4 =>
 gdO v2 true (bLd v4 S4) S4 fun v5 S5 =>
 gdO v2 true (sMv [x21] S5) S5 fun v6 S6 =>
 gdO v2 true (bEq v5 v6 S6) S6 fun v7 S7 =>
 bPick v2 v7 (.b false) S7 fun v8 S8 =>
 gdO v8 true (bFad 4 x19 S8) S8 fun v9 S9 =>
 gdO v8 true (bIadA 8 1 v9 (.i .i64 6) S9) S9 fun v10 S10 =>
 gdO v8 true (bLd v10 S10) S10 fun v11 S11 =>
 gdO v8 true (sMv [x21] S11) S11 fun v12 S12 =>
 gdO v8 true (bAdd (.i .i64 30) v12 S12) S12 fun v13 S13 =>
 gdO v8 true (bEq v11 v13 S13) S13 fun v14 S14 =>
 bPick v8 v14 (.b false) S14 fun v15 S15 =>
 gdO v15 true (bFad 4 x19 S15) S15 fun v16 S16 =>
 gdO v15 true (bIadA 8 1 v16 (.i .i64 7) S16) S16 fun v17 S17 =>
 gdO v15 true (bLd v17 S17) S17 fun v18 S18 =>
 gdO v15 true (bEq v18 (.i .i64 1) S18) S18 fun v19 S19 =>
 bPick v15 v19 (.b false) S19 fun v20 S20 =>
 gdO v20 true (bFad 2 x19 S20) S20 fun v21 S21 =>
 gdO v20 true (bLd v21 S21) S21 fun v22 S22 =>
 gdO v20 true (bEq v22 (.i .i64 0) S22) S22 fun v23 S23 =>
 bPick v20 v23 (.b false) S23 fun v24 S24 =>
 gdO v24 true (C 4 [] S24) S24 fun v25 S25 =>
 bPick v24 v25 (.b false) S25 fun v26 S26 =>
 k v26 S26
def Y_3_36 (C : CS) (k : KS) (x2 x13 x18 x19 : AV) (S : St) : Prop :=
 bLen x13 S fun v1 S1 =>
 C 5 [x2, v1] S1 fun v2 S2 =>
 bIad 1 x13 v2 S2 fun v3 S3 =>
 bLd v3 S3 fun v4 S4 =>
 Y_3_37 C k x18 x19 v4 S4
def Y_3_38 (C : CS) (k : KS) (x1 x9 x10 x15 x16 x18 x19 : AV) (S : St) : Prop :=
 Y_3_18 C k x1 x9 x10 x15 x16 x18 x19 S
def Y_3_35 (C : CS) (k : KS) (x1 x2 x9 x10 x13 x15 x16 x18 x19 t112 : AV) (S : St) : Prop :=
 condX t112
 (Y_3_36 C k x2 x13 x18 x19 S)
 (Y_3_38 C k x1 x9 x10 x15 x16 x18 x19 S)
def Y_3_34 (C : CS) (k : KS) (x1 x2 x9 x10 x13 x15 x16 x18 x19 : AV) (S : St) : Prop :=
 bLen x13 S fun v1 S1 =>
 bGt v1 (.i .i64 0) S1 fun v2 S2 =>
 Y_3_35 C k x1 x2 x9 x10 x13 x15 x16 x18 x19 v2 S2
def Y_3_16 (C : CS) (k : KS) (x1 x2 x9 x10 x13 x15 x16 x18 x19 x20 : AV) (S : St) : Prop :=
 bNot x20 S fun v1 S1 =>
 condX v1
 (k (.b false) S1)
 (Y_3_34 C k x1 x2 x9 x10 x13 x15 x16 x18 x19 S1)
def Y_3_15 (C : CS) (k : KS) (x1 x2 x9 x10 x13 x15 x16 x18 : AV) (S : St) : Prop :=
 C 9 [x16, (.i .i64 0)] S fun v1 S1 =>
 bExt 0 v1 S1 fun v2 S2 =>
 bExt 1 v1 S2 fun v3 S3 =>
 bAlloc [.i .i64 0, .i .i64 0, .i .i64 0, .i .i64 0, .i .i64 0, .i .i64 0, .i .i64 0, .i .i64 0, .i .i64 0, .i .i64 0, .i .i64 0, .i .i64 0, .i .i64 0, .i .i64 0, .i .i64 0, .i .i64 0, .sl none 0 0 0, .b false] S3 fun v4 S4 =>
 bSt 18 v4 v2 S4 fun _ S5 =>
 Y_3_16 C k x1 x2 x9 x10 x13 x15 x16 x18 v4 v3 S5
def Y_3_14 (C : CS) (k : KS) (x1 x2 x9 x10 x13 x15 x16 : AV) (S : St) : Prop :=
 sBuild [.i .i64 0, .i .i64 0, .i .i64 0] [(0, 1), (2, 1)] [(.i .i64 1), x2] S fun v1 S1 =>
 C 8 [x16, v1] S1 fun v2 S2 =>
 Y_3_15 C k x1 x2 x9 x10 x13 x15 x16 v2 S2
def Y_3_13 (C : CS) (k : KS) (x1 x2 x9 x10 x13 x15 x16 : AV) (S : St) : Prop :=
 bLen x10 S fun v1 S1 =>
 bSub v1 (.i .i64 1) S1 fun v2 S2 =>
 C 7 [x16, v2] S2 fun v3 S3 =>
 Y_3_14 C k x1 x2 x9 x10 x13 x15 x16 S3
def Y_3_12 (C : CS) (k : KS) (x1 x2 x9 x10 x13 x15 x16 x17 : AV) (S : St) : Prop :=
 bNot x17 S fun v1 S1 =>
 condX v1
 (k (.b false) S1)
 (Y_3_13 C k x1 x2 x9 x10 x13 x15 x16 S1)
def Y_3_11 (C : CS) (k : KS) (x1 x2 x9 x10 x13 x15 : AV) (S : St) : Prop :=
 sBuild [.i .i64 0, .i .i64 0, .i .i64 0, .i .i64 0, .sl none 0 0 0, .b false] [(0, 1), (1, 1), (2, 1)] [(.i .i64 1), (.i .i64 4), (.i .i64 77)] S fun v1 S1 =>
 sBuild [.i .i64 0, .i .i64 0, .i .i64 0, .i .i64 0, .sl none 0 0 0, .b false] [(0, 1), (1, 1), (2, 1)] [(.i .i64 10), x15, (.i .i64 4)] S1 fun v2 S2 =>
 sAl (.bslice [.i .i64 0, .i .i64 0, .i .i64 0, .i .i64 0, .sl none 0 0 0, .b false] 2 6 [0, 1]) [v1, v2] S2 fun v3 S3 =>
 sAl (.bslice [.sl none 0 0 0] 2 1 [0, 1]) [x10, v3] S3 fun v4 S4 =>
 C 6 [v4] S4 fun v5 S5 =>
 bExt 0 v5 S5 fun v6 S6 =>
 bExt 1 v5 S6 fun v7 S7 =>
 Y_3_12 C k x1 x2 x9 x10 x13 x15 v6 v7 S7
def Y_3_10 (C : CS) (k : KS) (x1 x2 x9 x10 x11 x13 x15 : AV) (S : St) : Prop :=
 sBuild [.i .i64 0, .i .i64 0, .i .i64 0, .i .i64 0, .sl none 0 0 0, .b false] [(0, 1), (1, 1), (2, 1)] [(.i .i64 8), (.i .i64 4), (.i .i64 1)] S fun v1 S1 =>
 bLdN 6 x11 S1 fun v2 S2 =>
 sAl (.bslice [.i .i64 0, .i .i64 0, .i .i64 0, .i .i64 0, .sl none 0 0 0, .b false] 2 6 [0, 1]) [v1, v2] S2 fun v3 S3 =>
 bApp 6 64 x10 v3 S3 fun v4 S4 =>
 Y_3_11 C k x1 x2 x9 v4 x13 x15 S4
def Y_3_9 (C : CS) (k : KS) (x1 x2 x3 x9 x10 x11 x13 : AV) (S : St) : Prop :=
 C 5 [x3, x9] S fun v1 S1 =>
 Y_3_10 C k x1 x2 x9 x10 x11 x13 v1 S1
def Y_3_42 (C : CS) (k : KS) (k1 : AV → AV → AV → AV → AV → AV → AV → AV → AV → St → Prop) (x0 x1 x2 x3 x9 x10 x11 x13 x14 : AV) (S : St) : Prop :=
 bLt x14 x9 S fun v1 S1 =>
 condX v1
 (bIad 1 x0 x14 S1 fun v2 S2 =>
 bLd v2 S2 fun v3 S3 =>
 condX v3
 (bAdd (.i .i64 30) x14 S3 fun v4 S4 =>
 sBuild [.i .i64 0, .i .i64 0, .i .i64 0, .i .i64 0, .sl none 0 0 0, .b false] [(0, 1), (1, 1), (2, 1)] [(.i .i64 1), (.i .i64 4), v4] S4 fun v5 S5 =>
 sBuild [.i .i64 0, .i .i64 0, .i .i64 0, .i .i64 0, .sl none 0 0 0, .b false] [(0, 1), (1, 1), (2, 1)] [(.i .i64 10), x14, (.i .i64 4)] S5 fun v6 S6 =>
 sAl (.bslice [.i .i64 0, .i .i64 0, .i .i64 0, .i .i64 0, .sl none 0 0 0, .b false] 2 6 [0, 1]) [v5, v6] S6 fun v7 S7 =>
 bApp 6 64 x10 v7 S7 fun v8 S8 =>
 sAl (.bslice [.i .i64 0] 1 1 [0]) [x14] S8 fun v9 S9 =>
 bApp 1 8 x13 v9 S9 fun v10 S10 =>
 bAdd x14 (.i .i64 1) S10 fun v11 S11 =>
 k1 x0 x1 x2 x3 x9 v8 x11 v10 v11 S11)
 (bAdd x14 (.i .i64 1) S3 fun v12 S12 =>
 k1 x0 x1 x2 x3 x9 x10 x11 x13 v12 S12))
 (Y_3_9 C k x1 x2 x3 x9 x10 x11 x13 S1)
def Y_3_39 (C : CS) (k : KS) (x0 x1 x2 x3 x9 x10 x11 x13 : AV) (S : St) : Prop :=
 lp9 (Y_3_42 C k) x0 x1 x2 x3 x9 x10 x11 x13 (.i .i64 0) S
def Y_3_7 (C : CS) (k : KS) (x0 x1 x2 x3 x9 x10 x11 : AV) (S : St) : Prop :=
 Y_3_39 C k x0 x1 x2 x3 x9 x10 x11 (.sl none 0 0 0) S
def Y_3_46 (C : CS) (k : KS) (k1 : AV → AV → AV → AV → AV → AV → AV → AV → St → Prop) (x0 x1 x2 x3 x9 x10 x11 x12 : AV) (S : St) : Prop :=
 bLt x12 x9 S fun v1 S1 =>
 condX v1
 (sBuild [.i .i64 0, .i .i64 0, .i .i64 0, .i .i64 0, .sl none 0 0 0, .b false] [(0, 1), (1, 1), (2, 1)] [(.i .i64 9), x12, (.i .i64 1)] S1 fun v2 S2 =>
 sAl (.bslice [.i .i64 0, .i .i64 0, .i .i64 0, .i .i64 0, .sl none 0 0 0, .b false] 1 6 [0]) [v2] S2 fun v3 S3 =>
 bApp 6 64 x10 v3 S3 fun v4 S4 =>
 bFad 4 x11 S4 fun v5 S5 =>
 bLd v5 S5 fun v6 S6 =>
 sBuild [.b false, .i .i64 0, .i .i64 0] [(1, 1)] [x12] S6 fun v7 S7 =>
 sAl (.bslice [.b false, .i .i64 0, .i .i64 0] 1 3 [0]) [v7] S7 fun v8 S8 =>
 bApp 3 24 v6 v8 S8 fun v9 S9 =>
 bFad 4 x11 S9 fun v10 S10 =>
 bSt 1 v10 v9 S10 fun _ S11 =>
 bAdd x12 (.i .i64 1) S11 fun v12 S12 =>
 k1 x0 x1 x2 x3 x9 v4 x11 v12 S12)
 (Y_3_7 C k x0 x1 x2 x3 x9 x10 x11 S1)
def Y_3_43 (C : CS) (k : KS) (x0 x1 x2 x3 x9 x10 x11 : AV) (S : St) : Prop :=
 lp8 (Y_3_46 C k) x0 x1 x2 x3 x9 x10 x11 (.i .i64 0) S
def Y_3_5 (C : CS) (k : KS) (x0 x1 x2 x3 x9 x10 : AV) (S : St) : Prop :=
 sBuild [.i .i64 0, .i .i64 0, .i .i64 0, .i .i64 0, .sl none 0 0 0, .b false] [(0, 1), (1, 1), (2, 1), (3, 1), (5, 1)] [(.i .i64 15), (.i .i64 5), (.i .i64 6), (.i .i64 7), x1] S fun v1 S1 =>
 bAlloc [.i .i64 0, .i .i64 0, .i .i64 0, .i .i64 0, .sl none 0 0 0, .b false] S1 fun v2 S2 =>
 bSt 6 v2 v1 S2 fun _ S3 =>
 Y_3_43 C k x0 x1 x2 x3 x9 x10 v2 S3
def Y_3_4 (C : CS) (k : KS) (x0 x1 x2 x3 x9 : AV) (S : St) : Prop :=
 Y_3_5 C k x0 x1 x2 x3 x9 (.sl none 0 0 0) S
def Y_3_3 (C : CS) (k : KS) (x0 x1 x2 x3 x9 : AV) (S : St) : Prop :=
 bLt x9 (.i .i64 1) S fun v1 S1 =>
 gdO v1 false (sMv [x9] S1) S1 fun v2 S2 =>
 gdO v1 false (bGt v2 (.i .i64 4) S2) S2 fun v3 S3 =>
 bPick v1 (.b true) v3 S3 fun v4 S4 =>
 condX v4
 (C 4 [] S4 fun v5 S5 =>
 k v5 S5)
 (Y_3_4 C k x0 x1 x2 x3 x9 S4)
def Y_3_2 (C : CS) (k : KS) (x0 x1 x2 x3 : AV) (S : St) : Prop :=
 bLen x0 S fun v1 S1 =>
 Y_3_3 C k x0 x1 x2 x3 v1 S1
def Y_3_1 (C : CS) (k : KS) (x0 x1 x2 x3 : AV) (S : St) : Prop :=
 Y_3_2 C k x0 x1 x2 x3 S
def Z_3 (C : CS) (vs : List AV) (S : St) (k : KS) : Prop := ar4 ((fun (C : CS) (k : KS) (a0 a1 a2 a3 : AV) (S : St) => Y_3_1 C k a0 a1 a2 a3 S) C k) vs S
theorem z_3 {F : Nat → Option AFn} (h : ∀ f, Nat.beq f 4 = false → F f = tbl f) : FnOk F 3 Z_3 := fn4 ((h 3 (by kernel_rfl)).trans c3) (Y := fun (C : CS) (k : KS) (a0 a1 a2 a3 : AV) (S : St) => Y_3_1 C k a0 a1 a2 a3 S) fun C l t S k => xS (fun l t S => xS (fun l t S => xS (fun l t S => xS (fun l t S => xS (fun l t S => xS (fun l t S => xS (fun l t S => xS (fun l t S => xS (fun l t S => xS (fun l t S => xS (fun l t S => xS (fun l t S => xS (fun l t S => xS (fun l t S => xS (fun l t S => xS (fun l t S => xS (fun l t S => xS (fun l t S => xS (fun l t S => xS (fun l t S => xS (fun l t S => xS (fun l t S => xS (fun l t S => xS (fun l t S => xf (Y_3_25 C k (l 10) (l 15) (l 19) (l 20) (l 23) S)) (xS (fun l t S => xB (xL8 9 10 15 16 19 20 23 24 (Y_3_29 C k) (fun l t S k1 => xf (Y_3_29 C k k1 (l 9) (l 10) (l 15) (l 16) (l 19) (l 20) (l 23) (l 24) S)) (xf (lp8 (Y_3_29 C k) (l 9) (l 10) (l 15) (l 16) (l 19) (l 20) (l 23) (l 24) S)))) (xf (Y_3_26 C k (l 9) (l 10) (l 15) (l 16) (l 19) (l 20) (l 23) S)))) (xf (Y_3_23 C k (l 9) (l 10) (l 15) (l 16) (l 19) (l 23) S))) (xf (Y_3_22 C k (l 9) (l 10) (l 15) (l 16) (l 19) S))) (xf (Y_3_21 C k (l 9) (l 10) (l 15) (l 16) (l 19) S))) (xS (fun l t S => xB (xL6 9 10 15 16 19 22 (Y_3_33 C k) (fun l t S k1 => xf (Y_3_33 C k k1 (l 9) (l 10) (l 15) (l 16) (l 19) (l 22) S)) (xf (lp6 (Y_3_33 C k) (l 9) (l 10) (l 15) (l 16) (l 19) (l 22) S)))) (xf (Y_3_30 C k (l 9) (l 10) (l 15) (l 16) (l 19) S)))) (xf (Y_3_19 C k (l 9) (l 10) (l 15) (l 16) (l 18) (l 19) S))) (xf (Y_3_18 C k (l 1) (l 9) (l 10) (l 15) (l 16) (l 18) (l 19) S))) (xS (fun l t S => xC (xS (fun l t S => xf (Y_3_37 C k (l 18) (l 19) (l 21) S)) (xf (Y_3_36 C k (l 2) (l 13) (l 18) (l 19) S))) (xf (Y_3_38 C k (l 1) (l 9) (l 10) (l 15) (l 16) (l 18) (l 19) S)) (xf (Y_3_35 C k (l 1) (l 2) (l 9) (l 10) (l 13) (l 15) (l 16) (l 18) (l 19) (t 112) S))) (xf (Y_3_34 C k (l 1) (l 2) (l 9) (l 10) (l 13) (l 15) (l 16) (l 18) (l 19) S)))) (xf (Y_3_16 C k (l 1) (l 2) (l 9) (l 10) (l 13) (l 15) (l 16) (l 18) (l 19) (l 20) S))) (xf (Y_3_15 C k (l 1) (l 2) (l 9) (l 10) (l 13) (l 15) (l 16) (l 18) S))) (xf (Y_3_14 C k (l 1) (l 2) (l 9) (l 10) (l 13) (l 15) (l 16) S))) (xf (Y_3_13 C k (l 1) (l 2) (l 9) (l 10) (l 13) (l 15) (l 16) S))) (xf (Y_3_12 C k (l 1) (l 2) (l 9) (l 10) (l 13) (l 15) (l 16) (l 17) S))) (xf (Y_3_11 C k (l 1) (l 2) (l 9) (l 10) (l 13) (l 15) S))) (xf (Y_3_10 C k (l 1) (l 2) (l 9) (l 10) (l 11) (l 13) (l 15) S))) (xf (Y_3_9 C k (l 1) (l 2) (l 3) (l 9) (l 10) (l 11) (l 13) S))) (xS (fun l t S => xB (xL9 0 1 2 3 9 10 11 13 14 (Y_3_42 C k) (fun l t S k1 => xf (Y_3_42 C k k1 (l 0) (l 1) (l 2) (l 3) (l 9) (l 10) (l 11) (l 13) (l 14) S)) (xf (lp9 (Y_3_42 C k) (l 0) (l 1) (l 2) (l 3) (l 9) (l 10) (l 11) (l 13) (l 14) S)))) (xf (Y_3_39 C k (l 0) (l 1) (l 2) (l 3) (l 9) (l 10) (l 11) (l 13) S)))) (xf (Y_3_7 C k (l 0) (l 1) (l 2) (l 3) (l 9) (l 10) (l 11) S))) (xS (fun l t S => xB (xL8 0 1 2 3 9 10 11 12 (Y_3_46 C k) (fun l t S k1 => xf (Y_3_46 C k k1 (l 0) (l 1) (l 2) (l 3) (l 9) (l 10) (l 11) (l 12) S)) (xf (lp8 (Y_3_46 C k) (l 0) (l 1) (l 2) (l 3) (l 9) (l 10) (l 11) (l 12) S)))) (xf (Y_3_43 C k (l 0) (l 1) (l 2) (l 3) (l 9) (l 10) (l 11) S)))) (xf (Y_3_5 C k (l 0) (l 1) (l 2) (l 3) (l 9) (l 10) S))) (xf (Y_3_4 C k (l 0) (l 1) (l 2) (l 3) (l 9) S))) (xf (Y_3_3 C k (l 0) (l 1) (l 2) (l 3) (l 9) S))) (xf (Y_3_2 C k (l 0) (l 1) (l 2) (l 3) S))) (xf (Y_3_1 C k (l 0) (l 1) (l 2) (l 3) S))
theorem c4 : tbl 4 = some (fnOf (tbl 4)) := by kernel_rfl
/-- tarpaulin/tarpaulinlaw20.awake -/
def Y_4_15 (C : CS) (k : KS) (x0 : AV) (S : St) : Prop :=
 k x0 S
def Y_4_14 (C : CS) (k : KS) (x1 x5 x6 x7 x8 x9 x10 x11 : AV) (S : St) : Prop :=
 sBuild [.i .i64 0, .i .i64 0, .i .i64 0, .i .i64 0, .i .i64 0, .i .i64 0] [(0, 1), (1, 1), (2, 1), (3, 1)] [(.i .i64 1), (.i .i64 5), (.i .i64 1), (.i .i64 1)] S fun v1 S1 =>
 sAl (.bslice [.i .i64 0, .i .i64 0, .i .i64 0, .i .i64 0, .i .i64 0, .i .i64 0] 1 6 [0]) [v1] S1 fun v2 S2 =>
 C 14 [x5, v2] S2 fun v3 S3 =>
 gdO v3 true (sMv [x6] S3) S3 fun v4 S4 =>
 gdO v3 true (sBuild [.i .i64 0, .i .i64 0, .i .i64 0, .i .i64 0, .i .i64 0, .i .i64 0] [(0, 1), (1, 1)] [(.i .i64 2), (.i .i64 2)] S4) S4 fun v5 S5 =>
 gdO v3 true (sAl (.bslice [.i .i64 0, .i .i64 0, .i .i64 0, .i .i64 0, .i .i64 0, .i .i64 0] 1 6 [0]) [v5] S5) S5 fun v6 S6 =>
 gdO v3 true (C 14 [v4, v6] S6) S6 fun v7 S7 =>
 bPick v3 v7 (.b false) S7 fun v8 S8 =>
 gdO v8 true (sMv [x7] S8) S8 fun v9 S9 =>
 gdO v8 true (sBuild [.i .i64 0, .i .i64 0, .i .i64 0, .i .i64 0, .i .i64 0, .i .i64 0] [(0, 1), (1, 1), (4, 1), (5, 1)] [(.i .i64 4), (.i .i64 3), (.i .i64 7), (.i .i64 1)] S9) S9 fun v10 S10 =>
 gdO v8 true (sAl (.bslice [.i .i64 0, .i .i64 0, .i .i64 0, .i .i64 0, .i .i64 0, .i .i64 0] 1 6 [0]) [v10] S10) S10 fun v11 S11 =>
 gdO v8 true (C 14 [v9, v11] S11) S11 fun v12 S12 =>
 bPick v8 v12 (.b false) S12 fun v13 S13 =>
 gdO v13 true (sMv [x8] S13) S13 fun v14 S14 =>
 gdO v13 true (sBuild [.i .i64 0, .i .i64 0, .i .i64 0, .i .i64 0, .i .i64 0, .i .i64 0] [(0, 1), (1, 1), (3, 1)] [(.i .i64 5), (.i .i64 1), (.i .i64 7)] S14) S14 fun v15 S15 =>
 gdO v13 true (sAl (.bslice [.i .i64 0, .i .i64 0, .i .i64 0, .i .i64 0, .i .i64 0, .i .i64 0] 1 6 [0]) [v15] S15) S15 fun v16 S16 =>
 gdO v13 true (C 14 [v14, v16] S16) S16 fun v17 S17 =>
 bPick v13 v17 (.b false) S17 fun v18 S18 =>
 gdO v18 true (sMv [x9] S18) S18 fun v19 S19 =>
 gdO v18 true (sBuild [.i .i64 0, .i .i64 0, .i .i64 0, .i .i64 0, .i .i64 0, .i .i64 0] [(0, 1), (1, 1)] [(.i .i64 6), (.i .i64 8)] S19) S19 fun v20 S20 =>
 gdO v18 true (sAl (.bslice [.i .i64 0, .i .i64 0, .i .i64 0, .i .i64 0, .i .i64 0, .i .i64 0] 1 6 [0]) [v20] S20) S20 fun v21 S21 =>
 gdO v18 true (C 14 [v19, v21] S21) S21 fun v22 S22 =>
 bPick v18 v22 (.b false) S22 fun v23 S23 =>
 gdO v23 true (sMv [x10] S23) S23 fun v24 S24 =>
 gdO v23 true (bLen v24 S24) S24 fun v25 S25 =>
 gdO v23 true (bEq v25 (.i .i64 2) S25) S25 fun v26 S26 =>
 bPick v23 v26 (.b false) S26 fun v27 S27 =>
 gdO v27 true (sMv [x10] S27) S27 fun v28 S28 =>
 gdO v27 true (bIad 5 v28 (.i .i64 0) S28) S28 fun v29 S29 =>
 gdO v27 true (bFad 3 v29 S29) S29 fun v30 S30 =>
 gdO v27 true (bLd v30 S30) S30 fun v31 S31 =>
 gdO v27 true (bNot v31 S31) S31 fun v32 S32 =>
 bPick v27 v32 (.b false) S32 fun v33 S33 =>
 gdO v33 true (sMv [x10] S33) S33 fun v34 S34 =>
 gdO v33 true (bIad 5 v34 (.i .i64 0) S34) S34 fun v35 S35 =>
 gdO v33 true (bFad 1 v35 S35) S35 fun v36 S36 =>
 gdO v33 true (bLd v36 S36) S36 fun v37 S37 =>
 gdO v33 true (bEq v37 (.i .i64 1) S37) S37 fun v38 S38 =>
 bPick v33 v38 (.b false) S38 fun v39 S39 =>
 gdO v39 true (sMv [x10] S39) S39 fun v40 S40 =>
 gdO v39 true (bIad 5 v40 (.i .i64 1) S40) S40 fun v41 S41 =>
 gdO v39 true (bFad 3 v41 S41) S41 fun v42 S42 =>
 gdO v39 true (bLd v42 S42) S42 fun v43 S43 =>
 bPick v39 v43 (.b false) S43 fun v44 S44 =>
 gdO v44 true (sMv [x10] S44) S44 fun v45 S45 =>
 gdO v44 true (bIad 5 v45 (.i .i64 1) S45) S45 fun v46 S46 =>
 gdO v44 true (bFad 2 v46 S46) S46 fun v47 S47 =>
 gdO v44 true (bLd v47 S47) S47 fun v48 S48 =>
 gdO v44 true (bEq v48 (.i .i64 7) S48) S48 fun v49 S49 =>
 bPick v44 v49 (.b false) S49 fun v50 S50 =>
 gdO v50 true (sMv [x1] S50) S50 fun v51 S51 =>
 gdO v50 true (C 17 [v51] S51) S51 fun v52 S52 =>
 gdO v50 true (bLen v52 S52) S52 fun v53 S53 =>
 gdO v50 true (bEq v53 (.i .i64 6) S53) S53 fun v54 S54 =>
 bPick v50 v54 (.b false) S54 fun v55 S55 =>
 gdO v55 true (sMv [x1] S55) S55 fun v56 S56 =>
 gdO v55 true (C 18 [v56] S56) S56 fun v57 S57 =>
 gdO v55 true (sR (.eq true .ptr) [v57, (.p none)] S57) S57 fun v58 S58 =>
 bPick v55 v58 (.b false) S58 fun v59 S59 =>
 gdO v59 true (sMv [x11] S59) S59 fun v60 S60 =>
 gdO v59 true (C 19 [v60] S60) S60 fun v61 S61 =>
 gdO v59 true (bEq v61 (.i .i64 0) S61) S61 fun v62 S62 =>
 bPick v59 v62 (.b false) S62 fun v63 S63 =>
 gdO v63 true (sMv [x11] S63) S63 fun v64 S64 =>
 gdO v63 true (sBuild [.i .i64 0, .i .i64 0, .i .i64 0] [(0, 1)] [(.i .i64 1)] S64) S64 fun v65 S65 =>
 gdO v63 true (C 8 [v64, v65] S65) S65 fun v66 S66 =>
 gdO v63 true (bLen v66 S66) S66 fun v67 S67 =>
 gdO v63 true (bEq v67 (.i .i64 0) S67) S67 fun v68 S68 =>
 bPick v63 v68 (.b false) S68 fun v69 S69 =>
 Y_4_15 C k v69 S69
def Y_4_13 (C : CS) (k : KS) (x1 x5 x6 x7 x8 x9 x10 : AV) (S : St) : Prop :=
 Y_4_14 C k x1 x5 x6 x7 x8 x9 x10 (.p none) S
def Y_4_12 (C : CS) (k : KS) (x1 x5 x6 x7 x8 x9 : AV) (S : St) : Prop :=
 C 16 [x1] S fun v1 S1 =>
 Y_4_13 C k x1 x5 x6 x7 x8 x9 v1 S1
def Y_4_11 (C : CS) (k : KS) (x1 x5 x6 x7 x8 : AV) (S : St) : Prop :=
 sBuild [.i .i64 0, .i .i64 0, .i .i64 0] [] [] S fun v1 S1 =>
 C 8 [x1, v1] S1 fun v2 S2 =>
 Y_4_12 C k x1 x5 x6 x7 x8 v2 S2
def Y_4_10 (C : CS) (k : KS) (x1 x5 x6 x7 : AV) (S : St) : Prop :=
 C 12 [x1, (.i .i64 1)] S fun v1 S1 =>
 Y_4_11 C k x1 x5 x6 x7 v1 S1
def Y_4_9 (C : CS) (k : KS) (x1 x5 x6 : AV) (S : St) : Prop :=
 C 12 [x1, (.i .i64 0)] S fun v1 S1 =>
 Y_4_10 C k x1 x5 x6 v1 S1
def Y_4_8 (C : CS) (k : KS) (x1 x5 x6 : AV) (S : St) : Prop :=
 C 12 [x1, (.i .i64 0)] S fun v1 S1 =>
 Y_4_9 C k x1 x5 x6 S1
def Y_4_7 (C : CS) (k : KS) (x1 x5 : AV) (S : St) : Prop :=
 C 12 [x1, (.i .i64 0)] S fun v1 S1 =>
 Y_4_8 C k x1 x5 v1 S1
def Y_4_6 (C : CS) (k : KS) (x1 : AV) (S : St) : Prop :=
 C 12 [x1, (.i .i64 0)] S fun v1 S1 =>
 Y_4_7 C k x1 v1 S1
def Y_4_5 (C : CS) (k : KS) (x1 : AV) (S : St) : Prop :=
 C 12 [x1, (.i .i64 0)] S fun v1 S1 =>
 Y_4_6 C k x1 S1
def Y_4_4 (C : CS) (k : KS) (x1 x2 x4 : AV) (S : St) : Prop :=
 bNe x2 (.i .i64 0) S fun v1 S1 =>
 gdO v1 false (sMv [x1] S1) S1 fun v2 S2 =>
 gdO v1 false (sR (.eq false .ptr) [v2, (.p none)] S2) S2 fun v3 S3 =>
 bPick v1 (.b true) v3 S3 fun v4 S4 =>
 gdO v4 false (sMv [x4] S4) S4 fun v5 S5 =>
 gdO v4 false (bNe v5 (.i .i64 1) S5) S5 fun v6 S6 =>
 bPick v4 (.b true) v6 S6 fun v7 S7 =>
 condX v7
 (k (.b false) S7)
 (Y_4_5 C k x1 S7)
def Y_4_3 (C : CS) (k : KS) (x1 x2 : AV) (S : St) : Prop :=
 C 15 [(.sl none 0 0 0)] S fun v1 S1 =>
 bExt 0 v1 S1 fun v2 S2 =>
 bExt 1 v1 S2 fun v3 S3 =>
 Y_4_4 C k x1 x2 v3 S3
def Y_4_2 (C : CS) (k : KS) (S : St) : Prop :=
 sBuild [.i .i64 0, .i .i64 0, .i .i64 0, .i .i64 0, .sl none 0 0 0, .b false] [(0, 1), (1, 1)] [(.i .i64 9), (.i .i64 0)] S fun v1 S1 =>
 sBuild [.i .i64 0, .i .i64 0, .i .i64 0, .i .i64 0, .sl none 0 0 0, .b false] [(0, 1), (1, 1), (2, 1)] [(.i .i64 8), (.i .i64 1), (.i .i64 1)] S1 fun v2 S2 =>
 sBuild [.i .i64 0, .i .i64 0, .i .i64 0, .i .i64 0, .sl none 0 0 0, .b false] [(0, 1), (1, 1), (2, 1), (3, 1)] [(.i .i64 11), (.i .i64 0), (.i .i64 2), (.i .i64 3)] S2 fun v3 S3 =>
 sBuild [.i .i64 0, .i .i64 0, .i .i64 0, .i .i64 0, .sl none 0 0 0, .b false] [(0, 1), (1, 1)] [(.i .i64 6), (.i .i64 2)] S3 fun v4 S4 =>
 sAl (.bslice [.i .i64 0, .i .i64 0, .i .i64 0, .i .i64 0, .sl none 0 0 0, .b false] 4 6 [0, 1, 2, 3]) [v1, v2, v3, v4] S4 fun v5 S5 =>
 sBuild [.i .i64 0, .i .i64 0, .i .i64 0, .i .i64 0, .sl none 0 0 0, .b false] [(0, 1), (1, 1), (2, 1)] [(.i .i64 1), (.i .i64 4), (.i .i64 7)] S5 fun v6 S6 =>
 sBuild [.i .i64 0, .i .i64 0, .i .i64 0, .i .i64 0, .sl none 0 0 0, .b false] [(0, 1), (1, 1), (2, 1)] [(.i .i64 10), (.i .i64 0), (.i .i64 4)] S6 fun v7 S7 =>
 sAl (.bslice [.i .i64 0, .i .i64 0, .i .i64 0, .i .i64 0, .sl none 0 0 0, .b false] 2 6 [0, 1]) [v6, v7] S7 fun v8 S8 =>
 sAl (.bslice [.sl none 0 0 0] 2 1 [0, 1]) [v5, v8] S8 fun v9 S9 =>
 C 15 [v9] S9 fun v10 S10 =>
 bExt 0 v10 S10 fun v11 S11 =>
 bExt 1 v10 S11 fun v12 S12 =>
 Y_4_3 C k v11 v12 S12
def Y_4_1 (C : CS) (k : KS) (S : St) : Prop :=
 Y_4_2 C k S
def Z_4 (C : CS) (vs : List AV) (S : St) (k : KS) : Prop := ar0 ((fun (C : CS) (k : KS) (S : St) => Y_4_1 C k S) C k) vs S
theorem z_4 : FnOk tbl 4 Z_4 := fn0 (c4 : tbl 4 = some (fnOf (tbl 4))) (Y := fun (C : CS) (k : KS) (S : St) => Y_4_1 C k S) fun C l t S k => xS (fun l t S => xS (fun l t S => xS (fun l t S => xS (fun l t S => xS (fun l t S => xS (fun l t S => xS (fun l t S => xS (fun l t S => xS (fun l t S => xS (fun l t S => xS (fun l t S => xS (fun l t S => xS (fun l t S => xS (fun l t S => xf (Y_4_15 C k (l 0) S)) (xf (Y_4_14 C k (l 1) (l 5) (l 6) (l 7) (l 8) (l 9) (l 10) (l 11) S))) (xf (Y_4_13 C k (l 1) (l 5) (l 6) (l 7) (l 8) (l 9) (l 10) S))) (xf (Y_4_12 C k (l 1) (l 5) (l 6) (l 7) (l 8) (l 9) S))) (xf (Y_4_11 C k (l 1) (l 5) (l 6) (l 7) (l 8) S))) (xf (Y_4_10 C k (l 1) (l 5) (l 6) (l 7) S))) (xf (Y_4_9 C k (l 1) (l 5) (l 6) S))) (xf (Y_4_8 C k (l 1) (l 5) (l 6) S))) (xf (Y_4_7 C k (l 1) (l 5) S))) (xf (Y_4_6 C k (l 1) S))) (xf (Y_4_5 C k (l 1) S))) (xf (Y_4_4 C k (l 1) (l 2) (l 4) S))) (xf (Y_4_3 C k (l 1) (l 2) S))) (xf (Y_4_2 C k S))) (xf (Y_4_1 C k S))
theorem c5 : tbl 5 = some (fnOf (tbl 5)) := by kernel_rfl
/-- tarpaulin/tarpaulinalike.Round -/
def Y_5_1 (C : CS) (k : KS) (x0 x1 : AV) (S : St) : Prop :=
 sR (.bin .rem) [x0, x1] S fun v1 S1 =>
 bAdd v1 x1 S1 fun v2 S2 =>
 sR (.bin .rem) [v2, x1] S2 fun v3 S3 =>
 k v3 S3
def Z_5 (C : CS) (vs : List AV) (S : St) (k : KS) : Prop := ar2 ((fun (C : CS) (k : KS) (a0 a1 : AV) (S : St) => Y_5_1 C k a0 a1 S) C k) vs S
theorem z_5 {F : Nat → Option AFn} (h : ∀ f, Nat.beq f 4 = false → F f = tbl f) : FnOk F 5 Z_5 := fn2 ((h 5 (by kernel_rfl)).trans c5) (Y := fun (C : CS) (k : KS) (a0 a1 : AV) (S : St) => Y_5_1 C k a0 a1 S) fun C l t S k => xf (Y_5_1 C k (l 0) (l 1) S)
theorem c6 : tbl 6 = some (fnOf (tbl 6)) := by kernel_rfl
/-- tarpaulin/tarpaulinlaw20.made -/
def Y_6_1 (C : CS) (k : KS) (x0 : AV) (S : St) : Prop :=
 C 15 [x0] S fun v1 S1 =>
 bExt 0 v1 S1 fun v2 S2 =>
 bExt 1 v1 S2 fun v3 S3 =>
 bEq v3 (.i .i64 0) S3 fun v4 S4 =>
 gdO v4 true (sMv [v2] S4) S4 fun v5 S5 =>
 gdO v4 true (sR (.eq true .ptr) [v5, (.p none)] S5) S5 fun v6 S6 =>
 bPick v4 v6 (.b false) S6 fun v7 S7 =>
 k (.tup [v2, v7]) S7
def Z_6 (C : CS) (vs : List AV) (S : St) (k : KS) : Prop := ar1 ((fun (C : CS) (k : KS) (a0 : AV) (S : St) => Y_6_1 C k a0 S) C k) vs S
theorem z_6 {F : Nat → Option AFn} (h : ∀ f, Nat.beq f 4 = false → F f = tbl f) : FnOk F 6 Z_6 := fn1 ((h 6 (by kernel_rfl)).trans c6) (Y := fun (C : CS) (k : KS) (a0 : AV) (S : St) => Y_6_1 C k a0 S) fun C l t S k => xf (Y_6_1 C k (l 0) S)
theorem c7 : tbl 7 = some (fnOf (tbl 7)) := by kernel_rfl
/-- tarpaulin/tarpaulinlaw20.all -/
def Y_7_4 (C : CS) (k : KS) (x5 : AV) (S : St) : Prop :=
 k x5 S
def Y_7_8 (C : CS) (k : KS) (k1 : AV → AV → AV → AV → St → Prop) (x0 x1 x5 x6 : AV) (S : St) : Prop :=
 bLt x6 x1 S fun v1 S1 =>
 condX v1
 (C 12 [x0, (.i .i64 0)] S1 fun v2 S2 =>
 bApp 6 48 x5 v2 S2 fun v3 S3 =>
 bAdd x6 (.i .i64 1) S3 fun v4 S4 =>
 k1 x0 x1 v3 v4 S4)
 (Y_7_4 C k x5 S1)
def Y_7_5 (C : CS) (k : KS) (x0 x1 x5 : AV) (S : St) : Prop :=
 lp4 (Y_7_8 C k) x0 x1 x5 (.i .i64 0) S
def Y_7_2 (C : CS) (k : KS) (x0 x1 : AV) (S : St) : Prop :=
 Y_7_5 C k x0 x1 (.sl none 0 0 0) S
def Y_7_1 (C : CS) (k : KS) (x0 x1 : AV) (S : St) : Prop :=
 Y_7_2 C k x0 x1 S
def Z_7 (C : CS) (vs : List AV) (S : St) (k : KS) : Prop := ar2 ((fun (C : CS) (k : KS) (a0 a1 : AV) (S : St) => Y_7_1 C k a0 a1 S) C k) vs S
theorem z_7 {F : Nat → Option AFn} (h : ∀ f, Nat.beq f 4 = false → F f = tbl f) : FnOk F 7 Z_7 := fn2 ((h 7 (by kernel_rfl)).trans c7) (Y := fun (C : CS) (k : KS) (a0 a1 : AV) (S : St) => Y_7_1 C k a0 a1 S) fun C l t S k => xS (fun l t S => xS (fun l t S => xS (fun l t S => xf (Y_7_4 C k (l 5) S)) (xS (fun l t S => xB (xL4 0 1 5 6 (Y_7_8 C k) (fun l t S k1 => xf (Y_7_8 C k k1 (l 0) (l 1) (l 5) (l 6) S)) (xf (lp4 (Y_7_8 C k) (l 0) (l 1) (l 5) (l 6) S)))) (xf (Y_7_5 C k (l 0) (l 1) (l 5) S)))) (xf (Y_7_2 C k (l 0) (l 1) S))) (xf (Y_7_1 C k (l 0) (l 1) S))
theorem c8 : tbl 8 = some (fnOf (tbl 8)) := by kernel_rfl
/-- (*tarpaulin/world.World).Step -/
def Y_8_5 (C : CS) (k : KS) (x0 : AV) (S : St) : Prop :=
 bNil x0 S fun v1 S1 =>
 bFad 9 v1 S1 fun v2 S2 =>
 bLd v2 S2 fun v3 S3 =>
 bAdd v3 (.i .i64 1) S3 fun v4 S4 =>
 bNil x0 S4 fun v5 S5 =>
 bFad 9 v5 S5 fun v6 S6 =>
 bSt 1 v6 v4 S6 fun _ S7 =>
 bNil x0 S7 fun v8 S8 =>
 bFad 10 v8 S8 fun v9 S9 =>
 bLd v9 S9 fun v10 S10 =>
 C 24 [v10] S10 fun v11 S11 =>
 k v11 S11
def Y_8_4 (C : CS) (k : KS) (x0 x3 : AV) (S : St) : Prop :=
 bLdN 3 x3 S fun v1 S1 =>
 C 20 [v1] S1 fun v2 S2 =>
 bNe v2 (.i .i64 0) S2 fun v3 S3 =>
 condX v3
 (C 21 [x0, (.i .i64 8), (.i .i64 0), (.i .i64 0), (.i .i64 0), (.i .i64 0)] S3 fun v4 S4 =>
 Y_8_5 C k x0 S4)
 (bFad 0 x3 S3 fun v5 S5 =>
 bLd v5 S5 fun v6 S6 =>
 bEq v6 (.i .i64 2) S6 fun v7 S7 =>
 condX v7
 (bFad 1 x3 S7 fun v8 S8 =>
 bLd v8 S8 fun v9 S9 =>
 C 22 [x0, v9] S9 fun v10 S10 =>
 Y_8_5 C k x0 S10)
 (bFad 1 x3 S7 fun v11 S11 =>
 bLd v11 S11 fun v12 S12 =>
 bFad 2 x3 S12 fun v13 S13 =>
 bLd v13 S13 fun v14 S14 =>
 C 23 [x0, v12, v14] S14 fun v15 S15 =>
 Y_8_5 C k x0 S15))
def Y_8_3 (C : CS) (k : KS) (x0 x3 : AV) (S : St) : Prop :=
 bNil x0 S fun v1 S1 =>
 bFad 10 v1 S1 fun v2 S2 =>
 bSt 1 v2 (.sl none 0 0 0) S2 fun _ S3 =>
 Y_8_4 C k x0 x3 S3
def Y_8_2 (C : CS) (k : KS) (x0 x3 : AV) (S : St) : Prop :=
 sR (.eq false .ptr) [x0, (.p none)] S fun v1 S1 =>
 condX v1
 (k (.sl none 0 0 0) S1)
 (Y_8_3 C k x0 x3 S1)
def Y_8_1 (C : CS) (k : KS) (x0 x1 : AV) (S : St) : Prop :=
 bBox x1 S fun v1 S1 =>
 Y_8_2 C k x0 v1 S1
def Z_8 (C : CS) (vs : List AV) (S : St) (k : KS) : Prop := ar2 ((fun (C : CS) (k : KS) (a0 a1 : AV) (S : St) => Y_8_1 C k a0 a1 S) C k) vs S
theorem z_8 {F : Nat → Option AFn} (h : ∀ f, Nat.beq f 4 = false → F f = tbl f) : FnOk F 8 Z_8 := fn2 ((h 8 (by kernel_rfl)).trans c8) (Y := fun (C : CS) (k : KS) (a0 a1 : AV) (S : St) => Y_8_1 C k a0 a1 S) fun C l t S k => xS (fun l t S => xS (fun l t S => xS (fun l t S => xS (fun l t S => xf (Y_8_5 C k (l 0) S)) (xf (Y_8_4 C k (l 0) (l 3) S))) (xf (Y_8_3 C k (l 0) (l 3) S))) (xf (Y_8_2 C k (l 0) (l 3) S))) (xf (Y_8_1 C k (l 0) (l 1) S))
theorem c9 : tbl 9 = some (fnOf (tbl 9)) := by kernel_rfl
/-- (*tarpaulin/world.World).Task -/
def Y_9_1 (C : CS) (k : KS) (x0 x1 : AV) (S : St) : Prop :=
 bAlloc [.i .i64 0, .i .i64 0, .i .i64 0, .i .i64 0, .i .i64 0, .i .i64 0, .i .i64 0, .i .i64 0, .i .i64 0, .i .i64 0, .i .i64 0, .i .i64 0, .i .i64 0, .i .i64 0, .i .i64 0, .i .i64 0, .sl none 0 0 0, .b false] S fun v1 S1 =>
 sR (.eq false .ptr) [x0, (.p none)] S1 fun v2 S2 =>
 condX v2
 (sBuild [.i .i64 0, .i .i64 0, .i .i64 0, .i .i64 0, .i .i64 0, .i .i64 0, .i .i64 0, .i .i64 0, .i .i64 0, .i .i64 0, .i .i64 0, .i .i64 0, .i .i64 0, .i .i64 0, .i .i64 0, .i .i64 0, .sl none 0 0 0, .b false] [] [] S2 fun v3 S3 =>
 bSt 18 v1 v3 S3 fun _ S4 =>
 finV (resVX Env.nil Env.nil S4.h [.cell (.c v1) (some 18), .tmp (.c (.b false))]) S4 k)
 (bNil x0 S2 fun v5 S5 =>
 bFad 2 v5 S5 fun v6 S6 =>
 bLd v6 S6 fun v7 S7 =>
 C 25 [v7, x1] S7 fun v8 S8 =>
 bExt 0 v8 S8 fun v9 S9 =>
 bExt 1 v8 S9 fun v10 S10 =>
 bSt 18 v1 v9 S10 fun _ S11 =>
 finV (resVX Env.nil Env.nil S11.h [.cell (.c v1) (some 18), .tmp (.c v10)]) S11 k)
def Z_9 (C : CS) (vs : List AV) (S : St) (k : KS) : Prop := ar2 ((fun (C : CS) (k : KS) (a0 a1 : AV) (S : St) => Y_9_1 C k a0 a1 S) C k) vs S
theorem z_9 {F : Nat → Option AFn} (h : ∀ f, Nat.beq f 4 = false → F f = tbl f) : FnOk F 9 Z_9 := fn2 ((h 9 (by kernel_rfl)).trans c9) (Y := fun (C : CS) (k : KS) (a0 a1 : AV) (S : St) => Y_9_1 C k a0 a1 S) fun C l t S k => xf (Y_9_1 C k (l 0) (l 1) S)
theorem c10 : tbl 10 = some (fnOf (tbl 10)) := by kernel_rfl
/-- (*tarpaulin/world.World).Chan -/
def Y_10_1 (C : CS) (k : KS) (x0 x1 : AV) (S : St) : Prop :=
 sR (.eq false .ptr) [x0, (.p none)] S fun v1 S1 =>
 condX v1
 (k (.p none) S1)
 (C 26 [x0, x1] S1 fun v2 S2 =>
 bExt 0 v2 S2 fun v3 S3 =>
 bExt 1 v2 S3 fun v4 S4 =>
 k v3 S4)
def Z_10 (C : CS) (vs : List AV) (S : St) (k : KS) : Prop := ar2 ((fun (C : CS) (k : KS) (a0 a1 : AV) (S : St) => Y_10_1 C k a0 a1 S) C k) vs S
theorem z_10 {F : Nat → Option AFn} (h : ∀ f, Nat.beq f 4 = false → F f = tbl f) : FnOk F 10 Z_10 := fn2 ((h 10 (by kernel_rfl)).trans c10) (Y := fun (C : CS) (k : KS) (a0 a1 : AV) (S : St) => Y_10_1 C k a0 a1 S) fun C l t S k => xf (Y_10_1 C k (l 0) (l 1) S)
theorem c11 : tbl 11 = some (fnOf (tbl 11)) := by kernel_rfl
/-- (*tarpaulin/chanq.Chan).Waiting -/
def Y_11_1 (C : CS) (k : KS) (x0 x1 : AV) (S : St) : Prop :=
 C 27 [x0, x1] S fun v1 S1 =>
 C 28 [v1] S1 fun v2 S2 =>
 k v2 S2
def Z_11 (C : CS) (vs : List AV) (S : St) (k : KS) : Prop := ar2 ((fun (C : CS) (k : KS) (a0 a1 : AV) (S : St) => Y_11_1 C k a0 a1 S) C k) vs S
theorem z_11 {F : Nat → Option AFn} (h : ∀ f, Nat.beq f 4 = false → F f = tbl f) : FnOk F 11 Z_11 := fn2 ((h 11 (by kernel_rfl)).trans c11) (Y := fun (C : CS) (k : KS) (a0 a1 : AV) (S : St) => Y_11_1 C k a0 a1 S) fun C l t S k => xf (Y_11_1 C k (l 0) (l 1) S)
theorem c12 : tbl 12 = some (fnOf (tbl 12)) := by kernel_rfl
/-- tarpaulin/tarpaulinlaw20.run -/
def Y_12_1 (C : CS) (k : KS) (x0 x1 : AV) (S : St) : Prop :=
 sBuild [.i .i64 0, .i .i64 0, .i .i64 0] [(0, 1), (1, 1)] [(.i .i64 1), x1] S fun v1 S1 =>
 C 8 [x0, v1] S1 fun v2 S2 =>
 k v2 S2
def Z_12 (C : CS) (vs : List AV) (S : St) (k : KS) : Prop := ar2 ((fun (C : CS) (k : KS) (a0 a1 : AV) (S : St) => Y_12_1 C k a0 a1 S) C k) vs S
theorem z_12 {F : Nat → Option AFn} (h : ∀ f, Nat.beq f 4 = false → F f = tbl f) : FnOk F 12 Z_12 := fn2 ((h 12 (by kernel_rfl)).trans c12) (Y := fun (C : CS) (k : KS) (a0 a1 : AV) (S : St) => Y_12_1 C k a0 a1 S) fun C l t S k => xf (Y_12_1 C k (l 0) (l 1) S)
theorem c13 : tbl 13 = some (fnOf (tbl 13)) := by kernel_rfl
/-- (*tarpaulin/chanq.Chan).Len -/
def Y_13_1 (C : CS) (k : KS) (x0 : AV) (S : St) : Prop :=
 sR (.eq false .ptr) [x0, (.p none)] S fun v1 S1 =>
 gdO v1 false (sMv [x0] S1) S1 fun v2 S2 =>
 gdO v1 false (bNil v2 S2) S2 fun v3 S3 =>
 gdO v1 false (bFad 3 v3 S3) S3 fun v4 S4 =>
 gdO v1 false (bLd v4 S4) S4 fun v5 S5 =>
 bPick v1 (.b true) v5 S5 fun v6 S6 =>
 condX v6
 (k (.i .i64 0) S6)
 (bNil x0 S6 fun v7 S7 =>
 bFad 0 v7 S7 fun v8 S8 =>
 bLd v8 S8 fun v9 S9 =>
 C 29 [v9] S9 fun v10 S10 =>
 k v10 S10)
def Z_13 (C : CS) (vs : List AV) (S : St) (k : KS) : Prop := ar1 ((fun (C : CS) (k : KS) (a0 : AV) (S : St) => Y_13_1 C k a0 S) C k) vs S
theorem z_13 {F : Nat → Option AFn} (h : ∀ f, Nat.beq f 4 = false → F f = tbl f) : FnOk F 13 Z_13 := fn1 ((h 13 (by kernel_rfl)).trans c13) (Y := fun (C : CS) (k : KS) (a0 : AV) (S : St) => Y_13_1 C k a0 S) fun C l t S k => xf (Y_13_1 C k (l 0) S)
theorem c14 : tbl 14 = some (fnOf (tbl 14)) := by kernel_rfl
/-- tarpaulin/tarpaulinalike.Events -/
def Y_14_4 (C : CS) (k : KS) (S : St) : Prop :=
 k (.b true) S
def Y_14_8 (C : CS) (k : KS) (k1 : AV → AV → AV → St → Prop) (x0 x1 x5 : AV) (S : St) : Prop :=
 bLen x0 S fun v1 S1 =>
 bLt x5 v1 S1 fun v2 S2 =>
 condX v2
 (bIad 6 x0 x5 S2 fun v3 S3 =>
 bLdN 6 v3 S3 fun v4 S4 =>
 bIad 6 x1 x5 S4 fun v5 S5 =>
 bLdN 6 v5 S5 fun v6 S6 =>
 sR (.eq true (.agg [(0, 1), (1, 1), (2, 1), (3, 1), (4, 1), (5, 1)])) [v4, v6] S6 fun v7 S7 =>
 condX v7
 (k (.b false) S7)
 (bAdd x5 (.i .i64 1) S7 fun v8 S8 =>
 k1 x0 x1 v8 S8))
 (Y_14_4 C k S2)
def Y_14_5 (C : CS) (k : KS) (x0 x1 : AV) (S : St) : Prop :=
 lp3 (Y_14_8 C k) x0 x1 (.i .i64 0) S
def Y_14_2 (C : CS) (k : KS) (x0 x1 : AV) (S : St) : Prop :=
 bLen x0 S fun v1 S1 =>
 bLen x1 S1 fun v2 S2 =>
 bNe v1 v2 S2 fun v3 S3 =>
 condX v3
 (k (.b false) S3)
 (Y_14_5 C k x0 x1 S3)
def Y_14_1 (C : CS) (k : KS) (x0 x1 : AV) (S : St) : Prop :=
 Y_14_2 C k x0 x1 S
def Z_14 (C : CS) (vs : List AV) (S : St) (k : KS) : Prop := ar2 ((fun (C : CS) (k : KS) (a0 a1 : AV) (S : St) => Y_14_1 C k a0 a1 S) C k) vs S
theorem z_14 {F : Nat → Option AFn} (h : ∀ f, Nat.beq f 4 = false → F f = tbl f) : FnOk F 14 Z_14 := fn2 ((h 14 (by kernel_rfl)).trans c14) (Y := fun (C : CS) (k : KS) (a0 a1 : AV) (S : St) => Y_14_1 C k a0 a1 S) fun C l t S k => xS (fun l t S => xS (fun l t S => xS (fun l t S => xf (Y_14_4 C k S)) (xS (fun l t S => xB (xL3 0 1 5 (Y_14_8 C k) (fun l t S k1 => xf (Y_14_8 C k k1 (l 0) (l 1) (l 5) S)) (xf (lp3 (Y_14_8 C k) (l 0) (l 1) (l 5) S)))) (xf (Y_14_5 C k (l 0) (l 1) S)))) (xf (Y_14_2 C k (l 0) (l 1) S))) (xf (Y_14_1 C k (l 0) (l 1) S))
theorem c15 : tbl 15 = some (fnOf (tbl 15)) := by kernel_rfl
/-- tarpaulin/world.New -/
def Y_15_6 (C : CS) (k : KS) (x5 : AV) (S : St) : Prop :=
 bNil x5 S fun v1 S1 =>
 bFad 2 v1 S1 fun v2 S2 =>
 bLd v2 S2 fun v3 S3 =>
 sBuild [.i .i64 0, .i .i64 0, .i .i64 0, .i .i64 0, .i .i64 0, .i .i64 0, .i .i64 0, .i .i64 0] [] [] S3 fun v4 S4 =>
 C 37 [v3, (.i .i64 0), v4] S4 fun v5 S5 =>
 k (.tup [x5, (.i .i64 0)]) S5
def Y_15_10 (C : CS) (k : KS) (k1 : AV → AV → AV → AV → St → Prop) (x5 x27 x28 x29 : AV) (S : St) : Prop :=
 bLt x29 x28 S fun v1 S1 =>
 condX v1
 (bIad 1 x27 x29 S1 fun v2 S2 =>
 bLd v2 S2 fun v3 S3 =>
 bNil x5 S3 fun v4 S4 =>
 bFad 0 v4 S4 fun v5 S5 =>
 bLd v5 S5 fun v6 S6 =>
 C 36 [v3] S6 fun v7 S7 =>
 sAl (.bslice [.sl none 0 0 0] 1 1 [0]) [v7] S7 fun v8 S8 =>
 bApp 1 24 v6 v8 S8 fun v9 S9 =>
 bNil x5 S9 fun v10 S10 =>
 bFad 0 v10 S10 fun v11 S11 =>
 bSt 1 v11 v9 S11 fun _ S12 =>
 bif (bif (againX (.ld none) [v5] S5 S7) then true else false) then (bAdd x29 (.i .i64 1) S12 fun v13 S13 =>
 k1 x5 x27 x28 v13 S13) else False)
 (Y_15_6 C k x5 S1)
def Y_15_7 (C : CS) (k : KS) (x0 x5 : AV) (S : St) : Prop :=
 bLen x0 S fun v1 S1 =>
 lp4 (Y_15_10 C k) x5 x0 v1 (.i .i64 0) S1
def Y_15_4 (C : CS) (k : KS) (x0 x5 : AV) (S : St) : Prop :=
 bNil x5 S fun v1 S1 =>
 bFad 5 v1 S1 fun v2 S2 =>
 bLd v2 S2 fun v3 S3 =>
 C 35 [v3] S3 fun v4 S4 =>
 bNil x5 S4 fun v5 S5 =>
 bFad 6 v5 S5 fun v6 S6 =>
 bSt 1 v6 v4 S6 fun _ S7 =>
 Y_15_7 C k x0 x5 S7
def Y_15_3 (C : CS) (k : KS) (x0 : AV) (S : St) : Prop :=
 C 31 [] S fun v1 S1 =>
 C 32 [] S1 fun v2 S2 =>
 C 33 [] S2 fun v3 S3 =>
 C 34 [] S3 fun v4 S4 =>
 sBuild [.sl none 0 0 0, .p none, .p none, .sl none 0 0 0, .i .i64 0, .p none, .p none, .p none, .sl none 0 0 0, .i .i64 0, .sl none 0 0 0] [(1, 1), (2, 1), (5, 1), (7, 1)] [v1, v2, v3, v4] S4 fun v5 S5 =>
 bBox v5 S5 fun v6 S6 =>
 Y_15_4 C k x0 v6 S6
def Y_15_2 (C : CS) (k : KS) (x0 : AV) (S : St) : Prop :=
 C 30 [x0] S fun v1 S1 =>
 bNe v1 (.i .i64 0) S1 fun v2 S2 =>
 condX v2
 (k (.tup [(.p none), v1]) S2)
 (Y_15_3 C k x0 S2)
def Y_15_1 (C : CS) (k : KS) (x0 : AV) (S : St) : Prop :=
 Y_15_2 C k x0 S
def Z_15 (C : CS) (vs : List AV) (S : St) (k : KS) : Prop := ar1 ((fun (C : CS) (k : KS) (a0 : AV) (S : St) => Y_15_1 C k a0 S) C k) vs S
theorem z_15 {F : Nat → Option AFn} (h : ∀ f, Nat.beq f 4 = false → F f = tbl f) : FnOk F 15 Z_15 := fn1 ((h 15 (by kernel_rfl)).trans c15) (Y := fun (C : CS) (k : KS) (a0 : AV) (S : St) => Y_15_1 C k a0 S) fun C l t S k => xS (fun l t S => xS (fun l t S => xS (fun l t S => xS (fun l t S => xS (fun l t S => xf (Y_15_6 C k (l 5) S)) (xS (fun l t S => xB (xL4 5 27 28 29 (Y_15_10 C k) (fun l t S k1 => xf (Y_15_10 C k k1 (l 5) (l 27) (l 28) (l 29) S)) (xf (lp4 (Y_15_10 C k) (l 5) (l 27) (l 28) (l 29) S)))) (xf (Y_15_7 C k (l 0) (l 5) S)))) (xf (Y_15_4 C k (l 0) (l 5) S))) (xf (Y_15_3 C k (l 0) S))) (xf (Y_15_2 C k (l 0) S))) (xf (Y_15_1 C k (l 0) S))
theorem c16 : tbl 16 = some (fnOf (tbl 16)) := by kernel_rfl
/-- (*tarpaulin/world.World).Deals -/
def Y_16_1 (C : CS) (k : KS) (x0 : AV) (S : St) : Prop :=
 sR (.eq false .ptr) [x0, (.p none)] S fun v1 S1 =>
 condX v1
 (k (.sl none 0 0 0) S1)
 (bNil x0 S1 fun v2 S2 =>
 bFad 7 v2 S2 fun v3 S3 =>
 bLd v3 S3 fun v4 S4 =>
 C 38 [v4] S4 fun v5 S5 =>
 k v5 S5)
def Z_16 (C : CS) (vs : List AV) (S : St) (k : KS) : Prop := ar1 ((fun (C : CS) (k : KS) (a0 : AV) (S : St) => Y_16_1 C k a0 S) C k) vs S
theorem z_16 {F : Nat → Option AFn} (h : ∀ f, Nat.beq f 4 = false → F f = tbl f) : FnOk F 16 Z_16 := fn1 ((h 16 (by kernel_rfl)).trans c16) (Y := fun (C : CS) (k : KS) (a0 : AV) (S : St) => Y_16_1 C k a0 S) fun C l t S k => xf (Y_16_1 C k (l 0) S)
theorem c17 : tbl 17 = some (fnOf (tbl 17)) := by kernel_rfl
/-- (*tarpaulin/world.World).Looks -/
def Y_17_4 (C : CS) (k : KS) (x2 : AV) (S : St) : Prop :=
 k x2 S
def Y_17_8 (C : CS) (k : KS) (k1 : AV → AV → AV → AV → St → Prop) (x2 x10 x11 x12 : AV) (S : St) : Prop :=
 bLt x12 x11 S fun v1 S1 =>
 condX v1
 (bIad 2 x10 x12 S1 fun v2 S2 =>
 bLdN 2 v2 S2 fun v3 S3 =>
 bAlloc [.sl none 0 0 0, .i .i64 0] S3 fun v4 S4 =>
 bSt 2 v4 v3 S4 fun _ S5 =>
 bFad 0 v4 S5 fun v6 S6 =>
 bLd v6 S6 fun v7 S7 =>
 C 39 [v7] S7 fun v8 S8 =>
 bFad 1 v4 S8 fun v9 S9 =>
 bLd v9 S9 fun v10 S10 =>
 sBuild [.sl none 0 0 0, .i .i64 0] [(0, 1), (1, 1)] [v8, v10] S10 fun v11 S11 =>
 sAl (.bslice [.sl none 0 0 0, .i .i64 0] 1 2 [0]) [v11] S11 fun v12 S12 =>
 bApp 2 32 x2 v12 S12 fun v13 S13 =>
 bif (bif (againX (.ld none) [v9] S9 S5) then true else false) then (bAdd x12 (.i .i64 1) S13 fun v14 S14 =>
 k1 v13 x10 x11 v14 S14) else False)
 (Y_17_4 C k x2 S1)
def Y_17_5 (C : CS) (k : KS) (x0 x2 : AV) (S : St) : Prop :=
 bNil x0 S fun v1 S1 =>
 bFad 8 v1 S1 fun v2 S2 =>
 bLd v2 S2 fun v3 S3 =>
 bLen v3 S3 fun v4 S4 =>
 lp4 (Y_17_8 C k) x2 v3 v4 (.i .i64 0) S4
def Y_17_2 (C : CS) (k : KS) (x0 x2 : AV) (S : St) : Prop :=
 sR (.eq false .ptr) [x0, (.p none)] S fun v1 S1 =>
 condX v1
 (k (.sl none 0 0 0) S1)
 (Y_17_5 C k x0 x2 S1)
def Y_17_1 (C : CS) (k : KS) (x0 : AV) (S : St) : Prop :=
 Y_17_2 C k x0 (.sl none 0 0 0) S
def Z_17 (C : CS) (vs : List AV) (S : St) (k : KS) : Prop := ar1 ((fun (C : CS) (k : KS) (a0 : AV) (S : St) => Y_17_1 C k a0 S) C k) vs S
theorem z_17 {F : Nat → Option AFn} (h : ∀ f, Nat.beq f 4 = false → F f = tbl f) : FnOk F 17 Z_17 := fn1 ((h 17 (by kernel_rfl)).trans c17) (Y := fun (C : CS) (k : KS) (a0 : AV) (S : St) => Y_17_1 C k a0 S) fun C l t S k => xS (fun l t S => xS (fun l t S => xS (fun l t S => xf (Y_17_4 C k (l 2) S)) (xS (fun l t S => xB (xL4 2 10 11 12 (Y_17_8 C k) (fun l t S k1 => xf (Y_17_8 C k k1 (l 2) (l 10) (l 11) (l 12) S)) (xf (lp4 (Y_17_8 C k) (l 2) (l 10) (l 11) (l 12) S)))) (xf (Y_17_5 C k (l 0) (l 2) S)))) (xf (Y_17_2 C k (l 0) (l 2) S))) (xf (Y_17_1 C k (l 0) S))
theorem c18 : tbl 18 = some (fnOf (tbl 18)) := by kernel_rfl
/-- (*tarpaulin/world.World).Contexts -/
def Y_18_1 (C : CS) (k : KS) (x0 : AV) (S : St) : Prop :=
 sR (.eq false .ptr) [x0, (.p none)] S fun v1 S1 =>
 condX v1
 (k (.p none) S1)
 (bNil x0 S1 fun v2 S2 =>
 bFad 6 v2 S2 fun v3 S3 =>
 bLd v3 S3 fun v4 S4 =>
 k v4 S4)
def Z_18 (C : CS) (vs : List AV) (S : St) (k : KS) : Prop := ar1 ((fun (C : CS) (k : KS) (a0 : AV) (S : St) => Y_18_1 C k a0 S) C k) vs S
theorem z_18 {F : Nat → Option AFn} (h : ∀ f, Nat.beq f 4 = false → F f = tbl f) : FnOk F 18 Z_18 := fn1 ((h 18 (by kernel_rfl)).trans c18) (Y := fun (C : CS) (k : KS) (a0 : AV) (S : St) => Y_18_1 C k a0 S) fun C l t S k => xf (Y_18_1 C k (l 0) S)
theorem c19 : tbl 19 = some (fnOf (tbl 19)) := by kernel_rfl
/-- (*tarpaulin/world.World).Now -/
def Y_19_1 (C : CS) (k : KS) (x0 : AV) (S : St) : Prop :=
 sR (.eq false .ptr) [x0, (.p none)] S fun v1 S1 =>
 condX v1
 (k (.i .i64 0) S1)
 (bNil x0 S1 fun v2 S2 =>
 bFad 1 v2 S2 fun v3 S3 =>
 bLd v3 S3 fun v4 S4 =>
 C 40 [v4] S4 fun v5 S5 =>
 k v5 S5)
def Z_19 (C : CS) (vs : List AV) (S : St) (k : KS) : Prop := ar1 ((fun (C : CS) (k : KS) (a0 : AV) (S : St) => Y_19_1 C k a0 S) C k) vs S
theorem z_19 {F : Nat → Option AFn} (h : ∀ f, Nat.beq f 4 = false → F f = tbl f) : FnOk F 19 Z_19 := fn1 ((h 19 (by kernel_rfl)).trans c19) (Y := fun (C : CS) (k : KS) (a0 : AV) (S : St) => Y_19_1 C k a0 S) fun C l t S k => xf (Y_19_1 C k (l 0) S)
theorem c20 : tbl 20 = some (fnOf (tbl 20)) := by kernel_rfl
/-- tarpaulin/script.Check -/
def Y_20_1 (C : CS) (k : KS) (x0 : AV) (S : St) : Prop :=
 bBox x0 S fun v1 S1 =>
 bFad 0 v1 S1 fun v2 S2 =>
 bLd v2 S2 fun v3 S3 =>
 bEq v3 (.i .i64 1) S3 fun v4 S4 =>
 gdO v4 false (bFad 0 v1 S4) S4 fun v5 S5 =>
 gdO v4 false (bLd v5 S5) S5 fun v6 S6 =>
 gdO v4 false (bEq v6 (.i .i64 2) S6) S6 fun v7 S7 =>
 gdO v4 false (sMv [v7] S7) S7 fun v8 S8 =>
 gdO v8 true (bFad 1 v1 S8) S8 fun v9 S9 =>
 gdO v8 true (bLd v9 S9) S9 fun v10 S10 =>
 gdO v8 true (bGe v10 (.i .i64 0) S10) S10 fun v11 S11 =>
 gdO v4 false (bPick v8 v11 (.b false) S11) S11 fun v12 S12 =>
 gdO v4 false (sMv [v12] S12) S12 fun v13 S13 =>
 gdO v13 true (bFad 2 v1 S13) S13 fun v14 S14 =>
 gdO v13 true (bLd v14 S14) S14 fun v15 S15 =>
 gdO v13 true (bEq v15 (.i .i64 0) S15) S15 fun v16 S16 =>
 gdO v4 false (bPick v13 v16 (.b false) S16) S16 fun v17 S17 =>
 bPick v4 (.b true) v17 S17 fun v18 S18 =>
 condX v18
 (k (.i .i64 0) S18)
 (k (.i .i64 1) S18)
def Z_20 (C : CS) (vs : List AV) (S : St) (k : KS) : Prop := ar1 ((fun (C : CS) (k : KS) (a0 : AV) (S : St) => Y_20_1 C k a0 S) C k) vs S
theorem z_20 {F : Nat → Option AFn} (h : ∀ f, Nat.beq f 4 = false → F f = tbl f) : FnOk F 20 Z_20 := fn1 ((h 20 (by kernel_rfl)).trans c20) (Y := fun (C : CS) (k : KS) (a0 : AV) (S : St) => Y_20_1 C k a0 S) fun C l t S k => xf (Y_20_1 C k (l 0) S)
theorem c21 : tbl 21 = some (fnOf (tbl 21)) := by kernel_rfl
/-- (*tarpaulin/world.World).tell -/
def Y_21_1 (C : CS) (k : KS) (x0 x1 x2 x3 x4 x5 : AV) (S : St) : Prop :=
 bNil x0 S fun v1 S1 =>
 bFad 10 v1 S1 fun v2 S2 =>
 bLd v2 S2 fun v3 S3 =>
 bNil x0 S3 fun v4 S4 =>
 bFad 9 v4 S4 fun v5 S5 =>
 bLd v5 S5 fun v6 S6 =>
 sBuild [.i .i64 0, .i .i64 0, .i .i64 0, .i .i64 0, .i .i64 0, .i .i64 0] [(0, 1), (1, 1), (2, 1), (3, 1), (4, 1), (5, 1)] [v6, x1, x2, x3, x4, x5] S6 fun v7 S7 =>
 sAl (.bslice [.i .i64 0, .i .i64 0, .i .i64 0, .i .i64 0, .i .i64 0, .i .i64 0] 1 6 [0]) [v7] S7 fun v8 S8 =>
 bApp 6 48 v3 v8 S8 fun v9 S9 =>
 bNil x0 S9 fun v10 S10 =>
 bFad 10 v10 S10 fun v11 S11 =>
 bSt 1 v11 v9 S11 fun _ S12 =>
 k (.tup []) S12
def Z_21 (C : CS) (vs : List AV) (S : St) (k : KS) : Prop := ar6 ((fun (C : CS) (k : KS) (a0 a1 a2 a3 a4 a5 : AV) (S : St) => Y_21_1 C k a0 a1 a2 a3 a4 a5 S) C k) vs S
theorem z_21 {F : Nat → Option AFn} (h : ∀ f, Nat.beq f 4 = false → F f = tbl f) : FnOk F 21 Z_21 := fn6 ((h 21 (by kernel_rfl)).trans c21) (Y := fun (C : CS) (k : KS) (a0 a1 a2 a3 a4 a5 : AV) (S : St) => Y_21_1 C k a0 a1 a2 a3 a4 a5 S) fun C l t S k => xf (Y_21_1 C k (l 0) (l 1) (l 2) (l 3) (l 4) (l 5) S)
theorem c22 : tbl 22 = some (fnOf (tbl 22)) := by kernel_rfl
/-- (*tarpaulin/world.World).advance -/
def Y_22_5 (C : CS) (k : KS) (k1 : AV → AV → AV → St → Prop) (x0 x4 x5 : AV) (S : St) : Prop :=
 condX x5
 (bLdN 7 x4 S fun v1 S1 =>
 C 43 [x0, v1] S1 fun v2 S2 =>
 bLdN 7 x4 S2 fun v3 S3 =>
 bAlloc [.i .i64 0, .i .i64 0, .i .i64 0, .i .i64 0, .i .i64 0, .sl none 0 0 0, .b false] S3 fun v4 S4 =>
 bSt 7 v4 v3 S4 fun _ S5 =>
 bNil x0 S5 fun v6 S6 =>
 bFad 5 v6 S6 fun v7 S7 =>
 bLd v7 S7 fun v8 S8 =>
 C 19 [x0] S8 fun v9 S9 =>
 C 42 [v8, v9] S9 fun v10 S10 =>
 bExt 0 v10 S10 fun v11 S11 =>
 bExt 1 v10 S11 fun v12 S12 =>
 bSt 7 v4 v11 S12 fun _ S13 =>
 bif (bif (againX (.ld none) [v7] S7 S9) then true else false) then (k1 x0 v4 v12 S13) else False)
 (k (.tup []) S)
def Y_22_2 (C : CS) (k : KS) (x0 : AV) (S : St) : Prop :=
 bNil x0 S fun v1 S1 =>
 bFad 5 v1 S1 fun v2 S2 =>
 bLd v2 S2 fun v3 S3 =>
 C 19 [x0] S3 fun v4 S4 =>
 C 42 [v3, v4] S4 fun v5 S5 =>
 bExt 0 v5 S5 fun v6 S6 =>
 bExt 1 v5 S6 fun v7 S7 =>
 bAlloc [.i .i64 0, .i .i64 0, .i .i64 0, .i .i64 0, .i .i64 0, .sl none 0 0 0, .b false] S7 fun v8 S8 =>
 bSt 7 v8 v6 S8 fun _ S9 =>
 bif (bif (againX (.ld none) [v2] S2 S4) then true else false) then (lp3 (Y_22_5 C k) x0 v8 v7 S9) else False
def Y_22_1 (C : CS) (k : KS) (x0 x1 : AV) (S : St) : Prop :=
 bNil x0 S fun v1 S1 =>
 bFad 1 v1 S1 fun v2 S2 =>
 bLd v2 S2 fun v3 S3 =>
 C 41 [v3, x1] S3 fun v4 S4 =>
 Y_22_2 C k x0 S4
def Z_22 (C : CS) (vs : List AV) (S : St) (k : KS) : Prop := ar2 ((fun (C : CS) (k : KS) (a0 a1 : AV) (S : St) => Y_22_1 C k a0 a1 S) C k) vs S
theorem z_22 {F : Nat → Option AFn} (h : ∀ f, Nat.beq f 4 = false → F f = tbl f) : FnOk F 22 Z_22 := fn2 ((h 22 (by kernel_rfl)).trans c22) (Y := fun (C : CS) (k : KS) (a0 a1 : AV) (S : St) => Y_22_1 C k a0 a1 S) fun C l t S k => xS (fun l t S => xS (fun l t S => xB (xL3 0 4 5 (Y_22_5 C k) (fun l t S k1 => xf (Y_22_5 C k k1 (l 0) (l 4) (l 5) S)) (xf (lp3 (Y_22_5 C k) (l 0) (l 4) (l 5) S)))) (xf (Y_22_2 C k (l 0) S))) (xf (Y_22_1 C k (l 0) (l 1) S))
theorem c23 : tbl 23 = some (fnOf (tbl 23)) := by kernel_rfl
/-- (*tarpaulin/world.World).run -/
def Y_23_13 (C : CS) (k : KS) (x0 x7 x14 : AV) (S : St) : Prop :=
 bNil x0 S fun v1 S1 =>
 bFad 2 v1 S1 fun v2 S2 =>
 bLd v2 S2 fun v3 S3 =>
 bNil x14 S3 fun v4 S4 =>
 bFad 25 v4 S4 fun v5 S5 =>
 bLd v5 S5 fun v6 S6 =>
 C 49 [v3, x7, v6] S6 fun v7 S7 =>
 bNil x14 S7 fun v8 S8 =>
 bFad 25 v8 S8 fun v9 S9 =>
 bLd v9 S9 fun v10 S10 =>
 C 21 [x0, (.i .i64 4), x7, v10, (.i .i64 0), (.i .i64 0)] S10 fun v11 S11 =>
 k (.tup []) S11
def Y_23_14 (C : CS) (k : KS) (x0 x7 x9 x14 : AV) (S : St) : Prop :=
 bNil x14 S fun v1 S1 =>
 bFad 26 v1 S1 fun v2 S2 =>
 bLd v2 S2 fun v3 S3 =>
 condX v3
 (bNil x0 S3 fun v4 S4 =>
 bFad 2 v4 S4 fun v5 S5 =>
 bLd v5 S5 fun v6 S6 =>
 bNil x14 S6 fun v7 S7 =>
 bFad 2 v7 S7 fun v8 S8 =>
 bLdN 6 v8 S8 fun v9 S9 =>
 C 50 [v6, x7, v9] S9 fun v10 S10 =>
 C 21 [x0, (.i .i64 2), x7, (.i .i64 0), (.i .i64 0), (.i .i64 0)] S10 fun v11 S11 =>
 k (.tup []) S11)
 (bNil x0 S3 fun v12 S12 =>
 bFad 2 v12 S12 fun v13 S13 =>
 bLd v13 S13 fun v14 S14 =>
 bFad 1 x9 S14 fun v15 S15 =>
 bLd v15 S15 fun v16 S16 =>
 bAdd v16 (.i .i64 1) S16 fun v17 S17 =>
 bNil x14 S17 fun v18 S18 =>
 bFad 16 v18 S18 fun v19 S19 =>
 bLdN 8 v19 S19 fun v20 S20 =>
 C 51 [v14, x7, v17, v20] S20 fun v21 S21 =>
 k (.tup []) S21)
def Y_23_12 (C : CS) (k : KS) (x0 x7 x9 x14 t117 : AV) (S : St) : Prop :=
 condX t117
 (Y_23_13 C k x0 x7 x14 S)
 (Y_23_14 C k x0 x7 x9 x14 S)
def Y_23_11 (C : CS) (k : KS) (x0 x7 x9 x14 : AV) (S : St) : Prop :=
 bNil x14 S fun v1 S1 =>
 bFad 25 v1 S1 fun v2 S2 =>
 bLd v2 S2 fun v3 S3 =>
 bNe v3 (.i .i64 0) S3 fun v4 S4 =>
 Y_23_12 C k x0 x7 x9 x14 v4 S4
def Y_23_9 (C : CS) (k : KS) (x0 x7 x9 x14 : AV) (S : St) : Prop :=
 C 48 [x14] S fun v1 S1 =>
 Y_23_11 C k x0 x7 x9 x14 S1
def Y_23_8 (C : CS) (k : KS) (x0 x2 x7 x9 x11 : AV) (S : St) : Prop :=
 bFad 1 x9 S fun v1 S1 =>
 bLd v1 S1 fun v2 S2 =>
 bIad 6 x11 v2 S2 fun v3 S3 =>
 bLdN 6 v3 S3 fun v4 S4 =>
 bFad 4 x9 S4 fun v5 S5 =>
 bLdN 8 v5 S5 fun v6 S6 =>
 bFad 4 x9 S6 fun v7 S7 =>
 bLdN 8 v7 S7 fun v8 S8 =>
 sBuild [.p none, .i .i64 0, .i .i64 0, .i .i64 0, .i .i64 0, .i .i64 0, .sl none 0 0 0, .b false, .i .i64 0, .i .i64 0, .i .i64 0, .i .i64 0, .i .i64 0, .i .i64 0, .i .i64 0, .i .i64 0, .i .i64 0, .i .i64 0, .i .i64 0, .i .i64 0, .i .i64 0, .i .i64 0, .i .i64 0, .i .i64 0, .i .i64 0, .i .i64 0, .b false] [(0, 1), (1, 1), (2, 6), (8, 8), (16, 8), (24, 1)] [x0, x7, v4, v6, v8, x2] S8 fun v9 S9 =>
 bBox v9 S9 fun v10 S10 =>
 Y_23_9 C k x0 x7 x9 v10 S10
def Y_23_7 (C : CS) (k : KS) (x0 x2 x7 x9 x11 : AV) (S : St) : Prop :=
 bFad 1 x9 S fun v1 S1 =>
 bLd v1 S1 fun v2 S2 =>
 bFad 4 x9 S2 fun v3 S3 =>
 bLdN 8 v3 S3 fun v4 S4 =>
 C 19 [x0] S4 fun v5 S5 =>
 C 46 [x11, v2, v4, v5] S5 fun v6 S6 =>
 bExt 0 v6 S6 fun v7 S7 =>
 bExt 1 v6 S7 fun v8 S8 =>
 bAlloc [.i .i64 0, .i .i64 0, .i .i64 0, .i .i64 0, .i .i64 0, .i .i64 0, .i .i64 0, .i .i64 0, .i .i64 0, .b false, .i .i64 0, .b false] S8 fun v9 S9 =>
 bSt 12 v9 v7 S9 fun _ S10 =>
 bif (bif (againX (.ld none) [v1] S1 S5) then (bif (againX (.ld (some 8)) [v3] S3 S5) then true else false) else false) then (bEq v8 (.i .i64 0) S10 fun v11 S11 =>
 condX v11
 (bLdN 12 v9 S11 fun v12 S12 =>
 C 47 [x0, x7, v12] S12 fun v13 S13 =>
 k (.tup []) S13)
 (Y_23_8 C k x0 x2 x7 x9 x11 S11)) else False
def Y_23_6 (C : CS) (k : KS) (x0 x2 x7 x9 : AV) (S : St) : Prop :=
 bNil x0 S fun v1 S1 =>
 bFad 0 v1 S1 fun v2 S2 =>
 bLd v2 S2 fun v3 S3 =>
 bFad 0 x9 S3 fun v4 S4 =>
 bLd v4 S4 fun v5 S5 =>
 bIad 1 v3 v5 S5 fun v6 S6 =>
 bLd v6 S6 fun v7 S7 =>
 Y_23_7 C k x0 x2 x7 x9 v7 S7
def Y_23_5 (C : CS) (k : KS) (x0 x2 x7 : AV) (S : St) : Prop :=
 bNil x0 S fun v1 S1 =>
 bFad 2 v1 S1 fun v2 S2 =>
 bLd v2 S2 fun v3 S3 =>
 C 25 [v3, x7] S3 fun v4 S4 =>
 bExt 0 v4 S4 fun v5 S5 =>
 bExt 1 v4 S5 fun v6 S6 =>
 bAlloc [.i .i64 0, .i .i64 0, .i .i64 0, .i .i64 0, .i .i64 0, .i .i64 0, .i .i64 0, .i .i64 0, .i .i64 0, .i .i64 0, .i .i64 0, .i .i64 0, .i .i64 0, .i .i64 0, .i .i64 0, .i .i64 0, .sl none 0 0 0, .b false] S6 fun v7 S7 =>
 bSt 18 v7 v5 S7 fun _ S8 =>
 Y_23_6 C k x0 x2 x7 v7 S8
def Y_23_4 (C : CS) (k : KS) (x0 x2 x6 x7 : AV) (S : St) : Prop :=
 bNil x0 S fun v1 S1 =>
 bFad 8 v1 S1 fun v2 S2 =>
 bLd v2 S2 fun v3 S3 =>
 sBuild [.sl none 0 0 0, .i .i64 0] [(0, 1), (1, 1)] [x6, x7] S3 fun v4 S4 =>
 sAl (.bslice [.sl none 0 0 0, .i .i64 0] 1 2 [0]) [v4] S4 fun v5 S5 =>
 bApp 2 32 v3 v5 S5 fun v6 S6 =>
 bNil x0 S6 fun v7 S7 =>
 bFad 8 v7 S7 fun v8 S8 =>
 bSt 1 v8 v6 S8 fun _ S9 =>
 Y_23_5 C k x0 x2 x7 S9
def Y_23_3 (C : CS) (k : KS) (x0 x2 x6 x7 x8 : AV) (S : St) : Prop :=
 bNot x8 S fun v1 S1 =>
 condX v1
 (bNil x0 S1 fun v2 S2 =>
 bFad 8 v2 S2 fun v3 S3 =>
 bLd v3 S3 fun v4 S4 =>
 sBuild [.sl none 0 0 0, .i .i64 0] [(0, 1), (1, 1)] [x6, (.i .i64 (-1))] S4 fun v5 S5 =>
 sAl (.bslice [.sl none 0 0 0, .i .i64 0] 1 2 [0]) [v5] S5 fun v6 S6 =>
 bApp 2 32 v4 v6 S6 fun v7 S7 =>
 bNil x0 S7 fun v8 S8 =>
 bFad 8 v8 S8 fun v9 S9 =>
 bSt 1 v9 v7 S9 fun _ S10 =>
 k (.tup []) S10)
 (Y_23_4 C k x0 x2 x6 x7 S1)
def Y_23_2 (C : CS) (k : KS) (x0 x1 x2 x6 : AV) (S : St) : Prop :=
 bNil x0 S fun v1 S1 =>
 bFad 2 v1 S1 fun v2 S2 =>
 bLd v2 S2 fun v3 S3 =>
 C 45 [v3, x1] S3 fun v4 S4 =>
 bExt 0 v4 S4 fun v5 S5 =>
 bExt 1 v4 S5 fun v6 S6 =>
 Y_23_3 C k x0 x2 x6 v5 v6 S6
def Y_23_1 (C : CS) (k : KS) (x0 x1 x2 : AV) (S : St) : Prop :=
 bNil x0 S fun v1 S1 =>
 bFad 2 v1 S1 fun v2 S2 =>
 bLd v2 S2 fun v3 S3 =>
 C 44 [v3] S3 fun v4 S4 =>
 Y_23_2 C k x0 x1 x2 v4 S4
def Z_23 (C : CS) (vs : List AV) (S : St) (k : KS) : Prop := ar3 ((fun (C : CS) (k : KS) (a0 a1 a2 : AV) (S : St) => Y_23_1 C k a0 a1 a2 S) C k) vs S
theorem z_23 {F : Nat → Option AFn} (h : ∀ f, Nat.beq f 4 = false → F f = tbl f) : FnOk F 23 Z_23 := fn3 ((h 23 (by kernel_rfl)).trans c23) (Y := fun (C : CS) (k : KS) (a0 a1 a2 : AV) (S : St) => Y_23_1 C k a0 a1 a2 S) fun C l t S k => xS (fun l t S => xS (fun l t S => xS (fun l t S => xS (fun l t S => xS (fun l t S => xS (fun l t S => xS (fun l t S => xS (fun l t S => xS (fun l t S => xB (xS (fun l t S => xC (xf (Y_23_13 C k (l 0) (l 7) (l 14) S)) (xf (Y_23_14 C k (l 0) (l 7) (l 9) (l 14) S)) (xf (Y_23_12 C k (l 0) (l 7) (l 9) (l 14) (t 117) S))) (xf (Y_23_11 C k (l 0) (l 7) (l 9) (l 14) S)))) (xf (Y_23_9 C k (l 0) (l 7) (l 9) (l 14) S))) (xf (Y_23_8 C k (l 0) (l 2) (l 7) (l 9) (l 11) S))) (xf (Y_23_7 C k (l 0) (l 2) (l 7) (l 9) (l 11) S))) (xf (Y_23_6 C k (l 0) (l 2) (l 7) (l 9) S))) (xf (Y_23_5 C k (l 0) (l 2) (l 7) S))) (xf (Y_23_4 C k (l 0) (l 2) (l 6) (l 7) S))) (xf (Y_23_3 C k (l 0) (l 2) (l 6) (l 7) (l 8) S))) (xf (Y_23_2 C k (l 0) (l 1) (l 2) (l 6) S))) (xf (Y_23_1 C k (l 0) (l 1) (l 2) S))
theorem c24 : tbl 24 = some (fnOf (tbl 24)) := by kernel_rfl
/-- slices.Clone[[]tarpaulin/api.Event,tarpaulin/api.Event] -/
def Y_24_1 (C : CS) (k : KS) (x0 : AV) (S : St) : Prop :=
 sR (.eq false .slnil) [x0, (.sl none 0 0 0)] S fun v1 S1 =>
 condX v1
 (k (.sl none 0 0 0) S1)
 (sAl (.bslice [.i .i64 0, .i .i64 0, .i .i64 0, .i .i64 0, .i .i64 0, .i .i64 0] 0 6 []) [] S1 fun v2 S2 =>
 bApp 6 48 v2 x0 S2 fun v3 S3 =>
 k v3 S3)
def Z_24 (C : CS) (vs : List AV) (S : St) (k : KS) : Prop := ar1 ((fun (C : CS) (k : KS) (a0 : AV) (S : St) => Y_24_1 C k a0 S) C k) vs S
theorem z_24 {F : Nat → Option AFn} (h : ∀ f, Nat.beq f 4 = false → F f = tbl f) : FnOk F 24 Z_24 := fn1 ((h 24 (by kernel_rfl)).trans c24) (Y := fun (C : CS) (k : KS) (a0 : AV) (S : St) => Y_24_1 C k a0 S) fun C l t S k => xf (Y_24_1 C k (l 0) S)
theorem c25 : tbl 25 = some (fnOf (tbl 25)) := by kernel_rfl
/-- (*tarpaulin/task.Table).Get -/
def Y_25_1 (C : CS) (k : KS) (x0 x1 : AV) (S : St) : Prop :=
 bAlloc [.i .i64 0, .i .i64 0, .i .i64 0, .i .i64 0, .i .i64 0, .i .i64 0, .i .i64 0, .i .i64 0, .i .i64 0, .i .i64 0, .i .i64 0, .i .i64 0, .i .i64 0, .i .i64 0, .i .i64 0, .i .i64 0, .sl none 0 0 0, .b false] S fun v1 S1 =>
 sR (.eq false .ptr) [x0, (.p none)] S1 fun v2 S2 =>
 condX v2
 (sBuild [.i .i64 0, .i .i64 0, .i .i64 0, .i .i64 0, .i .i64 0, .i .i64 0, .i .i64 0, .i .i64 0, .i .i64 0, .i .i64 0, .i .i64 0, .i .i64 0, .i .i64 0, .i .i64 0, .i .i64 0, .i .i64 0, .sl none 0 0 0, .b false] [] [] S2 fun v3 S3 =>
 bSt 18 v1 v3 S3 fun _ S4 =>
 finV (resVX Env.nil Env.nil S4.h [.cell (.c v1) (some 18), .tmp (.c (.b false))]) S4 k)
 (bNil x0 S2 fun v5 S5 =>
 bFad 0 v5 S5 fun v6 S6 =>
 bLd v6 S6 fun v7 S7 =>
 C 52 [v7, x1] S7 fun v8 S8 =>
 bExt 0 v8 S8 fun v9 S9 =>
 bExt 1 v8 S9 fun v10 S10 =>
 bAlloc [.i .i64 0, .i .i64 0, .i .i64 0, .i .i64 0, .i .i64 0, .i .i64 0, .i .i64 0, .i .i64 0, .i .i64 0, .i .i64 0, .i .i64 0, .i .i64 0, .i .i64 0, .i .i64 0, .i .i64 0, .i .i64 0, .sl none 0 0 0, .b false] S10 fun v11 S11 =>
 bSt 18 v11 v9 S11 fun _ S12 =>
 bFad 12 v11 S12 fun v13 S13 =>
 bFad 4 v13 S13 fun v14 S14 =>
 bLd v14 S14 fun v15 S15 =>
 C 53 [v15] S15 fun v16 S16 =>
 bFad 12 v11 S16 fun v17 S17 =>
 bFad 4 v17 S17 fun v18 S18 =>
 bSt 1 v18 v16 S18 fun _ S19 =>
 bLdN 18 v11 S19 fun v20 S20 =>
 bSt 18 v1 v20 S20 fun _ S21 =>
 finV (resVX Env.nil Env.nil S21.h [.cell (.c v1) (some 18), .tmp (.c v10)]) S21 k)
def Z_25 (C : CS) (vs : List AV) (S : St) (k : KS) : Prop := ar2 ((fun (C : CS) (k : KS) (a0 a1 : AV) (S : St) => Y_25_1 C k a0 a1 S) C k) vs S
theorem z_25 {F : Nat → Option AFn} (h : ∀ f, Nat.beq f 4 = false → F f = tbl f) : FnOk F 25 Z_25 := fn2 ((h 25 (by kernel_rfl)).trans c25) (Y := fun (C : CS) (k : KS) (a0 a1 : AV) (S : St) => Y_25_1 C k a0 a1 S) fun C l t S k => xf (Y_25_1 C k (l 0) (l 1) S)
theorem c26 : tbl 26 = some (fnOf (tbl 26)) := by kernel_rfl
/-- (*tarpaulin/world.World).channel -/
def Y_26_1 (C : CS) (k : KS) (x0 x1 : AV) (S : St) : Prop :=
 bLt x1 (.i .i64 0) S fun v1 S1 =>
 gdO v1 false (sMv [x1] S1) S1 fun v2 S2 =>
 gdO v1 false (sMv [x0] S2) S2 fun v3 S3 =>
 gdO v1 false (bNil v3 S3) S3 fun v4 S4 =>
 gdO v1 false (bFad 3 v4 S4) S4 fun v5 S5 =>
 gdO v1 false (bLd v5 S5) S5 fun v6 S6 =>
 gdO v1 false (bLen v6 S6) S6 fun v7 S7 =>
 gdO v1 false (bGe v2 v7 S7) S7 fun v8 S8 =>
 bPick v1 (.b true) v8 S8 fun v9 S9 =>
 condX v9
 (bEq x1 (.i .i64 (-1)) S9 fun v10 S10 =>
 k (.tup [(.p none), v10]) S10)
 (bNil x0 S9 fun v11 S11 =>
 bFad 3 v11 S11 fun v12 S12 =>
 bLd v12 S12 fun v13 S13 =>
 bIad 1 v13 x1 S13 fun v14 S14 =>
 bLd v14 S14 fun v15 S15 =>
 k (.tup [v15, (.b true)]) S15)
def Z_26 (C : CS) (vs : List AV) (S : St) (k : KS) : Prop := ar2 ((fun (C : CS) (k : KS) (a0 a1 : AV) (S : St) => Y_26_1 C k a0 a1 S) C k) vs S
theorem z_26 {F : Nat → Option AFn} (h : ∀ f, Nat.beq f 4 = false → F f = tbl f) : FnOk F 26 Z_26 := fn2 ((h 26 (by kernel_rfl)).trans c26) (Y := fun (C : CS) (k : KS) (a0 a1 : AV) (S : St) => Y_26_1 C k a0 a1 S) fun C l t S k => xf (Y_26_1 C k (l 0) (l 1) S)
theorem c27 : tbl 27 = some (fnOf (tbl 27)) := by kernel_rfl
/-- (*tarpaulin/chanq.Chan).queue -/
def Y_27_1 (C : CS) (k : KS) (x0 x1 : AV) (S : St) : Prop :=
 sR (.eq false .ptr) [x0, (.p none)] S fun v1 S1 =>
 condX v1
 (k (.p none) S1)
 (condX x1
 (bNil x0 S1 fun v2 S2 =>
 bFad 2 v2 S2 fun v3 S3 =>
 bLd v3 S3 fun v4 S4 =>
 k v4 S4)
 (bNil x0 S1 fun v5 S5 =>
 bFad 1 v5 S5 fun v6 S6 =>
 bLd v6 S6 fun v7 S7 =>
 k v7 S7))
def Z_27 (C : CS) (vs : List AV) (S : St) (k : KS) : Prop := ar2 ((fun (C : CS) (k : KS) (a0 a1 : AV) (S : St) => Y_27_1 C k a0 a1 S) C k) vs S
theorem z_27 {F : Nat → Option AFn} (h : ∀ f, Nat.beq f 4 = false → F f = tbl f) : FnOk F 27 Z_27 := fn2 ((h 27 (by kernel_rfl)).trans c27) (Y := fun (C : CS) (k : KS) (a0 a1 : AV) (S : St) => Y_27_1 C k a0 a1 S) fun C l t S k => xf (Y_27_1 C k (l 0) (l 1) S)
theorem c28 : tbl 28 = some (fnOf (tbl 28)) := by kernel_rfl
/-- (*tarpaulin/wait.Queue).All -/
def Y_28_4 (C : CS) (k : KS) (x2 : AV) (S : St) : Prop :=
 k x2 S
def Y_28_8 (C : CS) (k : KS) (k1 : AV → AV → St → Prop) (x2 x3 : AV) (S : St) : Prop :=
 sR (.eq true .ptr) [x3, (.p none)] S fun v1 S1 =>
 condX v1
 (bNil x3 S1 fun v2 S2 =>
 bFad 0 v2 S2 fun v3 S3 =>
 bLdN 3 v3 S3 fun v4 S4 =>
 sAl (.bslice [.i .i64 0, .i .i64 0, .i .i64 0] 1 3 [0]) [v4] S4 fun v5 S5 =>
 bApp 3 24 x2 v5 S5 fun v6 S6 =>
 bNil x3 S6 fun v7 S7 =>
 bFad 4 v7 S7 fun v8 S8 =>
 bLd v8 S8 fun v9 S9 =>
 k1 v6 v9 S9)
 (Y_28_4 C k x2 S1)
def Y_28_5 (C : CS) (k : KS) (x0 x2 : AV) (S : St) : Prop :=
 bNil x0 S fun v1 S1 =>
 bFad 0 v1 S1 fun v2 S2 =>
 bLd v2 S2 fun v3 S3 =>
 lp2 (Y_28_8 C k) x2 v3 S3
def Y_28_2 (C : CS) (k : KS) (x0 x2 : AV) (S : St) : Prop :=
 sR (.eq false .ptr) [x0, (.p none)] S fun v1 S1 =>
 condX v1
 (k (.sl none 0 0 0) S1)
 (Y_28_5 C k x0 x2 S1)
def Y_28_1 (C : CS) (k : KS) (x0 : AV) (S : St) : Prop :=
 Y_28_2 C k x0 (.sl none 0 0 0) S
def Z_28 (C : CS) (vs : List AV) (S : St) (k : KS) : Prop := ar1 ((fun (C : CS) (k : KS) (a0 : AV) (S : St) => Y_28_1 C k a0 S) C k) vs S
theorem z_28 {F : Nat → Option AFn} (h : ∀ f, Nat.beq f 4 = false → F f = tbl f) : FnOk F 28 Z_28 := fn1 ((h 28 (by kernel_rfl)).trans c28) (Y := fun (C : CS) (k : KS) (a0 : AV) (S : St) => Y_28_1 C k a0 S) fun C l t S k => xS (fun l t S => xS (fun l t S => xS (fun l t S => xf (Y_28_4 C k (l 2) S)) (xS (fun l t S => xB (xL2 2 3 (Y_28_8 C k) (fun l t S k1 => xf (Y_28_8 C k k1 (l 2) (l 3) S)) (xf (lp2 (Y_28_8 C k) (l 2) (l 3) S)))) (xf (Y_28_5 C k (l 0) (l 2) S)))) (xf (Y_28_2 C k (l 0) (l 2) S))) (xf (Y_28_1 C k (l 0) S))
theorem c29 : tbl 29 = some (fnOf (tbl 29)) := by kernel_rfl
/-- (*tarpaulin/ring.Ring).Len -/
def Y_29_1 (C : CS) (k : KS) (x0 : AV) (S : St) : Prop :=
 sR (.eq false .ptr) [x0, (.p none)] S fun v1 S1 =>
 condX v1
 (k (.i .i64 0) S1)
 (bNil x0 S1 fun v2 S2 =>
 bFad 2 v2 S2 fun v3 S3 =>
 bLd v3 S3 fun v4 S4 =>
 k v4 S4)
def Z_29 (C : CS) (vs : List AV) (S : St) (k : KS) : Prop := ar1 ((fun (C : CS) (k : KS) (a0 : AV) (S : St) => Y_29_1 C k a0 S) C k) vs S
theorem z_29 {F : Nat → Option AFn} (h : ∀ f, Nat.beq f 4 = false → F f = tbl f) : FnOk F 29 Z_29 := fn1 ((h 29 (by kernel_rfl)).trans c29) (Y := fun (C : CS) (k : KS) (a0 : AV) (S : St) => Y_29_1 C k a0 S) fun C l t S k => xf (Y_29_1 C k (l 0) S)
theorem c30 : tbl 30 = some (fnOf (tbl 30)) := by kernel_rfl
/-- tarpaulin/prog.All -/
def Y_30_4 (C : CS) (k : KS) (S : St) : Prop :=
 k (.i .i64 0) S
def Y_30_8 (C : CS) (k : KS) (k1 : AV → AV → AV → AV → St → Prop) (x1 x13 x14 x15 : AV) (S : St) : Prop :=
 bLt x15 x14 S fun v1 S1 =>
 condX v1
 (bIad 1 x13 x15 S1 fun v2 S2 =>
 bLd v2 S2 fun v3 S3 =>
 C 54 [v3] S3 fun v4 S4 =>
 bNe v4 (.i .i64 0) S4 fun v5 S5 =>
 gdO v5 false (sMv [v3] S5) S5 fun v6 S6 =>
 gdO v5 false (sR (.mkfn 56 0) [x1] S6) S6 fun v7 S7 =>
 gdO v5 false (C 55 [v6, v7] S7) S7 fun v8 S8 =>
 bPick v5 (.b true) v8 S8 fun v9 S9 =>
 condX v9
 (k (.i .i64 1) S9)
 (bAdd x15 (.i .i64 1) S9 fun v10 S10 =>
 k1 x1 x13 x14 v10 S10))
 (Y_30_4 C k S1)
def Y_30_5 (C : CS) (k : KS) (x1 : AV) (S : St) : Prop :=
 bLd x1 S fun v1 S1 =>
 bLen v1 S1 fun v2 S2 =>
 lp4 (Y_30_8 C k) x1 v1 v2 (.i .i64 0) S2
def Y_30_2 (C : CS) (k : KS) (x1 : AV) (S : St) : Prop :=
 bLd x1 S fun v1 S1 =>
 bLen v1 S1 fun v2 S2 =>
 bLt v2 (.i .i64 1) S2 fun v3 S3 =>
 gdO v3 false (bLd x1 S3) S3 fun v4 S4 =>
 gdO v3 false (bLen v4 S4) S4 fun v5 S5 =>
 gdO v3 false (bGt v5 (.i .i64 16) S5) S5 fun v6 S6 =>
 bPick v3 (.b true) v6 S6 fun v7 S7 =>
 condX v7
 (k (.i .i64 1) S7)
 (Y_30_5 C k x1 S7)
def Y_30_1 (C : CS) (k : KS) (x0 : AV) (S : St) : Prop :=
 bBox x0 S fun v1 S1 =>
 Y_30_2 C k v1 S1
def Z_30 (C : CS) (vs : List AV) (S : St) (k : KS) : Prop := ar1 ((fun (C : CS) (k : KS) (a0 : AV) (S : St) => Y_30_1 C k a0 S) C k) vs S
theorem z_30 {F : Nat → Option AFn} (h : ∀ f, Nat.beq f 4 = false → F f = tbl f) : FnOk F 30 Z_30 := fn1 ((h 30 (by kernel_rfl)).trans c30) (Y := fun (C : CS) (k : KS) (a0 : AV) (S : St) => Y_30_1 C k a0 S) fun C l t S k => xS (fun l t S => xS (fun l t S => xS (fun l t S => xf (Y_30_4 C k S)) (xS (fun l t S => xB (xL4 1 13 14 15 (Y_30_8 C k) (fun l t S k1 => xf (Y_30_8 C k k1 (l 1) (l 13) (l 14) (l 15) S)) (xf (lp4 (Y_30_8 C k) (l 1) (l 13) (l 14) (l 15) S)))) (xf (Y_30_5 C k (l 1) S)))) (xf (Y_30_2 C k (l 1) S))) (xf (Y_30_1 C k (l 0) S))
theorem c31 : tbl 31 = some (fnOf (tbl 31)) := by kernel_rfl
/-- tarpaulin/clock.New -/
def Y_31_1 (C : CS) (k : KS) (S : St) : Prop :=
 sBuild [.i .i64 0] [] [] S fun v1 S1 =>
 bBox v1 S1 fun v2 S2 =>
 k v2 S2
def Z_31 (C : CS) (vs : List AV) (S : St) (k : KS) : Prop := ar0 ((fun (C : CS) (k : KS) (S : St) => Y_31_1 C k S) C k) vs S
theorem z_31 {F : Nat → Option AFn} (h : ∀ f, Nat.beq f 4 = false → F f = tbl f) : FnOk F 31 Z_31 := fn0 ((h 31 (by kernel_rfl)).trans c31) (Y := fun (C : CS) (k : KS) (S : St) => Y_31_1 C k S) fun C l t S k => xf (Y_31_1 C k S)
theorem c32 : tbl 32 = some (fnOf (tbl 32)) := by kernel_rfl
/-- tarpaulin/task.New -/
def Y_32_1 (C : CS) (k : KS) (S : St) : Prop :=
 C 58 [(.i .i64 64)] S fun v1 S1 =>
 bExt 0 v1 S1 fun v2 S2 =>
 bExt 1 v1 S2 fun v3 S3 =>
 C 59 [] S3 fun v4 S4 =>
 sBuild [.p none, .p none] [(0, 1), (1, 1)] [v2, v4] S4 fun v5 S5 =>
 bBox v5 S5 fun v6 S6 =>
 k v6 S6
def Z_32 (C : CS) (vs : List AV) (S : St) (k : KS) : Prop := ar0 ((fun (C : CS) (k : KS) (S : St) => Y_32_1 C k S) C k) vs S
theorem z_32 {F : Nat → Option AFn} (h : ∀ f, Nat.beq f 4 = false → F f = tbl f) : FnOk F 32 Z_32 := fn0 ((h 32 (by kernel_rfl)).trans c32) (Y := fun (C : CS) (k : KS) (S : St) => Y_32_1 C k S) fun C l t S k => xf (Y_32_1 C k S)
theorem c33 : tbl 33 = some (fnOf (tbl 33)) := by kernel_rfl
/-- tarpaulin/timer.New -/
def Y_33_1 (C : CS) (k : KS) (S : St) : Prop :=
 C 60 [] S fun v1 S1 =>
 sBuild [.sl none 0 0 0, .p none, .i .i64 0] [(1, 1)] [v1] S1 fun v2 S2 =>
 bBox v2 S2 fun v3 S3 =>
 k v3 S3
def Z_33 (C : CS) (vs : List AV) (S : St) (k : KS) : Prop := ar0 ((fun (C : CS) (k : KS) (S : St) => Y_33_1 C k S) C k) vs S
theorem z_33 {F : Nat → Option AFn} (h : ∀ f, Nat.beq f 4 = false → F f = tbl f) : FnOk F 33 Z_33 := fn0 ((h 33 (by kernel_rfl)).trans c33) (Y := fun (C : CS) (k : KS) (S : St) => Y_33_1 C k S) fun C l t S k => xf (Y_33_1 C k S)
theorem c34 : tbl 34 = some (fnOf (tbl 34)) := by kernel_rfl
/-- tarpaulin/deal.New -/
def Y_34_1 (C : CS) (k : KS) (S : St) : Prop :=
 sBuild [.sl none 0 0 0] [] [] S fun v1 S1 =>
 bBox v1 S1 fun v2 S2 =>
 k v2 S2
def Z_34 (C : CS) (vs : List AV) (S : St) (k : KS) : Prop := ar0 ((fun (C : CS) (k : KS) (S : St) => Y_34_1 C k S) C k) vs S
theorem z_34 {F : Nat → Option AFn} (h : ∀ f, Nat.beq f 4 = false → F f = tbl f) : FnOk F 34 Z_34 := fn0 ((h 34 (by kernel_rfl)).trans c34) (Y := fun (C : CS) (k : KS) (S : St) => Y_34_1 C k S) fun C l t S k => xf (Y_34_1 C k S)
theorem c35 : tbl 35 = some (fnOf (tbl 35)) := by kernel_rfl
/-- tarpaulin/ctx.New -/
def Y_35_1 (C : CS) (k : KS) (x0 : AV) (S : St) : Prop :=
 C 61 [] S fun v1 S1 =>
 sAl .mkmap [] S1 fun v2 S2 =>
 sBuild [.p none, .p none, .sl none 0 0 0, .sl none 0 0 0, .m none] [(0, 1), (1, 1), (4, 1)] [x0, v1, v2] S2 fun v3 S3 =>
 bBox v3 S3 fun v4 S4 =>
 sBuild [.i .i64 0, .b false, .p none, .i .i64 0, .i .i64 0, .i .i64 0, .b false, .b false, .i .i64 0] [(1, 1)] [(.b true)] S4 fun v5 S5 =>
 C 62 [v4, v5, (.i .i64 (-1))] S5 fun v6 S6 =>
 k v4 S6
def Z_35 (C : CS) (vs : List AV) (S : St) (k : KS) : Prop := ar1 ((fun (C : CS) (k : KS) (a0 : AV) (S : St) => Y_35_1 C k a0 S) C k) vs S
theorem z_35 {F : Nat → Option AFn} (h : ∀ f, Nat.beq f 4 = false → F f = tbl f) : FnOk F 35 Z_35 := fn1 ((h 35 (by kernel_rfl)).trans c35) (Y := fun (C : CS) (k : KS) (a0 : AV) (S : St) => Y_35_1 C k a0 S) fun C l t S k => xf (Y_35_1 C k (l 0) S)
theorem c36 : tbl 36 = some (fnOf (tbl 36)) := by kernel_rfl
/-- tarpaulin/world.own -/
def Y_36_4 (C : CS) (k : KS) (x0 : AV) (S : St) : Prop :=
 k x0 S
def Y_36_8 (C : CS) (k : KS) (k1 : AV → AV → AV → St → Prop) (x0 x7 x8 : AV) (S : St) : Prop :=
 bLt x8 x7 S fun v1 S1 =>
 condX v1
 (bIad 6 x0 x8 S1 fun v2 S2 =>
 bFad 4 v2 S2 fun v3 S3 =>
 bLd v3 S3 fun v4 S4 =>
 C 53 [v4] S4 fun v5 S5 =>
 bIad 6 x0 x8 S5 fun v6 S6 =>
 bFad 4 v6 S6 fun v7 S7 =>
 bSt 1 v7 v5 S7 fun _ S8 =>
 bAdd x8 (.i .i64 1) S8 fun v9 S9 =>
 k1 x0 x7 v9 S9)
 (Y_36_4 C k x0 S1)
def Y_36_5 (C : CS) (k : KS) (x0 : AV) (S : St) : Prop :=
 bLen x0 S fun v1 S1 =>
 lp3 (Y_36_8 C k) x0 v1 (.i .i64 0) S1
def Y_36_2 (C : CS) (k : KS) (x0 : AV) (S : St) : Prop :=
 C 63 [x0] S fun v1 S1 =>
 Y_36_5 C k v1 S1
def Y_36_1 (C : CS) (k : KS) (x0 : AV) (S : St) : Prop :=
 Y_36_2 C k x0 S
def Z_36 (C : CS) (vs : List AV) (S : St) (k : KS) : Prop := ar1 ((fun (C : CS) (k : KS) (a0 : AV) (S : St) => Y_36_1 C k a0 S) C k) vs S
theorem z_36 {F : Nat → Option AFn} (h : ∀ f, Nat.beq f 4 = false → F f = tbl f) : FnOk F 36 Z_36 := fn1 ((h 36 (by kernel_rfl)).trans c36) (Y := fun (C : CS) (k : KS) (a0 : AV) (S : St) => Y_36_1 C k a0 S) fun C l t S k => xS (fun l t S => xS (fun l t S => xS (fun l t S => xf (Y_36_4 C k (l 0) S)) (xS (fun l t S => xB (xL3 0 7 8 (Y_36_8 C k) (fun l t S k1 => xf (Y_36_8 C k k1 (l 0) (l 7) (l 8) S)) (xf (lp3 (Y_36_8 C k) (l 0) (l 7) (l 8) S)))) (xf (Y_36_5 C k (l 0) S)))) (xf (Y_36_2 C k (l 0) S))) (xf (Y_36_1 C k (l 0) S))
theorem c37 : tbl 37 = some (fnOf (tbl 37)) := by kernel_rfl
/-- (*tarpaulin/task.Table).Start -/
def Y_37_2 (C : CS) (k : KS) (x0 x1 x5 : AV) (S : St) : Prop :=
 sR (.eq false .ptr) [x0, (.p none)] S fun v1 S1 =>
 condX v1
 (k (.tup [(.i .i64 0), (.i .i64 3)]) S1)
 (bLt x1 (.i .i64 0) S1 fun v2 S2 =>
 condX v2
 (k (.tup [(.i .i64 0), (.i .i64 1)]) S2)
 (bNil x0 S2 fun v3 S3 =>
 bFad 0 v3 S3 fun v4 S4 =>
 bLd v4 S4 fun v5 S5 =>
 bLdN 8 x5 S5 fun v6 S6 =>
 sBuild [.i .i64 0, .i .i64 0, .i .i64 0, .i .i64 0, .i .i64 0, .i .i64 0, .i .i64 0, .i .i64 0, .i .i64 0, .i .i64 0, .i .i64 0, .i .i64 0, .i .i64 0, .i .i64 0, .i .i64 0, .i .i64 0, .sl none 0 0 0, .b false] [(0, 1), (4, 8)] [x1, v6] S6 fun v7 S7 =>
 C 64 [v5, v7] S7 fun v8 S8 =>
 bExt 0 v8 S8 fun v9 S9 =>
 bExt 1 v8 S9 fun v10 S10 =>
 bEq v10 (.i .i64 0) S10 fun v11 S11 =>
 condX v11
 (bNil x0 S11 fun v12 S12 =>
 bFad 1 v12 S12 fun v13 S13 =>
 bLd v13 S13 fun v14 S14 =>
 C 65 [v14, v9] S14 fun v15 S15 =>
 k (.tup [v9, v10]) S15)
 (k (.tup [v9, v10]) S11)))
def Y_37_1 (C : CS) (k : KS) (x0 x1 x2 : AV) (S : St) : Prop :=
 bBox x2 S fun v1 S1 =>
 Y_37_2 C k x0 x1 v1 S1
def Z_37 (C : CS) (vs : List AV) (S : St) (k : KS) : Prop := ar3 ((fun (C : CS) (k : KS) (a0 a1 a2 : AV) (S : St) => Y_37_1 C k a0 a1 a2 S) C k) vs S
theorem z_37 {F : Nat → Option AFn} (h : ∀ f, Nat.beq f 4 = false → F f = tbl f) : FnOk F 37 Z_37 := fn3 ((h 37 (by kernel_rfl)).trans c37) (Y := fun (C : CS) (k : KS) (a0 a1 a2 : AV) (S : St) => Y_37_1 C k a0 a1 a2 S) fun C l t S k => xS (fun l t S => xf (Y_37_2 C k (l 0) (l 1) (l 5) S)) (xf (Y_37_1 C k (l 0) (l 1) (l 2) S))
theorem c38 : tbl 38 = some (fnOf (tbl 38)) := by kernel_rfl
/-- (*tarpaulin/deal.Log).All -/
def Y_38_1 (C : CS) (k : KS) (x0 : AV) (S : St) : Prop :=
 sR (.eq false .ptr) [x0, (.p none)] S fun v1 S1 =>
 condX v1
 (k (.sl none 0 0 0) S1)
 (bNil x0 S1 fun v2 S2 =>
 bFad 0 v2 S2 fun v3 S3 =>
 bLd v3 S3 fun v4 S4 =>
 C 66 [v4] S4 fun v5 S5 =>
 k v5 S5)
def Z_38 (C : CS) (vs : List AV) (S : St) (k : KS) : Prop := ar1 ((fun (C : CS) (k : KS) (a0 : AV) (S : St) => Y_38_1 C k a0 S) C k) vs S
theorem z_38 {F : Nat → Option AFn} (h : ∀ f, Nat.beq f 4 = false → F f = tbl f) : FnOk F 38 Z_38 := fn1 ((h 38 (by kernel_rfl)).trans c38) (Y := fun (C : CS) (k : KS) (a0 : AV) (S : St) => Y_38_1 C k a0 S) fun C l t S k => xf (Y_38_1 C k (l 0) S)
theorem c39 : tbl 39 = some (fnOf (tbl 39)) := by kernel_rfl
/-- slices.Clone[[]int,int] -/
def Y_39_1 (C : CS) (k : KS) (x0 : AV) (S : St) : Prop :=
 sR (.eq false .slnil) [x0, (.sl none 0 0 0)] S fun v1 S1 =>
 condX v1
 (k (.sl none 0 0 0) S1)
 (sAl (.bslice [.i .i64 0] 0 1 []) [] S1 fun v2 S2 =>
 bApp 1 8 v2 x0 S2 fun v3 S3 =>
 k v3 S3)
def Z_39 (C : CS) (vs : List AV) (S : St) (k : KS) : Prop := ar1 ((fun (C : CS) (k : KS) (a0 : AV) (S : St) => Y_39_1 C k a0 S) C k) vs S
theorem z_39 {F : Nat → Option AFn} (h : ∀ f, Nat.beq f 4 = false → F f = tbl f) : FnOk F 39 Z_39 := fn1 ((h 39 (by kernel_rfl)).trans c39) (Y := fun (C : CS) (k : KS) (a0 : AV) (S : St) => Y_39_1 C k a0 S) fun C l t S k => xf (Y_39_1 C k (l 0) S)
theorem c40 : tbl 40 = some (fnOf (tbl 40)) := by kernel_rfl
/-- (*tarpaulin/clock.Clock).Now -/
def Y_40_1 (C : CS) (k : KS) (x0 : AV) (S : St) : Prop :=
 sR (.eq false .ptr) [x0, (.p none)] S fun v1 S1 =>
 condX v1
 (k (.i .i64 0) S1)
 (bNil x0 S1 fun v2 S2 =>
 bFad 0 v2 S2 fun v3 S3 =>
 bLd v3 S3 fun v4 S4 =>
 k v4 S4)
def Z_40 (C : CS) (vs : List AV) (S : St) (k : KS) : Prop := ar1 ((fun (C : CS) (k : KS) (a0 : AV) (S : St) => Y_40_1 C k a0 S) C k) vs S
theorem z_40 {F : Nat → Option AFn} (h : ∀ f, Nat.beq f 4 = false → F f = tbl f) : FnOk F 40 Z_40 := fn1 ((h 40 (by kernel_rfl)).trans c40) (Y := fun (C : CS) (k : KS) (a0 : AV) (S : St) => Y_40_1 C k a0 S) fun C l t S k => xf (Y_40_1 C k (l 0) S)
theorem c41 : tbl 41 = some (fnOf (tbl 41)) := by kernel_rfl
/-- (*tarpaulin/clock.Clock).Advance -/
def Y_41_1 (C : CS) (k : KS) (x0 x1 : AV) (S : St) : Prop :=
 sR (.eq false .ptr) [x0, (.p none)] S fun v1 S1 =>
 gdO v1 false (sMv [x1] S1) S1 fun v2 S2 =>
 gdO v1 false (bLt v2 (.i .i64 0) S2) S2 fun v3 S3 =>
 bPick v1 (.b true) v3 S3 fun v4 S4 =>
 condX v4
 (k (.i .i64 1) S4)
 (bNil x0 S4 fun v5 S5 =>
 bFad 0 v5 S5 fun v6 S6 =>
 bLd v6 S6 fun v7 S7 =>
 C 67 [v7, x1] S7 fun v8 S8 =>
 bNil x0 S8 fun v9 S9 =>
 bFad 0 v9 S9 fun v10 S10 =>
 bSt 1 v10 v8 S10 fun _ S11 =>
 k (.i .i64 0) S11)
def Z_41 (C : CS) (vs : List AV) (S : St) (k : KS) : Prop := ar2 ((fun (C : CS) (k : KS) (a0 a1 : AV) (S : St) => Y_41_1 C k a0 a1 S) C k) vs S
theorem z_41 {F : Nat → Option AFn} (h : ∀ f, Nat.beq f 4 = false → F f = tbl f) : FnOk F 41 Z_41 := fn2 ((h 41 (by kernel_rfl)).trans c41) (Y := fun (C : CS) (k : KS) (a0 a1 : AV) (S : St) => Y_41_1 C k a0 a1 S) fun C l t S k => xf (Y_41_1 C k (l 0) (l 1) S)
theorem c42 : tbl 42 = some (fnOf (tbl 42)) := by kernel_rfl
/-- (*tarpaulin/timer.Set).Fire -/
def Y_42_5 (C : CS) (k : KS) (x0 x1 x4 x6 : AV) (S : St) : Prop :=
 bNil x0 S fun v1 S1 =>
 bFad 0 v1 S1 fun v2 S2 =>
 bLd v2 S2 fun v3 S3 =>
 bFad 0 x6 S3 fun v4 S4 =>
 bLd v4 S4 fun v5 S5 =>
 bIad 4 v3 v5 S5 fun v6 S6 =>
 bLdN 4 v6 S6 fun v7 S7 =>
 bAlloc [.i .i64 0, .i .i64 0, .p none, .i .i64 0] S7 fun v8 S8 =>
 bSt 4 v8 v7 S8 fun _ S9 =>
 bFad 0 x6 S9 fun v10 S10 =>
 bLd v10 S10 fun v11 S11 =>
 bFad 0 v8 S11 fun v12 S12 =>
 bLd v12 S12 fun v13 S13 =>
 bFad 1 x6 S13 fun v14 S14 =>
 bLd v14 S14 fun v15 S15 =>
 bFad 2 x6 S15 fun v16 S16 =>
 bLd v16 S16 fun v17 S17 =>
 bFad 1 v8 S17 fun v18 S18 =>
 bLd v18 S18 fun v19 S19 =>
 sBuild [.i .i64 0, .i .i64 0, .i .i64 0, .i .i64 0, .i .i64 0, .sl none 0 0 0, .b false] [(0, 1), (1, 1), (2, 1), (3, 1), (4, 1)] [v11, v13, v15, v17, v19] S19 fun v20 S20 =>
 bAlloc [.i .i64 0, .i .i64 0, .i .i64 0, .i .i64 0, .i .i64 0, .sl none 0 0 0, .b false] S20 fun v21 S21 =>
 bSt 7 v21 v20 S21 fun _ S22 =>
 bFad 2 v8 S22 fun v23 S23 =>
 bLd v23 S23 fun v24 S24 =>
 C 69 [v24, x1] S24 fun v25 S25 =>
 bExt 0 v25 S25 fun v26 S26 =>
 bExt 1 v25 S26 fun v27 S27 =>
 bFad 5 v21 S27 fun v28 S28 =>
 bSt 1 v28 v26 S28 fun _ S29 =>
 bFad 6 v21 S29 fun v30 S30 =>
 bSt 1 v30 v27 S30 fun _ S31 =>
 bLdN 7 v21 S31 fun v32 S32 =>
 bSt 7 x4 v32 S32 fun _ S33 =>
 finV (resVX Env.nil Env.nil S33.h [.cell (.c x4) (some 7), .tmp (.c (.b true))]) S33 k
def Y_42_4 (C : CS) (k : KS) (x0 x1 x4 x6 x7 : AV) (S : St) : Prop :=
 bNot x7 S fun v1 S1 =>
 condX v1
 (sBuild [.i .i64 0, .i .i64 0, .i .i64 0, .i .i64 0, .i .i64 0, .sl none 0 0 0, .b false] [] [] S1 fun v2 S2 =>
 bSt 7 x4 v2 S2 fun _ S3 =>
 finV (resVX Env.nil Env.nil S3.h [.cell (.c x4) (some 7), .tmp (.c (.b false))]) S3 k)
 (Y_42_5 C k x0 x1 x4 x6 S1)
def Y_42_3 (C : CS) (k : KS) (x0 x1 x4 : AV) (S : St) : Prop :=
 bNil x0 S fun v1 S1 =>
 bFad 1 v1 S1 fun v2 S2 =>
 bLd v2 S2 fun v3 S3 =>
 C 68 [v3, x1] S3 fun v4 S4 =>
 bExt 0 v4 S4 fun v5 S5 =>
 bExt 1 v4 S5 fun v6 S6 =>
 bAlloc [.i .i64 0, .i .i64 0, .i .i64 0] S6 fun v7 S7 =>
 bSt 3 v7 v5 S7 fun _ S8 =>
 Y_42_4 C k x0 x1 x4 v7 v6 S8
def Y_42_2 (C : CS) (k : KS) (x0 x1 x4 : AV) (S : St) : Prop :=
 sR (.eq false .ptr) [x0, (.p none)] S fun v1 S1 =>
 condX v1
 (sBuild [.i .i64 0, .i .i64 0, .i .i64 0, .i .i64 0, .i .i64 0, .sl none 0 0 0, .b false] [] [] S1 fun v2 S2 =>
 bSt 7 x4 v2 S2 fun _ S3 =>
 finV (resVX Env.nil Env.nil S3.h [.cell (.c x4) (some 7), .tmp (.c (.b false))]) S3 k)
 (Y_42_3 C k x0 x1 x4 S1)
def Y_42_1 (C : CS) (k : KS) (x0 x1 : AV) (S : St) : Prop :=
 bAlloc [.i .i64 0, .i .i64 0, .i .i64 0, .i .i64 0, .i .i64 0, .sl none 0 0 0, .b false] S fun v1 S1 =>
 Y_42_2 C k x0 x1 v1 S1
def Z_42 (C : CS) (vs : List AV) (S : St) (k : KS) : Prop := ar2 ((fun (C : CS) (k : KS) (a0 a1 : AV) (S : St) => Y_42_1 C k a0 a1 S) C k) vs S
theorem z_42 {F : Nat → Option AFn} (h : ∀ f, Nat.beq f 4 = false → F f = tbl f) : FnOk F 42 Z_42 := fn2 ((h 42 (by kernel_rfl)).trans c42) (Y := fun (C : CS) (k : KS) (a0 a1 : AV) (S : St) => Y_42_1 C k a0 a1 S) fun C l t S k => xS (fun l t S => xS (fun l t S => xS (fun l t S => xS (fun l t S => xf (Y_42_5 C k (l 0) (l 1) (l 4) (l 6) S)) (xf (Y_42_4 C k (l 0) (l 1) (l 4) (l 6) (l 7) S))) (xf (Y_42_3 C k (l 0) (l 1) (l 4) S))) (xf (Y_42_2 C k (l 0) (l 1) (l 4) S))) (xf (Y_42_1 C k (l 0) (l 1) S))
theorem c43 : tbl 43 = some (fnOf (tbl 43)) := by kernel_rfl
/-- (*tarpaulin/world.World).fire -/
def Y_43_3 (C : CS) (k : KS) (x0 x3 : AV) (S : St) : Prop :=
 bFad 0 x3 S fun v1 S1 =>
 bLd v1 S1 fun v2 S2 =>
 bFad 2 x3 S2 fun v3 S3 =>
 bLd v3 S3 fun v4 S4 =>
 C 21 [x0, (.i .i64 6), (.i .i64 (-1)), v2, v4, (.i .i64 0)] S4 fun v5 S5 =>
 bFad 1 x3 S5 fun v6 S6 =>
 bLd v6 S6 fun v7 S7 =>
 bEq v7 (.i .i64 3) S7 fun v8 S8 =>
 condX v8
 (bFad 4 x3 S8 fun v9 S9 =>
 bLd v9 S9 fun v10 S10 =>
 sBuild [.i .i64 0, .i .i64 0, .i .i64 0, .i .i64 0, .i .i64 0, .i .i64 0, .i .i64 0, .i .i64 0] [] [] S10 fun v11 S11 =>
 C 72 [x0, v10, v11] S11 fun v12 S12 =>
 k (.tup []) S12)
 (bFad 6 x3 S8 fun v13 S13 =>
 bLd v13 S13 fun v14 S14 =>
 condX v14
 (bNil x0 S14 fun v15 S15 =>
 bFad 5 v15 S15 fun v16 S16 =>
 bLd v16 S16 fun v17 S17 =>
 bFad 0 x3 S17 fun v18 S18 =>
 bLd v18 S18 fun v19 S19 =>
 C 75 [v17, v19] S19 fun v20 S20 =>
 C 74 [x0, v20] S20 fun v21 S21 =>
 bFad 3 x3 S21 fun v22 S22 =>
 bLd v22 S22 fun v23 S23 =>
 C 73 [x0, v21, (.i .i64 (-1)), v23, (.b false)] S23 fun v24 S24 =>
 bif (bif (againX (.ld none) [v22] S22 S14) then (bif (againX (.ld none) [v22] S22 S20) then true else false) else false) then (bFad 5 x3 S24 fun v25 S25 =>
 bLd v25 S25 fun v26 S26 =>
 C 76 [x0, v26] S26 fun v27 S27 =>
 k (.tup []) S27) else False)
 (bFad 5 x3 S14 fun v28 S28 =>
 bLd v28 S28 fun v29 S29 =>
 C 76 [x0, v29] S29 fun v30 S30 =>
 k (.tup []) S30))
def Y_43_2 (C : CS) (k : KS) (x0 x3 : AV) (S : St) : Prop :=
 bFad 1 x3 S fun v1 S1 =>
 bLd v1 S1 fun v2 S2 =>
 bEq v2 (.i .i64 4) S2 fun v3 S3 =>
 condX v3
 (bNil x0 S3 fun v4 S4 =>
 bFad 6 v4 S4 fun v5 S5 =>
 bLd v5 S5 fun v6 S6 =>
 bFad 4 x3 S6 fun v7 S7 =>
 bLd v7 S7 fun v8 S8 =>
 C 70 [v6, v8] S8 fun v9 S9 =>
 bExt 0 v9 S9 fun v10 S10 =>
 bExt 1 v9 S10 fun v11 S11 =>
 bExt 2 v9 S11 fun v12 S12 =>
 C 71 [x0, v10, v11] S12 fun v13 S13 =>
 k (.tup []) S13)
 (Y_43_3 C k x0 x3 S3)
def Y_43_1 (C : CS) (k : KS) (x0 x1 : AV) (S : St) : Prop :=
 bBox x1 S fun v1 S1 =>
 Y_43_2 C k x0 v1 S1
def Z_43 (C : CS) (vs : List AV) (S : St) (k : KS) : Prop := ar2 ((fun (C : CS) (k : KS) (a0 a1 : AV) (S : St) => Y_43_1 C k a0 a1 S) C k) vs S
theorem z_43 {F : Nat → Option AFn} (h : ∀ f, Nat.beq f 4 = false → F f = tbl f) : FnOk F 43 Z_43 := fn2 ((h 43 (by kernel_rfl)).trans c43) (Y := fun (C : CS) (k : KS) (a0 a1 : AV) (S : St) => Y_43_1 C k a0 a1 S) fun C l t S k => xS (fun l t S => xS (fun l t S => xf (Y_43_3 C k (l 0) (l 3) S)) (xf (Y_43_2 C k (l 0) (l 3) S))) (xf (Y_43_1 C k (l 0) (l 1) S))
theorem c44 : tbl 44 = some (fnOf (tbl 44)) := by kernel_rfl
/-- (*tarpaulin/task.Table).Ready -/
def Y_44_1 (C : CS) (k : KS) (x0 : AV) (S : St) : Prop :=
 sR (.eq false .ptr) [x0, (.p none)] S fun v1 S1 =>
 condX v1
 (k (.sl none 0 0 0) S1)
 (bNil x0 S1 fun v2 S2 =>
 bFad 1 v2 S2 fun v3 S3 =>
 bLd v3 S3 fun v4 S4 =>
 C 77 [v4] S4 fun v5 S5 =>
 k v5 S5)
def Z_44 (C : CS) (vs : List AV) (S : St) (k : KS) : Prop := ar1 ((fun (C : CS) (k : KS) (a0 : AV) (S : St) => Y_44_1 C k a0 S) C k) vs S
theorem z_44 {F : Nat → Option AFn} (h : ∀ f, Nat.beq f 4 = false → F f = tbl f) : FnOk F 44 Z_44 := fn1 ((h 44 (by kernel_rfl)).trans c44) (Y := fun (C : CS) (k : KS) (a0 : AV) (S : St) => Y_44_1 C k a0 S) fun C l t S k => xf (Y_44_1 C k (l 0) S)
theorem c45 : tbl 45 = some (fnOf (tbl 45)) := by kernel_rfl
/-- (*tarpaulin/task.Table).Pick -/
def Y_45_1 (C : CS) (k : KS) (x0 x1 : AV) (S : St) : Prop :=
 sR (.eq false .ptr) [x0, (.p none)] S fun v1 S1 =>
 condX v1
 (k (.tup [(.i .i64 0), (.b false)]) S1)
 (bNil x0 S1 fun v2 S2 =>
 bFad 1 v2 S2 fun v3 S3 =>
 bLd v3 S3 fun v4 S4 =>
 C 78 [v4, x1] S4 fun v5 S5 =>
 bExt 0 v5 S5 fun v6 S6 =>
 bExt 1 v5 S6 fun v7 S7 =>
 k (.tup [v6, v7]) S7)
def Z_45 (C : CS) (vs : List AV) (S : St) (k : KS) : Prop := ar2 ((fun (C : CS) (k : KS) (a0 a1 : AV) (S : St) => Y_45_1 C k a0 a1 S) C k) vs S
theorem z_45 {F : Nat → Option AFn} (h : ∀ f, Nat.beq f 4 = false → F f = tbl f) : FnOk F 45 Z_45 := fn2 ((h 45 (by kernel_rfl)).trans c45) (Y := fun (C : CS) (k : KS) (a0 a1 : AV) (S : St) => Y_45_1 C k a0 a1 S) fun C l t S k => xf (Y_45_1 C k (l 0) (l 1) S)
theorem c46 : tbl 46 = some (fnOf (tbl 46)) := by kernel_rfl
/-- tarpaulin/local.Do -/
def Y_46_6 (C : CS) (k : KS) (x8 x10 : AV) (S : St) : Prop :=
 bLdN 12 x10 S fun v1 S1 =>
 bSt 12 x8 v1 S1 fun _ S2 =>
 finV (resVX Env.nil Env.nil S2.h [.cell (.c x8) (some 12), .tmp (.c (.i .i64 0))]) S2 k
def Y_46_10 (C : CS) (k : KS) (x3 x8 x10 x11 : AV) (S : St) : Prop :=
 bFad 1 x11 S fun v1 S1 =>
 bLd v1 S1 fun v2 S2 =>
 bFad 1 x10 S2 fun v3 S3 =>
 bIadA 8 1 v3 v2 S3 fun v4 S4 =>
 bSt 1 v4 x3 S4 fun _ S5 =>
 Y_46_6 C k x8 x10 S5
def Y_46_13 (C : CS) (k : KS) (x1 x8 x10 : AV) (S : St) : Prop :=
 bFad 0 x10 S fun v1 S1 =>
 bSt 1 v1 x1 S1 fun _ S2 =>
 bFad 11 x10 S2 fun v3 S3 =>
 bSt 1 v3 (.b true) S3 fun _ S4 =>
 Y_46_6 C k x8 x10 S4
def Y_46_16 (C : CS) (k : KS) (x6 x8 x10 x11 : AV) (S : St) : Prop :=
 bFad 1 x11 S fun v1 S1 =>
 bLd v1 S1 fun v2 S2 =>
 bIadA 8 1 x6 v2 S2 fun v3 S3 =>
 bLd v3 S3 fun v4 S4 =>
 bFad 9 x10 S4 fun v5 S5 =>
 bSt 1 v5 (.b true) S5 fun _ S6 =>
 bFad 10 x10 S6 fun v7 S7 =>
 bSt 1 v7 v4 S7 fun _ S8 =>
 bif (bif (againX (.ld none) [v1] S1 S6) then (bif (againX (.ld none) [v3] S3 S6) then true else false) else false) then (Y_46_6 C k x8 x10 S8) else False
def Y_46_19 (C : CS) (k : KS) (x8 x10 x11 : AV) (S : St) : Prop :=
 bFad 1 x11 S fun v1 S1 =>
 bLd v1 S1 fun v2 S2 =>
 bFad 0 x10 S2 fun v3 S3 =>
 bSt 1 v3 v2 S3 fun _ S4 =>
 Y_46_6 C k x8 x10 S4
def Y_46_22 (C : CS) (k : KS) (x6 x8 x10 x11 : AV) (S : St) : Prop :=
 bFad 1 x11 S fun v1 S1 =>
 bLd v1 S1 fun v2 S2 =>
 bIadA 8 1 x6 v2 S2 fun v3 S3 =>
 bLd v3 S3 fun v4 S4 =>
 bNe v4 (.i .i64 0) S4 fun v5 S5 =>
 condX v5
 (Y_46_6 C k x8 x10 S5)
 (bFad 2 x11 S5 fun v6 S6 =>
 bLd v6 S6 fun v7 S7 =>
 bFad 1 x11 S7 fun v8 S8 =>
 bSt 1 v8 v7 S8 fun _ S9 =>
 Y_46_19 C k x8 x10 x11 S9)
def Y_46_25 (C : CS) (k : KS) (x6 x8 x10 x11 : AV) (S : St) : Prop :=
 bFad 1 x11 S fun v1 S1 =>
 bLd v1 S1 fun v2 S2 =>
 bFad 1 x11 S2 fun v3 S3 =>
 bLd v3 S3 fun v4 S4 =>
 bIadA 8 1 x6 v4 S4 fun v5 S5 =>
 bLd v5 S5 fun v6 S6 =>
 bFad 2 x11 S6 fun v7 S7 =>
 bLd v7 S7 fun v8 S8 =>
 C 67 [v6, v8] S8 fun v9 S9 =>
 bFad 1 x10 S9 fun v10 S10 =>
 bIadA 8 1 v10 v2 S10 fun v11 S11 =>
 bSt 1 v11 v9 S11 fun _ S12 =>
 bif (bif (againX (.ld none) [v1] S1 S9) then true else false) then (Y_46_6 C k x8 x10 S12) else False
def Y_46_24 (C : CS) (k : KS) (x1 x3 x6 x8 x10 x11 x53 : AV) (S : St) : Prop :=
 bEq x53 (.i .i64 1) S fun v1 S1 =>
 condX v1
 (bFad 1 x11 S1 fun v2 S2 =>
 bLd v2 S2 fun v3 S3 =>
 bFad 2 x11 S3 fun v4 S4 =>
 bLd v4 S4 fun v5 S5 =>
 bFad 1 x10 S5 fun v6 S6 =>
 bIadA 8 1 v6 v3 S6 fun v7 S7 =>
 bSt 1 v7 v5 S7 fun _ S8 =>
 Y_46_6 C k x8 x10 S8)
 (bEq x53 (.i .i64 2) S1 fun v9 S9 =>
 condX v9
 (bFad 1 x11 S9 fun v10 S10 =>
 bLd v10 S10 fun v11 S11 =>
 bFad 2 x11 S11 fun v12 S12 =>
 bLd v12 S12 fun v13 S13 =>
 bIadA 8 1 x6 v13 S13 fun v14 S14 =>
 bLd v14 S14 fun v15 S15 =>
 bFad 1 x10 S15 fun v16 S16 =>
 bIadA 8 1 v16 v11 S16 fun v17 S17 =>
 bSt 1 v17 v15 S17 fun _ S18 =>
 Y_46_6 C k x8 x10 S18)
 (bEq x53 (.i .i64 3) S9 fun v19 S19 =>
 condX v19
 (Y_46_25 C k x6 x8 x10 x11 S19)
 (bEq x53 (.i .i64 5) S19 fun v20 S20 =>
 condX v20
 (Y_46_22 C k x6 x8 x10 x11 S20)
 (bEq x53 (.i .i64 4) S20 fun v21 S21 =>
 condX v21
 (Y_46_19 C k x8 x10 x11 S21)
 (bEq x53 (.i .i64 6) S21 fun v22 S22 =>
 condX v22
 (Y_46_16 C k x6 x8 x10 x11 S22)
 (bEq x53 (.i .i64 7) S22 fun v23 S23 =>
 condX v23
 (Y_46_13 C k x1 x8 x10 S23)
 (Y_46_10 C k x3 x8 x10 x11 S23)))))))
def Y_46_7 (C : CS) (k : KS) (x1 x3 x6 x8 x10 x11 : AV) (S : St) : Prop :=
 bFad 0 x11 S fun v1 S1 =>
 bLd v1 S1 fun v2 S2 =>
 Y_46_24 C k x1 x3 x6 x8 x10 x11 v2 S2
def Y_46_4 (C : CS) (k : KS) (x0 x1 x3 x6 x8 x10 : AV) (S : St) : Prop :=
 bIad 6 x0 x1 S fun v1 S1 =>
 bLdN 6 v1 S1 fun v2 S2 =>
 bAlloc [.i .i64 0, .i .i64 0, .i .i64 0, .i .i64 0, .sl none 0 0 0, .b false] S2 fun v3 S3 =>
 bSt 6 v3 v2 S3 fun _ S4 =>
 Y_46_7 C k x1 x3 x6 x8 x10 v3 S4
def Y_46_3 (C : CS) (k : KS) (x0 x1 x3 x6 x8 : AV) (S : St) : Prop :=
 bAdd x1 (.i .i64 1) S fun v1 S1 =>
 bLdN 8 x6 S1 fun v2 S2 =>
 sBuild [.i .i64 0, .i .i64 0, .i .i64 0, .i .i64 0, .i .i64 0, .i .i64 0, .i .i64 0, .i .i64 0, .i .i64 0, .b false, .i .i64 0, .b false] [(0, 1), (1, 8)] [v1, v2] S2 fun v3 S3 =>
 bAlloc [.i .i64 0, .i .i64 0, .i .i64 0, .i .i64 0, .i .i64 0, .i .i64 0, .i .i64 0, .i .i64 0, .i .i64 0, .b false, .i .i64 0, .b false] S3 fun v4 S4 =>
 bSt 12 v4 v3 S4 fun _ S5 =>
 Y_46_4 C k x0 x1 x3 x6 x8 v4 S5
def Y_46_2 (C : CS) (k : KS) (x0 x1 x3 x6 x8 : AV) (S : St) : Prop :=
 C 54 [x0] S fun v1 S1 =>
 bNe v1 (.i .i64 0) S1 fun v2 S2 =>
 gdO v2 false (sMv [x1] S2) S2 fun v3 S3 =>
 gdO v2 false (bLt v3 (.i .i64 0) S3) S3 fun v4 S4 =>
 bPick v2 (.b true) v4 S4 fun v5 S5 =>
 gdO v5 false (sMv [x1] S5) S5 fun v6 S6 =>
 gdO v5 false (sMv [x0] S6) S6 fun v7 S7 =>
 gdO v5 false (bLen v7 S7) S7 fun v8 S8 =>
 gdO v5 false (bGt v6 v8 S8) S8 fun v9 S9 =>
 bPick v5 (.b true) v9 S9 fun v10 S10 =>
 condX v10
 (sBuild [.i .i64 0, .i .i64 0, .i .i64 0, .i .i64 0, .i .i64 0, .i .i64 0, .i .i64 0, .i .i64 0, .i .i64 0, .b false, .i .i64 0, .b false] [] [] S10 fun v11 S11 =>
 bSt 12 x8 v11 S11 fun _ S12 =>
 finV (resVX Env.nil Env.nil S12.h [.cell (.c x8) (some 12), .tmp (.c (.i .i64 1))]) S12 k)
 (bLen x0 S10 fun v13 S13 =>
 bEq x1 v13 S13 fun v14 S14 =>
 condX v14
 (bLdN 8 x6 S14 fun v15 S15 =>
 sBuild [.i .i64 0, .i .i64 0, .i .i64 0, .i .i64 0, .i .i64 0, .i .i64 0, .i .i64 0, .i .i64 0, .i .i64 0, .b false, .i .i64 0, .b false] [(0, 1), (1, 8), (11, 1)] [x1, v15, (.b true)] S15 fun v16 S16 =>
 bSt 12 x8 v16 S16 fun _ S17 =>
 finV (resVX Env.nil Env.nil S17.h [.cell (.c x8) (some 12), .tmp (.c (.i .i64 0))]) S17 k)
 (bIad 6 x0 x1 S14 fun v18 S18 =>
 bFad 0 v18 S18 fun v19 S19 =>
 bLd v19 S19 fun v20 S20 =>
 C 79 [v20] S20 fun v21 S21 =>
 bNot v21 S21 fun v22 S22 =>
 condX v22
 (sBuild [.i .i64 0, .i .i64 0, .i .i64 0, .i .i64 0, .i .i64 0, .i .i64 0, .i .i64 0, .i .i64 0, .i .i64 0, .b false, .i .i64 0, .b false] [] [] S22 fun v23 S23 =>
 bSt 12 x8 v23 S23 fun _ S24 =>
 finV (resVX Env.nil Env.nil S24.h [.cell (.c x8) (some 12), .tmp (.c (.i .i64 7))]) S24 k)
 (Y_46_3 C k x0 x1 x3 x6 x8 S22)))
def Y_46_1 (C : CS) (k : KS) (x0 x1 x2 x3 : AV) (S : St) : Prop :=
 bBox x2 S fun v1 S1 =>
 bAlloc [.i .i64 0, .i .i64 0, .i .i64 0, .i .i64 0, .i .i64 0, .i .i64 0, .i .i64 0, .i .i64 0, .i .i64 0, .b false, .i .i64 0, .b false] S1 fun v2 S2 =>
 Y_46_2 C k x0 x1 x3 v1 v2 S2
def Z_46 (C : CS) (vs : List AV) (S : St) (k : KS) : Prop := ar4 ((fun (C : CS) (k : KS) (a0 a1 a2 a3 : AV) (S : St) => Y_46_1 C k a0 a1 a2 a3 S) C k) vs S
theorem z_46 {F : Nat → Option AFn} (h : ∀ f, Nat.beq f 4 = false → F f = tbl f) : FnOk F 46 Z_46 := fn4 ((h 46 (by kernel_rfl)).trans c46) (Y := fun (C : CS) (k : KS) (a0 a1 a2 a3 : AV) (S : St) => Y_46_1 C k a0 a1 a2 a3 S) fun C l t S k => xS (fun l t S => xS (fun l t S => xS (fun l t S => xS (fun l t S => xS (fun l t S => xf (Y_46_6 C k (l 8) (l 10) S)) (xS (fun l t S => xB (xS (fun l t S => xf (Y_46_10 C k (l 3) (l 8) (l 10) (l 11) S)) (xB (xS (fun l t S => xf (Y_46_13 C k (l 1) (l 8) (l 10) S)) (xB (xS (fun l t S => xf (Y_46_16 C k (l 6) (l 8) (l 10) (l 11) S)) (xB (xS (fun l t S => xf (Y_46_19 C k (l 8) (l 10) (l 11) S)) (xB (xS (fun l t S => xf (Y_46_22 C k (l 6) (l 8) (l 10) (l 11) S)) (xB (xS (fun l t S => xf (Y_46_25 C k (l 6) (l 8) (l 10) (l 11) S)) (xf (Y_46_24 C k (l 1) (l 3) (l 6) (l 8) (l 10) (l 11) (l 53) S)))))))))))))) (xf (Y_46_7 C k (l 1) (l 3) (l 6) (l 8) (l 10) (l 11) S)))) (xf (Y_46_4 C k (l 0) (l 1) (l 3) (l 6) (l 8) (l 10) S))) (xf (Y_46_3 C k (l 0) (l 1) (l 3) (l 6) (l 8) S))) (xf (Y_46_2 C k (l 0) (l 1) (l 3) (l 6) (l 8) S))) (xf (Y_46_1 C k (l 0) (l 1) (l 2) (l 3) S))
theorem c47 : tbl 47 = some (fnOf (tbl 47)) := by kernel_rfl
/-- (*tarpaulin/world.World).alone -/
def Y_47_1 (C : CS) (k : KS) (x0 x1 x2 : AV) (S : St) : Prop :=
 bBox x2 S fun v1 S1 =>
 bNil x0 S1 fun v2 S2 =>
 bFad 2 v2 S2 fun v3 S3 =>
 bLd v3 S3 fun v4 S4 =>
 bFad 0 v1 S4 fun v5 S5 =>
 bLd v5 S5 fun v6 S6 =>
 bFad 1 v1 S6 fun v7 S7 =>
 bLdN 8 v7 S7 fun v8 S8 =>
 C 51 [v4, x1, v6, v8] S8 fun v9 S9 =>
 bFad 9 v1 S9 fun v10 S10 =>
 bLd v10 S10 fun v11 S11 =>
 condX v11
 (bFad 10 v1 S11 fun v12 S12 =>
 bLd v12 S12 fun v13 S13 =>
 C 21 [x0, (.i .i64 1), x1, v13, (.i .i64 0), (.i .i64 0)] S13 fun v14 S14 =>
 bFad 11 v1 S14 fun v15 S15 =>
 bLd v15 S15 fun v16 S16 =>
 condX v16
 (bNil x0 S16 fun v17 S17 =>
 bFad 2 v17 S17 fun v18 S18 =>
 bLd v18 S18 fun v19 S19 =>
 C 49 [v19, x1, (.i .i64 0)] S19 fun v20 S20 =>
 C 21 [x0, (.i .i64 4), x1, (.i .i64 0), (.i .i64 0), (.i .i64 0)] S20 fun v21 S21 =>
 k (.tup []) S21)
 (k (.tup []) S16))
 (bFad 11 v1 S11 fun v22 S22 =>
 bLd v22 S22 fun v23 S23 =>
 condX v23
 (bNil x0 S23 fun v24 S24 =>
 bFad 2 v24 S24 fun v25 S25 =>
 bLd v25 S25 fun v26 S26 =>
 C 49 [v26, x1, (.i .i64 0)] S26 fun v27 S27 =>
 C 21 [x0, (.i .i64 4), x1, (.i .i64 0), (.i .i64 0), (.i .i64 0)] S27 fun v28 S28 =>
 k (.tup []) S28)
 (k (.tup []) S23))
def Z_47 (C : CS) (vs : List AV) (S : St) (k : KS) : Prop := ar3 ((fun (C : CS) (k : KS) (a0 a1 a2 : AV) (S : St) => Y_47_1 C k a0 a1 a2 S) C k) vs S
theorem z_47 {F : Nat → Option AFn} (h : ∀ f, Nat.beq f 4 = false → F f = tbl f) : FnOk F 47 Z_47 := fn3 ((h 47 (by kernel_rfl)).trans c47) (Y := fun (C : CS) (k : KS) (a0 a1 a2 : AV) (S : St) => Y_47_1 C k a0 a1 a2 S) fun C l t S k => xf (Y_47_1 C k (l 0) (l 1) (l 2) S)
theorem c48 : tbl 48 = some (fnOf (tbl 48)) := by kernel_rfl
/-- (*tarpaulin/world.act).do -/
def Y_48_5 (C : CS) (k : KS) (x0 : AV) (S : St) : Prop :=
 C 80 [x0] S fun v1 S1 =>
 k (.tup []) S1
def Y_48_8 (C : CS) (k : KS) (x0 : AV) (S : St) : Prop :=
 C 81 [x0] S fun v1 S1 =>
 k (.tup []) S1
def Y_48_11 (C : CS) (k : KS) (x0 : AV) (S : St) : Prop :=
 C 82 [x0] S fun v1 S1 =>
 k (.tup []) S1
def Y_48_14 (C : CS) (k : KS) (x0 : AV) (S : St) : Prop :=
 C 83 [x0] S fun v1 S1 =>
 k (.tup []) S1
def Y_48_17 (C : CS) (k : KS) (x0 : AV) (S : St) : Prop :=
 C 84 [x0] S fun v1 S1 =>
 k (.tup []) S1
def Y_48_20 (C : CS) (k : KS) (x0 : AV) (S : St) : Prop :=
 C 85 [x0] S fun v1 S1 =>
 k (.tup []) S1
def Y_48_23 (C : CS) (k : KS) (x0 : AV) (S : St) : Prop :=
 C 86 [x0] S fun v1 S1 =>
 k (.tup []) S1
def Y_48_25 (C : CS) (k : KS) (x0 x2 t64 : AV) (S : St) : Prop :=
 condX t64
 (bNil x0 S fun v1 S1 =>
 bFad 0 v1 S1 fun v2 S2 =>
 bLd v2 S2 fun v3 S3 =>
 bNil v3 S3 fun v4 S4 =>
 bFad 6 v4 S4 fun v5 S5 =>
 bLd v5 S5 fun v6 S6 =>
 C 88 [x0] S6 fun v7 S7 =>
 C 89 [x0] S7 fun v8 S8 =>
 C 87 [v6, v7, v8] S8 fun v9 S9 =>
 bExt 0 v9 S9 fun v10 S10 =>
 bExt 1 v9 S10 fun v11 S11 =>
 bExt 2 v9 S11 fun v12 S12 =>
 bif (bif (againX (.ld none) [v2] S2 S7) then (bif (againX (.ld none) [v2] S2 S8) then (bif (againX (.ld none) [v5] S5 S7) then (bif (againX (.ld none) [v5] S5 S8) then true else false) else false) else false) else false) then (C 90 [x0, v12] S12 fun v13 S13 =>
 bNil x0 S13 fun v14 S14 =>
 bFad 0 v14 S14 fun v15 S15 =>
 bLd v15 S15 fun v16 S16 =>
 C 71 [v16, v10, v11] S16 fun v17 S17 =>
 k (.tup []) S17) else False)
 (bGe x2 (.i .i64 27) S fun v18 S18 =>
 gdO v18 true (sMv [x2] S18) S18 fun v19 S19 =>
 gdO v18 true (bLe v19 (.i .i64 30) S19) S19 fun v20 S20 =>
 bPick v18 v20 (.b false) S20 fun v21 S21 =>
 condX v21
 (C 91 [x0] S21 fun v22 S22 =>
 k (.tup []) S22)
 (C 92 [x0] S21 fun v23 S23 =>
 k (.tup []) S23))
def Y_48_24 (C : CS) (k : KS) (x0 x2 : AV) (S : St) : Prop :=
 bEq x2 (.i .i64 26) S fun v1 S1 =>
 Y_48_25 C k x0 x2 v1 S1
def Y_48_22 (C : CS) (k : KS) (x0 x2 t55 : AV) (S : St) : Prop :=
 condX t55
 (Y_48_23 C k x0 S)
 (Y_48_24 C k x0 x2 S)
def Y_48_21 (C : CS) (k : KS) (x0 x2 : AV) (S : St) : Prop :=
 bGe x2 (.i .i64 22) S fun v1 S1 =>
 gdO v1 true (sMv [x2] S1) S1 fun v2 S2 =>
 gdO v1 true (bLe v2 (.i .i64 25) S2) S2 fun v3 S3 =>
 bPick v1 v3 (.b false) S3 fun v4 S4 =>
 Y_48_22 C k x0 x2 v4 S4
def Y_48_19 (C : CS) (k : KS) (x0 x2 t46 : AV) (S : St) : Prop :=
 condX t46
 (Y_48_20 C k x0 S)
 (Y_48_21 C k x0 x2 S)
def Y_48_18 (C : CS) (k : KS) (x0 x2 : AV) (S : St) : Prop :=
 bEq x2 (.i .i64 20) S fun v1 S1 =>
 gdO v1 false (sMv [x2] S1) S1 fun v2 S2 =>
 gdO v1 false (bEq v2 (.i .i64 21) S2) S2 fun v3 S3 =>
 bPick v1 (.b true) v3 S3 fun v4 S4 =>
 Y_48_19 C k x0 x2 v4 S4
def Y_48_16 (C : CS) (k : KS) (x0 x2 t37 : AV) (S : St) : Prop :=
 condX t37
 (Y_48_17 C k x0 S)
 (Y_48_18 C k x0 x2 S)
def Y_48_15 (C : CS) (k : KS) (x0 x2 : AV) (S : St) : Prop :=
 bGe x2 (.i .i64 17) S fun v1 S1 =>
 gdO v1 true (sMv [x2] S1) S1 fun v2 S2 =>
 gdO v1 true (bLe v2 (.i .i64 19) S2) S2 fun v3 S3 =>
 bPick v1 v3 (.b false) S3 fun v4 S4 =>
 Y_48_16 C k x0 x2 v4 S4
def Y_48_13 (C : CS) (k : KS) (x0 x2 t32 : AV) (S : St) : Prop :=
 condX t32
 (Y_48_14 C k x0 S)
 (Y_48_15 C k x0 x2 S)
def Y_48_12 (C : CS) (k : KS) (x0 x2 : AV) (S : St) : Prop :=
 bEq x2 (.i .i64 15) S fun v1 S1 =>
 Y_48_13 C k x0 x2 v1 S1
def Y_48_10 (C : CS) (k : KS) (x0 x2 t23 : AV) (S : St) : Prop :=
 condX t23
 (Y_48_11 C k x0 S)
 (Y_48_12 C k x0 x2 S)
def Y_48_9 (C : CS) (k : KS) (x0 x2 : AV) (S : St) : Prop :=
 bGe x2 (.i .i64 10) S fun v1 S1 =>
 gdO v1 true (sMv [x2] S1) S1 fun v2 S2 =>
 gdO v1 true (bLe v2 (.i .i64 14) S2) S2 fun v3 S3 =>
 bPick v1 v3 (.b false) S3 fun v4 S4 =>
 Y_48_10 C k x0 x2 v4 S4
def Y_48_7 (C : CS) (k : KS) (x0 x2 t18 : AV) (S : St) : Prop :=
 condX t18
 (Y_48_8 C k x0 S)
 (Y_48_9 C k x0 x2 S)
def Y_48_6 (C : CS) (k : KS) (x0 x2 : AV) (S : St) : Prop :=
 bEq x2 (.i .i64 9) S fun v1 S1 =>
 Y_48_7 C k x0 x2 v1 S1
def Y_48_4 (C : CS) (k : KS) (x0 x2 t13 : AV) (S : St) : Prop :=
 condX t13
 (Y_48_5 C k x0 S)
 (Y_48_6 C k x0 x2 S)
def Y_48_3 (C : CS) (k : KS) (x0 x2 : AV) (S : St) : Prop :=
 bEq x2 (.i .i64 8) S fun v1 S1 =>
 Y_48_4 C k x0 x2 v1 S1
def Y_48_1 (C : CS) (k : KS) (x0 : AV) (S : St) : Prop :=
 bNil x0 S fun v1 S1 =>
 bFad 2 v1 S1 fun v2 S2 =>
 bFad 0 v2 S2 fun v3 S3 =>
 bLd v3 S3 fun v4 S4 =>
 Y_48_3 C k x0 v4 S4
def Z_48 (C : CS) (vs : List AV) (S : St) (k : KS) : Prop := ar1 ((fun (C : CS) (k : KS) (a0 : AV) (S : St) => Y_48_1 C k a0 S) C k) vs S
theorem z_48 {F : Nat → Option AFn} (h : ∀ f, Nat.beq f 4 = false → F f = tbl f) : FnOk F 48 Z_48 := fn1 ((h 48 (by kernel_rfl)).trans c48) (Y := fun (C : CS) (k : KS) (a0 : AV) (S : St) => Y_48_1 C k a0 S) fun C l t S k => xS (fun l t S => xB (xS (fun l t S => xC (xf (Y_48_5 C k (l 0) S)) (xS (fun l t S => xC (xf (Y_48_8 C k (l 0) S)) (xS (fun l t S => xC (xf (Y_48_11 C k (l 0) S)) (xS (fun l t S => xC (xf (Y_48_14 C k (l 0) S)) (xS (fun l t S => xC (xf (Y_48_17 C k (l 0) S)) (xS (fun l t S => xC (xf (Y_48_20 C k (l 0) S)) (xS (fun l t S => xC (xf (Y_48_23 C k (l 0) S)) (xS (fun l t S => xf (Y_48_25 C k (l 0) (l 2) (t 64) S)) (xf (Y_48_24 C k (l 0) (l 2) S))) (xf (Y_48_22 C k (l 0) (l 2) (t 55) S))) (xf (Y_48_21 C k (l 0) (l 2) S))) (xf (Y_48_19 C k (l 0) (l 2) (t 46) S))) (xf (Y_48_18 C k (l 0) (l 2) S))) (xf (Y_48_16 C k (l 0) (l 2) (t 37) S))) (xf (Y_48_15 C k (l 0) (l 2) S))) (xf (Y_48_13 C k (l 0) (l 2) (t 32) S))) (xf (Y_48_12 C k (l 0) (l 2) S))) (xf (Y_48_10 C k (l 0) (l 2) (t 23) S))) (xf (Y_48_9 C k (l 0) (l 2) S))) (xf (Y_48_7 C k (l 0) (l 2) (t 18) S))) (xf (Y_48_6 C k (l 0) (l 2) S))) (xf (Y_48_4 C k (l 0) (l 2) (t 13) S))) (xf (Y_48_3 C k (l 0) (l 2) S)))) (xf (Y_48_1 C k (l 0) S))
theorem c49 : tbl 49 = some (fnOf (tbl 49)) := by kernel_rfl
/-- (*tarpaulin/task.Table).End -/
def Y_49_1 (C : CS) (k : KS) (x0 x1 x2 : AV) (S : St) : Prop :=
 C 93 [x0, x1, (.fn 94 [] [])] S fun v1 S1 =>
 bExt 0 v1 S1 fun v2 S2 =>
 bExt 1 v1 S2 fun v3 S3 =>
 bAlloc [.i .i64 0, .i .i64 0, .i .i64 0, .i .i64 0, .i .i64 0, .i .i64 0, .i .i64 0, .i .i64 0, .i .i64 0, .i .i64 0, .i .i64 0, .i .i64 0, .i .i64 0, .i .i64 0, .i .i64 0, .i .i64 0, .sl none 0 0 0, .b false] S3 fun v4 S4 =>
 bSt 18 v4 v2 S4 fun _ S5 =>
 bNe v3 (.i .i64 0) S5 fun v6 S6 =>
 condX v6
 (k v3 S6)
 (sBuild [.i .i64 0, .i .i64 0, .i .i64 0, .i .i64 0, .sl none 0 0 0, .b false] [] [] S6 fun v7 S7 =>
 bFad 2 v4 S7 fun v8 S8 =>
 bSt 1 v8 (.i .i64 2) S8 fun _ S9 =>
 bFad 3 v4 S9 fun v10 S10 =>
 bSt 1 v10 x2 S10 fun _ S11 =>
 bFad 12 v4 S11 fun v12 S12 =>
 bSt 6 v12 v7 S12 fun _ S13 =>
 bNil x0 S13 fun v14 S14 =>
 bFad 0 v14 S14 fun v15 S15 =>
 bLd v15 S15 fun v16 S16 =>
 bLdN 18 v4 S16 fun v17 S17 =>
 C 95 [v16, x1, v17] S17 fun v18 S18 =>
 bNil x0 S18 fun v19 S19 =>
 bFad 1 v19 S19 fun v20 S20 =>
 bLd v20 S20 fun v21 S21 =>
 C 96 [v21, x1] S21 fun v22 S22 =>
 k (.i .i64 0) S22)
def Z_49 (C : CS) (vs : List AV) (S : St) (k : KS) : Prop := ar3 ((fun (C : CS) (k : KS) (a0 a1 a2 : AV) (S : St) => Y_49_1 C k a0 a1 a2 S) C k) vs S
theorem z_49 {F : Nat → Option AFn} (h : ∀ f, Nat.beq f 4 = false → F f = tbl f) : FnOk F 49 Z_49 := fn3 ((h 49 (by kernel_rfl)).trans c49) (Y := fun (C : CS) (k : KS) (a0 a1 a2 : AV) (S : St) => Y_49_1 C k a0 a1 a2 S) fun C l t S k => xf (Y_49_1 C k (l 0) (l 1) (l 2) S)
theorem c50 : tbl 50 = some (fnOf (tbl 50)) := by kernel_rfl
/-- (*tarpaulin/task.Table).Park -/
def Y_50_5 (C : CS) (k : KS) (x0 x1 x5 x7 : AV) (S : St) : Prop :=
 bFad 4 x5 S fun v1 S1 =>
 bLd v1 S1 fun v2 S2 =>
 C 53 [v2] S2 fun v3 S3 =>
 bFad 4 x5 S3 fun v4 S4 =>
 bSt 1 v4 v3 S4 fun _ S5 =>
 bLdN 6 x5 S5 fun v6 S6 =>
 bFad 2 x7 S6 fun v7 S7 =>
 bSt 1 v7 (.i .i64 1) S7 fun _ S8 =>
 bFad 12 x7 S8 fun v9 S9 =>
 bSt 6 v9 v6 S9 fun _ S10 =>
 bif (bif (againX (.ld (some 6)) [x5] S5 S8) then true else false) then (bNil x0 S10 fun v11 S11 =>
 bFad 0 v11 S11 fun v12 S12 =>
 bLd v12 S12 fun v13 S13 =>
 bLdN 18 x7 S13 fun v14 S14 =>
 C 95 [v13, x1, v14] S14 fun v15 S15 =>
 bNil x0 S15 fun v16 S16 =>
 bFad 1 v16 S16 fun v17 S17 =>
 bLd v17 S17 fun v18 S18 =>
 C 96 [v18, x1] S18 fun v19 S19 =>
 k (.i .i64 0) S19) else False
def Y_50_4 (C : CS) (k : KS) (x0 x1 x5 x7 : AV) (S : St) : Prop :=
 bFad 0 x5 S fun v1 S1 =>
 bLd v1 S1 fun v2 S2 =>
 bNe v2 (.i .i64 10) S2 fun v3 S3 =>
 gdO v3 true (bFad 0 x5 S3) S3 fun v4 S4 =>
 gdO v3 true (bLd v4 S4) S4 fun v5 S5 =>
 gdO v3 true (bNe v5 (.i .i64 11) S5) S5 fun v6 S6 =>
 bPick v3 v6 (.b false) S6 fun v7 S7 =>
 gdO v7 true (bFad 0 x5 S7) S7 fun v8 S8 =>
 gdO v7 true (bLd v8 S8) S8 fun v9 S9 =>
 gdO v7 true (bNe v9 (.i .i64 15) S9) S9 fun v10 S10 =>
 bPick v7 v10 (.b false) S10 fun v11 S11 =>
 gdO v11 false (bLdN 6 x5 S11) S11 fun v12 S12 =>
 gdO v11 false (sAl (.bslice [.i .i64 0, .i .i64 0, .i .i64 0, .i .i64 0, .sl none 0 0 0, .b false] 1 6 [0]) [v12] S12) S12 fun v13 S13 =>
 gdO v11 false (C 54 [v13] S13) S13 fun v14 S14 =>
 gdO v11 false (bNe v14 (.i .i64 0) S14) S14 fun v15 S15 =>
 bPick v11 (.b true) v15 S15 fun v16 S16 =>
 condX v16
 (k (.i .i64 1) S16)
 (Y_50_5 C k x0 x1 x5 x7 S16)
def Y_50_3 (C : CS) (k : KS) (x0 x1 x5 x7 x8 : AV) (S : St) : Prop :=
 bNe x8 (.i .i64 0) S fun v1 S1 =>
 condX v1
 (k x8 S1)
 (Y_50_4 C k x0 x1 x5 x7 S1)
def Y_50_2 (C : CS) (k : KS) (x0 x1 x5 : AV) (S : St) : Prop :=
 C 93 [x0, x1, (.fn 97 [] [])] S fun v1 S1 =>
 bExt 0 v1 S1 fun v2 S2 =>
 bExt 1 v1 S2 fun v3 S3 =>
 bAlloc [.i .i64 0, .i .i64 0, .i .i64 0, .i .i64 0, .i .i64 0, .i .i64 0, .i .i64 0, .i .i64 0, .i .i64 0, .i .i64 0, .i .i64 0, .i .i64 0, .i .i64 0, .i .i64 0, .i .i64 0, .i .i64 0, .sl none 0 0 0, .b false] S3 fun v4 S4 =>
 bSt 18 v4 v2 S4 fun _ S5 =>
 Y_50_3 C k x0 x1 x5 v4 v3 S5
def Y_50_1 (C : CS) (k : KS) (x0 x1 x2 : AV) (S : St) : Prop :=
 bBox x2 S fun v1 S1 =>
 Y_50_2 C k x0 x1 v1 S1
def Z_50 (C : CS) (vs : List AV) (S : St) (k : KS) : Prop := ar3 ((fun (C : CS) (k : KS) (a0 a1 a2 : AV) (S : St) => Y_50_1 C k a0 a1 a2 S) C k) vs S
theorem z_50 {F : Nat → Option AFn} (h : ∀ f, Nat.beq f 4 = false → F f = tbl f) : FnOk F 50 Z_50 := fn3 ((h 50 (by kernel_rfl)).trans c50) (Y := fun (C : CS) (k : KS) (a0 a1 a2 : AV) (S : St) => Y_50_1 C k a0 a1 a2 S) fun C l t S k => xS (fun l t S => xS (fun l t S => xS (fun l t S => xS (fun l t S => xf (Y_50_5 C k (l 0) (l 1) (l 5) (l 7) S)) (xf (Y_50_4 C k (l 0) (l 1) (l 5) (l 7) S))) (xf (Y_50_3 C k (l 0) (l 1) (l 5) (l 7) (l 8) S))) (xf (Y_50_2 C k (l 0) (l 1) (l 5) S))) (xf (Y_50_1 C k (l 0) (l 1) (l 2) S))
theorem c51 : tbl 51 = some (fnOf (tbl 51)) := by kernel_rfl
/-- (*tarpaulin/task.Table).Put -/
def Y_51_1 (C : CS) (k : KS) (x0 x1 x2 x3 : AV) (S : St) : Prop :=
 bBox x3 S fun v1 S1 =>
 C 93 [x0, x1, (.fn 97 [] [])] S1 fun v2 S2 =>
 bExt 0 v2 S2 fun v3 S3 =>
 bExt 1 v2 S3 fun v4 S4 =>
 bAlloc [.i .i64 0, .i .i64 0, .i .i64 0, .i .i64 0, .i .i64 0, .i .i64 0, .i .i64 0, .i .i64 0, .i .i64 0, .i .i64 0, .i .i64 0, .i .i64 0, .i .i64 0, .i .i64 0, .i .i64 0, .i .i64 0, .sl none 0 0 0, .b false] S4 fun v5 S5 =>
 bSt 18 v5 v3 S5 fun _ S6 =>
 bEq v4 (.i .i64 0) S6 fun v7 S7 =>
 condX v7
 (bLdN 8 v1 S7 fun v8 S8 =>
 bFad 1 v5 S8 fun v9 S9 =>
 bSt 1 v9 x2 S9 fun _ S10 =>
 bFad 4 v5 S10 fun v11 S11 =>
 bSt 8 v11 v8 S11 fun _ S12 =>
 bif (bif (againX (.ld (some 8)) [v1] S7 S10) then true else false) then (bNil x0 S12 fun v13 S13 =>
 bFad 0 v13 S13 fun v14 S14 =>
 bLd v14 S14 fun v15 S15 =>
 bLdN 18 v5 S15 fun v16 S16 =>
 C 95 [v15, x1, v16] S16 fun v17 S17 =>
 k v4 S17) else False)
 (k v4 S7)
def Z_51 (C : CS) (vs : List AV) (S : St) (k : KS) : Prop := ar4 ((fun (C : CS) (k : KS) (a0 a1 a2 a3 : AV) (S : St) => Y_51_1 C k a0 a1 a2 a3 S) C k) vs S
theorem z_51 {F : Nat → Option AFn} (h : ∀ f, Nat.beq f 4 = false → F f = tbl f) : FnOk F 51 Z_51 := fn4 ((h 51 (by kernel_rfl)).trans c51) (Y := fun (C : CS) (k : KS) (a0 a1 a2 a3 : AV) (S : St) => Y_51_1 C k a0 a1 a2 a3 S) fun C l t S k => xf (Y_51_1 C k (l 0) (l 1) (l 2) (l 3) S)
theorem c52 : tbl 52 = some (fnOf (tbl 52)) := by kernel_rfl
/-- (*tarpaulin/arena.Arena[tarpaulin/task.Task]).Get -/
def Y_52_1 (C : CS) (k : KS) (x0 x1 : AV) (S : St) : Prop :=
 bAlloc [.i .i64 0, .i .i64 0, .i .i64 0, .i .i64 0, .i .i64 0, .i .i64 0, .i .i64 0, .i .i64 0, .i .i64 0, .i .i64 0, .i .i64 0, .i .i64 0, .i .i64 0, .i .i64 0, .i .i64 0, .i .i64 0, .sl none 0 0 0, .b false] S fun v1 S1 =>
 bLt x1 (.i .i64 0) S1 fun v2 S2 =>
 gdO v2 false (sMv [x1] S2) S2 fun v3 S3 =>
 gdO v2 false (sMv [x0] S3) S3 fun v4 S4 =>
 gdO v2 false (C 98 [v4] S4) S4 fun v5 S5 =>
 gdO v2 false (bGe v3 v5 S5) S5 fun v6 S6 =>
 bPick v2 (.b true) v6 S6 fun v7 S7 =>
 condX v7
 (bAlloc [.i .i64 0, .i .i64 0, .i .i64 0, .i .i64 0, .i .i64 0, .i .i64 0, .i .i64 0, .i .i64 0, .i .i64 0, .i .i64 0, .i .i64 0, .i .i64 0, .i .i64 0, .i .i64 0, .i .i64 0, .i .i64 0, .sl none 0 0 0, .b false] S7 fun v8 S8 =>
 bLdN 18 v8 S8 fun v9 S9 =>
 bSt 18 v1 v9 S9 fun _ S10 =>
 finV (resVX Env.nil Env.nil S10.h [.cell (.c v1) (some 18), .tmp (.c (.b false))]) S10 k)
 (bNil x0 S7 fun v11 S11 =>
 bFad 0 v11 S11 fun v12 S12 =>
 bLd v12 S12 fun v13 S13 =>
 bIad 18 v13 x1 S13 fun v14 S14 =>
 bLdN 18 v14 S14 fun v15 S15 =>
 bSt 18 v1 v15 S15 fun _ S16 =>
 finV (resVX Env.nil Env.nil S16.h [.cell (.c v1) (some 18), .tmp (.c (.b true))]) S16 k)
def Z_52 (C : CS) (vs : List AV) (S : St) (k : KS) : Prop := ar2 ((fun (C : CS) (k : KS) (a0 a1 : AV) (S : St) => Y_52_1 C k a0 a1 S) C k) vs S
theorem z_52 {F : Nat → Option AFn} (h : ∀ f, Nat.beq f 4 = false → F f = tbl f) : FnOk F 52 Z_52 := fn2 ((h 52 (by kernel_rfl)).trans c52) (Y := fun (C : CS) (k : KS) (a0 a1 : AV) (S : St) => Y_52_1 C k a0 a1 S) fun C l t S k => xf (Y_52_1 C k (l 0) (l 1) S)
theorem c53 : tbl 53 = some (fnOf (tbl 53)) := by kernel_rfl
/-- slices.Clone[[]tarpaulin/api.Case,tarpaulin/api.Case] -/
def Y_53_1 (C : CS) (k : KS) (x0 : AV) (S : St) : Prop :=
 sR (.eq false .slnil) [x0, (.sl none 0 0 0)] S fun v1 S1 =>
 condX v1
 (k (.sl none 0 0 0) S1)
 (sAl (.bslice [.b false, .i .i64 0, .i .i64 0] 0 3 []) [] S1 fun v2 S2 =>
 bApp 3 24 v2 x0 S2 fun v3 S3 =>
 k v3 S3)
def Z_53 (C : CS) (vs : List AV) (S : St) (k : KS) : Prop := ar1 ((fun (C : CS) (k : KS) (a0 : AV) (S : St) => Y_53_1 C k a0 S) C k) vs S
theorem z_53 {F : Nat → Option AFn} (h : ∀ f, Nat.beq f 4 = false → F f = tbl f) : FnOk F 53 Z_53 := fn1 ((h 53 (by kernel_rfl)).trans c53) (Y := fun (C : CS) (k : KS) (a0 : AV) (S : St) => Y_53_1 C k a0 S) fun C l t S k => xf (Y_53_1 C k (l 0) S)
theorem c54 : tbl 54 = some (fnOf (tbl 54)) := by kernel_rfl
/-- tarpaulin/prog.Check -/
def Y_54_1 (C : CS) (k : KS) (x0 : AV) (S : St) : Prop :=
 bBox x0 S fun v1 S1 =>
 bLd v1 S1 fun v2 S2 =>
 bLen v2 S2 fun v3 S3 =>
 bGt v3 (.i .i64 100) S3 fun v4 S4 =>
 gdO v4 false (bLd v1 S4) S4 fun v5 S5 =>
 gdO v4 false (sR (.mkfn 99 0) [v1] S5) S5 fun v6 S6 =>
 gdO v4 false (C 55 [v5, v6] S6) S6 fun v7 S7 =>
 bPick v4 (.b true) v7 S7 fun v8 S8 =>
 condX v8
 (k (.i .i64 1) S8)
 (k (.i .i64 0) S8)
def Z_54 (C : CS) (vs : List AV) (S : St) (k : KS) : Prop := ar1 ((fun (C : CS) (k : KS) (a0 : AV) (S : St) => Y_54_1 C k a0 S) C k) vs S
theorem z_54 {F : Nat → Option AFn} (h : ∀ f, Nat.beq f 4 = false → F f = tbl f) : FnOk F 54 Z_54 := fn1 ((h 54 (by kernel_rfl)).trans c54) (Y := fun (C : CS) (k : KS) (a0 : AV) (S : St) => Y_54_1 C k a0 S) fun C l t S k => xf (Y_54_1 C k (l 0) S)
theorem c55 : tbl 55 = some (fnOf (tbl 55)) := by kernel_rfl
/-- slices.ContainsFunc[[]tarpaulin/api.Instr,tarpaulin/api.Instr] -/
def Y_55_1 (C : CS) (k : KS) (x0 x1 : AV) (S : St) : Prop :=
 C 101 [x0, x1] S fun v1 S1 =>
 bGe v1 (.i .i64 0) S1 fun v2 S2 =>
 k v2 S2
def Z_55 (C : CS) (vs : List AV) (S : St) (k : KS) : Prop := ar2 ((fun (C : CS) (k : KS) (a0 a1 : AV) (S : St) => Y_55_1 C k a0 a1 S) C k) vs S
theorem z_55 {F : Nat → Option AFn} (h : ∀ f, Nat.beq f 4 = false → F f = tbl f) : FnOk F 55 Z_55 := fn2 ((h 55 (by kernel_rfl)).trans c55) (Y := fun (C : CS) (k : KS) (a0 a1 : AV) (S : St) => Y_55_1 C k a0 a1 S) fun C l t S k => xf (Y_55_1 C k (l 0) (l 1) S)
theorem c56 : tbl 56 = some (fnOf (tbl 56)) := by kernel_rfl
/-- tarpaulin/prog.All$1 -/
def Y_56_1 (C : CS) (k : KS) (x0 x1 : AV) (S : St) : Prop :=
 bBox x0 S fun v1 S1 =>
 bLdN 6 v1 S1 fun v2 S2 =>
 C 57 [v2] S2 fun v3 S3 =>
 bLd x1 S3 fun v4 S4 =>
 bLen v4 S4 fun v5 S5 =>
 bGe v3 v5 S5 fun v6 S6 =>
 bif (bif (againX (.ld none) [x1] S3 S1) then true else false) then (k v6 S6) else False
def Z_56 (C : CS) (vs : List AV) (S : St) (k : KS) : Prop := ar2 ((fun (C : CS) (k : KS) (a0 a1 : AV) (S : St) => Y_56_1 C k a0 a1 S) C k) vs S
theorem z_56 {F : Nat → Option AFn} (h : ∀ f, Nat.beq f 4 = false → F f = tbl f) : FnOk F 56 Z_56 := fn2 ((h 56 (by kernel_rfl)).trans c56) (Y := fun (C : CS) (k : KS) (a0 a1 : AV) (S : St) => Y_56_1 C k a0 a1 S) fun C l t S k => xf (Y_56_1 C k (l 0) (l 1) S)
theorem c57 : tbl 57 = some (fnOf (tbl 57)) := by kernel_rfl
/-- tarpaulin/prog.starts -/
def Y_57_1 (C : CS) (k : KS) (x0 : AV) (S : St) : Prop :=
 bBox x0 S fun v1 S1 =>
 bFad 0 v1 S1 fun v2 S2 =>
 bLd v2 S2 fun v3 S3 =>
 bEq v3 (.i .i64 8) S3 fun v4 S4 =>
 condX v4
 (bFad 2 v1 S4 fun v5 S5 =>
 bLd v5 S5 fun v6 S6 =>
 k v6 S6)
 (bEq v3 (.i .i64 19) S4 fun v7 S7 =>
 condX v7
 (condX v7
 (bFad 3 v1 S7 fun v8 S8 =>
 bLd v8 S8 fun v9 S9 =>
 k v9 S9)
 (k (.i .i64 (-1)) S7))
 (bEq v3 (.i .i64 31) S7 fun v10 S10 =>
 condX v10
 (bFad 3 v1 S10 fun v11 S11 =>
 bLd v11 S11 fun v12 S12 =>
 k v12 S12)
 (k (.i .i64 (-1)) S10)))
def Z_57 (C : CS) (vs : List AV) (S : St) (k : KS) : Prop := ar1 ((fun (C : CS) (k : KS) (a0 : AV) (S : St) => Y_57_1 C k a0 S) C k) vs S
theorem z_57 {F : Nat → Option AFn} (h : ∀ f, Nat.beq f 4 = false → F f = tbl f) : FnOk F 57 Z_57 := fn1 ((h 57 (by kernel_rfl)).trans c57) (Y := fun (C : CS) (k : KS) (a0 : AV) (S : St) => Y_57_1 C k a0 S) fun C l t S k => xf (Y_57_1 C k (l 0) S)
theorem c58 : tbl 58 = some (fnOf (tbl 58)) := by kernel_rfl
/-- tarpaulin/arena.New[tarpaulin/task.Task] -/
def Y_58_1 (C : CS) (k : KS) (x0 : AV) (S : St) : Prop :=
 bLt x0 (.i .i64 1) S fun v1 S1 =>
 gdO v1 false (sMv [x0] S1) S1 fun v2 S2 =>
 gdO v1 false (bGt v2 (.i .i64 1000) S2) S2 fun v3 S3 =>
 bPick v1 (.b true) v3 S3 fun v4 S4 =>
 condX v4
 (k (.tup [(.p none), (.i .i64 1)]) S4)
 (sBuild [.sl none 0 0 0, .i .i64 0] [(1, 1)] [x0] S4 fun v5 S5 =>
 bBox v5 S5 fun v6 S6 =>
 k (.tup [v6, (.i .i64 0)]) S6)
def Z_58 (C : CS) (vs : List AV) (S : St) (k : KS) : Prop := ar1 ((fun (C : CS) (k : KS) (a0 : AV) (S : St) => Y_58_1 C k a0 S) C k) vs S
theorem z_58 {F : Nat → Option AFn} (h : ∀ f, Nat.beq f 4 = false → F f = tbl f) : FnOk F 58 Z_58 := fn1 ((h 58 (by kernel_rfl)).trans c58) (Y := fun (C : CS) (k : KS) (a0 : AV) (S : St) => Y_58_1 C k a0 S) fun C l t S k => xf (Y_58_1 C k (l 0) S)
theorem c59 : tbl 59 = some (fnOf (tbl 59)) := by kernel_rfl
/-- tarpaulin/ready.New -/
def Y_59_1 (C : CS) (k : KS) (S : St) : Prop :=
 sBuild [.sl none 0 0 0] [] [] S fun v1 S1 =>
 bBox v1 S1 fun v2 S2 =>
 k v2 S2
def Z_59 (C : CS) (vs : List AV) (S : St) (k : KS) : Prop := ar0 ((fun (C : CS) (k : KS) (S : St) => Y_59_1 C k S) C k) vs S
theorem z_59 {F : Nat → Option AFn} (h : ∀ f, Nat.beq f 4 = false → F f = tbl f) : FnOk F 59 Z_59 := fn0 ((h 59 (by kernel_rfl)).trans c59) (Y := fun (C : CS) (k : KS) (S : St) => Y_59_1 C k S) fun C l t S k => xf (Y_59_1 C k S)
theorem c60 : tbl 60 = some (fnOf (tbl 60)) := by kernel_rfl
/-- tarpaulin/expire.New -/
def Y_60_1 (C : CS) (k : KS) (S : St) : Prop :=
 C 102 [] S fun v1 S1 =>
 sAl .mkmap [] S1 fun v2 S2 =>
 sBuild [.p none, .m none] [(0, 1), (1, 1)] [v1, v2] S2 fun v3 S3 =>
 bBox v3 S3 fun v4 S4 =>
 k v4 S4
def Z_60 (C : CS) (vs : List AV) (S : St) (k : KS) : Prop := ar0 ((fun (C : CS) (k : KS) (S : St) => Y_60_1 C k S) C k) vs S
theorem z_60 {F : Nat → Option AFn} (h : ∀ f, Nat.beq f 4 = false → F f = tbl f) : FnOk F 60 Z_60 := fn0 ((h 60 (by kernel_rfl)).trans c60) (Y := fun (C : CS) (k : KS) (S : St) => Y_60_1 C k S) fun C l t S k => xf (Y_60_1 C k S)
theorem c61 : tbl 61 = some (fnOf (tbl 61)) := by kernel_rfl
/-- tarpaulin/tree.New -/
def Y_61_1 (C : CS) (k : KS) (S : St) : Prop :=
 sBuild [.sl none 0 0 0] [] [] S fun v1 S1 =>
 bBox v1 S1 fun v2 S2 =>
 k v2 S2
def Z_61 (C : CS) (vs : List AV) (S : St) (k : KS) : Prop := ar0 ((fun (C : CS) (k : KS) (S : St) => Y_61_1 C k S) C k) vs S
theorem z_61 {F : Nat → Option AFn} (h : ∀ f, Nat.beq f 4 = false → F f = tbl f) : FnOk F 61 Z_61 := fn0 ((h 61 (by kernel_rfl)).trans c61) (Y := fun (C : CS) (k : KS) (S : St) => Y_61_1 C k S) fun C l t S k => xf (Y_61_1 C k S)
theorem c62 : tbl 62 = some (fnOf (tbl 62)) := by kernel_rfl
/-- (*tarpaulin/ctx.Set).add -/
def Y_62_3 (C : CS) (k : KS) (x0 x4 : AV) (S : St) : Prop :=
 bFad 8 x4 S fun v1 S1 =>
 bSt 1 v1 (.i .i64 (-1)) S1 fun _ S2 =>
 bNil x0 S2 fun v3 S3 =>
 bFad 4 v3 S3 fun v4 S4 =>
 bLd v4 S4 fun v5 S5 =>
 bFad 0 x4 S5 fun v6 S6 =>
 bLd v6 S6 fun v7 S7 =>
 bNil x0 S7 fun v8 S8 =>
 bFad 2 v8 S8 fun v9 S9 =>
 bLd v9 S9 fun v10 S10 =>
 bLen v10 S10 fun v11 S11 =>
 sE .mset [v5, v7, v11] S11 fun _ S12 =>
 bNil x0 S12 fun v13 S13 =>
 bFad 2 v13 S13 fun v14 S14 =>
 bLd v14 S14 fun v15 S15 =>
 bLdN 9 x4 S15 fun v16 S16 =>
 sAl (.bslice [.i .i64 0, .b false, .p none, .i .i64 0, .i .i64 0, .i .i64 0, .b false, .b false, .i .i64 0] 1 9 [0]) [v16] S16 fun v17 S17 =>
 bApp 9 64 v15 v17 S17 fun v18 S18 =>
 bNil x0 S18 fun v19 S19 =>
 bFad 2 v19 S19 fun v20 S20 =>
 bSt 1 v20 v18 S20 fun _ S21 =>
 bNil x0 S21 fun v22 S22 =>
 bFad 2 v22 S22 fun v23 S23 =>
 bLd v23 S23 fun v24 S24 =>
 bLen v24 S24 fun v25 S25 =>
 bSub v25 (.i .i64 1) S25 fun v26 S26 =>
 k v26 S26
def Y_62_2 (C : CS) (k : KS) (x0 x2 x4 : AV) (S : St) : Prop :=
 bNil x0 S fun v1 S1 =>
 bFad 1 v1 S1 fun v2 S2 =>
 bLd v2 S2 fun v3 S3 =>
 bFad 1 x4 S3 fun v4 S4 =>
 bLd v4 S4 fun v5 S5 =>
 bNot v5 S5 fun v6 S6 =>
 C 103 [v3, x2, v6] S6 fun v7 S7 =>
 bExt 0 v7 S7 fun v8 S8 =>
 bExt 1 v7 S8 fun v9 S9 =>
 bFad 0 x4 S9 fun v10 S10 =>
 bSt 1 v10 v8 S10 fun _ S11 =>
 Y_62_3 C k x0 x4 S11
def Y_62_1 (C : CS) (k : KS) (x0 x1 x2 : AV) (S : St) : Prop :=
 bBox x1 S fun v1 S1 =>
 Y_62_2 C k x0 x2 v1 S1
def Z_62 (C : CS) (vs : List AV) (S : St) (k : KS) : Prop := ar3 ((fun (C : CS) (k : KS) (a0 a1 a2 : AV) (S : St) => Y_62_1 C k a0 a1 a2 S) C k) vs S
theorem z_62 {F : Nat → Option AFn} (h : ∀ f, Nat.beq f 4 = false → F f = tbl f) : FnOk F 62 Z_62 := fn3 ((h 62 (by kernel_rfl)).trans c62) (Y := fun (C : CS) (k : KS) (a0 a1 a2 : AV) (S : St) => Y_62_1 C k a0 a1 a2 S) fun C l t S k => xS (fun l t S => xS (fun l t S => xf (Y_62_3 C k (l 0) (l 4) S)) (xf (Y_62_2 C k (l 0) (l 2) (l 4) S))) (xf (Y_62_1 C k (l 0) (l 1) (l 2) S))
theorem c63 : tbl 63 = some (fnOf (tbl 63)) := by kernel_rfl
/-- slices.Clone[[]tarpaulin/api.Instr,tarpaulin/api.Instr] -/
def Y_63_1 (C : CS) (k : KS) (x0 : AV) (S : St) : Prop :=
 sR (.eq false .slnil) [x0, (.sl none 0 0 0)] S fun v1 S1 =>
 condX v1
 (k (.sl none 0 0 0) S1)
 (sAl (.bslice [.i .i64 0, .i .i64 0, .i .i64 0, .i .i64 0, .sl none 0 0 0, .b false] 0 6 []) [] S1 fun v2 S2 =>
 bApp 6 64 v2 x0 S2 fun v3 S3 =>
 k v3 S3)
def Z_63 (C : CS) (vs : List AV) (S : St) (k : KS) : Prop := ar1 ((fun (C : CS) (k : KS) (a0 : AV) (S : St) => Y_63_1 C k a0 S) C k) vs S
theorem z_63 {F : Nat → Option AFn} (h : ∀ f, Nat.beq f 4 = false → F f = tbl f) : FnOk F 63 Z_63 := fn1 ((h 63 (by kernel_rfl)).trans c63) (Y := fun (C : CS) (k : KS) (a0 : AV) (S : St) => Y_63_1 C k a0 S) fun C l t S k => xf (Y_63_1 C k (l 0) S)
theorem c64 : tbl 64 = some (fnOf (tbl 64)) := by kernel_rfl
/-- (*tarpaulin/arena.Arena[tarpaulin/task.Task]).Add -/
def Y_64_1 (C : CS) (k : KS) (x0 x1 : AV) (S : St) : Prop :=
 bBox x1 S fun v1 S1 =>
 C 104 [x0] S1 fun v2 S2 =>
 bEq v2 (.i .i64 0) S2 fun v3 S3 =>
 condX v3
 (k (.tup [(.i .i64 0), (.i .i64 3)]) S3)
 (bNil x0 S3 fun v4 S4 =>
 bFad 0 v4 S4 fun v5 S5 =>
 bLd v5 S5 fun v6 S6 =>
 bLdN 18 v1 S6 fun v7 S7 =>
 sAl (.bslice [.i .i64 0, .i .i64 0, .i .i64 0, .i .i64 0, .i .i64 0, .i .i64 0, .i .i64 0, .i .i64 0, .i .i64 0, .i .i64 0, .i .i64 0, .i .i64 0, .i .i64 0, .i .i64 0, .i .i64 0, .i .i64 0, .sl none 0 0 0, .b false] 1 18 [0]) [v7] S7 fun v8 S8 =>
 bApp 18 160 v6 v8 S8 fun v9 S9 =>
 bNil x0 S9 fun v10 S10 =>
 bFad 0 v10 S10 fun v11 S11 =>
 bSt 1 v11 v9 S11 fun _ S12 =>
 bNil x0 S12 fun v13 S13 =>
 bFad 0 v13 S13 fun v14 S14 =>
 bLd v14 S14 fun v15 S15 =>
 bLen v15 S15 fun v16 S16 =>
 bSub v16 (.i .i64 1) S16 fun v17 S17 =>
 k (.tup [v17, (.i .i64 0)]) S17)
def Z_64 (C : CS) (vs : List AV) (S : St) (k : KS) : Prop := ar2 ((fun (C : CS) (k : KS) (a0 a1 : AV) (S : St) => Y_64_1 C k a0 a1 S) C k) vs S
theorem z_64 {F : Nat → Option AFn} (h : ∀ f, Nat.beq f 4 = false → F f = tbl f) : FnOk F 64 Z_64 := fn2 ((h 64 (by kernel_rfl)).trans c64) (Y := fun (C : CS) (k : KS) (a0 a1 : AV) (S : St) => Y_64_1 C k a0 a1 S) fun C l t S k => xf (Y_64_1 C k (l 0) (l 1) S)
theorem c65 : tbl 65 = some (fnOf (tbl 65)) := by kernel_rfl
/-- (*tarpaulin/ready.List).Add -/
def Y_65_1 (C : CS) (k : KS) (x0 x1 : AV) (S : St) : Prop :=
 sR (.eq false .ptr) [x0, (.p none)] S fun v1 S1 =>
 gdO v1 false (sMv [x1] S1) S1 fun v2 S2 =>
 gdO v1 false (bLt v2 (.i .i64 0) S2) S2 fun v3 S3 =>
 bPick v1 (.b true) v3 S3 fun v4 S4 =>
 gdO v4 false (sMv [x0] S4) S4 fun v5 S5 =>
 gdO v4 false (bNil v5 S5) S5 fun v6 S6 =>
 gdO v4 false (bFad 0 v6 S6) S6 fun v7 S7 =>
 gdO v4 false (bLd v7 S7) S7 fun v8 S8 =>
 gdO v4 false (sMv [x1] S8) S8 fun v9 S9 =>
 gdO v4 false (C 105 [v8, v9] S9) S9 fun v10 S10 =>
 bPick v4 (.b true) v10 S10 fun v11 S11 =>
 condX v11
 (k (.i .i64 1) S11)
 (bNil x0 S11 fun v12 S12 =>
 bFad 0 v12 S12 fun v13 S13 =>
 bLd v13 S13 fun v14 S14 =>
 sAl (.bslice [.i .i64 0] 1 1 [0]) [x1] S14 fun v15 S15 =>
 bApp 1 8 v14 v15 S15 fun v16 S16 =>
 bNil x0 S16 fun v17 S17 =>
 bFad 0 v17 S17 fun v18 S18 =>
 bSt 1 v18 v16 S18 fun _ S19 =>
 k (.i .i64 0) S19)
def Z_65 (C : CS) (vs : List AV) (S : St) (k : KS) : Prop := ar2 ((fun (C : CS) (k : KS) (a0 a1 : AV) (S : St) => Y_65_1 C k a0 a1 S) C k) vs S
theorem z_65 {F : Nat → Option AFn} (h : ∀ f, Nat.beq f 4 = false → F f = tbl f) : FnOk F 65 Z_65 := fn2 ((h 65 (by kernel_rfl)).trans c65) (Y := fun (C : CS) (k : KS) (a0 a1 : AV) (S : St) => Y_65_1 C k a0 a1 S) fun C l t S k => xf (Y_65_1 C k (l 0) (l 1) S)
theorem c66 : tbl 66 = some (fnOf (tbl 66)) := by kernel_rfl
/-- slices.Clone[[]tarpaulin/deal.Deal,tarpaulin/deal.Deal] -/
def Y_66_1 (C : CS) (k : KS) (x0 : AV) (S : St) : Prop :=
 sR (.eq false .slnil) [x0, (.sl none 0 0 0)] S fun v1 S1 =>
 condX v1
 (k (.sl none 0 0 0) S1)
 (sAl (.bslice [.i .i64 0, .i .i64 0, .i .i64 0, .b false, .i .i64 0] 0 5 []) [] S1 fun v2 S2 =>
 bApp 5 40 v2 x0 S2 fun v3 S3 =>
 k v3 S3)
def Z_66 (C : CS) (vs : List AV) (S : St) (k : KS) : Prop := ar1 ((fun (C : CS) (k : KS) (a0 : AV) (S : St) => Y_66_1 C k a0 S) C k) vs S
theorem z_66 {F : Nat → Option AFn} (h : ∀ f, Nat.beq f 4 = false → F f = tbl f) : FnOk F 66 Z_66 := fn1 ((h 66 (by kernel_rfl)).trans c66) (Y := fun (C : CS) (k : KS) (a0 : AV) (S : St) => Y_66_1 C k a0 S) fun C l t S k => xf (Y_66_1 C k (l 0) S)
theorem c67 : tbl 67 = some (fnOf (tbl 67)) := by kernel_rfl
/-- tarpaulin/clock.Add -/
def Y_67_1 (C : CS) (k : KS) (x0 x1 : AV) (S : St) : Prop :=
 C 106 [x0] S fun v1 S1 =>
 C 106 [x1] S1 fun v2 S2 =>
 bGt v2 (.i .i64 0) S2 fun v3 S3 =>
 gdO v3 true (sMv [v1] S3) S3 fun v4 S4 =>
 gdO v3 true (sMv [v2] S4) S4 fun v5 S5 =>
 gdO v3 true (bSub (.i .i64 4611686018427387904) v5 S5) S5 fun v6 S6 =>
 gdO v3 true (bGt v4 v6 S6) S6 fun v7 S7 =>
 bPick v3 v7 (.b false) S7 fun v8 S8 =>
 condX v8
 (k (.i .i64 4611686018427387904) S8)
 (bLt v2 (.i .i64 0) S8 fun v9 S9 =>
 gdO v9 true (sMv [v1] S9) S9 fun v10 S10 =>
 gdO v9 true (sMv [v2] S10) S10 fun v11 S11 =>
 gdO v9 true (bSub (.i .i64 (-4611686018427387904)) v11 S11) S11 fun v12 S12 =>
 gdO v9 true (bLt v10 v12 S12) S12 fun v13 S13 =>
 bPick v9 v13 (.b false) S13 fun v14 S14 =>
 condX v14
 (k (.i .i64 (-4611686018427387904)) S14)
 (bAdd v1 v2 S14 fun v15 S15 =>
 k v15 S15))
def Z_67 (C : CS) (vs : List AV) (S : St) (k : KS) : Prop := ar2 ((fun (C : CS) (k : KS) (a0 a1 : AV) (S : St) => Y_67_1 C k a0 a1 S) C k) vs S
theorem z_67 {F : Nat → Option AFn} (h : ∀ f, Nat.beq f 4 = false → F f = tbl f) : FnOk F 67 Z_67 := fn2 ((h 67 (by kernel_rfl)).trans c67) (Y := fun (C : CS) (k : KS) (a0 a1 : AV) (S : St) => Y_67_1 C k a0 a1 S) fun C l t S k => xf (Y_67_1 C k (l 0) (l 1) S)
theorem c68 : tbl 68 = some (fnOf (tbl 68)) := by kernel_rfl
/-- (*tarpaulin/expire.Timers).Take -/
def Y_68_7 (C : CS) (k : KS) (x0 x1 x4 x6 x8 x10 : AV) (S : St) : Prop :=
 C 109 [x6, x10, x1] S fun v1 S1 =>
 bExt 0 v1 S1 fun v2 S2 =>
 bExt 1 v1 S2 fun v3 S3 =>
 bEq v3 (.i .i64 0) S3 fun v4 S4 =>
 gdO v4 true (sMv [v2] S4) S4 fun v5 S5 =>
 gdO v4 true (sMv [x1] S5) S5 fun v6 S6 =>
 gdO v4 true (bGt v5 v6 S6) S6 fun v7 S7 =>
 bPick v4 v7 (.b false) S7 fun v8 S8 =>
 condX v8
 (bFad 0 x8 S8 fun v9 S9 =>
 bLd v9 S9 fun v10 S10 =>
 C 110 [x0, v10, v2, x10] S10 fun v11 S11 =>
 bFad 0 x8 S11 fun v12 S12 =>
 bLd v12 S12 fun v13 S13 =>
 sBuild [.i .i64 0, .i .i64 0, .i .i64 0] [(0, 1), (1, 1), (2, 1)] [v13, x6, x1] S13 fun v14 S14 =>
 bSt 3 x4 v14 S14 fun _ S15 =>
 finV (resVX Env.nil Env.nil S15.h [.cell (.c x4) (some 3), .tmp (.c (.b true))]) S15 k)
 (bFad 0 x8 S8 fun v16 S16 =>
 bLd v16 S16 fun v17 S17 =>
 sBuild [.i .i64 0, .i .i64 0, .i .i64 0] [(0, 1), (1, 1), (2, 1)] [v17, x6, x1] S17 fun v18 S18 =>
 bSt 3 x4 v18 S18 fun _ S19 =>
 finV (resVX Env.nil Env.nil S19.h [.cell (.c x4) (some 3), .tmp (.c (.b true))]) S19 k)
def Y_68_6 (C : CS) (k : KS) (x0 x1 x4 x6 x8 x10 : AV) (S : St) : Prop :=
 bNil x0 S fun v1 S1 =>
 bFad 1 v1 S1 fun v2 S2 =>
 bLd v2 S2 fun v3 S3 =>
 bFad 0 x8 S3 fun v4 S4 =>
 bLd v4 S4 fun v5 S5 =>
 sE .mdel [v3, v5] S5 fun _ S6 =>
 Y_68_7 C k x0 x1 x4 x6 x8 x10 S6
def Y_68_5 (C : CS) (k : KS) (x0 x1 x4 x6 x8 : AV) (S : St) : Prop :=
 bNil x0 S fun v1 S1 =>
 bFad 1 v1 S1 fun v2 S2 =>
 bLd v2 S2 fun v3 S3 =>
 bFad 0 x8 S3 fun v4 S4 =>
 bLd v4 S4 fun v5 S5 =>
 sR (.lkup (.i .i64 0) false) [v3, v5] S5 fun v6 S6 =>
 Y_68_6 C k x0 x1 x4 x6 x8 v6 S6
def Y_68_4 (C : CS) (k : KS) (x0 x1 x4 x6 : AV) (S : St) : Prop :=
 bNil x0 S fun v1 S1 =>
 bFad 0 v1 S1 fun v2 S2 =>
 bLd v2 S2 fun v3 S3 =>
 C 108 [v3] S3 fun v4 S4 =>
 bExt 0 v4 S4 fun v5 S5 =>
 bExt 1 v4 S5 fun v6 S6 =>
 bAlloc [.i .i64 0, .i .i64 0, .i .i64 0] S6 fun v7 S7 =>
 bSt 3 v7 v5 S7 fun _ S8 =>
 Y_68_5 C k x0 x1 x4 x6 v7 S8
def Y_68_3 (C : CS) (k : KS) (x0 x1 x4 x6 x7 : AV) (S : St) : Prop :=
 bNot x7 S fun v1 S1 =>
 gdO v1 false (sMv [x1] S1) S1 fun v2 S2 =>
 gdO v1 false (bLt v2 (.i .i64 0) S2) S2 fun v3 S3 =>
 bPick v1 (.b true) v3 S3 fun v4 S4 =>
 gdO v4 false (sMv [x6] S4) S4 fun v5 S5 =>
 gdO v4 false (sMv [x1] S5) S5 fun v6 S6 =>
 gdO v4 false (bGt v5 v6 S6) S6 fun v7 S7 =>
 bPick v4 (.b true) v7 S7 fun v8 S8 =>
 condX v8
 (sBuild [.i .i64 0, .i .i64 0, .i .i64 0] [] [] S8 fun v9 S9 =>
 bSt 3 x4 v9 S9 fun _ S10 =>
 finV (resVX Env.nil Env.nil S10.h [.cell (.c x4) (some 3), .tmp (.c (.b false))]) S10 k)
 (Y_68_4 C k x0 x1 x4 x6 S8)
def Y_68_2 (C : CS) (k : KS) (x0 x1 x4 : AV) (S : St) : Prop :=
 C 107 [x0] S fun v1 S1 =>
 bExt 0 v1 S1 fun v2 S2 =>
 bExt 1 v1 S2 fun v3 S3 =>
 Y_68_3 C k x0 x1 x4 v2 v3 S3
def Y_68_1 (C : CS) (k : KS) (x0 x1 : AV) (S : St) : Prop :=
 bAlloc [.i .i64 0, .i .i64 0, .i .i64 0] S fun v1 S1 =>
 Y_68_2 C k x0 x1 v1 S1
def Z_68 (C : CS) (vs : List AV) (S : St) (k : KS) : Prop := ar2 ((fun (C : CS) (k : KS) (a0 a1 : AV) (S : St) => Y_68_1 C k a0 a1 S) C k) vs S
theorem z_68 {F : Nat → Option AFn} (h : ∀ f, Nat.beq f 4 = false → F f = tbl f) : FnOk F 68 Z_68 := fn2 ((h 68 (by kernel_rfl)).trans c68) (Y := fun (C : CS) (k : KS) (a0 a1 : AV) (S : St) => Y_68_1 C k a0 a1 S) fun C l t S k => xS (fun l t S => xS (fun l t S => xS (fun l t S => xS (fun l t S => xS (fun l t S => xS (fun l t S => xf (Y_68_7 C k (l 0) (l 1) (l 4) (l 6) (l 8) (l 10) S)) (xf (Y_68_6 C k (l 0) (l 1) (l 4) (l 6) (l 8) (l 10) S))) (xf (Y_68_5 C k (l 0) (l 1) (l 4) (l 6) (l 8) S))) (xf (Y_68_4 C k (l 0) (l 1) (l 4) (l 6) S))) (xf (Y_68_3 C k (l 0) (l 1) (l 4) (l 6) (l 7) S))) (xf (Y_68_2 C k (l 0) (l 1) (l 4) S))) (xf (Y_68_1 C k (l 0) (l 1) S))
theorem c69 : tbl 69 = some (fnOf (tbl 69)) := by kernel_rfl
/-- (*tarpaulin/chanq.Chan).Put -/
def Y_69_1 (C : CS) (k : KS) (x0 x1 : AV) (S : St) : Prop :=
 sR (.eq false .ptr) [x0, (.p none)] S fun v1 S1 =>
 gdO v1 false (sMv [x0] S1) S1 fun v2 S2 =>
 gdO v1 false (bNil v2 S2) S2 fun v3 S3 =>
 gdO v1 false (bFad 3 v3 S3) S3 fun v4 S4 =>
 gdO v1 false (bLd v4 S4) S4 fun v5 S5 =>
 gdO v1 false (bNot v5 S5) S5 fun v6 S6 =>
 bPick v1 (.b true) v6 S6 fun v7 S7 =>
 condX v7
 (k (.tup [(.sl none 0 0 0), (.b false)]) S7)
 (C 111 [x0, x1] S7 fun v8 S8 =>
 bLen v8 S8 fun v9 S9 =>
 bGt v9 (.i .i64 0) S9 fun v10 S10 =>
 condX v10
 (k (.tup [v8, (.b true)]) S10)
 (bNil x0 S10 fun v11 S11 =>
 bFad 0 v11 S11 fun v12 S12 =>
 bLd v12 S12 fun v13 S13 =>
 C 112 [v13, x1] S13 fun v14 S14 =>
 k (.tup [(.sl none 0 0 0), v14]) S14))
def Z_69 (C : CS) (vs : List AV) (S : St) (k : KS) : Prop := ar2 ((fun (C : CS) (k : KS) (a0 a1 : AV) (S : St) => Y_69_1 C k a0 a1 S) C k) vs S
theorem z_69 {F : Nat → Option AFn} (h : ∀ f, Nat.beq f 4 = false → F f = tbl f) : FnOk F 69 Z_69 := fn2 ((h 69 (by kernel_rfl)).trans c69) (Y := fun (C : CS) (k : KS) (a0 a1 : AV) (S : St) => Y_69_1 C k a0 a1 S) fun C l t S k => xf (Y_69_1 C k (l 0) (l 1) S)
theorem c70 : tbl 70 = some (fnOf (tbl 70)) := by kernel_rfl
/-- (*tarpaulin/ctx.Set).Lapse -/
def Y_70_1 (C : CS) (k : KS) (x0 x1 : AV) (S : St) : Prop :=
 C 113 [x0, x1] S fun v1 S1 =>
 bNot v1 S1 fun v2 S2 =>
 condX v2
 (k (.tup [(.sl none 0 0 0), (.sl none 0 0 0), (.i .i64 4)]) S2)
 (bNil x0 S2 fun v3 S3 =>
 bFad 2 v3 S3 fun v4 S4 =>
 bLd v4 S4 fun v5 S5 =>
 bIad 9 v5 x1 S5 fun v6 S6 =>
 bFad 7 v6 S6 fun v7 S7 =>
 bLd v7 S7 fun v8 S8 =>
 bNot v8 S8 fun v9 S9 =>
 condX v9
 (k (.tup [(.sl none 0 0 0), (.sl none 0 0 0), (.i .i64 1)]) S9)
 (C 114 [x0, x1, (.i .i64 2), (.i .i64 2)] S9 fun v10 S10 =>
 bExt 0 v10 S10 fun v11 S11 =>
 bExt 1 v10 S11 fun v12 S12 =>
 k (.tup [v11, v12, (.i .i64 0)]) S12))
def Z_70 (C : CS) (vs : List AV) (S : St) (k : KS) : Prop := ar2 ((fun (C : CS) (k : KS) (a0 a1 : AV) (S : St) => Y_70_1 C k a0 a1 S) C k) vs S
theorem z_70 {F : Nat → Option AFn} (h : ∀ f, Nat.beq f 4 = false → F f = tbl f) : FnOk F 70 Z_70 := fn2 ((h 70 (by kernel_rfl)).trans c70) (Y := fun (C : CS) (k : KS) (a0 a1 : AV) (S : St) => Y_70_1 C k a0 a1 S) fun C l t S k => xf (Y_70_1 C k (l 0) (l 1) S)
theorem c71 : tbl 71 = some (fnOf (tbl 71)) := by kernel_rfl
/-- (*tarpaulin/world.World).lapse -/
def Y_71_5 (C : CS) (k : KS) (k1 : AV → AV → AV → AV → St → Prop) (x0 x29 x30 x31 : AV) (S : St) : Prop :=
 bLt x31 x30 S fun v1 S1 =>
 condX v1
 (bIad 2 x29 x31 S1 fun v2 S2 =>
 bLdN 2 v2 S2 fun v3 S3 =>
 bAlloc [.i .i64 0, .i .i64 0] S3 fun v4 S4 =>
 bSt 2 v4 v3 S4 fun _ S5 =>
 bFad 1 v4 S5 fun v6 S6 =>
 bLd v6 S6 fun v7 S7 =>
 sBuild [.i .i64 0, .i .i64 0, .i .i64 0, .i .i64 0, .i .i64 0, .i .i64 0, .i .i64 0, .i .i64 0] [] [] S7 fun v8 S8 =>
 C 72 [x0, v7, v8] S8 fun v9 S9 =>
 bAdd x31 (.i .i64 1) S9 fun v10 S10 =>
 k1 x0 x29 x30 v10 S10)
 (k (.tup []) S1)
def Y_71_2 (C : CS) (k : KS) (x0 x2 : AV) (S : St) : Prop :=
 bLen x2 S fun v1 S1 =>
 lp4 (Y_71_5 C k) x0 x2 v1 (.i .i64 0) S1
def Y_71_9 (C : CS) (k : KS) (k1 : AV → AV → AV → AV → AV → St → Prop) (x0 x2 x10 x11 x12 : AV) (S : St) : Prop :=
 bLt x12 x11 S fun v1 S1 =>
 condX v1
 (bIad 4 x10 x12 S1 fun v2 S2 =>
 bLdN 4 v2 S2 fun v3 S3 =>
 bAlloc [.i .i64 0, .i .i64 0, .i .i64 0, .sl none 0 0 0] S3 fun v4 S4 =>
 bSt 4 v4 v3 S4 fun _ S5 =>
 bFad 0 v4 S5 fun v6 S6 =>
 bLd v6 S6 fun v7 S7 =>
 bFad 1 v4 S7 fun v8 S8 =>
 bLd v8 S8 fun v9 S9 =>
 bFad 2 v4 S9 fun v10 S10 =>
 bLd v10 S10 fun v11 S11 =>
 C 21 [x0, (.i .i64 7), (.i .i64 (-1)), v7, v9, v11] S11 fun v12 S12 =>
 bFad 3 v4 S12 fun v13 S13 =>
 bLd v13 S13 fun v14 S14 =>
 C 76 [x0, v14] S14 fun v15 S15 =>
 bAdd x12 (.i .i64 1) S15 fun v16 S16 =>
 k1 x0 x2 x10 x11 v16 S16)
 (Y_71_2 C k x0 x2 S1)
def Y_71_6 (C : CS) (k : KS) (x0 x1 x2 : AV) (S : St) : Prop :=
 bLen x1 S fun v1 S1 =>
 lp5 (Y_71_9 C k) x0 x2 x1 v1 (.i .i64 0) S1
def Z_71 (C : CS) (vs : List AV) (S : St) (k : KS) : Prop := ar3 ((fun (C : CS) (k : KS) (a0 a1 a2 : AV) (S : St) => Y_71_6 C k a0 a1 a2 S) C k) vs S
theorem z_71 {F : Nat → Option AFn} (h : ∀ f, Nat.beq f 4 = false → F f = tbl f) : FnOk F 71 Z_71 := fn3 ((h 71 (by kernel_rfl)).trans c71) (Y := fun (C : CS) (k : KS) (a0 a1 a2 : AV) (S : St) => Y_71_6 C k a0 a1 a2 S) fun C l t S k => xS (fun l t S => xS (fun l t S => xB (xL4 0 29 30 31 (Y_71_5 C k) (fun l t S k1 => xf (Y_71_5 C k k1 (l 0) (l 29) (l 30) (l 31) S)) (xf (lp4 (Y_71_5 C k) (l 0) (l 29) (l 30) (l 31) S)))) (xf (Y_71_2 C k (l 0) (l 2) S))) (xS (fun l t S => xB (xL5 0 2 10 11 12 (Y_71_9 C k) (fun l t S k1 => xf (Y_71_9 C k k1 (l 0) (l 2) (l 10) (l 11) (l 12) S)) (xf (lp5 (Y_71_9 C k) (l 0) (l 2) (l 10) (l 11) (l 12) S)))) (xf (Y_71_6 C k (l 0) (l 1) (l 2) S)))
theorem c72 : tbl 72 = some (fnOf (tbl 72)) := by kernel_rfl
/-- (*tarpaulin/world.World).start -/
def Y_72_1 (C : CS) (k : KS) (x0 x1 x2 : AV) (S : St) : Prop :=
 bBox x2 S fun v1 S1 =>
 bNil x0 S1 fun v2 S2 =>
 bFad 2 v2 S2 fun v3 S3 =>
 bLd v3 S3 fun v4 S4 =>
 bLdN 8 v1 S4 fun v5 S5 =>
 C 37 [v4, x1, v5] S5 fun v6 S6 =>
 bExt 0 v6 S6 fun v7 S7 =>
 bExt 1 v6 S7 fun v8 S8 =>
 bEq v8 (.i .i64 0) S8 fun v9 S9 =>
 condX v9
 (C 21 [x0, (.i .i64 5), v7, x1, (.i .i64 0), (.i .i64 0)] S9 fun v10 S10 =>
 k (.tup [v7, v8]) S10)
 (k (.tup [v7, v8]) S9)
def Z_72 (C : CS) (vs : List AV) (S : St) (k : KS) : Prop := ar3 ((fun (C : CS) (k : KS) (a0 a1 a2 : AV) (S : St) => Y_72_1 C k a0 a1 a2 S) C k) vs S
theorem z_72 {F : Nat → Option AFn} (h : ∀ f, Nat.beq f 4 = false → F f = tbl f) : FnOk F 72 Z_72 := fn3 ((h 72 (by kernel_rfl)).trans c72) (Y := fun (C : CS) (k : KS) (a0 a1 a2 : AV) (S : St) => Y_72_1 C k a0 a1 a2 S) fun C l t S k => xf (Y_72_1 C k (l 0) (l 1) (l 2) S)
theorem c73 : tbl 73 = some (fnOf (tbl 73)) := by kernel_rfl
/-- (*tarpaulin/world.World).went -/
def Y_73_1 (C : CS) (k : KS) (x0 x1 x2 x3 x4 : AV) (S : St) : Prop :=
 bNil x0 S fun v1 S1 =>
 bFad 7 v1 S1 fun v2 S2 =>
 bLd v2 S2 fun v3 S3 =>
 bNil x0 S3 fun v4 S4 =>
 bFad 9 v4 S4 fun v5 S5 =>
 bLd v5 S5 fun v6 S6 =>
 sBuild [.i .i64 0, .i .i64 0, .i .i64 0, .b false, .i .i64 0] [(0, 1), (1, 1), (2, 1), (3, 1), (4, 1)] [x1, x2, x3, x4, v6] S6 fun v7 S7 =>
 C 115 [v3, v7] S7 fun v8 S8 =>
 k (.tup []) S8
def Z_73 (C : CS) (vs : List AV) (S : St) (k : KS) : Prop := ar5 ((fun (C : CS) (k : KS) (a0 a1 a2 a3 a4 : AV) (S : St) => Y_73_1 C k a0 a1 a2 a3 a4 S) C k) vs S
theorem z_73 {F : Nat → Option AFn} (h : ∀ f, Nat.beq f 4 = false → F f = tbl f) : FnOk F 73 Z_73 := fn5 ((h 73 (by kernel_rfl)).trans c73) (Y := fun (C : CS) (k : KS) (a0 a1 a2 a3 a4 : AV) (S : St) => Y_73_1 C k a0 a1 a2 a3 a4 S) fun C l t S k => xf (Y_73_1 C k (l 0) (l 1) (l 2) (l 3) (l 4) S)
theorem c74 : tbl 74 = some (fnOf (tbl 74)) := by kernel_rfl
/-- (*tarpaulin/world.World).handle -/
def Y_74_1 (C : CS) (k : KS) (x0 x1 : AV) (S : St) : Prop :=
 bNil x0 S fun v1 S1 =>
 bFad 3 v1 S1 fun v2 S2 =>
 bLd v2 S2 fun v3 S3 =>
 C 116 [v3, x1] S3 fun v4 S4 =>
 k v4 S4
def Z_74 (C : CS) (vs : List AV) (S : St) (k : KS) : Prop := ar2 ((fun (C : CS) (k : KS) (a0 a1 : AV) (S : St) => Y_74_1 C k a0 a1 S) C k) vs S
theorem z_74 {F : Nat → Option AFn} (h : ∀ f, Nat.beq f 4 = false → F f = tbl f) : FnOk F 74 Z_74 := fn2 ((h 74 (by kernel_rfl)).trans c74) (Y := fun (C : CS) (k : KS) (a0 a1 : AV) (S : St) => Y_74_1 C k a0 a1 S) fun C l t S k => xf (Y_74_1 C k (l 0) (l 1) S)
theorem c75 : tbl 75 = some (fnOf (tbl 75)) := by kernel_rfl
/-- (*tarpaulin/timer.Set).Chan -/
def Y_75_1 (C : CS) (k : KS) (x0 x1 : AV) (S : St) : Prop :=
 C 117 [x0, x1] S fun v1 S1 =>
 bNot v1 S1 fun v2 S2 =>
 condX v2
 (k (.p none) S2)
 (bNil x0 S2 fun v3 S3 =>
 bFad 0 v3 S3 fun v4 S4 =>
 bLd v4 S4 fun v5 S5 =>
 bIad 4 v5 x1 S5 fun v6 S6 =>
 bFad 2 v6 S6 fun v7 S7 =>
 bLd v7 S7 fun v8 S8 =>
 k v8 S8)
def Z_75 (C : CS) (vs : List AV) (S : St) (k : KS) : Prop := ar2 ((fun (C : CS) (k : KS) (a0 a1 : AV) (S : St) => Y_75_1 C k a0 a1 S) C k) vs S
theorem z_75 {F : Nat → Option AFn} (h : ∀ f, Nat.beq f 4 = false → F f = tbl f) : FnOk F 75 Z_75 := fn2 ((h 75 (by kernel_rfl)).trans c75) (Y := fun (C : CS) (k : KS) (a0 a1 : AV) (S : St) => Y_75_1 C k a0 a1 S) fun C l t S k => xf (Y_75_1 C k (l 0) (l 1) S)
theorem c76 : tbl 76 = some (fnOf (tbl 76)) := by kernel_rfl
/-- (*tarpaulin/world.World).wake -/
def Y_76_7 (C : CS) (k : KS) (k1 : AV → AV → AV → AV → St → Prop) (x0 x10 x11 x12 : AV) (S : St) : Prop :=
 bAdd x12 (.i .i64 1) S fun v1 S1 =>
 k1 x0 x10 x11 v1 S1
def Y_76_14 (C : CS) (k : KS) (k1 : AV → AV → AV → AV → St → Prop) (x0 x5 x10 x11 x12 : AV) (S : St) : Prop :=
 bNil x0 S fun v1 S1 =>
 bFad 2 v1 S1 fun v2 S2 =>
 bLd v2 S2 fun v3 S3 =>
 bLdN 5 x5 S3 fun v4 S4 =>
 C 121 [v3, v4] S4 fun v5 S5 =>
 bFad 4 x5 S5 fun v6 S6 =>
 bLd v6 S6 fun v7 S7 =>
 condX v7
 (bFad 0 x5 S7 fun v8 S8 =>
 bLd v8 S8 fun v9 S9 =>
 C 21 [x0, (.i .i64 4), v9, (.i .i64 1), (.i .i64 0), (.i .i64 0)] S9 fun v10 S10 =>
 Y_76_7 C k k1 x0 x10 x11 x12 S10)
 (bFad 0 x5 S7 fun v11 S11 =>
 bLd v11 S11 fun v12 S12 =>
 bFad 1 x5 S12 fun v13 S13 =>
 bLd v13 S13 fun v14 S14 =>
 bFad 2 x5 S14 fun v15 S15 =>
 bLd v15 S15 fun v16 S16 =>
 bFad 3 x5 S16 fun v17 S17 =>
 bLd v17 S17 fun v18 S18 =>
 C 122 [v18] S18 fun v19 S19 =>
 C 21 [x0, (.i .i64 3), v12, v14, v16, v19] S19 fun v20 S20 =>
 bif (bif (againX (.ld none) [v11] S11 S19) then (bif (againX (.ld none) [v13] S13 S19) then (bif (againX (.ld none) [v15] S15 S19) then true else false) else false) else false) then (Y_76_7 C k k1 x0 x10 x11 x12 S20) else False)
def Y_76_13 (C : CS) (k : KS) (k1 : AV → AV → AV → AV → St → Prop) (x0 x5 x6 x10 x11 x12 : AV) (S : St) : Prop :=
 bFad 12 x6 S fun v1 S1 =>
 bLdN 6 v1 S1 fun v2 S2 =>
 bFad 4 x6 S2 fun v3 S3 =>
 bLdN 8 v3 S3 fun v4 S4 =>
 C 119 [x0, v2, v4] S4 fun v5 S5 =>
 bExt 0 v5 S5 fun v6 S6 =>
 bExt 1 v5 S6 fun v7 S7 =>
 condX v7
 (bFad 0 x5 S7 fun v8 S8 =>
 bLd v8 S8 fun v9 S9 =>
 C 120 [v6, v9] S9 fun v10 S10 =>
 Y_76_14 C k k1 x0 x5 x10 x11 x12 S10)
 (Y_76_14 C k k1 x0 x5 x10 x11 x12 S7)
def Y_76_12 (C : CS) (k : KS) (k1 : AV → AV → AV → AV → St → Prop) (x0 x5 x6 x10 x11 x12 : AV) (S : St) : Prop :=
 bLdN 18 x6 S fun v1 S1 =>
 bLdN 5 x5 S1 fun v2 S2 =>
 C 118 [x0, v1, v2] S2 fun v3 S3 =>
 Y_76_13 C k k1 x0 x5 x6 x10 x11 x12 S3
def Y_76_11 (C : CS) (k : KS) (k1 : AV → AV → AV → AV → St → Prop) (x0 x5 x6 x10 x11 x12 : AV) (S : St) : Prop :=
 bFad 2 x6 S fun v1 S1 =>
 bLd v1 S1 fun v2 S2 =>
 bNe v2 (.i .i64 1) S2 fun v3 S3 =>
 condX v3
 (Y_76_7 C k k1 x0 x10 x11 x12 S3)
 (Y_76_12 C k k1 x0 x5 x6 x10 x11 x12 S3)
def Y_76_10 (C : CS) (k : KS) (k1 : AV → AV → AV → AV → St → Prop) (x0 x5 x10 x11 x12 : AV) (S : St) : Prop :=
 bNil x0 S fun v1 S1 =>
 bFad 2 v1 S1 fun v2 S2 =>
 bLd v2 S2 fun v3 S3 =>
 bFad 0 x5 S3 fun v4 S4 =>
 bLd v4 S4 fun v5 S5 =>
 C 25 [v3, v5] S5 fun v6 S6 =>
 bExt 0 v6 S6 fun v7 S7 =>
 bExt 1 v6 S7 fun v8 S8 =>
 bAlloc [.i .i64 0, .i .i64 0, .i .i64 0, .i .i64 0, .i .i64 0, .i .i64 0, .i .i64 0, .i .i64 0, .i .i64 0, .i .i64 0, .i .i64 0, .i .i64 0, .i .i64 0, .i .i64 0, .i .i64 0, .i .i64 0, .sl none 0 0 0, .b false] S8 fun v9 S9 =>
 bSt 18 v9 v7 S9 fun _ S10 =>
 Y_76_11 C k k1 x0 x5 v9 x10 x11 x12 S10
def Y_76_9 (C : CS) (k : KS) (k1 : AV → AV → AV → AV → St → Prop) (x0 x10 x11 x12 : AV) (S : St) : Prop :=
 bIad 5 x10 x12 S fun v1 S1 =>
 bLdN 5 v1 S1 fun v2 S2 =>
 bAlloc [.i .i64 0, .i .i64 0, .i .i64 0, .b false, .b false] S2 fun v3 S3 =>
 bSt 5 v3 v2 S3 fun _ S4 =>
 Y_76_10 C k k1 x0 v3 x10 x11 x12 S4
def Y_76_5 (C : CS) (k : KS) (k1 : AV → AV → AV → AV → St → Prop) (x0 x10 x11 x12 t13 : AV) (S : St) : Prop :=
 condX t13
 (Y_76_9 C k k1 x0 x10 x11 x12 S)
 (k (.tup []) S)
def Y_76_4 (C : CS) (k : KS) (k1 : AV → AV → AV → AV → St → Prop) (x0 x10 x11 x12 : AV) (S : St) : Prop :=
 bLt x12 x11 S fun v1 S1 =>
 Y_76_5 C k k1 x0 x10 x11 x12 v1 S1
def Y_76_1 (C : CS) (k : KS) (x0 x1 : AV) (S : St) : Prop :=
 bLen x1 S fun v1 S1 =>
 lp4 (Y_76_4 C k) x0 x1 v1 (.i .i64 0) S1
def Z_76 (C : CS) (vs : List AV) (S : St) (k : KS) : Prop := ar2 ((fun (C : CS) (k : KS) (a0 a1 : AV) (S : St) => Y_76_1 C k a0 a1 S) C k) vs S
theorem z_76 {F : Nat → Option AFn} (h : ∀ f, Nat.beq f 4 = false → F f = tbl f) : FnOk F 76 Z_76 := fn2 ((h 76 (by kernel_rfl)).trans c76) (Y := fun (C : CS) (k : KS) (a0 a1 : AV) (S : St) => Y_76_1 C k a0 a1 S) fun C l t S k => xS (fun l t S => xB (xL4 0 10 11 12 (Y_76_4 C k) (fun l t S k1 => xS (fun l t S => xS (fun l t S => xS (fun l t S => xf (Y_76_7 C k k1 (l 0) (l 10) (l 11) (l 12) S)) (xB (xS (fun l t S => xS (fun l t S => xS (fun l t S => xS (fun l t S => xS (fun l t S => xf (Y_76_14 C k k1 (l 0) (l 5) (l 10) (l 11) (l 12) S)) (xf (Y_76_13 C k k1 (l 0) (l 5) (l 6) (l 10) (l 11) (l 12) S))) (xf (Y_76_12 C k k1 (l 0) (l 5) (l 6) (l 10) (l 11) (l 12) S))) (xf (Y_76_11 C k k1 (l 0) (l 5) (l 6) (l 10) (l 11) (l 12) S))) (xf (Y_76_10 C k k1 (l 0) (l 5) (l 10) (l 11) (l 12) S))) (xf (Y_76_9 C k k1 (l 0) (l 10) (l 11) (l 12) S))))) (xf (Y_76_5 C k k1 (l 0) (l 10) (l 11) (l 12) (t 13) S))) (xf (Y_76_4 C k k1 (l 0) (l 10) (l 11) (l 12) S))) (xf (lp4 (Y_76_4 C k) (l 0) (l 10) (l 11) (l 12) S)))) (xf (Y_76_1 C k (l 0) (l 1) S))
theorem c77 : tbl 77 = some (fnOf (tbl 77)) := by kernel_rfl
/-- (*tarpaulin/ready.List).All -/
def Y_77_1 (C : CS) (k : KS) (x0 : AV) (S : St) : Prop :=
 sR (.eq false .ptr) [x0, (.p none)] S fun v1 S1 =>
 condX v1
 (k (.sl none 0 0 0) S1)
 (bNil x0 S1 fun v2 S2 =>
 bFad 0 v2 S2 fun v3 S3 =>
 bLd v3 S3 fun v4 S4 =>
 C 39 [v4] S4 fun v5 S5 =>
 k v5 S5)
def Z_77 (C : CS) (vs : List AV) (S : St) (k : KS) : Prop := ar1 ((fun (C : CS) (k : KS) (a0 : AV) (S : St) => Y_77_1 C k a0 S) C k) vs S
theorem z_77 {F : Nat → Option AFn} (h : ∀ f, Nat.beq f 4 = false → F f = tbl f) : FnOk F 77 Z_77 := fn1 ((h 77 (by kernel_rfl)).trans c77) (Y := fun (C : CS) (k : KS) (a0 : AV) (S : St) => Y_77_1 C k a0 S) fun C l t S k => xf (Y_77_1 C k (l 0) S)
theorem c78 : tbl 78 = some (fnOf (tbl 78)) := by kernel_rfl
/-- (*tarpaulin/ready.List).Pick -/
def Y_78_1 (C : CS) (k : KS) (x0 x1 : AV) (S : St) : Prop :=
 C 123 [x0] S fun v1 S1 =>
 bEq v1 (.i .i64 0) S1 fun v2 S2 =>
 condX v2
 (k (.tup [(.i .i64 0), (.b false)]) S2)
 (bNil x0 S2 fun v3 S3 =>
 bFad 0 v3 S3 fun v4 S4 =>
 bLd v4 S4 fun v5 S5 =>
 bNil x0 S5 fun v6 S6 =>
 bFad 0 v6 S6 fun v7 S7 =>
 bLd v7 S7 fun v8 S8 =>
 bLen v8 S8 fun v9 S9 =>
 C 124 [x1, v9] S9 fun v10 S10 =>
 bIad 1 v5 v10 S10 fun v11 S11 =>
 bLd v11 S11 fun v12 S12 =>
 bif (bif (againX (.ld none) [v4] S4 S10) then true else false) then (k (.tup [v12, (.b true)]) S12) else False)
def Z_78 (C : CS) (vs : List AV) (S : St) (k : KS) : Prop := ar2 ((fun (C : CS) (k : KS) (a0 a1 : AV) (S : St) => Y_78_1 C k a0 a1 S) C k) vs S
theorem z_78 {F : Nat → Option AFn} (h : ∀ f, Nat.beq f 4 = false → F f = tbl f) : FnOk F 78 Z_78 := fn2 ((h 78 (by kernel_rfl)).trans c78) (Y := fun (C : CS) (k : KS) (a0 a1 : AV) (S : St) => Y_78_1 C k a0 a1 S) fun C l t S k => xf (Y_78_1 C k (l 0) (l 1) S)
theorem c79 : tbl 79 = some (fnOf (tbl 79)) := by kernel_rfl
/-- tarpaulin/local.Mine -/
def Y_79_1 (C : CS) (k : KS) (x0 : AV) (S : St) : Prop :=
 bGe x0 (.i .i64 1) S fun v1 S1 =>
 gdO v1 true (sMv [x0] S1) S1 fun v2 S2 =>
 gdO v1 true (bLe v2 (.i .i64 7) S2) S2 fun v3 S3 =>
 bPick v1 v3 (.b false) S3 fun v4 S4 =>
 gdO v4 false (sMv [x0] S4) S4 fun v5 S5 =>
 gdO v4 false (bEq v5 (.i .i64 16) S5) S5 fun v6 S6 =>
 bPick v4 (.b true) v6 S6 fun v7 S7 =>
 k v7 S7
def Z_79 (C : CS) (vs : List AV) (S : St) (k : KS) : Prop := ar1 ((fun (C : CS) (k : KS) (a0 : AV) (S : St) => Y_79_1 C k a0 S) C k) vs S
theorem z_79 {F : Nat → Option AFn} (h : ∀ f, Nat.beq f 4 = false → F f = tbl f) : FnOk F 79 Z_79 := fn1 ((h 79 (by kernel_rfl)).trans c79) (Y := fun (C : CS) (k : KS) (a0 : AV) (S : St) => Y_79_1 C k a0 S) fun C l t S k => xf (Y_79_1 C k (l 0) S)
theorem c80 : tbl 80 = some (fnOf (tbl 80)) := by kernel_rfl
/-- (*tarpaulin/world.act).spawn -/
def Y_80_1 (C : CS) (k : KS) (x0 : AV) (S : St) : Prop :=
 bNil x0 S fun v1 S1 =>
 bFad 0 v1 S1 fun v2 S2 =>
 bLd v2 S2 fun v3 S3 =>
 bNil x0 S3 fun v4 S4 =>
 bFad 2 v4 S4 fun v5 S5 =>
 bFad 2 v5 S5 fun v6 S6 =>
 bLd v6 S6 fun v7 S7 =>
 bNil x0 S7 fun v8 S8 =>
 bFad 8 v8 S8 fun v9 S9 =>
 bLdN 8 v9 S9 fun v10 S10 =>
 C 72 [v3, v7, v10] S10 fun v11 S11 =>
 bExt 0 v11 S11 fun v12 S12 =>
 bExt 1 v11 S12 fun v13 S13 =>
 C 90 [x0, v13] S13 fun v14 S14 =>
 bNot v14 S14 fun v15 S15 =>
 condX v15
 (bNil x0 S15 fun v16 S16 =>
 bFad 2 v16 S16 fun v17 S17 =>
 bFad 1 v17 S17 fun v18 S18 =>
 bLd v18 S18 fun v19 S19 =>
 bNil x0 S19 fun v20 S20 =>
 bFad 16 v20 S20 fun v21 S21 =>
 bIadA 8 1 v21 v19 S21 fun v22 S22 =>
 bSt 1 v22 v12 S22 fun _ S23 =>
 k (.tup []) S23)
 (k (.tup []) S15)
def Z_80 (C : CS) (vs : List AV) (S : St) (k : KS) : Prop := ar1 ((fun (C : CS) (k : KS) (a0 : AV) (S : St) => Y_80_1 C k a0 S) C k) vs S
theorem z_80 {F : Nat → Option AFn} (h : ∀ f, Nat.beq f 4 = false → F f = tbl f) : FnOk F 80 Z_80 := fn1 ((h 80 (by kernel_rfl)).trans c80) (Y := fun (C : CS) (k : KS) (a0 : AV) (S : St) => Y_80_1 C k a0 S) fun C l t S k => xf (Y_80_1 C k (l 0) S)
theorem c81 : tbl 81 = some (fnOf (tbl 81)) := by kernel_rfl
/-- (*tarpaulin/world.act).create -/
def Y_81_5 (C : CS) (k : KS) (x0 : AV) (S : St) : Prop :=
 bNil x0 S fun v1 S1 =>
 bFad 25 v1 S1 fun v2 S2 =>
 bSt 1 v2 (.i .i64 4) S2 fun _ S3 =>
 k (.tup []) S3
def Y_81_6 (C : CS) (k : KS) (x0 x2 : AV) (S : St) : Prop :=
 bNil x0 S fun v1 S1 =>
 bFad 0 v1 S1 fun v2 S2 =>
 bLd v2 S2 fun v3 S3 =>
 bNil v3 S3 fun v4 S4 =>
 bFad 4 v4 S4 fun v5 S5 =>
 bLd v5 S5 fun v6 S6 =>
 bGe v6 (.i .i64 64) S6 fun v7 S7 =>
 condX v7
 (bNil x0 S7 fun v8 S8 =>
 bFad 25 v8 S8 fun v9 S9 =>
 bSt 1 v9 (.i .i64 7) S9 fun _ S10 =>
 k (.tup []) S10)
 (bNil x0 S7 fun v11 S11 =>
 bFad 0 v11 S11 fun v12 S12 =>
 bLd v12 S12 fun v13 S13 =>
 bNil v13 S13 fun v14 S14 =>
 bFad 4 v14 S14 fun v15 S15 =>
 bLd v15 S15 fun v16 S16 =>
 bAdd v16 (.i .i64 1) S16 fun v17 S17 =>
 bNil v13 S17 fun v18 S18 =>
 bFad 4 v18 S18 fun v19 S19 =>
 bSt 1 v19 v17 S19 fun _ S20 =>
 bNil x0 S20 fun v21 S21 =>
 bFad 2 v21 S21 fun v22 S22 =>
 bFad 1 v22 S22 fun v23 S23 =>
 bLd v23 S23 fun v24 S24 =>
 bNil x0 S24 fun v25 S25 =>
 bFad 0 v25 S25 fun v26 S26 =>
 bLd v26 S26 fun v27 S27 =>
 C 126 [v27, x2] S27 fun v28 S28 =>
 bNil x0 S28 fun v29 S29 =>
 bFad 16 v29 S29 fun v30 S30 =>
 bIadA 8 1 v30 v24 S30 fun v31 S31 =>
 bSt 1 v31 v28 S31 fun _ S32 =>
 bif (bif (againX (.ld none) [v23] S23 S28) then true else false) then (k (.tup []) S32) else False)
def Y_81_4 (C : CS) (k : KS) (x0 x2 t38 : AV) (S : St) : Prop :=
 condX t38
 (Y_81_5 C k x0 S)
 (Y_81_6 C k x0 x2 S)
def Y_81_3 (C : CS) (k : KS) (x0 x2 x3 : AV) (S : St) : Prop :=
 bNe x3 (.i .i64 0) S fun v1 S1 =>
 Y_81_4 C k x0 x2 v1 S1
def Y_81_1 (C : CS) (k : KS) (x0 : AV) (S : St) : Prop :=
 bNil x0 S fun v1 S1 =>
 bFad 2 v1 S1 fun v2 S2 =>
 bFad 2 v2 S2 fun v3 S3 =>
 bLd v3 S3 fun v4 S4 =>
 C 125 [v4] S4 fun v5 S5 =>
 bExt 0 v5 S5 fun v6 S6 =>
 bExt 1 v5 S6 fun v7 S7 =>
 Y_81_3 C k x0 v6 v7 S7
def Z_81 (C : CS) (vs : List AV) (S : St) (k : KS) : Prop := ar1 ((fun (C : CS) (k : KS) (a0 : AV) (S : St) => Y_81_1 C k a0 S) C k) vs S
theorem z_81 {F : Nat → Option AFn} (h : ∀ f, Nat.beq f 4 = false → F f = tbl f) : FnOk F 81 Z_81 := fn1 ((h 81 (by kernel_rfl)).trans c81) (Y := fun (C : CS) (k : KS) (a0 : AV) (S : St) => Y_81_1 C k a0 S) fun C l t S k => xS (fun l t S => xB (xS (fun l t S => xC (xf (Y_81_5 C k (l 0) S)) (xf (Y_81_6 C k (l 0) (l 2) S)) (xf (Y_81_4 C k (l 0) (l 2) (t 38) S))) (xf (Y_81_3 C k (l 0) (l 2) (l 3) S)))) (xf (Y_81_1 C k (l 0) S))
theorem c82 : tbl 82 = some (fnOf (tbl 82)) := by kernel_rfl
/-- (*tarpaulin/world.act).channel -/
def Y_82_6 (C : CS) (k : KS) (x0 x2 x23 t35 : AV) (S : St) : Prop :=
 condX t35
 (C 127 [x0, x2] S fun v1 S1 =>
 k (.tup []) S1)
 (bEq x23 (.i .i64 11) S fun v2 S2 =>
 condX v2
 (C 128 [x0, x2] S2 fun v3 S3 =>
 k (.tup []) S3)
 (bEq x23 (.i .i64 12) S2 fun v4 S4 =>
 condX v4
 (C 129 [x0, x2] S4 fun v5 S5 =>
 k (.tup []) S5)
 (bEq x23 (.i .i64 13) S4 fun v6 S6 =>
 condX v6
 (bNil x0 S6 fun v7 S7 =>
 bFad 2 v7 S7 fun v8 S8 =>
 bFad 2 v8 S8 fun v9 S9 =>
 bLd v9 S9 fun v10 S10 =>
 C 13 [x2] S10 fun v11 S11 =>
 bNil x0 S11 fun v12 S12 =>
 bFad 16 v12 S12 fun v13 S13 =>
 bIadA 8 1 v13 v10 S13 fun v14 S14 =>
 bSt 1 v14 v11 S14 fun _ S15 =>
 bif (bif (againX (.ld none) [v9] S9 S11) then true else false) then (k (.tup []) S15) else False)
 (bNil x0 S6 fun v16 S16 =>
 bFad 2 v16 S16 fun v17 S17 =>
 bFad 2 v17 S17 fun v18 S18 =>
 bLd v18 S18 fun v19 S19 =>
 C 130 [x2] S19 fun v20 S20 =>
 bNil x0 S20 fun v21 S21 =>
 bFad 16 v21 S21 fun v22 S22 =>
 bIadA 8 1 v22 v19 S22 fun v23 S23 =>
 bSt 1 v23 v20 S23 fun _ S24 =>
 bif (bif (againX (.ld none) [v18] S18 S20) then true else false) then (k (.tup []) S24) else False))))
def Y_82_5 (C : CS) (k : KS) (x0 x2 x23 : AV) (S : St) : Prop :=
 bEq x23 (.i .i64 10) S fun v1 S1 =>
 Y_82_6 C k x0 x2 x23 v1 S1
def Y_82_3 (C : CS) (k : KS) (x0 x2 : AV) (S : St) : Prop :=
 bNil x0 S fun v1 S1 =>
 bFad 2 v1 S1 fun v2 S2 =>
 bFad 0 v2 S2 fun v3 S3 =>
 bLd v3 S3 fun v4 S4 =>
 Y_82_5 C k x0 x2 v4 S4
def Y_82_2 (C : CS) (k : KS) (x0 x2 x3 : AV) (S : St) : Prop :=
 bNot x3 S fun v1 S1 =>
 condX v1
 (bNil x0 S1 fun v2 S2 =>
 bFad 25 v2 S2 fun v3 S3 =>
 bSt 1 v3 (.i .i64 5) S3 fun _ S4 =>
 k (.tup []) S4)
 (Y_82_3 C k x0 x2 S1)
def Y_82_1 (C : CS) (k : KS) (x0 : AV) (S : St) : Prop :=
 bNil x0 S fun v1 S1 =>
 bFad 0 v1 S1 fun v2 S2 =>
 bLd v2 S2 fun v3 S3 =>
 C 88 [x0] S3 fun v4 S4 =>
 C 26 [v3, v4] S4 fun v5 S5 =>
 bExt 0 v5 S5 fun v6 S6 =>
 bExt 1 v5 S6 fun v7 S7 =>
 bif (bif (againX (.ld none) [v2] S2 S4) then true else false) then (Y_82_2 C k x0 v6 v7 S7) else False
def Z_82 (C : CS) (vs : List AV) (S : St) (k : KS) : Prop := ar1 ((fun (C : CS) (k : KS) (a0 : AV) (S : St) => Y_82_1 C k a0 S) C k) vs S
theorem z_82 {F : Nat → Option AFn} (h : ∀ f, Nat.beq f 4 = false → F f = tbl f) : FnOk F 82 Z_82 := fn1 ((h 82 (by kernel_rfl)).trans c82) (Y := fun (C : CS) (k : KS) (a0 : AV) (S : St) => Y_82_1 C k a0 S) fun C l t S k => xS (fun l t S => xS (fun l t S => xS (fun l t S => xB (xS (fun l t S => xf (Y_82_6 C k (l 0) (l 2) (l 23) (t 35) S)) (xf (Y_82_5 C k (l 0) (l 2) (l 23) S)))) (xf (Y_82_3 C k (l 0) (l 2) S))) (xf (Y_82_2 C k (l 0) (l 2) (l 3) S))) (xf (Y_82_1 C k (l 0) S))
theorem c83 : tbl 83 = some (fnOf (tbl 83)) := by kernel_rfl
/-- (*tarpaulin/world.act).choose -/
def Y_83_9 (C : CS) (k : KS) (S : St) : Prop :=
 k (.tup []) S
def Y_83_12 (C : CS) (k : KS) (x0 x2 x4 x5 : AV) (S : St) : Prop :=
 bNil x0 S fun v1 S1 =>
 bFad 0 v1 S1 fun v2 S2 =>
 bLd v2 S2 fun v3 S3 =>
 bNil x0 S3 fun v4 S4 =>
 bFad 0 v4 S4 fun v5 S5 =>
 bLd v5 S5 fun v6 S6 =>
 bFad 0 x4 S6 fun v7 S7 =>
 bLd v7 S7 fun v8 S8 =>
 bIad 3 x2 v8 S8 fun v9 S9 =>
 bFad 0 v9 S9 fun v10 S10 =>
 bLd v10 S10 fun v11 S11 =>
 C 74 [v6, v11] S11 fun v12 S12 =>
 bNil x0 S12 fun v13 S13 =>
 bFad 1 v13 S13 fun v14 S14 =>
 bLd v14 S14 fun v15 S15 =>
 bFad 0 x4 S15 fun v16 S16 =>
 bLd v16 S16 fun v17 S17 =>
 bIad 3 x2 v17 S17 fun v18 S18 =>
 bFad 2 v18 S18 fun v19 S19 =>
 bLd v19 S19 fun v20 S20 =>
 C 73 [v3, v12, v15, v20, (.b false)] S20 fun v21 S21 =>
 bif (bif (againX (.ld none) [v2] S2 S12) then (bif (againX (.ld none) [v14] S14 S) then (bif (againX (.ld none) [v16] S16 S) then (bif (againX (.ld none) [v19] S19 S) then true else false) else false) else false) else false) then (bNil x0 S21 fun v22 S22 =>
 bFad 0 v22 S22 fun v23 S23 =>
 bLd v23 S23 fun v24 S24 =>
 C 76 [v24, x5] S24 fun v25 S25 =>
 k (.tup []) S25) else False
def Y_83_13 (C : CS) (k : KS) (x0 x2 x4 x5 : AV) (S : St) : Prop :=
 bFad 0 x4 S fun v1 S1 =>
 bLd v1 S1 fun v2 S2 =>
 bIad 3 x2 v2 S2 fun v3 S3 =>
 bFad 0 v3 S3 fun v4 S4 =>
 bLd v4 S4 fun v5 S5 =>
 bFad 1 x4 S5 fun v6 S6 =>
 bLd v6 S6 fun v7 S7 =>
 bFad 2 x4 S7 fun v8 S8 =>
 bLd v8 S8 fun v9 S9 =>
 C 132 [x0, v5, v7, v9, x5] S9 fun v10 S10 =>
 k (.tup []) S10
def Y_83_11 (C : CS) (k : KS) (x0 x2 x4 x5 t93 : AV) (S : St) : Prop :=
 condX t93
 (Y_83_12 C k x0 x2 x4 x5 S)
 (Y_83_13 C k x0 x2 x4 x5 S)
def Y_83_10 (C : CS) (k : KS) (x0 x2 x4 x5 : AV) (S : St) : Prop :=
 bFad 0 x4 S fun v1 S1 =>
 bLd v1 S1 fun v2 S2 =>
 bIad 3 x2 v2 S2 fun v3 S3 =>
 bFad 1 v3 S3 fun v4 S4 =>
 bLd v4 S4 fun v5 S5 =>
 Y_83_11 C k x0 x2 x4 x5 v5 S5
def Y_83_8 (C : CS) (k : KS) (x0 x2 x4 x5 t89 : AV) (S : St) : Prop :=
 condX t89
 (Y_83_9 C k S)
 (Y_83_10 C k x0 x2 x4 x5 S)
def Y_83_7 (C : CS) (k : KS) (x0 x2 x4 x5 : AV) (S : St) : Prop :=
 bFad 0 x4 S fun v1 S1 =>
 bLd v1 S1 fun v2 S2 =>
 bLt v2 (.i .i64 0) S2 fun v3 S3 =>
 Y_83_8 C k x0 x2 x4 x5 v3 S3
def Y_83_5 (C : CS) (k : KS) (x0 x2 x4 x5 : AV) (S : St) : Prop :=
 bNil x0 S fun v1 S1 =>
 bFad 2 v1 S1 fun v2 S2 =>
 bFad 1 v2 S2 fun v3 S3 =>
 bLd v3 S3 fun v4 S4 =>
 bFad 0 x4 S4 fun v5 S5 =>
 bLd v5 S5 fun v6 S6 =>
 bNil x0 S6 fun v7 S7 =>
 bFad 16 v7 S7 fun v8 S8 =>
 bIadA 8 1 v8 v4 S8 fun v9 S9 =>
 bSt 1 v9 v6 S9 fun _ S10 =>
 Y_83_7 C k x0 x2 x4 x5 S10
def Y_83_4 (C : CS) (k : KS) (x0 x2 x4 x5 : AV) (S : St) : Prop :=
 bFad 5 x4 S fun v1 S1 =>
 bLd v1 S1 fun v2 S2 =>
 condX v2
 (bNil x0 S2 fun v3 S3 =>
 bFad 25 v3 S3 fun v4 S4 =>
 bSt 1 v4 (.i .i64 8) S4 fun _ S5 =>
 k (.tup []) S5)
 (bFad 3 x4 S2 fun v6 S6 =>
 bLd v6 S6 fun v7 S7 =>
 condX v7
 (bNil x0 S7 fun v8 S8 =>
 bFad 25 v8 S8 fun v9 S9 =>
 bSt 1 v9 (.i .i64 1) S9 fun _ S10 =>
 k (.tup []) S10)
 (bFad 4 x4 S7 fun v11 S11 =>
 bLd v11 S11 fun v12 S12 =>
 condX v12
 (bNil x0 S12 fun v13 S13 =>
 bFad 26 v13 S13 fun v14 S14 =>
 bSt 1 v14 (.b true) S14 fun _ S15 =>
 k (.tup []) S15)
 (Y_83_5 C k x0 x2 x4 x5 S12)))
def Y_83_3 (C : CS) (k : KS) (x0 x2 : AV) (S : St) : Prop :=
 bNil x0 S fun v1 S1 =>
 bFad 2 v1 S1 fun v2 S2 =>
 bFad 5 v2 S2 fun v3 S3 =>
 bLd v3 S3 fun v4 S4 =>
 bNil x0 S4 fun v5 S5 =>
 bFad 24 v5 S5 fun v6 S6 =>
 bLd v6 S6 fun v7 S7 =>
 bNil x0 S7 fun v8 S8 =>
 bFad 1 v8 S8 fun v9 S9 =>
 bLd v9 S9 fun v10 S10 =>
 C 131 [x2, v4, v7, v10] S10 fun v11 S11 =>
 bExt 0 v11 S11 fun v12 S12 =>
 bExt 1 v11 S12 fun v13 S13 =>
 bExt 2 v11 S13 fun v14 S14 =>
 bAlloc [.i .i64 0, .i .i64 0, .b false, .b false, .b false, .b false] S14 fun v15 S15 =>
 bSt 6 v15 v12 S15 fun _ S16 =>
 Y_83_4 C k x0 x2 v15 v13 S16
def Y_83_2 (C : CS) (k : KS) (x0 x2 x3 : AV) (S : St) : Prop :=
 bNot x3 S fun v1 S1 =>
 condX v1
 (bNil x0 S1 fun v2 S2 =>
 bFad 25 v2 S2 fun v3 S3 =>
 bSt 1 v3 (.i .i64 5) S3 fun _ S4 =>
 k (.tup []) S4)
 (Y_83_3 C k x0 x2 S1)
def Y_83_1 (C : CS) (k : KS) (x0 : AV) (S : St) : Prop :=
 bNil x0 S fun v1 S1 =>
 bFad 0 v1 S1 fun v2 S2 =>
 bLd v2 S2 fun v3 S3 =>
 bNil x0 S3 fun v4 S4 =>
 bFad 2 v4 S4 fun v5 S5 =>
 bLdN 6 v5 S5 fun v6 S6 =>
 bNil x0 S6 fun v7 S7 =>
 bFad 8 v7 S7 fun v8 S8 =>
 bLdN 8 v8 S8 fun v9 S9 =>
 C 119 [v3, v6, v9] S9 fun v10 S10 =>
 bExt 0 v10 S10 fun v11 S11 =>
 bExt 1 v10 S11 fun v12 S12 =>
 Y_83_2 C k x0 v11 v12 S12
def Z_83 (C : CS) (vs : List AV) (S : St) (k : KS) : Prop := ar1 ((fun (C : CS) (k : KS) (a0 : AV) (S : St) => Y_83_1 C k a0 S) C k) vs S
theorem z_83 {F : Nat → Option AFn} (h : ∀ f, Nat.beq f 4 = false → F f = tbl f) : FnOk F 83 Z_83 := fn1 ((h 83 (by kernel_rfl)).trans c83) (Y := fun (C : CS) (k : KS) (a0 : AV) (S : St) => Y_83_1 C k a0 S) fun C l t S k => xS (fun l t S => xS (fun l t S => xS (fun l t S => xS (fun l t S => xS (fun l t S => xB (xS (fun l t S => xC (xf (Y_83_9 C k S)) (xS (fun l t S => xC (xf (Y_83_12 C k (l 0) (l 2) (l 4) (l 5) S)) (xf (Y_83_13 C k (l 0) (l 2) (l 4) (l 5) S)) (xf (Y_83_11 C k (l 0) (l 2) (l 4) (l 5) (t 93) S))) (xf (Y_83_10 C k (l 0) (l 2) (l 4) (l 5) S))) (xf (Y_83_8 C k (l 0) (l 2) (l 4) (l 5) (t 89) S))) (xf (Y_83_7 C k (l 0) (l 2) (l 4) (l 5) S)))) (xf (Y_83_5 C k (l 0) (l 2) (l 4) (l 5) S))) (xf (Y_83_4 C k (l 0) (l 2) (l 4) (l 5) S))) (xf (Y_83_3 C k (l 0) (l 2) S))) (xf (Y_83_2 C k (l 0) (l 2) (l 3) S))) (xf (Y_83_1 C k (l 0) S))
theorem c84 : tbl 84 = some (fnOf (tbl 84)) := by kernel_rfl
/-- (*tarpaulin/world.act).timer -/
def Y_84_9 (C : CS) (k : KS) (x0 x2 x3 x59 t87 : AV) (S : St) : Prop :=
 condX t87
 (bNil x0 S fun v1 S1 =>
 bFad 25 v1 S1 fun v2 S2 =>
 bSt 1 v2 (.i .i64 6) S2 fun _ S3 =>
 k (.tup []) S3)
 (bEq x59 (.i .i64 3) S fun v4 S4 =>
 condX v4
 (bNil x0 S4 fun v5 S5 =>
 bFad 25 v5 S5 fun v6 S6 =>
 bSt 1 v6 (.i .i64 7) S6 fun _ S7 =>
 k (.tup []) S7)
 (bNil x0 S4 fun v8 S8 =>
 bFad 2 v8 S8 fun v9 S9 =>
 bFad 1 v9 S9 fun v10 S10 =>
 bLd v10 S10 fun v11 S11 =>
 bNil x0 S11 fun v12 S12 =>
 bFad 16 v12 S12 fun v13 S13 =>
 bIadA 8 1 v13 v11 S13 fun v14 S14 =>
 bSt 1 v14 x2 S14 fun _ S15 =>
 sR (.eq true .ptr) [x3, (.p none)] S15 fun v16 S16 =>
 condX v16
 (bNil x0 S16 fun v17 S17 =>
 bFad 2 v17 S17 fun v18 S18 =>
 bFad 3 v18 S18 fun v19 S19 =>
 bLd v19 S19 fun v20 S20 =>
 bNil x0 S20 fun v21 S21 =>
 bFad 0 v21 S21 fun v22 S22 =>
 bLd v22 S22 fun v23 S23 =>
 C 126 [v23, x3] S23 fun v24 S24 =>
 bNil x0 S24 fun v25 S25 =>
 bFad 16 v25 S25 fun v26 S26 =>
 bIadA 8 1 v26 v20 S26 fun v27 S27 =>
 bSt 1 v27 v24 S27 fun _ S28 =>
 bif (bif (againX (.ld none) [v19] S19 S24) then true else false) then (k (.tup []) S28) else False)
 (k (.tup []) S16)))
def Y_84_8 (C : CS) (k : KS) (x0 x2 x3 x59 : AV) (S : St) : Prop :=
 bEq x59 (.i .i64 1) S fun v1 S1 =>
 Y_84_9 C k x0 x2 x3 x59 v1 S1
def Y_84_6 (C : CS) (k : KS) (x0 x2 x3 x4 : AV) (S : St) : Prop :=
 Y_84_8 C k x0 x2 x3 x4 S
def Y_84_14 (C : CS) (k : KS) (x0 x5 x6 : AV) (S : St) : Prop :=
 C 89 [x0] S fun v1 S1 =>
 C 133 [x5, x6, v1] S1 fun v2 S2 =>
 bExt 0 v2 S2 fun v3 S3 =>
 bExt 1 v2 S3 fun v4 S4 =>
 bExt 2 v2 S4 fun v5 S5 =>
 Y_84_6 C k x0 v3 v4 v5 S5
def Y_84_15 (C : CS) (k : KS) (x0 x3 x5 x6 x23 : AV) (S : St) : Prop :=
 bEq x23 (.i .i64 18) S fun v1 S1 =>
 condX v1
 (C 89 [x0] S1 fun v2 S2 =>
 C 134 [x5, x6, v2] S2 fun v3 S3 =>
 bExt 0 v3 S3 fun v4 S4 =>
 bExt 1 v3 S4 fun v5 S5 =>
 bExt 2 v3 S5 fun v6 S6 =>
 Y_84_6 C k x0 v4 v5 v6 S6)
 (C 89 [x0] S1 fun v7 S7 =>
 bNil x0 S7 fun v8 S8 =>
 bFad 2 v8 S8 fun v9 S9 =>
 bFad 3 v9 S9 fun v10 S10 =>
 bLd v10 S10 fun v11 S11 =>
 C 135 [x5, x6, v7, v11] S11 fun v12 S12 =>
 bExt 0 v12 S12 fun v13 S13 =>
 bExt 1 v12 S13 fun v14 S14 =>
 bif (bif (againX (.ld none) [v10] S10 S1) then true else false) then (Y_84_6 C k x0 v13 x3 v14 S14) else False)
def Y_84_13 (C : CS) (k : KS) (x0 x3 x5 x6 x23 t37 : AV) (S : St) : Prop :=
 condX t37
 (Y_84_14 C k x0 x5 x6 S)
 (Y_84_15 C k x0 x3 x5 x6 x23 S)
def Y_84_12 (C : CS) (k : KS) (x0 x3 x5 x6 x23 : AV) (S : St) : Prop :=
 bEq x23 (.i .i64 17) S fun v1 S1 =>
 Y_84_13 C k x0 x3 x5 x6 x23 v1 S1
def Y_84_10 (C : CS) (k : KS) (x0 x3 x5 x6 : AV) (S : St) : Prop :=
 bNil x0 S fun v1 S1 =>
 bFad 2 v1 S1 fun v2 S2 =>
 bFad 0 v2 S2 fun v3 S3 =>
 bLd v3 S3 fun v4 S4 =>
 Y_84_12 C k x0 x3 x5 x6 v4 S4
def Y_84_4 (C : CS) (k : KS) (x0 x3 : AV) (S : St) : Prop :=
 bNil x0 S fun v1 S1 =>
 bFad 0 v1 S1 fun v2 S2 =>
 bLd v2 S2 fun v3 S3 =>
 bNil v3 S3 fun v4 S4 =>
 bFad 5 v4 S4 fun v5 S5 =>
 bLd v5 S5 fun v6 S6 =>
 bNil x0 S6 fun v7 S7 =>
 bFad 0 v7 S7 fun v8 S8 =>
 bLd v8 S8 fun v9 S9 =>
 C 19 [v9] S9 fun v10 S10 =>
 bif (bif (againX (.ld none) [v2] S2 S10) then (bif (againX (.ld none) [v5] S5 S10) then true else false) else false) then (Y_84_10 C k x0 x3 v6 v10 S10) else False
def Y_84_3 (C : CS) (k : KS) (x0 x3 : AV) (S : St) : Prop :=
 Y_84_4 C k x0 x3 S
def Y_84_2 (C : CS) (k : KS) (x0 : AV) (S : St) : Prop :=
 Y_84_3 C k x0 (.p none) S
def Y_84_1 (C : CS) (k : KS) (x0 : AV) (S : St) : Prop :=
 Y_84_2 C k x0 S
def Z_84 (C : CS) (vs : List AV) (S : St) (k : KS) : Prop := ar1 ((fun (C : CS) (k : KS) (a0 : AV) (S : St) => Y_84_1 C k a0 S) C k) vs S
theorem z_84 {F : Nat → Option AFn} (h : ∀ f, Nat.beq f 4 = false → F f = tbl f) : FnOk F 84 Z_84 := fn1 ((h 84 (by kernel_rfl)).trans c84) (Y := fun (C : CS) (k : KS) (a0 : AV) (S : St) => Y_84_1 C k a0 S) fun C l t S k => xS (fun l t S => xS (fun l t S => xS (fun l t S => xS (fun l t S => xS (fun l t S => xS (fun l t S => xB (xS (fun l t S => xf (Y_84_9 C k (l 0) (l 2) (l 3) (l 59) (t 87) S)) (xf (Y_84_8 C k (l 0) (l 2) (l 3) (l 59) S)))) (xf (Y_84_6 C k (l 0) (l 2) (l 3) (l 4) S))) (xS (fun l t S => xB (xS (fun l t S => xC (xf (Y_84_14 C k (l 0) (l 5) (l 6) S)) (xf (Y_84_15 C k (l 0) (l 3) (l 5) (l 6) (l 23) S)) (xf (Y_84_13 C k (l 0) (l 3) (l 5) (l 6) (l 23) (t 37) S))) (xf (Y_84_12 C k (l 0) (l 3) (l 5) (l 6) (l 23) S)))) (xf (Y_84_10 C k (l 0) (l 3) (l 5) (l 6) S)))) (xf (Y_84_4 C k (l 0) (l 3) S))) (xf (Y_84_3 C k (l 0) (l 3) S))) (xf (Y_84_2 C k (l 0) S))) (xf (Y_84_1 C k (l 0) S))
theorem c85 : tbl 85 = some (fnOf (tbl 85)) := by kernel_rfl
/-- (*tarpaulin/world.act).set -/
def Y_85_6 (C : CS) (k : KS) (x0 : AV) (S : St) : Prop :=
 bNil x0 S fun v1 S1 =>
 bFad 25 v1 S1 fun v2 S2 =>
 bSt 1 v2 (.i .i64 5) S2 fun _ S3 =>
 k (.tup []) S3
def Y_85_9 (C : CS) (k : KS) (x0 x2 : AV) (S : St) : Prop :=
 C 88 [x0] S fun v1 S1 =>
 C 137 [x2, v1] S1 fun v2 S2 =>
 bExt 0 v2 S2 fun v3 S3 =>
 bExt 1 v2 S3 fun v4 S4 =>
 bNil x0 S4 fun v5 S5 =>
 bFad 2 v5 S5 fun v6 S6 =>
 bFad 2 v6 S6 fun v7 S7 =>
 bLd v7 S7 fun v8 S8 =>
 C 122 [v3] S8 fun v9 S9 =>
 bNil x0 S9 fun v10 S10 =>
 bFad 16 v10 S10 fun v11 S11 =>
 bIadA 8 1 v11 v8 S11 fun v12 S12 =>
 bSt 1 v12 v9 S12 fun _ S13 =>
 bif (bif (againX (.ld none) [v7] S7 S9) then true else false) then (k (.tup []) S13) else False
def Y_85_10 (C : CS) (k : KS) (x0 x2 : AV) (S : St) : Prop :=
 C 88 [x0] S fun v1 S1 =>
 bNil x0 S1 fun v2 S2 =>
 bFad 0 v2 S2 fun v3 S3 =>
 bLd v3 S3 fun v4 S4 =>
 C 19 [v4] S4 fun v5 S5 =>
 C 89 [x0] S5 fun v6 S6 =>
 C 138 [x2, v1, v5, v6] S6 fun v7 S7 =>
 bExt 0 v7 S7 fun v8 S8 =>
 bExt 1 v7 S8 fun v9 S9 =>
 bif (bif (againX (.ld none) [v3] S3 S) then true else false) then (bNe v9 (.i .i64 0) S9 fun v10 S10 =>
 condX v10
 (bNil x0 S10 fun v11 S11 =>
 bFad 25 v11 S11 fun v12 S12 =>
 bSt 1 v12 (.i .i64 6) S12 fun _ S13 =>
 k (.tup []) S13)
 (bNil x0 S10 fun v14 S14 =>
 bFad 2 v14 S14 fun v15 S15 =>
 bFad 3 v15 S15 fun v16 S16 =>
 bLd v16 S16 fun v17 S17 =>
 C 122 [v8] S17 fun v18 S18 =>
 bNil x0 S18 fun v19 S19 =>
 bFad 16 v19 S19 fun v20 S20 =>
 bIadA 8 1 v20 v17 S20 fun v21 S21 =>
 bSt 1 v21 v18 S21 fun _ S22 =>
 bif (bif (againX (.ld none) [v16] S16 S18) then true else false) then (k (.tup []) S22) else False)) else False
def Y_85_8 (C : CS) (k : KS) (x0 x2 t59 : AV) (S : St) : Prop :=
 condX t59
 (Y_85_9 C k x0 x2 S)
 (Y_85_10 C k x0 x2 S)
def Y_85_7 (C : CS) (k : KS) (x0 x2 : AV) (S : St) : Prop :=
 bNil x0 S fun v1 S1 =>
 bFad 2 v1 S1 fun v2 S2 =>
 bFad 0 v2 S2 fun v3 S3 =>
 bLd v3 S3 fun v4 S4 =>
 bEq v4 (.i .i64 20) S4 fun v5 S5 =>
 Y_85_8 C k x0 x2 v5 S5
def Y_85_5 (C : CS) (k : KS) (x0 x2 t49 : AV) (S : St) : Prop :=
 condX t49
 (Y_85_6 C k x0 S)
 (Y_85_7 C k x0 x2 S)
def Y_85_4 (C : CS) (k : KS) (x0 x2 x3 : AV) (S : St) : Prop :=
 bEq x3 (.i .i64 0) S fun v1 S1 =>
 gdO v1 false (sMv [x3] S1) S1 fun v2 S2 =>
 gdO v1 false (bEq v2 (.i .i64 4) S2) S2 fun v3 S3 =>
 bPick v1 (.b true) v3 S3 fun v4 S4 =>
 Y_85_5 C k x0 x2 v4 S4
def Y_85_2 (C : CS) (k : KS) (x0 x2 : AV) (S : St) : Prop :=
 C 88 [x0] S fun v1 S1 =>
 C 136 [x2, v1] S1 fun v2 S2 =>
 Y_85_4 C k x0 x2 v2 S2
def Y_85_1 (C : CS) (k : KS) (x0 : AV) (S : St) : Prop :=
 bNil x0 S fun v1 S1 =>
 bFad 0 v1 S1 fun v2 S2 =>
 bLd v2 S2 fun v3 S3 =>
 bNil v3 S3 fun v4 S4 =>
 bFad 5 v4 S4 fun v5 S5 =>
 bLd v5 S5 fun v6 S6 =>
 Y_85_2 C k x0 v6 S6
def Z_85 (C : CS) (vs : List AV) (S : St) (k : KS) : Prop := ar1 ((fun (C : CS) (k : KS) (a0 : AV) (S : St) => Y_85_1 C k a0 S) C k) vs S
theorem z_85 {F : Nat → Option AFn} (h : ∀ f, Nat.beq f 4 = false → F f = tbl f) : FnOk F 85 Z_85 := fn1 ((h 85 (by kernel_rfl)).trans c85) (Y := fun (C : CS) (k : KS) (a0 : AV) (S : St) => Y_85_1 C k a0 S) fun C l t S k => xS (fun l t S => xS (fun l t S => xB (xS (fun l t S => xC (xf (Y_85_6 C k (l 0) S)) (xS (fun l t S => xC (xf (Y_85_9 C k (l 0) (l 2) S)) (xf (Y_85_10 C k (l 0) (l 2) S)) (xf (Y_85_8 C k (l 0) (l 2) (t 59) S))) (xf (Y_85_7 C k (l 0) (l 2) S))) (xf (Y_85_5 C k (l 0) (l 2) (t 49) S))) (xf (Y_85_4 C k (l 0) (l 2) (l 3) S)))) (xf (Y_85_2 C k (l 0) (l 2) S))) (xf (Y_85_1 C k (l 0) S))
theorem c86 : tbl 86 = some (fnOf (tbl 86)) := by kernel_rfl
/-- (*tarpaulin/world.act).context -/
def Y_86_8 (C : CS) (k : KS) (x0 x2 x3 : AV) (S : St) : Prop :=
 bNil x0 S fun v1 S1 =>
 bFad 2 v1 S1 fun v2 S2 =>
 bFad 1 v2 S2 fun v3 S3 =>
 bLd v3 S3 fun v4 S4 =>
 bNil x0 S4 fun v5 S5 =>
 bFad 16 v5 S5 fun v6 S6 =>
 bIadA 8 1 v6 v4 S6 fun v7 S7 =>
 bSt 1 v7 x2 S7 fun _ S8 =>
 bNil x0 S8 fun v9 S9 =>
 bFad 0 v9 S9 fun v10 S10 =>
 bLd v10 S10 fun v11 S11 =>
 C 71 [v11, x3, (.sl none 0 0 0)] S11 fun v12 S12 =>
 k (.tup []) S12
def Y_86_7 (C : CS) (k : KS) (x0 x2 x3 x5 : AV) (S : St) : Prop :=
 C 143 [x5, x2] S fun v1 S1 =>
 bExt 0 v1 S1 fun v2 S2 =>
 bExt 1 v1 S2 fun v3 S3 =>
 sR (.eq true .ptr) [v2, (.p none)] S3 fun v4 S4 =>
 condX v4
 (bNil x0 S4 fun v5 S5 =>
 bFad 0 v5 S5 fun v6 S6 =>
 bLd v6 S6 fun v7 S7 =>
 C 126 [v7, v2] S7 fun v8 S8 =>
 Y_86_8 C k x0 x2 x3 S8)
 (Y_86_8 C k x0 x2 x3 S4)
def Y_86_6 (C : CS) (k : KS) (x0 x2 x3 x4 x5 : AV) (S : St) : Prop :=
 C 90 [x0, x4] S fun v1 S1 =>
 condX v1
 (k (.tup []) S1)
 (Y_86_7 C k x0 x2 x3 x5 S1)
def Y_86_12 (C : CS) (k : KS) (x0 x3 x5 : AV) (S : St) : Prop :=
 C 89 [x0] S fun v1 S1 =>
 C 142 [x5, v1] S1 fun v2 S2 =>
 bExt 0 v2 S2 fun v3 S3 =>
 bExt 1 v2 S3 fun v4 S4 =>
 Y_86_6 C k x0 v3 x3 v4 x5 S4
def Y_86_15 (C : CS) (k : KS) (x0 x5 : AV) (S : St) : Prop :=
 C 89 [x0] S fun v1 S1 =>
 C 141 [x5, v1] S1 fun v2 S2 =>
 bExt 0 v2 S2 fun v3 S3 =>
 bExt 1 v2 S3 fun v4 S4 =>
 bExt 2 v2 S4 fun v5 S5 =>
 Y_86_6 C k x0 v3 v4 v5 x5 S5
def Y_86_18 (C : CS) (k : KS) (x0 x5 x6 : AV) (S : St) : Prop :=
 C 89 [x0] S fun v1 S1 =>
 bNil x0 S1 fun v2 S2 =>
 bFad 0 v2 S2 fun v3 S3 =>
 bLd v3 S3 fun v4 S4 =>
 C 19 [v4] S4 fun v5 S5 =>
 C 140 [x5, v1, x6, v5] S5 fun v6 S6 =>
 bExt 0 v6 S6 fun v7 S7 =>
 bExt 1 v6 S7 fun v8 S8 =>
 bExt 2 v6 S8 fun v9 S9 =>
 bif (bif (againX (.ld none) [v3] S3 S) then true else false) then (Y_86_6 C k x0 v7 v8 v9 x5 S9) else False
def Y_86_17 (C : CS) (k : KS) (x0 x3 x5 x6 x22 : AV) (S : St) : Prop :=
 bEq x22 (.i .i64 24) S fun v1 S1 =>
 condX v1
 (bNil x0 S1 fun v2 S2 =>
 bFad 0 v2 S2 fun v3 S3 =>
 bLd v3 S3 fun v4 S4 =>
 C 19 [v4] S4 fun v5 S5 =>
 C 67 [v5, x6] S5 fun v6 S6 =>
 Y_86_18 C k x0 x5 v6 S6)
 (bEq x22 (.i .i64 23) S1 fun v7 S7 =>
 condX v7
 (Y_86_18 C k x0 x5 x6 S7)
 (bEq x22 (.i .i64 22) S7 fun v8 S8 =>
 condX v8
 (Y_86_15 C k x0 x5 S8)
 (Y_86_12 C k x0 x3 x5 S8)))
def Y_86_9 (C : CS) (k : KS) (x0 x3 x5 x6 : AV) (S : St) : Prop :=
 bNil x0 S fun v1 S1 =>
 bFad 2 v1 S1 fun v2 S2 =>
 bFad 0 v2 S2 fun v3 S3 =>
 bLd v3 S3 fun v4 S4 =>
 Y_86_17 C k x0 x3 x5 x6 v4 S4
def Y_86_4 (C : CS) (k : KS) (x0 x3 : AV) (S : St) : Prop :=
 bNil x0 S fun v1 S1 =>
 bFad 0 v1 S1 fun v2 S2 =>
 bLd v2 S2 fun v3 S3 =>
 bNil v3 S3 fun v4 S4 =>
 bFad 6 v4 S4 fun v5 S5 =>
 bLd v5 S5 fun v6 S6 =>
 C 139 [x0] S6 fun v7 S7 =>
 bif (bif (againX (.ld none) [v2] S2 S7) then (bif (againX (.ld none) [v5] S5 S7) then true else false) else false) then (Y_86_9 C k x0 x3 v6 v7 S7) else False
def Y_86_3 (C : CS) (k : KS) (x0 x3 : AV) (S : St) : Prop :=
 Y_86_4 C k x0 x3 S
def Y_86_2 (C : CS) (k : KS) (x0 : AV) (S : St) : Prop :=
 Y_86_3 C k x0 (.sl none 0 0 0) S
def Y_86_1 (C : CS) (k : KS) (x0 : AV) (S : St) : Prop :=
 Y_86_2 C k x0 S
def Z_86 (C : CS) (vs : List AV) (S : St) (k : KS) : Prop := ar1 ((fun (C : CS) (k : KS) (a0 : AV) (S : St) => Y_86_1 C k a0 S) C k) vs S
theorem z_86 {F : Nat → Option AFn} (h : ∀ f, Nat.beq f 4 = false → F f = tbl f) : FnOk F 86 Z_86 := fn1 ((h 86 (by kernel_rfl)).trans c86) (Y := fun (C : CS) (k : KS) (a0 : AV) (S : St) => Y_86_1 C k a0 S) fun C l t S k => xS (fun l t S => xS (fun l t S => xS (fun l t S => xS (fun l t S => xS (fun l t S => xS (fun l t S => xS (fun l t S => xf (Y_86_8 C k (l 0) (l 2) (l 3) S)) (xf (Y_86_7 C k (l 0) (l 2) (l 3) (l 5) S))) (xf (Y_86_6 C k (l 0) (l 2) (l 3) (l 4) (l 5) S))) (xS (fun l t S => xB (xS (fun l t S => xf (Y_86_12 C k (l 0) (l 3) (l 5) S)) (xB (xS (fun l t S => xf (Y_86_15 C k (l 0) (l 5) S)) (xB (xS (fun l t S => xf (Y_86_18 C k (l 0) (l 5) (l 6) S)) (xf (Y_86_17 C k (l 0) (l 3) (l 5) (l 6) (l 22) S)))))))) (xf (Y_86_9 C k (l 0) (l 3) (l 5) (l 6) S)))) (xf (Y_86_4 C k (l 0) (l 3) S))) (xf (Y_86_3 C k (l 0) (l 3) S))) (xf (Y_86_2 C k (l 0) S))) (xf (Y_86_1 C k (l 0) S))
theorem c87 : tbl 87 = some (fnOf (tbl 87)) := by kernel_rfl
/-- (*tarpaulin/ctx.Set).Cancel -/
def Y_87_3 (C : CS) (k : KS) (x0 x1 x2 : AV) (S : St) : Prop :=
 C 114 [x0, x1, (.i .i64 1), x2] S fun v1 S1 =>
 bExt 0 v1 S1 fun v2 S2 =>
 bExt 1 v1 S2 fun v3 S3 =>
 k (.tup [v2, v3, (.i .i64 0)]) S3
def Y_87_2 (C : CS) (k : KS) (x0 x1 x2 : AV) (S : St) : Prop :=
 C 113 [x0, x1] S fun v1 S1 =>
 bNot v1 S1 fun v2 S2 =>
 condX v2
 (k (.tup [(.sl none 0 0 0), (.sl none 0 0 0), (.i .i64 4)]) S2)
 (bNil x0 S2 fun v3 S3 =>
 bFad 2 v3 S3 fun v4 S4 =>
 bLd v4 S4 fun v5 S5 =>
 bIad 9 v5 x1 S5 fun v6 S6 =>
 bFad 1 v6 S6 fun v7 S7 =>
 bLd v7 S7 fun v8 S8 =>
 condX v8
 (k (.tup [(.sl none 0 0 0), (.sl none 0 0 0), (.i .i64 1)]) S8)
 (bLt x2 (.i .i64 1) S8 fun v9 S9 =>
 condX v9
 (Y_87_3 C k x0 x1 (.i .i64 1) S9)
 (Y_87_3 C k x0 x1 x2 S9)))
def Y_87_1 (C : CS) (k : KS) (x0 x1 x2 : AV) (S : St) : Prop :=
 Y_87_2 C k x0 x1 x2 S
def Z_87 (C : CS) (vs : List AV) (S : St) (k : KS) : Prop := ar3 ((fun (C : CS) (k : KS) (a0 a1 a2 : AV) (S : St) => Y_87_1 C k a0 a1 a2 S) C k) vs S
theorem z_87 {F : Nat → Option AFn} (h : ∀ f, Nat.beq f 4 = false → F f = tbl f) : FnOk F 87 Z_87 := fn3 ((h 87 (by kernel_rfl)).trans c87) (Y := fun (C : CS) (k : KS) (a0 a1 a2 : AV) (S : St) => Y_87_1 C k a0 a1 a2 S) fun C l t S k => xS (fun l t S => xS (fun l t S => xf (Y_87_3 C k (l 0) (l 1) (l 2) S)) (xf (Y_87_2 C k (l 0) (l 1) (l 2) S))) (xf (Y_87_1 C k (l 0) (l 1) (l 2) S))
theorem c88 : tbl 88 = some (fnOf (tbl 88)) := by kernel_rfl
/-- (*tarpaulin/world.act).a -/
def Y_88_1 (C : CS) (k : KS) (x0 : AV) (S : St) : Prop :=
 bNil x0 S fun v1 S1 =>
 bFad 2 v1 S1 fun v2 S2 =>
 bFad 1 v2 S2 fun v3 S3 =>
 bLd v3 S3 fun v4 S4 =>
 bNil x0 S4 fun v5 S5 =>
 bFad 8 v5 S5 fun v6 S6 =>
 bIadA 8 1 v6 v4 S6 fun v7 S7 =>
 bLd v7 S7 fun v8 S8 =>
 k v8 S8
def Z_88 (C : CS) (vs : List AV) (S : St) (k : KS) : Prop := ar1 ((fun (C : CS) (k : KS) (a0 : AV) (S : St) => Y_88_1 C k a0 S) C k) vs S
theorem z_88 {F : Nat → Option AFn} (h : ∀ f, Nat.beq f 4 = false → F f = tbl f) : FnOk F 88 Z_88 := fn1 ((h 88 (by kernel_rfl)).trans c88) (Y := fun (C : CS) (k : KS) (a0 : AV) (S : St) => Y_88_1 C k a0 S) fun C l t S k => xf (Y_88_1 C k (l 0) S)
theorem c89 : tbl 89 = some (fnOf (tbl 89)) := by kernel_rfl
/-- (*tarpaulin/world.act).b -/
def Y_89_1 (C : CS) (k : KS) (x0 : AV) (S : St) : Prop :=
 bNil x0 S fun v1 S1 =>
 bFad 2 v1 S1 fun v2 S2 =>
 bFad 2 v2 S2 fun v3 S3 =>
 bLd v3 S3 fun v4 S4 =>
 bNil x0 S4 fun v5 S5 =>
 bFad 8 v5 S5 fun v6 S6 =>
 bIadA 8 1 v6 v4 S6 fun v7 S7 =>
 bLd v7 S7 fun v8 S8 =>
 k v8 S8
def Z_89 (C : CS) (vs : List AV) (S : St) (k : KS) : Prop := ar1 ((fun (C : CS) (k : KS) (a0 : AV) (S : St) => Y_89_1 C k a0 S) C k) vs S
theorem z_89 {F : Nat → Option AFn} (h : ∀ f, Nat.beq f 4 = false → F f = tbl f) : FnOk F 89 Z_89 := fn1 ((h 89 (by kernel_rfl)).trans c89) (Y := fun (C : CS) (k : KS) (a0 : AV) (S : St) => Y_89_1 C k a0 S) fun C l t S k => xf (Y_89_1 C k (l 0) S)
theorem c90 : tbl 90 = some (fnOf (tbl 90)) := by kernel_rfl
/-- (*tarpaulin/world.act).bad -/
def Y_90_1 (C : CS) (k : KS) (x0 x1 : AV) (S : St) : Prop :=
 bEq x1 (.i .i64 0) S fun v1 S1 =>
 condX v1
 (k (.b false) S1)
 (bEq x1 (.i .i64 3) S1 fun v2 S2 =>
 condX v2
 (bNil x0 S2 fun v3 S3 =>
 bFad 25 v3 S3 fun v4 S4 =>
 bSt 1 v4 (.i .i64 7) S4 fun _ S5 =>
 k (.b true) S5)
 (bNil x0 S2 fun v6 S6 =>
 bFad 25 v6 S6 fun v7 S7 =>
 bSt 1 v7 (.i .i64 5) S7 fun _ S8 =>
 k (.b true) S8))
def Z_90 (C : CS) (vs : List AV) (S : St) (k : KS) : Prop := ar2 ((fun (C : CS) (k : KS) (a0 a1 : AV) (S : St) => Y_90_1 C k a0 a1 S) C k) vs S
theorem z_90 {F : Nat → Option AFn} (h : ∀ f, Nat.beq f 4 = false → F f = tbl f) : FnOk F 90 Z_90 := fn2 ((h 90 (by kernel_rfl)).trans c90) (Y := fun (C : CS) (k : KS) (a0 a1 : AV) (S : St) => Y_90_1 C k a0 a1 S) fun C l t S k => xf (Y_90_1 C k (l 0) (l 1) S)
theorem c91 : tbl 91 = some (fnOf (tbl 91)) := by kernel_rfl
/-- (*tarpaulin/world.act).ask -/
def Y_91_5 (C : CS) (k : KS) (x0 x4 x5 : AV) (S : St) : Prop :=
 C 90 [x0, x5] S fun v1 S1 =>
 bNot v1 S1 fun v2 S2 =>
 condX v2
 (bNil x0 S2 fun v3 S3 =>
 bFad 2 v3 S3 fun v4 S4 =>
 bFad 2 v4 S4 fun v5 S5 =>
 bLd v5 S5 fun v6 S6 =>
 bNil x0 S6 fun v7 S7 =>
 bFad 16 v7 S7 fun v8 S8 =>
 bIadA 8 1 v8 v6 S8 fun v9 S9 =>
 bSt 1 v9 x4 S9 fun _ S10 =>
 k (.tup []) S10)
 (k (.tup []) S2)
def Y_91_10 (C : CS) (k : KS) (x0 x2 x3 : AV) (S : St) : Prop :=
 C 144 [x2, x3] S fun v1 S1 =>
 bExt 0 v1 S1 fun v2 S2 =>
 bExt 1 v1 S2 fun v3 S3 =>
 Y_91_5 C k x0 v2 v3 S3
def Y_91_13 (C : CS) (k : KS) (x0 x2 x3 : AV) (S : St) : Prop :=
 C 145 [x2, x3] S fun v1 S1 =>
 bExt 0 v1 S1 fun v2 S2 =>
 bExt 1 v1 S2 fun v3 S3 =>
 Y_91_5 C k x0 v2 v3 S3
def Y_91_16 (C : CS) (k : KS) (x0 x2 x3 : AV) (S : St) : Prop :=
 C 143 [x2, x3] S fun v1 S1 =>
 bExt 0 v1 S1 fun v2 S2 =>
 bExt 1 v1 S2 fun v3 S3 =>
 bNil x0 S3 fun v4 S4 =>
 bFad 0 v4 S4 fun v5 S5 =>
 bLd v5 S5 fun v6 S6 =>
 C 74 [v6, v2] S6 fun v7 S7 =>
 Y_91_5 C k x0 v7 v3 S7
def Y_91_17 (C : CS) (k : KS) (x0 x2 x3 : AV) (S : St) : Prop :=
 C 146 [x2, x3] S fun v1 S1 =>
 bExt 0 v1 S1 fun v2 S2 =>
 bExt 1 v1 S2 fun v3 S3 =>
 bExt 2 v1 S3 fun v4 S4 =>
 bNil x0 S4 fun v5 S5 =>
 bFad 2 v5 S5 fun v6 S6 =>
 bFad 2 v6 S6 fun v7 S7 =>
 bLd v7 S7 fun v8 S8 =>
 bNil x0 S8 fun v9 S9 =>
 bFad 16 v9 S9 fun v10 S10 =>
 bIadA 8 1 v10 v8 S10 fun v11 S11 =>
 bSt 1 v11 v2 S11 fun _ S12 =>
 bNil x0 S12 fun v13 S13 =>
 bFad 2 v13 S13 fun v14 S14 =>
 bFad 3 v14 S14 fun v15 S15 =>
 bLd v15 S15 fun v16 S16 =>
 C 122 [v3] S16 fun v17 S17 =>
 bNil x0 S17 fun v18 S18 =>
 bFad 16 v18 S18 fun v19 S19 =>
 bIadA 8 1 v19 v16 S19 fun v20 S20 =>
 bSt 1 v20 v17 S20 fun _ S21 =>
 bif (bif (againX (.ld none) [v15] S15 S17) then true else false) then (C 90 [x0, v4] S21 fun v22 S22 =>
 k (.tup []) S22) else False
def Y_91_15 (C : CS) (k : KS) (x0 x2 x3 t74 : AV) (S : St) : Prop :=
 condX t74
 (Y_91_16 C k x0 x2 x3 S)
 (Y_91_17 C k x0 x2 x3 S)
def Y_91_14 (C : CS) (k : KS) (x0 x2 x3 x24 : AV) (S : St) : Prop :=
 bEq x24 (.i .i64 29) S fun v1 S1 =>
 Y_91_15 C k x0 x2 x3 v1 S1
def Y_91_12 (C : CS) (k : KS) (x0 x2 x3 x24 t66 : AV) (S : St) : Prop :=
 condX t66
 (Y_91_13 C k x0 x2 x3 S)
 (Y_91_14 C k x0 x2 x3 x24 S)
def Y_91_11 (C : CS) (k : KS) (x0 x2 x3 x24 : AV) (S : St) : Prop :=
 bEq x24 (.i .i64 28) S fun v1 S1 =>
 Y_91_12 C k x0 x2 x3 x24 v1 S1
def Y_91_9 (C : CS) (k : KS) (x0 x2 x3 x24 t58 : AV) (S : St) : Prop :=
 condX t58
 (Y_91_10 C k x0 x2 x3 S)
 (Y_91_11 C k x0 x2 x3 x24 S)
def Y_91_8 (C : CS) (k : KS) (x0 x2 x3 x24 : AV) (S : St) : Prop :=
 bEq x24 (.i .i64 27) S fun v1 S1 =>
 Y_91_9 C k x0 x2 x3 x24 v1 S1
def Y_91_6 (C : CS) (k : KS) (x0 x2 x3 : AV) (S : St) : Prop :=
 bNil x0 S fun v1 S1 =>
 bFad 2 v1 S1 fun v2 S2 =>
 bFad 0 v2 S2 fun v3 S3 =>
 bLd v3 S3 fun v4 S4 =>
 Y_91_8 C k x0 x2 x3 v4 S4
def Y_91_3 (C : CS) (k : KS) (x0 x2 x3 : AV) (S : St) : Prop :=
 Y_91_6 C k x0 x2 x3 S
def Y_91_2 (C : CS) (k : KS) (x0 x2 x3 : AV) (S : St) : Prop :=
 Y_91_3 C k x0 x2 x3 S
def Y_91_1 (C : CS) (k : KS) (x0 : AV) (S : St) : Prop :=
 bNil x0 S fun v1 S1 =>
 bFad 0 v1 S1 fun v2 S2 =>
 bLd v2 S2 fun v3 S3 =>
 bNil v3 S3 fun v4 S4 =>
 bFad 6 v4 S4 fun v5 S5 =>
 bLd v5 S5 fun v6 S6 =>
 C 88 [x0] S6 fun v7 S7 =>
 bif (bif (againX (.ld none) [v2] S2 S7) then (bif (againX (.ld none) [v5] S5 S7) then true else false) else false) then (Y_91_2 C k x0 v6 v7 S7) else False
def Z_91 (C : CS) (vs : List AV) (S : St) (k : KS) : Prop := ar1 ((fun (C : CS) (k : KS) (a0 : AV) (S : St) => Y_91_1 C k a0 S) C k) vs S
theorem z_91 {F : Nat → Option AFn} (h : ∀ f, Nat.beq f 4 = false → F f = tbl f) : FnOk F 91 Z_91 := fn1 ((h 91 (by kernel_rfl)).trans c91) (Y := fun (C : CS) (k : KS) (a0 : AV) (S : St) => Y_91_1 C k a0 S) fun C l t S k => xS (fun l t S => xS (fun l t S => xS (fun l t S => xS (fun l t S => xf (Y_91_5 C k (l 0) (l 4) (l 5) S)) (xS (fun l t S => xB (xS (fun l t S => xC (xf (Y_91_10 C k (l 0) (l 2) (l 3) S)) (xS (fun l t S => xC (xf (Y_91_13 C k (l 0) (l 2) (l 3) S)) (xS (fun l t S => xC (xf (Y_91_16 C k (l 0) (l 2) (l 3) S)) (xf (Y_91_17 C k (l 0) (l 2) (l 3) S)) (xf (Y_91_15 C k (l 0) (l 2) (l 3) (t 74) S))) (xf (Y_91_14 C k (l 0) (l 2) (l 3) (l 24) S))) (xf (Y_91_12 C k (l 0) (l 2) (l 3) (l 24) (t 66) S))) (xf (Y_91_11 C k (l 0) (l 2) (l 3) (l 24) S))) (xf (Y_91_9 C k (l 0) (l 2) (l 3) (l 24) (t 58) S))) (xf (Y_91_8 C k (l 0) (l 2) (l 3) (l 24) S)))) (xf (Y_91_6 C k (l 0) (l 2) (l 3) S)))) (xf (Y_91_3 C k (l 0) (l 2) (l 3) S))) (xf (Y_91_2 C k (l 0) (l 2) (l 3) S))) (xf (Y_91_1 C k (l 0) S))
theorem c92 : tbl 92 = some (fnOf (tbl 92)) := by kernel_rfl
/-- (*tarpaulin/world.act).after -/
def Y_92_3 (C : CS) (k : KS) (x0 x4 x5 x6 : AV) (S : St) : Prop :=
 C 90 [x0, x6] S fun v1 S1 =>
 condX v1
 (k (.tup []) S1)
 (bNil x0 S1 fun v2 S2 =>
 bFad 2 v2 S2 fun v3 S3 =>
 bFad 1 v3 S3 fun v4 S4 =>
 bLd v4 S4 fun v5 S5 =>
 bNil x0 S5 fun v6 S6 =>
 bFad 16 v6 S6 fun v7 S7 =>
 bIadA 8 1 v7 v5 S7 fun v8 S8 =>
 bSt 1 v8 x4 S8 fun _ S9 =>
 bNil x0 S9 fun v10 S10 =>
 bFad 0 v10 S10 fun v11 S11 =>
 bLd v11 S11 fun v12 S12 =>
 C 71 [v12, (.sl none 0 0 0), x5] S12 fun v13 S13 =>
 k (.tup []) S13)
def Y_92_2 (C : CS) (k : KS) (x0 : AV) (S : St) : Prop :=
 bNil x0 S fun v1 S1 =>
 bFad 0 v1 S1 fun v2 S2 =>
 bLd v2 S2 fun v3 S3 =>
 bNil v3 S3 fun v4 S4 =>
 bFad 6 v4 S4 fun v5 S5 =>
 bLd v5 S5 fun v6 S6 =>
 C 89 [x0] S6 fun v7 S7 =>
 bNil x0 S7 fun v8 S8 =>
 bFad 2 v8 S8 fun v9 S9 =>
 bFad 3 v9 S9 fun v10 S10 =>
 bLd v10 S10 fun v11 S11 =>
 C 148 [v6, v7, v11] S11 fun v12 S12 =>
 bExt 0 v12 S12 fun v13 S13 =>
 bExt 1 v12 S13 fun v14 S14 =>
 bExt 2 v12 S14 fun v15 S15 =>
 bif (bif (againX (.ld none) [v2] S2 S7) then (bif (againX (.ld none) [v5] S5 S7) then (bif (againX (.ld none) [v10] S10 S) then true else false) else false) else false) then (Y_92_3 C k x0 v13 v14 v15 S15) else False
def Y_92_1 (C : CS) (k : KS) (x0 : AV) (S : St) : Prop :=
 bNil x0 S fun v1 S1 =>
 bFad 2 v1 S1 fun v2 S2 =>
 bFad 0 v2 S2 fun v3 S3 =>
 bLd v3 S3 fun v4 S4 =>
 bEq v4 (.i .i64 32) S4 fun v5 S5 =>
 condX v5
 (bNil x0 S5 fun v6 S6 =>
 bFad 0 v6 S6 fun v7 S7 =>
 bLd v7 S7 fun v8 S8 =>
 bNil v8 S8 fun v9 S9 =>
 bFad 6 v9 S9 fun v10 S10 =>
 bLd v10 S10 fun v11 S11 =>
 C 88 [x0] S11 fun v12 S12 =>
 C 147 [v11, v12] S12 fun v13 S13 =>
 bExt 0 v13 S13 fun v14 S14 =>
 bExt 1 v13 S14 fun v15 S15 =>
 bif (bif (againX (.ld none) [v7] S7 S12) then (bif (againX (.ld none) [v10] S10 S12) then true else false) else false) then (C 90 [x0, v15] S15 fun v16 S16 =>
 bNil x0 S16 fun v17 S17 =>
 bFad 2 v17 S17 fun v18 S18 =>
 bFad 2 v18 S18 fun v19 S19 =>
 bLd v19 S19 fun v20 S20 =>
 C 122 [v14] S20 fun v21 S21 =>
 bNil x0 S21 fun v22 S22 =>
 bFad 16 v22 S22 fun v23 S23 =>
 bIadA 8 1 v23 v20 S23 fun v24 S24 =>
 bSt 1 v24 v21 S24 fun _ S25 =>
 bif (bif (againX (.ld none) [v19] S19 S21) then true else false) then (k (.tup []) S25) else False) else False)
 (Y_92_2 C k x0 S5)
def Z_92 (C : CS) (vs : List AV) (S : St) (k : KS) : Prop := ar1 ((fun (C : CS) (k : KS) (a0 : AV) (S : St) => Y_92_1 C k a0 S) C k) vs S
theorem z_92 {F : Nat → Option AFn} (h : ∀ f, Nat.beq f 4 = false → F f = tbl f) : FnOk F 92 Z_92 := fn1 ((h 92 (by kernel_rfl)).trans c92) (Y := fun (C : CS) (k : KS) (a0 : AV) (S : St) => Y_92_1 C k a0 S) fun C l t S k => xS (fun l t S => xS (fun l t S => xf (Y_92_3 C k (l 0) (l 4) (l 5) (l 6) S)) (xf (Y_92_2 C k (l 0) S))) (xf (Y_92_1 C k (l 0) S))
theorem c93 : tbl 93 = some (fnOf (tbl 93)) := by kernel_rfl
/-- (*tarpaulin/task.Table).is -/
def Y_93_1 (C : CS) (k : KS) (x0 x1 x2 : AV) (S : St) : Prop :=
 bAlloc [.i .i64 0, .i .i64 0, .i .i64 0, .i .i64 0, .i .i64 0, .i .i64 0, .i .i64 0, .i .i64 0, .i .i64 0, .i .i64 0, .i .i64 0, .i .i64 0, .i .i64 0, .i .i64 0, .i .i64 0, .i .i64 0, .sl none 0 0 0, .b false] S fun v1 S1 =>
 C 25 [x0, x1] S1 fun v2 S2 =>
 bExt 0 v2 S2 fun v3 S3 =>
 bExt 1 v2 S3 fun v4 S4 =>
 bAlloc [.i .i64 0, .i .i64 0, .i .i64 0, .i .i64 0, .i .i64 0, .i .i64 0, .i .i64 0, .i .i64 0, .i .i64 0, .i .i64 0, .i .i64 0, .i .i64 0, .i .i64 0, .i .i64 0, .i .i64 0, .i .i64 0, .sl none 0 0 0, .b false] S4 fun v5 S5 =>
 bSt 18 v5 v3 S5 fun _ S6 =>
 bNot v4 S6 fun v7 S7 =>
 condX v7
 (bLdN 18 v5 S7 fun v8 S8 =>
 bSt 18 v1 v8 S8 fun _ S9 =>
 finV (resVX Env.nil Env.nil S9.h [.cell (.c v1) (some 18), .tmp (.c (.i .i64 4))]) S9 k)
 (bFad 2 v5 S7 fun v10 S10 =>
 bLd v10 S10 fun v11 S11 =>
 sCv C [x2, v11] S11 fun v12 S12 =>
 bNot v12 S12 fun v13 S13 =>
 condX v13
 (bLdN 18 v5 S13 fun v14 S14 =>
 bSt 18 v1 v14 S14 fun _ S15 =>
 finV (resVX Env.nil Env.nil S15.h [.cell (.c v1) (some 18), .tmp (.c (.i .i64 8))]) S15 k)
 (bLdN 18 v5 S13 fun v16 S16 =>
 bSt 18 v1 v16 S16 fun _ S17 =>
 finV (resVX Env.nil Env.nil S17.h [.cell (.c v1) (some 18), .tmp (.c (.i .i64 0))]) S17 k))
def Z_93 (C : CS) (vs : List AV) (S : St) (k : KS) : Prop := ar3 ((fun (C : CS) (k : KS) (a0 a1 a2 : AV) (S : St) => Y_93_1 C k a0 a1 a2 S) C k) vs S
theorem z_93 {F : Nat → Option AFn} (h : ∀ f, Nat.beq f 4 = false → F f = tbl f) : FnOk F 93 Z_93 := fn3 ((h 93 (by kernel_rfl)).trans c93) (Y := fun (C : CS) (k : KS) (a0 a1 a2 : AV) (S : St) => Y_93_1 C k a0 a1 a2 S) fun C l t S k => xf (Y_93_1 C k (l 0) (l 1) (l 2) S)
theorem c94 : tbl 94 = some (fnOf (tbl 94)) := by kernel_rfl
/-- (*tarpaulin/task.Table).End$1 -/
def Y_94_1 (C : CS) (k : KS) (x0 : AV) (S : St) : Prop :=
 bNe x0 (.i .i64 2) S fun v1 S1 =>
 k v1 S1
def Z_94 (C : CS) (vs : List AV) (S : St) (k : KS) : Prop := ar1 ((fun (C : CS) (k : KS) (a0 : AV) (S : St) => Y_94_1 C k a0 S) C k) vs S
theorem z_94 {F : Nat → Option AFn} (h : ∀ f, Nat.beq f 4 = false → F f = tbl f) : FnOk F 94 Z_94 := fn1 ((h 94 (by kernel_rfl)).trans c94) (Y := fun (C : CS) (k : KS) (a0 : AV) (S : St) => Y_94_1 C k a0 S) fun C l t S k => xf (Y_94_1 C k (l 0) S)
theorem c95 : tbl 95 = some (fnOf (tbl 95)) := by kernel_rfl
/-- (*tarpaulin/arena.Arena[tarpaulin/task.Task]).Set -/
def Y_95_1 (C : CS) (k : KS) (x0 x1 x2 : AV) (S : St) : Prop :=
 bBox x2 S fun v1 S1 =>
 bLt x1 (.i .i64 0) S1 fun v2 S2 =>
 gdO v2 false (sMv [x1] S2) S2 fun v3 S3 =>
 gdO v2 false (sMv [x0] S3) S3 fun v4 S4 =>
 gdO v2 false (C 98 [v4] S4) S4 fun v5 S5 =>
 gdO v2 false (bGe v3 v5 S5) S5 fun v6 S6 =>
 bPick v2 (.b true) v6 S6 fun v7 S7 =>
 condX v7
 (k (.b false) S7)
 (bNil x0 S7 fun v8 S8 =>
 bFad 0 v8 S8 fun v9 S9 =>
 bLd v9 S9 fun v10 S10 =>
 bLdN 18 v1 S10 fun v11 S11 =>
 bIad 18 v10 x1 S11 fun v12 S12 =>
 bSt 18 v12 v11 S12 fun _ S13 =>
 k (.b true) S13)
def Z_95 (C : CS) (vs : List AV) (S : St) (k : KS) : Prop := ar3 ((fun (C : CS) (k : KS) (a0 a1 a2 : AV) (S : St) => Y_95_1 C k a0 a1 a2 S) C k) vs S
theorem z_95 {F : Nat → Option AFn} (h : ∀ f, Nat.beq f 4 = false → F f = tbl f) : FnOk F 95 Z_95 := fn3 ((h 95 (by kernel_rfl)).trans c95) (Y := fun (C : CS) (k : KS) (a0 a1 a2 : AV) (S : St) => Y_95_1 C k a0 a1 a2 S) fun C l t S k => xf (Y_95_1 C k (l 0) (l 1) (l 2) S)
theorem c96 : tbl 96 = some (fnOf (tbl 96)) := by kernel_rfl
/-- (*tarpaulin/ready.List).Remove -/
def Y_96_1 (C : CS) (k : KS) (x0 x1 : AV) (S : St) : Prop :=
 C 77 [x0] S fun v1 S1 =>
 C 149 [v1, x1] S1 fun v2 S2 =>
 bLt v2 (.i .i64 0) S2 fun v3 S3 =>
 condX v3
 (k (.b false) S3)
 (bNil x0 S3 fun v4 S4 =>
 bFad 0 v4 S4 fun v5 S5 =>
 bLd v5 S5 fun v6 S6 =>
 bAdd v2 (.i .i64 1) S6 fun v7 S7 =>
 C 150 [v6, v2, v7] S7 fun v8 S8 =>
 bNil x0 S8 fun v9 S9 =>
 bFad 0 v9 S9 fun v10 S10 =>
 bSt 1 v10 v8 S10 fun _ S11 =>
 k (.b true) S11)
def Z_96 (C : CS) (vs : List AV) (S : St) (k : KS) : Prop := ar2 ((fun (C : CS) (k : KS) (a0 a1 : AV) (S : St) => Y_96_1 C k a0 a1 S) C k) vs S
theorem z_96 {F : Nat → Option AFn} (h : ∀ f, Nat.beq f 4 = false → F f = tbl f) : FnOk F 96 Z_96 := fn2 ((h 96 (by kernel_rfl)).trans c96) (Y := fun (C : CS) (k : KS) (a0 a1 : AV) (S : St) => Y_96_1 C k a0 a1 S) fun C l t S k => xf (Y_96_1 C k (l 0) (l 1) S)
theorem c97 : tbl 97 = some (fnOf (tbl 97)) := by kernel_rfl
/-- tarpaulin/task.runs -/
def Y_97_1 (C : CS) (k : KS) (x0 : AV) (S : St) : Prop :=
 bEq x0 (.i .i64 0) S fun v1 S1 =>
 k v1 S1
def Z_97 (C : CS) (vs : List AV) (S : St) (k : KS) : Prop := ar1 ((fun (C : CS) (k : KS) (a0 : AV) (S : St) => Y_97_1 C k a0 S) C k) vs S
theorem z_97 {F : Nat → Option AFn} (h : ∀ f, Nat.beq f 4 = false → F f = tbl f) : FnOk F 97 Z_97 := fn1 ((h 97 (by kernel_rfl)).trans c97) (Y := fun (C : CS) (k : KS) (a0 : AV) (S : St) => Y_97_1 C k a0 S) fun C l t S k => xf (Y_97_1 C k (l 0) S)
theorem c98 : tbl 98 = some (fnOf (tbl 98)) := by kernel_rfl
/-- (*tarpaulin/arena.Arena[tarpaulin/task.Task]).Len -/
def Y_98_1 (C : CS) (k : KS) (x0 : AV) (S : St) : Prop :=
 sR (.eq false .ptr) [x0, (.p none)] S fun v1 S1 =>
 condX v1
 (k (.i .i64 0) S1)
 (bNil x0 S1 fun v2 S2 =>
 bFad 0 v2 S2 fun v3 S3 =>
 bLd v3 S3 fun v4 S4 =>
 bLen v4 S4 fun v5 S5 =>
 k v5 S5)
def Z_98 (C : CS) (vs : List AV) (S : St) (k : KS) : Prop := ar1 ((fun (C : CS) (k : KS) (a0 : AV) (S : St) => Y_98_1 C k a0 S) C k) vs S
theorem z_98 {F : Nat → Option AFn} (h : ∀ f, Nat.beq f 4 = false → F f = tbl f) : FnOk F 98 Z_98 := fn1 ((h 98 (by kernel_rfl)).trans c98) (Y := fun (C : CS) (k : KS) (a0 : AV) (S : St) => Y_98_1 C k a0 S) fun C l t S k => xf (Y_98_1 C k (l 0) S)
theorem c99 : tbl 99 = some (fnOf (tbl 99)) := by kernel_rfl
/-- tarpaulin/prog.Check$1 -/
def Y_99_1 (C : CS) (k : KS) (x0 x1 : AV) (S : St) : Prop :=
 bBox x0 S fun v1 S1 =>
 bLdN 6 v1 S1 fun v2 S2 =>
 bLd x1 S2 fun v3 S3 =>
 bLen v3 S3 fun v4 S4 =>
 C 100 [v2, v4] S4 fun v5 S5 =>
 bNot v5 S5 fun v6 S6 =>
 k v6 S6
def Z_99 (C : CS) (vs : List AV) (S : St) (k : KS) : Prop := ar2 ((fun (C : CS) (k : KS) (a0 a1 : AV) (S : St) => Y_99_1 C k a0 a1 S) C k) vs S
theorem z_99 {F : Nat → Option AFn} (h : ∀ f, Nat.beq f 4 = false → F f = tbl f) : FnOk F 99 Z_99 := fn2 ((h 99 (by kernel_rfl)).trans c99) (Y := fun (C : CS) (k : KS) (a0 a1 : AV) (S : St) => Y_99_1 C k a0 a1 S) fun C l t S k => xf (Y_99_1 C k (l 0) (l 1) S)
theorem c100 : tbl 100 = some (fnOf (tbl 100)) := by kernel_rfl
/-- tarpaulin/prog.good -/
def Y_100_4 (C : CS) (k : KS) (x2 : AV) (S : St) : Prop :=
 bFad 4 x2 S fun v1 S1 =>
 bLd v1 S1 fun v2 S2 =>
 C 152 [v2, (.fn 153 [] [])] S2 fun v3 S3 =>
 bNot v3 S3 fun v4 S4 =>
 k v4 S4
def Y_100_8 (C : CS) (k : KS) (k1 : AV → AV → AV → AV → AV → St → Prop) (x1 x2 x42 x43 x44 : AV) (S : St) : Prop :=
 bLt x44 x43 S fun v1 S1 =>
 condX v1
 (bIad 1 x42 x44 S1 fun v2 S2 =>
 bLd v2 S2 fun v3 S3 =>
 bFad 0 x2 S3 fun v4 S4 =>
 bLd v4 S4 fun v5 S5 =>
 bSub v5 (.i .i64 1) S5 fun v6 S6 =>
 sR (.bin .mul) [(.i .i64 3), v6] S6 fun v7 S7 =>
 bAdd v7 x44 S7 fun v8 S8 =>
 bIxS (.s [114, 110, 45, 114, 114, 45, 114, 110, 45, 112, 45, 45, 114, 112, 45, 114, 45, 45, 45, 45, 45, 114, 103, 45, 114, 110, 45, 114, 114, 45, 114, 114, 114, 114, 45, 45, 114, 114, 45, 114, 114, 45, 114, 114, 114, 114, 45, 45, 114, 114, 114, 114, 114, 114, 114, 114, 103, 114, 114, 45, 114, 114, 114, 114, 114, 45, 114, 114, 114, 114, 114, 114, 114, 114, 45, 114, 114, 45, 114, 114, 45, 114, 114, 45, 114, 114, 45, 114, 114, 114, 114, 114, 103, 114, 114, 45]) v8 S8 fun v9 S9 =>
 C 151 [v9, v3, x1] S9 fun v10 S10 =>
 bNot v10 S10 fun v11 S11 =>
 condX v11
 (k (.b false) S11)
 (bAdd x44 (.i .i64 1) S11 fun v12 S12 =>
 k1 x1 x2 x42 x43 v12 S12))
 (Y_100_4 C k x2 S1)
def Y_100_5 (C : CS) (k : KS) (x1 x2 : AV) (S : St) : Prop :=
 bFad 1 x2 S fun v1 S1 =>
 bLd v1 S1 fun v2 S2 =>
 bFad 2 x2 S2 fun v3 S3 =>
 bLd v3 S3 fun v4 S4 =>
 bFad 3 x2 S4 fun v5 S5 =>
 bLd v5 S5 fun v6 S6 =>
 sAl (.bslice [.i .i64 0] 3 1 [0, 1, 2]) [v2, v4, v6] S6 fun v7 S7 =>
 bLen v7 S7 fun v8 S8 =>
 lp5 (Y_100_8 C k) x1 x2 v7 v8 (.i .i64 0) S8
def Y_100_2 (C : CS) (k : KS) (x1 x2 : AV) (S : St) : Prop :=
 bFad 0 x2 S fun v1 S1 =>
 bLd v1 S1 fun v2 S2 =>
 bLt v2 (.i .i64 1) S2 fun v3 S3 =>
 gdO v3 false (bFad 0 x2 S3) S3 fun v4 S4 =>
 gdO v3 false (bLd v4 S4) S4 fun v5 S5 =>
 gdO v3 false (bGt v5 (.i .i64 32) S5) S5 fun v6 S6 =>
 bPick v3 (.b true) v6 S6 fun v7 S7 =>
 gdO v7 false (bFad 0 x2 S7) S7 fun v8 S8 =>
 gdO v7 false (bLd v8 S8) S8 fun v9 S9 =>
 gdO v7 false (bNe v9 (.i .i64 15) S9) S9 fun v10 S10 =>
 gdO v7 false (sMv [v10] S10) S10 fun v11 S11 =>
 gdO v11 true (bFad 4 x2 S11) S11 fun v12 S12 =>
 gdO v11 true (bLd v12 S12) S12 fun v13 S13 =>
 gdO v11 true (bLen v13 S13) S13 fun v14 S14 =>
 gdO v11 true (bGt v14 (.i .i64 0) S14) S14 fun v15 S15 =>
 gdO v11 true (sMv [v15] S15) S15 fun v16 S16 =>
 gdO v16 false (bFad 5 x2 S16) S16 fun v17 S17 =>
 gdO v16 false (bLd v17 S17) S17 fun v18 S18 =>
 gdO v11 true (bPick v16 (.b true) v18 S18) S18 fun v19 S19 =>
 gdO v7 false (bPick v11 v19 (.b false) S19) S19 fun v20 S20 =>
 bPick v7 (.b true) v20 S20 fun v21 S21 =>
 gdO v21 false (bFad 4 x2 S21) S21 fun v22 S22 =>
 gdO v21 false (bLd v22 S22) S22 fun v23 S23 =>
 gdO v21 false (bLen v23 S23) S23 fun v24 S24 =>
 gdO v21 false (bGt v24 (.i .i64 16) S24) S24 fun v25 S25 =>
 bPick v21 (.b true) v25 S25 fun v26 S26 =>
 condX v26
 (k (.b false) S26)
 (Y_100_5 C k x1 x2 S26)
def Y_100_1 (C : CS) (k : KS) (x0 x1 : AV) (S : St) : Prop :=
 bBox x0 S fun v1 S1 =>
 Y_100_2 C k x1 v1 S1
def Z_100 (C : CS) (vs : List AV) (S : St) (k : KS) : Prop := ar2 ((fun (C : CS) (k : KS) (a0 a1 : AV) (S : St) => Y_100_1 C k a0 a1 S) C k) vs S
theorem z_100 {F : Nat → Option AFn} (h : ∀ f, Nat.beq f 4 = false → F f = tbl f) : FnOk F 100 Z_100 := fn2 ((h 100 (by kernel_rfl)).trans c100) (Y := fun (C : CS) (k : KS) (a0 a1 : AV) (S : St) => Y_100_1 C k a0 a1 S) fun C l t S k => xS (fun l t S => xS (fun l t S => xS (fun l t S => xf (Y_100_4 C k (l 2) S)) (xS (fun l t S => xB (xL5 1 2 42 43 44 (Y_100_8 C k) (fun l t S k1 => xf (Y_100_8 C k k1 (l 1) (l 2) (l 42) (l 43) (l 44) S)) (xf (lp5 (Y_100_8 C k) (l 1) (l 2) (l 42) (l 43) (l 44) S)))) (xf (Y_100_5 C k (l 1) (l 2) S)))) (xf (Y_100_2 C k (l 1) (l 2) S))) (xf (Y_100_1 C k (l 0) (l 1) S))
theorem c101 : tbl 101 = some (fnOf (tbl 101)) := by kernel_rfl
/-- slices.IndexFunc[[]tarpaulin/api.Instr,tarpaulin/api.Instr] -/
def Y_101_3 (C : CS) (k : KS) (S : St) : Prop :=
 k (.i .i64 (-1)) S
def Y_101_7 (C : CS) (k : KS) (k1 : AV → AV → AV → AV → St → Prop) (x0 x1 x7 x8 : AV) (S : St) : Prop :=
 bLt x8 x7 S fun v1 S1 =>
 condX v1
 (bIad 6 x0 x8 S1 fun v2 S2 =>
 bLdN 6 v2 S2 fun v3 S3 =>
 sCv C [x1, v3] S3 fun v4 S4 =>
 condX v4
 (k x8 S4)
 (bAdd x8 (.i .i64 1) S4 fun v5 S5 =>
 k1 x0 x1 x7 v5 S5))
 (Y_101_3 C k S1)
def Y_101_4 (C : CS) (k : KS) (x0 x1 : AV) (S : St) : Prop :=
 bLen x0 S fun v1 S1 =>
 lp4 (Y_101_7 C k) x0 x1 v1 (.i .i64 0) S1
def Y_101_1 (C : CS) (k : KS) (x0 x1 : AV) (S : St) : Prop :=
 Y_101_4 C k x0 x1 S
def Z_101 (C : CS) (vs : List AV) (S : St) (k : KS) : Prop := ar2 ((fun (C : CS) (k : KS) (a0 a1 : AV) (S : St) => Y_101_1 C k a0 a1 S) C k) vs S
theorem z_101 {F : Nat → Option AFn} (h : ∀ f, Nat.beq f 4 = false → F f = tbl f) : FnOk F 101 Z_101 := fn2 ((h 101 (by kernel_rfl)).trans c101) (Y := fun (C : CS) (k : KS) (a0 a1 : AV) (S : St) => Y_101_1 C k a0 a1 S) fun C l t S k => xS (fun l t S => xS (fun l t S => xf (Y_101_3 C k S)) (xS (fun l t S => xB (xL4 0 1 7 8 (Y_101_7 C k) (fun l t S k1 => xf (Y_101_7 C k k1 (l 0) (l 1) (l 7) (l 8) S)) (xf (lp4 (Y_101_7 C k) (l 0) (l 1) (l 7) (l 8) S)))) (xf (Y_101_4 C k (l 0) (l 1) S)))) (xf (Y_101_1 C k (l 0) (l 1) S))
theorem c102 : tbl 102 = some (fnOf (tbl 102)) := by kernel_rfl
/-- tarpaulin/heap.New -/
def Y_102_1 (C : CS) (k : KS) (S : St) : Prop :=
 sAl .mkmap [] S fun v1 S1 =>
 sBuild [.sl none 0 0 0, .m none, .i .i64 0] [(1, 1)] [v1] S1 fun v2 S2 =>
 bBox v2 S2 fun v3 S3 =>
 k v3 S3
def Z_102 (C : CS) (vs : List AV) (S : St) (k : KS) : Prop := ar0 ((fun (C : CS) (k : KS) (S : St) => Y_102_1 C k S) C k) vs S
theorem z_102 {F : Nat → Option AFn} (h : ∀ f, Nat.beq f 4 = false → F f = tbl f) : FnOk F 102 Z_102 := fn0 ((h 102 (by kernel_rfl)).trans c102) (Y := fun (C : CS) (k : KS) (S : St) => Y_102_1 C k S) fun C l t S k => xf (Y_102_1 C k S)
theorem c103 : tbl 103 = some (fnOf (tbl 103)) := by kernel_rfl
/-- (*tarpaulin/tree.Tree).Add -/
def Y_103_6 (C : CS) (k : KS) (x0 x1 x2 x8 : AV) (S : St) : Prop :=
 bNil x0 S fun v1 S1 =>
 bFad 0 v1 S1 fun v2 S2 =>
 bLd v2 S2 fun v3 S3 =>
 sBuild [.i .i64 0, .b false, .sl none 0 0 0] [(0, 1), (1, 1)] [x1, x2] S3 fun v4 S4 =>
 sAl (.bslice [.i .i64 0, .b false, .sl none 0 0 0] 1 3 [0]) [v4] S4 fun v5 S5 =>
 bApp 3 40 v3 v5 S5 fun v6 S6 =>
 bNil x0 S6 fun v7 S7 =>
 bFad 0 v7 S7 fun v8 S8 =>
 bSt 1 v8 v6 S8 fun _ S9 =>
 k (.tup [x8, (.i .i64 0)]) S9
def Y_103_5 (C : CS) (k : KS) (x0 x1 x2 x8 : AV) (S : St) : Prop :=
 condX x2
 (bNil x0 S fun v1 S1 =>
 bFad 0 v1 S1 fun v2 S2 =>
 bLd v2 S2 fun v3 S3 =>
 bNil x0 S3 fun v4 S4 =>
 bFad 0 v4 S4 fun v5 S5 =>
 bLd v5 S5 fun v6 S6 =>
 bIad 3 v6 x1 S6 fun v7 S7 =>
 bFad 2 v7 S7 fun v8 S8 =>
 bLd v8 S8 fun v9 S9 =>
 sAl (.bslice [.i .i64 0] 1 1 [0]) [x8] S9 fun v10 S10 =>
 bApp 1 8 v9 v10 S10 fun v11 S11 =>
 bIad 3 v3 x1 S11 fun v12 S12 =>
 bFad 2 v12 S12 fun v13 S13 =>
 bSt 1 v13 v11 S13 fun _ S14 =>
 bif (bif (againX (.ld none) [v2] S2 S11) then true else false) then (Y_103_6 C k x0 x1 x2 x8 S14) else False)
 (Y_103_6 C k x0 x1 x2 x8 S)
def Y_103_4 (C : CS) (k : KS) (x0 x1 x2 x8 : AV) (S : St) : Prop :=
 gdO x2 true (sMv [x1] S) S fun v1 S1 =>
 gdO x2 true (bNe v1 (.i .i64 (-1)) S1) S1 fun v2 S2 =>
 bPick x2 v2 (.b false) S2 fun v3 S3 =>
 Y_103_5 C k x0 x1 v3 x8 S3
def Y_103_3 (C : CS) (k : KS) (x0 x1 x2 : AV) (S : St) : Prop :=
 bNil x0 S fun v1 S1 =>
 bFad 0 v1 S1 fun v2 S2 =>
 bLd v2 S2 fun v3 S3 =>
 bLen v3 S3 fun v4 S4 =>
 Y_103_4 C k x0 x1 x2 v4 S4
def Y_103_2 (C : CS) (k : KS) (x0 x1 x2 : AV) (S : St) : Prop :=
 sR (.eq false .ptr) [x0, (.p none)] S fun v1 S1 =>
 condX v1
 (condX v1
 (k (.tup [(.i .i64 0), (.i .i64 1)]) S1)
 (bNil x0 S1 fun v2 S2 =>
 bFad 0 v2 S2 fun v3 S3 =>
 bLd v3 S3 fun v4 S4 =>
 bLen v4 S4 fun v5 S5 =>
 bGe v5 (.i .i64 1000) S5 fun v6 S6 =>
 condX v6
 (k (.tup [(.i .i64 0), (.i .i64 3)]) S6)
 (Y_103_3 C k x0 x1 x2 S6)))
 (bNe x1 (.i .i64 (-1)) S1 fun v7 S7 =>
 gdO v7 true (sMv [x0] S7) S7 fun v8 S8 =>
 gdO v7 true (sMv [x1] S8) S8 fun v9 S9 =>
 gdO v7 true (C 155 [v8, v9] S9) S9 fun v10 S10 =>
 gdO v7 true (bNot v10 S10) S10 fun v11 S11 =>
 bPick v7 v11 (.b false) S11 fun v12 S12 =>
 condX v12
 (k (.tup [(.i .i64 0), (.i .i64 1)]) S12)
 (bNil x0 S12 fun v13 S13 =>
 bFad 0 v13 S13 fun v14 S14 =>
 bLd v14 S14 fun v15 S15 =>
 bLen v15 S15 fun v16 S16 =>
 bGe v16 (.i .i64 1000) S16 fun v17 S17 =>
 condX v17
 (k (.tup [(.i .i64 0), (.i .i64 3)]) S17)
 (Y_103_3 C k x0 x1 x2 S17)))
def Y_103_1 (C : CS) (k : KS) (x0 x1 x2 : AV) (S : St) : Prop :=
 Y_103_2 C k x0 x1 x2 S
def Z_103 (C : CS) (vs : List AV) (S : St) (k : KS) : Prop := ar3 ((fun (C : CS) (k : KS) (a0 a1 a2 : AV) (S : St) => Y_103_1 C k a0 a1 a2 S) C k) vs S
theorem z_103 {F : Nat → Option AFn} (h : ∀ f, Nat.beq f 4 = false → F f = tbl f) : FnOk F 103 Z_103 := fn3 ((h 103 (by kernel_rfl)).trans c103) (Y := fun (C : CS) (k : KS) (a0 a1 a2 : AV) (S : St) => Y_103_1 C k a0 a1 a2 S) fun C l t S k => xS (fun l t S => xS (fun l t S => xS (fun l t S => xS (fun l t S => xS (fun l t S => xf (Y_103_6 C k (l 0) (l 1) (l 2) (l 8) S)) (xf (Y_103_5 C k (l 0) (l 1) (l 2) (l 8) S))) (xf (Y_103_4 C k (l 0) (l 1) (l 2) (l 8) S))) (xf (Y_103_3 C k (l 0) (l 1) (l 2) S))) (xf (Y_103_2 C k (l 0) (l 1) (l 2) S))) (xf (Y_103_1 C k (l 0) (l 1) (l 2) S))
theorem c104 : tbl 104 = some (fnOf (tbl 104)) := by kernel_rfl
/-- (*tarpaulin/arena.Arena[tarpaulin/task.Task]).Left -/
def Y_104_1 (C : CS) (k : KS) (x0 : AV) (S : St) : Prop :=
 sR (.eq false .ptr) [x0, (.p none)] S fun v1 S1 =>
 condX v1
 (k (.i .i64 0) S1)
 (bNil x0 S1 fun v2 S2 =>
 bFad 1 v2 S2 fun v3 S3 =>
 bLd v3 S3 fun v4 S4 =>
 bNil x0 S4 fun v5 S5 =>
 bFad 0 v5 S5 fun v6 S6 =>
 bLd v6 S6 fun v7 S7 =>
 bLen v7 S7 fun v8 S8 =>
 bSub v4 v8 S8 fun v9 S9 =>
 k v9 S9)
def Z_104 (C : CS) (vs : List AV) (S : St) (k : KS) : Prop := ar1 ((fun (C : CS) (k : KS) (a0 : AV) (S : St) => Y_104_1 C k a0 S) C k) vs S
theorem z_104 {F : Nat → Option AFn} (h : ∀ f, Nat.beq f 4 = false → F f = tbl f) : FnOk F 104 Z_104 := fn1 ((h 104 (by kernel_rfl)).trans c104) (Y := fun (C : CS) (k : KS) (a0 : AV) (S : St) => Y_104_1 C k a0 S) fun C l t S k => xf (Y_104_1 C k (l 0) S)
theorem c105 : tbl 105 = some (fnOf (tbl 105)) := by kernel_rfl
/-- slices.Contains[[]int,int] -/
def Y_105_1 (C : CS) (k : KS) (x0 x1 : AV) (S : St) : Prop :=
 C 149 [x0, x1] S fun v1 S1 =>
 bGe v1 (.i .i64 0) S1 fun v2 S2 =>
 k v2 S2
def Z_105 (C : CS) (vs : List AV) (S : St) (k : KS) : Prop := ar2 ((fun (C : CS) (k : KS) (a0 a1 : AV) (S : St) => Y_105_1 C k a0 a1 S) C k) vs S
theorem z_105 {F : Nat → Option AFn} (h : ∀ f, Nat.beq f 4 = false → F f = tbl f) : FnOk F 105 Z_105 := fn2 ((h 105 (by kernel_rfl)).trans c105) (Y := fun (C : CS) (k : KS) (a0 a1 : AV) (S : St) => Y_105_1 C k a0 a1 S) fun C l t S k => xf (Y_105_1 C k (l 0) (l 1) S)
theorem c106 : tbl 106 = some (fnOf (tbl 106)) := by kernel_rfl
/-- tarpaulin/clock.held -/
def Y_106_1 (C : CS) (k : KS) (x0 : AV) (S : St) : Prop :=
 sR .max [x0, (.i .i64 (-4611686018427387904))] S fun v1 S1 =>
 sR .min [v1, (.i .i64 4611686018427387904)] S1 fun v2 S2 =>
 k v2 S2
def Z_106 (C : CS) (vs : List AV) (S : St) (k : KS) : Prop := ar1 ((fun (C : CS) (k : KS) (a0 : AV) (S : St) => Y_106_1 C k a0 S) C k) vs S
theorem z_106 {F : Nat → Option AFn} (h : ∀ f, Nat.beq f 4 = false → F f = tbl f) : FnOk F 106 Z_106 := fn1 ((h 106 (by kernel_rfl)).trans c106) (Y := fun (C : CS) (k : KS) (a0 : AV) (S : St) => Y_106_1 C k a0 S) fun C l t S k => xf (Y_106_1 C k (l 0) S)
theorem c107 : tbl 107 = some (fnOf (tbl 107)) := by kernel_rfl
/-- (*tarpaulin/expire.Timers).Next -/
def Y_107_1 (C : CS) (k : KS) (x0 : AV) (S : St) : Prop :=
 sR (.eq false .ptr) [x0, (.p none)] S fun v1 S1 =>
 condX v1
 (k (.tup [(.i .i64 0), (.b false)]) S1)
 (bNil x0 S1 fun v2 S2 =>
 bFad 0 v2 S2 fun v3 S3 =>
 bLd v3 S3 fun v4 S4 =>
 C 156 [v4] S4 fun v5 S5 =>
 bExt 0 v5 S5 fun v6 S6 =>
 bExt 1 v5 S6 fun v7 S7 =>
 bAlloc [.i .i64 0, .i .i64 0, .i .i64 0] S7 fun v8 S8 =>
 bSt 3 v8 v6 S8 fun _ S9 =>
 bFad 1 v8 S9 fun v10 S10 =>
 bLd v10 S10 fun v11 S11 =>
 k (.tup [v11, v7]) S11)
def Z_107 (C : CS) (vs : List AV) (S : St) (k : KS) : Prop := ar1 ((fun (C : CS) (k : KS) (a0 : AV) (S : St) => Y_107_1 C k a0 S) C k) vs S
theorem z_107 {F : Nat → Option AFn} (h : ∀ f, Nat.beq f 4 = false → F f = tbl f) : FnOk F 107 Z_107 := fn1 ((h 107 (by kernel_rfl)).trans c107) (Y := fun (C : CS) (k : KS) (a0 : AV) (S : St) => Y_107_1 C k a0 S) fun C l t S k => xf (Y_107_1 C k (l 0) S)
theorem c108 : tbl 108 = some (fnOf (tbl 108)) := by kernel_rfl
/-- (*tarpaulin/heap.Heap).Pop -/
def Y_108_1 (C : CS) (k : KS) (x0 : AV) (S : St) : Prop :=
 bAlloc [.i .i64 0, .i .i64 0, .i .i64 0] S fun v1 S1 =>
 C 156 [x0] S1 fun v2 S2 =>
 bExt 0 v2 S2 fun v3 S3 =>
 bExt 1 v2 S3 fun v4 S4 =>
 bAlloc [.i .i64 0, .i .i64 0, .i .i64 0] S4 fun v5 S5 =>
 bSt 3 v5 v3 S5 fun _ S6 =>
 condX v4
 (bFad 0 v5 S6 fun v7 S7 =>
 bLd v7 S7 fun v8 S8 =>
 C 157 [x0, v8] S8 fun v9 S9 =>
 bLdN 3 v5 S9 fun v10 S10 =>
 bSt 3 v1 v10 S10 fun _ S11 =>
 finV (resVX Env.nil Env.nil S11.h [.cell (.c v1) (some 3), .tmp (.c v4)]) S11 k)
 (bLdN 3 v5 S6 fun v12 S12 =>
 bSt 3 v1 v12 S12 fun _ S13 =>
 finV (resVX Env.nil Env.nil S13.h [.cell (.c v1) (some 3), .tmp (.c v4)]) S13 k)
def Z_108 (C : CS) (vs : List AV) (S : St) (k : KS) : Prop := ar1 ((fun (C : CS) (k : KS) (a0 : AV) (S : St) => Y_108_1 C k a0 S) C k) vs S
theorem z_108 {F : Nat → Option AFn} (h : ∀ f, Nat.beq f 4 = false → F f = tbl f) : FnOk F 108 Z_108 := fn1 ((h 108 (by kernel_rfl)).trans c108) (Y := fun (C : CS) (k : KS) (a0 : AV) (S : St) => Y_108_1 C k a0 S) fun C l t S k => xf (Y_108_1 C k (l 0) S)
theorem c109 : tbl 109 = some (fnOf (tbl 109)) := by kernel_rfl
/-- tarpaulin/clock.Next -/
def Y_109_1 (C : CS) (k : KS) (x0 x1 x2 : AV) (S : St) : Prop :=
 bLt x1 (.i .i64 1) S fun v1 S1 =>
 gdO v1 false (sMv [x0] S1) S1 fun v2 S2 =>
 gdO v1 false (sMv [x2] S2) S2 fun v3 S3 =>
 gdO v1 false (sR .min [v2, v3] S3) S3 fun v4 S4 =>
 gdO v1 false (bLt v4 (.i .i64 0) S4) S4 fun v5 S5 =>
 bPick v1 (.b true) v5 S5 fun v6 S6 =>
 gdO v6 false (sMv [x0] S6) S6 fun v7 S7 =>
 gdO v6 false (sMv [x1] S7) S7 fun v8 S8 =>
 gdO v6 false (sMv [x2] S8) S8 fun v9 S9 =>
 gdO v6 false (sR .max [v7, v8, v9] S9) S9 fun v10 S10 =>
 gdO v6 false (bGt v10 (.i .i64 4611686018427387904) S10) S10 fun v11 S11 =>
 bPick v6 (.b true) v11 S11 fun v12 S12 =>
 condX v12
 (k (.tup [(.i .i64 0), (.i .i64 1)]) S12)
 (bGt x0 x2 S12 fun v13 S13 =>
 condX v13
 (k (.tup [x0, (.i .i64 0)]) S13)
 (bSub x2 x0 S13 fun v14 S14 =>
 sR (.bin .rem) [v14, x1] S14 fun v15 S15 =>
 bSub x1 v15 S15 fun v16 S16 =>
 C 67 [x2, v16] S16 fun v17 S17 =>
 k (.tup [v17, (.i .i64 0)]) S17))
def Z_109 (C : CS) (vs : List AV) (S : St) (k : KS) : Prop := ar3 ((fun (C : CS) (k : KS) (a0 a1 a2 : AV) (S : St) => Y_109_1 C k a0 a1 a2 S) C k) vs S
theorem z_109 {F : Nat → Option AFn} (h : ∀ f, Nat.beq f 4 = false → F f = tbl f) : FnOk F 109 Z_109 := fn3 ((h 109 (by kernel_rfl)).trans c109) (Y := fun (C : CS) (k : KS) (a0 a1 a2 : AV) (S : St) => Y_109_1 C k a0 a1 a2 S) fun C l t S k => xf (Y_109_1 C k (l 0) (l 1) (l 2) S)
theorem c110 : tbl 110 = some (fnOf (tbl 110)) := by kernel_rfl
/-- (*tarpaulin/expire.Timers).Arm -/
def Y_110_1 (C : CS) (k : KS) (x0 x1 x2 x3 : AV) (S : St) : Prop :=
 sR (.eq false .ptr) [x0, (.p none)] S fun v1 S1 =>
 gdO v1 false (sMv [x2] S1) S1 fun v2 S2 =>
 gdO v1 false (sMv [x3] S2) S2 fun v3 S3 =>
 gdO v1 false (sR .min [v2, v3] S3) S3 fun v4 S4 =>
 gdO v1 false (bLt v4 (.i .i64 0) S4) S4 fun v5 S5 =>
 bPick v1 (.b true) v5 S5 fun v6 S6 =>
 gdO v6 false (sMv [x2] S6) S6 fun v7 S7 =>
 gdO v6 false (sMv [x3] S7) S7 fun v8 S8 =>
 gdO v6 false (sR .max [v7, v8] S8) S8 fun v9 S9 =>
 gdO v6 false (bGt v9 (.i .i64 4611686018427387904) S9) S9 fun v10 S10 =>
 bPick v6 (.b true) v10 S10 fun v11 S11 =>
 condX v11
 (k (.i .i64 1) S11)
 (C 158 [x0, x1] S11 fun v12 S12 =>
 bNil x0 S12 fun v13 S13 =>
 bFad 1 v13 S13 fun v14 S14 =>
 bLd v14 S14 fun v15 S15 =>
 sE .mset [v15, x1, x3] S15 fun _ S16 =>
 bNil x0 S16 fun v17 S17 =>
 bFad 0 v17 S17 fun v18 S18 =>
 bLd v18 S18 fun v19 S19 =>
 C 159 [v19, x1, x2] S19 fun v20 S20 =>
 k v20 S20)
def Z_110 (C : CS) (vs : List AV) (S : St) (k : KS) : Prop := ar4 ((fun (C : CS) (k : KS) (a0 a1 a2 a3 : AV) (S : St) => Y_110_1 C k a0 a1 a2 a3 S) C k) vs S
theorem z_110 {F : Nat → Option AFn} (h : ∀ f, Nat.beq f 4 = false → F f = tbl f) : FnOk F 110 Z_110 := fn4 ((h 110 (by kernel_rfl)).trans c110) (Y := fun (C : CS) (k : KS) (a0 a1 a2 a3 : AV) (S : St) => Y_110_1 C k a0 a1 a2 a3 S) fun C l t S k => xf (Y_110_1 C k (l 0) (l 1) (l 2) (l 3) S)
theorem c111 : tbl 111 = some (fnOf (tbl 111)) := by kernel_rfl
/-- (*tarpaulin/chanq.Chan).deliver -/
def Y_111_1 (C : CS) (k : KS) (x0 x1 : AV) (S : St) : Prop :=
 bNil x0 S fun v1 S1 =>
 bFad 1 v1 S1 fun v2 S2 =>
 bLd v2 S2 fun v3 S3 =>
 C 160 [v3] S3 fun v4 S4 =>
 bExt 0 v4 S4 fun v5 S5 =>
 bExt 1 v4 S5 fun v6 S6 =>
 bAlloc [.i .i64 0, .i .i64 0, .i .i64 0] S6 fun v7 S7 =>
 bSt 3 v7 v5 S7 fun _ S8 =>
 bNot v6 S8 fun v9 S9 =>
 condX v9
 (k (.sl none 0 0 0) S9)
 (bFad 0 v7 S9 fun v10 S10 =>
 bLd v10 S10 fun v11 S11 =>
 bFad 1 v7 S11 fun v12 S12 =>
 bLd v12 S12 fun v13 S13 =>
 sBuild [.i .i64 0, .i .i64 0, .i .i64 0, .b false, .b false] [(0, 1), (1, 1), (2, 1), (3, 1)] [v11, v13, x1, (.b true)] S13 fun v14 S14 =>
 sAl (.bslice [.i .i64 0, .i .i64 0, .i .i64 0, .b false, .b false] 1 5 [0]) [v14] S14 fun v15 S15 =>
 k v15 S15)
def Z_111 (C : CS) (vs : List AV) (S : St) (k : KS) : Prop := ar2 ((fun (C : CS) (k : KS) (a0 a1 : AV) (S : St) => Y_111_1 C k a0 a1 S) C k) vs S
theorem z_111 {F : Nat → Option AFn} (h : ∀ f, Nat.beq f 4 = false → F f = tbl f) : FnOk F 111 Z_111 := fn2 ((h 111 (by kernel_rfl)).trans c111) (Y := fun (C : CS) (k : KS) (a0 a1 : AV) (S : St) => Y_111_1 C k a0 a1 S) fun C l t S k => xf (Y_111_1 C k (l 0) (l 1) S)
theorem c112 : tbl 112 = some (fnOf (tbl 112)) := by kernel_rfl
/-- (*tarpaulin/ring.Ring).Push -/
def Y_112_3 (C : CS) (k : KS) (x0 x1 : AV) (S : St) : Prop :=
 bNil x0 S fun v1 S1 =>
 bFad 0 v1 S1 fun v2 S2 =>
 bLd v2 S2 fun v3 S3 =>
 bNil x0 S3 fun v4 S4 =>
 bFad 1 v4 S4 fun v5 S5 =>
 bLd v5 S5 fun v6 S6 =>
 bNil x0 S6 fun v7 S7 =>
 bFad 2 v7 S7 fun v8 S8 =>
 bLd v8 S8 fun v9 S9 =>
 bAdd v6 v9 S9 fun v10 S10 =>
 bNil x0 S10 fun v11 S11 =>
 bFad 0 v11 S11 fun v12 S12 =>
 bLd v12 S12 fun v13 S13 =>
 bLen v13 S13 fun v14 S14 =>
 sR (.bin .rem) [v10, v14] S14 fun v15 S15 =>
 bIad 1 v3 v15 S15 fun v16 S16 =>
 bSt 1 v16 x1 S16 fun _ S17 =>
 bNil x0 S17 fun v18 S18 =>
 bFad 2 v18 S18 fun v19 S19 =>
 bLd v19 S19 fun v20 S20 =>
 bAdd v20 (.i .i64 1) S20 fun v21 S21 =>
 bNil x0 S21 fun v22 S22 =>
 bFad 2 v22 S22 fun v23 S23 =>
 bSt 1 v23 v21 S23 fun _ S24 =>
 k (.b true) S24
def Y_112_2 (C : CS) (k : KS) (x0 x1 : AV) (S : St) : Prop :=
 sR (.eq false .ptr) [x0, (.p none)] S fun v1 S1 =>
 gdO v1 false (sMv [x0] S1) S1 fun v2 S2 =>
 gdO v1 false (bNil v2 S2) S2 fun v3 S3 =>
 gdO v1 false (bFad 2 v3 S3) S3 fun v4 S4 =>
 gdO v1 false (bLd v4 S4) S4 fun v5 S5 =>
 gdO v1 false (sMv [x0] S5) S5 fun v6 S6 =>
 gdO v1 false (bNil v6 S6) S6 fun v7 S7 =>
 gdO v1 false (bFad 0 v7 S7) S7 fun v8 S8 =>
 gdO v1 false (bLd v8 S8) S8 fun v9 S9 =>
 gdO v1 false (bLen v9 S9) S9 fun v10 S10 =>
 gdO v1 false (bEq v5 v10 S10) S10 fun v11 S11 =>
 bPick v1 (.b true) v11 S11 fun v12 S12 =>
 condX v12
 (k (.b false) S12)
 (Y_112_3 C k x0 x1 S12)
def Y_112_1 (C : CS) (k : KS) (x0 x1 : AV) (S : St) : Prop :=
 Y_112_2 C k x0 x1 S
def Z_112 (C : CS) (vs : List AV) (S : St) (k : KS) : Prop := ar2 ((fun (C : CS) (k : KS) (a0 a1 : AV) (S : St) => Y_112_1 C k a0 a1 S) C k) vs S
theorem z_112 {F : Nat → Option AFn} (h : ∀ f, Nat.beq f 4 = false → F f = tbl f) : FnOk F 112 Z_112 := fn2 ((h 112 (by kernel_rfl)).trans c112) (Y := fun (C : CS) (k : KS) (a0 a1 : AV) (S : St) => Y_112_1 C k a0 a1 S) fun C l t S k => xS (fun l t S => xS (fun l t S => xf (Y_112_3 C k (l 0) (l 1) S)) (xf (Y_112_2 C k (l 0) (l 1) S))) (xf (Y_112_1 C k (l 0) (l 1) S))
theorem c113 : tbl 113 = some (fnOf (tbl 113)) := by kernel_rfl
/-- (*tarpaulin/ctx.Set).has -/
def Y_113_1 (C : CS) (k : KS) (x0 x1 : AV) (S : St) : Prop :=
 sR (.eq true .ptr) [x0, (.p none)] S fun v1 S1 =>
 gdO v1 true (sMv [x1] S1) S1 fun v2 S2 =>
 gdO v1 true (bGe v2 (.i .i64 0) S2) S2 fun v3 S3 =>
 bPick v1 v3 (.b false) S3 fun v4 S4 =>
 gdO v4 true (sMv [x1] S4) S4 fun v5 S5 =>
 gdO v4 true (sMv [x0] S5) S5 fun v6 S6 =>
 gdO v4 true (bNil v6 S6) S6 fun v7 S7 =>
 gdO v4 true (bFad 2 v7 S7) S7 fun v8 S8 =>
 gdO v4 true (bLd v8 S8) S8 fun v9 S9 =>
 gdO v4 true (bLen v9 S9) S9 fun v10 S10 =>
 gdO v4 true (bLt v5 v10 S10) S10 fun v11 S11 =>
 bPick v4 v11 (.b false) S11 fun v12 S12 =>
 k v12 S12
def Z_113 (C : CS) (vs : List AV) (S : St) (k : KS) : Prop := ar2 ((fun (C : CS) (k : KS) (a0 a1 : AV) (S : St) => Y_113_1 C k a0 a1 S) C k) vs S
theorem z_113 {F : Nat → Option AFn} (h : ∀ f, Nat.beq f 4 = false → F f = tbl f) : FnOk F 113 Z_113 := fn2 ((h 113 (by kernel_rfl)).trans c113) (Y := fun (C : CS) (k : KS) (a0 a1 : AV) (S : St) => Y_113_1 C k a0 a1 S) fun C l t S k => xf (Y_113_1 C k (l 0) (l 1) S)
theorem c114 : tbl 114 = some (fnOf (tbl 114)) := by kernel_rfl
/-- (*tarpaulin/ctx.Set).cancel -/
def Y_114_8 (C : CS) (k : KS) (x0 x8 x9 x10 : AV) (S : St) : Prop :=
 bNil x0 S fun v1 S1 =>
 bFad 1 v1 S1 fun v2 S2 =>
 bLd v2 S2 fun v3 S3 =>
 bNil x10 S3 fun v4 S4 =>
 bFad 0 v4 S4 fun v5 S5 =>
 bLd v5 S5 fun v6 S6 =>
 C 164 [v3, v6] S6 fun v7 S7 =>
 k (.tup [x8, x9]) S7
def Y_114_15 (C : CS) (k : KS) (k1 : AV → AV → AV → AV → AV → AV → AV → AV → AV → St → Prop) (x0 x2 x3 x8 x9 x10 x68 x69 x70 : AV) (S : St) : Prop :=
 bAdd x70 (.i .i64 1) S fun v1 S1 =>
 k1 x0 x2 x3 x8 x9 x10 x68 x69 v1 S1
def Y_114_14 (C : CS) (k : KS) (k1 : AV → AV → AV → AV → AV → AV → AV → AV → AV → St → Prop) (x0 x2 x3 x8 x9 x10 x68 x69 x70 : AV) (S : St) : Prop :=
 bIad 1 x68 x70 S fun v1 S1 =>
 bLd v1 S1 fun v2 S2 =>
 bNil x0 S2 fun v3 S3 =>
 bFad 4 v3 S3 fun v4 S4 =>
 bLd v4 S4 fun v5 S5 =>
 sR (.lkup (.i .i64 0) false) [v5, v2] S5 fun v6 S6 =>
 bLt v6 (.i .i64 0) S6 fun v7 S7 =>
 condX v7
 (sR (.un .neg) [v6] S7 fun v8 S8 =>
 bSub v8 (.i .i64 1) S8 fun v9 S9 =>
 C 163 [x0, v9] S9 fun v10 S10 =>
 sAl (.bslice [.i .i64 0, .i .i64 0] 1 2 [0]) [v10] S10 fun v11 S11 =>
 bApp 2 16 x9 v11 S11 fun v12 S12 =>
 Y_114_15 C k k1 x0 x2 x3 x8 v12 x10 x68 x69 x70 S12)
 (C 114 [x0, v6, x2, x3] S7 fun v13 S13 =>
 bExt 0 v13 S13 fun v14 S14 =>
 bExt 1 v13 S14 fun v15 S15 =>
 bApp 4 48 x8 v14 S15 fun v16 S16 =>
 bApp 2 16 x9 v15 S16 fun v17 S17 =>
 Y_114_15 C k k1 x0 x2 x3 v16 v17 x10 x68 x69 x70 S17)
def Y_114_13 (C : CS) (k : KS) (k1 : AV → AV → AV → AV → AV → AV → AV → AV → AV → St → Prop) (x0 x2 x3 x8 x9 x10 x68 x69 x70 t71 : AV) (S : St) : Prop :=
 condX t71
 (Y_114_14 C k k1 x0 x2 x3 x8 x9 x10 x68 x69 x70 S)
 (Y_114_8 C k x0 x8 x9 x10 S)
def Y_114_12 (C : CS) (k : KS) (k1 : AV → AV → AV → AV → AV → AV → AV → AV → AV → St → Prop) (x0 x2 x3 x8 x9 x10 x68 x69 x70 : AV) (S : St) : Prop :=
 bLt x70 x69 S fun v1 S1 =>
 Y_114_13 C k k1 x0 x2 x3 x8 x9 x10 x68 x69 x70 v1 S1
def Y_114_9 (C : CS) (k : KS) (x0 x2 x3 x8 x9 x10 : AV) (S : St) : Prop :=
 bNil x0 S fun v1 S1 =>
 bFad 1 v1 S1 fun v2 S2 =>
 bLd v2 S2 fun v3 S3 =>
 bNil x10 S3 fun v4 S4 =>
 bFad 0 v4 S4 fun v5 S5 =>
 bLd v5 S5 fun v6 S6 =>
 C 162 [v3, v6] S6 fun v7 S7 =>
 bLen v7 S7 fun v8 S8 =>
 lp9 (Y_114_12 C k) x0 x2 x3 x8 x9 x10 v7 v8 (.i .i64 0) S8
def Y_114_6 (C : CS) (k : KS) (x0 x2 x3 x8 x9 x10 : AV) (S : St) : Prop :=
 bNil x0 S fun v1 S1 =>
 bFad 0 v1 S1 fun v2 S2 =>
 bLd v2 S2 fun v3 S3 =>
 bNil x10 S3 fun v4 S4 =>
 bFad 8 v4 S4 fun v5 S5 =>
 bLd v5 S5 fun v6 S6 =>
 C 137 [v3, v6] S6 fun v7 S7 =>
 Y_114_9 C k x0 x2 x3 x8 x9 x10 S7
def Y_114_5 (C : CS) (k : KS) (x0 x1 x2 x3 x9 x10 : AV) (S : St) : Prop :=
 bNil x10 S fun v1 S1 =>
 bFad 2 v1 S1 fun v2 S2 =>
 bLd v2 S2 fun v3 S3 =>
 C 161 [v3] S3 fun v4 S4 =>
 sBuild [.i .i64 0, .i .i64 0, .i .i64 0, .sl none 0 0 0] [(0, 1), (1, 1), (2, 1), (3, 1)] [x1, x2, x3, v4] S4 fun v5 S5 =>
 sAl (.bslice [.i .i64 0, .i .i64 0, .i .i64 0, .sl none 0 0 0] 1 4 [0]) [v5] S5 fun v6 S6 =>
 Y_114_6 C k x0 x2 x3 v6 x9 x10 S6
def Y_114_4 (C : CS) (k : KS) (x0 x1 x2 x3 x9 x10 : AV) (S : St) : Prop :=
 bNil x10 S fun v1 S1 =>
 bFad 3 v1 S1 fun v2 S2 =>
 bSt 1 v2 x2 S2 fun _ S3 =>
 bNil x10 S3 fun v4 S4 =>
 bFad 4 v4 S4 fun v5 S5 =>
 bSt 1 v5 x3 S5 fun _ S6 =>
 Y_114_5 C k x0 x1 x2 x3 x9 x10 S6
def Y_114_3 (C : CS) (k : KS) (x0 x1 x2 x3 x9 x10 : AV) (S : St) : Prop :=
 bNil x10 S fun v1 S1 =>
 bFad 1 v1 S1 fun v2 S2 =>
 bLd v2 S2 fun v3 S3 =>
 gdO v3 false (sMv [x10] S3) S3 fun v4 S4 =>
 gdO v3 false (bNil v4 S4) S4 fun v5 S5 =>
 gdO v3 false (bFad 3 v5 S5) S5 fun v6 S6 =>
 gdO v3 false (bLd v6 S6) S6 fun v7 S7 =>
 gdO v3 false (bNe v7 (.i .i64 0) S7) S7 fun v8 S8 =>
 bPick v3 (.b true) v8 S8 fun v9 S9 =>
 condX v9
 (k (.tup [(.sl none 0 0 0), (.sl none 0 0 0)]) S9)
 (Y_114_4 C k x0 x1 x2 x3 x9 x10 S9)
def Y_114_2 (C : CS) (k : KS) (x0 x1 x2 x3 x9 : AV) (S : St) : Prop :=
 bNil x0 S fun v1 S1 =>
 bFad 2 v1 S1 fun v2 S2 =>
 bLd v2 S2 fun v3 S3 =>
 bIad 9 v3 x1 S3 fun v4 S4 =>
 Y_114_3 C k x0 x1 x2 x3 x9 v4 S4
def Y_114_1 (C : CS) (k : KS) (x0 x1 x2 x3 : AV) (S : St) : Prop :=
 Y_114_2 C k x0 x1 x2 x3 (.sl none 0 0 0) S
def Z_114 (C : CS) (vs : List AV) (S : St) (k : KS) : Prop := ar4 ((fun (C : CS) (k : KS) (a0 a1 a2 a3 : AV) (S : St) => Y_114_1 C k a0 a1 a2 a3 S) C k) vs S
theorem z_114 {F : Nat → Option AFn} (h : ∀ f, Nat.beq f 4 = false → F f = tbl f) : FnOk F 114 Z_114 := fn4 ((h 114 (by kernel_rfl)).trans c114) (Y := fun (C : CS) (k : KS) (a0 a1 a2 a3 : AV) (S : St) => Y_114_1 C k a0 a1 a2 a3 S) fun C l t S k => xS (fun l t S => xS (fun l t S => xS (fun l t S => xS (fun l t S => xS (fun l t S => xS (fun l t S => xS (fun l t S => xf (Y_114_8 C k (l 0) (l 8) (l 9) (l 10) S)) (xS (fun l t S => xB (xL9 0 2 3 8 9 10 68 69 70 (Y_114_12 C k) (fun l t S k1 => xS (fun l t S => xS (fun l t S => xS (fun l t S => xf (Y_114_15 C k k1 (l 0) (l 2) (l 3) (l 8) (l 9) (l 10) (l 68) (l 69) (l 70) S)) (xf (Y_114_14 C k k1 (l 0) (l 2) (l 3) (l 8) (l 9) (l 10) (l 68) (l 69) (l 70) S))) (xf (Y_114_13 C k k1 (l 0) (l 2) (l 3) (l 8) (l 9) (l 10) (l 68) (l 69) (l 70) (t 71) S))) (xf (Y_114_12 C k k1 (l 0) (l 2) (l 3) (l 8) (l 9) (l 10) (l 68) (l 69) (l 70) S))) (xf (lp9 (Y_114_12 C k) (l 0) (l 2) (l 3) (l 8) (l 9) (l 10) (l 68) (l 69) (l 70) S)))) (xf (Y_114_9 C k (l 0) (l 2) (l 3) (l 8) (l 9) (l 10) S)))) (xf (Y_114_6 C k (l 0) (l 2) (l 3) (l 8) (l 9) (l 10) S))) (xf (Y_114_5 C k (l 0) (l 1) (l 2) (l 3) (l 9) (l 10) S))) (xf (Y_114_4 C k (l 0) (l 1) (l 2) (l 3) (l 9) (l 10) S))) (xf (Y_114_3 C k (l 0) (l 1) (l 2) (l 3) (l 9) (l 10) S))) (xf (Y_114_2 C k (l 0) (l 1) (l 2) (l 3) (l 9) S))) (xf (Y_114_1 C k (l 0) (l 1) (l 2) (l 3) S))
theorem c115 : tbl 115 = some (fnOf (tbl 115)) := by kernel_rfl
/-- (*tarpaulin/deal.Log).Add -/
def Y_115_1 (C : CS) (k : KS) (x0 x1 : AV) (S : St) : Prop :=
 bBox x1 S fun v1 S1 =>
 sR (.eq false .ptr) [x0, (.p none)] S1 fun v2 S2 =>
 gdO v2 false (bFad 0 v1 S2) S2 fun v3 S3 =>
 gdO v2 false (bLd v3 S3) S3 fun v4 S4 =>
 gdO v2 false (bLt v4 (.i .i64 0) S4) S4 fun v5 S5 =>
 bPick v2 (.b true) v5 S5 fun v6 S6 =>
 gdO v6 false (bFad 1 v1 S6) S6 fun v7 S7 =>
 gdO v6 false (bLd v7 S7) S7 fun v8 S8 =>
 gdO v6 false (bLt v8 (.i .i64 (-1)) S8) S8 fun v9 S9 =>
 bPick v6 (.b true) v9 S9 fun v10 S10 =>
 condX v10
 (k (.i .i64 1) S10)
 (bNil x0 S10 fun v11 S11 =>
 bFad 0 v11 S11 fun v12 S12 =>
 bLd v12 S12 fun v13 S13 =>
 bLdN 5 v1 S13 fun v14 S14 =>
 sAl (.bslice [.i .i64 0, .i .i64 0, .i .i64 0, .b false, .i .i64 0] 1 5 [0]) [v14] S14 fun v15 S15 =>
 bApp 5 40 v13 v15 S15 fun v16 S16 =>
 bNil x0 S16 fun v17 S17 =>
 bFad 0 v17 S17 fun v18 S18 =>
 bSt 1 v18 v16 S18 fun _ S19 =>
 k (.i .i64 0) S19)
def Z_115 (C : CS) (vs : List AV) (S : St) (k : KS) : Prop := ar2 ((fun (C : CS) (k : KS) (a0 a1 : AV) (S : St) => Y_115_1 C k a0 a1 S) C k) vs S
theorem z_115 {F : Nat → Option AFn} (h : ∀ f, Nat.beq f 4 = false → F f = tbl f) : FnOk F 115 Z_115 := fn2 ((h 115 (by kernel_rfl)).trans c115) (Y := fun (C : CS) (k : KS) (a0 a1 : AV) (S : St) => Y_115_1 C k a0 a1 S) fun C l t S k => xf (Y_115_1 C k (l 0) (l 1) S)
theorem c116 : tbl 116 = some (fnOf (tbl 116)) := by kernel_rfl
/-- slices.Index[[]*tarpaulin/chanq.Chan,*tarpaulin/chanq.Chan] -/
def Y_116_3 (C : CS) (k : KS) (S : St) : Prop :=
 k (.i .i64 (-1)) S
def Y_116_7 (C : CS) (k : KS) (k1 : AV → AV → AV → AV → St → Prop) (x0 x1 x7 x8 : AV) (S : St) : Prop :=
 bLt x8 x7 S fun v1 S1 =>
 condX v1
 (bIad 1 x0 x8 S1 fun v2 S2 =>
 bLd v2 S2 fun v3 S3 =>
 sR (.eq false .ptr) [x1, v3] S3 fun v4 S4 =>
 condX v4
 (k x8 S4)
 (bAdd x8 (.i .i64 1) S4 fun v5 S5 =>
 k1 x0 x1 x7 v5 S5))
 (Y_116_3 C k S1)
def Y_116_4 (C : CS) (k : KS) (x0 x1 : AV) (S : St) : Prop :=
 bLen x0 S fun v1 S1 =>
 lp4 (Y_116_7 C k) x0 x1 v1 (.i .i64 0) S1
def Y_116_1 (C : CS) (k : KS) (x0 x1 : AV) (S : St) : Prop :=
 Y_116_4 C k x0 x1 S
def Z_116 (C : CS) (vs : List AV) (S : St) (k : KS) : Prop := ar2 ((fun (C : CS) (k : KS) (a0 a1 : AV) (S : St) => Y_116_1 C k a0 a1 S) C k) vs S
theorem z_116 {F : Nat → Option AFn} (h : ∀ f, Nat.beq f 4 = false → F f = tbl f) : FnOk F 116 Z_116 := fn2 ((h 116 (by kernel_rfl)).trans c116) (Y := fun (C : CS) (k : KS) (a0 a1 : AV) (S : St) => Y_116_1 C k a0 a1 S) fun C l t S k => xS (fun l t S => xS (fun l t S => xf (Y_116_3 C k S)) (xS (fun l t S => xB (xL4 0 1 7 8 (Y_116_7 C k) (fun l t S k1 => xf (Y_116_7 C k k1 (l 0) (l 1) (l 7) (l 8) S)) (xf (lp4 (Y_116_7 C k) (l 0) (l 1) (l 7) (l 8) S)))) (xf (Y_116_4 C k (l 0) (l 1) S)))) (xf (Y_116_1 C k (l 0) (l 1) S))
theorem c117 : tbl 117 = some (fnOf (tbl 117)) := by kernel_rfl
/-- (*tarpaulin/timer.Set).has -/
def Y_117_1 (C : CS) (k : KS) (x0 x1 : AV) (S : St) : Prop :=
 sR (.eq true .ptr) [x0, (.p none)] S fun v1 S1 =>
 gdO v1 true (sMv [x1] S1) S1 fun v2 S2 =>
 gdO v1 true (bGe v2 (.i .i64 0) S2) S2 fun v3 S3 =>
 bPick v1 v3 (.b false) S3 fun v4 S4 =>
 gdO v4 true (sMv [x1] S4) S4 fun v5 S5 =>
 gdO v4 true (sMv [x0] S5) S5 fun v6 S6 =>
 gdO v4 true (bNil v6 S6) S6 fun v7 S7 =>
 gdO v4 true (bFad 0 v7 S7) S7 fun v8 S8 =>
 gdO v4 true (bLd v8 S8) S8 fun v9 S9 =>
 gdO v4 true (bLen v9 S9) S9 fun v10 S10 =>
 gdO v4 true (bLt v5 v10 S10) S10 fun v11 S11 =>
 bPick v4 v11 (.b false) S11 fun v12 S12 =>
 k v12 S12
def Z_117 (C : CS) (vs : List AV) (S : St) (k : KS) : Prop := ar2 ((fun (C : CS) (k : KS) (a0 a1 : AV) (S : St) => Y_117_1 C k a0 a1 S) C k) vs S
theorem z_117 {F : Nat → Option AFn} (h : ∀ f, Nat.beq f 4 = false → F f = tbl f) : FnOk F 117 Z_117 := fn2 ((h 117 (by kernel_rfl)).trans c117) (Y := fun (C : CS) (k : KS) (a0 a1 : AV) (S : St) => Y_117_1 C k a0 a1 S) fun C l t S k => xf (Y_117_1 C k (l 0) (l 1) S)
theorem c118 : tbl 118 = some (fnOf (tbl 118)) := by kernel_rfl
/-- (*tarpaulin/world.World).passed -/
def Y_118_6 (C : CS) (k : KS) (S : St) : Prop :=
 k (.tup []) S
def Y_118_9 (C : CS) (k : KS) (x0 x4 x5 x6 : AV) (S : St) : Prop :=
 bFad 1 x6 S fun v1 S1 =>
 bLd v1 S1 fun v2 S2 =>
 bFad 4 x4 S2 fun v3 S3 =>
 bIadA 8 1 v3 v2 S3 fun v4 S4 =>
 bLd v4 S4 fun v5 S5 =>
 bFad 0 x5 S5 fun v6 S6 =>
 bLd v6 S6 fun v7 S7 =>
 bFad 2 x6 S7 fun v8 S8 =>
 bLd v8 S8 fun v9 S9 =>
 bFad 4 x4 S9 fun v10 S10 =>
 bIadA 8 1 v10 v9 S10 fun v11 S11 =>
 bLd v11 S11 fun v12 S12 =>
 C 73 [x0, v5, v7, v12, (.b false)] S12 fun v13 S13 =>
 k (.tup []) S13
def Y_118_12 (C : CS) (k : KS) (x0 x4 x5 x6 : AV) (S : St) : Prop :=
 bFad 1 x6 S fun v1 S1 =>
 bLd v1 S1 fun v2 S2 =>
 bFad 4 x4 S2 fun v3 S3 =>
 bIadA 8 1 v3 v2 S3 fun v4 S4 =>
 bLd v4 S4 fun v5 S5 =>
 bFad 0 x5 S5 fun v6 S6 =>
 bLd v6 S6 fun v7 S7 =>
 bFad 2 x5 S7 fun v8 S8 =>
 bLd v8 S8 fun v9 S9 =>
 C 73 [x0, v5, v7, v9, (.b true)] S9 fun v10 S10 =>
 k (.tup []) S10
def Y_118_15 (C : CS) (k : KS) (x0 x4 x5 x6 : AV) (S : St) : Prop :=
 bFad 4 x6 S fun v1 S1 =>
 bLd v1 S1 fun v2 S2 =>
 bFad 1 x5 S2 fun v3 S3 =>
 bLd v3 S3 fun v4 S4 =>
 bIad 3 v2 v4 S4 fun v5 S5 =>
 bFad 1 v5 S5 fun v6 S6 =>
 bLd v6 S6 fun v7 S7 =>
 bFad 4 x4 S7 fun v8 S8 =>
 bIadA 8 1 v8 v7 S8 fun v9 S9 =>
 bLd v9 S9 fun v10 S10 =>
 bFad 0 x5 S10 fun v11 S11 =>
 bLd v11 S11 fun v12 S12 =>
 bFad 4 x6 S12 fun v13 S13 =>
 bLd v13 S13 fun v14 S14 =>
 bFad 1 x5 S14 fun v15 S15 =>
 bLd v15 S15 fun v16 S16 =>
 bIad 3 v14 v16 S16 fun v17 S17 =>
 bFad 2 v17 S17 fun v18 S18 =>
 bLd v18 S18 fun v19 S19 =>
 bFad 4 x4 S19 fun v20 S20 =>
 bIadA 8 1 v20 v19 S20 fun v21 S21 =>
 bLd v21 S21 fun v22 S22 =>
 C 73 [x0, v10, v12, v22, (.b false)] S22 fun v23 S23 =>
 k (.tup []) S23
def Y_118_16 (C : CS) (k : KS) (x0 x4 x5 x6 : AV) (S : St) : Prop :=
 bFad 0 x6 S fun v1 S1 =>
 bLd v1 S1 fun v2 S2 =>
 bEq v2 (.i .i64 15) S2 fun v3 S3 =>
 gdO v3 true (bFad 3 x5 S3) S3 fun v4 S4 =>
 gdO v3 true (bLd v4 S4) S4 fun v5 S5 =>
 bPick v3 v5 (.b false) S5 fun v6 S6 =>
 condX v6
 (bFad 4 x6 S6 fun v7 S7 =>
 bLd v7 S7 fun v8 S8 =>
 bFad 1 x5 S8 fun v9 S9 =>
 bLd v9 S9 fun v10 S10 =>
 bIad 3 v8 v10 S10 fun v11 S11 =>
 bFad 1 v11 S11 fun v12 S12 =>
 bLd v12 S12 fun v13 S13 =>
 bFad 4 x4 S13 fun v14 S14 =>
 bIadA 8 1 v14 v13 S14 fun v15 S15 =>
 bLd v15 S15 fun v16 S16 =>
 bFad 0 x5 S16 fun v17 S17 =>
 bLd v17 S17 fun v18 S18 =>
 bFad 2 x5 S18 fun v19 S19 =>
 bLd v19 S19 fun v20 S20 =>
 C 73 [x0, v16, v18, v20, (.b true)] S20 fun v21 S21 =>
 k (.tup []) S21)
 (k (.tup []) S6)
def Y_118_14 (C : CS) (k : KS) (x0 x4 x5 x6 t49 : AV) (S : St) : Prop :=
 condX t49
 (Y_118_15 C k x0 x4 x5 x6 S)
 (Y_118_16 C k x0 x4 x5 x6 S)
def Y_118_13 (C : CS) (k : KS) (x0 x4 x5 x6 : AV) (S : St) : Prop :=
 bFad 0 x6 S fun v1 S1 =>
 bLd v1 S1 fun v2 S2 =>
 bEq v2 (.i .i64 15) S2 fun v3 S3 =>
 gdO v3 true (bFad 4 x6 S3) S3 fun v4 S4 =>
 gdO v3 true (bLd v4 S4) S4 fun v5 S5 =>
 gdO v3 true (bFad 1 x5 S5) S5 fun v6 S6 =>
 gdO v3 true (bLd v6 S6) S6 fun v7 S7 =>
 gdO v3 true (bIad 3 v5 v7 S7) S7 fun v8 S8 =>
 gdO v3 true (bFad 0 v8 S8) S8 fun v9 S9 =>
 gdO v3 true (bLd v9 S9) S9 fun v10 S10 =>
 bPick v3 v10 (.b false) S10 fun v11 S11 =>
 Y_118_14 C k x0 x4 x5 x6 v11 S11
def Y_118_11 (C : CS) (k : KS) (x0 x4 x5 x6 t30 : AV) (S : St) : Prop :=
 condX t30
 (Y_118_12 C k x0 x4 x5 x6 S)
 (Y_118_13 C k x0 x4 x5 x6 S)
def Y_118_10 (C : CS) (k : KS) (x0 x4 x5 x6 : AV) (S : St) : Prop :=
 bFad 0 x6 S fun v1 S1 =>
 bLd v1 S1 fun v2 S2 =>
 bEq v2 (.i .i64 11) S2 fun v3 S3 =>
 gdO v3 true (bFad 3 x5 S3) S3 fun v4 S4 =>
 gdO v3 true (bLd v4 S4) S4 fun v5 S5 =>
 bPick v3 v5 (.b false) S5 fun v6 S6 =>
 Y_118_11 C k x0 x4 x5 x6 v6 S6
def Y_118_8 (C : CS) (k : KS) (x0 x4 x5 x6 t12 : AV) (S : St) : Prop :=
 condX t12
 (Y_118_9 C k x0 x4 x5 x6 S)
 (Y_118_10 C k x0 x4 x5 x6 S)
def Y_118_7 (C : CS) (k : KS) (x0 x4 x5 x6 : AV) (S : St) : Prop :=
 bFad 0 x6 S fun v1 S1 =>
 bLd v1 S1 fun v2 S2 =>
 bEq v2 (.i .i64 10) S2 fun v3 S3 =>
 Y_118_8 C k x0 x4 x5 x6 v3 S3
def Y_118_5 (C : CS) (k : KS) (x0 x4 x5 x6 t9 : AV) (S : St) : Prop :=
 condX t9
 (Y_118_6 C k S)
 (Y_118_7 C k x0 x4 x5 x6 S)
def Y_118_4 (C : CS) (k : KS) (x0 x4 x5 x6 : AV) (S : St) : Prop :=
 bFad 4 x5 S fun v1 S1 =>
 bLd v1 S1 fun v2 S2 =>
 Y_118_5 C k x0 x4 x5 x6 v2 S2
def Y_118_2 (C : CS) (k : KS) (x0 x4 x5 : AV) (S : St) : Prop :=
 bFad 12 x4 S fun v1 S1 =>
 bLdN 6 v1 S1 fun v2 S2 =>
 bAlloc [.i .i64 0, .i .i64 0, .i .i64 0, .i .i64 0, .sl none 0 0 0, .b false] S2 fun v3 S3 =>
 bSt 6 v3 v2 S3 fun _ S4 =>
 Y_118_4 C k x0 x4 x5 v3 S4
def Y_118_1 (C : CS) (k : KS) (x0 x1 x2 : AV) (S : St) : Prop :=
 bBox x1 S fun v1 S1 =>
 bBox x2 S1 fun v2 S2 =>
 Y_118_2 C k x0 v1 v2 S2
def Z_118 (C : CS) (vs : List AV) (S : St) (k : KS) : Prop := ar3 ((fun (C : CS) (k : KS) (a0 a1 a2 : AV) (S : St) => Y_118_1 C k a0 a1 a2 S) C k) vs S
theorem z_118 {F : Nat → Option AFn} (h : ∀ f, Nat.beq f 4 = false → F f = tbl f) : FnOk F 118 Z_118 := fn3 ((h 118 (by kernel_rfl)).trans c118) (Y := fun (C : CS) (k : KS) (a0 a1 a2 : AV) (S : St) => Y_118_1 C k a0 a1 a2 S) fun C l t S k => xS (fun l t S => xS (fun l t S => xB (xS (fun l t S => xC (xf (Y_118_6 C k S)) (xS (fun l t S => xC (xf (Y_118_9 C k (l 0) (l 4) (l 5) (l 6) S)) (xS (fun l t S => xC (xf (Y_118_12 C k (l 0) (l 4) (l 5) (l 6) S)) (xS (fun l t S => xC (xf (Y_118_15 C k (l 0) (l 4) (l 5) (l 6) S)) (xf (Y_118_16 C k (l 0) (l 4) (l 5) (l 6) S)) (xf (Y_118_14 C k (l 0) (l 4) (l 5) (l 6) (t 49) S))) (xf (Y_118_13 C k (l 0) (l 4) (l 5) (l 6) S))) (xf (Y_118_11 C k (l 0) (l 4) (l 5) (l 6) (t 30) S))) (xf (Y_118_10 C k (l 0) (l 4) (l 5) (l 6) S))) (xf (Y_118_8 C k (l 0) (l 4) (l 5) (l 6) (t 12) S))) (xf (Y_118_7 C k (l 0) (l 4) (l 5) (l 6) S))) (xf (Y_118_5 C k (l 0) (l 4) (l 5) (l 6) (t 9) S))) (xf (Y_118_4 C k (l 0) (l 4) (l 5) (l 6) S)))) (xf (Y_118_2 C k (l 0) (l 4) (l 5) S))) (xf (Y_118_1 C k (l 0) (l 1) (l 2) S))
theorem c119 : tbl 119 = some (fnOf (tbl 119)) := by kernel_rfl
/-- (*tarpaulin/world.World).cases -/
def Y_119_3 (C : CS) (k : KS) (x6 : AV) (S : St) : Prop :=
 k (.tup [x6, (.b true)]) S
def Y_119_7 (C : CS) (k : KS) (k1 : AV → AV → AV → AV → AV → AV → St → Prop) (x0 x5 x6 x13 x14 x15 : AV) (S : St) : Prop :=
 bLt x15 x14 S fun v1 S1 =>
 condX v1
 (bIad 3 x13 x15 S1 fun v2 S2 =>
 bLdN 3 v2 S2 fun v3 S3 =>
 bAlloc [.b false, .i .i64 0, .i .i64 0] S3 fun v4 S4 =>
 bSt 3 v4 v3 S4 fun _ S5 =>
 bFad 1 v4 S5 fun v6 S6 =>
 bLd v6 S6 fun v7 S7 =>
 bIadA 8 1 x5 v7 S7 fun v8 S8 =>
 bLd v8 S8 fun v9 S9 =>
 C 26 [x0, v9] S9 fun v10 S10 =>
 bExt 0 v10 S10 fun v11 S11 =>
 bExt 1 v10 S11 fun v12 S12 =>
 bNot v12 S12 fun v13 S13 =>
 condX v13
 (k (.tup [(.sl none 0 0 0), (.b false)]) S13)
 (bFad 0 v4 S13 fun v14 S14 =>
 bLd v14 S14 fun v15 S15 =>
 bFad 2 v4 S15 fun v16 S16 =>
 bLd v16 S16 fun v17 S17 =>
 bIadA 8 1 x5 v17 S17 fun v18 S18 =>
 bLd v18 S18 fun v19 S19 =>
 sBuild [.p none, .b false, .i .i64 0] [(0, 1), (1, 1), (2, 1)] [v11, v15, v19] S19 fun v20 S20 =>
 sAl (.bslice [.p none, .b false, .i .i64 0] 1 3 [0]) [v20] S20 fun v21 S21 =>
 bApp 3 24 x6 v21 S21 fun v22 S22 =>
 bAdd x15 (.i .i64 1) S22 fun v23 S23 =>
 k1 x0 x5 v22 x13 x14 v23 S23))
 (Y_119_3 C k x6 S1)
def Y_119_4 (C : CS) (k : KS) (x0 x4 x5 x6 : AV) (S : St) : Prop :=
 bFad 4 x4 S fun v1 S1 =>
 bLd v1 S1 fun v2 S2 =>
 bLen v2 S2 fun v3 S3 =>
 lp6 (Y_119_7 C k) x0 x5 x6 v2 v3 (.i .i64 0) S3
def Y_119_1 (C : CS) (k : KS) (x0 x1 x2 : AV) (S : St) : Prop :=
 bBox x1 S fun v1 S1 =>
 bBox x2 S1 fun v2 S2 =>
 Y_119_4 C k x0 v1 v2 (.sl none 0 0 0) S2
def Z_119 (C : CS) (vs : List AV) (S : St) (k : KS) : Prop := ar3 ((fun (C : CS) (k : KS) (a0 a1 a2 : AV) (S : St) => Y_119_1 C k a0 a1 a2 S) C k) vs S
theorem z_119 {F : Nat → Option AFn} (h : ∀ f, Nat.beq f 4 = false → F f = tbl f) : FnOk F 119 Z_119 := fn3 ((h 119 (by kernel_rfl)).trans c119) (Y := fun (C : CS) (k : KS) (a0 a1 a2 : AV) (S : St) => Y_119_1 C k a0 a1 a2 S) fun C l t S k => xS (fun l t S => xS (fun l t S => xf (Y_119_3 C k (l 6) S)) (xS (fun l t S => xB (xL6 0 5 6 13 14 15 (Y_119_7 C k) (fun l t S k1 => xf (Y_119_7 C k k1 (l 0) (l 5) (l 6) (l 13) (l 14) (l 15) S)) (xf (lp6 (Y_119_7 C k) (l 0) (l 5) (l 6) (l 13) (l 14) (l 15) S)))) (xf (Y_119_4 C k (l 0) (l 4) (l 5) (l 6) S)))) (xf (Y_119_1 C k (l 0) (l 1) (l 2) S))
theorem c120 : tbl 120 = some (fnOf (tbl 120)) := by kernel_rfl
/-- tarpaulin/choose.Leave -/
def Y_120_3 (C : CS) (k : KS) (x4 : AV) (S : St) : Prop :=
 k x4 S
def Y_120_7 (C : CS) (k : KS) (k1 : AV → AV → AV → AV → AV → St → Prop) (x1 x4 x7 x8 x9 : AV) (S : St) : Prop :=
 bLt x9 x8 S fun v1 S1 =>
 condX v1
 (bIad 3 x7 x9 S1 fun v2 S2 =>
 bLdN 3 v2 S2 fun v3 S3 =>
 bAlloc [.p none, .b false, .i .i64 0] S3 fun v4 S4 =>
 bSt 3 v4 v3 S4 fun _ S5 =>
 bFad 0 v4 S5 fun v6 S6 =>
 bLd v6 S6 fun v7 S7 =>
 C 165 [v7, x1] S7 fun v8 S8 =>
 bAdd x4 v8 S8 fun v9 S9 =>
 bAdd x9 (.i .i64 1) S9 fun v10 S10 =>
 k1 x1 v9 x7 x8 v10 S10)
 (Y_120_3 C k x4 S1)
def Y_120_4 (C : CS) (k : KS) (x0 x1 x4 : AV) (S : St) : Prop :=
 bLen x0 S fun v1 S1 =>
 lp5 (Y_120_7 C k) x1 x4 x0 v1 (.i .i64 0) S1
def Y_120_1 (C : CS) (k : KS) (x0 x1 : AV) (S : St) : Prop :=
 Y_120_4 C k x0 x1 (.i .i64 0) S
def Z_120 (C : CS) (vs : List AV) (S : St) (k : KS) : Prop := ar2 ((fun (C : CS) (k : KS) (a0 a1 : AV) (S : St) => Y_120_1 C k a0 a1 S) C k) vs S
theorem z_120 {F : Nat → Option AFn} (h : ∀ f, Nat.beq f 4 = false → F f = tbl f) : FnOk F 120 Z_120 := fn2 ((h 120 (by kernel_rfl)).trans c120) (Y := fun (C : CS) (k : KS) (a0 a1 : AV) (S : St) => Y_120_1 C k a0 a1 S) fun C l t S k => xS (fun l t S => xS (fun l t S => xf (Y_120_3 C k (l 4) S)) (xS (fun l t S => xB (xL5 1 4 7 8 9 (Y_120_7 C k) (fun l t S k1 => xf (Y_120_7 C k k1 (l 1) (l 4) (l 7) (l 8) (l 9) S)) (xf (lp5 (Y_120_7 C k) (l 1) (l 4) (l 7) (l 8) (l 9) S)))) (xf (Y_120_4 C k (l 0) (l 1) (l 4) S)))) (xf (Y_120_1 C k (l 0) (l 1) S))
theorem c121 : tbl 121 = some (fnOf (tbl 121)) := by kernel_rfl
/-- (*tarpaulin/task.Table).Wake -/
def Y_121_5 (C : CS) (k : KS) (x0 x3 x5 : AV) (S : St) : Prop :=
 sBuild [.i .i64 0, .i .i64 0, .i .i64 0, .i .i64 0, .sl none 0 0 0, .b false] [] [] S fun v1 S1 =>
 bFad 12 x5 S1 fun v2 S2 =>
 bSt 6 v2 v1 S2 fun _ S3 =>
 bNil x0 S3 fun v4 S4 =>
 bFad 0 v4 S4 fun v5 S5 =>
 bLd v5 S5 fun v6 S6 =>
 bFad 0 x3 S6 fun v7 S7 =>
 bLd v7 S7 fun v8 S8 =>
 bLdN 18 x5 S8 fun v9 S9 =>
 C 95 [v6, v8, v9] S9 fun v10 S10 =>
 k (.i .i64 0) S10
def Y_121_4 (C : CS) (k : KS) (x0 x3 x5 : AV) (S : St) : Prop :=
 bFad 4 x3 S fun v1 S1 =>
 bLd v1 S1 fun v2 S2 =>
 condX v2
 (bFad 2 x5 S2 fun v3 S3 =>
 bSt 1 v3 (.i .i64 2) S3 fun _ S4 =>
 bFad 3 x5 S4 fun v5 S5 =>
 bSt 1 v5 (.i .i64 1) S5 fun _ S6 =>
 Y_121_5 C k x0 x3 x5 S6)
 (bLdN 5 x3 S2 fun v7 S7 =>
 C 167 [x5, v7] S7 fun v8 S8 =>
 bFad 1 x5 S8 fun v9 S9 =>
 bLd v9 S9 fun v10 S10 =>
 bAdd v10 (.i .i64 1) S10 fun v11 S11 =>
 bFad 1 x5 S11 fun v12 S12 =>
 bSt 1 v12 v11 S12 fun _ S13 =>
 bFad 2 x5 S13 fun v14 S14 =>
 bSt 1 v14 (.i .i64 0) S14 fun _ S15 =>
 bNil x0 S15 fun v16 S16 =>
 bFad 1 v16 S16 fun v17 S17 =>
 bLd v17 S17 fun v18 S18 =>
 bFad 0 x3 S18 fun v19 S19 =>
 bLd v19 S19 fun v20 S20 =>
 C 65 [v18, v20] S20 fun v21 S21 =>
 Y_121_5 C k x0 x3 x5 S21)
def Y_121_3 (C : CS) (k : KS) (x0 x3 x5 x6 : AV) (S : St) : Prop :=
 bNe x6 (.i .i64 0) S fun v1 S1 =>
 condX v1
 (k x6 S1)
 (Y_121_4 C k x0 x3 x5 S1)
def Y_121_2 (C : CS) (k : KS) (x0 x3 : AV) (S : St) : Prop :=
 bFad 0 x3 S fun v1 S1 =>
 bLd v1 S1 fun v2 S2 =>
 C 93 [x0, v2, (.fn 166 [] [])] S2 fun v3 S3 =>
 bExt 0 v3 S3 fun v4 S4 =>
 bExt 1 v3 S4 fun v5 S5 =>
 bAlloc [.i .i64 0, .i .i64 0, .i .i64 0, .i .i64 0, .i .i64 0, .i .i64 0, .i .i64 0, .i .i64 0, .i .i64 0, .i .i64 0, .i .i64 0, .i .i64 0, .i .i64 0, .i .i64 0, .i .i64 0, .i .i64 0, .sl none 0 0 0, .b false] S5 fun v6 S6 =>
 bSt 18 v6 v4 S6 fun _ S7 =>
 Y_121_3 C k x0 x3 v6 v5 S7
def Y_121_1 (C : CS) (k : KS) (x0 x1 : AV) (S : St) : Prop :=
 bBox x1 S fun v1 S1 =>
 Y_121_2 C k x0 v1 S1
def Z_121 (C : CS) (vs : List AV) (S : St) (k : KS) : Prop := ar2 ((fun (C : CS) (k : KS) (a0 a1 : AV) (S : St) => Y_121_1 C k a0 a1 S) C k) vs S
theorem z_121 {F : Nat → Option AFn} (h : ∀ f, Nat.beq f 4 = false → F f = tbl f) : FnOk F 121 Z_121 := fn2 ((h 121 (by kernel_rfl)).trans c121) (Y := fun (C : CS) (k : KS) (a0 a1 : AV) (S : St) => Y_121_1 C k a0 a1 S) fun C l t S k => xS (fun l t S => xS (fun l t S => xS (fun l t S => xS (fun l t S => xf (Y_121_5 C k (l 0) (l 3) (l 5) S)) (xf (Y_121_4 C k (l 0) (l 3) (l 5) S))) (xf (Y_121_3 C k (l 0) (l 3) (l 5) (l 6) S))) (xf (Y_121_2 C k (l 0) (l 3) S))) (xf (Y_121_1 C k (l 0) (l 1) S))
theorem c122 : tbl 122 = some (fnOf (tbl 122)) := by kernel_rfl
/-- tarpaulin/world.bit -/
def Y_122_1 (C : CS) (k : KS) (x0 : AV) (S : St) : Prop :=
 condX x0
 (k (.i .i64 1) S)
 (k (.i .i64 0) S)
def Z_122 (C : CS) (vs : List AV) (S : St) (k : KS) : Prop := ar1 ((fun (C : CS) (k : KS) (a0 : AV) (S : St) => Y_122_1 C k a0 S) C k) vs S
theorem z_122 {F : Nat → Option AFn} (h : ∀ f, Nat.beq f 4 = false → F f = tbl f) : FnOk F 122 Z_122 := fn1 ((h 122 (by kernel_rfl)).trans c122) (Y := fun (C : CS) (k : KS) (a0 : AV) (S : St) => Y_122_1 C k a0 S) fun C l t S k => xf (Y_122_1 C k (l 0) S)
theorem c123 : tbl 123 = some (fnOf (tbl 123)) := by kernel_rfl
/-- (*tarpaulin/ready.List).Len -/
def Y_123_1 (C : CS) (k : KS) (x0 : AV) (S : St) : Prop :=
 sR (.eq false .ptr) [x0, (.p none)] S fun v1 S1 =>
 condX v1
 (k (.i .i64 0) S1)
 (bNil x0 S1 fun v2 S2 =>
 bFad 0 v2 S2 fun v3 S3 =>
 bLd v3 S3 fun v4 S4 =>
 bLen v4 S4 fun v5 S5 =>
 k v5 S5)
def Z_123 (C : CS) (vs : List AV) (S : St) (k : KS) : Prop := ar1 ((fun (C : CS) (k : KS) (a0 : AV) (S : St) => Y_123_1 C k a0 S) C k) vs S
theorem z_123 {F : Nat → Option AFn} (h : ∀ f, Nat.beq f 4 = false → F f = tbl f) : FnOk F 123 Z_123 := fn1 ((h 123 (by kernel_rfl)).trans c123) (Y := fun (C : CS) (k : KS) (a0 : AV) (S : St) => Y_123_1 C k a0 S) fun C l t S k => xf (Y_123_1 C k (l 0) S)
theorem c124 : tbl 124 = some (fnOf (tbl 124)) := by kernel_rfl
/-- tarpaulin/script.Pick -/
def Y_124_1 (C : CS) (k : KS) (x0 x1 : AV) (S : St) : Prop :=
 bLt x1 (.i .i64 1) S fun v1 S1 =>
 condX v1
 (k (.i .i64 0) S1)
 (sR (.bin .rem) [x0, x1] S1 fun v2 S2 =>
 bLt v2 (.i .i64 0) S2 fun v3 S3 =>
 condX v3
 (bAdd v2 x1 S3 fun v4 S4 =>
 k v4 S4)
 (k v2 S3))
def Z_124 (C : CS) (vs : List AV) (S : St) (k : KS) : Prop := ar2 ((fun (C : CS) (k : KS) (a0 a1 : AV) (S : St) => Y_124_1 C k a0 a1 S) C k) vs S
theorem z_124 {F : Nat → Option AFn} (h : ∀ f, Nat.beq f 4 = false → F f = tbl f) : FnOk F 124 Z_124 := fn2 ((h 124 (by kernel_rfl)).trans c124) (Y := fun (C : CS) (k : KS) (a0 a1 : AV) (S : St) => Y_124_1 C k a0 a1 S) fun C l t S k => xf (Y_124_1 C k (l 0) (l 1) S)
theorem c125 : tbl 125 = some (fnOf (tbl 125)) := by kernel_rfl
/-- tarpaulin/chanq.New -/
def Y_125_1 (C : CS) (k : KS) (x0 : AV) (S : St) : Prop :=
 C 168 [x0] S fun v1 S1 =>
 bExt 0 v1 S1 fun v2 S2 =>
 bExt 1 v1 S2 fun v3 S3 =>
 bNe v3 (.i .i64 0) S3 fun v4 S4 =>
 condX v4
 (k (.tup [(.p none), v3]) S4)
 (C 169 [] S4 fun v5 S5 =>
 C 169 [] S5 fun v6 S6 =>
 sBuild [.p none, .p none, .p none, .b false, .b false, .b false] [(0, 1), (1, 1), (2, 1)] [v2, v5, v6] S6 fun v7 S7 =>
 bBox v7 S7 fun v8 S8 =>
 k (.tup [v8, (.i .i64 0)]) S8)
def Z_125 (C : CS) (vs : List AV) (S : St) (k : KS) : Prop := ar1 ((fun (C : CS) (k : KS) (a0 : AV) (S : St) => Y_125_1 C k a0 S) C k) vs S
theorem z_125 {F : Nat → Option AFn} (h : ∀ f, Nat.beq f 4 = false → F f = tbl f) : FnOk F 125 Z_125 := fn1 ((h 125 (by kernel_rfl)).trans c125) (Y := fun (C : CS) (k : KS) (a0 : AV) (S : St) => Y_125_1 C k a0 S) fun C l t S k => xf (Y_125_1 C k (l 0) S)
theorem c126 : tbl 126 = some (fnOf (tbl 126)) := by kernel_rfl
/-- (*tarpaulin/world.World).open -/
def Y_126_1 (C : CS) (k : KS) (x0 x1 : AV) (S : St) : Prop :=
 bNil x0 S fun v1 S1 =>
 bFad 3 v1 S1 fun v2 S2 =>
 bLd v2 S2 fun v3 S3 =>
 sAl (.bslice [.p none] 1 1 [0]) [x1] S3 fun v4 S4 =>
 bApp 1 8 v3 v4 S4 fun v5 S5 =>
 bNil x0 S5 fun v6 S6 =>
 bFad 3 v6 S6 fun v7 S7 =>
 bSt 1 v7 v5 S7 fun _ S8 =>
 bNil x0 S8 fun v9 S9 =>
 bFad 3 v9 S9 fun v10 S10 =>
 bLd v10 S10 fun v11 S11 =>
 bLen v11 S11 fun v12 S12 =>
 bSub v12 (.i .i64 1) S12 fun v13 S13 =>
 k v13 S13
def Z_126 (C : CS) (vs : List AV) (S : St) (k : KS) : Prop := ar2 ((fun (C : CS) (k : KS) (a0 a1 : AV) (S : St) => Y_126_1 C k a0 a1 S) C k) vs S
theorem z_126 {F : Nat → Option AFn} (h : ∀ f, Nat.beq f 4 = false → F f = tbl f) : FnOk F 126 Z_126 := fn2 ((h 126 (by kernel_rfl)).trans c126) (Y := fun (C : CS) (k : KS) (a0 a1 : AV) (S : St) => Y_126_1 C k a0 a1 S) fun C l t S k => xf (Y_126_1 C k (l 0) (l 1) S)
theorem c127 : tbl 127 = some (fnOf (tbl 127)) := by kernel_rfl
/-- (*tarpaulin/world.act).send -/
def Y_127_5 (C : CS) (k : KS) (x0 : AV) (S : St) : Prop :=
 bNil x0 S fun v1 S1 =>
 bFad 25 v1 S1 fun v2 S2 =>
 bSt 1 v2 (.i .i64 8) S2 fun _ S3 =>
 k (.tup []) S3
def Y_127_7 (C : CS) (k : KS) (x0 x1 x4 x5 t33 : AV) (S : St) : Prop :=
 condX t33
 (bNil x0 S fun v1 S1 =>
 bFad 25 v1 S1 fun v2 S2 =>
 bSt 1 v2 (.i .i64 1) S2 fun _ S3 =>
 k (.tup []) S3)
 (condX x4
 (bNil x0 S fun v4 S4 =>
 bFad 0 v4 S4 fun v5 S5 =>
 bLd v5 S5 fun v6 S6 =>
 C 88 [x0] S6 fun v7 S7 =>
 bNil x0 S7 fun v8 S8 =>
 bFad 1 v8 S8 fun v9 S9 =>
 bLd v9 S9 fun v10 S10 =>
 C 89 [x0] S10 fun v11 S11 =>
 C 73 [v6, v7, v10, v11, (.b false)] S11 fun v12 S12 =>
 bif (bif (againX (.ld none) [v5] S5 S7) then (bif (againX (.ld none) [v5] S5 S11) then (bif (againX (.ld none) [v9] S9 S) then (bif (againX (.ld none) [v9] S9 S11) then true else false) else false) else false) else false) then (bNil x0 S12 fun v13 S13 =>
 bFad 0 v13 S13 fun v14 S14 =>
 bLd v14 S14 fun v15 S15 =>
 C 76 [v15, x5] S15 fun v16 S16 =>
 k (.tup []) S16) else False)
 (bNil x0 S fun v17 S17 =>
 bFad 26 v17 S17 fun v18 S18 =>
 bSt 1 v18 (.b true) S18 fun _ S19 =>
 bNil x0 S19 fun v20 S20 =>
 bFad 1 v20 S20 fun v21 S21 =>
 bLd v21 S21 fun v22 S22 =>
 C 89 [x0] S22 fun v23 S23 =>
 sBuild [.i .i64 0, .i .i64 0, .i .i64 0] [(0, 1), (2, 1)] [v22, v23] S23 fun v24 S24 =>
 C 171 [x1, v24, (.b true)] S24 fun v25 S25 =>
 bif (bif (againX (.ld none) [v21] S21 S23) then true else false) then (k (.tup []) S25) else False))
def Y_127_6 (C : CS) (k : KS) (x0 x1 x4 x5 x6 : AV) (S : St) : Prop :=
 bEq x6 (.i .i64 5) S fun v1 S1 =>
 Y_127_7 C k x0 x1 x4 x5 v1 S1
def Y_127_4 (C : CS) (k : KS) (x0 x1 x4 x5 x6 t27 : AV) (S : St) : Prop :=
 condX t27
 (Y_127_5 C k x0 S)
 (Y_127_6 C k x0 x1 x4 x5 x6 S)
def Y_127_3 (C : CS) (k : KS) (x0 x1 x4 x5 x6 : AV) (S : St) : Prop :=
 bEq x6 (.i .i64 7) S fun v1 S1 =>
 Y_127_4 C k x0 x1 x4 x5 x6 v1 S1
def Y_127_1 (C : CS) (k : KS) (x0 x1 : AV) (S : St) : Prop :=
 C 89 [x0] S fun v1 S1 =>
 C 170 [x1, v1] S1 fun v2 S2 =>
 bExt 0 v2 S2 fun v3 S3 =>
 bExt 1 v2 S3 fun v4 S4 =>
 bExt 2 v2 S4 fun v5 S5 =>
 Y_127_3 C k x0 x1 v3 v4 v5 S5
def Z_127 (C : CS) (vs : List AV) (S : St) (k : KS) : Prop := ar2 ((fun (C : CS) (k : KS) (a0 a1 : AV) (S : St) => Y_127_1 C k a0 a1 S) C k) vs S
theorem z_127 {F : Nat → Option AFn} (h : ∀ f, Nat.beq f 4 = false → F f = tbl f) : FnOk F 127 Z_127 := fn2 ((h 127 (by kernel_rfl)).trans c127) (Y := fun (C : CS) (k : KS) (a0 a1 : AV) (S : St) => Y_127_1 C k a0 a1 S) fun C l t S k => xS (fun l t S => xB (xS (fun l t S => xC (xf (Y_127_5 C k (l 0) S)) (xS (fun l t S => xf (Y_127_7 C k (l 0) (l 1) (l 4) (l 5) (t 33) S)) (xf (Y_127_6 C k (l 0) (l 1) (l 4) (l 5) (l 6) S))) (xf (Y_127_4 C k (l 0) (l 1) (l 4) (l 5) (l 6) (t 27) S))) (xf (Y_127_3 C k (l 0) (l 1) (l 4) (l 5) (l 6) S)))) (xf (Y_127_1 C k (l 0) (l 1) S))
theorem c128 : tbl 128 = some (fnOf (tbl 128)) := by kernel_rfl
/-- (*tarpaulin/world.act).recv -/
def Y_128_1 (C : CS) (k : KS) (x0 x1 : AV) (S : St) : Prop :=
 C 172 [x1] S fun v1 S1 =>
 bExt 0 v1 S1 fun v2 S2 =>
 bExt 1 v1 S2 fun v3 S3 =>
 bExt 2 v1 S3 fun v4 S4 =>
 bExt 3 v1 S4 fun v5 S5 =>
 condX v4
 (C 132 [x0, x1, v2, v3, v5] S5 fun v6 S6 =>
 k (.tup []) S6)
 (bNil x0 S5 fun v7 S7 =>
 bFad 26 v7 S7 fun v8 S8 =>
 bSt 1 v8 (.b true) S8 fun _ S9 =>
 bNil x0 S9 fun v10 S10 =>
 bFad 1 v10 S10 fun v11 S11 =>
 bLd v11 S11 fun v12 S12 =>
 sBuild [.i .i64 0, .i .i64 0, .i .i64 0] [(0, 1)] [v12] S12 fun v13 S13 =>
 C 171 [x1, v13, (.b false)] S13 fun v14 S14 =>
 k (.tup []) S14)
def Z_128 (C : CS) (vs : List AV) (S : St) (k : KS) : Prop := ar2 ((fun (C : CS) (k : KS) (a0 a1 : AV) (S : St) => Y_128_1 C k a0 a1 S) C k) vs S
theorem z_128 {F : Nat → Option AFn} (h : ∀ f, Nat.beq f 4 = false → F f = tbl f) : FnOk F 128 Z_128 := fn2 ((h 128 (by kernel_rfl)).trans c128) (Y := fun (C : CS) (k : KS) (a0 a1 : AV) (S : St) => Y_128_1 C k a0 a1 S) fun C l t S k => xf (Y_128_1 C k (l 0) (l 1) S)
theorem c129 : tbl 129 = some (fnOf (tbl 129)) := by kernel_rfl
/-- (*tarpaulin/world.act).close -/
def Y_129_3 (C : CS) (k : KS) (x0 x4 : AV) (S : St) : Prop :=
 bNil x0 S fun v1 S1 =>
 bFad 0 v1 S1 fun v2 S2 =>
 bLd v2 S2 fun v3 S3 =>
 C 76 [v3, x4] S3 fun v4 S4 =>
 k (.tup []) S4
def Y_129_2 (C : CS) (k : KS) (x0 x4 x5 : AV) (S : St) : Prop :=
 bEq x5 (.i .i64 6) S fun v1 S1 =>
 condX v1
 (bNil x0 S1 fun v2 S2 =>
 bFad 25 v2 S2 fun v3 S3 =>
 bSt 1 v3 (.i .i64 3) S3 fun _ S4 =>
 Y_129_3 C k x0 x4 S4)
 (bEq x5 (.i .i64 7) S1 fun v5 S5 =>
 condX v5
 (bNil x0 S5 fun v6 S6 =>
 bFad 25 v6 S6 fun v7 S7 =>
 bSt 1 v7 (.i .i64 8) S7 fun _ S8 =>
 Y_129_3 C k x0 x4 S8)
 (bEq x5 (.i .i64 5) S5 fun v9 S9 =>
 condX v9
 (bNil x0 S9 fun v10 S10 =>
 bFad 25 v10 S10 fun v11 S11 =>
 bSt 1 v11 (.i .i64 2) S11 fun _ S12 =>
 Y_129_3 C k x0 x4 S12)
 (Y_129_3 C k x0 x4 S9)))
def Y_129_1 (C : CS) (k : KS) (x0 x1 : AV) (S : St) : Prop :=
 C 173 [x1] S fun v1 S1 =>
 bExt 0 v1 S1 fun v2 S2 =>
 bExt 1 v1 S2 fun v3 S3 =>
 Y_129_2 C k x0 v2 v3 S3
def Z_129 (C : CS) (vs : List AV) (S : St) (k : KS) : Prop := ar2 ((fun (C : CS) (k : KS) (a0 a1 : AV) (S : St) => Y_129_1 C k a0 a1 S) C k) vs S
theorem z_129 {F : Nat → Option AFn} (h : ∀ f, Nat.beq f 4 = false → F f = tbl f) : FnOk F 129 Z_129 := fn2 ((h 129 (by kernel_rfl)).trans c129) (Y := fun (C : CS) (k : KS) (a0 a1 : AV) (S : St) => Y_129_1 C k a0 a1 S) fun C l t S k => xS (fun l t S => xS (fun l t S => xf (Y_129_3 C k (l 0) (l 4) S)) (xf (Y_129_2 C k (l 0) (l 4) (l 5) S))) (xf (Y_129_1 C k (l 0) (l 1) S))
theorem c130 : tbl 130 = some (fnOf (tbl 130)) := by kernel_rfl
/-- (*tarpaulin/chanq.Chan).Cap -/
def Y_130_1 (C : CS) (k : KS) (x0 : AV) (S : St) : Prop :=
 sR (.eq false .ptr) [x0, (.p none)] S fun v1 S1 =>
 gdO v1 false (sMv [x0] S1) S1 fun v2 S2 =>
 gdO v1 false (bNil v2 S2) S2 fun v3 S3 =>
 gdO v1 false (bFad 3 v3 S3) S3 fun v4 S4 =>
 gdO v1 false (bLd v4 S4) S4 fun v5 S5 =>
 bPick v1 (.b true) v5 S5 fun v6 S6 =>
 condX v6
 (k (.i .i64 0) S6)
 (bNil x0 S6 fun v7 S7 =>
 bFad 0 v7 S7 fun v8 S8 =>
 bLd v8 S8 fun v9 S9 =>
 C 174 [v9] S9 fun v10 S10 =>
 k v10 S10)
def Z_130 (C : CS) (vs : List AV) (S : St) (k : KS) : Prop := ar1 ((fun (C : CS) (k : KS) (a0 : AV) (S : St) => Y_130_1 C k a0 S) C k) vs S
theorem z_130 {F : Nat → Option AFn} (h : ∀ f, Nat.beq f 4 = false → F f = tbl f) : FnOk F 130 Z_130 := fn1 ((h 130 (by kernel_rfl)).trans c130) (Y := fun (C : CS) (k : KS) (a0 : AV) (S : St) => Y_130_1 C k a0 S) fun C l t S k => xf (Y_130_1 C k (l 0) S)
theorem c131 : tbl 131 = some (fnOf (tbl 131)) := by kernel_rfl
/-- tarpaulin/choose.Do -/
def Y_131_7 (C : CS) (k : KS) (x8 : AV) (S : St) : Prop :=
 sBuild [.i .i64 0, .i .i64 0, .b false, .b false, .b false, .b false] [(0, 1), (4, 1)] [(.i .i64 (-1)), (.b true)] S fun v1 S1 =>
 bSt 6 x8 v1 S1 fun _ S2 =>
 finV (resVX Env.nil Env.nil S2.h [.cell (.c x8) (some 6), .tmp (.c (.sl none 0 0 0)), .tmp (.c (.i .i64 0))]) S2 k
def Y_131_11 (C : CS) (k : KS) (k1 : AV → AV → AV → AV → AV → St → Prop) (x3 x8 x58 x59 x60 : AV) (S : St) : Prop :=
 bLt x60 x59 S fun v1 S1 =>
 condX v1
 (bIad 3 x58 x60 S1 fun v2 S2 =>
 bLdN 3 v2 S2 fun v3 S3 =>
 bAlloc [.p none, .b false, .i .i64 0] S3 fun v4 S4 =>
 bSt 3 v4 v3 S4 fun _ S5 =>
 sBuild [.i .i64 0, .i .i64 0, .i .i64 0] [(0, 1), (1, 1)] [x3, x60] S5 fun v6 S6 =>
 bAlloc [.i .i64 0, .i .i64 0, .i .i64 0] S6 fun v7 S7 =>
 bSt 3 v7 v6 S7 fun _ S8 =>
 bFad 1 v4 S8 fun v9 S9 =>
 bLd v9 S9 fun v10 S10 =>
 condX v10
 (bFad 2 v4 S10 fun v11 S11 =>
 bLd v11 S11 fun v12 S12 =>
 bFad 2 v7 S12 fun v13 S13 =>
 bSt 1 v13 v12 S13 fun _ S14 =>
 bFad 0 v4 S14 fun v15 S15 =>
 bLd v15 S15 fun v16 S16 =>
 bLdN 3 v7 S16 fun v17 S17 =>
 bFad 1 v4 S17 fun v18 S18 =>
 bLd v18 S18 fun v19 S19 =>
 C 171 [v16, v17, v19] S19 fun v20 S20 =>
 bAdd x60 (.i .i64 1) S20 fun v21 S21 =>
 k1 x3 x8 x58 x59 v21 S21)
 (bFad 0 v4 S10 fun v22 S22 =>
 bLd v22 S22 fun v23 S23 =>
 bLdN 3 v7 S23 fun v24 S24 =>
 bFad 1 v4 S24 fun v25 S25 =>
 bLd v25 S25 fun v26 S26 =>
 C 171 [v23, v24, v26] S26 fun v27 S27 =>
 bAdd x60 (.i .i64 1) S27 fun v28 S28 =>
 k1 x3 x8 x58 x59 v28 S28))
 (Y_131_7 C k x8 S1)
def Y_131_8 (C : CS) (k : KS) (x0 x3 x8 : AV) (S : St) : Prop :=
 bLen x0 S fun v1 S1 =>
 lp5 (Y_131_11 C k) x3 x8 x0 v1 (.i .i64 0) S1
def Y_131_5 (C : CS) (k : KS) (x0 x1 x3 x8 : AV) (S : St) : Prop :=
 condX x1
 (sBuild [.i .i64 0, .i .i64 0, .b false, .b false, .b false, .b false] [(0, 1)] [(.i .i64 (-1))] S fun v1 S1 =>
 bSt 6 x8 v1 S1 fun _ S2 =>
 finV (resVX Env.nil Env.nil S2.h [.cell (.c x8) (some 6), .tmp (.c (.sl none 0 0 0)), .tmp (.c (.i .i64 0))]) S2 k)
 (Y_131_8 C k x0 x3 x8 S)
def Y_131_4 (C : CS) (k : KS) (x0 x1 x2 x3 x8 : AV) (S : St) : Prop :=
 C 178 [x0] S fun v1 S1 =>
 bLen v1 S1 fun v2 S2 =>
 bGt v2 (.i .i64 0) S2 fun v3 S3 =>
 condX v3
 (bLen v1 S3 fun v4 S4 =>
 C 124 [x2, v4] S4 fun v5 S5 =>
 bIad 1 v1 v5 S5 fun v6 S6 =>
 bLd v6 S6 fun v7 S7 =>
 bIad 3 x0 v7 S7 fun v8 S8 =>
 bLdN 3 v8 S8 fun v9 S9 =>
 C 179 [v9, v7] S9 fun v10 S10 =>
 bExt 0 v10 S10 fun v11 S11 =>
 bExt 1 v10 S11 fun v12 S12 =>
 bAlloc [.i .i64 0, .i .i64 0, .b false, .b false, .b false, .b false] S12 fun v13 S13 =>
 bSt 6 v13 v11 S13 fun _ S14 =>
 bLdN 6 v13 S14 fun v15 S15 =>
 bSt 6 x8 v15 S15 fun _ S16 =>
 finV (resVX Env.nil Env.nil S16.h [.cell (.c x8) (some 6), .tmp (.c v12), .tmp (.c (.i .i64 0))]) S16 k)
 (Y_131_5 C k x0 x1 x3 x8 S3)
def Y_131_3 (C : CS) (k : KS) (x0 x1 x2 x3 x8 : AV) (S : St) : Prop :=
 C 175 [x0, (.fn 176 [] [])] S fun v1 S1 =>
 bGe v1 (.i .i64 0) S1 fun v2 S2 =>
 condX v2
 (sBuild [.i .i64 0, .i .i64 0, .b false, .b false, .b false, .b false] [(0, 1), (5, 1)] [v1, (.b true)] S2 fun v3 S3 =>
 bSt 6 x8 v3 S3 fun _ S4 =>
 finV (resVX Env.nil Env.nil S4.h [.cell (.c x8) (some 6), .tmp (.c (.sl none 0 0 0)), .tmp (.c (.i .i64 0))]) S4 k)
 (Y_131_4 C k x0 x1 x2 x3 x8 S2)
def Y_131_2 (C : CS) (k : KS) (x0 x1 x2 x3 x8 : AV) (S : St) : Prop :=
 bLen x0 S fun v1 S1 =>
 bGt v1 (.i .i64 16) S1 fun v2 S2 =>
 gdO v2 false (sMv [x3] S2) S2 fun v3 S3 =>
 gdO v2 false (bLt v3 (.i .i64 0) S3) S3 fun v4 S4 =>
 bPick v2 (.b true) v4 S4 fun v5 S5 =>
 condX v5
 (sBuild [.i .i64 0, .i .i64 0, .b false, .b false, .b false, .b false] [] [] S5 fun v6 S6 =>
 bSt 6 x8 v6 S6 fun _ S7 =>
 finV (resVX Env.nil Env.nil S7.h [.cell (.c x8) (some 6), .tmp (.c (.sl none 0 0 0)), .tmp (.c (.i .i64 1))]) S7 k)
 (Y_131_3 C k x0 x1 x2 x3 x8 S5)
def Y_131_1 (C : CS) (k : KS) (x0 x1 x2 x3 : AV) (S : St) : Prop :=
 bAlloc [.i .i64 0, .i .i64 0, .b false, .b false, .b false, .b false] S fun v1 S1 =>
 Y_131_2 C k x0 x1 x2 x3 v1 S1
def Z_131 (C : CS) (vs : List AV) (S : St) (k : KS) : Prop := ar4 ((fun (C : CS) (k : KS) (a0 a1 a2 a3 : AV) (S : St) => Y_131_1 C k a0 a1 a2 a3 S) C k) vs S
theorem z_131 {F : Nat → Option AFn} (h : ∀ f, Nat.beq f 4 = false → F f = tbl f) : FnOk F 131 Z_131 := fn4 ((h 131 (by kernel_rfl)).trans c131) (Y := fun (C : CS) (k : KS) (a0 a1 a2 a3 : AV) (S : St) => Y_131_1 C k a0 a1 a2 a3 S) fun C l t S k => xS (fun l t S => xS (fun l t S => xS (fun l t S => xS (fun l t S => xS (fun l t S => xS (fun l t S => xf (Y_131_7 C k (l 8) S)) (xS (fun l t S => xB (xL5 3 8 58 59 60 (Y_131_11 C k) (fun l t S k1 => xf (Y_131_11 C k k1 (l 3) (l 8) (l 58) (l 59) (l 60) S)) (xf (lp5 (Y_131_11 C k) (l 3) (l 8) (l 58) (l 59) (l 60) S)))) (xf (Y_131_8 C k (l 0) (l 3) (l 8) S)))) (xf (Y_131_5 C k (l 0) (l 1) (l 3) (l 8) S))) (xf (Y_131_4 C k (l 0) (l 1) (l 2) (l 3) (l 8) S))) (xf (Y_131_3 C k (l 0) (l 1) (l 2) (l 3) (l 8) S))) (xf (Y_131_2 C k (l 0) (l 1) (l 2) (l 3) (l 8) S))) (xf (Y_131_1 C k (l 0) (l 1) (l 2) (l 3) S))
theorem c132 : tbl 132 = some (fnOf (tbl 132)) := by kernel_rfl
/-- (*tarpaulin/world.act).take -/
def Y_132_3 (C : CS) (k : KS) (x0 x2 x3 x4 : AV) (S : St) : Prop :=
 bNil x0 S fun v1 S1 =>
 bFad 0 v1 S1 fun v2 S2 =>
 bLd v2 S2 fun v3 S3 =>
 C 76 [v3, x4] S3 fun v4 S4 =>
 bNil x0 S4 fun v5 S5 =>
 bFad 2 v5 S5 fun v6 S6 =>
 bFad 2 v6 S6 fun v7 S7 =>
 bLd v7 S7 fun v8 S8 =>
 bNil x0 S8 fun v9 S9 =>
 bFad 2 v9 S9 fun v10 S10 =>
 bFad 3 v10 S10 fun v11 S11 =>
 bLd v11 S11 fun v12 S12 =>
 bNil x0 S12 fun v13 S13 =>
 bFad 16 v13 S13 fun v14 S14 =>
 bIadA 8 1 v14 v8 S14 fun v15 S15 =>
 bSt 1 v15 x2 S15 fun _ S16 =>
 bNil x0 S16 fun v17 S17 =>
 bFad 16 v17 S17 fun v18 S18 =>
 bIadA 8 1 v18 v12 S18 fun v19 S19 =>
 bSt 1 v19 (.i .i64 0) S19 fun _ S20 =>
 bNil x0 S20 fun v21 S21 =>
 bFad 2 v21 S21 fun v22 S22 =>
 bFad 3 v22 S22 fun v23 S23 =>
 bLd v23 S23 fun v24 S24 =>
 C 122 [x3] S24 fun v25 S25 =>
 bNil x0 S25 fun v26 S26 =>
 bFad 16 v26 S26 fun v27 S27 =>
 bIadA 8 1 v27 v24 S27 fun v28 S28 =>
 bSt 1 v28 v25 S28 fun _ S29 =>
 bif (bif (againX (.ld none) [v23] S23 S25) then true else false) then (k (.tup []) S29) else False
def Y_132_2 (C : CS) (k : KS) (x0 x1 x2 x3 x4 : AV) (S : St) : Prop :=
 condX x3
 (bNil x0 S fun v1 S1 =>
 bFad 0 v1 S1 fun v2 S2 =>
 bLd v2 S2 fun v3 S3 =>
 bNil x0 S3 fun v4 S4 =>
 bFad 0 v4 S4 fun v5 S5 =>
 bLd v5 S5 fun v6 S6 =>
 C 74 [v6, x1] S6 fun v7 S7 =>
 bNil x0 S7 fun v8 S8 =>
 bFad 1 v8 S8 fun v9 S9 =>
 bLd v9 S9 fun v10 S10 =>
 C 73 [v3, v7, v10, x2, (.b true)] S10 fun v11 S11 =>
 bif (bif (againX (.ld none) [v2] S2 S7) then (bif (againX (.ld none) [v9] S9 S) then true else false) else false) then (Y_132_3 C k x0 x2 x3 x4 S11) else False)
 (Y_132_3 C k x0 x2 x3 x4 S)
def Y_132_1 (C : CS) (k : KS) (x0 x1 x2 x3 x4 : AV) (S : St) : Prop :=
 C 130 [x1] S fun v1 S1 =>
 bEq v1 (.i .i64 0) S1 fun v2 S2 =>
 condX v2
 (bNil x0 S2 fun v3 S3 =>
 bFad 0 v3 S3 fun v4 S4 =>
 bLd v4 S4 fun v5 S5 =>
 C 76 [v5, x4] S5 fun v6 S6 =>
 Y_132_2 C k x0 x1 x2 x3 (.sl none 0 0 0) S6)
 (Y_132_2 C k x0 x1 x2 x3 x4 S2)
def Z_132 (C : CS) (vs : List AV) (S : St) (k : KS) : Prop := ar5 ((fun (C : CS) (k : KS) (a0 a1 a2 a3 a4 : AV) (S : St) => Y_132_1 C k a0 a1 a2 a3 a4 S) C k) vs S
theorem z_132 {F : Nat → Option AFn} (h : ∀ f, Nat.beq f 4 = false → F f = tbl f) : FnOk F 132 Z_132 := fn5 ((h 132 (by kernel_rfl)).trans c132) (Y := fun (C : CS) (k : KS) (a0 a1 a2 a3 a4 : AV) (S : St) => Y_132_1 C k a0 a1 a2 a3 a4 S) fun C l t S k => xS (fun l t S => xS (fun l t S => xf (Y_132_3 C k (l 0) (l 2) (l 3) (l 4) S)) (xf (Y_132_2 C k (l 0) (l 1) (l 2) (l 3) (l 4) S))) (xf (Y_132_1 C k (l 0) (l 1) (l 2) (l 3) (l 4) S))
theorem c133 : tbl 133 = some (fnOf (tbl 133)) := by kernel_rfl
/-- (*tarpaulin/timer.Set).Timer -/
def Y_133_1 (C : CS) (k : KS) (x0 x1 x2 : AV) (S : St) : Prop :=
 C 180 [x0, (.i .i64 1), x1, x2] S fun v1 S1 =>
 bExt 0 v1 S1 fun v2 S2 =>
 bExt 1 v1 S2 fun v3 S3 =>
 bExt 2 v1 S3 fun v4 S4 =>
 k (.tup [v2, v3, v4]) S4
def Z_133 (C : CS) (vs : List AV) (S : St) (k : KS) : Prop := ar3 ((fun (C : CS) (k : KS) (a0 a1 a2 : AV) (S : St) => Y_133_1 C k a0 a1 a2 S) C k) vs S
theorem z_133 {F : Nat → Option AFn} (h : ∀ f, Nat.beq f 4 = false → F f = tbl f) : FnOk F 133 Z_133 := fn3 ((h 133 (by kernel_rfl)).trans c133) (Y := fun (C : CS) (k : KS) (a0 a1 a2 : AV) (S : St) => Y_133_1 C k a0 a1 a2 S) fun C l t S k => xf (Y_133_1 C k (l 0) (l 1) (l 2) S)
theorem c134 : tbl 134 = some (fnOf (tbl 134)) := by kernel_rfl
/-- (*tarpaulin/timer.Set).Ticker -/
def Y_134_1 (C : CS) (k : KS) (x0 x1 x2 : AV) (S : St) : Prop :=
 C 180 [x0, (.i .i64 2), x1, x2] S fun v1 S1 =>
 bExt 0 v1 S1 fun v2 S2 =>
 bExt 1 v1 S2 fun v3 S3 =>
 bExt 2 v1 S3 fun v4 S4 =>
 k (.tup [v2, v3, v4]) S4
def Z_134 (C : CS) (vs : List AV) (S : St) (k : KS) : Prop := ar3 ((fun (C : CS) (k : KS) (a0 a1 a2 : AV) (S : St) => Y_134_1 C k a0 a1 a2 S) C k) vs S
theorem z_134 {F : Nat → Option AFn} (h : ∀ f, Nat.beq f 4 = false → F f = tbl f) : FnOk F 134 Z_134 := fn3 ((h 134 (by kernel_rfl)).trans c134) (Y := fun (C : CS) (k : KS) (a0 a1 a2 : AV) (S : St) => Y_134_1 C k a0 a1 a2 S) fun C l t S k => xf (Y_134_1 C k (l 0) (l 1) (l 2) S)
theorem c135 : tbl 135 = some (fnOf (tbl 135)) := by kernel_rfl
/-- (*tarpaulin/timer.Set).Func -/
def Y_135_1 (C : CS) (k : KS) (x0 x1 x2 x3 : AV) (S : St) : Prop :=
 sBuild [.i .i64 0, .i .i64 0, .p none, .i .i64 0] [(0, 1), (1, 1)] [(.i .i64 3), x3] S fun v1 S1 =>
 C 181 [x0, v1, x1, x2] S1 fun v2 S2 =>
 bExt 0 v2 S2 fun v3 S3 =>
 bExt 1 v2 S3 fun v4 S4 =>
 k (.tup [v3, v4]) S4
def Z_135 (C : CS) (vs : List AV) (S : St) (k : KS) : Prop := ar4 ((fun (C : CS) (k : KS) (a0 a1 a2 a3 : AV) (S : St) => Y_135_1 C k a0 a1 a2 a3 S) C k) vs S
theorem z_135 {F : Nat → Option AFn} (h : ∀ f, Nat.beq f 4 = false → F f = tbl f) : FnOk F 135 Z_135 := fn4 ((h 135 (by kernel_rfl)).trans c135) (Y := fun (C : CS) (k : KS) (a0 a1 a2 a3 : AV) (S : St) => Y_135_1 C k a0 a1 a2 a3 S) fun C l t S k => xf (Y_135_1 C k (l 0) (l 1) (l 2) (l 3) S)
theorem c136 : tbl 136 = some (fnOf (tbl 136)) := by kernel_rfl
/-- (*tarpaulin/timer.Set).Kind -/
def Y_136_1 (C : CS) (k : KS) (x0 x1 : AV) (S : St) : Prop :=
 C 117 [x0, x1] S fun v1 S1 =>
 bNot v1 S1 fun v2 S2 =>
 condX v2
 (k (.i .i64 0) S2)
 (bNil x0 S2 fun v3 S3 =>
 bFad 0 v3 S3 fun v4 S4 =>
 bLd v4 S4 fun v5 S5 =>
 bIad 4 v5 x1 S5 fun v6 S6 =>
 bFad 0 v6 S6 fun v7 S7 =>
 bLd v7 S7 fun v8 S8 =>
 k v8 S8)
def Z_136 (C : CS) (vs : List AV) (S : St) (k : KS) : Prop := ar2 ((fun (C : CS) (k : KS) (a0 a1 : AV) (S : St) => Y_136_1 C k a0 a1 S) C k) vs S
theorem z_136 {F : Nat → Option AFn} (h : ∀ f, Nat.beq f 4 = false → F f = tbl f) : FnOk F 136 Z_136 := fn2 ((h 136 (by kernel_rfl)).trans c136) (Y := fun (C : CS) (k : KS) (a0 a1 : AV) (S : St) => Y_136_1 C k a0 a1 S) fun C l t S k => xf (Y_136_1 C k (l 0) (l 1) S)
theorem c137 : tbl 137 = some (fnOf (tbl 137)) := by kernel_rfl
/-- (*tarpaulin/timer.Set).Stop -/
def Y_137_1 (C : CS) (k : KS) (x0 x1 : AV) (S : St) : Prop :=
 C 117 [x0, x1] S fun v1 S1 =>
 bNot v1 S1 fun v2 S2 =>
 condX v2
 (k (.tup [(.b false), (.i .i64 4)]) S2)
 (bNil x0 S2 fun v3 S3 =>
 bFad 1 v3 S3 fun v4 S4 =>
 bLd v4 S4 fun v5 S5 =>
 C 158 [v5, x1] S5 fun v6 S6 =>
 bNil x0 S6 fun v7 S7 =>
 bFad 0 v7 S7 fun v8 S8 =>
 bLd v8 S8 fun v9 S9 =>
 bIad 4 v9 x1 S9 fun v10 S10 =>
 bFad 2 v10 S10 fun v11 S11 =>
 bLd v11 S11 fun v12 S12 =>
 C 182 [v12] S12 fun v13 S13 =>
 gdO v13 false (sMv [v6] S13) S13 fun v14 S14 =>
 bPick v13 (.b true) v14 S14 fun v15 S15 =>
 k (.tup [v15, (.i .i64 0)]) S15)
def Z_137 (C : CS) (vs : List AV) (S : St) (k : KS) : Prop := ar2 ((fun (C : CS) (k : KS) (a0 a1 : AV) (S : St) => Y_137_1 C k a0 a1 S) C k) vs S
theorem z_137 {F : Nat → Option AFn} (h : ∀ f, Nat.beq f 4 = false → F f = tbl f) : FnOk F 137 Z_137 := fn2 ((h 137 (by kernel_rfl)).trans c137) (Y := fun (C : CS) (k : KS) (a0 a1 : AV) (S : St) => Y_137_1 C k a0 a1 S) fun C l t S k => xf (Y_137_1 C k (l 0) (l 1) S)
end
end Go.Proofs.YtncheglelcphcaaGreat.T
