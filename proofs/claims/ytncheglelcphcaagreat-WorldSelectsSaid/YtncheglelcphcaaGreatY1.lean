/- Functions, for the strict machine. PRINTED by our prints.py. -/
import Derived.Test.YtncheglelcphcaaGreatY0
set_option linter.unusedVariables false
set_option maxRecDepth 100000
namespace Go.Proofs.YtncheglelcphcaaGreat.T
open Go.AM
noncomputable section
theorem c138 : tbl 138 = some (fnOf (tbl 138)) := by kernel_rfl
/-- (*tarpaulin/timer.Set).Reset -/
def Y_138_3 (C : CS) (k : KS) (x0 x1 x2 x3 : AV) (S : St) : Prop :=
 C 137 [x0, x1] S fun v1 S1 =>
 bExt 0 v1 S1 fun v2 S2 =>
 bExt 1 v1 S2 fun v3 S3 =>
 C 184 [x0, x1, x2, x3] S3 fun v4 S4 =>
 k (.tup [v2, (.i .i64 0)]) S4
def Y_138_2 (C : CS) (k : KS) (x0 x1 x2 x3 : AV) (S : St) : Prop :=
 C 117 [x0, x1] S fun v1 S1 =>
 bNot v1 S1 fun v2 S2 =>
 condX v2
 (k (.tup [(.b false), (.i .i64 4)]) S2)
 (C 183 [x2] S2 fun v3 S3 =>
 gdO v3 false (sMv [x0] S3) S3 fun v4 S4 =>
 gdO v3 false (bNil v4 S4) S4 fun v5 S5 =>
 gdO v3 false (bFad 0 v5 S5) S5 fun v6 S6 =>
 gdO v3 false (bLd v6 S6) S6 fun v7 S7 =>
 gdO v3 false (sMv [x1] S7) S7 fun v8 S8 =>
 gdO v3 false (bIad 4 v7 v8 S8) S8 fun v9 S9 =>
 gdO v3 false (bFad 0 v9 S9) S9 fun v10 S10 =>
 gdO v3 false (bLd v10 S10) S10 fun v11 S11 =>
 gdO v3 false (bEq v11 (.i .i64 2) S11) S11 fun v12 S12 =>
 gdO v3 false (sMv [v12] S12) S12 fun v13 S13 =>
 gdO v13 true (sMv [x3] S13) S13 fun v14 S14 =>
 gdO v13 true (bLt v14 (.i .i64 1) S14) S14 fun v15 S15 =>
 gdO v3 false (bPick v13 v15 (.b false) S15) S15 fun v16 S16 =>
 bPick v3 (.b true) v16 S16 fun v17 S17 =>
 condX v17
 (k (.tup [(.b false), (.i .i64 1)]) S17)
 (bNil x0 S17 fun v18 S18 =>
 bFad 0 v18 S18 fun v19 S19 =>
 bLd v19 S19 fun v20 S20 =>
 bIad 4 v20 x1 S20 fun v21 S21 =>
 bFad 0 v21 S21 fun v22 S22 =>
 bLd v22 S22 fun v23 S23 =>
 bEq v23 (.i .i64 4) S23 fun v24 S24 =>
 condX v24
 (k (.tup [(.b false), (.i .i64 7)]) S24)
 (Y_138_3 C k x0 x1 x2 x3 S24)))
def Y_138_1 (C : CS) (k : KS) (x0 x1 x2 x3 : AV) (S : St) : Prop :=
 Y_138_2 C k x0 x1 x2 x3 S
def Z_138 (C : CS) (vs : List AV) (S : St) (k : KS) : Prop := ar4 ((fun (C : CS) (k : KS) (a0 a1 a2 a3 : AV) (S : St) => Y_138_1 C k a0 a1 a2 a3 S) C k) vs S
theorem z_138 {F : Nat → Option AFn} (h : ∀ f, Nat.beq f 4 = false → F f = tbl f) : FnOk F 138 Z_138 := fn4 ((h 138 (by kernel_rfl)).trans c138) (Y := fun (C : CS) (k : KS) (a0 a1 a2 a3 : AV) (S : St) => Y_138_1 C k a0 a1 a2 a3 S) fun C l t S k => xS (fun l t S => xS (fun l t S => xf (Y_138_3 C k (l 0) (l 1) (l 2) (l 3) S)) (xf (Y_138_2 C k (l 0) (l 1) (l 2) (l 3) S))) (xf (Y_138_1 C k (l 0) (l 1) (l 2) (l 3) S))
theorem c139 : tbl 139 = some (fnOf (tbl 139)) := by kernel_rfl
/-- (*tarpaulin/world.act).c -/
def Y_139_1 (C : CS) (k : KS) (x0 : AV) (S : St) : Prop :=
 bNil x0 S fun v1 S1 =>
 bFad 2 v1 S1 fun v2 S2 =>
 bFad 3 v2 S2 fun v3 S3 =>
 bLd v3 S3 fun v4 S4 =>
 bNil x0 S4 fun v5 S5 =>
 bFad 8 v5 S5 fun v6 S6 =>
 bIadA 8 1 v6 v4 S6 fun v7 S7 =>
 bLd v7 S7 fun v8 S8 =>
 k v8 S8
def Z_139 (C : CS) (vs : List AV) (S : St) (k : KS) : Prop := ar1 ((fun (C : CS) (k : KS) (a0 : AV) (S : St) => Y_139_1 C k a0 S) C k) vs S
theorem z_139 {F : Nat → Option AFn} (h : ∀ f, Nat.beq f 4 = false → F f = tbl f) : FnOk F 139 Z_139 := fn1 ((h 139 (by kernel_rfl)).trans c139) (Y := fun (C : CS) (k : KS) (a0 : AV) (S : St) => Y_139_1 C k a0 S) fun C l t S k => xf (Y_139_1 C k (l 0) S)
theorem c140 : tbl 140 = some (fnOf (tbl 140)) := by kernel_rfl
/-- (*tarpaulin/ctx.Set).Deadline -/
def Y_140_8 (C : CS) (k : KS) (x0 x2 x13 : AV) (S : St) : Prop :=
 bNil x0 S fun v1 S1 =>
 bFad 0 v1 S1 fun v2 S2 =>
 bLd v2 S2 fun v3 S3 =>
 C 188 [v3, x2, x13] S3 fun v4 S4 =>
 bExt 0 v4 S4 fun v5 S5 =>
 bExt 1 v4 S5 fun v6 S6 =>
 bEq v6 (.i .i64 0) S6 fun v7 S7 =>
 condX v7
 (bNil x0 S7 fun v8 S8 =>
 bFad 2 v8 S8 fun v9 S9 =>
 bLd v9 S9 fun v10 S10 =>
 bIad 9 v10 x13 S10 fun v11 S11 =>
 bFad 8 v11 S11 fun v12 S12 =>
 bSt 1 v12 v5 S12 fun _ S13 =>
 k (.tup [x13, (.sl none 0 0 0), (.i .i64 0)]) S13)
 (k (.tup [x13, (.sl none 0 0 0), (.i .i64 0)]) S7)
def Y_140_7 (C : CS) (k : KS) (x0 x1 x2 x3 x13 : AV) (S : St) : Prop :=
 C 187 [x0, x13, x1] S fun v1 S1 =>
 bLen v1 S1 fun v2 S2 =>
 bGt v2 (.i .i64 0) S2 fun v3 S3 =>
 condX v3
 (k (.tup [x13, v1, (.i .i64 0)]) S3)
 (bLe x2 x3 S3 fun v4 S4 =>
 condX v4
 (C 114 [x0, x13, (.i .i64 2), (.i .i64 2)] S4 fun v5 S5 =>
 bExt 0 v5 S5 fun v6 S6 =>
 bExt 1 v5 S6 fun v7 S7 =>
 k (.tup [x13, v6, (.i .i64 0)]) S7)
 (Y_140_8 C k x0 x2 x13 S4))
def Y_140_6 (C : CS) (k : KS) (x0 x1 x2 x3 x12 : AV) (S : St) : Prop :=
 C 186 [] S fun v1 S1 =>
 sBuild [.i .i64 0, .b false, .p none, .i .i64 0, .i .i64 0, .i .i64 0, .b false, .b false, .i .i64 0] [(2, 1), (5, 1), (6, 1), (7, 1)] [v1, x2, (.b true), (.b true)] S1 fun v2 S2 =>
 bFad 0 x12 S2 fun v3 S3 =>
 bLd v3 S3 fun v4 S4 =>
 C 62 [x0, v2, v4] S4 fun v5 S5 =>
 bif (bif (againX (.ld none) [v3] S3 S) then true else false) then (Y_140_7 C k x0 x1 x2 x3 v5 S5) else False
def Y_140_5 (C : CS) (k : KS) (x0 x1 x2 x3 x12 : AV) (S : St) : Prop :=
 bFad 6 x12 S fun v1 S1 =>
 bLd v1 S1 fun v2 S2 =>
 gdO v2 true (bFad 5 x12 S2) S2 fun v3 S3 =>
 gdO v2 true (bLd v3 S3) S3 fun v4 S4 =>
 gdO v2 true (sMv [x2] S4) S4 fun v5 S5 =>
 gdO v2 true (bLe v4 v5 S5) S5 fun v6 S6 =>
 bPick v2 v6 (.b false) S6 fun v7 S7 =>
 condX v7
 (C 141 [x0, x1] S7 fun v8 S8 =>
 bExt 0 v8 S8 fun v9 S9 =>
 bExt 1 v8 S9 fun v10 S10 =>
 bExt 2 v8 S10 fun v11 S11 =>
 k (.tup [v9, v10, v11]) S11)
 (Y_140_6 C k x0 x1 x2 x3 x12 S7)
def Y_140_4 (C : CS) (k : KS) (x0 x1 x2 x3 : AV) (S : St) : Prop :=
 bNil x0 S fun v1 S1 =>
 bFad 2 v1 S1 fun v2 S2 =>
 bLd v2 S2 fun v3 S3 =>
 bIad 9 v3 x1 S3 fun v4 S4 =>
 bLdN 9 v4 S4 fun v5 S5 =>
 bAlloc [.i .i64 0, .b false, .p none, .i .i64 0, .i .i64 0, .i .i64 0, .b false, .b false, .i .i64 0] S5 fun v6 S6 =>
 bSt 9 v6 v5 S6 fun _ S7 =>
 Y_140_5 C k x0 x1 x2 x3 v6 S7
def Y_140_3 (C : CS) (k : KS) (x0 x1 x2 x3 : AV) (S : St) : Prop :=
 C 67 [x2, (.i .i64 0)] S fun v1 S1 =>
 sR .max [v1, (.i .i64 0)] S1 fun v2 S2 =>
 Y_140_4 C k x0 x1 v2 x3 S2
def Y_140_2 (C : CS) (k : KS) (x0 x1 x2 x3 : AV) (S : St) : Prop :=
 C 185 [x0, x1] S fun v1 S1 =>
 bNe v1 (.i .i64 0) S1 fun v2 S2 =>
 condX v2
 (k (.tup [(.i .i64 0), (.sl none 0 0 0), v1]) S2)
 (Y_140_3 C k x0 x1 x2 x3 S2)
def Y_140_1 (C : CS) (k : KS) (x0 x1 x2 x3 : AV) (S : St) : Prop :=
 Y_140_2 C k x0 x1 x2 x3 S
def Z_140 (C : CS) (vs : List AV) (S : St) (k : KS) : Prop := ar4 ((fun (C : CS) (k : KS) (a0 a1 a2 a3 : AV) (S : St) => Y_140_1 C k a0 a1 a2 a3 S) C k) vs S
theorem z_140 {F : Nat → Option AFn} (h : ∀ f, Nat.beq f 4 = false → F f = tbl f) : FnOk F 140 Z_140 := fn4 ((h 140 (by kernel_rfl)).trans c140) (Y := fun (C : CS) (k : KS) (a0 a1 a2 a3 : AV) (S : St) => Y_140_1 C k a0 a1 a2 a3 S) fun C l t S k => xS (fun l t S => xS (fun l t S => xS (fun l t S => xS (fun l t S => xS (fun l t S => xS (fun l t S => xS (fun l t S => xf (Y_140_8 C k (l 0) (l 2) (l 13) S)) (xf (Y_140_7 C k (l 0) (l 1) (l 2) (l 3) (l 13) S))) (xf (Y_140_6 C k (l 0) (l 1) (l 2) (l 3) (l 12) S))) (xf (Y_140_5 C k (l 0) (l 1) (l 2) (l 3) (l 12) S))) (xf (Y_140_4 C k (l 0) (l 1) (l 2) (l 3) S))) (xf (Y_140_3 C k (l 0) (l 1) (l 2) (l 3) S))) (xf (Y_140_2 C k (l 0) (l 1) (l 2) (l 3) S))) (xf (Y_140_1 C k (l 0) (l 1) (l 2) (l 3) S))
theorem c141 : tbl 141 = some (fnOf (tbl 141)) := by kernel_rfl
/-- (*tarpaulin/ctx.Set).Cancels -/
def Y_141_2 (C : CS) (k : KS) (x0 x1 : AV) (S : St) : Prop :=
 C 185 [x0, x1] S fun v1 S1 =>
 bNe v1 (.i .i64 0) S1 fun v2 S2 =>
 condX v2
 (k (.tup [(.i .i64 0), (.sl none 0 0 0), v1]) S2)
 (bNil x0 S2 fun v3 S3 =>
 bFad 2 v3 S3 fun v4 S4 =>
 bLd v4 S4 fun v5 S5 =>
 bIad 9 v5 x1 S5 fun v6 S6 =>
 bLdN 9 v6 S6 fun v7 S7 =>
 bAlloc [.i .i64 0, .b false, .p none, .i .i64 0, .i .i64 0, .i .i64 0, .b false, .b false, .i .i64 0] S7 fun v8 S8 =>
 bSt 9 v8 v7 S8 fun _ S9 =>
 C 186 [] S9 fun v10 S10 =>
 bFad 5 v8 S10 fun v11 S11 =>
 bLd v11 S11 fun v12 S12 =>
 bFad 6 v8 S12 fun v13 S13 =>
 bLd v13 S13 fun v14 S14 =>
 sBuild [.i .i64 0, .b false, .p none, .i .i64 0, .i .i64 0, .i .i64 0, .b false, .b false, .i .i64 0] [(2, 1), (5, 1), (6, 1)] [v10, v12, v14] S14 fun v15 S15 =>
 bFad 0 v8 S15 fun v16 S16 =>
 bLd v16 S16 fun v17 S17 =>
 C 62 [x0, v15, v17] S17 fun v18 S18 =>
 bif (bif (againX (.ld none) [v11] S11 S9) then (bif (againX (.ld none) [v13] S13 S9) then (bif (againX (.ld none) [v16] S16 S9) then true else false) else false) else false) then (C 187 [x0, v18, x1] S18 fun v19 S19 =>
 k (.tup [v18, v19, (.i .i64 0)]) S19) else False)
def Y_141_1 (C : CS) (k : KS) (x0 x1 : AV) (S : St) : Prop :=
 Y_141_2 C k x0 x1 S
def Z_141 (C : CS) (vs : List AV) (S : St) (k : KS) : Prop := ar2 ((fun (C : CS) (k : KS) (a0 a1 : AV) (S : St) => Y_141_1 C k a0 a1 S) C k) vs S
theorem z_141 {F : Nat → Option AFn} (h : ∀ f, Nat.beq f 4 = false → F f = tbl f) : FnOk F 141 Z_141 := fn2 ((h 141 (by kernel_rfl)).trans c141) (Y := fun (C : CS) (k : KS) (a0 a1 : AV) (S : St) => Y_141_1 C k a0 a1 S) fun C l t S k => xS (fun l t S => xf (Y_141_2 C k (l 0) (l 1) S)) (xf (Y_141_1 C k (l 0) (l 1) S))
theorem c142 : tbl 142 = some (fnOf (tbl 142)) := by kernel_rfl
/-- (*tarpaulin/ctx.Set).Without -/
def Y_142_1 (C : CS) (k : KS) (x0 x1 : AV) (S : St) : Prop :=
 C 185 [x0, x1] S fun v1 S1 =>
 bNe v1 (.i .i64 0) S1 fun v2 S2 =>
 condX v2
 (k (.tup [(.i .i64 0), v1]) S2)
 (sBuild [.i .i64 0, .b false, .p none, .i .i64 0, .i .i64 0, .i .i64 0, .b false, .b false, .i .i64 0] [(1, 1)] [(.b true)] S2 fun v3 S3 =>
 bNil x0 S3 fun v4 S4 =>
 bFad 2 v4 S4 fun v5 S5 =>
 bLd v5 S5 fun v6 S6 =>
 bIad 9 v6 x1 S6 fun v7 S7 =>
 bFad 0 v7 S7 fun v8 S8 =>
 bLd v8 S8 fun v9 S9 =>
 C 62 [x0, v3, v9] S9 fun v10 S10 =>
 k (.tup [v10, (.i .i64 0)]) S10)
def Z_142 (C : CS) (vs : List AV) (S : St) (k : KS) : Prop := ar2 ((fun (C : CS) (k : KS) (a0 a1 : AV) (S : St) => Y_142_1 C k a0 a1 S) C k) vs S
theorem z_142 {F : Nat → Option AFn} (h : ∀ f, Nat.beq f 4 = false → F f = tbl f) : FnOk F 142 Z_142 := fn2 ((h 142 (by kernel_rfl)).trans c142) (Y := fun (C : CS) (k : KS) (a0 a1 : AV) (S : St) => Y_142_1 C k a0 a1 S) fun C l t S k => xf (Y_142_1 C k (l 0) (l 1) S)
theorem c143 : tbl 143 = some (fnOf (tbl 143)) := by kernel_rfl
/-- (*tarpaulin/ctx.Set).Done -/
def Y_143_1 (C : CS) (k : KS) (x0 x1 : AV) (S : St) : Prop :=
 C 113 [x0, x1] S fun v1 S1 =>
 bNot v1 S1 fun v2 S2 =>
 condX v2
 (k (.tup [(.p none), (.i .i64 4)]) S2)
 (bNil x0 S2 fun v3 S3 =>
 bFad 2 v3 S3 fun v4 S4 =>
 bLd v4 S4 fun v5 S5 =>
 bIad 9 v5 x1 S5 fun v6 S6 =>
 bFad 2 v6 S6 fun v7 S7 =>
 bLd v7 S7 fun v8 S8 =>
 k (.tup [v8, (.i .i64 0)]) S8)
def Z_143 (C : CS) (vs : List AV) (S : St) (k : KS) : Prop := ar2 ((fun (C : CS) (k : KS) (a0 a1 : AV) (S : St) => Y_143_1 C k a0 a1 S) C k) vs S
theorem z_143 {F : Nat → Option AFn} (h : ∀ f, Nat.beq f 4 = false → F f = tbl f) : FnOk F 143 Z_143 := fn2 ((h 143 (by kernel_rfl)).trans c143) (Y := fun (C : CS) (k : KS) (a0 a1 : AV) (S : St) => Y_143_1 C k a0 a1 S) fun C l t S k => xf (Y_143_1 C k (l 0) (l 1) S)
theorem c144 : tbl 144 = some (fnOf (tbl 144)) := by kernel_rfl
/-- (*tarpaulin/ctx.Set).Err -/
def Y_144_1 (C : CS) (k : KS) (x0 x1 : AV) (S : St) : Prop :=
 C 113 [x0, x1] S fun v1 S1 =>
 bNot v1 S1 fun v2 S2 =>
 condX v2
 (k (.tup [(.i .i64 0), (.i .i64 4)]) S2)
 (bNil x0 S2 fun v3 S3 =>
 bFad 2 v3 S3 fun v4 S4 =>
 bLd v4 S4 fun v5 S5 =>
 bIad 9 v5 x1 S5 fun v6 S6 =>
 bFad 3 v6 S6 fun v7 S7 =>
 bLd v7 S7 fun v8 S8 =>
 k (.tup [v8, (.i .i64 0)]) S8)
def Z_144 (C : CS) (vs : List AV) (S : St) (k : KS) : Prop := ar2 ((fun (C : CS) (k : KS) (a0 a1 : AV) (S : St) => Y_144_1 C k a0 a1 S) C k) vs S
theorem z_144 {F : Nat → Option AFn} (h : ∀ f, Nat.beq f 4 = false → F f = tbl f) : FnOk F 144 Z_144 := fn2 ((h 144 (by kernel_rfl)).trans c144) (Y := fun (C : CS) (k : KS) (a0 a1 : AV) (S : St) => Y_144_1 C k a0 a1 S) fun C l t S k => xf (Y_144_1 C k (l 0) (l 1) S)
theorem c145 : tbl 145 = some (fnOf (tbl 145)) := by kernel_rfl
/-- (*tarpaulin/ctx.Set).Cause -/
def Y_145_1 (C : CS) (k : KS) (x0 x1 : AV) (S : St) : Prop :=
 C 113 [x0, x1] S fun v1 S1 =>
 bNot v1 S1 fun v2 S2 =>
 condX v2
 (k (.tup [(.i .i64 0), (.i .i64 4)]) S2)
 (bNil x0 S2 fun v3 S3 =>
 bFad 2 v3 S3 fun v4 S4 =>
 bLd v4 S4 fun v5 S5 =>
 bIad 9 v5 x1 S5 fun v6 S6 =>
 bFad 4 v6 S6 fun v7 S7 =>
 bLd v7 S7 fun v8 S8 =>
 k (.tup [v8, (.i .i64 0)]) S8)
def Z_145 (C : CS) (vs : List AV) (S : St) (k : KS) : Prop := ar2 ((fun (C : CS) (k : KS) (a0 a1 : AV) (S : St) => Y_145_1 C k a0 a1 S) C k) vs S
theorem z_145 {F : Nat → Option AFn} (h : ∀ f, Nat.beq f 4 = false → F f = tbl f) : FnOk F 145 Z_145 := fn2 ((h 145 (by kernel_rfl)).trans c145) (Y := fun (C : CS) (k : KS) (a0 a1 : AV) (S : St) => Y_145_1 C k a0 a1 S) fun C l t S k => xf (Y_145_1 C k (l 0) (l 1) S)
theorem c146 : tbl 146 = some (fnOf (tbl 146)) := by kernel_rfl
/-- (*tarpaulin/ctx.Set).Until -/
def Y_146_1 (C : CS) (k : KS) (x0 x1 : AV) (S : St) : Prop :=
 C 113 [x0, x1] S fun v1 S1 =>
 bNot v1 S1 fun v2 S2 =>
 condX v2
 (k (.tup [(.i .i64 0), (.b false), (.i .i64 4)]) S2)
 (bNil x0 S2 fun v3 S3 =>
 bFad 2 v3 S3 fun v4 S4 =>
 bLd v4 S4 fun v5 S5 =>
 bIad 9 v5 x1 S5 fun v6 S6 =>
 bFad 5 v6 S6 fun v7 S7 =>
 bLd v7 S7 fun v8 S8 =>
 bNil x0 S8 fun v9 S9 =>
 bFad 2 v9 S9 fun v10 S10 =>
 bLd v10 S10 fun v11 S11 =>
 bIad 9 v11 x1 S11 fun v12 S12 =>
 bFad 6 v12 S12 fun v13 S13 =>
 bLd v13 S13 fun v14 S14 =>
 k (.tup [v8, v14, (.i .i64 0)]) S14)
def Z_146 (C : CS) (vs : List AV) (S : St) (k : KS) : Prop := ar2 ((fun (C : CS) (k : KS) (a0 a1 : AV) (S : St) => Y_146_1 C k a0 a1 S) C k) vs S
theorem z_146 {F : Nat → Option AFn} (h : ∀ f, Nat.beq f 4 = false → F f = tbl f) : FnOk F 146 Z_146 := fn2 ((h 146 (by kernel_rfl)).trans c146) (Y := fun (C : CS) (k : KS) (a0 a1 : AV) (S : St) => Y_146_1 C k a0 a1 S) fun C l t S k => xf (Y_146_1 C k (l 0) (l 1) S)
theorem c147 : tbl 147 = some (fnOf (tbl 147)) := by kernel_rfl
/-- (*tarpaulin/ctx.Set).Unafter -/
def Y_147_3 (C : CS) (k : KS) (x0 x1 : AV) (S : St) : Prop :=
 bNil x0 S fun v1 S1 =>
 bFad 3 v1 S1 fun v2 S2 =>
 bLd v2 S2 fun v3 S3 =>
 bIad 3 v3 x1 S3 fun v4 S4 =>
 bNil v4 S4 fun v5 S5 =>
 bFad 2 v5 S5 fun v6 S6 =>
 bLd v6 S6 fun v7 S7 =>
 bNot v7 S7 fun v8 S8 =>
 bNil v4 S8 fun v9 S9 =>
 bFad 2 v9 S9 fun v10 S10 =>
 bSt 1 v10 (.b true) S10 fun _ S11 =>
 bNil x0 S11 fun v12 S12 =>
 bFad 1 v12 S12 fun v13 S13 =>
 bLd v13 S13 fun v14 S14 =>
 bNil v4 S14 fun v15 S15 =>
 bFad 0 v15 S15 fun v16 S16 =>
 bLd v16 S16 fun v17 S17 =>
 C 164 [v14, v17] S17 fun v18 S18 =>
 k (.tup [v8, (.i .i64 0)]) S18
def Y_147_2 (C : CS) (k : KS) (x0 x1 : AV) (S : St) : Prop :=
 sR (.eq false .ptr) [x0, (.p none)] S fun v1 S1 =>
 gdO v1 false (sMv [x1] S1) S1 fun v2 S2 =>
 gdO v1 false (bLt v2 (.i .i64 0) S2) S2 fun v3 S3 =>
 bPick v1 (.b true) v3 S3 fun v4 S4 =>
 gdO v4 false (sMv [x1] S4) S4 fun v5 S5 =>
 gdO v4 false (sMv [x0] S5) S5 fun v6 S6 =>
 gdO v4 false (bNil v6 S6) S6 fun v7 S7 =>
 gdO v4 false (bFad 3 v7 S7) S7 fun v8 S8 =>
 gdO v4 false (bLd v8 S8) S8 fun v9 S9 =>
 gdO v4 false (bLen v9 S9) S9 fun v10 S10 =>
 gdO v4 false (bGe v5 v10 S10) S10 fun v11 S11 =>
 bPick v4 (.b true) v11 S11 fun v12 S12 =>
 condX v12
 (k (.tup [(.b false), (.i .i64 4)]) S12)
 (Y_147_3 C k x0 x1 S12)
def Y_147_1 (C : CS) (k : KS) (x0 x1 : AV) (S : St) : Prop :=
 Y_147_2 C k x0 x1 S
def Z_147 (C : CS) (vs : List AV) (S : St) (k : KS) : Prop := ar2 ((fun (C : CS) (k : KS) (a0 a1 : AV) (S : St) => Y_147_1 C k a0 a1 S) C k) vs S
theorem z_147 {F : Nat → Option AFn} (h : ∀ f, Nat.beq f 4 = false → F f = tbl f) : FnOk F 147 Z_147 := fn2 ((h 147 (by kernel_rfl)).trans c147) (Y := fun (C : CS) (k : KS) (a0 a1 : AV) (S : St) => Y_147_1 C k a0 a1 S) fun C l t S k => xS (fun l t S => xS (fun l t S => xf (Y_147_3 C k (l 0) (l 1) S)) (xf (Y_147_2 C k (l 0) (l 1) S))) (xf (Y_147_1 C k (l 0) (l 1) S))
theorem c148 : tbl 148 = some (fnOf (tbl 148)) := by kernel_rfl
/-- (*tarpaulin/ctx.Set).After -/
def Y_148_6 (C : CS) (k : KS) (x0 x1 x2 x9 x11 : AV) (S : St) : Prop :=
 bNil x0 S fun v1 S1 =>
 bFad 3 v1 S1 fun v2 S2 =>
 bLd v2 S2 fun v3 S3 =>
 sBuild [.i .i64 0, .i .i64 0, .b false] [(0, 1), (1, 1)] [x9, x2] S3 fun v4 S4 =>
 sAl (.bslice [.i .i64 0, .i .i64 0, .b false] 1 3 [0]) [v4] S4 fun v5 S5 =>
 bApp 3 24 v3 v5 S5 fun v6 S6 =>
 bNil x0 S6 fun v7 S7 =>
 bFad 3 v7 S7 fun v8 S8 =>
 bSt 1 v8 v6 S8 fun _ S9 =>
 bNil x0 S9 fun v10 S10 =>
 bFad 2 v10 S10 fun v11 S11 =>
 bLd v11 S11 fun v12 S12 =>
 bIad 9 v12 x1 S12 fun v13 S13 =>
 bFad 3 v13 S13 fun v14 S14 =>
 bLd v14 S14 fun v15 S15 =>
 bNe v15 (.i .i64 0) S15 fun v16 S16 =>
 condX v16
 (C 163 [x0, x11] S16 fun v17 S17 =>
 sAl (.bslice [.i .i64 0, .i .i64 0] 1 2 [0]) [v17] S17 fun v18 S18 =>
 k (.tup [x11, v18, (.i .i64 0)]) S18)
 (k (.tup [x11, (.sl none 0 0 0), (.i .i64 0)]) S16)
def Y_148_5 (C : CS) (k : KS) (x0 x1 x2 x9 x11 : AV) (S : St) : Prop :=
 bNil x0 S fun v1 S1 =>
 bFad 4 v1 S1 fun v2 S2 =>
 bLd v2 S2 fun v3 S3 =>
 sR (.un .neg) [x11] S3 fun v4 S4 =>
 bSub v4 (.i .i64 1) S4 fun v5 S5 =>
 sE .mset [v3, x9, v5] S5 fun _ S6 =>
 Y_148_6 C k x0 x1 x2 x9 x11 S6
def Y_148_4 (C : CS) (k : KS) (x0 x1 x2 x9 : AV) (S : St) : Prop :=
 bNil x0 S fun v1 S1 =>
 bFad 3 v1 S1 fun v2 S2 =>
 bLd v2 S2 fun v3 S3 =>
 bLen v3 S3 fun v4 S4 =>
 Y_148_5 C k x0 x1 x2 x9 v4 S4
def Y_148_3 (C : CS) (k : KS) (x0 x1 x2 : AV) (S : St) : Prop :=
 bNil x0 S fun v1 S1 =>
 bFad 1 v1 S1 fun v2 S2 =>
 bLd v2 S2 fun v3 S3 =>
 bNil x0 S3 fun v4 S4 =>
 bFad 2 v4 S4 fun v5 S5 =>
 bLd v5 S5 fun v6 S6 =>
 bIad 9 v6 x1 S6 fun v7 S7 =>
 bFad 0 v7 S7 fun v8 S8 =>
 bLd v8 S8 fun v9 S9 =>
 C 103 [v3, v9, (.b true)] S9 fun v10 S10 =>
 bExt 0 v10 S10 fun v11 S11 =>
 bExt 1 v10 S11 fun v12 S12 =>
 Y_148_4 C k x0 x1 x2 v11 S12
def Y_148_2 (C : CS) (k : KS) (x0 x1 x2 : AV) (S : St) : Prop :=
 C 113 [x0, x1] S fun v1 S1 =>
 bNot v1 S1 fun v2 S2 =>
 condX v2
 (k (.tup [(.i .i64 0), (.sl none 0 0 0), (.i .i64 4)]) S2)
 (bLt x2 (.i .i64 0) S2 fun v3 S3 =>
 condX v3
 (k (.tup [(.i .i64 0), (.sl none 0 0 0), (.i .i64 1)]) S3)
 (bNil x0 S3 fun v4 S4 =>
 bFad 3 v4 S4 fun v5 S5 =>
 bLd v5 S5 fun v6 S6 =>
 bLen v6 S6 fun v7 S7 =>
 bGe v7 (.i .i64 64) S7 fun v8 S8 =>
 condX v8
 (k (.tup [(.i .i64 0), (.sl none 0 0 0), (.i .i64 3)]) S8)
 (Y_148_3 C k x0 x1 x2 S8)))
def Y_148_1 (C : CS) (k : KS) (x0 x1 x2 : AV) (S : St) : Prop :=
 Y_148_2 C k x0 x1 x2 S
def Z_148 (C : CS) (vs : List AV) (S : St) (k : KS) : Prop := ar3 ((fun (C : CS) (k : KS) (a0 a1 a2 : AV) (S : St) => Y_148_1 C k a0 a1 a2 S) C k) vs S
theorem z_148 {F : Nat → Option AFn} (h : ∀ f, Nat.beq f 4 = false → F f = tbl f) : FnOk F 148 Z_148 := fn3 ((h 148 (by kernel_rfl)).trans c148) (Y := fun (C : CS) (k : KS) (a0 a1 a2 : AV) (S : St) => Y_148_1 C k a0 a1 a2 S) fun C l t S k => xS (fun l t S => xS (fun l t S => xS (fun l t S => xS (fun l t S => xS (fun l t S => xf (Y_148_6 C k (l 0) (l 1) (l 2) (l 9) (l 11) S)) (xf (Y_148_5 C k (l 0) (l 1) (l 2) (l 9) (l 11) S))) (xf (Y_148_4 C k (l 0) (l 1) (l 2) (l 9) S))) (xf (Y_148_3 C k (l 0) (l 1) (l 2) S))) (xf (Y_148_2 C k (l 0) (l 1) (l 2) S))) (xf (Y_148_1 C k (l 0) (l 1) (l 2) S))
theorem c149 : tbl 149 = some (fnOf (tbl 149)) := by kernel_rfl
/-- slices.Index[[]int,int] -/
def Y_149_3 (C : CS) (k : KS) (S : St) : Prop :=
 k (.i .i64 (-1)) S
def Y_149_7 (C : CS) (k : KS) (k1 : AV → AV → AV → AV → St → Prop) (x0 x1 x7 x8 : AV) (S : St) : Prop :=
 bLt x8 x7 S fun v1 S1 =>
 condX v1
 (bIad 1 x0 x8 S1 fun v2 S2 =>
 bLd v2 S2 fun v3 S3 =>
 bEq x1 v3 S3 fun v4 S4 =>
 condX v4
 (k x8 S4)
 (bAdd x8 (.i .i64 1) S4 fun v5 S5 =>
 k1 x0 x1 x7 v5 S5))
 (Y_149_3 C k S1)
def Y_149_4 (C : CS) (k : KS) (x0 x1 : AV) (S : St) : Prop :=
 bLen x0 S fun v1 S1 =>
 lp4 (Y_149_7 C k) x0 x1 v1 (.i .i64 0) S1
def Y_149_1 (C : CS) (k : KS) (x0 x1 : AV) (S : St) : Prop :=
 Y_149_4 C k x0 x1 S
def Z_149 (C : CS) (vs : List AV) (S : St) (k : KS) : Prop := ar2 ((fun (C : CS) (k : KS) (a0 a1 : AV) (S : St) => Y_149_1 C k a0 a1 S) C k) vs S
theorem z_149 {F : Nat → Option AFn} (h : ∀ f, Nat.beq f 4 = false → F f = tbl f) : FnOk F 149 Z_149 := fn2 ((h 149 (by kernel_rfl)).trans c149) (Y := fun (C : CS) (k : KS) (a0 a1 : AV) (S : St) => Y_149_1 C k a0 a1 S) fun C l t S k => xS (fun l t S => xS (fun l t S => xf (Y_149_3 C k S)) (xS (fun l t S => xB (xL4 0 1 7 8 (Y_149_7 C k) (fun l t S k1 => xf (Y_149_7 C k k1 (l 0) (l 1) (l 7) (l 8) S)) (xf (lp4 (Y_149_7 C k) (l 0) (l 1) (l 7) (l 8) S)))) (xf (Y_149_4 C k (l 0) (l 1) S)))) (xf (Y_149_1 C k (l 0) (l 1) S))
theorem c150 : tbl 150 = some (fnOf (tbl 150)) := by kernel_rfl
/-- slices.Delete[[]int,int] -/
def Y_150_1 (C : CS) (k : KS) (x0 x1 x2 : AV) (S : St) : Prop :=
 bLen x0 S fun v1 S1 =>
 sR (.slc 1 true true true) [x0, x1, x2, v1] S1 fun v2 S2 =>
 bEq x1 x2 S2 fun v3 S3 =>
 condX v3
 (k x0 S3)
 (bLen x0 S3 fun v4 S4 =>
 sR (.slc 1 false true false) [x0, x1] S4 fun v5 S5 =>
 sR (.slc 1 true false false) [x0, x2] S5 fun v6 S6 =>
 bApp 1 8 v5 v6 S6 fun v7 S7 =>
 bLen v7 S7 fun v8 S8 =>
 sR (.slc 1 true true false) [v7, v8, v4] S8 fun v9 S9 =>
 sE (.clr [.i .i64 0]) [v9] S9 fun _ S10 =>
 k v7 S10)
def Z_150 (C : CS) (vs : List AV) (S : St) (k : KS) : Prop := ar3 ((fun (C : CS) (k : KS) (a0 a1 a2 : AV) (S : St) => Y_150_1 C k a0 a1 a2 S) C k) vs S
theorem z_150 {F : Nat → Option AFn} (h : ∀ f, Nat.beq f 4 = false → F f = tbl f) : FnOk F 150 Z_150 := fn3 ((h 150 (by kernel_rfl)).trans c150) (Y := fun (C : CS) (k : KS) (a0 a1 a2 : AV) (S : St) => Y_150_1 C k a0 a1 a2 S) fun C l t S k => xf (Y_150_1 C k (l 0) (l 1) (l 2) S)
theorem c151 : tbl 151 = some (fnOf (tbl 151)) := by kernel_rfl
/-- tarpaulin/prog.may -/
def Y_151_1 (C : CS) (k : KS) (x0 x1 x2 : AV) (S : St) : Prop :=
 bEq x0 (.i .u8 114) S fun v1 S1 =>
 condX v1
 (C 154 [x1] S1 fun v2 S2 =>
 k v2 S2)
 (bEq x0 (.i .u8 112) S1 fun v3 S3 =>
 condX v3
 (bGe x1 (.i .i64 0) S3 fun v4 S4 =>
 gdO v4 true (sMv [x1] S4) S4 fun v5 S5 =>
 gdO v4 true (sMv [x2] S5) S5 fun v6 S6 =>
 gdO v4 true (bLe v5 v6 S6) S6 fun v7 S7 =>
 bPick v4 v7 (.b false) S7 fun v8 S8 =>
 k v8 S8)
 (bEq x0 (.i .u8 103) S3 fun v9 S9 =>
 condX v9
 (bGe x1 (.i .i64 0) S9 fun v10 S10 =>
 gdO v10 true (sMv [x1] S10) S10 fun v11 S11 =>
 gdO v10 true (bLt v11 (.i .i64 16) S11) S11 fun v12 S12 =>
 bPick v10 v12 (.b false) S12 fun v13 S13 =>
 k v13 S13)
 (bEq x0 (.i .u8 45) S9 fun v14 S14 =>
 condX v14
 (bEq x1 (.i .i64 0) S14 fun v15 S15 =>
 k v15 S15)
 (k (.b true) S14))))
def Z_151 (C : CS) (vs : List AV) (S : St) (k : KS) : Prop := ar3 ((fun (C : CS) (k : KS) (a0 a1 a2 : AV) (S : St) => Y_151_1 C k a0 a1 a2 S) C k) vs S
theorem z_151 {F : Nat → Option AFn} (h : ∀ f, Nat.beq f 4 = false → F f = tbl f) : FnOk F 151 Z_151 := fn3 ((h 151 (by kernel_rfl)).trans c151) (Y := fun (C : CS) (k : KS) (a0 a1 a2 : AV) (S : St) => Y_151_1 C k a0 a1 a2 S) fun C l t S k => xf (Y_151_1 C k (l 0) (l 1) (l 2) S)
theorem c152 : tbl 152 = some (fnOf (tbl 152)) := by kernel_rfl
/-- slices.ContainsFunc[[]tarpaulin/api.Case,tarpaulin/api.Case] -/
def Y_152_1 (C : CS) (k : KS) (x0 x1 : AV) (S : St) : Prop :=
 C 189 [x0, x1] S fun v1 S1 =>
 bGe v1 (.i .i64 0) S1 fun v2 S2 =>
 k v2 S2
def Z_152 (C : CS) (vs : List AV) (S : St) (k : KS) : Prop := ar2 ((fun (C : CS) (k : KS) (a0 a1 : AV) (S : St) => Y_152_1 C k a0 a1 S) C k) vs S
theorem z_152 {F : Nat → Option AFn} (h : ∀ f, Nat.beq f 4 = false → F f = tbl f) : FnOk F 152 Z_152 := fn2 ((h 152 (by kernel_rfl)).trans c152) (Y := fun (C : CS) (k : KS) (a0 a1 : AV) (S : St) => Y_152_1 C k a0 a1 S) fun C l t S k => xf (Y_152_1 C k (l 0) (l 1) S)
theorem c153 : tbl 153 = some (fnOf (tbl 153)) := by kernel_rfl
/-- tarpaulin/prog.good$1 -/
def Y_153_1 (C : CS) (k : KS) (x0 : AV) (S : St) : Prop :=
 bBox x0 S fun v1 S1 =>
 bFad 1 v1 S1 fun v2 S2 =>
 bLd v2 S2 fun v3 S3 =>
 C 154 [v3] S3 fun v4 S4 =>
 bNot v4 S4 fun v5 S5 =>
 gdO v5 false (bFad 2 v1 S5) S5 fun v6 S6 =>
 gdO v5 false (bLd v6 S6) S6 fun v7 S7 =>
 gdO v5 false (C 154 [v7] S7) S7 fun v8 S8 =>
 gdO v5 false (bNot v8 S8) S8 fun v9 S9 =>
 bPick v5 (.b true) v9 S9 fun v10 S10 =>
 gdO v10 false (bFad 0 v1 S10) S10 fun v11 S11 =>
 gdO v10 false (bLd v11 S11) S11 fun v12 S12 =>
 gdO v10 false (bNot v12 S12) S12 fun v13 S13 =>
 gdO v10 false (sMv [v13] S13) S13 fun v14 S14 =>
 gdO v14 true (bFad 2 v1 S14) S14 fun v15 S15 =>
 gdO v14 true (bLd v15 S15) S15 fun v16 S16 =>
 gdO v14 true (bNe v16 (.i .i64 0) S16) S16 fun v17 S17 =>
 gdO v10 false (bPick v14 v17 (.b false) S17) S17 fun v18 S18 =>
 bPick v10 (.b true) v18 S18 fun v19 S19 =>
 k v19 S19
def Z_153 (C : CS) (vs : List AV) (S : St) (k : KS) : Prop := ar1 ((fun (C : CS) (k : KS) (a0 : AV) (S : St) => Y_153_1 C k a0 S) C k) vs S
theorem z_153 {F : Nat → Option AFn} (h : ∀ f, Nat.beq f 4 = false → F f = tbl f) : FnOk F 153 Z_153 := fn1 ((h 153 (by kernel_rfl)).trans c153) (Y := fun (C : CS) (k : KS) (a0 : AV) (S : St) => Y_153_1 C k a0 S) fun C l t S k => xf (Y_153_1 C k (l 0) S)
theorem c154 : tbl 154 = some (fnOf (tbl 154)) := by kernel_rfl
/-- tarpaulin/prog.register -/
def Y_154_1 (C : CS) (k : KS) (x0 : AV) (S : St) : Prop :=
 bGe x0 (.i .i64 0) S fun v1 S1 =>
 gdO v1 true (sMv [x0] S1) S1 fun v2 S2 =>
 gdO v1 true (bLt v2 (.i .i64 8) S2) S2 fun v3 S3 =>
 bPick v1 v3 (.b false) S3 fun v4 S4 =>
 k v4 S4
def Z_154 (C : CS) (vs : List AV) (S : St) (k : KS) : Prop := ar1 ((fun (C : CS) (k : KS) (a0 : AV) (S : St) => Y_154_1 C k a0 S) C k) vs S
theorem z_154 {F : Nat → Option AFn} (h : ∀ f, Nat.beq f 4 = false → F f = tbl f) : FnOk F 154 Z_154 := fn1 ((h 154 (by kernel_rfl)).trans c154) (Y := fun (C : CS) (k : KS) (a0 : AV) (S : St) => Y_154_1 C k a0 S) fun C l t S k => xf (Y_154_1 C k (l 0) S)
theorem c155 : tbl 155 = some (fnOf (tbl 155)) := by kernel_rfl
/-- (*tarpaulin/tree.Tree).has -/
def Y_155_1 (C : CS) (k : KS) (x0 x1 : AV) (S : St) : Prop :=
 bGe x1 (.i .i64 0) S fun v1 S1 =>
 gdO v1 true (sMv [x1] S1) S1 fun v2 S2 =>
 gdO v1 true (sMv [x0] S2) S2 fun v3 S3 =>
 gdO v1 true (C 190 [v3] S3) S3 fun v4 S4 =>
 gdO v1 true (bLt v2 v4 S4) S4 fun v5 S5 =>
 bPick v1 v5 (.b false) S5 fun v6 S6 =>
 k v6 S6
def Z_155 (C : CS) (vs : List AV) (S : St) (k : KS) : Prop := ar2 ((fun (C : CS) (k : KS) (a0 a1 : AV) (S : St) => Y_155_1 C k a0 a1 S) C k) vs S
theorem z_155 {F : Nat → Option AFn} (h : ∀ f, Nat.beq f 4 = false → F f = tbl f) : FnOk F 155 Z_155 := fn2 ((h 155 (by kernel_rfl)).trans c155) (Y := fun (C : CS) (k : KS) (a0 a1 : AV) (S : St) => Y_155_1 C k a0 a1 S) fun C l t S k => xf (Y_155_1 C k (l 0) (l 1) S)
theorem c156 : tbl 156 = some (fnOf (tbl 156)) := by kernel_rfl
/-- (*tarpaulin/heap.Heap).Min -/
def Y_156_1 (C : CS) (k : KS) (x0 : AV) (S : St) : Prop :=
 bAlloc [.i .i64 0, .i .i64 0, .i .i64 0] S fun v1 S1 =>
 C 191 [x0] S1 fun v2 S2 =>
 bEq v2 (.i .i64 0) S2 fun v3 S3 =>
 condX v3
 (sBuild [.i .i64 0, .i .i64 0, .i .i64 0] [] [] S3 fun v4 S4 =>
 bSt 3 v1 v4 S4 fun _ S5 =>
 finV (resVX Env.nil Env.nil S5.h [.cell (.c v1) (some 3), .tmp (.c (.b false))]) S5 k)
 (bNil x0 S3 fun v6 S6 =>
 bFad 0 v6 S6 fun v7 S7 =>
 bLd v7 S7 fun v8 S8 =>
 bIad 3 v8 (.i .i64 0) S8 fun v9 S9 =>
 bLdN 3 v9 S9 fun v10 S10 =>
 bSt 3 v1 v10 S10 fun _ S11 =>
 finV (resVX Env.nil Env.nil S11.h [.cell (.c v1) (some 3), .tmp (.c (.b true))]) S11 k)
def Z_156 (C : CS) (vs : List AV) (S : St) (k : KS) : Prop := ar1 ((fun (C : CS) (k : KS) (a0 : AV) (S : St) => Y_156_1 C k a0 S) C k) vs S
theorem z_156 {F : Nat → Option AFn} (h : ∀ f, Nat.beq f 4 = false → F f = tbl f) : FnOk F 156 Z_156 := fn1 ((h 156 (by kernel_rfl)).trans c156) (Y := fun (C : CS) (k : KS) (a0 : AV) (S : St) => Y_156_1 C k a0 S) fun C l t S k => xf (Y_156_1 C k (l 0) S)
theorem c157 : tbl 157 = some (fnOf (tbl 157)) := by kernel_rfl
/-- (*tarpaulin/heap.Heap).Remove -/
def Y_157_7 (C : CS) (k : KS) (x0 x1 x4 x6 x8 x9 x10 : AV) (S : St) : Prop :=
 bNil x0 S fun v1 S1 =>
 bFad 1 v1 S1 fun v2 S2 =>
 bLd v2 S2 fun v3 S3 =>
 sE .mdel [v3, x1] S3 fun _ S4 =>
 bLt x8 x9 S4 fun v5 S5 =>
 condX v5
 (bLdN 3 x10 S5 fun v6 S6 =>
 C 193 [x0, x8, v6] S6 fun v7 S7 =>
 C 194 [x0, x8] S7 fun v8 S8 =>
 bNil x0 S8 fun v9 S9 =>
 bFad 1 v9 S9 fun v10 S10 =>
 bLd v10 S10 fun v11 S11 =>
 bFad 0 x10 S11 fun v12 S12 =>
 bLd v12 S12 fun v13 S13 =>
 sR (.lkup (.i .i64 0) false) [v11, v13] S13 fun v14 S14 =>
 C 195 [x0, v14] S14 fun v15 S15 =>
 bLdN 3 x6 S15 fun v16 S16 =>
 bSt 3 x4 v16 S16 fun _ S17 =>
 finV (resVX Env.nil Env.nil S17.h [.cell (.c x4) (some 3), .tmp (.c (.b true))]) S17 k)
 (bLdN 3 x6 S5 fun v18 S18 =>
 bSt 3 x4 v18 S18 fun _ S19 =>
 finV (resVX Env.nil Env.nil S19.h [.cell (.c x4) (some 3), .tmp (.c (.b true))]) S19 k)
def Y_157_6 (C : CS) (k : KS) (x0 x1 x4 x6 x8 x9 x10 : AV) (S : St) : Prop :=
 bNil x0 S fun v1 S1 =>
 bFad 0 v1 S1 fun v2 S2 =>
 bLd v2 S2 fun v3 S3 =>
 sR (.slc 3 false true false) [v3, x9] S3 fun v4 S4 =>
 bNil x0 S4 fun v5 S5 =>
 bFad 0 v5 S5 fun v6 S6 =>
 bSt 1 v6 v4 S6 fun _ S7 =>
 Y_157_7 C k x0 x1 x4 x6 x8 x9 x10 S7
def Y_157_5 (C : CS) (k : KS) (x0 x1 x4 x6 x8 x9 : AV) (S : St) : Prop :=
 bNil x0 S fun v1 S1 =>
 bFad 0 v1 S1 fun v2 S2 =>
 bLd v2 S2 fun v3 S3 =>
 bIad 3 v3 x9 S3 fun v4 S4 =>
 bLdN 3 v4 S4 fun v5 S5 =>
 bAlloc [.i .i64 0, .i .i64 0, .i .i64 0] S5 fun v6 S6 =>
 bSt 3 v6 v5 S6 fun _ S7 =>
 Y_157_6 C k x0 x1 x4 x6 x8 x9 v6 S7
def Y_157_4 (C : CS) (k : KS) (x0 x1 x4 x6 : AV) (S : St) : Prop :=
 bNil x0 S fun v1 S1 =>
 bFad 1 v1 S1 fun v2 S2 =>
 bLd v2 S2 fun v3 S3 =>
 sR (.lkup (.i .i64 0) false) [v3, x1] S3 fun v4 S4 =>
 bNil x0 S4 fun v5 S5 =>
 bFad 0 v5 S5 fun v6 S6 =>
 bLd v6 S6 fun v7 S7 =>
 bLen v7 S7 fun v8 S8 =>
 bSub v8 (.i .i64 1) S8 fun v9 S9 =>
 Y_157_5 C k x0 x1 x4 x6 v4 v9 S9
def Y_157_3 (C : CS) (k : KS) (x0 x1 x4 x6 x7 : AV) (S : St) : Prop :=
 bNot x7 S fun v1 S1 =>
 condX v1
 (sBuild [.i .i64 0, .i .i64 0, .i .i64 0] [] [] S1 fun v2 S2 =>
 bSt 3 x4 v2 S2 fun _ S3 =>
 finV (resVX Env.nil Env.nil S3.h [.cell (.c x4) (some 3), .tmp (.c (.b false))]) S3 k)
 (Y_157_4 C k x0 x1 x4 x6 S1)
def Y_157_2 (C : CS) (k : KS) (x0 x1 x4 : AV) (S : St) : Prop :=
 C 192 [x0, x1] S fun v1 S1 =>
 bExt 0 v1 S1 fun v2 S2 =>
 bExt 1 v1 S2 fun v3 S3 =>
 bAlloc [.i .i64 0, .i .i64 0, .i .i64 0] S3 fun v4 S4 =>
 bSt 3 v4 v2 S4 fun _ S5 =>
 Y_157_3 C k x0 x1 x4 v4 v3 S5
def Y_157_1 (C : CS) (k : KS) (x0 x1 : AV) (S : St) : Prop :=
 bAlloc [.i .i64 0, .i .i64 0, .i .i64 0] S fun v1 S1 =>
 Y_157_2 C k x0 x1 v1 S1
def Z_157 (C : CS) (vs : List AV) (S : St) (k : KS) : Prop := ar2 ((fun (C : CS) (k : KS) (a0 a1 : AV) (S : St) => Y_157_1 C k a0 a1 S) C k) vs S
theorem z_157 {F : Nat → Option AFn} (h : ∀ f, Nat.beq f 4 = false → F f = tbl f) : FnOk F 157 Z_157 := fn2 ((h 157 (by kernel_rfl)).trans c157) (Y := fun (C : CS) (k : KS) (a0 a1 : AV) (S : St) => Y_157_1 C k a0 a1 S) fun C l t S k => xS (fun l t S => xS (fun l t S => xS (fun l t S => xS (fun l t S => xS (fun l t S => xS (fun l t S => xf (Y_157_7 C k (l 0) (l 1) (l 4) (l 6) (l 8) (l 9) (l 10) S)) (xf (Y_157_6 C k (l 0) (l 1) (l 4) (l 6) (l 8) (l 9) (l 10) S))) (xf (Y_157_5 C k (l 0) (l 1) (l 4) (l 6) (l 8) (l 9) S))) (xf (Y_157_4 C k (l 0) (l 1) (l 4) (l 6) S))) (xf (Y_157_3 C k (l 0) (l 1) (l 4) (l 6) (l 7) S))) (xf (Y_157_2 C k (l 0) (l 1) (l 4) S))) (xf (Y_157_1 C k (l 0) (l 1) S))
theorem c158 : tbl 158 = some (fnOf (tbl 158)) := by kernel_rfl
/-- (*tarpaulin/expire.Timers).Stop -/
def Y_158_1 (C : CS) (k : KS) (x0 x1 : AV) (S : St) : Prop :=
 sR (.eq false .ptr) [x0, (.p none)] S fun v1 S1 =>
 condX v1
 (k (.b false) S1)
 (bNil x0 S1 fun v2 S2 =>
 bFad 0 v2 S2 fun v3 S3 =>
 bLd v3 S3 fun v4 S4 =>
 C 157 [v4, x1] S4 fun v5 S5 =>
 bExt 0 v5 S5 fun v6 S6 =>
 bExt 1 v5 S6 fun v7 S7 =>
 bAlloc [.i .i64 0, .i .i64 0, .i .i64 0] S7 fun v8 S8 =>
 bSt 3 v8 v6 S8 fun _ S9 =>
 bNil x0 S9 fun v10 S10 =>
 bFad 1 v10 S10 fun v11 S11 =>
 bLd v11 S11 fun v12 S12 =>
 sE .mdel [v12, x1] S12 fun _ S13 =>
 k v7 S13)
def Z_158 (C : CS) (vs : List AV) (S : St) (k : KS) : Prop := ar2 ((fun (C : CS) (k : KS) (a0 a1 : AV) (S : St) => Y_158_1 C k a0 a1 S) C k) vs S
theorem z_158 {F : Nat → Option AFn} (h : ∀ f, Nat.beq f 4 = false → F f = tbl f) : FnOk F 158 Z_158 := fn2 ((h 158 (by kernel_rfl)).trans c158) (Y := fun (C : CS) (k : KS) (a0 a1 : AV) (S : St) => Y_158_1 C k a0 a1 S) fun C l t S k => xf (Y_158_1 C k (l 0) (l 1) S)
theorem c159 : tbl 159 = some (fnOf (tbl 159)) := by kernel_rfl
/-- (*tarpaulin/heap.Heap).Add -/
def Y_159_4 (C : CS) (k : KS) (x0 x1 x2 : AV) (S : St) : Prop :=
 bNil x0 S fun v1 S1 =>
 bFad 2 v1 S1 fun v2 S2 =>
 bLd v2 S2 fun v3 S3 =>
 bAdd v3 (.i .i64 1) S3 fun v4 S4 =>
 bNil x0 S4 fun v5 S5 =>
 bFad 2 v5 S5 fun v6 S6 =>
 bSt 1 v6 v4 S6 fun _ S7 =>
 bNil x0 S7 fun v8 S8 =>
 bFad 0 v8 S8 fun v9 S9 =>
 bLd v9 S9 fun v10 S10 =>
 bNil x0 S10 fun v11 S11 =>
 bFad 2 v11 S11 fun v12 S12 =>
 bLd v12 S12 fun v13 S13 =>
 sBuild [.i .i64 0, .i .i64 0, .i .i64 0] [(0, 1), (1, 1), (2, 1)] [x1, x2, v13] S13 fun v14 S14 =>
 sAl (.bslice [.i .i64 0, .i .i64 0, .i .i64 0] 1 3 [0]) [v14] S14 fun v15 S15 =>
 bApp 3 24 v10 v15 S15 fun v16 S16 =>
 bNil x0 S16 fun v17 S17 =>
 bFad 0 v17 S17 fun v18 S18 =>
 bSt 1 v18 v16 S18 fun _ S19 =>
 bNil x0 S19 fun v20 S20 =>
 bFad 0 v20 S20 fun v21 S21 =>
 bLd v21 S21 fun v22 S22 =>
 bLen v22 S22 fun v23 S23 =>
 bSub v23 (.i .i64 1) S23 fun v24 S24 =>
 C 194 [x0, v24] S24 fun v25 S25 =>
 k (.i .i64 0) S25
def Y_159_3 (C : CS) (k : KS) (x0 x1 x2 : AV) (S : St) : Prop :=
 bNil x0 S fun v1 S1 =>
 bFad 1 v1 S1 fun v2 S2 =>
 bLd v2 S2 fun v3 S3 =>
 sR (.lkup (.i .i64 0) true) [v3, x1] S3 fun v4 S4 =>
 bExt 0 v4 S4 fun v5 S5 =>
 bExt 1 v4 S5 fun v6 S6 =>
 condX v6
 (k (.i .i64 1) S6)
 (Y_159_4 C k x0 x1 x2 S6)
def Y_159_2 (C : CS) (k : KS) (x0 x1 x2 : AV) (S : St) : Prop :=
 sR (.eq false .ptr) [x0, (.p none)] S fun v1 S1 =>
 condX v1
 (k (.i .i64 1) S1)
 (Y_159_3 C k x0 x1 x2 S1)
def Y_159_1 (C : CS) (k : KS) (x0 x1 x2 : AV) (S : St) : Prop :=
 Y_159_2 C k x0 x1 x2 S
def Z_159 (C : CS) (vs : List AV) (S : St) (k : KS) : Prop := ar3 ((fun (C : CS) (k : KS) (a0 a1 a2 : AV) (S : St) => Y_159_1 C k a0 a1 a2 S) C k) vs S
theorem z_159 {F : Nat → Option AFn} (h : ∀ f, Nat.beq f 4 = false → F f = tbl f) : FnOk F 159 Z_159 := fn3 ((h 159 (by kernel_rfl)).trans c159) (Y := fun (C : CS) (k : KS) (a0 a1 a2 : AV) (S : St) => Y_159_1 C k a0 a1 a2 S) fun C l t S k => xS (fun l t S => xS (fun l t S => xS (fun l t S => xf (Y_159_4 C k (l 0) (l 1) (l 2) S)) (xf (Y_159_3 C k (l 0) (l 1) (l 2) S))) (xf (Y_159_2 C k (l 0) (l 1) (l 2) S))) (xf (Y_159_1 C k (l 0) (l 1) (l 2) S))
theorem c160 : tbl 160 = some (fnOf (tbl 160)) := by kernel_rfl
/-- (*tarpaulin/wait.Queue).Pop -/
def Y_160_1 (C : CS) (k : KS) (x0 : AV) (S : St) : Prop :=
 bAlloc [.i .i64 0, .i .i64 0, .i .i64 0] S fun v1 S1 =>
 C 196 [x0, (.fn 197 [] [])] S1 fun v2 S2 =>
 bExt 0 v2 S2 fun v3 S3 =>
 bExt 1 v2 S3 fun v4 S4 =>
 bSt 3 v1 v3 S4 fun _ S5 =>
 finV (resVX Env.nil Env.nil S5.h [.cell (.c v1) (some 3), .tmp (.c v4)]) S5 k
def Z_160 (C : CS) (vs : List AV) (S : St) (k : KS) : Prop := ar1 ((fun (C : CS) (k : KS) (a0 : AV) (S : St) => Y_160_1 C k a0 S) C k) vs S
theorem z_160 {F : Nat → Option AFn} (h : ∀ f, Nat.beq f 4 = false → F f = tbl f) : FnOk F 160 Z_160 := fn1 ((h 160 (by kernel_rfl)).trans c160) (Y := fun (C : CS) (k : KS) (a0 : AV) (S : St) => Y_160_1 C k a0 S) fun C l t S k => xf (Y_160_1 C k (l 0) S)
theorem c161 : tbl 161 = some (fnOf (tbl 161)) := by kernel_rfl
/-- (*tarpaulin/chanq.Chan).End -/
def Y_161_1 (C : CS) (k : KS) (x0 : AV) (S : St) : Prop :=
 sR (.eq false .ptr) [x0, (.p none)] S fun v1 S1 =>
 gdO v1 false (sMv [x0] S1) S1 fun v2 S2 =>
 gdO v1 false (bNil v2 S2) S2 fun v3 S3 =>
 gdO v1 false (bFad 4 v3 S3) S3 fun v4 S4 =>
 gdO v1 false (bLd v4 S4) S4 fun v5 S5 =>
 gdO v1 false (bNot v5 S5) S5 fun v6 S6 =>
 bPick v1 (.b true) v6 S6 fun v7 S7 =>
 gdO v7 false (sMv [x0] S7) S7 fun v8 S8 =>
 gdO v7 false (bNil v8 S8) S8 fun v9 S9 =>
 gdO v7 false (bFad 5 v9 S9) S9 fun v10 S10 =>
 gdO v7 false (bLd v10 S10) S10 fun v11 S11 =>
 bPick v7 (.b true) v11 S11 fun v12 S12 =>
 condX v12
 (k (.sl none 0 0 0) S12)
 (C 198 [x0] S12 fun v13 S13 =>
 k v13 S13)
def Z_161 (C : CS) (vs : List AV) (S : St) (k : KS) : Prop := ar1 ((fun (C : CS) (k : KS) (a0 : AV) (S : St) => Y_161_1 C k a0 S) C k) vs S
theorem z_161 {F : Nat → Option AFn} (h : ∀ f, Nat.beq f 4 = false → F f = tbl f) : FnOk F 161 Z_161 := fn1 ((h 161 (by kernel_rfl)).trans c161) (Y := fun (C : CS) (k : KS) (a0 : AV) (S : St) => Y_161_1 C k a0 S) fun C l t S k => xf (Y_161_1 C k (l 0) S)
theorem c162 : tbl 162 = some (fnOf (tbl 162)) := by kernel_rfl
/-- (*tarpaulin/tree.Tree).Kids -/
def Y_162_1 (C : CS) (k : KS) (x0 x1 : AV) (S : St) : Prop :=
 C 155 [x0, x1] S fun v1 S1 =>
 bNot v1 S1 fun v2 S2 =>
 condX v2
 (k (.sl none 0 0 0) S2)
 (bNil x0 S2 fun v3 S3 =>
 bFad 0 v3 S3 fun v4 S4 =>
 bLd v4 S4 fun v5 S5 =>
 bIad 3 v5 x1 S5 fun v6 S6 =>
 bFad 2 v6 S6 fun v7 S7 =>
 bLd v7 S7 fun v8 S8 =>
 C 39 [v8] S8 fun v9 S9 =>
 k v9 S9)
def Z_162 (C : CS) (vs : List AV) (S : St) (k : KS) : Prop := ar2 ((fun (C : CS) (k : KS) (a0 a1 : AV) (S : St) => Y_162_1 C k a0 a1 S) C k) vs S
theorem z_162 {F : Nat → Option AFn} (h : ∀ f, Nat.beq f 4 = false → F f = tbl f) : FnOk F 162 Z_162 := fn2 ((h 162 (by kernel_rfl)).trans c162) (Y := fun (C : CS) (k : KS) (a0 a1 : AV) (S : St) => Y_162_1 C k a0 a1 S) fun C l t S k => xf (Y_162_1 C k (l 0) (l 1) S)
theorem c163 : tbl 163 = some (fnOf (tbl 163)) := by kernel_rfl
/-- (*tarpaulin/ctx.Set).start -/
def Y_163_1 (C : CS) (k : KS) (x0 x1 : AV) (S : St) : Prop :=
 bAlloc [.i .i64 0, .i .i64 0] S fun v1 S1 =>
 bNil x0 S1 fun v2 S2 =>
 bFad 3 v2 S2 fun v3 S3 =>
 bLd v3 S3 fun v4 S4 =>
 bIad 3 v4 x1 S4 fun v5 S5 =>
 bNil v5 S5 fun v6 S6 =>
 bFad 2 v6 S6 fun v7 S7 =>
 bSt 1 v7 (.b true) S7 fun _ S8 =>
 bNil x0 S8 fun v9 S9 =>
 bFad 1 v9 S9 fun v10 S10 =>
 bLd v10 S10 fun v11 S11 =>
 bNil v5 S11 fun v12 S12 =>
 bFad 0 v12 S12 fun v13 S13 =>
 bLd v13 S13 fun v14 S14 =>
 C 164 [v11, v14] S14 fun v15 S15 =>
 bNil v5 S15 fun v16 S16 =>
 bFad 1 v16 S16 fun v17 S17 =>
 bLd v17 S17 fun v18 S18 =>
 sBuild [.i .i64 0, .i .i64 0] [(0, 1), (1, 1)] [x1, v18] S18 fun v19 S19 =>
 bSt 2 v1 v19 S19 fun _ S20 =>
 finV (resVX Env.nil Env.nil S20.h [.cell (.c v1) (some 2)]) S20 k
def Z_163 (C : CS) (vs : List AV) (S : St) (k : KS) : Prop := ar2 ((fun (C : CS) (k : KS) (a0 a1 : AV) (S : St) => Y_163_1 C k a0 a1 S) C k) vs S
theorem z_163 {F : Nat → Option AFn} (h : ∀ f, Nat.beq f 4 = false → F f = tbl f) : FnOk F 163 Z_163 := fn2 ((h 163 (by kernel_rfl)).trans c163) (Y := fun (C : CS) (k : KS) (a0 a1 : AV) (S : St) => Y_163_1 C k a0 a1 S) fun C l t S k => xf (Y_163_1 C k (l 0) (l 1) S)
theorem c164 : tbl 164 = some (fnOf (tbl 164)) := by kernel_rfl
/-- (*tarpaulin/tree.Tree).Detach -/
def Y_164_4 (C : CS) (k : KS) (x0 x1 : AV) (S : St) : Prop :=
 bNil x0 S fun v1 S1 =>
 bFad 0 v1 S1 fun v2 S2 =>
 bLd v2 S2 fun v3 S3 =>
 bNil x0 S3 fun v4 S4 =>
 bFad 0 v4 S4 fun v5 S5 =>
 bLd v5 S5 fun v6 S6 =>
 bIad 3 v6 x1 S6 fun v7 S7 =>
 bFad 0 v7 S7 fun v8 S8 =>
 bLd v8 S8 fun v9 S9 =>
 bIad 3 v3 v9 S9 fun v10 S10 =>
 bNil v10 S10 fun v11 S11 =>
 bFad 2 v11 S11 fun v12 S12 =>
 bLd v12 S12 fun v13 S13 =>
 C 149 [v13, x1] S13 fun v14 S14 =>
 bNil v10 S14 fun v15 S15 =>
 bFad 2 v15 S15 fun v16 S16 =>
 bLd v16 S16 fun v17 S17 =>
 bAdd v14 (.i .i64 1) S17 fun v18 S18 =>
 C 150 [v17, v14, v18] S18 fun v19 S19 =>
 bNil v10 S19 fun v20 S20 =>
 bFad 2 v20 S20 fun v21 S21 =>
 bSt 1 v21 v19 S21 fun _ S22 =>
 k (.b true) S22
def Y_164_3 (C : CS) (k : KS) (x0 x1 : AV) (S : St) : Prop :=
 bNil x0 S fun v1 S1 =>
 bFad 0 v1 S1 fun v2 S2 =>
 bLd v2 S2 fun v3 S3 =>
 bIad 3 v3 x1 S3 fun v4 S4 =>
 bFad 1 v4 S4 fun v5 S5 =>
 bSt 1 v5 (.b false) S5 fun _ S6 =>
 Y_164_4 C k x0 x1 S6
def Y_164_2 (C : CS) (k : KS) (x0 x1 : AV) (S : St) : Prop :=
 C 155 [x0, x1] S fun v1 S1 =>
 bNot v1 S1 fun v2 S2 =>
 gdO v2 false (sMv [x0] S2) S2 fun v3 S3 =>
 gdO v2 false (bNil v3 S3) S3 fun v4 S4 =>
 gdO v2 false (bFad 0 v4 S4) S4 fun v5 S5 =>
 gdO v2 false (bLd v5 S5) S5 fun v6 S6 =>
 gdO v2 false (sMv [x1] S6) S6 fun v7 S7 =>
 gdO v2 false (bIad 3 v6 v7 S7) S7 fun v8 S8 =>
 gdO v2 false (bFad 1 v8 S8) S8 fun v9 S9 =>
 gdO v2 false (bLd v9 S9) S9 fun v10 S10 =>
 gdO v2 false (bNot v10 S10) S10 fun v11 S11 =>
 bPick v2 (.b true) v11 S11 fun v12 S12 =>
 condX v12
 (k (.b false) S12)
 (Y_164_3 C k x0 x1 S12)
def Y_164_1 (C : CS) (k : KS) (x0 x1 : AV) (S : St) : Prop :=
 Y_164_2 C k x0 x1 S
def Z_164 (C : CS) (vs : List AV) (S : St) (k : KS) : Prop := ar2 ((fun (C : CS) (k : KS) (a0 a1 : AV) (S : St) => Y_164_1 C k a0 a1 S) C k) vs S
theorem z_164 {F : Nat → Option AFn} (h : ∀ f, Nat.beq f 4 = false → F f = tbl f) : FnOk F 164 Z_164 := fn2 ((h 164 (by kernel_rfl)).trans c164) (Y := fun (C : CS) (k : KS) (a0 a1 : AV) (S : St) => Y_164_1 C k a0 a1 S) fun C l t S k => xS (fun l t S => xS (fun l t S => xS (fun l t S => xf (Y_164_4 C k (l 0) (l 1) S)) (xf (Y_164_3 C k (l 0) (l 1) S))) (xf (Y_164_2 C k (l 0) (l 1) S))) (xf (Y_164_1 C k (l 0) (l 1) S))
theorem c165 : tbl 165 = some (fnOf (tbl 165)) := by kernel_rfl
/-- (*tarpaulin/chanq.Chan).Remove -/
def Y_165_1 (C : CS) (k : KS) (x0 x1 : AV) (S : St) : Prop :=
 C 27 [x0, (.b false)] S fun v1 S1 =>
 C 199 [v1, x1] S1 fun v2 S2 =>
 C 27 [x0, (.b true)] S2 fun v3 S3 =>
 C 199 [v3, x1] S3 fun v4 S4 =>
 bAdd v2 v4 S4 fun v5 S5 =>
 k v5 S5
def Z_165 (C : CS) (vs : List AV) (S : St) (k : KS) : Prop := ar2 ((fun (C : CS) (k : KS) (a0 a1 : AV) (S : St) => Y_165_1 C k a0 a1 S) C k) vs S
theorem z_165 {F : Nat → Option AFn} (h : ∀ f, Nat.beq f 4 = false → F f = tbl f) : FnOk F 165 Z_165 := fn2 ((h 165 (by kernel_rfl)).trans c165) (Y := fun (C : CS) (k : KS) (a0 a1 : AV) (S : St) => Y_165_1 C k a0 a1 S) fun C l t S k => xf (Y_165_1 C k (l 0) (l 1) S)
theorem c166 : tbl 166 = some (fnOf (tbl 166)) := by kernel_rfl
/-- (*tarpaulin/task.Table).Wake$1 -/
def Y_166_1 (C : CS) (k : KS) (x0 : AV) (S : St) : Prop :=
 bEq x0 (.i .i64 1) S fun v1 S1 =>
 k v1 S1
def Z_166 (C : CS) (vs : List AV) (S : St) (k : KS) : Prop := ar1 ((fun (C : CS) (k : KS) (a0 : AV) (S : St) => Y_166_1 C k a0 S) C k) vs S
theorem z_166 {F : Nat → Option AFn} (h : ∀ f, Nat.beq f 4 = false → F f = tbl f) : FnOk F 166 Z_166 := fn1 ((h 166 (by kernel_rfl)).trans c166) (Y := fun (C : CS) (k : KS) (a0 : AV) (S : St) => Y_166_1 C k a0 S) fun C l t S k => xf (Y_166_1 C k (l 0) S)
theorem c167 : tbl 167 = some (fnOf (tbl 167)) := by kernel_rfl
/-- (*tarpaulin/task.Task).told -/
def Y_167_6 (C : CS) (k : KS) (x0 x3 x4 : AV) (S : St) : Prop :=
 bFad 2 x4 S fun v1 S1 =>
 bLd v1 S1 fun v2 S2 =>
 bFad 3 x4 S2 fun v3 S3 =>
 bLd v3 S3 fun v4 S4 =>
 bFad 2 x3 S4 fun v5 S5 =>
 bLd v5 S5 fun v6 S6 =>
 bNil x0 S6 fun v7 S7 =>
 bFad 4 v7 S7 fun v8 S8 =>
 bIadA 8 1 v8 v2 S8 fun v9 S9 =>
 bSt 1 v9 v6 S9 fun _ S10 =>
 bNil x0 S10 fun v11 S11 =>
 bFad 4 v11 S11 fun v12 S12 =>
 bIadA 8 1 v12 v4 S12 fun v13 S13 =>
 bSt 1 v13 (.i .i64 0) S13 fun _ S14 =>
 bif (bif (againX (.ld none) [v3] S3 S10) then true else false) then (bFad 3 x3 S14 fun v15 S15 =>
 bLd v15 S15 fun v16 S16 =>
 condX v16
 (bFad 3 x4 S16 fun v17 S17 =>
 bLd v17 S17 fun v18 S18 =>
 bNil x0 S18 fun v19 S19 =>
 bFad 4 v19 S19 fun v20 S20 =>
 bIadA 8 1 v20 v18 S20 fun v21 S21 =>
 bSt 1 v21 (.i .i64 1) S21 fun _ S22 =>
 k (.tup []) S22)
 (k (.tup []) S16)) else False
def Y_167_5 (C : CS) (k : KS) (x0 x3 x4 x10 : AV) (S : St) : Prop :=
 bEq x10 (.i .i64 15) S fun v1 S1 =>
 condX v1
 (bFad 1 x4 S1 fun v2 S2 =>
 bLd v2 S2 fun v3 S3 =>
 bFad 1 x3 S3 fun v4 S4 =>
 bLd v4 S4 fun v5 S5 =>
 bNil x0 S5 fun v6 S6 =>
 bFad 4 v6 S6 fun v7 S7 =>
 bIadA 8 1 v7 v3 S7 fun v8 S8 =>
 bSt 1 v8 v5 S8 fun _ S9 =>
 bLdN 6 x4 S9 fun v10 S10 =>
 bFad 1 x3 S10 fun v11 S11 =>
 bLd v11 S11 fun v12 S12 =>
 C 200 [v10, v12] S12 fun v13 S13 =>
 bNot v13 S13 fun v14 S14 =>
 condX v14
 (k (.tup []) S14)
 (Y_167_6 C k x0 x3 x4 S14))
 (bEq x10 (.i .i64 11) S1 fun v15 S15 =>
 condX v15
 (Y_167_6 C k x0 x3 x4 S15)
 (k (.tup []) S15))
def Y_167_3 (C : CS) (k : KS) (x0 x3 x4 : AV) (S : St) : Prop :=
 bFad 0 x4 S fun v1 S1 =>
 bLd v1 S1 fun v2 S2 =>
 Y_167_5 C k x0 x3 x4 v2 S2
def Y_167_2 (C : CS) (k : KS) (x0 x3 : AV) (S : St) : Prop :=
 bNil x0 S fun v1 S1 =>
 bFad 12 v1 S1 fun v2 S2 =>
 bLdN 6 v2 S2 fun v3 S3 =>
 bAlloc [.i .i64 0, .i .i64 0, .i .i64 0, .i .i64 0, .sl none 0 0 0, .b false] S3 fun v4 S4 =>
 bSt 6 v4 v3 S4 fun _ S5 =>
 Y_167_3 C k x0 x3 v4 S5
def Y_167_1 (C : CS) (k : KS) (x0 x1 : AV) (S : St) : Prop :=
 bBox x1 S fun v1 S1 =>
 Y_167_2 C k x0 v1 S1
def Z_167 (C : CS) (vs : List AV) (S : St) (k : KS) : Prop := ar2 ((fun (C : CS) (k : KS) (a0 a1 : AV) (S : St) => Y_167_1 C k a0 a1 S) C k) vs S
theorem z_167 {F : Nat → Option AFn} (h : ∀ f, Nat.beq f 4 = false → F f = tbl f) : FnOk F 167 Z_167 := fn2 ((h 167 (by kernel_rfl)).trans c167) (Y := fun (C : CS) (k : KS) (a0 a1 : AV) (S : St) => Y_167_1 C k a0 a1 S) fun C l t S k => xS (fun l t S => xS (fun l t S => xS (fun l t S => xB (xS (fun l t S => xf (Y_167_6 C k (l 0) (l 3) (l 4) S)) (xf (Y_167_5 C k (l 0) (l 3) (l 4) (l 10) S)))) (xf (Y_167_3 C k (l 0) (l 3) (l 4) S))) (xf (Y_167_2 C k (l 0) (l 3) S))) (xf (Y_167_1 C k (l 0) (l 1) S))
theorem c168 : tbl 168 = some (fnOf (tbl 168)) := by kernel_rfl
/-- tarpaulin/ring.New -/
def Y_168_1 (C : CS) (k : KS) (x0 : AV) (S : St) : Prop :=
 bLt x0 (.i .i64 0) S fun v1 S1 =>
 gdO v1 false (sMv [x0] S1) S1 fun v2 S2 =>
 gdO v1 false (bGt v2 (.i .i64 64) S2) S2 fun v3 S3 =>
 bPick v1 (.b true) v3 S3 fun v4 S4 =>
 condX v4
 (k (.tup [(.p none), (.i .i64 1)]) S4)
 (sAl (.mksl [.i .i64 0] 8) [x0, x0] S4 fun v5 S5 =>
 sBuild [.sl none 0 0 0, .i .i64 0, .i .i64 0] [(0, 1)] [v5] S5 fun v6 S6 =>
 bBox v6 S6 fun v7 S7 =>
 k (.tup [v7, (.i .i64 0)]) S7)
def Z_168 (C : CS) (vs : List AV) (S : St) (k : KS) : Prop := ar1 ((fun (C : CS) (k : KS) (a0 : AV) (S : St) => Y_168_1 C k a0 S) C k) vs S
theorem z_168 {F : Nat → Option AFn} (h : ∀ f, Nat.beq f 4 = false → F f = tbl f) : FnOk F 168 Z_168 := fn1 ((h 168 (by kernel_rfl)).trans c168) (Y := fun (C : CS) (k : KS) (a0 : AV) (S : St) => Y_168_1 C k a0 S) fun C l t S k => xf (Y_168_1 C k (l 0) S)
theorem c169 : tbl 169 = some (fnOf (tbl 169)) := by kernel_rfl
/-- tarpaulin/wait.New -/
def Y_169_1 (C : CS) (k : KS) (S : St) : Prop :=
 sBuild [.p none, .p none, .i .i64 0] [] [] S fun v1 S1 =>
 bBox v1 S1 fun v2 S2 =>
 k v2 S2
def Z_169 (C : CS) (vs : List AV) (S : St) (k : KS) : Prop := ar0 ((fun (C : CS) (k : KS) (S : St) => Y_169_1 C k S) C k) vs S
theorem z_169 {F : Nat → Option AFn} (h : ∀ f, Nat.beq f 4 = false → F f = tbl f) : FnOk F 169 Z_169 := fn0 ((h 169 (by kernel_rfl)).trans c169) (Y := fun (C : CS) (k : KS) (S : St) => Y_169_1 C k S) fun C l t S k => xf (Y_169_1 C k S)
theorem c170 : tbl 170 = some (fnOf (tbl 170)) := by kernel_rfl
/-- (*tarpaulin/chanq.Chan).Send -/
def Y_170_2 (C : CS) (k : KS) (x0 x1 : AV) (S : St) : Prop :=
 sR (.eq false .ptr) [x0, (.p none)] S fun v1 S1 =>
 condX v1
 (k (.tup [(.b false), (.sl none 0 0 0), (.i .i64 0)]) S1)
 (C 177 [x0] S1 fun v2 S2 =>
 condX v2
 (k (.tup [(.b false), (.sl none 0 0 0), (.i .i64 7)]) S2)
 (bNil x0 S2 fun v3 S3 =>
 bFad 5 v3 S3 fun v4 S4 =>
 bLd v4 S4 fun v5 S5 =>
 condX v5
 (k (.tup [(.b false), (.sl none 0 0 0), (.i .i64 5)]) S5)
 (C 111 [x0, x1] S5 fun v6 S6 =>
 bLen v6 S6 fun v7 S7 =>
 bGt v7 (.i .i64 0) S7 fun v8 S8 =>
 condX v8
 (k (.tup [(.b true), v6, (.i .i64 0)]) S8)
 (bNil x0 S8 fun v9 S9 =>
 bFad 0 v9 S9 fun v10 S10 =>
 bLd v10 S10 fun v11 S11 =>
 C 112 [v11, x1] S11 fun v12 S12 =>
 k (.tup [v12, (.sl none 0 0 0), (.i .i64 0)]) S12))))
def Y_170_1 (C : CS) (k : KS) (x0 x1 : AV) (S : St) : Prop :=
 Y_170_2 C k x0 x1 S
def Z_170 (C : CS) (vs : List AV) (S : St) (k : KS) : Prop := ar2 ((fun (C : CS) (k : KS) (a0 a1 : AV) (S : St) => Y_170_1 C k a0 a1 S) C k) vs S
theorem z_170 {F : Nat → Option AFn} (h : ∀ f, Nat.beq f 4 = false → F f = tbl f) : FnOk F 170 Z_170 := fn2 ((h 170 (by kernel_rfl)).trans c170) (Y := fun (C : CS) (k : KS) (a0 a1 : AV) (S : St) => Y_170_1 C k a0 a1 S) fun C l t S k => xS (fun l t S => xf (Y_170_2 C k (l 0) (l 1) S)) (xf (Y_170_1 C k (l 0) (l 1) S))
theorem c171 : tbl 171 = some (fnOf (tbl 171)) := by kernel_rfl
/-- (*tarpaulin/chanq.Chan).Wait -/
def Y_171_1 (C : CS) (k : KS) (x0 x1 x2 : AV) (S : St) : Prop :=
 bBox x1 S fun v1 S1 =>
 sR (.eq false .ptr) [x0, (.p none)] S1 fun v2 S2 =>
 condX v2
 (k (.i .i64 6) S2)
 (C 177 [x0] S2 fun v3 S3 =>
 gdO v3 true (sMv [x2] S3) S3 fun v4 S4 =>
 bPick v3 v4 (.b false) S4 fun v5 S5 =>
 condX v5
 (k (.i .i64 7) S5)
 (bNil x0 S5 fun v6 S6 =>
 bFad 5 v6 S6 fun v7 S7 =>
 bLd v7 S7 fun v8 S8 =>
 condX v8
 (k (.i .i64 5) S8)
 (sR (.mkfn 201 0) [v1] S8 fun v9 S9 =>
 C 202 [x0, x2] S9 fun v10 S10 =>
 gdO v10 false (sMv [x0] S10) S10 fun v11 S11 =>
 gdO v10 false (sMv [x2] S11) S11 fun v12 S12 =>
 gdO v10 false (bNot v12 S12) S12 fun v13 S13 =>
 gdO v10 false (C 11 [v11, v13] S13) S13 fun v14 S14 =>
 gdO v10 false (sMv [v9] S14) S14 fun v15 S15 =>
 gdO v10 false (C 203 [v14, v15] S15) S15 fun v16 S16 =>
 bPick v10 (.b true) v16 S16 fun v17 S17 =>
 condX v17
 (k (.i .i64 1) S17)
 (C 27 [x0, x2] S17 fun v18 S18 =>
 bLdN 3 v1 S18 fun v19 S19 =>
 C 204 [v18, v19] S19 fun v20 S20 =>
 bif (bif (againX (.ld (some 3)) [v1] S18 S17) then true else false) then (k (.i .i64 0) S20) else False))))
def Z_171 (C : CS) (vs : List AV) (S : St) (k : KS) : Prop := ar3 ((fun (C : CS) (k : KS) (a0 a1 a2 : AV) (S : St) => Y_171_1 C k a0 a1 a2 S) C k) vs S
theorem z_171 {F : Nat → Option AFn} (h : ∀ f, Nat.beq f 4 = false → F f = tbl f) : FnOk F 171 Z_171 := fn3 ((h 171 (by kernel_rfl)).trans c171) (Y := fun (C : CS) (k : KS) (a0 a1 a2 : AV) (S : St) => Y_171_1 C k a0 a1 a2 S) fun C l t S k => xf (Y_171_1 C k (l 0) (l 1) (l 2) S)
theorem c172 : tbl 172 = some (fnOf (tbl 172)) := by kernel_rfl
/-- (*tarpaulin/chanq.Chan).Recv -/
def Y_172_7 (C : CS) (k : KS) (x2 x5 : AV) (S : St) : Prop :=
 k (.tup [x2, (.b true), (.b true), x5]) S
def Y_172_6 (C : CS) (k : KS) (x0 x2 x5 x6 x7 x8 : AV) (S : St) : Prop :=
 gdO x6 true (sMv [x8] S) S fun v1 S1 =>
 bPick x6 v1 (.b false) S1 fun v2 S2 =>
 condX v2
 (bNil x0 S2 fun v3 S3 =>
 bFad 0 v3 S3 fun v4 S4 =>
 bLd v4 S4 fun v5 S5 =>
 bFad 2 x7 S5 fun v6 S6 =>
 bLd v6 S6 fun v7 S7 =>
 C 112 [v5, v7] S7 fun v8 S8 =>
 Y_172_7 C k x2 x5 S8)
 (condX x8
 (bFad 2 x7 S2 fun v9 S9 =>
 bLd v9 S9 fun v10 S10 =>
 Y_172_7 C k v10 x5 S10)
 (bNot x6 S2 fun v11 S11 =>
 condX v11
 (bNil x0 S11 fun v12 S12 =>
 bFad 5 v12 S12 fun v13 S13 =>
 bLd v13 S13 fun v14 S14 =>
 k (.tup [(.i .i64 0), (.b false), v14, (.sl none 0 0 0)]) S14)
 (Y_172_7 C k x2 x5 S11)))
def Y_172_5 (C : CS) (k : KS) (x0 x2 x5 x6 x7 x8 : AV) (S : St) : Prop :=
 condX x8
 (bFad 0 x7 S fun v1 S1 =>
 bLd v1 S1 fun v2 S2 =>
 bFad 1 x7 S2 fun v3 S3 =>
 bLd v3 S3 fun v4 S4 =>
 sBuild [.i .i64 0, .i .i64 0, .i .i64 0, .b false, .b false] [(0, 1), (1, 1), (3, 1)] [v2, v4, (.b true)] S4 fun v5 S5 =>
 sAl (.bslice [.i .i64 0, .i .i64 0, .i .i64 0, .b false, .b false] 1 5 [0]) [v5] S5 fun v6 S6 =>
 Y_172_6 C k x0 x2 v6 x6 x7 x8 S6)
 (Y_172_6 C k x0 x2 x5 x6 x7 x8 S)
def Y_172_4 (C : CS) (k : KS) (x0 x2 x5 x6 : AV) (S : St) : Prop :=
 bNil x0 S fun v1 S1 =>
 bFad 2 v1 S1 fun v2 S2 =>
 bLd v2 S2 fun v3 S3 =>
 C 160 [v3] S3 fun v4 S4 =>
 bExt 0 v4 S4 fun v5 S5 =>
 bExt 1 v4 S5 fun v6 S6 =>
 bAlloc [.i .i64 0, .i .i64 0, .i .i64 0] S6 fun v7 S7 =>
 bSt 3 v7 v5 S7 fun _ S8 =>
 Y_172_5 C k x0 x2 x5 x6 v7 v6 S8
def Y_172_3 (C : CS) (k : KS) (x0 x5 : AV) (S : St) : Prop :=
 bNil x0 S fun v1 S1 =>
 bFad 0 v1 S1 fun v2 S2 =>
 bLd v2 S2 fun v3 S3 =>
 C 205 [v3] S3 fun v4 S4 =>
 bExt 0 v4 S4 fun v5 S5 =>
 bExt 1 v4 S5 fun v6 S6 =>
 Y_172_4 C k x0 v5 x5 v6 S6
def Y_172_2 (C : CS) (k : KS) (x0 x5 : AV) (S : St) : Prop :=
 sR (.eq false .ptr) [x0, (.p none)] S fun v1 S1 =>
 condX v1
 (k (.tup [(.i .i64 0), (.b false), (.b false), (.sl none 0 0 0)]) S1)
 (Y_172_3 C k x0 x5 S1)
def Y_172_1 (C : CS) (k : KS) (x0 : AV) (S : St) : Prop :=
 Y_172_2 C k x0 (.sl none 0 0 0) S
def Z_172 (C : CS) (vs : List AV) (S : St) (k : KS) : Prop := ar1 ((fun (C : CS) (k : KS) (a0 : AV) (S : St) => Y_172_1 C k a0 S) C k) vs S
theorem z_172 {F : Nat → Option AFn} (h : ∀ f, Nat.beq f 4 = false → F f = tbl f) : FnOk F 172 Z_172 := fn1 ((h 172 (by kernel_rfl)).trans c172) (Y := fun (C : CS) (k : KS) (a0 : AV) (S : St) => Y_172_1 C k a0 S) fun C l t S k => xS (fun l t S => xS (fun l t S => xS (fun l t S => xS (fun l t S => xS (fun l t S => xS (fun l t S => xf (Y_172_7 C k (l 2) (l 5) S)) (xf (Y_172_6 C k (l 0) (l 2) (l 5) (l 6) (l 7) (l 8) S))) (xf (Y_172_5 C k (l 0) (l 2) (l 5) (l 6) (l 7) (l 8) S))) (xf (Y_172_4 C k (l 0) (l 2) (l 5) (l 6) S))) (xf (Y_172_3 C k (l 0) (l 5) S))) (xf (Y_172_2 C k (l 0) (l 5) S))) (xf (Y_172_1 C k (l 0) S))
theorem c173 : tbl 173 = some (fnOf (tbl 173)) := by kernel_rfl
/-- (*tarpaulin/chanq.Chan).Close -/
def Y_173_1 (C : CS) (k : KS) (x0 : AV) (S : St) : Prop :=
 sR (.eq false .ptr) [x0, (.p none)] S fun v1 S1 =>
 condX v1
 (k (.tup [(.sl none 0 0 0), (.i .i64 6)]) S1)
 (C 177 [x0] S1 fun v2 S2 =>
 condX v2
 (k (.tup [(.sl none 0 0 0), (.i .i64 7)]) S2)
 (bNil x0 S2 fun v3 S3 =>
 bFad 5 v3 S3 fun v4 S4 =>
 bLd v4 S4 fun v5 S5 =>
 condX v5
 (k (.tup [(.sl none 0 0 0), (.i .i64 5)]) S5)
 (C 198 [x0] S5 fun v6 S6 =>
 k (.tup [v6, (.i .i64 0)]) S6)))
def Z_173 (C : CS) (vs : List AV) (S : St) (k : KS) : Prop := ar1 ((fun (C : CS) (k : KS) (a0 : AV) (S : St) => Y_173_1 C k a0 S) C k) vs S
theorem z_173 {F : Nat → Option AFn} (h : ∀ f, Nat.beq f 4 = false → F f = tbl f) : FnOk F 173 Z_173 := fn1 ((h 173 (by kernel_rfl)).trans c173) (Y := fun (C : CS) (k : KS) (a0 : AV) (S : St) => Y_173_1 C k a0 S) fun C l t S k => xf (Y_173_1 C k (l 0) S)
theorem c174 : tbl 174 = some (fnOf (tbl 174)) := by kernel_rfl
/-- (*tarpaulin/ring.Ring).Size -/
def Y_174_1 (C : CS) (k : KS) (x0 : AV) (S : St) : Prop :=
 sR (.eq false .ptr) [x0, (.p none)] S fun v1 S1 =>
 condX v1
 (k (.i .i64 0) S1)
 (bNil x0 S1 fun v2 S2 =>
 bFad 0 v2 S2 fun v3 S3 =>
 bLd v3 S3 fun v4 S4 =>
 bLen v4 S4 fun v5 S5 =>
 k v5 S5)
def Z_174 (C : CS) (vs : List AV) (S : St) (k : KS) : Prop := ar1 ((fun (C : CS) (k : KS) (a0 : AV) (S : St) => Y_174_1 C k a0 S) C k) vs S
theorem z_174 {F : Nat → Option AFn} (h : ∀ f, Nat.beq f 4 = false → F f = tbl f) : FnOk F 174 Z_174 := fn1 ((h 174 (by kernel_rfl)).trans c174) (Y := fun (C : CS) (k : KS) (a0 : AV) (S : St) => Y_174_1 C k a0 S) fun C l t S k => xf (Y_174_1 C k (l 0) S)
theorem c175 : tbl 175 = some (fnOf (tbl 175)) := by kernel_rfl
/-- slices.IndexFunc[[]tarpaulin/choose.Case,tarpaulin/choose.Case] -/
def Y_175_3 (C : CS) (k : KS) (S : St) : Prop :=
 k (.i .i64 (-1)) S
def Y_175_7 (C : CS) (k : KS) (k1 : AV → AV → AV → AV → St → Prop) (x0 x1 x7 x8 : AV) (S : St) : Prop :=
 bLt x8 x7 S fun v1 S1 =>
 condX v1
 (bIad 3 x0 x8 S1 fun v2 S2 =>
 bLdN 3 v2 S2 fun v3 S3 =>
 sCv C [x1, v3] S3 fun v4 S4 =>
 condX v4
 (k x8 S4)
 (bAdd x8 (.i .i64 1) S4 fun v5 S5 =>
 k1 x0 x1 x7 v5 S5))
 (Y_175_3 C k S1)
def Y_175_4 (C : CS) (k : KS) (x0 x1 : AV) (S : St) : Prop :=
 bLen x0 S fun v1 S1 =>
 lp4 (Y_175_7 C k) x0 x1 v1 (.i .i64 0) S1
def Y_175_1 (C : CS) (k : KS) (x0 x1 : AV) (S : St) : Prop :=
 Y_175_4 C k x0 x1 S
def Z_175 (C : CS) (vs : List AV) (S : St) (k : KS) : Prop := ar2 ((fun (C : CS) (k : KS) (a0 a1 : AV) (S : St) => Y_175_1 C k a0 a1 S) C k) vs S
theorem z_175 {F : Nat → Option AFn} (h : ∀ f, Nat.beq f 4 = false → F f = tbl f) : FnOk F 175 Z_175 := fn2 ((h 175 (by kernel_rfl)).trans c175) (Y := fun (C : CS) (k : KS) (a0 a1 : AV) (S : St) => Y_175_1 C k a0 a1 S) fun C l t S k => xS (fun l t S => xS (fun l t S => xf (Y_175_3 C k S)) (xS (fun l t S => xB (xL4 0 1 7 8 (Y_175_7 C k) (fun l t S k1 => xf (Y_175_7 C k k1 (l 0) (l 1) (l 7) (l 8) S)) (xf (lp4 (Y_175_7 C k) (l 0) (l 1) (l 7) (l 8) S)))) (xf (Y_175_4 C k (l 0) (l 1) S)))) (xf (Y_175_1 C k (l 0) (l 1) S))
theorem c176 : tbl 176 = some (fnOf (tbl 176)) := by kernel_rfl
/-- tarpaulin/choose.Do$1 -/
def Y_176_1 (C : CS) (k : KS) (x0 : AV) (S : St) : Prop :=
 bBox x0 S fun v1 S1 =>
 bFad 1 v1 S1 fun v2 S2 =>
 bLd v2 S2 fun v3 S3 =>
 gdO v3 true (bFad 0 v1 S3) S3 fun v4 S4 =>
 gdO v3 true (bLd v4 S4) S4 fun v5 S5 =>
 gdO v3 true (C 177 [v5] S5) S5 fun v6 S6 =>
 bPick v3 v6 (.b false) S6 fun v7 S7 =>
 k v7 S7
def Z_176 (C : CS) (vs : List AV) (S : St) (k : KS) : Prop := ar1 ((fun (C : CS) (k : KS) (a0 : AV) (S : St) => Y_176_1 C k a0 S) C k) vs S
theorem z_176 {F : Nat → Option AFn} (h : ∀ f, Nat.beq f 4 = false → F f = tbl f) : FnOk F 176 Z_176 := fn1 ((h 176 (by kernel_rfl)).trans c176) (Y := fun (C : CS) (k : KS) (a0 : AV) (S : St) => Y_176_1 C k a0 S) fun C l t S k => xf (Y_176_1 C k (l 0) S)
theorem c177 : tbl 177 = some (fnOf (tbl 177)) := by kernel_rfl
/-- (*tarpaulin/chanq.Chan).Mute -/
def Y_177_1 (C : CS) (k : KS) (x0 : AV) (S : St) : Prop :=
 sR (.eq true .ptr) [x0, (.p none)] S fun v1 S1 =>
 gdO v1 true (sMv [x0] S1) S1 fun v2 S2 =>
 gdO v1 true (bNil v2 S2) S2 fun v3 S3 =>
 gdO v1 true (bFad 3 v3 S3) S3 fun v4 S4 =>
 gdO v1 true (bLd v4 S4) S4 fun v5 S5 =>
 gdO v1 true (sMv [v5] S5) S5 fun v6 S6 =>
 gdO v6 false (sMv [x0] S6) S6 fun v7 S7 =>
 gdO v6 false (bNil v7 S7) S7 fun v8 S8 =>
 gdO v6 false (bFad 4 v8 S8) S8 fun v9 S9 =>
 gdO v6 false (bLd v9 S9) S9 fun v10 S10 =>
 gdO v1 true (bPick v6 (.b true) v10 S10) S10 fun v11 S11 =>
 bPick v1 v11 (.b false) S11 fun v12 S12 =>
 k v12 S12
def Z_177 (C : CS) (vs : List AV) (S : St) (k : KS) : Prop := ar1 ((fun (C : CS) (k : KS) (a0 : AV) (S : St) => Y_177_1 C k a0 S) C k) vs S
theorem z_177 {F : Nat → Option AFn} (h : ∀ f, Nat.beq f 4 = false → F f = tbl f) : FnOk F 177 Z_177 := fn1 ((h 177 (by kernel_rfl)).trans c177) (Y := fun (C : CS) (k : KS) (a0 : AV) (S : St) => Y_177_1 C k a0 S) fun C l t S k => xf (Y_177_1 C k (l 0) S)
theorem c178 : tbl 178 = some (fnOf (tbl 178)) := by kernel_rfl
/-- tarpaulin/choose.Ready -/
def Y_178_3 (C : CS) (k : KS) (x2 : AV) (S : St) : Prop :=
 k x2 S
def Y_178_7 (C : CS) (k : KS) (k1 : AV → AV → AV → AV → St → Prop) (x2 x5 x6 x7 : AV) (S : St) : Prop :=
 bLt x7 x6 S fun v1 S1 =>
 condX v1
 (bIad 3 x5 x7 S1 fun v2 S2 =>
 bLdN 3 v2 S2 fun v3 S3 =>
 bAlloc [.p none, .b false, .i .i64 0] S3 fun v4 S4 =>
 bSt 3 v4 v3 S4 fun _ S5 =>
 bFad 0 v4 S5 fun v6 S6 =>
 bLd v6 S6 fun v7 S7 =>
 bFad 1 v4 S7 fun v8 S8 =>
 bLd v8 S8 fun v9 S9 =>
 C 206 [v7, v9] S9 fun v10 S10 =>
 condX v10
 (sAl (.bslice [.i .i64 0] 1 1 [0]) [x7] S10 fun v11 S11 =>
 bApp 1 8 x2 v11 S11 fun v12 S12 =>
 bAdd x7 (.i .i64 1) S12 fun v13 S13 =>
 k1 v12 x5 x6 v13 S13)
 (bAdd x7 (.i .i64 1) S10 fun v14 S14 =>
 k1 x2 x5 x6 v14 S14))
 (Y_178_3 C k x2 S1)
def Y_178_4 (C : CS) (k : KS) (x0 x2 : AV) (S : St) : Prop :=
 bLen x0 S fun v1 S1 =>
 lp4 (Y_178_7 C k) x2 x0 v1 (.i .i64 0) S1
def Y_178_1 (C : CS) (k : KS) (x0 : AV) (S : St) : Prop :=
 Y_178_4 C k x0 (.sl none 0 0 0) S
def Z_178 (C : CS) (vs : List AV) (S : St) (k : KS) : Prop := ar1 ((fun (C : CS) (k : KS) (a0 : AV) (S : St) => Y_178_1 C k a0 S) C k) vs S
theorem z_178 {F : Nat → Option AFn} (h : ∀ f, Nat.beq f 4 = false → F f = tbl f) : FnOk F 178 Z_178 := fn1 ((h 178 (by kernel_rfl)).trans c178) (Y := fun (C : CS) (k : KS) (a0 : AV) (S : St) => Y_178_1 C k a0 S) fun C l t S k => xS (fun l t S => xS (fun l t S => xf (Y_178_3 C k (l 2) S)) (xS (fun l t S => xB (xL4 2 5 6 7 (Y_178_7 C k) (fun l t S k1 => xf (Y_178_7 C k k1 (l 2) (l 5) (l 6) (l 7) S)) (xf (lp4 (Y_178_7 C k) (l 2) (l 5) (l 6) (l 7) S)))) (xf (Y_178_4 C k (l 0) (l 2) S)))) (xf (Y_178_1 C k (l 0) S))
theorem c179 : tbl 179 = some (fnOf (tbl 179)) := by kernel_rfl
/-- tarpaulin/choose.one -/
def Y_179_4 (C : CS) (k : KS) (x2 x4 : AV) (S : St) : Prop :=
 bFad 0 x2 S fun v1 S1 =>
 bLd v1 S1 fun v2 S2 =>
 bFad 2 x2 S2 fun v3 S3 =>
 bLd v3 S3 fun v4 S4 =>
 C 170 [v2, v4] S4 fun v5 S5 =>
 bExt 0 v5 S5 fun v6 S6 =>
 bExt 1 v5 S6 fun v7 S7 =>
 bExt 2 v5 S7 fun v8 S8 =>
 bEq v8 (.i .i64 0) S8 fun v9 S9 =>
 bEq v8 (.i .i64 5) S9 fun v10 S10 =>
 bFad 2 x4 S10 fun v11 S11 =>
 bSt 1 v11 v9 S11 fun _ S12 =>
 bFad 3 x4 S12 fun v13 S13 =>
 bSt 1 v13 v10 S13 fun _ S14 =>
 bLdN 6 x4 S14 fun v15 S15 =>
 bSt 6 x4 v15 S15 fun _ S16 =>
 finV (resVX Env.nil Env.nil S16.h [.cell (.c x4) (some 6), .tmp (.c v7)]) S16 k
def Y_179_3 (C : CS) (k : KS) (x2 x4 : AV) (S : St) : Prop :=
 bFad 1 x2 S fun v1 S1 =>
 bLd v1 S1 fun v2 S2 =>
 bNot v2 S2 fun v3 S3 =>
 condX v3
 (bFad 0 x2 S3 fun v4 S4 =>
 bLd v4 S4 fun v5 S5 =>
 C 172 [v5] S5 fun v6 S6 =>
 bExt 0 v6 S6 fun v7 S7 =>
 bExt 1 v6 S7 fun v8 S8 =>
 bExt 2 v6 S8 fun v9 S9 =>
 bExt 3 v6 S9 fun v10 S10 =>
 bFad 1 x4 S10 fun v11 S11 =>
 bSt 1 v11 v7 S11 fun _ S12 =>
 bFad 2 x4 S12 fun v13 S13 =>
 bSt 1 v13 v8 S13 fun _ S14 =>
 bLdN 6 x4 S14 fun v15 S15 =>
 bSt 6 x4 v15 S15 fun _ S16 =>
 finV (resVX Env.nil Env.nil S16.h [.cell (.c x4) (some 6), .tmp (.c v10)]) S16 k)
 (Y_179_4 C k x2 x4 S3)
def Y_179_2 (C : CS) (k : KS) (x1 x2 x4 : AV) (S : St) : Prop :=
 bFad 0 x4 S fun v1 S1 =>
 bSt 1 v1 x1 S1 fun _ S2 =>
 Y_179_3 C k x2 x4 S2
def Y_179_1 (C : CS) (k : KS) (x0 x1 : AV) (S : St) : Prop :=
 bBox x0 S fun v1 S1 =>
 bAlloc [.i .i64 0, .i .i64 0, .b false, .b false, .b false, .b false] S1 fun v2 S2 =>
 Y_179_2 C k x1 v1 v2 S2
def Z_179 (C : CS) (vs : List AV) (S : St) (k : KS) : Prop := ar2 ((fun (C : CS) (k : KS) (a0 a1 : AV) (S : St) => Y_179_1 C k a0 a1 S) C k) vs S
theorem z_179 {F : Nat → Option AFn} (h : ∀ f, Nat.beq f 4 = false → F f = tbl f) : FnOk F 179 Z_179 := fn2 ((h 179 (by kernel_rfl)).trans c179) (Y := fun (C : CS) (k : KS) (a0 a1 : AV) (S : St) => Y_179_1 C k a0 a1 S) fun C l t S k => xS (fun l t S => xS (fun l t S => xS (fun l t S => xf (Y_179_4 C k (l 2) (l 4) S)) (xf (Y_179_3 C k (l 2) (l 4) S))) (xf (Y_179_2 C k (l 1) (l 2) (l 4) S))) (xf (Y_179_1 C k (l 0) (l 1) S))
theorem c180 : tbl 180 = some (fnOf (tbl 180)) := by kernel_rfl
/-- (*tarpaulin/timer.Set).channel -/
def Y_180_1 (C : CS) (k : KS) (x0 x1 x2 x3 : AV) (S : St) : Prop :=
 C 207 [] S fun v1 S1 =>
 sBuild [.i .i64 0, .i .i64 0, .p none, .i .i64 0] [(0, 1), (2, 1)] [x1, v1] S1 fun v2 S2 =>
 C 181 [x0, v2, x2, x3] S2 fun v3 S3 =>
 bExt 0 v3 S3 fun v4 S4 =>
 bExt 1 v3 S4 fun v5 S5 =>
 bNe v5 (.i .i64 0) S5 fun v6 S6 =>
 condX v6
 (k (.tup [(.i .i64 0), (.p none), v5]) S6)
 (k (.tup [v4, v1, (.i .i64 0)]) S6)
def Z_180 (C : CS) (vs : List AV) (S : St) (k : KS) : Prop := ar4 ((fun (C : CS) (k : KS) (a0 a1 a2 a3 : AV) (S : St) => Y_180_1 C k a0 a1 a2 a3 S) C k) vs S
theorem z_180 {F : Nat → Option AFn} (h : ∀ f, Nat.beq f 4 = false → F f = tbl f) : FnOk F 180 Z_180 := fn4 ((h 180 (by kernel_rfl)).trans c180) (Y := fun (C : CS) (k : KS) (a0 a1 a2 a3 : AV) (S : St) => Y_180_1 C k a0 a1 a2 a3 S) fun C l t S k => xf (Y_180_1 C k (l 0) (l 1) (l 2) (l 3) S)
theorem c181 : tbl 181 = some (fnOf (tbl 181)) := by kernel_rfl
/-- (*tarpaulin/timer.Set).make -/
def Y_181_4 (C : CS) (k : KS) (x0 x2 x3 x5 : AV) (S : St) : Prop :=
 bNil x0 S fun v1 S1 =>
 bFad 0 v1 S1 fun v2 S2 =>
 bLd v2 S2 fun v3 S3 =>
 bLdN 4 x5 S3 fun v4 S4 =>
 sAl (.bslice [.i .i64 0, .i .i64 0, .p none, .i .i64 0] 1 4 [0]) [v4] S4 fun v5 S5 =>
 bApp 4 32 v3 v5 S5 fun v6 S6 =>
 bNil x0 S6 fun v7 S7 =>
 bFad 0 v7 S7 fun v8 S8 =>
 bSt 1 v8 v6 S8 fun _ S9 =>
 bNil x0 S9 fun v10 S10 =>
 bFad 0 v10 S10 fun v11 S11 =>
 bLd v11 S11 fun v12 S12 =>
 bLen v12 S12 fun v13 S13 =>
 bSub v13 (.i .i64 1) S13 fun v14 S14 =>
 C 184 [x0, v14, x2, x3] S14 fun v15 S15 =>
 bNil x0 S15 fun v16 S16 =>
 bFad 0 v16 S16 fun v17 S17 =>
 bLd v17 S17 fun v18 S18 =>
 bLen v18 S18 fun v19 S19 =>
 bSub v19 (.i .i64 1) S19 fun v20 S20 =>
 k (.tup [v20, (.i .i64 0)]) S20
def Y_181_3 (C : CS) (k : KS) (x0 x2 x3 x5 : AV) (S : St) : Prop :=
 bFad 0 x5 S fun v1 S1 =>
 bLd v1 S1 fun v2 S2 =>
 bNe v2 (.i .i64 4) S2 fun v3 S3 =>
 condX v3
 (bNil x0 S3 fun v4 S4 =>
 bFad 2 v4 S4 fun v5 S5 =>
 bLd v5 S5 fun v6 S6 =>
 bAdd v6 (.i .i64 1) S6 fun v7 S7 =>
 bNil x0 S7 fun v8 S8 =>
 bFad 2 v8 S8 fun v9 S9 =>
 bSt 1 v9 v7 S9 fun _ S10 =>
 Y_181_4 C k x0 x2 x3 x5 S10)
 (Y_181_4 C k x0 x2 x3 x5 S3)
def Y_181_2 (C : CS) (k : KS) (x0 x2 x3 x5 : AV) (S : St) : Prop :=
 C 183 [x2] S fun v1 S1 =>
 gdO v1 false (bFad 1 x5 S1) S1 fun v2 S2 =>
 gdO v1 false (bLd v2 S2) S2 fun v3 S3 =>
 gdO v1 false (bLt v3 (.i .i64 0) S3) S3 fun v4 S4 =>
 bPick v1 (.b true) v4 S4 fun v5 S5 =>
 gdO v5 false (bFad 0 x5 S5) S5 fun v6 S6 =>
 gdO v5 false (bLd v6 S6) S6 fun v7 S7 =>
 gdO v5 false (bEq v7 (.i .i64 2) S7) S7 fun v8 S8 =>
 gdO v5 false (sMv [v8] S8) S8 fun v9 S9 =>
 gdO v9 true (sMv [x3] S9) S9 fun v10 S10 =>
 gdO v9 true (bLt v10 (.i .i64 1) S10) S10 fun v11 S11 =>
 gdO v5 false (bPick v9 v11 (.b false) S11) S11 fun v12 S12 =>
 bPick v5 (.b true) v12 S12 fun v13 S13 =>
 condX v13
 (k (.tup [(.i .i64 0), (.i .i64 1)]) S13)
 (sR (.eq false .ptr) [x0, (.p none)] S13 fun v14 S14 =>
 condX v14
 (condX v14
 (k (.tup [(.i .i64 0), (.i .i64 3)]) S14)
 (Y_181_3 C k x0 x2 x3 x5 S14))
 (bFad 0 x5 S14 fun v15 S15 =>
 bLd v15 S15 fun v16 S16 =>
 bNe v16 (.i .i64 4) S16 fun v17 S17 =>
 gdO v17 true (sMv [x0] S17) S17 fun v18 S18 =>
 gdO v17 true (bNil v18 S18) S18 fun v19 S19 =>
 gdO v17 true (bFad 2 v19 S19) S19 fun v20 S20 =>
 gdO v17 true (bLd v20 S20) S20 fun v21 S21 =>
 gdO v17 true (bGe v21 (.i .i64 64) S21) S21 fun v22 S22 =>
 bPick v17 v22 (.b false) S22 fun v23 S23 =>
 condX v23
 (k (.tup [(.i .i64 0), (.i .i64 3)]) S23)
 (Y_181_3 C k x0 x2 x3 x5 S23)))
def Y_181_1 (C : CS) (k : KS) (x0 x1 x2 x3 : AV) (S : St) : Prop :=
 bBox x1 S fun v1 S1 =>
 Y_181_2 C k x0 x2 x3 v1 S1
def Z_181 (C : CS) (vs : List AV) (S : St) (k : KS) : Prop := ar4 ((fun (C : CS) (k : KS) (a0 a1 a2 a3 : AV) (S : St) => Y_181_1 C k a0 a1 a2 a3 S) C k) vs S
theorem z_181 {F : Nat → Option AFn} (h : ∀ f, Nat.beq f 4 = false → F f = tbl f) : FnOk F 181 Z_181 := fn4 ((h 181 (by kernel_rfl)).trans c181) (Y := fun (C : CS) (k : KS) (a0 a1 a2 a3 : AV) (S : St) => Y_181_1 C k a0 a1 a2 a3 S) fun C l t S k => xS (fun l t S => xS (fun l t S => xS (fun l t S => xf (Y_181_4 C k (l 0) (l 2) (l 3) (l 5) S)) (xf (Y_181_3 C k (l 0) (l 2) (l 3) (l 5) S))) (xf (Y_181_2 C k (l 0) (l 2) (l 3) (l 5) S))) (xf (Y_181_1 C k (l 0) (l 1) (l 2) (l 3) S))
theorem c182 : tbl 182 = some (fnOf (tbl 182)) := by kernel_rfl
/-- (*tarpaulin/chanq.Chan).Drop -/
def Y_182_1 (C : CS) (k : KS) (x0 : AV) (S : St) : Prop :=
 sR (.eq true .ptr) [x0, (.p none)] S fun v1 S1 =>
 gdO v1 true (sMv [x0] S1) S1 fun v2 S2 =>
 gdO v1 true (bNil v2 S2) S2 fun v3 S3 =>
 gdO v1 true (bFad 3 v3 S3) S3 fun v4 S4 =>
 gdO v1 true (bLd v4 S4) S4 fun v5 S5 =>
 bPick v1 v5 (.b false) S5 fun v6 S6 =>
 gdO v6 true (sMv [x0] S6) S6 fun v7 S7 =>
 gdO v6 true (bNil v7 S7) S7 fun v8 S8 =>
 gdO v6 true (bFad 0 v8 S8) S8 fun v9 S9 =>
 gdO v6 true (bLd v9 S9) S9 fun v10 S10 =>
 gdO v6 true (C 208 [v10] S10) S10 fun v11 S11 =>
 gdO v6 true (bGt v11 (.i .i64 0) S11) S11 fun v12 S12 =>
 bPick v6 v12 (.b false) S12 fun v13 S13 =>
 k v13 S13
def Z_182 (C : CS) (vs : List AV) (S : St) (k : KS) : Prop := ar1 ((fun (C : CS) (k : KS) (a0 : AV) (S : St) => Y_182_1 C k a0 S) C k) vs S
theorem z_182 {F : Nat → Option AFn} (h : ∀ f, Nat.beq f 4 = false → F f = tbl f) : FnOk F 182 Z_182 := fn1 ((h 182 (by kernel_rfl)).trans c182) (Y := fun (C : CS) (k : KS) (a0 : AV) (S : St) => Y_182_1 C k a0 S) fun C l t S k => xf (Y_182_1 C k (l 0) S)
theorem c183 : tbl 183 = some (fnOf (tbl 183)) := by kernel_rfl
/-- tarpaulin/timer.bad -/
def Y_183_1 (C : CS) (k : KS) (x0 : AV) (S : St) : Prop :=
 bLt x0 (.i .i64 0) S fun v1 S1 =>
 gdO v1 false (sMv [x0] S1) S1 fun v2 S2 =>
 gdO v1 false (bGt v2 (.i .i64 4611686018427387904) S2) S2 fun v3 S3 =>
 bPick v1 (.b true) v3 S3 fun v4 S4 =>
 k v4 S4
def Z_183 (C : CS) (vs : List AV) (S : St) (k : KS) : Prop := ar1 ((fun (C : CS) (k : KS) (a0 : AV) (S : St) => Y_183_1 C k a0 S) C k) vs S
theorem z_183 {F : Nat → Option AFn} (h : ∀ f, Nat.beq f 4 = false → F f = tbl f) : FnOk F 183 Z_183 := fn1 ((h 183 (by kernel_rfl)).trans c183) (Y := fun (C : CS) (k : KS) (a0 : AV) (S : St) => Y_183_1 C k a0 S) fun C l t S k => xf (Y_183_1 C k (l 0) S)
theorem c184 : tbl 184 = some (fnOf (tbl 184)) := by kernel_rfl
/-- (*tarpaulin/timer.Set).arm -/
def Y_184_3 (C : CS) (k : KS) (x0 x1 x2 x3 x8 : AV) (S : St) : Prop :=
 bNil x0 S fun v1 S1 =>
 bFad 1 v1 S1 fun v2 S2 =>
 bLd v2 S2 fun v3 S3 =>
 sR .max [x3, (.i .i64 0)] S3 fun v4 S4 =>
 C 67 [x2, v4] S4 fun v5 S5 =>
 C 110 [v3, x1, v5, x8] S5 fun v6 S6 =>
 bif (bif (againX (.ld none) [v2] S2 S5) then true else false) then (bNil x0 S6 fun v7 S7 =>
 bFad 0 v7 S7 fun v8 S8 =>
 bLd v8 S8 fun v9 S9 =>
 bIad 4 v9 x1 S9 fun v10 S10 =>
 bFad 3 v10 S10 fun v11 S11 =>
 bLd v11 S11 fun v12 S12 =>
 bAdd v12 (.i .i64 1) S12 fun v13 S13 =>
 bIad 4 v9 x1 S13 fun v14 S14 =>
 bFad 3 v14 S14 fun v15 S15 =>
 bSt 1 v15 v13 S15 fun _ S16 =>
 k (.tup []) S16) else False
def Y_184_2 (C : CS) (k : KS) (x0 x1 x2 x3 x8 : AV) (S : St) : Prop :=
 bNil x0 S fun v1 S1 =>
 bFad 0 v1 S1 fun v2 S2 =>
 bLd v2 S2 fun v3 S3 =>
 bIad 4 v3 x1 S3 fun v4 S4 =>
 bFad 0 v4 S4 fun v5 S5 =>
 bLd v5 S5 fun v6 S6 =>
 bEq v6 (.i .i64 2) S6 fun v7 S7 =>
 condX v7
 (sR .min [x3, (.i .i64 4611686018427387904)] S7 fun v8 S8 =>
 Y_184_3 C k x0 x1 x2 x3 v8 S8)
 (Y_184_3 C k x0 x1 x2 x3 x8 S7)
def Y_184_1 (C : CS) (k : KS) (x0 x1 x2 x3 : AV) (S : St) : Prop :=
 Y_184_2 C k x0 x1 x2 x3 (.i .i64 0) S
def Z_184 (C : CS) (vs : List AV) (S : St) (k : KS) : Prop := ar4 ((fun (C : CS) (k : KS) (a0 a1 a2 a3 : AV) (S : St) => Y_184_1 C k a0 a1 a2 a3 S) C k) vs S
theorem z_184 {F : Nat → Option AFn} (h : ∀ f, Nat.beq f 4 = false → F f = tbl f) : FnOk F 184 Z_184 := fn4 ((h 184 (by kernel_rfl)).trans c184) (Y := fun (C : CS) (k : KS) (a0 a1 a2 a3 : AV) (S : St) => Y_184_1 C k a0 a1 a2 a3 S) fun C l t S k => xS (fun l t S => xS (fun l t S => xf (Y_184_3 C k (l 0) (l 1) (l 2) (l 3) (l 8) S)) (xf (Y_184_2 C k (l 0) (l 1) (l 2) (l 3) (l 8) S))) (xf (Y_184_1 C k (l 0) (l 1) (l 2) (l 3) S))
theorem c185 : tbl 185 = some (fnOf (tbl 185)) := by kernel_rfl
/-- (*tarpaulin/ctx.Set).room -/
def Y_185_1 (C : CS) (k : KS) (x0 x1 : AV) (S : St) : Prop :=
 C 113 [x0, x1] S fun v1 S1 =>
 bNot v1 S1 fun v2 S2 =>
 condX v2
 (k (.i .i64 4) S2)
 (bNil x0 S2 fun v3 S3 =>
 bFad 2 v3 S3 fun v4 S4 =>
 bLd v4 S4 fun v5 S5 =>
 bLen v5 S5 fun v6 S6 =>
 bGe v6 (.i .i64 64) S6 fun v7 S7 =>
 condX v7
 (k (.i .i64 3) S7)
 (k (.i .i64 0) S7))
def Z_185 (C : CS) (vs : List AV) (S : St) (k : KS) : Prop := ar2 ((fun (C : CS) (k : KS) (a0 a1 : AV) (S : St) => Y_185_1 C k a0 a1 S) C k) vs S
theorem z_185 {F : Nat → Option AFn} (h : ∀ f, Nat.beq f 4 = false → F f = tbl f) : FnOk F 185 Z_185 := fn2 ((h 185 (by kernel_rfl)).trans c185) (Y := fun (C : CS) (k : KS) (a0 a1 : AV) (S : St) => Y_185_1 C k a0 a1 S) fun C l t S k => xf (Y_185_1 C k (l 0) (l 1) S)
theorem c186 : tbl 186 = some (fnOf (tbl 186)) := by kernel_rfl
/-- tarpaulin/chanq.Signal -/
def Y_186_1 (C : CS) (k : KS) (S : St) : Prop :=
 C 125 [(.i .i64 0)] S fun v1 S1 =>
 bExt 0 v1 S1 fun v2 S2 =>
 bExt 1 v1 S2 fun v3 S3 =>
 bNil v2 S3 fun v4 S4 =>
 bFad 4 v4 S4 fun v5 S5 =>
 bSt 1 v5 (.b true) S5 fun _ S6 =>
 k v2 S6
def Z_186 (C : CS) (vs : List AV) (S : St) (k : KS) : Prop := ar0 ((fun (C : CS) (k : KS) (S : St) => Y_186_1 C k S) C k) vs S
theorem z_186 {F : Nat → Option AFn} (h : ∀ f, Nat.beq f 4 = false → F f = tbl f) : FnOk F 186 Z_186 := fn0 ((h 186 (by kernel_rfl)).trans c186) (Y := fun (C : CS) (k : KS) (S : St) => Y_186_1 C k S) fun C l t S k => xf (Y_186_1 C k S)
theorem c187 : tbl 187 = some (fnOf (tbl 187)) := by kernel_rfl
/-- (*tarpaulin/ctx.Set).begin -/
def Y_187_1 (C : CS) (k : KS) (x0 x1 x2 : AV) (S : St) : Prop :=
 bNil x0 S fun v1 S1 =>
 bFad 2 v1 S1 fun v2 S2 =>
 bLd v2 S2 fun v3 S3 =>
 bIad 9 v3 x2 S3 fun v4 S4 =>
 bLdN 9 v4 S4 fun v5 S5 =>
 bAlloc [.i .i64 0, .b false, .p none, .i .i64 0, .i .i64 0, .i .i64 0, .b false, .b false, .i .i64 0] S5 fun v6 S6 =>
 bSt 9 v6 v5 S6 fun _ S7 =>
 bFad 3 v6 S7 fun v8 S8 =>
 bLd v8 S8 fun v9 S9 =>
 bEq v9 (.i .i64 0) S9 fun v10 S10 =>
 condX v10
 (k (.sl none 0 0 0) S10)
 (bFad 3 v6 S10 fun v11 S11 =>
 bLd v11 S11 fun v12 S12 =>
 bFad 4 v6 S12 fun v13 S13 =>
 bLd v13 S13 fun v14 S14 =>
 C 114 [x0, x1, v12, v14] S14 fun v15 S15 =>
 bExt 0 v15 S15 fun v16 S16 =>
 bExt 1 v15 S16 fun v17 S17 =>
 k v16 S17)
def Z_187 (C : CS) (vs : List AV) (S : St) (k : KS) : Prop := ar3 ((fun (C : CS) (k : KS) (a0 a1 a2 : AV) (S : St) => Y_187_1 C k a0 a1 a2 S) C k) vs S
theorem z_187 {F : Nat → Option AFn} (h : ∀ f, Nat.beq f 4 = false → F f = tbl f) : FnOk F 187 Z_187 := fn3 ((h 187 (by kernel_rfl)).trans c187) (Y := fun (C : CS) (k : KS) (a0 a1 a2 : AV) (S : St) => Y_187_1 C k a0 a1 a2 S) fun C l t S k => xf (Y_187_1 C k (l 0) (l 1) (l 2) S)
theorem c188 : tbl 188 = some (fnOf (tbl 188)) := by kernel_rfl
/-- (*tarpaulin/timer.Set).Lapse -/
def Y_188_1 (C : CS) (k : KS) (x0 x1 x2 : AV) (S : St) : Prop :=
 sBuild [.i .i64 0, .i .i64 0, .p none, .i .i64 0] [(0, 1), (1, 1)] [(.i .i64 4), x2] S fun v1 S1 =>
 C 181 [x0, v1, (.i .i64 0), x1] S1 fun v2 S2 =>
 bExt 0 v2 S2 fun v3 S3 =>
 bExt 1 v2 S3 fun v4 S4 =>
 k (.tup [v3, v4]) S4
def Z_188 (C : CS) (vs : List AV) (S : St) (k : KS) : Prop := ar3 ((fun (C : CS) (k : KS) (a0 a1 a2 : AV) (S : St) => Y_188_1 C k a0 a1 a2 S) C k) vs S
theorem z_188 {F : Nat → Option AFn} (h : ∀ f, Nat.beq f 4 = false → F f = tbl f) : FnOk F 188 Z_188 := fn3 ((h 188 (by kernel_rfl)).trans c188) (Y := fun (C : CS) (k : KS) (a0 a1 a2 : AV) (S : St) => Y_188_1 C k a0 a1 a2 S) fun C l t S k => xf (Y_188_1 C k (l 0) (l 1) (l 2) S)
theorem c189 : tbl 189 = some (fnOf (tbl 189)) := by kernel_rfl
/-- slices.IndexFunc[[]tarpaulin/api.Case,tarpaulin/api.Case] -/
def Y_189_3 (C : CS) (k : KS) (S : St) : Prop :=
 k (.i .i64 (-1)) S
def Y_189_7 (C : CS) (k : KS) (k1 : AV → AV → AV → AV → St → Prop) (x0 x1 x7 x8 : AV) (S : St) : Prop :=
 bLt x8 x7 S fun v1 S1 =>
 condX v1
 (bIad 3 x0 x8 S1 fun v2 S2 =>
 bLdN 3 v2 S2 fun v3 S3 =>
 sCv C [x1, v3] S3 fun v4 S4 =>
 condX v4
 (k x8 S4)
 (bAdd x8 (.i .i64 1) S4 fun v5 S5 =>
 k1 x0 x1 x7 v5 S5))
 (Y_189_3 C k S1)
def Y_189_4 (C : CS) (k : KS) (x0 x1 : AV) (S : St) : Prop :=
 bLen x0 S fun v1 S1 =>
 lp4 (Y_189_7 C k) x0 x1 v1 (.i .i64 0) S1
def Y_189_1 (C : CS) (k : KS) (x0 x1 : AV) (S : St) : Prop :=
 Y_189_4 C k x0 x1 S
def Z_189 (C : CS) (vs : List AV) (S : St) (k : KS) : Prop := ar2 ((fun (C : CS) (k : KS) (a0 a1 : AV) (S : St) => Y_189_1 C k a0 a1 S) C k) vs S
theorem z_189 {F : Nat → Option AFn} (h : ∀ f, Nat.beq f 4 = false → F f = tbl f) : FnOk F 189 Z_189 := fn2 ((h 189 (by kernel_rfl)).trans c189) (Y := fun (C : CS) (k : KS) (a0 a1 : AV) (S : St) => Y_189_1 C k a0 a1 S) fun C l t S k => xS (fun l t S => xS (fun l t S => xf (Y_189_3 C k S)) (xS (fun l t S => xB (xL4 0 1 7 8 (Y_189_7 C k) (fun l t S k1 => xf (Y_189_7 C k k1 (l 0) (l 1) (l 7) (l 8) S)) (xf (lp4 (Y_189_7 C k) (l 0) (l 1) (l 7) (l 8) S)))) (xf (Y_189_4 C k (l 0) (l 1) S)))) (xf (Y_189_1 C k (l 0) (l 1) S))
theorem c190 : tbl 190 = some (fnOf (tbl 190)) := by kernel_rfl
/-- (*tarpaulin/tree.Tree).Len -/
def Y_190_1 (C : CS) (k : KS) (x0 : AV) (S : St) : Prop :=
 sR (.eq false .ptr) [x0, (.p none)] S fun v1 S1 =>
 condX v1
 (k (.i .i64 0) S1)
 (bNil x0 S1 fun v2 S2 =>
 bFad 0 v2 S2 fun v3 S3 =>
 bLd v3 S3 fun v4 S4 =>
 bLen v4 S4 fun v5 S5 =>
 k v5 S5)
def Z_190 (C : CS) (vs : List AV) (S : St) (k : KS) : Prop := ar1 ((fun (C : CS) (k : KS) (a0 : AV) (S : St) => Y_190_1 C k a0 S) C k) vs S
theorem z_190 {F : Nat → Option AFn} (h : ∀ f, Nat.beq f 4 = false → F f = tbl f) : FnOk F 190 Z_190 := fn1 ((h 190 (by kernel_rfl)).trans c190) (Y := fun (C : CS) (k : KS) (a0 : AV) (S : St) => Y_190_1 C k a0 S) fun C l t S k => xf (Y_190_1 C k (l 0) S)
theorem c191 : tbl 191 = some (fnOf (tbl 191)) := by kernel_rfl
/-- (*tarpaulin/heap.Heap).Len -/
def Y_191_1 (C : CS) (k : KS) (x0 : AV) (S : St) : Prop :=
 sR (.eq false .ptr) [x0, (.p none)] S fun v1 S1 =>
 condX v1
 (k (.i .i64 0) S1)
 (bNil x0 S1 fun v2 S2 =>
 bFad 0 v2 S2 fun v3 S3 =>
 bLd v3 S3 fun v4 S4 =>
 bLen v4 S4 fun v5 S5 =>
 k v5 S5)
def Z_191 (C : CS) (vs : List AV) (S : St) (k : KS) : Prop := ar1 ((fun (C : CS) (k : KS) (a0 : AV) (S : St) => Y_191_1 C k a0 S) C k) vs S
theorem z_191 {F : Nat → Option AFn} (h : ∀ f, Nat.beq f 4 = false → F f = tbl f) : FnOk F 191 Z_191 := fn1 ((h 191 (by kernel_rfl)).trans c191) (Y := fun (C : CS) (k : KS) (a0 : AV) (S : St) => Y_191_1 C k a0 S) fun C l t S k => xf (Y_191_1 C k (l 0) S)
theorem c192 : tbl 192 = some (fnOf (tbl 192)) := by kernel_rfl
/-- (*tarpaulin/heap.Heap).Find -/
def Y_192_1 (C : CS) (k : KS) (x0 x1 : AV) (S : St) : Prop :=
 bAlloc [.i .i64 0, .i .i64 0, .i .i64 0] S fun v1 S1 =>
 sR (.eq false .ptr) [x0, (.p none)] S1 fun v2 S2 =>
 condX v2
 (sBuild [.i .i64 0, .i .i64 0, .i .i64 0] [] [] S2 fun v3 S3 =>
 bSt 3 v1 v3 S3 fun _ S4 =>
 finV (resVX Env.nil Env.nil S4.h [.cell (.c v1) (some 3), .tmp (.c (.b false))]) S4 k)
 (bNil x0 S2 fun v5 S5 =>
 bFad 1 v5 S5 fun v6 S6 =>
 bLd v6 S6 fun v7 S7 =>
 sR (.lkup (.i .i64 0) true) [v7, x1] S7 fun v8 S8 =>
 bExt 0 v8 S8 fun v9 S9 =>
 bExt 1 v8 S9 fun v10 S10 =>
 bNot v10 S10 fun v11 S11 =>
 condX v11
 (sBuild [.i .i64 0, .i .i64 0, .i .i64 0] [] [] S11 fun v12 S12 =>
 bSt 3 v1 v12 S12 fun _ S13 =>
 finV (resVX Env.nil Env.nil S13.h [.cell (.c v1) (some 3), .tmp (.c (.b false))]) S13 k)
 (bNil x0 S11 fun v14 S14 =>
 bFad 0 v14 S14 fun v15 S15 =>
 bLd v15 S15 fun v16 S16 =>
 bIad 3 v16 v9 S16 fun v17 S17 =>
 bLdN 3 v17 S17 fun v18 S18 =>
 bSt 3 v1 v18 S18 fun _ S19 =>
 finV (resVX Env.nil Env.nil S19.h [.cell (.c v1) (some 3), .tmp (.c (.b true))]) S19 k))
def Z_192 (C : CS) (vs : List AV) (S : St) (k : KS) : Prop := ar2 ((fun (C : CS) (k : KS) (a0 a1 : AV) (S : St) => Y_192_1 C k a0 a1 S) C k) vs S
theorem z_192 {F : Nat → Option AFn} (h : ∀ f, Nat.beq f 4 = false → F f = tbl f) : FnOk F 192 Z_192 := fn2 ((h 192 (by kernel_rfl)).trans c192) (Y := fun (C : CS) (k : KS) (a0 a1 : AV) (S : St) => Y_192_1 C k a0 a1 S) fun C l t S k => xf (Y_192_1 C k (l 0) (l 1) S)
theorem c193 : tbl 193 = some (fnOf (tbl 193)) := by kernel_rfl
/-- (*tarpaulin/heap.Heap).put -/
def Y_193_1 (C : CS) (k : KS) (x0 x1 x2 : AV) (S : St) : Prop :=
 bBox x2 S fun v1 S1 =>
 bNil x0 S1 fun v2 S2 =>
 bFad 0 v2 S2 fun v3 S3 =>
 bLd v3 S3 fun v4 S4 =>
 bLdN 3 v1 S4 fun v5 S5 =>
 bIad 3 v4 x1 S5 fun v6 S6 =>
 bSt 3 v6 v5 S6 fun _ S7 =>
 bNil x0 S7 fun v8 S8 =>
 bFad 1 v8 S8 fun v9 S9 =>
 bLd v9 S9 fun v10 S10 =>
 bFad 0 v1 S10 fun v11 S11 =>
 bLd v11 S11 fun v12 S12 =>
 sE .mset [v10, v12, x1] S12 fun _ S13 =>
 k (.tup []) S13
def Z_193 (C : CS) (vs : List AV) (S : St) (k : KS) : Prop := ar3 ((fun (C : CS) (k : KS) (a0 a1 a2 : AV) (S : St) => Y_193_1 C k a0 a1 a2 S) C k) vs S
theorem z_193 {F : Nat → Option AFn} (h : ∀ f, Nat.beq f 4 = false → F f = tbl f) : FnOk F 193 Z_193 := fn3 ((h 193 (by kernel_rfl)).trans c193) (Y := fun (C : CS) (k : KS) (a0 a1 a2 : AV) (S : St) => Y_193_1 C k a0 a1 a2 S) fun C l t S k => xf (Y_193_1 C k (l 0) (l 1) (l 2) S)
theorem c194 : tbl 194 = some (fnOf (tbl 194)) := by kernel_rfl
/-- (*tarpaulin/heap.Heap).up -/
def Y_194_3 (C : CS) (k : KS) (x0 x1 x4 : AV) (S : St) : Prop :=
 bLdN 3 x4 S fun v1 S1 =>
 C 193 [x0, x1, v1] S1 fun v2 S2 =>
 k (.tup []) S2
def Y_194_6 (C : CS) (k : KS) (k1 : AV → AV → AV → St → Prop) (x0 x1 x4 : AV) (S : St) : Prop :=
 bGt x1 (.i .i64 0) S fun v1 S1 =>
 gdO v1 true (bLdN 3 x4 S1) S1 fun v2 S2 =>
 gdO v1 true (sMv [x0] S2) S2 fun v3 S3 =>
 gdO v1 true (bNil v3 S3) S3 fun v4 S4 =>
 gdO v1 true (bFad 0 v4 S4) S4 fun v5 S5 =>
 gdO v1 true (bLd v5 S5) S5 fun v6 S6 =>
 gdO v1 true (sMv [x1] S6) S6 fun v7 S7 =>
 gdO v1 true (bSub v7 (.i .i64 1) S7) S7 fun v8 S8 =>
 gdO v1 true (sR (.bin .quo) [v8, (.i .i64 4)] S8) S8 fun v9 S9 =>
 gdO v1 true (bIad 3 v6 v9 S9) S9 fun v10 S10 =>
 gdO v1 true (bLdN 3 v10 S10) S10 fun v11 S11 =>
 gdO v1 true (C 209 [v2, v11] S11) S11 fun v12 S12 =>
 gdO v1 true (bLt v12 (.i .i64 0) S12) S12 fun v13 S13 =>
 bPick v1 v13 (.b false) S13 fun v14 S14 =>
 condX v14
 (bNil x0 S14 fun v15 S15 =>
 bFad 0 v15 S15 fun v16 S16 =>
 bLd v16 S16 fun v17 S17 =>
 bSub x1 (.i .i64 1) S17 fun v18 S18 =>
 sR (.bin .quo) [v18, (.i .i64 4)] S18 fun v19 S19 =>
 bIad 3 v17 v19 S19 fun v20 S20 =>
 bLdN 3 v20 S20 fun v21 S21 =>
 C 193 [x0, x1, v21] S21 fun v22 S22 =>
 bSub x1 (.i .i64 1) S22 fun v23 S23 =>
 sR (.bin .quo) [v23, (.i .i64 4)] S23 fun v24 S24 =>
 k1 x0 v24 x4 S24)
 (Y_194_3 C k x0 x1 x4 S14)
def Y_194_1 (C : CS) (k : KS) (x0 x1 : AV) (S : St) : Prop :=
 bNil x0 S fun v1 S1 =>
 bFad 0 v1 S1 fun v2 S2 =>
 bLd v2 S2 fun v3 S3 =>
 bIad 3 v3 x1 S3 fun v4 S4 =>
 bLdN 3 v4 S4 fun v5 S5 =>
 bAlloc [.i .i64 0, .i .i64 0, .i .i64 0] S5 fun v6 S6 =>
 bSt 3 v6 v5 S6 fun _ S7 =>
 lp3 (Y_194_6 C k) x0 x1 v6 S7
def Z_194 (C : CS) (vs : List AV) (S : St) (k : KS) : Prop := ar2 ((fun (C : CS) (k : KS) (a0 a1 : AV) (S : St) => Y_194_1 C k a0 a1 S) C k) vs S
theorem z_194 {F : Nat → Option AFn} (h : ∀ f, Nat.beq f 4 = false → F f = tbl f) : FnOk F 194 Z_194 := fn2 ((h 194 (by kernel_rfl)).trans c194) (Y := fun (C : CS) (k : KS) (a0 a1 : AV) (S : St) => Y_194_1 C k a0 a1 S) fun C l t S k => xS (fun l t S => xS (fun l t S => xf (Y_194_3 C k (l 0) (l 1) (l 4) S)) (xB (xL3 0 1 4 (Y_194_6 C k) (fun l t S k1 => xf (Y_194_6 C k k1 (l 0) (l 1) (l 4) S)) (xf (lp3 (Y_194_6 C k) (l 0) (l 1) (l 4) S))))) (xf (Y_194_1 C k (l 0) (l 1) S))
theorem c195 : tbl 195 = some (fnOf (tbl 195)) := by kernel_rfl
/-- (*tarpaulin/heap.Heap).down -/
def Y_195_3 (C : CS) (k : KS) (x0 x1 x4 : AV) (S : St) : Prop :=
 bLdN 3 x4 S fun v1 S1 =>
 C 193 [x0, x1, v1] S1 fun v2 S2 =>
 k (.tup []) S2
def Y_195_11 (C : CS) (k : KS) (k1 : AV → AV → AV → St → Prop) (x0 x1 x4 x6 : AV) (S : St) : Prop :=
 bLdN 3 x4 S fun v1 S1 =>
 bNil x0 S1 fun v2 S2 =>
 bFad 0 v2 S2 fun v3 S3 =>
 bLd v3 S3 fun v4 S4 =>
 bIad 3 v4 x6 S4 fun v5 S5 =>
 bLdN 3 v5 S5 fun v6 S6 =>
 C 209 [v1, v6] S6 fun v7 S7 =>
 bLt v7 (.i .i64 0) S7 fun v8 S8 =>
 condX v8
 (Y_195_3 C k x0 x1 x4 S8)
 (bNil x0 S8 fun v9 S9 =>
 bFad 0 v9 S9 fun v10 S10 =>
 bLd v10 S10 fun v11 S11 =>
 bIad 3 v11 x6 S11 fun v12 S12 =>
 bLdN 3 v12 S12 fun v13 S13 =>
 C 193 [x0, x1, v13] S13 fun v14 S14 =>
 k1 x0 x6 x4 S14)
def Y_195_15 (C : CS) (k : KS) (k1 : AV → AV → AV → St → Prop) (k2 : AV → AV → AV → AV → AV → AV → St → Prop) (x0 x1 x4 x5 x6 x7 : AV) (S : St) : Prop :=
 bAdd x5 (.i .i64 4) S fun v1 S1 =>
 bNil x0 S1 fun v2 S2 =>
 bFad 0 v2 S2 fun v3 S3 =>
 bLd v3 S3 fun v4 S4 =>
 bLen v4 S4 fun v5 S5 =>
 sR .min [v1, v5] S5 fun v6 S6 =>
 bLt x7 v6 S6 fun v7 S7 =>
 condX v7
 (bNil x0 S7 fun v8 S8 =>
 bFad 0 v8 S8 fun v9 S9 =>
 bLd v9 S9 fun v10 S10 =>
 bIad 3 v10 x7 S10 fun v11 S11 =>
 bLdN 3 v11 S11 fun v12 S12 =>
 bNil x0 S12 fun v13 S13 =>
 bFad 0 v13 S13 fun v14 S14 =>
 bLd v14 S14 fun v15 S15 =>
 bIad 3 v15 x6 S15 fun v16 S16 =>
 bLdN 3 v16 S16 fun v17 S17 =>
 C 209 [v12, v17] S17 fun v18 S18 =>
 bLt v18 (.i .i64 0) S18 fun v19 S19 =>
 condX v19
 (bAdd x7 (.i .i64 1) S19 fun v20 S20 =>
 k2 x0 x1 x4 x5 x7 v20 S20)
 (bAdd x7 (.i .i64 1) S19 fun v21 S21 =>
 k2 x0 x1 x4 x5 x6 v21 S21))
 (Y_195_11 C k k1 x0 x1 x4 x6 S7)
def Y_195_12 (C : CS) (k : KS) (k1 : AV → AV → AV → St → Prop) (x0 x1 x4 x5 x6 : AV) (S : St) : Prop :=
 bAdd x5 (.i .i64 1) S fun v1 S1 =>
 lp6 (Y_195_15 C k k1) x0 x1 x4 x5 x6 v1 S1
def Y_195_9 (C : CS) (k : KS) (k1 : AV → AV → AV → St → Prop) (x0 x1 x4 x5 : AV) (S : St) : Prop :=
 Y_195_12 C k k1 x0 x1 x4 x5 x5 S
def Y_195_8 (C : CS) (k : KS) (k1 : AV → AV → AV → St → Prop) (x0 x1 x4 x5 : AV) (S : St) : Prop :=
 bNil x0 S fun v1 S1 =>
 bFad 0 v1 S1 fun v2 S2 =>
 bLd v2 S2 fun v3 S3 =>
 bLen v3 S3 fun v4 S4 =>
 bGe x5 v4 S4 fun v5 S5 =>
 condX v5
 (Y_195_3 C k x0 x1 x4 S5)
 (Y_195_9 C k k1 x0 x1 x4 x5 S5)
def Y_195_7 (C : CS) (k : KS) (k1 : AV → AV → AV → St → Prop) (x0 x1 x4 : AV) (S : St) : Prop :=
 sR (.bin .mul) [(.i .i64 4), x1] S fun v1 S1 =>
 bAdd v1 (.i .i64 1) S1 fun v2 S2 =>
 Y_195_8 C k k1 x0 x1 x4 v2 S2
def Y_195_1 (C : CS) (k : KS) (x0 x1 : AV) (S : St) : Prop :=
 bNil x0 S fun v1 S1 =>
 bFad 0 v1 S1 fun v2 S2 =>
 bLd v2 S2 fun v3 S3 =>
 bIad 3 v3 x1 S3 fun v4 S4 =>
 bLdN 3 v4 S4 fun v5 S5 =>
 bAlloc [.i .i64 0, .i .i64 0, .i .i64 0] S5 fun v6 S6 =>
 bSt 3 v6 v5 S6 fun _ S7 =>
 lp3 (Y_195_7 C k) x0 x1 v6 S7
def Z_195 (C : CS) (vs : List AV) (S : St) (k : KS) : Prop := ar2 ((fun (C : CS) (k : KS) (a0 a1 : AV) (S : St) => Y_195_1 C k a0 a1 S) C k) vs S
theorem z_195 {F : Nat → Option AFn} (h : ∀ f, Nat.beq f 4 = false → F f = tbl f) : FnOk F 195 Z_195 := fn2 ((h 195 (by kernel_rfl)).trans c195) (Y := fun (C : CS) (k : KS) (a0 a1 : AV) (S : St) => Y_195_1 C k a0 a1 S) fun C l t S k => xS (fun l t S => xS (fun l t S => xf (Y_195_3 C k (l 0) (l 1) (l 4) S)) (xB (xL3 0 1 4 (Y_195_7 C k) (fun l t S k1 => xB (xS (fun l t S => xS (fun l t S => xS (fun l t S => xS (fun l t S => xf (Y_195_11 C k k1 (l 0) (l 1) (l 4) (l 6) S)) (xS (fun l t S => xB (xL6 0 1 4 5 6 7 (Y_195_15 C k k1) (fun l t S k2 => xf (Y_195_15 C k k1 k2 (l 0) (l 1) (l 4) (l 5) (l 6) (l 7) S)) (xf (lp6 (Y_195_15 C k k1) (l 0) (l 1) (l 4) (l 5) (l 6) (l 7) S)))) (xf (Y_195_12 C k k1 (l 0) (l 1) (l 4) (l 5) (l 6) S)))) (xf (Y_195_9 C k k1 (l 0) (l 1) (l 4) (l 5) S))) (xf (Y_195_8 C k k1 (l 0) (l 1) (l 4) (l 5) S))) (xf (Y_195_7 C k k1 (l 0) (l 1) (l 4) S)))) (xf (lp3 (Y_195_7 C k) (l 0) (l 1) (l 4) S))))) (xf (Y_195_1 C k (l 0) (l 1) S))
theorem c196 : tbl 196 = some (fnOf (tbl 196)) := by kernel_rfl
/-- (*tarpaulin/wait.Queue).take -/
def Y_196_4 (C : CS) (k : KS) (x4 : AV) (S : St) : Prop :=
 sBuild [.i .i64 0, .i .i64 0, .i .i64 0] [] [] S fun v1 S1 =>
 bSt 3 x4 v1 S1 fun _ S2 =>
 finV (resVX Env.nil Env.nil S2.h [.cell (.c x4) (some 3), .tmp (.c (.b false))]) S2 k
def Y_196_8 (C : CS) (k : KS) (k1 : AV → AV → AV → AV → St → Prop) (x0 x1 x4 x6 : AV) (S : St) : Prop :=
 sR (.eq true .ptr) [x6, (.p none)] S fun v1 S1 =>
 condX v1
 (bNil x6 S1 fun v2 S2 =>
 bFad 0 v2 S2 fun v3 S3 =>
 bLdN 3 v3 S3 fun v4 S4 =>
 sCv C [x1, v4] S4 fun v5 S5 =>
 condX v5
 (C 210 [x0, x6] S5 fun v6 S6 =>
 bNil x6 S6 fun v7 S7 =>
 bFad 0 v7 S7 fun v8 S8 =>
 bLdN 3 v8 S8 fun v9 S9 =>
 bSt 3 x4 v9 S9 fun _ S10 =>
 finV (resVX Env.nil Env.nil S10.h [.cell (.c x4) (some 3), .tmp (.c (.b true))]) S10 k)
 (bNil x6 S5 fun v11 S11 =>
 bFad 4 v11 S11 fun v12 S12 =>
 bLd v12 S12 fun v13 S13 =>
 k1 x0 x1 x4 v13 S13))
 (Y_196_4 C k x4 S1)
def Y_196_5 (C : CS) (k : KS) (x0 x1 x4 : AV) (S : St) : Prop :=
 bNil x0 S fun v1 S1 =>
 bFad 0 v1 S1 fun v2 S2 =>
 bLd v2 S2 fun v3 S3 =>
 lp4 (Y_196_8 C k) x0 x1 x4 v3 S3
def Y_196_2 (C : CS) (k : KS) (x0 x1 x4 : AV) (S : St) : Prop :=
 sR (.eq false .ptr) [x0, (.p none)] S fun v1 S1 =>
 condX v1
 (sBuild [.i .i64 0, .i .i64 0, .i .i64 0] [] [] S1 fun v2 S2 =>
 bSt 3 x4 v2 S2 fun _ S3 =>
 finV (resVX Env.nil Env.nil S3.h [.cell (.c x4) (some 3), .tmp (.c (.b false))]) S3 k)
 (Y_196_5 C k x0 x1 x4 S1)
def Y_196_1 (C : CS) (k : KS) (x0 x1 : AV) (S : St) : Prop :=
 bAlloc [.i .i64 0, .i .i64 0, .i .i64 0] S fun v1 S1 =>
 Y_196_2 C k x0 x1 v1 S1
def Z_196 (C : CS) (vs : List AV) (S : St) (k : KS) : Prop := ar2 ((fun (C : CS) (k : KS) (a0 a1 : AV) (S : St) => Y_196_1 C k a0 a1 S) C k) vs S
theorem z_196 {F : Nat → Option AFn} (h : ∀ f, Nat.beq f 4 = false → F f = tbl f) : FnOk F 196 Z_196 := fn2 ((h 196 (by kernel_rfl)).trans c196) (Y := fun (C : CS) (k : KS) (a0 a1 : AV) (S : St) => Y_196_1 C k a0 a1 S) fun C l t S k => xS (fun l t S => xS (fun l t S => xS (fun l t S => xf (Y_196_4 C k (l 4) S)) (xS (fun l t S => xB (xL4 0 1 4 6 (Y_196_8 C k) (fun l t S k1 => xf (Y_196_8 C k k1 (l 0) (l 1) (l 4) (l 6) S)) (xf (lp4 (Y_196_8 C k) (l 0) (l 1) (l 4) (l 6) S)))) (xf (Y_196_5 C k (l 0) (l 1) (l 4) S)))) (xf (Y_196_2 C k (l 0) (l 1) (l 4) S))) (xf (Y_196_1 C k (l 0) (l 1) S))
theorem c197 : tbl 197 = some (fnOf (tbl 197)) := by kernel_rfl
/-- (*tarpaulin/wait.Queue).Pop$1 -/
def Y_197_1 (C : CS) (k : KS) (x0 : AV) (S : St) : Prop :=
 bBox x0 S fun v1 S1 =>
 k (.b true) S1
def Z_197 (C : CS) (vs : List AV) (S : St) (k : KS) : Prop := ar1 ((fun (C : CS) (k : KS) (a0 : AV) (S : St) => Y_197_1 C k a0 S) C k) vs S
theorem z_197 {F : Nat → Option AFn} (h : ∀ f, Nat.beq f 4 = false → F f = tbl f) : FnOk F 197 Z_197 := fn1 ((h 197 (by kernel_rfl)).trans c197) (Y := fun (C : CS) (k : KS) (a0 : AV) (S : St) => Y_197_1 C k a0 S) fun C l t S k => xf (Y_197_1 C k (l 0) S)
theorem c198 : tbl 198 = some (fnOf (tbl 198)) := by kernel_rfl
/-- (*tarpaulin/chanq.Chan).end -/
def Y_198_4 (C : CS) (k : KS) (x2 : AV) (S : St) : Prop :=
 k x2 S
def Y_198_11 (C : CS) (k : KS) (k1 : AV → AV → AV → AV → AV → St → Prop) (x0 x2 x18 x19 x20 : AV) (S : St) : Prop :=
 bAdd x20 (.i .i64 1) S fun v1 S1 =>
 k1 x0 x2 x18 x19 v1 S1
def Y_198_17 (C : CS) (k : KS) (k1 : AV → AV → AV → AV → AV → St → Prop) (k2 : AV → AV → AV → AV → AV → AV → AV → AV → St → Prop) (x0 x2 x4 x5 x6 x18 x19 x20 : AV) (S : St) : Prop :=
 condX x6
 (sR (.mkfn 212 0) [x5] S fun v1 S1 =>
 C 211 [x2, v1] S1 fun v2 S2 =>
 bNot v2 S2 fun v3 S3 =>
 condX v3
 (bFad 0 x5 S3 fun v4 S4 =>
 bLd v4 S4 fun v5 S5 =>
 bFad 1 x5 S5 fun v6 S6 =>
 bLd v6 S6 fun v7 S7 =>
 bNil x0 S7 fun v8 S8 =>
 bFad 2 v8 S8 fun v9 S9 =>
 bLd v9 S9 fun v10 S10 =>
 sR (.eq false .ptr) [x4, v10] S10 fun v11 S11 =>
 sBuild [.i .i64 0, .i .i64 0, .i .i64 0, .b false, .b false] [(0, 1), (1, 1), (4, 1)] [v5, v7, v11] S11 fun v12 S12 =>
 sAl (.bslice [.i .i64 0, .i .i64 0, .i .i64 0, .b false, .b false] 1 5 [0]) [v12] S12 fun v13 S13 =>
 bApp 5 32 x2 v13 S13 fun v14 S14 =>
 bLdN 3 x5 S14 fun v15 S15 =>
 bAlloc [.i .i64 0, .i .i64 0, .i .i64 0] S15 fun v16 S16 =>
 bSt 3 v16 v15 S16 fun _ S17 =>
 C 160 [x4] S17 fun v18 S18 =>
 bExt 0 v18 S18 fun v19 S19 =>
 bExt 1 v18 S19 fun v20 S20 =>
 bSt 3 v16 v19 S20 fun _ S21 =>
 k2 x0 v14 x4 v16 v20 x18 x19 x20 S21)
 (bLdN 3 x5 S3 fun v22 S22 =>
 bAlloc [.i .i64 0, .i .i64 0, .i .i64 0] S22 fun v23 S23 =>
 bSt 3 v23 v22 S23 fun _ S24 =>
 C 160 [x4] S24 fun v25 S25 =>
 bExt 0 v25 S25 fun v26 S26 =>
 bExt 1 v25 S26 fun v27 S27 =>
 bSt 3 v23 v26 S27 fun _ S28 =>
 k2 x0 x2 x4 v23 v27 x18 x19 x20 S28))
 (Y_198_11 C k k1 x0 x2 x18 x19 x20 S)
def Y_198_14 (C : CS) (k : KS) (k1 : AV → AV → AV → AV → AV → St → Prop) (x0 x2 x4 x18 x19 x20 : AV) (S : St) : Prop :=
 C 160 [x4] S fun v1 S1 =>
 bExt 0 v1 S1 fun v2 S2 =>
 bExt 1 v1 S2 fun v3 S3 =>
 bAlloc [.i .i64 0, .i .i64 0, .i .i64 0] S3 fun v4 S4 =>
 bSt 3 v4 v2 S4 fun _ S5 =>
 lp8 (Y_198_17 C k k1) x0 x2 x4 v4 v3 x18 x19 x20 S5
def Y_198_13 (C : CS) (k : KS) (k1 : AV → AV → AV → AV → AV → St → Prop) (x0 x2 x18 x19 x20 : AV) (S : St) : Prop :=
 bIad 1 x18 x20 S fun v1 S1 =>
 bLd v1 S1 fun v2 S2 =>
 Y_198_14 C k k1 x0 x2 v2 x18 x19 x20 S2
def Y_198_9 (C : CS) (k : KS) (k1 : AV → AV → AV → AV → AV → St → Prop) (x0 x2 x18 x19 x20 t21 : AV) (S : St) : Prop :=
 condX t21
 (Y_198_13 C k k1 x0 x2 x18 x19 x20 S)
 (Y_198_4 C k x2 S)
def Y_198_8 (C : CS) (k : KS) (k1 : AV → AV → AV → AV → AV → St → Prop) (x0 x2 x18 x19 x20 : AV) (S : St) : Prop :=
 bLt x20 x19 S fun v1 S1 =>
 Y_198_9 C k k1 x0 x2 x18 x19 x20 v1 S1
def Y_198_5 (C : CS) (k : KS) (x0 x2 : AV) (S : St) : Prop :=
 bNil x0 S fun v1 S1 =>
 bFad 1 v1 S1 fun v2 S2 =>
 bLd v2 S2 fun v3 S3 =>
 bNil x0 S3 fun v4 S4 =>
 bFad 2 v4 S4 fun v5 S5 =>
 bLd v5 S5 fun v6 S6 =>
 sAl (.bslice [.p none] 2 1 [0, 1]) [v3, v6] S6 fun v7 S7 =>
 bLen v7 S7 fun v8 S8 =>
 lp5 (Y_198_8 C k) x0 x2 v7 v8 (.i .i64 0) S8
def Y_198_2 (C : CS) (k : KS) (x0 x2 : AV) (S : St) : Prop :=
 bNil x0 S fun v1 S1 =>
 bFad 5 v1 S1 fun v2 S2 =>
 bSt 1 v2 (.b true) S2 fun _ S3 =>
 Y_198_5 C k x0 x2 S3
def Y_198_1 (C : CS) (k : KS) (x0 : AV) (S : St) : Prop :=
 Y_198_2 C k x0 (.sl none 0 0 0) S
def Z_198 (C : CS) (vs : List AV) (S : St) (k : KS) : Prop := ar1 ((fun (C : CS) (k : KS) (a0 : AV) (S : St) => Y_198_1 C k a0 S) C k) vs S
theorem z_198 {F : Nat → Option AFn} (h : ∀ f, Nat.beq f 4 = false → F f = tbl f) : FnOk F 198 Z_198 := fn1 ((h 198 (by kernel_rfl)).trans c198) (Y := fun (C : CS) (k : KS) (a0 : AV) (S : St) => Y_198_1 C k a0 S) fun C l t S k => xS (fun l t S => xS (fun l t S => xS (fun l t S => xf (Y_198_4 C k (l 2) S)) (xS (fun l t S => xB (xL5 0 2 18 19 20 (Y_198_8 C k) (fun l t S k1 => xS (fun l t S => xS (fun l t S => xS (fun l t S => xf (Y_198_11 C k k1 (l 0) (l 2) (l 18) (l 19) (l 20) S)) (xB (xS (fun l t S => xS (fun l t S => xB (xL8 0 2 4 5 6 18 19 20 (Y_198_17 C k k1) (fun l t S k2 => xf (Y_198_17 C k k1 k2 (l 0) (l 2) (l 4) (l 5) (l 6) (l 18) (l 19) (l 20) S)) (xf (lp8 (Y_198_17 C k k1) (l 0) (l 2) (l 4) (l 5) (l 6) (l 18) (l 19) (l 20) S)))) (xf (Y_198_14 C k k1 (l 0) (l 2) (l 4) (l 18) (l 19) (l 20) S))) (xf (Y_198_13 C k k1 (l 0) (l 2) (l 18) (l 19) (l 20) S))))) (xf (Y_198_9 C k k1 (l 0) (l 2) (l 18) (l 19) (l 20) (t 21) S))) (xf (Y_198_8 C k k1 (l 0) (l 2) (l 18) (l 19) (l 20) S))) (xf (lp5 (Y_198_8 C k) (l 0) (l 2) (l 18) (l 19) (l 20) S)))) (xf (Y_198_5 C k (l 0) (l 2) S)))) (xf (Y_198_2 C k (l 0) (l 2) S))) (xf (Y_198_1 C k (l 0) S))
theorem c199 : tbl 199 = some (fnOf (tbl 199)) := by kernel_rfl
/-- (*tarpaulin/wait.Queue).Remove -/
def Y_199_4 (C : CS) (k : KS) (k1 : AV → AV → AV → St → Prop) (x0 x3 x4 : AV) (S : St) : Prop :=
 sR (.mkfn 213 0) [x3] S fun v1 S1 =>
 C 196 [x0, v1] S1 fun v2 S2 =>
 bExt 0 v2 S2 fun v3 S3 =>
 bExt 1 v2 S3 fun v4 S4 =>
 bAlloc [.i .i64 0, .i .i64 0, .i .i64 0] S4 fun v5 S5 =>
 bSt 3 v5 v3 S5 fun _ S6 =>
 bNot v4 S6 fun v7 S7 =>
 condX v7
 (k x4 S7)
 (bAdd x4 (.i .i64 1) S7 fun v8 S8 =>
 k1 x0 x3 v8 S8)
def Y_199_1 (C : CS) (k : KS) (x0 x1 : AV) (S : St) : Prop :=
 bBox x1 S fun v1 S1 =>
 lp3 (Y_199_4 C k) x0 v1 (.i .i64 0) S1
def Z_199 (C : CS) (vs : List AV) (S : St) (k : KS) : Prop := ar2 ((fun (C : CS) (k : KS) (a0 a1 : AV) (S : St) => Y_199_1 C k a0 a1 S) C k) vs S
theorem z_199 {F : Nat → Option AFn} (h : ∀ f, Nat.beq f 4 = false → F f = tbl f) : FnOk F 199 Z_199 := fn2 ((h 199 (by kernel_rfl)).trans c199) (Y := fun (C : CS) (k : KS) (a0 a1 : AV) (S : St) => Y_199_1 C k a0 a1 S) fun C l t S k => xS (fun l t S => xB (xL3 0 3 4 (Y_199_4 C k) (fun l t S k1 => xf (Y_199_4 C k k1 (l 0) (l 3) (l 4) S)) (xf (lp3 (Y_199_4 C k) (l 0) (l 3) (l 4) S)))) (xf (Y_199_1 C k (l 0) (l 1) S))
theorem c200 : tbl 200 = some (fnOf (tbl 200)) := by kernel_rfl
/-- tarpaulin/task.receives -/
def Y_200_1 (C : CS) (k : KS) (x0 x1 : AV) (S : St) : Prop :=
 bBox x0 S fun v1 S1 =>
 bGe x1 (.i .i64 0) S1 fun v2 S2 =>
 gdO v2 true (sMv [x1] S2) S2 fun v3 S3 =>
 gdO v2 true (bFad 4 v1 S3) S3 fun v4 S4 =>
 gdO v2 true (bLd v4 S4) S4 fun v5 S5 =>
 gdO v2 true (bLen v5 S5) S5 fun v6 S6 =>
 gdO v2 true (bLt v3 v6 S6) S6 fun v7 S7 =>
 bPick v2 v7 (.b false) S7 fun v8 S8 =>
 gdO v8 true (bFad 4 v1 S8) S8 fun v9 S9 =>
 gdO v8 true (bLd v9 S9) S9 fun v10 S10 =>
 gdO v8 true (sMv [x1] S10) S10 fun v11 S11 =>
 gdO v8 true (bIad 3 v10 v11 S11) S11 fun v12 S12 =>
 gdO v8 true (bFad 0 v12 S12) S12 fun v13 S13 =>
 gdO v8 true (bLd v13 S13) S13 fun v14 S14 =>
 gdO v8 true (bNot v14 S14) S14 fun v15 S15 =>
 bPick v8 v15 (.b false) S15 fun v16 S16 =>
 k v16 S16
def Z_200 (C : CS) (vs : List AV) (S : St) (k : KS) : Prop := ar2 ((fun (C : CS) (k : KS) (a0 a1 : AV) (S : St) => Y_200_1 C k a0 a1 S) C k) vs S
theorem z_200 {F : Nat → Option AFn} (h : ∀ f, Nat.beq f 4 = false → F f = tbl f) : FnOk F 200 Z_200 := fn2 ((h 200 (by kernel_rfl)).trans c200) (Y := fun (C : CS) (k : KS) (a0 a1 : AV) (S : St) => Y_200_1 C k a0 a1 S) fun C l t S k => xf (Y_200_1 C k (l 0) (l 1) S)
theorem c201 : tbl 201 = some (fnOf (tbl 201)) := by kernel_rfl
/-- (*tarpaulin/chanq.Chan).Wait$1 -/
def Y_201_1 (C : CS) (k : KS) (x0 x1 : AV) (S : St) : Prop :=
 bBox x0 S fun v1 S1 =>
 bFad 0 v1 S1 fun v2 S2 =>
 bLd v2 S2 fun v3 S3 =>
 bFad 0 x1 S3 fun v4 S4 =>
 bLd v4 S4 fun v5 S5 =>
 bNe v3 v5 S5 fun v6 S6 =>
 k v6 S6
def Z_201 (C : CS) (vs : List AV) (S : St) (k : KS) : Prop := ar2 ((fun (C : CS) (k : KS) (a0 a1 : AV) (S : St) => Y_201_1 C k a0 a1 S) C k) vs S
theorem z_201 {F : Nat → Option AFn} (h : ∀ f, Nat.beq f 4 = false → F f = tbl f) : FnOk F 201 Z_201 := fn2 ((h 201 (by kernel_rfl)).trans c201) (Y := fun (C : CS) (k : KS) (a0 a1 : AV) (S : St) => Y_201_1 C k a0 a1 S) fun C l t S k => xf (Y_201_1 C k (l 0) (l 1) S)
theorem c202 : tbl 202 = some (fnOf (tbl 202)) := by kernel_rfl
/-- (*tarpaulin/chanq.Chan).free -/
def Y_202_1 (C : CS) (k : KS) (x0 x1 : AV) (S : St) : Prop :=
 condX x1
 (bNil x0 S fun v1 S1 =>
 bFad 0 v1 S1 fun v2 S2 =>
 bLd v2 S2 fun v3 S3 =>
 C 29 [v3] S3 fun v4 S4 =>
 bNil x0 S4 fun v5 S5 =>
 bFad 0 v5 S5 fun v6 S6 =>
 bLd v6 S6 fun v7 S7 =>
 C 174 [v7] S7 fun v8 S8 =>
 bLt v4 v8 S8 fun v9 S9 =>
 bif (bif (againX (.ld none) [v6] S6 S) then true else false) then (k v9 S9) else False)
 (bNil x0 S fun v10 S10 =>
 bFad 0 v10 S10 fun v11 S11 =>
 bLd v11 S11 fun v12 S12 =>
 C 29 [v12] S12 fun v13 S13 =>
 bGt v13 (.i .i64 0) S13 fun v14 S14 =>
 k v14 S14)
def Z_202 (C : CS) (vs : List AV) (S : St) (k : KS) : Prop := ar2 ((fun (C : CS) (k : KS) (a0 a1 : AV) (S : St) => Y_202_1 C k a0 a1 S) C k) vs S
theorem z_202 {F : Nat → Option AFn} (h : ∀ f, Nat.beq f 4 = false → F f = tbl f) : FnOk F 202 Z_202 := fn2 ((h 202 (by kernel_rfl)).trans c202) (Y := fun (C : CS) (k : KS) (a0 a1 : AV) (S : St) => Y_202_1 C k a0 a1 S) fun C l t S k => xf (Y_202_1 C k (l 0) (l 1) S)
theorem c203 : tbl 203 = some (fnOf (tbl 203)) := by kernel_rfl
/-- slices.ContainsFunc[[]tarpaulin/api.Wait,tarpaulin/api.Wait] -/
def Y_203_1 (C : CS) (k : KS) (x0 x1 : AV) (S : St) : Prop :=
 C 214 [x0, x1] S fun v1 S1 =>
 bGe v1 (.i .i64 0) S1 fun v2 S2 =>
 k v2 S2
def Z_203 (C : CS) (vs : List AV) (S : St) (k : KS) : Prop := ar2 ((fun (C : CS) (k : KS) (a0 a1 : AV) (S : St) => Y_203_1 C k a0 a1 S) C k) vs S
theorem z_203 {F : Nat → Option AFn} (h : ∀ f, Nat.beq f 4 = false → F f = tbl f) : FnOk F 203 Z_203 := fn2 ((h 203 (by kernel_rfl)).trans c203) (Y := fun (C : CS) (k : KS) (a0 a1 : AV) (S : St) => Y_203_1 C k a0 a1 S) fun C l t S k => xf (Y_203_1 C k (l 0) (l 1) S)
theorem c204 : tbl 204 = some (fnOf (tbl 204)) := by kernel_rfl
/-- (*tarpaulin/wait.Queue).Push -/
def Y_204_5 (C : CS) (k : KS) (x0 x5 : AV) (S : St) : Prop :=
 bNil x0 S fun v1 S1 =>
 bFad 1 v1 S1 fun v2 S2 =>
 bSt 1 v2 x5 S2 fun _ S3 =>
 bNil x0 S3 fun v4 S4 =>
 bFad 2 v4 S4 fun v5 S5 =>
 bLd v5 S5 fun v6 S6 =>
 bAdd v6 (.i .i64 1) S6 fun v7 S7 =>
 bNil x0 S7 fun v8 S8 =>
 bFad 2 v8 S8 fun v9 S9 =>
 bSt 1 v9 v7 S9 fun _ S10 =>
 bNil x0 S10 fun v11 S11 =>
 bFad 2 v11 S11 fun v12 S12 =>
 bLd v12 S12 fun v13 S13 =>
 k v13 S13
def Y_204_4 (C : CS) (k : KS) (x0 x5 : AV) (S : St) : Prop :=
 bNil x0 S fun v1 S1 =>
 bFad 1 v1 S1 fun v2 S2 =>
 bLd v2 S2 fun v3 S3 =>
 sR (.eq false .ptr) [v3, (.p none)] S3 fun v4 S4 =>
 condX v4
 (bNil x0 S4 fun v5 S5 =>
 bFad 0 v5 S5 fun v6 S6 =>
 bSt 1 v6 x5 S6 fun _ S7 =>
 Y_204_5 C k x0 x5 S7)
 (bNil x0 S4 fun v8 S8 =>
 bFad 1 v8 S8 fun v9 S9 =>
 bLd v9 S9 fun v10 S10 =>
 bNil v10 S10 fun v11 S11 =>
 bFad 4 v11 S11 fun v12 S12 =>
 bSt 1 v12 x5 S12 fun _ S13 =>
 Y_204_5 C k x0 x5 S13)
def Y_204_3 (C : CS) (k : KS) (x0 x3 : AV) (S : St) : Prop :=
 bLdN 3 x3 S fun v1 S1 =>
 bNil x0 S1 fun v2 S2 =>
 bFad 1 v2 S2 fun v3 S3 =>
 bLd v3 S3 fun v4 S4 =>
 sBuild [.i .i64 0, .i .i64 0, .i .i64 0, .p none, .p none] [(0, 3), (3, 1)] [v1, v4] S4 fun v5 S5 =>
 bBox v5 S5 fun v6 S6 =>
 Y_204_4 C k x0 v6 S6
def Y_204_2 (C : CS) (k : KS) (x0 x3 : AV) (S : St) : Prop :=
 sR (.eq false .ptr) [x0, (.p none)] S fun v1 S1 =>
 condX v1
 (k (.i .i64 0) S1)
 (Y_204_3 C k x0 x3 S1)
def Y_204_1 (C : CS) (k : KS) (x0 x1 : AV) (S : St) : Prop :=
 bBox x1 S fun v1 S1 =>
 Y_204_2 C k x0 v1 S1
def Z_204 (C : CS) (vs : List AV) (S : St) (k : KS) : Prop := ar2 ((fun (C : CS) (k : KS) (a0 a1 : AV) (S : St) => Y_204_1 C k a0 a1 S) C k) vs S
theorem z_204 {F : Nat → Option AFn} (h : ∀ f, Nat.beq f 4 = false → F f = tbl f) : FnOk F 204 Z_204 := fn2 ((h 204 (by kernel_rfl)).trans c204) (Y := fun (C : CS) (k : KS) (a0 a1 : AV) (S : St) => Y_204_1 C k a0 a1 S) fun C l t S k => xS (fun l t S => xS (fun l t S => xS (fun l t S => xS (fun l t S => xf (Y_204_5 C k (l 0) (l 5) S)) (xf (Y_204_4 C k (l 0) (l 5) S))) (xf (Y_204_3 C k (l 0) (l 3) S))) (xf (Y_204_2 C k (l 0) (l 3) S))) (xf (Y_204_1 C k (l 0) (l 1) S))
theorem c205 : tbl 205 = some (fnOf (tbl 205)) := by kernel_rfl
/-- (*tarpaulin/ring.Ring).Pop -/
def Y_205_3 (C : CS) (k : KS) (x0 : AV) (S : St) : Prop :=
 bNil x0 S fun v1 S1 =>
 bFad 0 v1 S1 fun v2 S2 =>
 bLd v2 S2 fun v3 S3 =>
 bNil x0 S3 fun v4 S4 =>
 bFad 1 v4 S4 fun v5 S5 =>
 bLd v5 S5 fun v6 S6 =>
 bIad 1 v3 v6 S6 fun v7 S7 =>
 bLd v7 S7 fun v8 S8 =>
 bNil x0 S8 fun v9 S9 =>
 bFad 1 v9 S9 fun v10 S10 =>
 bLd v10 S10 fun v11 S11 =>
 bAdd v11 (.i .i64 1) S11 fun v12 S12 =>
 bNil x0 S12 fun v13 S13 =>
 bFad 0 v13 S13 fun v14 S14 =>
 bLd v14 S14 fun v15 S15 =>
 bLen v15 S15 fun v16 S16 =>
 sR (.bin .rem) [v12, v16] S16 fun v17 S17 =>
 bNil x0 S17 fun v18 S18 =>
 bFad 1 v18 S18 fun v19 S19 =>
 bSt 1 v19 v17 S19 fun _ S20 =>
 bNil x0 S20 fun v21 S21 =>
 bFad 2 v21 S21 fun v22 S22 =>
 bLd v22 S22 fun v23 S23 =>
 bSub v23 (.i .i64 1) S23 fun v24 S24 =>
 bNil x0 S24 fun v25 S25 =>
 bFad 2 v25 S25 fun v26 S26 =>
 bSt 1 v26 v24 S26 fun _ S27 =>
 k (.tup [v8, (.b true)]) S27
def Y_205_2 (C : CS) (k : KS) (x0 : AV) (S : St) : Prop :=
 sR (.eq false .ptr) [x0, (.p none)] S fun v1 S1 =>
 gdO v1 false (sMv [x0] S1) S1 fun v2 S2 =>
 gdO v1 false (bNil v2 S2) S2 fun v3 S3 =>
 gdO v1 false (bFad 2 v3 S3) S3 fun v4 S4 =>
 gdO v1 false (bLd v4 S4) S4 fun v5 S5 =>
 gdO v1 false (bEq v5 (.i .i64 0) S5) S5 fun v6 S6 =>
 bPick v1 (.b true) v6 S6 fun v7 S7 =>
 condX v7
 (k (.tup [(.i .i64 0), (.b false)]) S7)
 (Y_205_3 C k x0 S7)
def Y_205_1 (C : CS) (k : KS) (x0 : AV) (S : St) : Prop :=
 Y_205_2 C k x0 S
def Z_205 (C : CS) (vs : List AV) (S : St) (k : KS) : Prop := ar1 ((fun (C : CS) (k : KS) (a0 : AV) (S : St) => Y_205_1 C k a0 S) C k) vs S
theorem z_205 {F : Nat → Option AFn} (h : ∀ f, Nat.beq f 4 = false → F f = tbl f) : FnOk F 205 Z_205 := fn1 ((h 205 (by kernel_rfl)).trans c205) (Y := fun (C : CS) (k : KS) (a0 : AV) (S : St) => Y_205_1 C k a0 S) fun C l t S k => xS (fun l t S => xS (fun l t S => xf (Y_205_3 C k (l 0) S)) (xf (Y_205_2 C k (l 0) S))) (xf (Y_205_1 C k (l 0) S))
theorem c206 : tbl 206 = some (fnOf (tbl 206)) := by kernel_rfl
/-- (*tarpaulin/chanq.Chan).Can -/
def Y_206_3 (C : CS) (k : KS) (x0 x1 : AV) (S : St) : Prop :=
 bNil x0 S fun v1 S1 =>
 bFad 5 v1 S1 fun v2 S2 =>
 bLd v2 S2 fun v3 S3 =>
 gdO v3 false (sMv [x0] S3) S3 fun v4 S4 =>
 gdO v3 false (sMv [x1] S4) S4 fun v5 S5 =>
 gdO v3 false (C 202 [v4, v5] S5) S5 fun v6 S6 =>
 bPick v3 (.b true) v6 S6 fun v7 S7 =>
 gdO v7 false (sMv [x0] S7) S7 fun v8 S8 =>
 gdO v7 false (sMv [x1] S8) S8 fun v9 S9 =>
 gdO v7 false (bNot v9 S9) S9 fun v10 S10 =>
 gdO v7 false (C 27 [v8, v10] S10) S10 fun v11 S11 =>
 gdO v7 false (C 215 [v11] S11) S11 fun v12 S12 =>
 gdO v7 false (bGt v12 (.i .i64 0) S12) S12 fun v13 S13 =>
 bPick v7 (.b true) v13 S13 fun v14 S14 =>
 k v14 S14
def Y_206_2 (C : CS) (k : KS) (x0 x1 : AV) (S : St) : Prop :=
 sR (.eq false .ptr) [x0, (.p none)] S fun v1 S1 =>
 condX v1
 (condX v1
 (k (.b false) S1)
 (Y_206_3 C k x0 x1 S1))
 (C 177 [x0] S1 fun v2 S2 =>
 gdO v2 true (sMv [x1] S2) S2 fun v3 S3 =>
 bPick v2 v3 (.b false) S3 fun v4 S4 =>
 condX v4
 (k (.b false) S4)
 (Y_206_3 C k x0 x1 S4))
def Y_206_1 (C : CS) (k : KS) (x0 x1 : AV) (S : St) : Prop :=
 Y_206_2 C k x0 x1 S
def Z_206 (C : CS) (vs : List AV) (S : St) (k : KS) : Prop := ar2 ((fun (C : CS) (k : KS) (a0 a1 : AV) (S : St) => Y_206_1 C k a0 a1 S) C k) vs S
theorem z_206 {F : Nat → Option AFn} (h : ∀ f, Nat.beq f 4 = false → F f = tbl f) : FnOk F 206 Z_206 := fn2 ((h 206 (by kernel_rfl)).trans c206) (Y := fun (C : CS) (k : KS) (a0 a1 : AV) (S : St) => Y_206_1 C k a0 a1 S) fun C l t S k => xS (fun l t S => xS (fun l t S => xf (Y_206_3 C k (l 0) (l 1) S)) (xf (Y_206_2 C k (l 0) (l 1) S))) (xf (Y_206_1 C k (l 0) (l 1) S))
theorem c207 : tbl 207 = some (fnOf (tbl 207)) := by kernel_rfl
/-- tarpaulin/chanq.Timed -/
def Y_207_1 (C : CS) (k : KS) (S : St) : Prop :=
 C 125 [(.i .i64 1)] S fun v1 S1 =>
 bExt 0 v1 S1 fun v2 S2 =>
 bExt 1 v1 S2 fun v3 S3 =>
 bNil v2 S3 fun v4 S4 =>
 bFad 3 v4 S4 fun v5 S5 =>
 bSt 1 v5 (.b true) S5 fun _ S6 =>
 k v2 S6
def Z_207 (C : CS) (vs : List AV) (S : St) (k : KS) : Prop := ar0 ((fun (C : CS) (k : KS) (S : St) => Y_207_1 C k S) C k) vs S
theorem z_207 {F : Nat → Option AFn} (h : ∀ f, Nat.beq f 4 = false → F f = tbl f) : FnOk F 207 Z_207 := fn0 ((h 207 (by kernel_rfl)).trans c207) (Y := fun (C : CS) (k : KS) (S : St) => Y_207_1 C k S) fun C l t S k => xf (Y_207_1 C k S)
theorem c208 : tbl 208 = some (fnOf (tbl 208)) := by kernel_rfl
/-- (*tarpaulin/ring.Ring).Clear -/
def Y_208_1 (C : CS) (k : KS) (x0 : AV) (S : St) : Prop :=
 C 29 [x0] S fun v1 S1 =>
 bGt v1 (.i .i64 0) S1 fun v2 S2 =>
 condX v2
 (bNil x0 S2 fun v3 S3 =>
 bFad 2 v3 S3 fun v4 S4 =>
 bSt 1 v4 (.i .i64 0) S4 fun _ S5 =>
 k v1 S5)
 (k v1 S2)
def Z_208 (C : CS) (vs : List AV) (S : St) (k : KS) : Prop := ar1 ((fun (C : CS) (k : KS) (a0 : AV) (S : St) => Y_208_1 C k a0 S) C k) vs S
theorem z_208 {F : Nat → Option AFn} (h : ∀ f, Nat.beq f 4 = false → F f = tbl f) : FnOk F 208 Z_208 := fn1 ((h 208 (by kernel_rfl)).trans c208) (Y := fun (C : CS) (k : KS) (a0 : AV) (S : St) => Y_208_1 C k a0 S) fun C l t S k => xf (Y_208_1 C k (l 0) S)
theorem c209 : tbl 209 = some (fnOf (tbl 209)) := by kernel_rfl
/-- tarpaulin/heap.ahead -/
def Y_209_1 (C : CS) (k : KS) (x0 x1 : AV) (S : St) : Prop :=
 bBox x0 S fun v1 S1 =>
 bBox x1 S1 fun v2 S2 =>
 bFad 1 v1 S2 fun v3 S3 =>
 bLd v3 S3 fun v4 S4 =>
 bFad 1 v2 S4 fun v5 S5 =>
 bLd v5 S5 fun v6 S6 =>
 C 217 [v4, v6] S6 fun v7 S7 =>
 bFad 2 v1 S7 fun v8 S8 =>
 bLd v8 S8 fun v9 S9 =>
 bFad 2 v2 S9 fun v10 S10 =>
 bLd v10 S10 fun v11 S11 =>
 C 217 [v9, v11] S11 fun v12 S12 =>
 sAl (.bslice [.i .i64 0] 2 1 [0, 1]) [v7, v12] S12 fun v13 S13 =>
 C 216 [v13] S13 fun v14 S14 =>
 bif (bif (againX (.ld none) [v8] S8 S2) then (bif (againX (.ld none) [v10] S10 S2) then true else false) else false) then (k v14 S14) else False
def Z_209 (C : CS) (vs : List AV) (S : St) (k : KS) : Prop := ar2 ((fun (C : CS) (k : KS) (a0 a1 : AV) (S : St) => Y_209_1 C k a0 a1 S) C k) vs S
theorem z_209 {F : Nat → Option AFn} (h : ∀ f, Nat.beq f 4 = false → F f = tbl f) : FnOk F 209 Z_209 := fn2 ((h 209 (by kernel_rfl)).trans c209) (Y := fun (C : CS) (k : KS) (a0 a1 : AV) (S : St) => Y_209_1 C k a0 a1 S) fun C l t S k => xf (Y_209_1 C k (l 0) (l 1) S)
theorem c210 : tbl 210 = some (fnOf (tbl 210)) := by kernel_rfl
/-- (*tarpaulin/wait.Queue).drop -/
def Y_210_2 (C : CS) (k : KS) (x0 x1 : AV) (S : St) : Prop :=
 bNil x1 S fun v1 S1 =>
 bFad 4 v1 S1 fun v2 S2 =>
 bLd v2 S2 fun v3 S3 =>
 sR (.eq false .ptr) [v3, (.p none)] S3 fun v4 S4 =>
 condX v4
 (bNil x1 S4 fun v5 S5 =>
 bFad 3 v5 S5 fun v6 S6 =>
 bLd v6 S6 fun v7 S7 =>
 bNil x0 S7 fun v8 S8 =>
 bFad 1 v8 S8 fun v9 S9 =>
 bSt 1 v9 v7 S9 fun _ S10 =>
 bNil x0 S10 fun v11 S11 =>
 bFad 2 v11 S11 fun v12 S12 =>
 bLd v12 S12 fun v13 S13 =>
 bSub v13 (.i .i64 1) S13 fun v14 S14 =>
 bNil x0 S14 fun v15 S15 =>
 bFad 2 v15 S15 fun v16 S16 =>
 bSt 1 v16 v14 S16 fun _ S17 =>
 k (.tup []) S17)
 (bNil x1 S4 fun v18 S18 =>
 bFad 4 v18 S18 fun v19 S19 =>
 bLd v19 S19 fun v20 S20 =>
 bNil x1 S20 fun v21 S21 =>
 bFad 3 v21 S21 fun v22 S22 =>
 bLd v22 S22 fun v23 S23 =>
 bNil v20 S23 fun v24 S24 =>
 bFad 3 v24 S24 fun v25 S25 =>
 bSt 1 v25 v23 S25 fun _ S26 =>
 bNil x0 S26 fun v27 S27 =>
 bFad 2 v27 S27 fun v28 S28 =>
 bLd v28 S28 fun v29 S29 =>
 bSub v29 (.i .i64 1) S29 fun v30 S30 =>
 bNil x0 S30 fun v31 S31 =>
 bFad 2 v31 S31 fun v32 S32 =>
 bSt 1 v32 v30 S32 fun _ S33 =>
 k (.tup []) S33)
def Y_210_1 (C : CS) (k : KS) (x0 x1 : AV) (S : St) : Prop :=
 bNil x1 S fun v1 S1 =>
 bFad 3 v1 S1 fun v2 S2 =>
 bLd v2 S2 fun v3 S3 =>
 sR (.eq false .ptr) [v3, (.p none)] S3 fun v4 S4 =>
 condX v4
 (bNil x1 S4 fun v5 S5 =>
 bFad 4 v5 S5 fun v6 S6 =>
 bLd v6 S6 fun v7 S7 =>
 bNil x0 S7 fun v8 S8 =>
 bFad 0 v8 S8 fun v9 S9 =>
 bSt 1 v9 v7 S9 fun _ S10 =>
 Y_210_2 C k x0 x1 S10)
 (bNil x1 S4 fun v11 S11 =>
 bFad 3 v11 S11 fun v12 S12 =>
 bLd v12 S12 fun v13 S13 =>
 bNil x1 S13 fun v14 S14 =>
 bFad 4 v14 S14 fun v15 S15 =>
 bLd v15 S15 fun v16 S16 =>
 bNil v13 S16 fun v17 S17 =>
 bFad 4 v17 S17 fun v18 S18 =>
 bSt 1 v18 v16 S18 fun _ S19 =>
 Y_210_2 C k x0 x1 S19)
def Z_210 (C : CS) (vs : List AV) (S : St) (k : KS) : Prop := ar2 ((fun (C : CS) (k : KS) (a0 a1 : AV) (S : St) => Y_210_1 C k a0 a1 S) C k) vs S
theorem z_210 {F : Nat → Option AFn} (h : ∀ f, Nat.beq f 4 = false → F f = tbl f) : FnOk F 210 Z_210 := fn2 ((h 210 (by kernel_rfl)).trans c210) (Y := fun (C : CS) (k : KS) (a0 a1 : AV) (S : St) => Y_210_1 C k a0 a1 S) fun C l t S k => xS (fun l t S => xf (Y_210_2 C k (l 0) (l 1) S)) (xf (Y_210_1 C k (l 0) (l 1) S))
theorem c211 : tbl 211 = some (fnOf (tbl 211)) := by kernel_rfl
/-- slices.ContainsFunc[[]tarpaulin/api.Wake,tarpaulin/api.Wake] -/
def Y_211_1 (C : CS) (k : KS) (x0 x1 : AV) (S : St) : Prop :=
 C 218 [x0, x1] S fun v1 S1 =>
 bGe v1 (.i .i64 0) S1 fun v2 S2 =>
 k v2 S2
def Z_211 (C : CS) (vs : List AV) (S : St) (k : KS) : Prop := ar2 ((fun (C : CS) (k : KS) (a0 a1 : AV) (S : St) => Y_211_1 C k a0 a1 S) C k) vs S
theorem z_211 {F : Nat → Option AFn} (h : ∀ f, Nat.beq f 4 = false → F f = tbl f) : FnOk F 211 Z_211 := fn2 ((h 211 (by kernel_rfl)).trans c211) (Y := fun (C : CS) (k : KS) (a0 a1 : AV) (S : St) => Y_211_1 C k a0 a1 S) fun C l t S k => xf (Y_211_1 C k (l 0) (l 1) S)
theorem c212 : tbl 212 = some (fnOf (tbl 212)) := by kernel_rfl
/-- (*tarpaulin/chanq.Chan).end$1 -/
def Y_212_1 (C : CS) (k : KS) (x0 x1 : AV) (S : St) : Prop :=
 bBox x0 S fun v1 S1 =>
 bFad 0 v1 S1 fun v2 S2 =>
 bLd v2 S2 fun v3 S3 =>
 bFad 0 x1 S3 fun v4 S4 =>
 bLd v4 S4 fun v5 S5 =>
 bEq v3 v5 S5 fun v6 S6 =>
 k v6 S6
def Z_212 (C : CS) (vs : List AV) (S : St) (k : KS) : Prop := ar2 ((fun (C : CS) (k : KS) (a0 a1 : AV) (S : St) => Y_212_1 C k a0 a1 S) C k) vs S
theorem z_212 {F : Nat → Option AFn} (h : ∀ f, Nat.beq f 4 = false → F f = tbl f) : FnOk F 212 Z_212 := fn2 ((h 212 (by kernel_rfl)).trans c212) (Y := fun (C : CS) (k : KS) (a0 a1 : AV) (S : St) => Y_212_1 C k a0 a1 S) fun C l t S k => xf (Y_212_1 C k (l 0) (l 1) S)
theorem c213 : tbl 213 = some (fnOf (tbl 213)) := by kernel_rfl
/-- (*tarpaulin/wait.Queue).Remove$1 -/
def Y_213_1 (C : CS) (k : KS) (x0 x1 : AV) (S : St) : Prop :=
 bBox x0 S fun v1 S1 =>
 bFad 0 v1 S1 fun v2 S2 =>
 bLd v2 S2 fun v3 S3 =>
 bLd x1 S3 fun v4 S4 =>
 bEq v3 v4 S4 fun v5 S5 =>
 k v5 S5
def Z_213 (C : CS) (vs : List AV) (S : St) (k : KS) : Prop := ar2 ((fun (C : CS) (k : KS) (a0 a1 : AV) (S : St) => Y_213_1 C k a0 a1 S) C k) vs S
theorem z_213 {F : Nat → Option AFn} (h : ∀ f, Nat.beq f 4 = false → F f = tbl f) : FnOk F 213 Z_213 := fn2 ((h 213 (by kernel_rfl)).trans c213) (Y := fun (C : CS) (k : KS) (a0 a1 : AV) (S : St) => Y_213_1 C k a0 a1 S) fun C l t S k => xf (Y_213_1 C k (l 0) (l 1) S)
theorem c214 : tbl 214 = some (fnOf (tbl 214)) := by kernel_rfl
/-- slices.IndexFunc[[]tarpaulin/api.Wait,tarpaulin/api.Wait] -/
def Y_214_3 (C : CS) (k : KS) (S : St) : Prop :=
 k (.i .i64 (-1)) S
def Y_214_7 (C : CS) (k : KS) (k1 : AV → AV → AV → AV → St → Prop) (x0 x1 x7 x8 : AV) (S : St) : Prop :=
 bLt x8 x7 S fun v1 S1 =>
 condX v1
 (bIad 3 x0 x8 S1 fun v2 S2 =>
 bLdN 3 v2 S2 fun v3 S3 =>
 sCv C [x1, v3] S3 fun v4 S4 =>
 condX v4
 (k x8 S4)
 (bAdd x8 (.i .i64 1) S4 fun v5 S5 =>
 k1 x0 x1 x7 v5 S5))
 (Y_214_3 C k S1)
def Y_214_4 (C : CS) (k : KS) (x0 x1 : AV) (S : St) : Prop :=
 bLen x0 S fun v1 S1 =>
 lp4 (Y_214_7 C k) x0 x1 v1 (.i .i64 0) S1
def Y_214_1 (C : CS) (k : KS) (x0 x1 : AV) (S : St) : Prop :=
 Y_214_4 C k x0 x1 S
def Z_214 (C : CS) (vs : List AV) (S : St) (k : KS) : Prop := ar2 ((fun (C : CS) (k : KS) (a0 a1 : AV) (S : St) => Y_214_1 C k a0 a1 S) C k) vs S
theorem z_214 {F : Nat → Option AFn} (h : ∀ f, Nat.beq f 4 = false → F f = tbl f) : FnOk F 214 Z_214 := fn2 ((h 214 (by kernel_rfl)).trans c214) (Y := fun (C : CS) (k : KS) (a0 a1 : AV) (S : St) => Y_214_1 C k a0 a1 S) fun C l t S k => xS (fun l t S => xS (fun l t S => xf (Y_214_3 C k S)) (xS (fun l t S => xB (xL4 0 1 7 8 (Y_214_7 C k) (fun l t S k1 => xf (Y_214_7 C k k1 (l 0) (l 1) (l 7) (l 8) S)) (xf (lp4 (Y_214_7 C k) (l 0) (l 1) (l 7) (l 8) S)))) (xf (Y_214_4 C k (l 0) (l 1) S)))) (xf (Y_214_1 C k (l 0) (l 1) S))
theorem c215 : tbl 215 = some (fnOf (tbl 215)) := by kernel_rfl
/-- (*tarpaulin/wait.Queue).Len -/
def Y_215_1 (C : CS) (k : KS) (x0 : AV) (S : St) : Prop :=
 sR (.eq false .ptr) [x0, (.p none)] S fun v1 S1 =>
 condX v1
 (k (.i .i64 0) S1)
 (bNil x0 S1 fun v2 S2 =>
 bFad 2 v2 S2 fun v3 S3 =>
 bLd v3 S3 fun v4 S4 =>
 k v4 S4)
def Z_215 (C : CS) (vs : List AV) (S : St) (k : KS) : Prop := ar1 ((fun (C : CS) (k : KS) (a0 : AV) (S : St) => Y_215_1 C k a0 S) C k) vs S
theorem z_215 {F : Nat → Option AFn} (h : ∀ f, Nat.beq f 4 = false → F f = tbl f) : FnOk F 215 Z_215 := fn1 ((h 215 (by kernel_rfl)).trans c215) (Y := fun (C : CS) (k : KS) (a0 : AV) (S : St) => Y_215_1 C k a0 S) fun C l t S k => xf (Y_215_1 C k (l 0) S)
theorem c216 : tbl 216 = some (fnOf (tbl 216)) := by kernel_rfl
/-- cmp.Or[int] -/
def Y_216_4 (C : CS) (k : KS) (x3 : AV) (S : St) : Prop :=
 k x3 S
def Y_216_8 (C : CS) (k : KS) (k1 : AV → AV → AV → AV → St → Prop) (x3 x6 x7 x8 : AV) (S : St) : Prop :=
 bLt x8 x7 S fun v1 S1 =>
 condX v1
 (bIad 1 x6 x8 S1 fun v2 S2 =>
 bLd v2 S2 fun v3 S3 =>
 bNe v3 x3 S3 fun v4 S4 =>
 condX v4
 (k v3 S4)
 (bAdd x8 (.i .i64 1) S4 fun v5 S5 =>
 k1 x3 x6 x7 v5 S5))
 (Y_216_4 C k x3 S1)
def Y_216_5 (C : CS) (k : KS) (x0 x3 : AV) (S : St) : Prop :=
 bLen x0 S fun v1 S1 =>
 lp4 (Y_216_8 C k) x3 x0 v1 (.i .i64 0) S1
def Y_216_2 (C : CS) (k : KS) (x0 : AV) (S : St) : Prop :=
 Y_216_5 C k x0 (.i .i64 0) S
def Y_216_1 (C : CS) (k : KS) (x0 : AV) (S : St) : Prop :=
 Y_216_2 C k x0 S
def Z_216 (C : CS) (vs : List AV) (S : St) (k : KS) : Prop := ar1 ((fun (C : CS) (k : KS) (a0 : AV) (S : St) => Y_216_1 C k a0 S) C k) vs S
theorem z_216 {F : Nat → Option AFn} (h : ∀ f, Nat.beq f 4 = false → F f = tbl f) : FnOk F 216 Z_216 := fn1 ((h 216 (by kernel_rfl)).trans c216) (Y := fun (C : CS) (k : KS) (a0 : AV) (S : St) => Y_216_1 C k a0 S) fun C l t S k => xS (fun l t S => xS (fun l t S => xS (fun l t S => xf (Y_216_4 C k (l 3) S)) (xS (fun l t S => xB (xL4 3 6 7 8 (Y_216_8 C k) (fun l t S k1 => xf (Y_216_8 C k k1 (l 3) (l 6) (l 7) (l 8) S)) (xf (lp4 (Y_216_8 C k) (l 3) (l 6) (l 7) (l 8) S)))) (xf (Y_216_5 C k (l 0) (l 3) S)))) (xf (Y_216_2 C k (l 0) S))) (xf (Y_216_1 C k (l 0) S))
theorem c217 : tbl 217 = some (fnOf (tbl 217)) := by kernel_rfl
/-- cmp.Compare[int] -/
def Y_217_1 (C : CS) (k : KS) (x0 x1 : AV) (S : St) : Prop :=
 C 219 [x0] S fun v1 S1 =>
 C 219 [x1] S1 fun v2 S2 =>
 condX v1
 (condX v2
 (k (.i .i64 0) S2)
 (k (.i .i64 (-1)) S2))
 (condX v2
 (k (.i .i64 1) S2)
 (bLt x0 x1 S2 fun v3 S3 =>
 condX v3
 (k (.i .i64 (-1)) S3)
 (bGt x0 x1 S3 fun v4 S4 =>
 condX v4
 (k (.i .i64 1) S4)
 (k (.i .i64 0) S4))))
def Z_217 (C : CS) (vs : List AV) (S : St) (k : KS) : Prop := ar2 ((fun (C : CS) (k : KS) (a0 a1 : AV) (S : St) => Y_217_1 C k a0 a1 S) C k) vs S
theorem z_217 {F : Nat → Option AFn} (h : ∀ f, Nat.beq f 4 = false → F f = tbl f) : FnOk F 217 Z_217 := fn2 ((h 217 (by kernel_rfl)).trans c217) (Y := fun (C : CS) (k : KS) (a0 a1 : AV) (S : St) => Y_217_1 C k a0 a1 S) fun C l t S k => xf (Y_217_1 C k (l 0) (l 1) S)
theorem c218 : tbl 218 = some (fnOf (tbl 218)) := by kernel_rfl
/-- slices.IndexFunc[[]tarpaulin/api.Wake,tarpaulin/api.Wake] -/
def Y_218_3 (C : CS) (k : KS) (S : St) : Prop :=
 k (.i .i64 (-1)) S
def Y_218_7 (C : CS) (k : KS) (k1 : AV → AV → AV → AV → St → Prop) (x0 x1 x7 x8 : AV) (S : St) : Prop :=
 bLt x8 x7 S fun v1 S1 =>
 condX v1
 (bIad 5 x0 x8 S1 fun v2 S2 =>
 bLdN 5 v2 S2 fun v3 S3 =>
 sCv C [x1, v3] S3 fun v4 S4 =>
 condX v4
 (k x8 S4)
 (bAdd x8 (.i .i64 1) S4 fun v5 S5 =>
 k1 x0 x1 x7 v5 S5))
 (Y_218_3 C k S1)
def Y_218_4 (C : CS) (k : KS) (x0 x1 : AV) (S : St) : Prop :=
 bLen x0 S fun v1 S1 =>
 lp4 (Y_218_7 C k) x0 x1 v1 (.i .i64 0) S1
def Y_218_1 (C : CS) (k : KS) (x0 x1 : AV) (S : St) : Prop :=
 Y_218_4 C k x0 x1 S
def Z_218 (C : CS) (vs : List AV) (S : St) (k : KS) : Prop := ar2 ((fun (C : CS) (k : KS) (a0 a1 : AV) (S : St) => Y_218_1 C k a0 a1 S) C k) vs S
theorem z_218 {F : Nat → Option AFn} (h : ∀ f, Nat.beq f 4 = false → F f = tbl f) : FnOk F 218 Z_218 := fn2 ((h 218 (by kernel_rfl)).trans c218) (Y := fun (C : CS) (k : KS) (a0 a1 : AV) (S : St) => Y_218_1 C k a0 a1 S) fun C l t S k => xS (fun l t S => xS (fun l t S => xf (Y_218_3 C k S)) (xS (fun l t S => xB (xL4 0 1 7 8 (Y_218_7 C k) (fun l t S k1 => xf (Y_218_7 C k k1 (l 0) (l 1) (l 7) (l 8) S)) (xf (lp4 (Y_218_7 C k) (l 0) (l 1) (l 7) (l 8) S)))) (xf (Y_218_4 C k (l 0) (l 1) S)))) (xf (Y_218_1 C k (l 0) (l 1) S))
theorem c219 : tbl 219 = some (fnOf (tbl 219)) := by kernel_rfl
/-- cmp.isNaN[int] -/
def Y_219_1 (C : CS) (k : KS) (x0 : AV) (S : St) : Prop :=
 bNe x0 x0 S fun v1 S1 =>
 k v1 S1
def Z_219 (C : CS) (vs : List AV) (S : St) (k : KS) : Prop := ar1 ((fun (C : CS) (k : KS) (a0 : AV) (S : St) => Y_219_1 C k a0 S) C k) vs S
theorem z_219 {F : Nat → Option AFn} (h : ∀ f, Nat.beq f 4 = false → F f = tbl f) : FnOk F 219 Z_219 := fn1 ((h 219 (by kernel_rfl)).trans c219) (Y := fun (C : CS) (k : KS) (a0 : AV) (S : St) => Y_219_1 C k a0 S) fun C l t S k => xf (Y_219_1 C k (l 0) S)
end
end Go.Proofs.YtncheglelcphcaaGreat.T
