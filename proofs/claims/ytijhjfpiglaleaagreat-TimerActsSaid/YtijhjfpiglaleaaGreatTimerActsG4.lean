/- The texts GenB_p1 of a proof of TimerActs, merged. -/
import Derived.Test.YtijhjfpiglaleaaGreatTimerActsG3
set_option linter.unusedVariables false
set_option maxRecDepth 100000
namespace Go.AM
def q_f69_4 (N : TN) : ACode := (.regD [oQ (36,.mv,[.l 0]),oQ (37,.bslice [.i .i64 0,.i .i64 0,.i .i64 0] 0 3 [],[]),oQ (38,.mv,[.l 0]),oQ (39,.nilchk,[.t 38]),oQ (40,.fad 0,[.t 39]),oQ (41,.ld none,[.t 40]),oQ (42,.mv,[.l 6]),oQ (43,.slc 3 false true false,[.t 41,.t 42]),oQ (44,.app 3 24,[.t 37,.t 43]),oQ (45,.mv,[.l 1]),oQ (46,.mv,[.l 2]),oQ (47,.mv,[.l 0]),oQ (48,.nilchk,[.t 47]),oQ (49,.fad 1,[.t 48]),oQ (50,.ld none,[.t 49]),oQ (51,.build [.i .i64 0,.i .i64 0,.i .i64 0] [(0,1),(1,1),(2,1)],[.t 45,.t 46,.t 50]),oQ (52,.bslice [.i .i64 0,.i .i64 0,.i .i64 0] 1 3 [0],[.t 51]),oQ (53,.app 3 24,[.t 44,.t 52]),oQ (54,.mv,[.l 0]),oQ (55,.nilchk,[.t 54]),oQ (56,.fad 0,[.t 55]),oQ (57,.ld none,[.t 56]),oQ (58,.mv,[.l 6]),oQ (59,.slc 3 true false false,[.t 57,.t 58]),oQ (60,.app 3 24,[.t 53,.t 59]),oQ (61,.nilchk,[.t 36]),oQ (62,.fad 0,[.t 61]),⟨.no,none,.st 1,[.t 62,.t 60]⟩] [(14,0),(21,0),(21,9)])
noncomputable def D_f69_4 (F:TF)(N:TN)(Q:TQ) (x0 x1 x2 x6:AV) (L : Lg) : Prop :=
 wpOp F (.bslice [.i .i64 0,.i .i64 0,.i .i64 0] 0 3 []) [] L fun v1 L1=>
 wpOp F .nilchk [x0] L1 fun v2 L2=>
 wpOp F (.fad 0) [v2] L2 fun v3 L3=>
 wpOp F (.ld none) [v3] L3 fun v4 L4=>
 wpOp F (.slc 3 false true false) [v4,x6] L4 fun v5 L5=>
 wpOp F (.app 3 24) [v1,v5] L5 fun v6 L6=>
 wpOp F .nilchk [x0] L6 fun v7 L7=>
 wpOp F (.fad 1) [v7] L7 fun v8 L8=>
 wpOp F (.ld none) [v8] L8 fun v9 L9=>
 wpOp F (.build [.i .i64 0,.i .i64 0,.i .i64 0] [(0,1),(1,1),(2,1)]) [x1,x2,v9] L9 fun v10 L10=>
 wpOp F (.bslice [.i .i64 0,.i .i64 0,.i .i64 0] 1 3 [0]) [v10] L10 fun v11 L11=>
 wpOp F (.app 3 24) [v6,v11] L11 fun v12 L12=>
 wpOp F .nilchk [x0] L12 fun v13 L13=>
 wpOp F (.fad 0) [v13] L13 fun v14 L14=>
 wpOp F (.ld none) [v14] L14 fun v15 L15=>
 wpOp F (.slc 3 true false false) [v15,x6] L15 fun v16 L16=>
 wpOp F (.app 3 24) [v12,v16] L16 fun v17 L17=>
 wpOp F .nilchk [x0] L17 fun v18 L18=>
 wpOp F (.fad 0) [v18] L18 fun v19 L19=>
 wpOp F (.st 1) [v19,v17] L19 fun _ L20=>
 (againV (.ld none) [v8] L8 L ∧ againV (.ld none) [v14] L14 L ∧ againV (.ld none) [v14] L14 L6 ∧ True) ∧ (fin1 (some (.tup [])) Q L20)
theorem e_f69_4 (F:TF)(N:TN)(Q:TQ) (l t : Env) (L : Lg) : wp F (q_f69_4 N) l t L (fin [] Q) nE (fin [] Q) = D_f69_4 F N Q (l 0) (l 1) (l 2) (l 6) L := by kernel_rfl
def w_f69_3 (F:TF)(N:TN)(Q:TQ) : Kn := (fun (l t : Env) (L : Lg) => D_f69_4 F N Q (l 0) (l 1) (l 2) (l 6) L)
def y_f69_5 (F:TF)(N:TN)(Q:TQ) : Nat → Kn := (fun (j : Nat) (l t : Env) (L : Lg) => bif Nat.beq j 0 then (w_f69_3 F N Q) l t L else nE j l t L)
def q_f69_7 (N : TN) : ACode := (.seq (.seq (.reg [oQ (19,.mv,[.l 6]),oQ (20,.bin .gtr,[.t 19,.c (.i .i64 0)]),oQ (21,.mv,[.t 20]),gQ (22,21,true,.mv,[.l 0]),gQ (23,21,true,.nilchk,[.t 22]),gQ (24,21,true,.fad 0,[.t 23]),gQ (25,21,true,.ld none,[.t 24]),gQ (26,21,true,.mv,[.l 6]),gQ (27,21,true,.bin .sub,[.t 26,.c (.i .i64 1)]),gQ (28,21,true,.iad 3,[.t 25,.t 27]),gQ (29,21,true,.fad 1,[.t 28]),gQ (30,21,true,.ld none,[.t 29]),gQ (31,21,true,.mv,[.l 2]),gQ (32,21,true,.bin .gtr,[.t 30,.t 31]),oQ (33,.pick,[.t 21,.t 32,.c (.b false)])]) (.cond (.t 33) .skip (.exit 0))) (.block 1 (.reg [oQ (34,.mv,[.l 6]),oQ (35,.bin .sub,[.t 34,.c (.i .i64 1)]),⟨.l 6,none,.mv,[.t 35]⟩])))
noncomputable def D_f69_7 (F:TF)(N:TN)(Q:TQ) (k1 : TK) (l : Env) (L : Lg) : Prop :=
 wpOp F (.bin .gtr) [(l 6),(.i .i64 0)] L fun v1 L1=>
 gdOp F v1 true .mv [(l 0)] L1 fun v2 L2=>
 gdOp F v1 true .nilchk [v2] L2 fun v3 L3=>
 gdOp F v1 true (.fad 0) [v3] L3 fun v4 L4=>
 gdOp F v1 true (.ld none) [v4] L4 fun v5 L5=>
 gdOp F v1 true .mv [(l 6)] L5 fun v6 L6=>
 gdOp F v1 true (.bin .sub) [v6,(.i .i64 1)] L6 fun v7 L7=>
 gdOp F v1 true (.iad 3) [v5,v7] L7 fun v8 L8=>
 gdOp F v1 true (.fad 1) [v8] L8 fun v9 L9=>
 gdOp F v1 true (.ld none) [v9] L9 fun v10 L10=>
 gdOp F v1 true .mv [(l 2)] L10 fun v11 L11=>
 gdOp F v1 true (.bin .gtr) [v10,v11] L11 fun v12 L12=>
 wpOp F .pick [v1,v12,(.b false)] L12 fun v13 L13=>
 condW v13
 (wpOp F (.bin .sub) [(l 6),(.i .i64 1)] L13 fun v14 L14=>
 k1 (Env.put l 6 v14) L14)
 (D_f69_4 F N Q (l 0) (l 1) (l 2) (l 6) L13)
theorem e_f69_7 (F:TF)(N:TN)(Q:TQ) (k1 : TK) (l t : Env) (L : Lg) : wp F (q_f69_7 N) l t L (fun (l _ : Env) (L : Lg) => k1 l L) (y_f69_5 F N Q) (fin [] Q) = D_f69_7 F N Q k1 l L := by kernel_rfl
def q_f69_6 (N : TN) : ACode := (.loop (q_f69_7 N))
noncomputable def D_f69_6 (F:TF)(N:TN)(Q:TQ) (l : Env) (L : Lg) : Prop :=
 loopW (fun l t L k1 => D_f69_7 F N Q k1 l L) l L
theorem e_f69_6 (F:TF)(N:TN)(Q:TQ) (l t : Env) (L : Lg) : wp F (q_f69_6 N) l t L (w_f69_3 F N Q) (y_f69_5 F N Q) (fin [] Q) = D_f69_6 F N Q l L := wpL (fun l t L k1 => e_f69_7 F N Q k1 l t L) (by kernel_rfl)
def q_f69_5 (N : TN) : ACode := (.block 0 (q_f69_6 N))
theorem e_f69_5 (F:TF)(N:TN)(Q:TQ) (l t : Env) (L : Lg) : wp F (q_f69_5 N) l t L (w_f69_3 F N Q) nE (fin [] Q) = D_f69_6 F N Q l L := wpB (e_f69_6 F N Q l t L)
def q_f69_3 (N : TN) : ACode := (.seq (q_f69_5 N) (q_f69_4 N))
theorem e_f69_3 (F:TF)(N:TN)(Q:TQ) (l t : Env) (L : Lg) : wp F (q_f69_3 N) l t L (fin [] Q) nE (fin [] Q) = D_f69_6 F N Q l L := wpS (e_f69_4 F N Q) (e_f69_5 F N Q l t L)
def q_f69_2a (N : TN) : ACode := (.reg [oQ (14,.mv,[.l 0]),oQ (15,.nilchk,[.t 14]),oQ (16,.fad 0,[.t 15]),oQ (17,.ld none,[.t 16]),oQ (18,.lenSl,[.t 17]),⟨.l 6,none,.mv,[.t 18]⟩])
def q_f69_2 (N : TN) : ACode := (.seq (q_f69_2a N) (q_f69_3 N))
noncomputable def D_f69_2 (F:TF)(N:TN)(Q:TQ) (l : Env) (L : Lg) : Prop :=
 wpOp F .nilchk [(l 0)] L fun v1 L1=>
 wpOp F (.fad 0) [v1] L1 fun v2 L2=>
 wpOp F (.ld none) [v2] L2 fun v3 L3=>
 wpOp F .lenSl [v3] L3 fun v4 L4=>
 D_f69_6 F N Q (Env.put l 6 v4) L4
theorem e_f69_2 (F:TF)(N:TN)(Q:TQ) (l t : Env) (L : Lg) : wp F (q_f69_2 N) l t L (fin [] Q) nE (fin [] Q) = D_f69_2 F N Q l L := wpS (e_f69_3 F N Q) (by kernel_rfl)
def q_f69_1a (N : TN) : ACode := (.reg [oQ (7,.mv,[.l 0]),oQ (8,.nilchk,[.t 7]),oQ (9,.fad 1,[.t 8]),oQ (10,.ld none,[.t 9]),oQ (11,.bin .add,[.t 10,.c (.i .i64 1)]),oQ (12,.nilchk,[.t 7]),oQ (13,.fad 1,[.t 12]),⟨.no,none,.st 1,[.t 13,.t 11]⟩])
def q_f69_1 (N : TN) : ACode := (.seq (q_f69_1a N) (q_f69_2 N))
noncomputable def D_f69_1 (F:TF)(N:TN)(Q:TQ) (l : Env) (L : Lg) : Prop :=
 wpOp F .nilchk [(l 0)] L fun v1 L1=>
 wpOp F (.fad 1) [v1] L1 fun v2 L2=>
 wpOp F (.ld none) [v2] L2 fun v3 L3=>
 wpOp F (.bin .add) [v3,(.i .i64 1)] L3 fun v4 L4=>
 wpOp F .nilchk [(l 0)] L4 fun v5 L5=>
 wpOp F (.fad 1) [v5] L5 fun v6 L6=>
 wpOp F (.st 1) [v6,v4] L6 fun _ L7=>
 D_f69_2 F N Q l L7
theorem e_f69_1 (F:TF)(N:TN)(Q:TQ) (l t : Env) (L : Lg) : wp F (q_f69_1 N) l t L (fin [] Q) nE (fin [] Q) = D_f69_1 F N Q l L := wpS (e_f69_2 F N Q) (by kernel_rfl)
def c_f69 (N : TN) : AFn := ⟨q_f69_1 N,[]⟩
structure H_f69 (N : TN) (F : TF) : Prop where
  code : F (N k_f69) = some (c_f69 N)
theorem r_f69 {F : TF} {N : TN} (h : F (N k_f69) = some (c_f69 N)) {Q : TQ} {a0 a1 a2 : AV} {L : Lg} (e : D_f69_1 F N Q (initE [a0,a1,a2] 0) L) : CallL F (N k_f69) [a0,a1,a2] L Q :=
  CallL.of_wp h (Eq.mpr (Eq.trans (e_f69_1 F N Q (initE [a0,a1,a2] 0) Env.nil L) (by kernel_rfl : _ = D_f69_1 F N Q (initE [a0,a1,a2] 0) L)) e)
def q_f70_1 (N : TN) : ACode := (.seq (.reg [⟨.l 8,none,.mv,[.c (.i .i64 0)]⟩]) (.seq (.seq (.reg [oQ (9,.mv,[.l 2]),oQ (10,.bin .lss,[.t 9,.c (.i .i64 0)]),oQ (11,.mv,[.t 10]),gQ (12,11,false,.mv,[.l 2]),gQ (13,11,false,.bin .gtr,[.t 12,.c (.i .i64 4611686018427387904)]),oQ (14,.pick,[.t 11,.c (.b true),.t 13]),oQ (15,.mv,[.t 14]),gQ (16,15,false,.mv,[.l 3]),gQ (17,15,false,.bin .lss,[.t 16,.c (.i .i64 0)]),oQ (18,.pick,[.t 15,.c (.b true),.t 17]),oQ (19,.mv,[.t 18]),gQ (20,19,false,.mv,[.l 3]),gQ (21,19,false,.bin .gtr,[.t 20,.c (.i .i64 4611686018427387904)]),oQ (22,.pick,[.t 19,.c (.b true),.t 21])]) (.cond (.t 22) (.seq (.reg [⟨.l 8,none,.mv,[.c (.i .i64 1)]⟩]) .ret) .skip)) (.seq (.reg [oQ (23,.mv,[.l 0]),oQ (24,.mv,[.l 1]),oQ (25,.call (N k_f68),[.t 23,.t 24])]) (.seq (.reg [oQ (26,.mv,[.l 0]),oQ (27,.nilchk,[.t 26]),oQ (28,.fad 0,[.t 27]),oQ (29,.mv,[.l 1]),oQ (30,.mv,[.l 2]),oQ (31,.call (N k_f69),[.t 28,.t 29,.t 30])]) (.seq (.reg [oQ (32,.mv,[.l 0]),oQ (33,.mv,[.l 0]),oQ (34,.nilchk,[.t 33]),oQ (35,.fad 2,[.t 34]),oQ (36,.ld none,[.t 35]),oQ (37,.mv,[.l 1]),oQ (38,.mv,[.l 3]),oQ (39,.build [.i .i64 0,.i .i64 0,.i .i64 0] [(0,1),(1,1)],[.t 37,.t 38]),oQ (40,.bslice [.i .i64 0,.i .i64 0,.i .i64 0] 1 3 [0],[.t 39]),oQ (41,.app 3 24,[.t 36,.t 40]),oQ (42,.nilchk,[.t 32]),oQ (43,.fad 2,[.t 42]),⟨.no,none,.st 1,[.t 43,.t 41]⟩]) (.seq (.reg [⟨.l 8,none,.mv,[.c (.i .i64 0)]⟩]) .ret))))))
noncomputable def D_f70_1 (F:TF)(N:TN)(Q:TQ) (x0 x1 x2 x3:AV) (L : Lg) : Prop :=
 wpOp F (.bin .lss) [x2,(.i .i64 0)] L fun v1 L1=>
 gdOp F v1 false .mv [x2] L1 fun v2 L2=>
 gdOp F v1 false (.bin .gtr) [v2,(.i .i64 4611686018427387904)] L2 fun v3 L3=>
 wpOp F .pick [v1,(.b true),v3] L3 fun v4 L4=>
 gdOp F v4 false .mv [x3] L4 fun v5 L5=>
 gdOp F v4 false (.bin .lss) [v5,(.i .i64 0)] L5 fun v6 L6=>
 wpOp F .pick [v4,(.b true),v6] L6 fun v7 L7=>
 gdOp F v7 false .mv [x3] L7 fun v8 L8=>
 gdOp F v7 false (.bin .gtr) [v8,(.i .i64 4611686018427387904)] L8 fun v9 L9=>
 wpOp F .pick [v7,(.b true),v9] L9 fun v10 L10=>
 condW v10
 (fin1 (some (.i .i64 1)) Q L10)
 (CallL F (N k_f68) [x0,x1] L10 fun v11 L11=>
 wpOp F .nilchk [x0] L11 fun v12 L12=>
 wpOp F (.fad 0) [v12] L12 fun v13 L13=>
 CallL F (N k_f69) [v13,x1,x2] L13 fun v14 L14=>
 wpOp F .nilchk [x0] L14 fun v15 L15=>
 wpOp F (.fad 2) [v15] L15 fun v16 L16=>
 wpOp F (.ld none) [v16] L16 fun v17 L17=>
 wpOp F (.build [.i .i64 0,.i .i64 0,.i .i64 0] [(0,1),(1,1)]) [x1,x3] L17 fun v18 L18=>
 wpOp F (.bslice [.i .i64 0,.i .i64 0,.i .i64 0] 1 3 [0]) [v18] L18 fun v19 L19=>
 wpOp F (.app 3 24) [v17,v19] L19 fun v20 L20=>
 wpOp F .nilchk [x0] L20 fun v21 L21=>
 wpOp F (.fad 2) [v21] L21 fun v22 L22=>
 wpOp F (.st 1) [v22,v20] L22 fun _ L23=>
 fin1 (some (.i .i64 0)) Q L23)
theorem e_f70_1 (F:TF)(N:TN)(Q:TQ) (l t : Env) (L : Lg) : wp F (q_f70_1 N) l t L (fin [.tmp (.l 8)] Q) nE (fin [.tmp (.l 8)] Q) = D_f70_1 F N Q (l 0) (l 1) (l 2) (l 3) L := by kernel_rfl
def c_f70 (N : TN) : AFn := ⟨q_f70_1 N,[.tmp (.l 8)]⟩
structure H_f70 (N : TN) (F : TF) : Prop where
  code : F (N k_f70) = some (c_f70 N)
  f68 : H_f68 N F
  f69 : H_f69 N F
theorem r_f70 {F : TF} {N : TN} (h : F (N k_f70) = some (c_f70 N)) {Q : TQ} {a0 a1 a2 a3 : AV} {L : Lg} (e : D_f70_1 F N Q a0 a1 a2 a3 L) : CallL F (N k_f70) [a0,a1,a2,a3] L Q :=
  CallL.of_wp h (Eq.mpr (Eq.trans (e_f70_1 F N Q (initE [a0,a1,a2,a3] 0) Env.nil L) (by kernel_rfl : _ = D_f70_1 F N Q a0 a1 a2 a3 L)) e)
def q_f71_1 (N : TN) : ACode := (.seq (.reg [⟨.l 8,none,.mv,[.c (.i .i64 0)]⟩]) (.seq (.seq (.reg [oQ (9,.mv,[.l 0]),oQ (10,.nilchk,[.t 9]),oQ (11,.fad 3,[.t 10]),oQ (12,.ld none,[.t 11]),oQ (13,.mv,[.l 1]),oQ (14,.iad 4,[.t 12,.t 13]),oQ (15,.fad 0,[.t 14]),oQ (16,.ld none,[.t 15]),oQ (17,.bin .eql,[.t 16,.c (.i .i64 2)])]) (.cond (.t 17) (.reg [oQ (18,.mv,[.l 3]),oQ (19,.call (N k_f63),[.t 18]),⟨.l 8,none,.mv,[.t 19]⟩]) .skip)) (.reg [oQ (20,.mv,[.l 0]),oQ (21,.nilchk,[.t 20]),oQ (22,.fad 0,[.t 21]),oQ (23,.mv,[.l 1]),oQ (24,.mv,[.l 2]),oQ (25,.mv,[.l 3]),oQ (26,.call (N k_f63),[.t 25]),oQ (27,.call (N k_f65),[.t 24,.t 26]),oQ (28,.mv,[.l 8]),oQ (29,.call (N k_f70),[.t 22,.t 23,.t 27,.t 28])])))
noncomputable def D_f71_1 (F:TF)(N:TN)(Q:TQ) (x0 x1 x2 x3:AV) (L : Lg) : Prop :=
 wpOp F .nilchk [x0] L fun v1 L1=>
 wpOp F (.fad 3) [v1] L1 fun v2 L2=>
 wpOp F (.ld none) [v2] L2 fun v3 L3=>
 wpOp F (.iad 4) [v3,x1] L3 fun v4 L4=>
 wpOp F (.fad 0) [v4] L4 fun v5 L5=>
 wpOp F (.ld none) [v5] L5 fun v6 L6=>
 wpOp F (.bin .eql) [v6,(.i .i64 2)] L6 fun v7 L7=>
 condW v7
 (CallL F (N k_f63) [x3] L7 fun v8 L8=>
 wpOp F .nilchk [x0] L8 fun v9 L9=>
 wpOp F (.fad 0) [v9] L9 fun v10 L10=>
 CallL F (N k_f63) [x3] L10 fun v11 L11=>
 CallL F (N k_f65) [x2,v11] L11 fun v12 L12=>
 CallL F (N k_f70) [v10,x1,v12,v8] L12 fun v13 L13=>
 fin1 (some (.tup [])) Q L13)
 (wpOp F .nilchk [x0] L7 fun v14 L14=>
 wpOp F (.fad 0) [v14] L14 fun v15 L15=>
 CallL F (N k_f63) [x3] L15 fun v16 L16=>
 CallL F (N k_f65) [x2,v16] L16 fun v17 L17=>
 CallL F (N k_f70) [v15,x1,v17,(.i .i64 0)] L17 fun v18 L18=>
 fin1 (some (.tup [])) Q L18)
theorem e_f71_1 (F:TF)(N:TN)(Q:TQ) (l t : Env) (L : Lg) : wp F (q_f71_1 N) l t L (fin [] Q) nE (fin [] Q) = D_f71_1 F N Q (l 0) (l 1) (l 2) (l 3) L := by kernel_rfl
def c_f71 (N : TN) : AFn := ⟨q_f71_1 N,[]⟩
structure H_f71 (N : TN) (F : TF) : Prop where
  code : F (N k_f71) = some (c_f71 N)
  f63 : H_f63 N F
  f65 : H_f65 N F
  f70 : H_f70 N F
theorem r_f71 {F : TF} {N : TN} (h : F (N k_f71) = some (c_f71 N)) {Q : TQ} {a0 a1 a2 a3 : AV} {L : Lg} (e : D_f71_1 F N Q a0 a1 a2 a3 L) : CallL F (N k_f71) [a0,a1,a2,a3] L Q :=
  CallL.of_wp h (Eq.mpr (Eq.trans (e_f71_1 F N Q (initE [a0,a1,a2,a3] 0) Env.nil L) (by kernel_rfl : _ = D_f71_1 F N Q a0 a1 a2 a3 L)) e)
def q_f72_7 (N : TN) : ACode := (.seq (.reg [oQ (51,.mv,[.l 0]),oQ (52,.mv,[.l 0]),oQ (53,.nilchk,[.t 52]),oQ (54,.fad 3,[.t 53]),oQ (55,.ld none,[.t 54]),oQ (56,.ld (some 4),[.l 12]),oQ (57,.bslice [.i .i64 0,.i .i64 0,.p none,.i .i64 0] 1 4 [0],[.t 56]),oQ (58,.app 4 32,[.t 55,.t 57]),oQ (59,.nilchk,[.t 51]),oQ (60,.fad 3,[.t 59]),⟨.no,none,.st 1,[.t 60,.t 58]⟩]) (.seq (.reg [oQ (61,.mv,[.l 0]),oQ (62,.nilchk,[.t 61]),oQ (63,.fad 3,[.t 62]),oQ (64,.ld none,[.t 63]),oQ (65,.lenSl,[.t 64]),oQ (66,.bin .sub,[.t 65,.c (.i .i64 1)]),⟨.l 13,none,.mv,[.t 66]⟩]) (.seq (.reg [oQ (67,.mv,[.l 0]),oQ (68,.mv,[.l 13]),oQ (69,.mv,[.l 2]),oQ (70,.mv,[.l 3]),oQ (71,.call (N k_f71),[.t 67,.t 68,.t 69,.t 70])]) (.seq (.reg [oQ (72,.mv,[.l 13]),⟨.l 10,none,.mv,[.t 72]⟩,⟨.l 11,none,.mv,[.c (.i .i64 0)]⟩]) .ret))))
noncomputable def D_f72_7 (F:TF)(N:TN)(Q:TQ) (x0 x2 x3 x12:AV) (L : Lg) : Prop :=
 wpOp F .nilchk [x0] L fun v1 L1=>
 wpOp F (.fad 3) [v1] L1 fun v2 L2=>
 wpOp F (.ld none) [v2] L2 fun v3 L3=>
 wpOp F (.ld (some 4)) [x12] L3 fun v4 L4=>
 wpOp F (.bslice [.i .i64 0,.i .i64 0,.p none,.i .i64 0] 1 4 [0]) [v4] L4 fun v5 L5=>
 wpOp F (.app 4 32) [v3,v5] L5 fun v6 L6=>
 wpOp F .nilchk [x0] L6 fun v7 L7=>
 wpOp F (.fad 3) [v7] L7 fun v8 L8=>
 wpOp F (.st 1) [v8,v6] L8 fun _ L9=>
 wpOp F .nilchk [x0] L9 fun v10 L10=>
 wpOp F (.fad 3) [v10] L10 fun v11 L11=>
 wpOp F (.ld none) [v11] L11 fun v12 L12=>
 wpOp F .lenSl [v12] L12 fun v13 L13=>
 wpOp F (.bin .sub) [v13,(.i .i64 1)] L13 fun v14 L14=>
 CallL F (N k_f71) [x0,v14,x2,x3] L14 fun v15 L15=>
 fin1 (some (.tup [v14,(.i .i64 0)])) Q L15
theorem e_f72_7 (F:TF)(N:TN)(Q:TQ) (l t : Env) (L : Lg) : wp F (q_f72_7 N) l t L (fin [.tmp (.l 10),.tmp (.l 11)] Q) nE (fin [.tmp (.l 10),.tmp (.l 11)] Q) = D_f72_7 F N Q (l 0) (l 2) (l 3) (l 12) L := by kernel_rfl
def q_f72_6a (N : TN) : ACode := (.seq (.reg [oQ (47,.mv,[.l 1]),oQ (48,.bin .neq,[.t 47,.c (.i .i64 3)])]) (.cond (.t 48) (.reg [oQ (49,.call (N k_f62),[]),oQ (50,.fad 2,[.l 12]),⟨.no,none,.st 1,[.t 50,.t 49]⟩]) .skip))
def q_f72_6 (N : TN) : ACode := (.seq (q_f72_6a N) (q_f72_7 N))
noncomputable def D_f72_6 (F:TF)(N:TN)(Q:TQ) (x0 x1 x2 x3 x12:AV) (L : Lg) : Prop :=
 wpOp F (.bin .neq) [x1,(.i .i64 3)] L fun v1 L1=>
 condW v1
 (CallL F (N k_f62) [] L1 fun v2 L2=>
 wpOp F (.fad 2) [x12] L2 fun v3 L3=>
 wpOp F (.st 1) [v3,v2] L3 fun _ L4=>
 D_f72_7 F N Q x0 x2 x3 x12 L4)
 (D_f72_7 F N Q x0 x2 x3 x12 L1)
theorem e_f72_6 (F:TF)(N:TN)(Q:TQ) (l t : Env) (L : Lg) : wp F (q_f72_6 N) l t L (fin [.tmp (.l 10),.tmp (.l 11)] Q) nE (fin [.tmp (.l 10),.tmp (.l 11)] Q) = D_f72_6 F N Q (l 0) (l 1) (l 2) (l 3) (l 12) L := wpS (e_f72_7 F N Q) (by kernel_rfl)
def q_f72_5a (N : TN) : ACode := (.reg [oQ (44,.mv,[.l 1]),oQ (45,.mv,[.l 4]),oQ (46,.build [.i .i64 0,.i .i64 0,.p none,.i .i64 0] [(0,1),(1,1),(3,1)],[.t 44,.t 45,.c (.i .i64 1)]),⟨.l 12,none,.alloc [.i .i64 0,.i .i64 0,.p none,.i .i64 0],[]⟩,⟨.no,none,.st 4,[.l 12,.t 46]⟩])
def q_f72_5 (N : TN) : ACode := (.seq (q_f72_5a N) (q_f72_6 N))
noncomputable def D_f72_5 (F:TF)(N:TN)(Q:TQ) (x0 x1 x2 x3 x4:AV) (L : Lg) : Prop :=
 wpOp F (.build [.i .i64 0,.i .i64 0,.p none,.i .i64 0] [(0,1),(1,1),(3,1)]) [x1,x4,(.i .i64 1)] L fun v1 L1=>
 wpOp F (.alloc [.i .i64 0,.i .i64 0,.p none,.i .i64 0]) [] L1 fun v2 L2=>
 wpOp F (.st 4) [v2,v1] L2 fun _ L3=>
 D_f72_6 F N Q x0 x1 x2 x3 v2 L3
theorem e_f72_5 (F:TF)(N:TN)(Q:TQ) (l t : Env) (L : Lg) : wp F (q_f72_5 N) l t L (fin [.tmp (.l 10),.tmp (.l 11)] Q) nE (fin [.tmp (.l 10),.tmp (.l 11)] Q) = D_f72_5 F N Q (l 0) (l 1) (l 2) (l 3) (l 4) L := wpS (e_f72_6 F N Q) (by kernel_rfl)
def q_f72_4a (N : TN) : ACode := (.reg [oQ (37,.mv,[.l 0]),oQ (38,.nilchk,[.t 37]),oQ (39,.fad 4,[.t 38]),oQ (40,.ld none,[.t 39]),oQ (41,.bin .add,[.t 40,.c (.i .i64 1)]),oQ (42,.nilchk,[.t 37]),oQ (43,.fad 4,[.t 42]),⟨.no,none,.st 1,[.t 43,.t 41]⟩])
def q_f72_4 (N : TN) : ACode := (.seq (q_f72_4a N) (q_f72_5 N))
noncomputable def D_f72_4 (F:TF)(N:TN)(Q:TQ) (x0 x1 x2 x3 x4:AV) (L : Lg) : Prop :=
 wpOp F .nilchk [x0] L fun v1 L1=>
 wpOp F (.fad 4) [v1] L1 fun v2 L2=>
 wpOp F (.ld none) [v2] L2 fun v3 L3=>
 wpOp F (.bin .add) [v3,(.i .i64 1)] L3 fun v4 L4=>
 wpOp F .nilchk [x0] L4 fun v5 L5=>
 wpOp F (.fad 4) [v5] L5 fun v6 L6=>
 wpOp F (.st 1) [v6,v4] L6 fun _ L7=>
 D_f72_5 F N Q x0 x1 x2 x3 x4 L7
theorem e_f72_4 (F:TF)(N:TN)(Q:TQ) (l t : Env) (L : Lg) : wp F (q_f72_4 N) l t L (fin [.tmp (.l 10),.tmp (.l 11)] Q) nE (fin [.tmp (.l 10),.tmp (.l 11)] Q) = D_f72_4 F N Q (l 0) (l 1) (l 2) (l 3) (l 4) L := wpS (e_f72_5 F N Q) (by kernel_rfl)
def q_f72_3a (N : TN) : ACode := (.seq (.reg [oQ (32,.mv,[.l 0]),oQ (33,.nilchk,[.t 32]),oQ (34,.fad 4,[.t 33]),oQ (35,.ld none,[.t 34]),oQ (36,.bin .geq,[.t 35,.c (.i .i64 64)])]) (.cond (.t 36) (.seq (.reg [⟨.l 10,none,.mv,[.c (.i .i64 0)]⟩,⟨.l 11,none,.mv,[.c (.i .i64 3)]⟩]) .ret) .skip))
def q_f72_3 (N : TN) : ACode := (.seq (q_f72_3a N) (q_f72_4 N))
noncomputable def D_f72_3 (F:TF)(N:TN)(Q:TQ) (x0 x1 x2 x3 x4:AV) (L : Lg) : Prop :=
 wpOp F .nilchk [x0] L fun v1 L1=>
 wpOp F (.fad 4) [v1] L1 fun v2 L2=>
 wpOp F (.ld none) [v2] L2 fun v3 L3=>
 wpOp F (.bin .geq) [v3,(.i .i64 64)] L3 fun v4 L4=>
 condW v4
 (fin1 (some (.tup [(.i .i64 0),(.i .i64 3)])) Q L4)
 (D_f72_4 F N Q x0 x1 x2 x3 x4 L4)
theorem e_f72_3 (F:TF)(N:TN)(Q:TQ) (l t : Env) (L : Lg) : wp F (q_f72_3 N) l t L (fin [.tmp (.l 10),.tmp (.l 11)] Q) nE (fin [.tmp (.l 10),.tmp (.l 11)] Q) = D_f72_3 F N Q (l 0) (l 1) (l 2) (l 3) (l 4) L := wpS (e_f72_4 F N Q) (by kernel_rfl)
def q_f72_2a (N : TN) : ACode := (.seq (.reg [oQ (14,.mv,[.l 2]),oQ (15,.bin .lss,[.t 14,.c (.i .i64 0)]),oQ (16,.mv,[.t 15]),gQ (17,16,false,.mv,[.l 2]),gQ (18,16,false,.bin .gtr,[.t 17,.c (.i .i64 4611686018427387904)]),oQ (19,.pick,[.t 16,.c (.b true),.t 18]),oQ (20,.mv,[.t 19]),gQ (21,20,false,.mv,[.l 4]),gQ (22,20,false,.bin .lss,[.t 21,.c (.i .i64 0)]),oQ (23,.pick,[.t 20,.c (.b true),.t 22]),oQ (24,.mv,[.t 23]),gQ (25,24,false,.mv,[.l 1]),gQ (26,24,false,.bin .eql,[.t 25,.c (.i .i64 2)]),gQ (27,24,false,.mv,[.t 26]),gQ (28,27,true,.mv,[.l 3]),gQ (29,27,true,.bin .lss,[.t 28,.c (.i .i64 1)]),gQ (30,24,false,.pick,[.t 27,.t 29,.c (.b false)]),oQ (31,.pick,[.t 24,.c (.b true),.t 30])]) (.cond (.t 31) (.seq (.reg [⟨.l 10,none,.mv,[.c (.i .i64 0)]⟩,⟨.l 11,none,.mv,[.c (.i .i64 1)]⟩]) .ret) .skip))
def q_f72_2 (N : TN) : ACode := (.seq (q_f72_2a N) (q_f72_3 N))
noncomputable def D_f72_2 (F:TF)(N:TN)(Q:TQ) (x0 x1 x2 x3 x4:AV) (L : Lg) : Prop :=
 wpOp F (.bin .lss) [x2,(.i .i64 0)] L fun v1 L1=>
 gdOp F v1 false .mv [x2] L1 fun v2 L2=>
 gdOp F v1 false (.bin .gtr) [v2,(.i .i64 4611686018427387904)] L2 fun v3 L3=>
 wpOp F .pick [v1,(.b true),v3] L3 fun v4 L4=>
 gdOp F v4 false .mv [x4] L4 fun v5 L5=>
 gdOp F v4 false (.bin .lss) [v5,(.i .i64 0)] L5 fun v6 L6=>
 wpOp F .pick [v4,(.b true),v6] L6 fun v7 L7=>
 gdOp F v7 false .mv [x1] L7 fun v8 L8=>
 gdOp F v7 false (.bin .eql) [v8,(.i .i64 2)] L8 fun v9 L9=>
 gdOp F v7 false .mv [v9] L9 fun v10 L10=>
 gdOp F v10 true .mv [x3] L10 fun v11 L11=>
 gdOp F v10 true (.bin .lss) [v11,(.i .i64 1)] L11 fun v12 L12=>
 gdOp F v7 false .pick [v10,v12,(.b false)] L12 fun v13 L13=>
 wpOp F .pick [v7,(.b true),v13] L13 fun v14 L14=>
 condW v14
 (fin1 (some (.tup [(.i .i64 0),(.i .i64 1)])) Q L14)
 (D_f72_3 F N Q x0 x1 x2 x3 x4 L14)
theorem e_f72_2 (F:TF)(N:TN)(Q:TQ) (l t : Env) (L : Lg) : wp F (q_f72_2 N) l t L (fin [.tmp (.l 10),.tmp (.l 11)] Q) nE (fin [.tmp (.l 10),.tmp (.l 11)] Q) = D_f72_2 F N Q (l 0) (l 1) (l 2) (l 3) (l 4) L := wpS (e_f72_3 F N Q) (by kernel_rfl)
def q_f72_1a (N : TN) : ACode := (.reg [⟨.l 10,none,.mv,[.c (.i .i64 0)]⟩,⟨.l 11,none,.mv,[.c (.i .i64 0)]⟩])
def q_f72_1 (N : TN) : ACode := (.seq (q_f72_1a N) (q_f72_2 N))
noncomputable def D_f72_1 (F:TF)(N:TN)(Q:TQ) (x0 x1 x2 x3 x4:AV) (L : Lg) : Prop :=
 D_f72_2 F N Q x0 x1 x2 x3 x4 L
theorem e_f72_1 (F:TF)(N:TN)(Q:TQ) (l t : Env) (L : Lg) : wp F (q_f72_1 N) l t L (fin [.tmp (.l 10),.tmp (.l 11)] Q) nE (fin [.tmp (.l 10),.tmp (.l 11)] Q) = D_f72_1 F N Q (l 0) (l 1) (l 2) (l 3) (l 4) L := wpS (e_f72_2 F N Q) (by kernel_rfl)
def c_f72 (N : TN) : AFn := ⟨q_f72_1 N,[.tmp (.l 10),.tmp (.l 11)]⟩
structure H_f72 (N : TN) (F : TF) : Prop where
  code : F (N k_f72) = some (c_f72 N)
  f62 : H_f62 N F
  f71 : H_f71 N F
theorem r_f72 {F : TF} {N : TN} (h : F (N k_f72) = some (c_f72 N)) {Q : TQ} {a0 a1 a2 a3 a4 : AV} {L : Lg} (e : D_f72_1 F N Q a0 a1 a2 a3 a4 L) : CallL F (N k_f72) [a0,a1,a2,a3,a4] L Q :=
  CallL.of_wp h (Eq.mpr (Eq.trans (e_f72_1 F N Q (initE [a0,a1,a2,a3,a4] 0) Env.nil L) (by kernel_rfl : _ = D_f72_1 F N Q a0 a1 a2 a3 a4 L)) e)
def q_f73_1 (N : TN) : ACode := (.seq (.reg [⟨.l 8,none,.mv,[.c (.i .i64 0)]⟩,⟨.l 9,none,.mv,[.c (.p none)]⟩,⟨.l 10,none,.mv,[.c (.i .i64 0)]⟩]) (.seq (.reg [oQ (14,.mv,[.l 0]),oQ (15,.mv,[.l 1]),oQ (16,.mv,[.l 2]),oQ (17,.mv,[.l 3]),oQ (18,.call (N k_f72),[.t 14,.t 15,.t 16,.t 17,.c (.i .i64 0)]),oQ (13,.mv,[.t 18]),oQ (19,.ext 0,[.t 13]),oQ (20,.ext 1,[.t 13]),⟨.l 11,none,.mv,[.t 19]⟩,⟨.l 12,none,.mv,[.t 20]⟩]) (.seq (.seq (.reg [oQ (21,.mv,[.l 12]),oQ (22,.bin .neq,[.t 21,.c (.i .i64 0)])]) (.cond (.t 22) (.seq (.reg [oQ (23,.mv,[.l 12]),⟨.l 8,none,.mv,[.c (.i .i64 0)]⟩,⟨.l 9,none,.mv,[.c (.p none)]⟩,⟨.l 10,none,.mv,[.t 23]⟩]) .ret) .skip)) (.seq (.reg [oQ (24,.mv,[.l 11]),oQ (25,.mv,[.l 0]),oQ (26,.nilchk,[.t 25]),oQ (27,.fad 3,[.t 26]),oQ (28,.ld none,[.t 27]),oQ (29,.mv,[.l 11]),oQ (30,.iad 4,[.t 28,.t 29]),oQ (31,.fad 2,[.t 30]),oQ (32,.ld none,[.t 31]),⟨.l 8,none,.mv,[.t 24]⟩,⟨.l 9,none,.mv,[.t 32]⟩,⟨.l 10,none,.mv,[.c (.i .i64 0)]⟩]) .ret))))
noncomputable def D_f73_1 (F:TF)(N:TN)(Q:TQ) (x0 x1 x2 x3:AV) (L : Lg) : Prop :=
 CallL F (N k_f72) [x0,x1,x2,x3,(.i .i64 0)] L fun v1 L1=>
 wpOp F (.ext 0) [v1] L1 fun v2 L2=>
 wpOp F (.ext 1) [v1] L2 fun v3 L3=>
 wpOp F (.bin .neq) [v3,(.i .i64 0)] L3 fun v4 L4=>
 condW v4
 (fin1 (some (.tup [(.i .i64 0),(.p none),v3])) Q L4)
 (wpOp F .nilchk [x0] L4 fun v5 L5=>
 wpOp F (.fad 3) [v5] L5 fun v6 L6=>
 wpOp F (.ld none) [v6] L6 fun v7 L7=>
 wpOp F (.iad 4) [v7,v2] L7 fun v8 L8=>
 wpOp F (.fad 2) [v8] L8 fun v9 L9=>
 wpOp F (.ld none) [v9] L9 fun v10 L10=>
 fin1 (some (.tup [v2,v10,(.i .i64 0)])) Q L10)
theorem e_f73_1 (F:TF)(N:TN)(Q:TQ) (l t : Env) (L : Lg) : wp F (q_f73_1 N) l t L (fin [.tmp (.l 8),.tmp (.l 9),.tmp (.l 10)] Q) nE (fin [.tmp (.l 8),.tmp (.l 9),.tmp (.l 10)] Q) = D_f73_1 F N Q (l 0) (l 1) (l 2) (l 3) L := by kernel_rfl
def c_f73 (N : TN) : AFn := ⟨q_f73_1 N,[.tmp (.l 8),.tmp (.l 9),.tmp (.l 10)]⟩
structure H_f73 (N : TN) (F : TF) : Prop where
  code : F (N k_f73) = some (c_f73 N)
  f72 : H_f72 N F
theorem r_f73 {F : TF} {N : TN} (h : F (N k_f73) = some (c_f73 N)) {Q : TQ} {a0 a1 a2 a3 : AV} {L : Lg} (e : D_f73_1 F N Q a0 a1 a2 a3 L) : CallL F (N k_f73) [a0,a1,a2,a3] L Q :=
  CallL.of_wp h (Eq.mpr (Eq.trans (e_f73_1 F N Q (initE [a0,a1,a2,a3] 0) Env.nil L) (by kernel_rfl : _ = D_f73_1 F N Q a0 a1 a2 a3 L)) e)
def q_f74_1 (N : TN) : ACode := (.seq (.reg [⟨.l 6,none,.mv,[.c (.i .i64 0)]⟩,⟨.l 7,none,.mv,[.c (.p none)]⟩,⟨.l 8,none,.mv,[.c (.i .i64 0)]⟩]) (.seq (.reg [oQ (9,.mv,[.l 0]),oQ (10,.mv,[.l 1]),oQ (11,.mv,[.l 2]),oQ (12,.call (N k_f73),[.t 9,.c (.i .i64 1),.t 10,.t 11]),oQ (13,.ext 0,[.t 12]),oQ (14,.ext 1,[.t 12]),oQ (15,.ext 2,[.t 12]),⟨.l 6,none,.mv,[.t 13]⟩,⟨.l 7,none,.mv,[.t 14]⟩,⟨.l 8,none,.mv,[.t 15]⟩]) .ret))
noncomputable def D_f74_1 (F:TF)(N:TN)(Q:TQ) (x0 x1 x2:AV) (L : Lg) : Prop :=
 CallL F (N k_f73) [x0,(.i .i64 1),x1,x2] L fun v1 L1=>
 wpOp F (.ext 0) [v1] L1 fun v2 L2=>
 wpOp F (.ext 1) [v1] L2 fun v3 L3=>
 wpOp F (.ext 2) [v1] L3 fun v4 L4=>
 fin1 (some (.tup [v2,v3,v4])) Q L4
theorem e_f74_1 (F:TF)(N:TN)(Q:TQ) (l t : Env) (L : Lg) : wp F (q_f74_1 N) l t L (fin [.tmp (.l 6),.tmp (.l 7),.tmp (.l 8)] Q) nE (fin [.tmp (.l 6),.tmp (.l 7),.tmp (.l 8)] Q) = D_f74_1 F N Q (l 0) (l 1) (l 2) L := by kernel_rfl
def c_f74 (N : TN) : AFn := ⟨q_f74_1 N,[.tmp (.l 6),.tmp (.l 7),.tmp (.l 8)]⟩
structure H_f74 (N : TN) (F : TF) : Prop where
  code : F (N k_f74) = some (c_f74 N)
  f73 : H_f73 N F
theorem r_f74 {F : TF} {N : TN} (h : F (N k_f74) = some (c_f74 N)) {Q : TQ} {a0 a1 a2 : AV} {L : Lg} (e : D_f74_1 F N Q a0 a1 a2 L) : CallL F (N k_f74) [a0,a1,a2] L Q :=
  CallL.of_wp h (Eq.mpr (Eq.trans (e_f74_1 F N Q (initE [a0,a1,a2] 0) Env.nil L) (by kernel_rfl : _ = D_f74_1 F N Q a0 a1 a2 L)) e)
def q_f75_1 (N : TN) : ACode := (.seq (.reg [⟨.l 6,none,.mv,[.c (.i .i64 0)]⟩,⟨.l 7,none,.mv,[.c (.p none)]⟩,⟨.l 8,none,.mv,[.c (.i .i64 0)]⟩]) (.seq (.reg [oQ (9,.mv,[.l 0]),oQ (10,.mv,[.l 1]),oQ (11,.mv,[.l 2]),oQ (12,.call (N k_f73),[.t 9,.c (.i .i64 2),.t 10,.t 11]),oQ (13,.ext 0,[.t 12]),oQ (14,.ext 1,[.t 12]),oQ (15,.ext 2,[.t 12]),⟨.l 6,none,.mv,[.t 13]⟩,⟨.l 7,none,.mv,[.t 14]⟩,⟨.l 8,none,.mv,[.t 15]⟩]) .ret))
noncomputable def D_f75_1 (F:TF)(N:TN)(Q:TQ) (x0 x1 x2:AV) (L : Lg) : Prop :=
 CallL F (N k_f73) [x0,(.i .i64 2),x1,x2] L fun v1 L1=>
 wpOp F (.ext 0) [v1] L1 fun v2 L2=>
 wpOp F (.ext 1) [v1] L2 fun v3 L3=>
 wpOp F (.ext 2) [v1] L3 fun v4 L4=>
 fin1 (some (.tup [v2,v3,v4])) Q L4
theorem e_f75_1 (F:TF)(N:TN)(Q:TQ) (l t : Env) (L : Lg) : wp F (q_f75_1 N) l t L (fin [.tmp (.l 6),.tmp (.l 7),.tmp (.l 8)] Q) nE (fin [.tmp (.l 6),.tmp (.l 7),.tmp (.l 8)] Q) = D_f75_1 F N Q (l 0) (l 1) (l 2) L := by kernel_rfl
def c_f75 (N : TN) : AFn := ⟨q_f75_1 N,[.tmp (.l 6),.tmp (.l 7),.tmp (.l 8)]⟩
structure H_f75 (N : TN) (F : TF) : Prop where
  code : F (N k_f75) = some (c_f75 N)
  f73 : H_f73 N F
theorem r_f75 {F : TF} {N : TN} (h : F (N k_f75) = some (c_f75 N)) {Q : TQ} {a0 a1 a2 : AV} {L : Lg} (e : D_f75_1 F N Q a0 a1 a2 L) : CallL F (N k_f75) [a0,a1,a2] L Q :=
  CallL.of_wp h (Eq.mpr (Eq.trans (e_f75_1 F N Q (initE [a0,a1,a2] 0) Env.nil L) (by kernel_rfl : _ = D_f75_1 F N Q a0 a1 a2 L)) e)
def q_f76_1 (N : TN) : ACode := (.seq (.reg [⟨.l 8,none,.mv,[.c (.i .i64 0)]⟩,⟨.l 9,none,.mv,[.c (.i .i64 0)]⟩]) (.seq (.reg [oQ (10,.mv,[.l 0]),oQ (11,.mv,[.l 1]),oQ (12,.mv,[.l 2]),oQ (13,.mv,[.l 3]),oQ (14,.call (N k_f72),[.t 10,.c (.i .i64 3),.t 11,.t 12,.t 13]),oQ (15,.ext 0,[.t 14]),oQ (16,.ext 1,[.t 14]),⟨.l 8,none,.mv,[.t 15]⟩,⟨.l 9,none,.mv,[.t 16]⟩]) .ret))
noncomputable def D_f76_1 (F:TF)(N:TN)(Q:TQ) (x0 x1 x2 x3:AV) (L : Lg) : Prop :=
 CallL F (N k_f72) [x0,(.i .i64 3),x1,x2,x3] L fun v1 L1=>
 wpOp F (.ext 0) [v1] L1 fun v2 L2=>
 wpOp F (.ext 1) [v1] L2 fun v3 L3=>
 fin1 (some (.tup [v2,v3])) Q L3
theorem e_f76_1 (F:TF)(N:TN)(Q:TQ) (l t : Env) (L : Lg) : wp F (q_f76_1 N) l t L (fin [.tmp (.l 8),.tmp (.l 9)] Q) nE (fin [.tmp (.l 8),.tmp (.l 9)] Q) = D_f76_1 F N Q (l 0) (l 1) (l 2) (l 3) L := by kernel_rfl
def c_f76 (N : TN) : AFn := ⟨q_f76_1 N,[.tmp (.l 8),.tmp (.l 9)]⟩
structure H_f76 (N : TN) (F : TF) : Prop where
  code : F (N k_f76) = some (c_f76 N)
  f72 : H_f72 N F
theorem r_f76 {F : TF} {N : TN} (h : F (N k_f76) = some (c_f76 N)) {Q : TQ} {a0 a1 a2 a3 : AV} {L : Lg} (e : D_f76_1 F N Q a0 a1 a2 a3 L) : CallL F (N k_f76) [a0,a1,a2,a3] L Q :=
  CallL.of_wp h (Eq.mpr (Eq.trans (e_f76_1 F N Q (initE [a0,a1,a2,a3] 0) Env.nil L) (by kernel_rfl : _ = D_f76_1 F N Q a0 a1 a2 a3 L)) e)
def q_f77_1 (N : TN) : ACode := (.seq (.reg [⟨.l 6,none,.mv,[.c (.i .i64 0)]⟩,⟨.l 7,none,.mv,[.c (.i .i64 0)]⟩]) (.seq (.seq (.reg [oQ (9,.mv,[.l 2]),oQ (10,.bin .lss,[.t 9,.c (.i .i64 0)])]) (.cond (.t 10) (.seq (.reg [⟨.l 6,none,.mv,[.c (.i .i64 0)]⟩,⟨.l 7,none,.mv,[.c (.i .i64 1)]⟩]) .ret) .skip)) (.seq (.reg [oQ (11,.mv,[.l 0]),oQ (12,.mv,[.l 0]),oQ (13,.nilchk,[.t 12]),oQ (14,.fad 3,[.t 13]),oQ (15,.ld none,[.t 14]),oQ (16,.mv,[.l 2]),oQ (17,.build [.i .i64 0,.i .i64 0,.p none,.i .i64 0] [(0,1),(1,1),(3,1)],[.c (.i .i64 4),.t 16,.c (.i .i64 1)]),oQ (18,.bslice [.i .i64 0,.i .i64 0,.p none,.i .i64 0] 1 4 [0],[.t 17]),oQ (19,.app 4 32,[.t 15,.t 18]),oQ (20,.nilchk,[.t 11]),oQ (21,.fad 3,[.t 20]),⟨.no,none,.st 1,[.t 21,.t 19]⟩]) (.seq (.reg [oQ (22,.mv,[.l 0]),oQ (23,.nilchk,[.t 22]),oQ (24,.fad 3,[.t 23]),oQ (25,.ld none,[.t 24]),oQ (26,.lenSl,[.t 25]),oQ (27,.bin .sub,[.t 26,.c (.i .i64 1)]),⟨.l 8,none,.mv,[.t 27]⟩]) (.seq (.reg [oQ (28,.mv,[.l 0]),oQ (29,.nilchk,[.t 28]),oQ (30,.fad 0,[.t 29]),oQ (31,.mv,[.l 8]),oQ (32,.mv,[.l 1]),oQ (33,.call (N k_f63),[.t 32]),oQ (34,.call (N k_f70),[.t 30,.t 31,.t 33,.c (.i .i64 0)])]) (.seq (.reg [oQ (35,.mv,[.l 8]),⟨.l 6,none,.mv,[.t 35]⟩,⟨.l 7,none,.mv,[.c (.i .i64 0)]⟩]) .ret))))))
noncomputable def D_f77_1 (F:TF)(N:TN)(Q:TQ) (x0 x1 x2:AV) (L : Lg) : Prop :=
 wpOp F (.bin .lss) [x2,(.i .i64 0)] L fun v1 L1=>
 condW v1
 (fin1 (some (.tup [(.i .i64 0),(.i .i64 1)])) Q L1)
 (wpOp F .nilchk [x0] L1 fun v2 L2=>
 wpOp F (.fad 3) [v2] L2 fun v3 L3=>
 wpOp F (.ld none) [v3] L3 fun v4 L4=>
 wpOp F (.build [.i .i64 0,.i .i64 0,.p none,.i .i64 0] [(0,1),(1,1),(3,1)]) [(.i .i64 4),x2,(.i .i64 1)] L4 fun v5 L5=>
 wpOp F (.bslice [.i .i64 0,.i .i64 0,.p none,.i .i64 0] 1 4 [0]) [v5] L5 fun v6 L6=>
 wpOp F (.app 4 32) [v4,v6] L6 fun v7 L7=>
 wpOp F .nilchk [x0] L7 fun v8 L8=>
 wpOp F (.fad 3) [v8] L8 fun v9 L9=>
 wpOp F (.st 1) [v9,v7] L9 fun _ L10=>
 wpOp F .nilchk [x0] L10 fun v11 L11=>
 wpOp F (.fad 3) [v11] L11 fun v12 L12=>
 wpOp F (.ld none) [v12] L12 fun v13 L13=>
 wpOp F .lenSl [v13] L13 fun v14 L14=>
 wpOp F (.bin .sub) [v14,(.i .i64 1)] L14 fun v15 L15=>
 wpOp F .nilchk [x0] L15 fun v16 L16=>
 wpOp F (.fad 0) [v16] L16 fun v17 L17=>
 CallL F (N k_f63) [x1] L17 fun v18 L18=>
 CallL F (N k_f70) [v17,v15,v18,(.i .i64 0)] L18 fun v19 L19=>
 fin1 (some (.tup [v15,(.i .i64 0)])) Q L19)
theorem e_f77_1 (F:TF)(N:TN)(Q:TQ) (l t : Env) (L : Lg) : wp F (q_f77_1 N) l t L (fin [.tmp (.l 6),.tmp (.l 7)] Q) nE (fin [.tmp (.l 6),.tmp (.l 7)] Q) = D_f77_1 F N Q (l 0) (l 1) (l 2) L := by kernel_rfl
def c_f77 (N : TN) : AFn := ⟨q_f77_1 N,[.tmp (.l 6),.tmp (.l 7)]⟩
structure H_f77 (N : TN) (F : TF) : Prop where
  code : F (N k_f77) = some (c_f77 N)
  f63 : H_f63 N F
  f70 : H_f70 N F
theorem r_f77 {F : TF} {N : TN} (h : F (N k_f77) = some (c_f77 N)) {Q : TQ} {a0 a1 a2 : AV} {L : Lg} (e : D_f77_1 F N Q a0 a1 a2 L) : CallL F (N k_f77) [a0,a1,a2] L Q :=
  CallL.of_wp h (Eq.mpr (Eq.trans (e_f77_1 F N Q (initE [a0,a1,a2] 0) Env.nil L) (by kernel_rfl : _ = D_f77_1 F N Q a0 a1 a2 L)) e)
def q_f78_1 (N : TN) : ACode := (.seq (.reg [⟨.l 4,none,.mv,[.c (.b false)]⟩]) (.seq (.reg [oQ (5,.mv,[.l 1]),oQ (6,.bin .geq,[.t 5,.c (.i .i64 0)]),oQ (7,.mv,[.t 6]),gQ (8,7,true,.mv,[.l 1]),gQ (9,7,true,.mv,[.l 0]),gQ (10,7,true,.nilchk,[.t 9]),gQ (11,7,true,.fad 3,[.t 10]),gQ (12,7,true,.ld none,[.t 11]),gQ (13,7,true,.lenSl,[.t 12]),gQ (14,7,true,.bin .lss,[.t 8,.t 13]),oQ (15,.pick,[.t 7,.t 14,.c (.b false)]),⟨.l 4,none,.mv,[.t 15]⟩]) .ret))
noncomputable def D_f78_1 (F:TF)(N:TN)(Q:TQ) (x0 x1:AV) (L : Lg) : Prop :=
 wpOp F (.bin .geq) [x1,(.i .i64 0)] L fun v1 L1=>
 gdOp F v1 true .mv [x1] L1 fun v2 L2=>
 gdOp F v1 true .mv [x0] L2 fun v3 L3=>
 gdOp F v1 true .nilchk [v3] L3 fun v4 L4=>
 gdOp F v1 true (.fad 3) [v4] L4 fun v5 L5=>
 gdOp F v1 true (.ld none) [v5] L5 fun v6 L6=>
 gdOp F v1 true .lenSl [v6] L6 fun v7 L7=>
 gdOp F v1 true (.bin .lss) [v2,v7] L7 fun v8 L8=>
 wpOp F .pick [v1,v8,(.b false)] L8 fun v9 L9=>
 fin1 (some v9) Q L9
theorem e_f78_1 (F:TF)(N:TN)(Q:TQ) (l t : Env) (L : Lg) : wp F (q_f78_1 N) l t L (fin [.tmp (.l 4)] Q) nE (fin [.tmp (.l 4)] Q) = D_f78_1 F N Q (l 0) (l 1) L := by kernel_rfl
def c_f78 (N : TN) : AFn := ⟨q_f78_1 N,[.tmp (.l 4)]⟩
structure H_f78 (N : TN) (F : TF) : Prop where
  code : F (N k_f78) = some (c_f78 N)
theorem r_f78 {F : TF} {N : TN} (h : F (N k_f78) = some (c_f78 N)) {Q : TQ} {a0 a1 : AV} {L : Lg} (e : D_f78_1 F N Q a0 a1 L) : CallL F (N k_f78) [a0,a1] L Q :=
  CallL.of_wp h (Eq.mpr (Eq.trans (e_f78_1 F N Q (initE [a0,a1] 0) Env.nil L) (by kernel_rfl : _ = D_f78_1 F N Q a0 a1 L)) e)
def q_f79_1 (N : TN) : ACode := (.seq (.reg [⟨.l 2,none,.mv,[.c (.b false)]⟩]) (.seq (.seq (.reg [oQ (3,.mv,[.l 0]),oQ (4,.eq false .ptr,[.t 3,.c (.p none)]),oQ (5,.mv,[.t 4]),gQ (6,5,false,.mv,[.l 0]),gQ (7,5,false,.nilchk,[.t 6]),gQ (8,5,false,.fad 1,[.t 7]),gQ (9,5,false,.ld none,[.t 8]),gQ (10,5,false,.un .not,[.t 9]),oQ (11,.pick,[.t 5,.c (.b true),.t 10]),oQ (12,.mv,[.t 11]),gQ (13,12,false,.mv,[.l 0]),gQ (14,12,false,.nilchk,[.t 13]),gQ (15,12,false,.fad 4,[.t 14]),gQ (16,12,false,.ld none,[.t 15]),gQ (17,12,false,.lenSl,[.t 16]),gQ (18,12,false,.bin .eql,[.t 17,.c (.i .i64 0)]),oQ (19,.pick,[.t 12,.c (.b true),.t 18])]) (.cond (.t 19) (.seq (.reg [⟨.l 2,none,.mv,[.c (.b false)]⟩]) .ret) .skip)) (.seq (.reg [oQ (20,.mv,[.l 0]),oQ (21,.nilchk,[.t 20]),oQ (22,.fad 4,[.t 21]),⟨.no,none,.st 1,[.t 22,.c (.sl none 0 0 0)]⟩]) (.seq (.reg [⟨.l 2,none,.mv,[.c (.b true)]⟩]) .ret))))
noncomputable def D_f79_1 (F:TF)(N:TN)(Q:TQ) (x0 : AV) (L : Lg) : Prop :=
 wpOp F (.eq false .ptr) [x0,(.p none)] L fun v1 L1=>
 gdOp F v1 false .mv [x0] L1 fun v2 L2=>
 gdOp F v1 false .nilchk [v2] L2 fun v3 L3=>
 gdOp F v1 false (.fad 1) [v3] L3 fun v4 L4=>
 gdOp F v1 false (.ld none) [v4] L4 fun v5 L5=>
 gdOp F v1 false (.un .not) [v5] L5 fun v6 L6=>
 wpOp F .pick [v1,(.b true),v6] L6 fun v7 L7=>
 gdOp F v7 false .mv [x0] L7 fun v8 L8=>
 gdOp F v7 false .nilchk [v8] L8 fun v9 L9=>
 gdOp F v7 false (.fad 4) [v9] L9 fun v10 L10=>
 gdOp F v7 false (.ld none) [v10] L10 fun v11 L11=>
 gdOp F v7 false .lenSl [v11] L11 fun v12 L12=>
 gdOp F v7 false (.bin .eql) [v12,(.i .i64 0)] L12 fun v13 L13=>
 wpOp F .pick [v7,(.b true),v13] L13 fun v14 L14=>
 condW v14
 (fin1 (some (.b false)) Q L14)
 (wpOp F .nilchk [x0] L14 fun v15 L15=>
 wpOp F (.fad 4) [v15] L15 fun v16 L16=>
 wpOp F (.st 1) [v16,(.sl none 0 0 0)] L16 fun _ L17=>
 fin1 (some (.b true)) Q L17)
theorem e_f79_1 (F:TF)(N:TN)(Q:TQ) (l t : Env) (L : Lg) : wp F (q_f79_1 N) l t L (fin [.tmp (.l 2)] Q) nE (fin [.tmp (.l 2)] Q) = D_f79_1 F N Q (l 0) L := by kernel_rfl
def c_f79 (N : TN) : AFn := ⟨q_f79_1 N,[.tmp (.l 2)]⟩
structure H_f79 (N : TN) (F : TF) : Prop where
  code : F (N k_f79) = some (c_f79 N)
theorem r_f79 {F : TF} {N : TN} (h : F (N k_f79) = some (c_f79 N)) {Q : TQ} {a0 : AV} {L : Lg} (e : D_f79_1 F N Q a0 L) : CallL F (N k_f79) [a0] L Q :=
  CallL.of_wp h (Eq.mpr (Eq.trans (e_f79_1 F N Q (initE [a0] 0) Env.nil L) (by kernel_rfl : _ = D_f79_1 F N Q a0 L)) e)
def q_f80_1 (N : TN) : ACode := (.seq (.reg [⟨.l 4,none,.mv,[.c (.b false)]⟩,⟨.l 5,none,.mv,[.c (.i .i64 0)]⟩]) (.seq (.seq (.reg [oQ (8,.mv,[.l 0]),oQ (9,.mv,[.l 1]),oQ (10,.call (N k_f78),[.t 8,.t 9]),oQ (11,.un .not,[.t 10])]) (.cond (.t 11) (.seq (.reg [⟨.l 4,none,.mv,[.c (.b false)]⟩,⟨.l 5,none,.mv,[.c (.i .i64 4)]⟩]) .ret) .skip)) (.seq (.reg [oQ (12,.mv,[.l 0]),oQ (13,.nilchk,[.t 12]),oQ (14,.fad 0,[.t 13]),oQ (15,.mv,[.l 1]),oQ (16,.call (N k_f68),[.t 14,.t 15]),⟨.l 6,none,.mv,[.t 16]⟩]) (.seq (.reg [oQ (17,.mv,[.l 0]),oQ (18,.nilchk,[.t 17]),oQ (19,.fad 3,[.t 18]),oQ (20,.ld none,[.t 19]),oQ (21,.mv,[.l 1]),oQ (22,.iad 4,[.t 20,.t 21]),oQ (23,.fad 2,[.t 22]),oQ (24,.ld none,[.t 23]),oQ (25,.call (N k_f79),[.t 24]),⟨.l 7,none,.mv,[.t 25]⟩]) (.seq (.reg [oQ (26,.mv,[.l 6]),oQ (27,.mv,[.t 26]),gQ (28,27,false,.mv,[.l 7]),oQ (29,.pick,[.t 27,.c (.b true),.t 28]),⟨.l 4,none,.mv,[.t 29]⟩,⟨.l 5,none,.mv,[.c (.i .i64 0)]⟩]) .ret)))))
noncomputable def D_f80_1 (F:TF)(N:TN)(Q:TQ) (x0 x1:AV) (L : Lg) : Prop :=
 CallL F (N k_f78) [x0,x1] L fun v1 L1=>
 wpOp F (.un .not) [v1] L1 fun v2 L2=>
 condW v2
 (fin1 (some (.tup [(.b false),(.i .i64 4)])) Q L2)
 (wpOp F .nilchk [x0] L2 fun v3 L3=>
 wpOp F (.fad 0) [v3] L3 fun v4 L4=>
 CallL F (N k_f68) [v4,x1] L4 fun v5 L5=>
 wpOp F .nilchk [x0] L5 fun v6 L6=>
 wpOp F (.fad 3) [v6] L6 fun v7 L7=>
 wpOp F (.ld none) [v7] L7 fun v8 L8=>
 wpOp F (.iad 4) [v8,x1] L8 fun v9 L9=>
 wpOp F (.fad 2) [v9] L9 fun v10 L10=>
 wpOp F (.ld none) [v10] L10 fun v11 L11=>
 CallL F (N k_f79) [v11] L11 fun v12 L12=>
 gdOp F v5 false .mv [v12] L12 fun v13 L13=>
 wpOp F .pick [v5,(.b true),v13] L13 fun v14 L14=>
 fin1 (some (.tup [v14,(.i .i64 0)])) Q L14)
theorem e_f80_1 (F:TF)(N:TN)(Q:TQ) (l t : Env) (L : Lg) : wp F (q_f80_1 N) l t L (fin [.tmp (.l 4),.tmp (.l 5)] Q) nE (fin [.tmp (.l 4),.tmp (.l 5)] Q) = D_f80_1 F N Q (l 0) (l 1) L := by kernel_rfl
def c_f80 (N : TN) : AFn := ⟨q_f80_1 N,[.tmp (.l 4),.tmp (.l 5)]⟩
structure H_f80 (N : TN) (F : TF) : Prop where
  code : F (N k_f80) = some (c_f80 N)
  f78 : H_f78 N F
  f68 : H_f68 N F
  f79 : H_f79 N F
theorem r_f80 {F : TF} {N : TN} (h : F (N k_f80) = some (c_f80 N)) {Q : TQ} {a0 a1 : AV} {L : Lg} (e : D_f80_1 F N Q a0 a1 L) : CallL F (N k_f80) [a0,a1] L Q :=
  CallL.of_wp h (Eq.mpr (Eq.trans (e_f80_1 F N Q (initE [a0,a1] 0) Env.nil L) (by kernel_rfl : _ = D_f80_1 F N Q a0 a1 L)) e)
def q_f81_3 (N : TN) : ACode := (.seq (.reg [oQ (50,.mv,[.l 0]),oQ (51,.mv,[.l 1]),oQ (52,.call (N k_f80),[.t 50,.t 51]),oQ (49,.mv,[.t 52]),oQ (53,.ext 0,[.t 49]),oQ (54,.ext 1,[.t 49]),⟨.l 10,none,.mv,[.t 53]⟩,oQ (11,.mv,[.t 54])]) (.seq (.reg [oQ (55,.mv,[.l 0]),oQ (56,.mv,[.l 1]),oQ (57,.mv,[.l 2]),oQ (58,.mv,[.l 3]),oQ (59,.call (N k_f71),[.t 55,.t 56,.t 57,.t 58])]) (.seq (.reg [oQ (60,.mv,[.l 0]),oQ (61,.nilchk,[.t 60]),oQ (62,.fad 3,[.t 61]),oQ (63,.ld none,[.t 62]),oQ (64,.mv,[.l 1]),oQ (65,.iad 4,[.t 63,.t 64]),oQ (66,.fad 3,[.t 65]),oQ (67,.ld none,[.t 66]),oQ (68,.bin .add,[.t 67,.c (.i .i64 1)]),oQ (69,.iad 4,[.t 63,.t 64]),oQ (70,.fad 3,[.t 69]),⟨.no,none,.st 1,[.t 70,.t 68]⟩]) (.seq (.reg [oQ (71,.mv,[.l 10]),⟨.l 8,none,.mv,[.t 71]⟩,⟨.l 9,none,.mv,[.c (.i .i64 0)]⟩]) .ret))))
noncomputable def D_f81_3 (F:TF)(N:TN)(Q:TQ) (x0 x1 x2 x3:AV) (L : Lg) : Prop :=
 CallL F (N k_f80) [x0,x1] L fun v1 L1=>
 wpOp F (.ext 0) [v1] L1 fun v2 L2=>
 wpOp F (.ext 1) [v1] L2 fun v3 L3=>
 CallL F (N k_f71) [x0,x1,x2,x3] L3 fun v4 L4=>
 wpOp F .nilchk [x0] L4 fun v5 L5=>
 wpOp F (.fad 3) [v5] L5 fun v6 L6=>
 wpOp F (.ld none) [v6] L6 fun v7 L7=>
 wpOp F (.iad 4) [v7,x1] L7 fun v8 L8=>
 wpOp F (.fad 3) [v8] L8 fun v9 L9=>
 wpOp F (.ld none) [v9] L9 fun v10 L10=>
 wpOp F (.bin .add) [v10,(.i .i64 1)] L10 fun v11 L11=>
 wpOp F (.iad 4) [v7,x1] L11 fun v12 L12=>
 wpOp F (.fad 3) [v12] L12 fun v13 L13=>
 wpOp F (.st 1) [v13,v11] L13 fun _ L14=>
 fin1 (some (.tup [v2,(.i .i64 0)])) Q L14
theorem e_f81_3 (F:TF)(N:TN)(Q:TQ) (l t : Env) (L : Lg) : wp F (q_f81_3 N) l t L (fin [.tmp (.l 8),.tmp (.l 9)] Q) nE (fin [.tmp (.l 8),.tmp (.l 9)] Q) = D_f81_3 F N Q (l 0) (l 1) (l 2) (l 3) L := by kernel_rfl
def w_f81_2 (F:TF)(N:TN)(Q:TQ) : Kn := (fun (l t : Env) (L : Lg) => D_f81_3 F N Q (l 0) (l 1) (l 2) (l 3) L)
def y_f81_4 (F:TF)(N:TN)(Q:TQ) : Nat → Kn := (fun (j : Nat) (l t : Env) (L : Lg) => bif Nat.beq j 0 then (w_f81_2 F N Q) l t L else nE j l t L)
def q_f81_6 (N : TN) : ACode := (.cond (.t 12) (.seq (.reg [⟨.l 8,none,.mv,[.c (.b false)]⟩,⟨.l 9,none,.mv,[.c (.i .i64 4)]⟩]) .ret) (.seq (.reg [oQ (18,.mv,[.l 2]),oQ (19,.bin .lss,[.t 18,.c (.i .i64 0)]),oQ (20,.mv,[.t 19]),gQ (21,20,false,.mv,[.l 2]),gQ (22,20,false,.bin .gtr,[.t 21,.c (.i .i64 4611686018427387904)]),oQ (23,.pick,[.t 20,.c (.b true),.t 22]),oQ (24,.mv,[.t 23]),gQ (25,24,false,.mv,[.l 0]),gQ (26,24,false,.nilchk,[.t 25]),gQ (27,24,false,.fad 3,[.t 26]),gQ (28,24,false,.ld none,[.t 27]),gQ (29,24,false,.mv,[.l 1]),gQ (30,24,false,.iad 4,[.t 28,.t 29]),gQ (31,24,false,.fad 0,[.t 30]),gQ (32,24,false,.ld none,[.t 31]),gQ (33,24,false,.bin .eql,[.t 32,.c (.i .i64 2)]),gQ (34,24,false,.mv,[.t 33]),gQ (35,34,true,.mv,[.l 3]),gQ (36,34,true,.bin .lss,[.t 35,.c (.i .i64 1)]),gQ (37,24,false,.pick,[.t 34,.t 36,.c (.b false)]),oQ (38,.pick,[.t 24,.c (.b true),.t 37]),oQ (17,.mv,[.t 38])]) (.cond (.t 17) (.seq (.reg [⟨.l 8,none,.mv,[.c (.b false)]⟩,⟨.l 9,none,.mv,[.c (.i .i64 1)]⟩]) .ret) (.seq (.reg [oQ (40,.mv,[.l 0]),oQ (41,.nilchk,[.t 40]),oQ (42,.fad 3,[.t 41]),oQ (43,.ld none,[.t 42]),oQ (44,.mv,[.l 1]),oQ (45,.iad 4,[.t 43,.t 44]),oQ (46,.fad 0,[.t 45]),oQ (47,.ld none,[.t 46]),oQ (48,.bin .eql,[.t 47,.c (.i .i64 4)]),oQ (39,.mv,[.t 48])]) (.cond (.t 39) (.seq (.reg [⟨.l 8,none,.mv,[.c (.b false)]⟩,⟨.l 9,none,.mv,[.c (.i .i64 7)]⟩]) .ret) .skip)))))
noncomputable def D_f81_6 (F:TF)(N:TN)(Q:TQ) (x0 x1 x2 x3:AV) (t12 : AV) (L : Lg) : Prop :=
 condW t12
 (fin1 (some (.tup [(.b false),(.i .i64 4)])) Q L)
 (wpOp F (.bin .lss) [x2,(.i .i64 0)] L fun v1 L1=>
 gdOp F v1 false .mv [x2] L1 fun v2 L2=>
 gdOp F v1 false (.bin .gtr) [v2,(.i .i64 4611686018427387904)] L2 fun v3 L3=>
 wpOp F .pick [v1,(.b true),v3] L3 fun v4 L4=>
 gdOp F v4 false .mv [x0] L4 fun v5 L5=>
 gdOp F v4 false .nilchk [v5] L5 fun v6 L6=>
 gdOp F v4 false (.fad 3) [v6] L6 fun v7 L7=>
 gdOp F v4 false (.ld none) [v7] L7 fun v8 L8=>
 gdOp F v4 false .mv [x1] L8 fun v9 L9=>
 gdOp F v4 false (.iad 4) [v8,v9] L9 fun v10 L10=>
 gdOp F v4 false (.fad 0) [v10] L10 fun v11 L11=>
 gdOp F v4 false (.ld none) [v11] L11 fun v12 L12=>
 gdOp F v4 false (.bin .eql) [v12,(.i .i64 2)] L12 fun v13 L13=>
 gdOp F v4 false .mv [v13] L13 fun v14 L14=>
 gdOp F v14 true .mv [x3] L14 fun v15 L15=>
 gdOp F v14 true (.bin .lss) [v15,(.i .i64 1)] L15 fun v16 L16=>
 gdOp F v4 false .pick [v14,v16,(.b false)] L16 fun v17 L17=>
 wpOp F .pick [v4,(.b true),v17] L17 fun v18 L18=>
 condW v18
 (fin1 (some (.tup [(.b false),(.i .i64 1)])) Q L18)
 (wpOp F .nilchk [x0] L18 fun v19 L19=>
 wpOp F (.fad 3) [v19] L19 fun v20 L20=>
 wpOp F (.ld none) [v20] L20 fun v21 L21=>
 wpOp F (.iad 4) [v21,x1] L21 fun v22 L22=>
 wpOp F (.fad 0) [v22] L22 fun v23 L23=>
 wpOp F (.ld none) [v23] L23 fun v24 L24=>
 wpOp F (.bin .eql) [v24,(.i .i64 4)] L24 fun v25 L25=>
 condW v25
 (fin1 (some (.tup [(.b false),(.i .i64 7)])) Q L25)
 (D_f81_3 F N Q x0 x1 x2 x3 L25)))
theorem e_f81_6 (F:TF)(N:TN)(Q:TQ) (l t : Env) (L : Lg) : wp F (q_f81_6 N) l t L (w_f81_2 F N Q) (y_f81_4 F N Q) (fin [.tmp (.l 8),.tmp (.l 9)] Q) = D_f81_6 F N Q (l 0) (l 1) (l 2) (l 3) (t 12) L := by kernel_rfl
def q_f81_5a (N : TN) : ACode := (.reg [oQ (13,.mv,[.l 0]),oQ (14,.mv,[.l 1]),oQ (15,.call (N k_f78),[.t 13,.t 14]),oQ (16,.un .not,[.t 15]),oQ (12,.mv,[.t 16])])
def q_f81_5 (N : TN) : ACode := (.seq (q_f81_5a N) (q_f81_6 N))
noncomputable def D_f81_5 (F:TF)(N:TN)(Q:TQ) (x0 x1 x2 x3:AV) (L : Lg) : Prop :=
 CallL F (N k_f78) [x0,x1] L fun v1 L1=>
 wpOp F (.un .not) [v1] L1 fun v2 L2=>
 D_f81_6 F N Q x0 x1 x2 x3 v2 L2
theorem e_f81_5 (F:TF)(N:TN)(Q:TQ) (l t : Env) (L : Lg) : wp F (q_f81_5 N) l t L (w_f81_2 F N Q) (y_f81_4 F N Q) (fin [.tmp (.l 8),.tmp (.l 9)] Q) = D_f81_5 F N Q (l 0) (l 1) (l 2) (l 3) L := wpS (e_f81_6 F N Q) (by kernel_rfl)
def q_f81_4 (N : TN) : ACode := (.block 0 (q_f81_5 N))
theorem e_f81_4 (F:TF)(N:TN)(Q:TQ) (l t : Env) (L : Lg) : wp F (q_f81_4 N) l t L (w_f81_2 F N Q) nE (fin [.tmp (.l 8),.tmp (.l 9)] Q) = D_f81_5 F N Q (l 0) (l 1) (l 2) (l 3) L := wpB (e_f81_5 F N Q l t L)
def q_f81_2 (N : TN) : ACode := (.seq (q_f81_4 N) (q_f81_3 N))
theorem e_f81_2 (F:TF)(N:TN)(Q:TQ) (l t : Env) (L : Lg) : wp F (q_f81_2 N) l t L (fin [.tmp (.l 8),.tmp (.l 9)] Q) nE (fin [.tmp (.l 8),.tmp (.l 9)] Q) = D_f81_5 F N Q (l 0) (l 1) (l 2) (l 3) L := wpS (e_f81_3 F N Q) (e_f81_4 F N Q l t L)
def q_f81_1a (N : TN) : ACode := (.reg [⟨.l 8,none,.mv,[.c (.b false)]⟩,⟨.l 9,none,.mv,[.c (.i .i64 0)]⟩])
def q_f81_1 (N : TN) : ACode := (.seq (q_f81_1a N) (q_f81_2 N))
noncomputable def D_f81_1 (F:TF)(N:TN)(Q:TQ) (x0 x1 x2 x3:AV) (L : Lg) : Prop :=
 D_f81_5 F N Q x0 x1 x2 x3 L
theorem e_f81_1 (F:TF)(N:TN)(Q:TQ) (l t : Env) (L : Lg) : wp F (q_f81_1 N) l t L (fin [.tmp (.l 8),.tmp (.l 9)] Q) nE (fin [.tmp (.l 8),.tmp (.l 9)] Q) = D_f81_1 F N Q (l 0) (l 1) (l 2) (l 3) L := wpS (e_f81_2 F N Q) (by kernel_rfl)
def c_f81 (N : TN) : AFn := ⟨q_f81_1 N,[.tmp (.l 8),.tmp (.l 9)]⟩
structure H_f81 (N : TN) (F : TF) : Prop where
  code : F (N k_f81) = some (c_f81 N)
  f78 : H_f78 N F
  f80 : H_f80 N F
  f71 : H_f71 N F
theorem r_f81 {F : TF} {N : TN} (h : F (N k_f81) = some (c_f81 N)) {Q : TQ} {a0 a1 a2 a3 : AV} {L : Lg} (e : D_f81_1 F N Q a0 a1 a2 a3 L) : CallL F (N k_f81) [a0,a1,a2,a3] L Q :=
  CallL.of_wp h (Eq.mpr (Eq.trans (e_f81_1 F N Q (initE [a0,a1,a2,a3] 0) Env.nil L) (by kernel_rfl : _ = D_f81_1 F N Q a0 a1 a2 a3 L)) e)
def q_f82_3 (N : TN) : ACode := (.seq (.reg [⟨.l 4,none,.mv,[.c (.i .i64 (-1))]⟩]) .ret)
noncomputable def D_f82_3 (F:TF)(N:TN)(Q:TQ) (L : Lg) : Prop :=
 fin1 (some (.i .i64 (-1))) Q L
theorem e_f82_3 (F:TF)(N:TN)(Q:TQ) (l t : Env) (L : Lg) : wp F (q_f82_3 N) l t L (fin [.tmp (.l 4)] Q) nE (fin [.tmp (.l 4)] Q) = D_f82_3 F N Q L := by kernel_rfl
def w_f82_2 (F:TF)(N:TN)(Q:TQ) : Kn := (fun (l t : Env) (L : Lg) => D_f82_3 F N Q L)
def y_f82_5 (F:TF)(N:TN)(Q:TQ) : Nat → Kn := (fun (j : Nat) (l t : Env) (L : Lg) => bif Nat.beq j 0 then (w_f82_2 F N Q) l t L else nE j l t L)
def q_f82_7 (N : TN) : ACode := (.seq (.seq (.reg [oQ (6,.mv,[.l 5]),oQ (7,.mv,[.l 0]),oQ (8,.nilchk,[.t 7]),oQ (9,.fad 2,[.t 8]),oQ (10,.ld none,[.t 9]),oQ (11,.lenSl,[.t 10]),oQ (12,.bin .lss,[.t 6,.t 11])]) (.cond (.t 12) .skip (.exit 0))) (.seq (.block 1 (.seq (.reg [oQ (15,.mv,[.l 0]),oQ (16,.nilchk,[.t 15]),oQ (17,.fad 2,[.t 16]),oQ (18,.ld none,[.t 17]),oQ (19,.mv,[.l 5]),oQ (20,.iad 3,[.t 18,.t 19]),oQ (21,.fad 0,[.t 20]),oQ (22,.ld none,[.t 21]),oQ (23,.mv,[.l 1]),oQ (24,.bin .eql,[.t 22,.t 23])]) (.cond (.t 24) (.seq (.reg [oQ (25,.mv,[.l 0]),oQ (26,.nilchk,[.t 25]),oQ (27,.fad 2,[.t 26]),oQ (28,.ld none,[.t 27]),oQ (29,.mv,[.l 5]),oQ (30,.iad 3,[.t 28,.t 29]),oQ (31,.fad 1,[.t 30]),oQ (32,.ld none,[.t 31]),⟨.l 4,none,.mv,[.t 32]⟩]) .ret) .skip))) (.reg [oQ (13,.mv,[.l 5]),oQ (14,.bin .add,[.t 13,.c (.i .i64 1)]),⟨.l 5,none,.mv,[.t 14]⟩])))
noncomputable def D_f82_7 (F:TF)(N:TN)(Q:TQ) (k1 : TK) (l : Env) (L : Lg) : Prop :=
 wpOp F .nilchk [(l 0)] L fun v1 L1=>
 wpOp F (.fad 2) [v1] L1 fun v2 L2=>
 wpOp F (.ld none) [v2] L2 fun v3 L3=>
 wpOp F .lenSl [v3] L3 fun v4 L4=>
 wpOp F (.bin .lss) [(l 5),v4] L4 fun v5 L5=>
 condW v5
 (wpOp F .nilchk [(l 0)] L5 fun v6 L6=>
 wpOp F (.fad 2) [v6] L6 fun v7 L7=>
 wpOp F (.ld none) [v7] L7 fun v8 L8=>
 wpOp F (.iad 3) [v8,(l 5)] L8 fun v9 L9=>
 wpOp F (.fad 0) [v9] L9 fun v10 L10=>
 wpOp F (.ld none) [v10] L10 fun v11 L11=>
 wpOp F (.bin .eql) [v11,(l 1)] L11 fun v12 L12=>
 condW v12
 (wpOp F .nilchk [(l 0)] L12 fun v13 L13=>
 wpOp F (.fad 2) [v13] L13 fun v14 L14=>
 wpOp F (.ld none) [v14] L14 fun v15 L15=>
 wpOp F (.iad 3) [v15,(l 5)] L15 fun v16 L16=>
 wpOp F (.fad 1) [v16] L16 fun v17 L17=>
 wpOp F (.ld none) [v17] L17 fun v18 L18=>
 fin1 (some v18) Q L18)
 (wpOp F (.bin .add) [(l 5),(.i .i64 1)] L12 fun v19 L19=>
 k1 (Env.put l 5 v19) L19))
 (D_f82_3 F N Q L5)
theorem e_f82_7 (F:TF)(N:TN)(Q:TQ) (k1 : TK) (l t : Env) (L : Lg) : wp F (q_f82_7 N) l t L (fun (l _ : Env) (L : Lg) => k1 l L) (y_f82_5 F N Q) (fin [.tmp (.l 4)] Q) = D_f82_7 F N Q k1 l L := by kernel_rfl
def q_f82_6 (N : TN) : ACode := (.loop (q_f82_7 N))
noncomputable def D_f82_6 (F:TF)(N:TN)(Q:TQ) (l : Env) (L : Lg) : Prop :=
 loopW (fun l t L k1 => D_f82_7 F N Q k1 l L) l L
theorem e_f82_6 (F:TF)(N:TN)(Q:TQ) (l t : Env) (L : Lg) : wp F (q_f82_6 N) l t L (w_f82_2 F N Q) (y_f82_5 F N Q) (fin [.tmp (.l 4)] Q) = D_f82_6 F N Q l L := wpL (fun l t L k1 => e_f82_7 F N Q k1 l t L) (by kernel_rfl)
def q_f82_5 (N : TN) : ACode := (.block 0 (q_f82_6 N))
theorem e_f82_5 (F:TF)(N:TN)(Q:TQ) (l t : Env) (L : Lg) : wp F (q_f82_5 N) l t L (w_f82_2 F N Q) nE (fin [.tmp (.l 4)] Q) = D_f82_6 F N Q l L := wpB (e_f82_6 F N Q l t L)
def q_f82_4a (N : TN) : ACode := (.reg [⟨.l 5,none,.mv,[.c (.i .i64 0)]⟩])
def q_f82_4 (N : TN) : ACode := (.seq (q_f82_4a N) (q_f82_5 N))
noncomputable def D_f82_4 (F:TF)(N:TN)(Q:TQ) (l : Env) (L : Lg) : Prop :=
 D_f82_6 F N Q (Env.put l 5 (.i .i64 0)) L
theorem e_f82_4 (F:TF)(N:TN)(Q:TQ) (l t : Env) (L : Lg) : wp F (q_f82_4 N) l t L (w_f82_2 F N Q) nE (fin [.tmp (.l 4)] Q) = D_f82_4 F N Q l L := wpS (e_f82_5 F N Q) (by kernel_rfl)
def q_f82_2 (N : TN) : ACode := (.seq (q_f82_4 N) (q_f82_3 N))
theorem e_f82_2 (F:TF)(N:TN)(Q:TQ) (l t : Env) (L : Lg) : wp F (q_f82_2 N) l t L (fin [.tmp (.l 4)] Q) nE (fin [.tmp (.l 4)] Q) = D_f82_4 F N Q l L := wpS (e_f82_3 F N Q) (e_f82_4 F N Q l t L)
def q_f82_1a (N : TN) : ACode := (.reg [⟨.l 4,none,.mv,[.c (.i .i64 0)]⟩])
def q_f82_1 (N : TN) : ACode := (.seq (q_f82_1a N) (q_f82_2 N))
noncomputable def D_f82_1 (F:TF)(N:TN)(Q:TQ) (l : Env) (L : Lg) : Prop :=
 D_f82_4 F N Q (Env.put l 4 (.i .i64 0)) L
theorem e_f82_1 (F:TF)(N:TN)(Q:TQ) (l t : Env) (L : Lg) : wp F (q_f82_1 N) l t L (fin [.tmp (.l 4)] Q) nE (fin [.tmp (.l 4)] Q) = D_f82_1 F N Q l L := wpS (e_f82_2 F N Q) (by kernel_rfl)
def c_f82 (N : TN) : AFn := ⟨q_f82_1 N,[.tmp (.l 4)]⟩
structure H_f82 (N : TN) (F : TF) : Prop where
  code : F (N k_f82) = some (c_f82 N)
theorem r_f82 {F : TF} {N : TN} (h : F (N k_f82) = some (c_f82 N)) {Q : TQ} {a0 a1 : AV} {L : Lg} (e : D_f82_1 F N Q (initE [a0,a1] 0) L) : CallL F (N k_f82) [a0,a1] L Q :=
  CallL.of_wp h (Eq.mpr (Eq.trans (e_f82_1 F N Q (initE [a0,a1] 0) Env.nil L) (by kernel_rfl : _ = D_f82_1 F N Q (initE [a0,a1] 0) L)) e)
def q_f83_3 (N : TN) : ACode := (.seq (.seq (.reg [oQ (31,.mv,[.l 0]),oQ (32,.mv,[.l 2]),oQ (33,.bin .gtr,[.t 31,.t 32])]) (.cond (.t 33) (.seq (.reg [oQ (34,.mv,[.l 0]),⟨.l 6,none,.mv,[.t 34]⟩,⟨.l 7,none,.mv,[.c (.i .i64 0)]⟩]) .ret) .skip)) (.seq (.reg [oQ (35,.mv,[.l 2]),oQ (36,.mv,[.l 0]),oQ (37,.bin .sub,[.t 35,.t 36]),oQ (38,.mv,[.l 1]),oQ (39,.bin .quo,[.t 37,.t 38]),oQ (40,.bin .add,[.t 39,.c (.i .i64 1)]),⟨.l 8,none,.mv,[.t 40]⟩]) (.seq (.seq (.reg [oQ (41,.mv,[.l 1]),oQ (42,.mv,[.l 0]),oQ (43,.bin .sub,[.c (.i .i64 4611686018427387904),.t 42]),oQ (44,.mv,[.l 8]),oQ (45,.bin .quo,[.t 43,.t 44]),oQ (46,.bin .gtr,[.t 41,.t 45])]) (.cond (.t 46) (.seq (.reg [⟨.l 6,none,.mv,[.c (.i .i64 4611686018427387904)]⟩,⟨.l 7,none,.mv,[.c (.i .i64 0)]⟩]) .ret) .skip)) (.seq (.reg [oQ (47,.mv,[.l 0]),oQ (48,.mv,[.l 8]),oQ (49,.mv,[.l 1]),oQ (50,.bin .mul,[.t 48,.t 49]),oQ (51,.bin .add,[.t 47,.t 50]),⟨.l 6,none,.mv,[.t 51]⟩,⟨.l 7,none,.mv,[.c (.i .i64 0)]⟩]) .ret))))
noncomputable def D_f83_3 (F:TF)(N:TN)(Q:TQ) (x0 x1 x2:AV) (L : Lg) : Prop :=
 wpOp F (.bin .gtr) [x0,x2] L fun v1 L1=>
 condW v1
 (fin1 (some (.tup [x0,(.i .i64 0)])) Q L1)
 (wpOp F (.bin .sub) [x2,x0] L1 fun v2 L2=>
 wpOp F (.bin .quo) [v2,x1] L2 fun v3 L3=>
 wpOp F (.bin .add) [v3,(.i .i64 1)] L3 fun v4 L4=>
 wpOp F (.bin .sub) [(.i .i64 4611686018427387904),x0] L4 fun v5 L5=>
 wpOp F (.bin .quo) [v5,v4] L5 fun v6 L6=>
 wpOp F (.bin .gtr) [x1,v6] L6 fun v7 L7=>
 condW v7
 (fin1 (some (.tup [(.i .i64 4611686018427387904),(.i .i64 0)])) Q L7)
 (wpOp F (.bin .mul) [v4,x1] L7 fun v8 L8=>
 wpOp F (.bin .add) [x0,v8] L8 fun v9 L9=>
 fin1 (some (.tup [v9,(.i .i64 0)])) Q L9))
theorem e_f83_3 (F:TF)(N:TN)(Q:TQ) (l t : Env) (L : Lg) : wp F (q_f83_3 N) l t L (fin [.tmp (.l 6),.tmp (.l 7)] Q) nE (fin [.tmp (.l 6),.tmp (.l 7)] Q) = D_f83_3 F N Q (l 0) (l 1) (l 2) L := by kernel_rfl
def q_f83_2a (N : TN) : ACode := (.seq (.reg [oQ (9,.mv,[.l 1]),oQ (10,.bin .lss,[.t 9,.c (.i .i64 1)]),oQ (11,.mv,[.t 10]),gQ (12,11,false,.mv,[.l 0]),gQ (13,11,false,.bin .lss,[.t 12,.c (.i .i64 0)]),oQ (14,.pick,[.t 11,.c (.b true),.t 13]),oQ (15,.mv,[.t 14]),gQ (16,15,false,.mv,[.l 2]),gQ (17,15,false,.bin .lss,[.t 16,.c (.i .i64 0)]),oQ (18,.pick,[.t 15,.c (.b true),.t 17]),oQ (19,.mv,[.t 18]),gQ (20,19,false,.mv,[.l 1]),gQ (21,19,false,.bin .gtr,[.t 20,.c (.i .i64 4611686018427387904)]),oQ (22,.pick,[.t 19,.c (.b true),.t 21]),oQ (23,.mv,[.t 22]),gQ (24,23,false,.mv,[.l 0]),gQ (25,23,false,.bin .gtr,[.t 24,.c (.i .i64 4611686018427387904)]),oQ (26,.pick,[.t 23,.c (.b true),.t 25]),oQ (27,.mv,[.t 26]),gQ (28,27,false,.mv,[.l 2]),gQ (29,27,false,.bin .gtr,[.t 28,.c (.i .i64 4611686018427387904)]),oQ (30,.pick,[.t 27,.c (.b true),.t 29])]) (.cond (.t 30) (.seq (.reg [⟨.l 6,none,.mv,[.c (.i .i64 0)]⟩,⟨.l 7,none,.mv,[.c (.i .i64 1)]⟩]) .ret) .skip))
def q_f83_2 (N : TN) : ACode := (.seq (q_f83_2a N) (q_f83_3 N))
noncomputable def D_f83_2 (F:TF)(N:TN)(Q:TQ) (x0 x1 x2:AV) (L : Lg) : Prop :=
 wpOp F (.bin .lss) [x1,(.i .i64 1)] L fun v1 L1=>
 gdOp F v1 false .mv [x0] L1 fun v2 L2=>
 gdOp F v1 false (.bin .lss) [v2,(.i .i64 0)] L2 fun v3 L3=>
 wpOp F .pick [v1,(.b true),v3] L3 fun v4 L4=>
 gdOp F v4 false .mv [x2] L4 fun v5 L5=>
 gdOp F v4 false (.bin .lss) [v5,(.i .i64 0)] L5 fun v6 L6=>
 wpOp F .pick [v4,(.b true),v6] L6 fun v7 L7=>
 gdOp F v7 false .mv [x1] L7 fun v8 L8=>
 gdOp F v7 false (.bin .gtr) [v8,(.i .i64 4611686018427387904)] L8 fun v9 L9=>
 wpOp F .pick [v7,(.b true),v9] L9 fun v10 L10=>
 gdOp F v10 false .mv [x0] L10 fun v11 L11=>
 gdOp F v10 false (.bin .gtr) [v11,(.i .i64 4611686018427387904)] L11 fun v12 L12=>
 wpOp F .pick [v10,(.b true),v12] L12 fun v13 L13=>
 gdOp F v13 false .mv [x2] L13 fun v14 L14=>
 gdOp F v13 false (.bin .gtr) [v14,(.i .i64 4611686018427387904)] L14 fun v15 L15=>
 wpOp F .pick [v13,(.b true),v15] L15 fun v16 L16=>
 condW v16
 (fin1 (some (.tup [(.i .i64 0),(.i .i64 1)])) Q L16)
 (D_f83_3 F N Q x0 x1 x2 L16)
theorem e_f83_2 (F:TF)(N:TN)(Q:TQ) (l t : Env) (L : Lg) : wp F (q_f83_2 N) l t L (fin [.tmp (.l 6),.tmp (.l 7)] Q) nE (fin [.tmp (.l 6),.tmp (.l 7)] Q) = D_f83_2 F N Q (l 0) (l 1) (l 2) L := wpS (e_f83_3 F N Q) (by kernel_rfl)
def q_f83_1a (N : TN) : ACode := (.reg [⟨.l 6,none,.mv,[.c (.i .i64 0)]⟩,⟨.l 7,none,.mv,[.c (.i .i64 0)]⟩])
def q_f83_1 (N : TN) : ACode := (.seq (q_f83_1a N) (q_f83_2 N))
noncomputable def D_f83_1 (F:TF)(N:TN)(Q:TQ) (x0 x1 x2:AV) (L : Lg) : Prop :=
 D_f83_2 F N Q x0 x1 x2 L
theorem e_f83_1 (F:TF)(N:TN)(Q:TQ) (l t : Env) (L : Lg) : wp F (q_f83_1 N) l t L (fin [.tmp (.l 6),.tmp (.l 7)] Q) nE (fin [.tmp (.l 6),.tmp (.l 7)] Q) = D_f83_1 F N Q (l 0) (l 1) (l 2) L := wpS (e_f83_2 F N Q) (by kernel_rfl)
def c_f83 (N : TN) : AFn := ⟨q_f83_1 N,[.tmp (.l 6),.tmp (.l 7)]⟩
structure H_f83 (N : TN) (F : TF) : Prop where
  code : F (N k_f83) = some (c_f83 N)
theorem r_f83 {F : TF} {N : TN} (h : F (N k_f83) = some (c_f83 N)) {Q : TQ} {a0 a1 a2 : AV} {L : Lg} (e : D_f83_1 F N Q a0 a1 a2 L) : CallL F (N k_f83) [a0,a1,a2] L Q :=
  CallL.of_wp h (Eq.mpr (Eq.trans (e_f83_1 F N Q (initE [a0,a1,a2] 0) Env.nil L) (by kernel_rfl : _ = D_f83_1 F N Q a0 a1 a2 L)) e)
def q_f84_7 (N : TN) : ACode := (.seq (.reg [oQ (73,.fad 0,[.l 6]),oQ (74,.ld none,[.t 73]),oQ (75,.fad 1,[.l 6]),oQ (76,.ld none,[.t 75]),oQ (77,.mv,[.l 1]),oQ (78,.build [.i .i64 0,.i .i64 0,.i .i64 0] [(0,1),(1,1),(2,1)],[.t 74,.t 76,.t 77]),⟨.no,none,.st 3,[.l 4,.t 78]⟩,⟨.l 5,none,.mv,[.c (.b true)]⟩]) .ret)
noncomputable def D_f84_7 (F:TF)(N:TN)(Q:TQ) (x1 x4 x6:AV) (L : Lg) : Prop :=
 wpOp F (.fad 0) [x6] L fun v1 L1=>
 wpOp F (.ld none) [v1] L1 fun v2 L2=>
 wpOp F (.fad 1) [x6] L2 fun v3 L3=>
 wpOp F (.ld none) [v3] L3 fun v4 L4=>
 wpOp F (.build [.i .i64 0,.i .i64 0,.i .i64 0] [(0,1),(1,1),(2,1)]) [v2,v4,x1] L4 fun v5 L5=>
 wpOp F (.st 3) [x4,v5] L5 fun _ L6=>
 fin1 (resVL Env.nil Env.nil L6 [.cell (.c x4) (some 3),.tmp (.c (.b true))]) Q L6
theorem e_f84_7 (F:TF)(N:TN)(Q:TQ) (l t : Env) (L : Lg) : wp F (q_f84_7 N) l t L (fin [.cell (.l 4) (some 3),.tmp (.l 5)] Q) nE (fin [.cell (.l 4) (some 3),.tmp (.l 5)] Q) = D_f84_7 F N Q (l 1) (l 4) (l 6) L := by kernel_rfl
def q_f84_6a (N : TN) : ACode := (.seq (.reg [oQ (49,.mv,[.l 7]),oQ (50,.bin .gtr,[.t 49,.c (.i .i64 0)])]) (.cond (.t 50) (.seq (.reg [oQ (52,.fad 1,[.l 6]),oQ (53,.ld none,[.t 52]),oQ (54,.mv,[.l 7]),oQ (55,.mv,[.l 1]),oQ (56,.min,[.t 55,.c (.i .i64 4611686018427387904)]),oQ (57,.call (N k_f83),[.t 53,.t 54,.t 56]),oQ (51,.mv,[.t 57]),oQ (58,.ext 0,[.t 51]),oQ (59,.ext 1,[.t 51]),⟨.l 8,none,.mv,[.t 58]⟩,⟨.l 9,none,.mv,[.t 59]⟩]) (.seq (.reg [oQ (60,.mv,[.l 9]),oQ (61,.bin .eql,[.t 60,.c (.i .i64 0)]),oQ (62,.mv,[.t 61]),gQ (63,62,true,.mv,[.l 8]),gQ (64,62,true,.mv,[.l 1]),gQ (65,62,true,.bin .gtr,[.t 63,.t 64]),oQ (66,.pick,[.t 62,.t 65,.c (.b false)])]) (.cond (.t 66) (.reg [oQ (67,.mv,[.l 0]),oQ (68,.fad 0,[.l 6]),oQ (69,.ld none,[.t 68]),oQ (70,.mv,[.l 8]),oQ (71,.mv,[.l 7]),oQ (72,.call (N k_f70),[.t 67,.t 69,.t 70,.t 71])]) .skip))) .skip))
def q_f84_6 (N : TN) : ACode := (.seq (q_f84_6a N) (q_f84_7 N))
noncomputable def D_f84_6 (F:TF)(N:TN)(Q:TQ) (x0 x1 x4 x6 x7:AV) (L : Lg) : Prop :=
 wpOp F (.bin .gtr) [x7,(.i .i64 0)] L fun v1 L1=>
 condW v1
 (wpOp F (.fad 1) [x6] L1 fun v2 L2=>
 wpOp F (.ld none) [v2] L2 fun v3 L3=>
 wpOp F .min [x1,(.i .i64 4611686018427387904)] L3 fun v4 L4=>
 CallL F (N k_f83) [v3,x7,v4] L4 fun v5 L5=>
 wpOp F (.ext 0) [v5] L5 fun v6 L6=>
 wpOp F (.ext 1) [v5] L6 fun v7 L7=>
 wpOp F (.bin .eql) [v7,(.i .i64 0)] L7 fun v8 L8=>
 gdOp F v8 true .mv [v6] L8 fun v9 L9=>
 gdOp F v8 true .mv [x1] L9 fun v10 L10=>
 gdOp F v8 true (.bin .gtr) [v9,v10] L10 fun v11 L11=>
 wpOp F .pick [v8,v11,(.b false)] L11 fun v12 L12=>
 condW v12
 (wpOp F (.fad 0) [x6] L12 fun v13 L13=>
 wpOp F (.ld none) [v13] L13 fun v14 L14=>
 CallL F (N k_f70) [x0,v14,v6,x7] L14 fun v15 L15=>
 D_f84_7 F N Q x1 x4 x6 L15)
 (D_f84_7 F N Q x1 x4 x6 L12))
 (D_f84_7 F N Q x1 x4 x6 L1)
theorem e_f84_6 (F:TF)(N:TN)(Q:TQ) (l t : Env) (L : Lg) : wp F (q_f84_6 N) l t L (fin [.cell (.l 4) (some 3),.tmp (.l 5)] Q) nE (fin [.cell (.l 4) (some 3),.tmp (.l 5)] Q) = D_f84_6 F N Q (l 0) (l 1) (l 4) (l 6) (l 7) L := wpS (e_f84_7 F N Q) (by kernel_rfl)
def q_f84_5a (N : TN) : ACode := (.reg [oQ (45,.mv,[.l 0]),oQ (46,.fad 0,[.l 6]),oQ (47,.ld none,[.t 46]),oQ (48,.call (N k_f68),[.t 45,.t 47])])
def q_f84_5 (N : TN) : ACode := (.seq (q_f84_5a N) (q_f84_6 N))
noncomputable def D_f84_5 (F:TF)(N:TN)(Q:TQ) (x0 x1 x4 x6 x7:AV) (L : Lg) : Prop :=
 wpOp F (.fad 0) [x6] L fun v1 L1=>
 wpOp F (.ld none) [v1] L1 fun v2 L2=>
 CallL F (N k_f68) [x0,v2] L2 fun v3 L3=>
 D_f84_6 F N Q x0 x1 x4 x6 x7 L3
theorem e_f84_5 (F:TF)(N:TN)(Q:TQ) (l t : Env) (L : Lg) : wp F (q_f84_5 N) l t L (fin [.cell (.l 4) (some 3),.tmp (.l 5)] Q) nE (fin [.cell (.l 4) (some 3),.tmp (.l 5)] Q) = D_f84_5 F N Q (l 0) (l 1) (l 4) (l 6) (l 7) L := wpS (e_f84_6 F N Q) (by kernel_rfl)
def q_f84_4a (N : TN) : ACode := (.reg [oQ (41,.mv,[.l 0]),oQ (42,.fad 0,[.l 6]),oQ (43,.ld none,[.t 42]),oQ (44,.call (N k_f82),[.t 41,.t 43]),⟨.l 7,none,.mv,[.t 44]⟩])
def q_f84_4 (N : TN) : ACode := (.seq (q_f84_4a N) (q_f84_5 N))
noncomputable def D_f84_4 (F:TF)(N:TN)(Q:TQ) (x0 x1 x4 x6:AV) (L : Lg) : Prop :=
 wpOp F (.fad 0) [x6] L fun v1 L1=>
 wpOp F (.ld none) [v1] L1 fun v2 L2=>
 CallL F (N k_f82) [x0,v2] L2 fun v3 L3=>
 D_f84_5 F N Q x0 x1 x4 x6 v3 L3
theorem e_f84_4 (F:TF)(N:TN)(Q:TQ) (l t : Env) (L : Lg) : wp F (q_f84_4 N) l t L (fin [.cell (.l 4) (some 3),.tmp (.l 5)] Q) nE (fin [.cell (.l 4) (some 3),.tmp (.l 5)] Q) = D_f84_4 F N Q (l 0) (l 1) (l 4) (l 6) L := wpS (e_f84_5 F N Q) (by kernel_rfl)
def q_f84_3a (N : TN) : ACode := (.reg [oQ (34,.mv,[.l 0]),oQ (35,.nilchk,[.t 34]),oQ (36,.fad 0,[.t 35]),oQ (37,.fad 0,[.t 36]),oQ (38,.ld none,[.t 37]),oQ (39,.iad 3,[.t 38,.c (.i .i64 0)]),oQ (40,.ld (some 3),[.t 39]),⟨.l 6,none,.alloc [.i .i64 0,.i .i64 0,.i .i64 0],[]⟩,⟨.no,none,.st 3,[.l 6,.t 40]⟩])
def q_f84_3 (N : TN) : ACode := (.seq (q_f84_3a N) (q_f84_4 N))
noncomputable def D_f84_3 (F:TF)(N:TN)(Q:TQ) (x0 x1 x4:AV) (L : Lg) : Prop :=
 wpOp F .nilchk [x0] L fun v1 L1=>
 wpOp F (.fad 0) [v1] L1 fun v2 L2=>
 wpOp F (.fad 0) [v2] L2 fun v3 L3=>
 wpOp F (.ld none) [v3] L3 fun v4 L4=>
 wpOp F (.iad 3) [v4,(.i .i64 0)] L4 fun v5 L5=>
 wpOp F (.ld (some 3)) [v5] L5 fun v6 L6=>
 wpOp F (.alloc [.i .i64 0,.i .i64 0,.i .i64 0]) [] L6 fun v7 L7=>
 wpOp F (.st 3) [v7,v6] L7 fun _ L8=>
 D_f84_4 F N Q x0 x1 x4 v7 L8
theorem e_f84_3 (F:TF)(N:TN)(Q:TQ) (l t : Env) (L : Lg) : wp F (q_f84_3 N) l t L (fin [.cell (.l 4) (some 3),.tmp (.l 5)] Q) nE (fin [.cell (.l 4) (some 3),.tmp (.l 5)] Q) = D_f84_3 F N Q (l 0) (l 1) (l 4) L := wpS (e_f84_4 F N Q) (by kernel_rfl)
def q_f84_2a (N : TN) : ACode := (.seq (.reg [oQ (10,.mv,[.l 1]),oQ (11,.bin .lss,[.t 10,.c (.i .i64 0)]),oQ (12,.mv,[.t 11]),gQ (13,12,false,.mv,[.l 0]),gQ (14,12,false,.nilchk,[.t 13]),gQ (15,12,false,.fad 0,[.t 14]),gQ (16,12,false,.fad 0,[.t 15]),gQ (17,12,false,.ld none,[.t 16]),gQ (18,12,false,.lenSl,[.t 17]),gQ (19,12,false,.bin .eql,[.t 18,.c (.i .i64 0)]),oQ (20,.pick,[.t 12,.c (.b true),.t 19]),oQ (21,.mv,[.t 20]),gQ (22,21,false,.mv,[.l 0]),gQ (23,21,false,.nilchk,[.t 22]),gQ (24,21,false,.fad 0,[.t 23]),gQ (25,21,false,.fad 0,[.t 24]),gQ (26,21,false,.ld none,[.t 25]),gQ (27,21,false,.iad 3,[.t 26,.c (.i .i64 0)]),gQ (28,21,false,.fad 1,[.t 27]),gQ (29,21,false,.ld none,[.t 28]),gQ (30,21,false,.mv,[.l 1]),gQ (31,21,false,.bin .gtr,[.t 29,.t 30]),oQ (32,.pick,[.t 21,.c (.b true),.t 31])]) (.cond (.t 32) (.seq (.reg [oQ (33,.build [.i .i64 0,.i .i64 0,.i .i64 0] [],[]),⟨.no,none,.st 3,[.l 4,.t 33]⟩,⟨.l 5,none,.mv,[.c (.b false)]⟩]) .ret) .skip))
def q_f84_2 (N : TN) : ACode := (.seq (q_f84_2a N) (q_f84_3 N))
noncomputable def D_f84_2 (F:TF)(N:TN)(Q:TQ) (x0 x1 x4:AV) (L : Lg) : Prop :=
 wpOp F (.bin .lss) [x1,(.i .i64 0)] L fun v1 L1=>
 gdOp F v1 false .mv [x0] L1 fun v2 L2=>
 gdOp F v1 false .nilchk [v2] L2 fun v3 L3=>
 gdOp F v1 false (.fad 0) [v3] L3 fun v4 L4=>
 gdOp F v1 false (.fad 0) [v4] L4 fun v5 L5=>
 gdOp F v1 false (.ld none) [v5] L5 fun v6 L6=>
 gdOp F v1 false .lenSl [v6] L6 fun v7 L7=>
 gdOp F v1 false (.bin .eql) [v7,(.i .i64 0)] L7 fun v8 L8=>
 wpOp F .pick [v1,(.b true),v8] L8 fun v9 L9=>
 gdOp F v9 false .mv [x0] L9 fun v10 L10=>
 gdOp F v9 false .nilchk [v10] L10 fun v11 L11=>
 gdOp F v9 false (.fad 0) [v11] L11 fun v12 L12=>
 gdOp F v9 false (.fad 0) [v12] L12 fun v13 L13=>
 gdOp F v9 false (.ld none) [v13] L13 fun v14 L14=>
 gdOp F v9 false (.iad 3) [v14,(.i .i64 0)] L14 fun v15 L15=>
 gdOp F v9 false (.fad 1) [v15] L15 fun v16 L16=>
 gdOp F v9 false (.ld none) [v16] L16 fun v17 L17=>
 gdOp F v9 false .mv [x1] L17 fun v18 L18=>
 gdOp F v9 false (.bin .gtr) [v17,v18] L18 fun v19 L19=>
 wpOp F .pick [v9,(.b true),v19] L19 fun v20 L20=>
 condW v20
 (wpOp F (.build [.i .i64 0,.i .i64 0,.i .i64 0] []) [] L20 fun v21 L21=>
 wpOp F (.st 3) [x4,v21] L21 fun _ L22=>
 fin1 (resVL Env.nil Env.nil L22 [.cell (.c x4) (some 3),.tmp (.c (.b false))]) Q L22)
 (D_f84_3 F N Q x0 x1 x4 L20)
theorem e_f84_2 (F:TF)(N:TN)(Q:TQ) (l t : Env) (L : Lg) : wp F (q_f84_2 N) l t L (fin [.cell (.l 4) (some 3),.tmp (.l 5)] Q) nE (fin [.cell (.l 4) (some 3),.tmp (.l 5)] Q) = D_f84_2 F N Q (l 0) (l 1) (l 4) L := wpS (e_f84_3 F N Q) (by kernel_rfl)
def q_f84_1a (N : TN) : ACode := (.reg [⟨.l 4,none,.alloc [.i .i64 0,.i .i64 0,.i .i64 0],[]⟩,⟨.l 5,none,.mv,[.c (.b false)]⟩])
def q_f84_1 (N : TN) : ACode := (.seq (q_f84_1a N) (q_f84_2 N))
noncomputable def D_f84_1 (F:TF)(N:TN)(Q:TQ) (x0 x1:AV) (L : Lg) : Prop :=
 wpOp F (.alloc [.i .i64 0,.i .i64 0,.i .i64 0]) [] L fun v1 L1=>
 D_f84_2 F N Q x0 x1 v1 L1
theorem e_f84_1 (F:TF)(N:TN)(Q:TQ) (l t : Env) (L : Lg) : wp F (q_f84_1 N) l t L (fin [.cell (.l 4) (some 3),.tmp (.l 5)] Q) nE (fin [.cell (.l 4) (some 3),.tmp (.l 5)] Q) = D_f84_1 F N Q (l 0) (l 1) L := wpS (e_f84_2 F N Q) (by kernel_rfl)
def c_f84 (N : TN) : AFn := ⟨q_f84_1 N,[.cell (.l 4) (some 3),.tmp (.l 5)]⟩
structure H_f84 (N : TN) (F : TF) : Prop where
  code : F (N k_f84) = some (c_f84 N)
  f82 : H_f82 N F
  f68 : H_f68 N F
  f83 : H_f83 N F
  f70 : H_f70 N F
theorem r_f84 {F : TF} {N : TN} (h : F (N k_f84) = some (c_f84 N)) {Q : TQ} {a0 a1 : AV} {L : Lg} (e : D_f84_1 F N Q a0 a1 L) : CallL F (N k_f84) [a0,a1] L Q :=
  CallL.of_wp h (Eq.mpr (Eq.trans (e_f84_1 F N Q (initE [a0,a1] 0) Env.nil L) (by kernel_rfl : _ = D_f84_1 F N Q a0 a1 L)) e)
def q_f85_3 (N : TN) : ACode := (.seq (.seq (.reg [oQ (36,.mv,[.l 0]),oQ (37,.nilchk,[.t 36]),oQ (38,.fad 4,[.t 37]),oQ (39,.ld none,[.t 38]),oQ (40,.lenSl,[.t 39]),oQ (41,.mv,[.l 0]),oQ (42,.nilchk,[.t 41]),oQ (43,.fad 0,[.t 42]),oQ (44,.ld none,[.t 43]),oQ (45,.bin .lss,[.t 40,.t 44])]) (.cond (.t 45) (.seq (.reg [oQ (46,.mv,[.l 0]),oQ (47,.bslice [.i .i64 0] 0 1 [],[]),oQ (48,.mv,[.l 0]),oQ (49,.nilchk,[.t 48]),oQ (50,.fad 4,[.t 49]),oQ (51,.ld none,[.t 50]),oQ (52,.app 1 8,[.t 47,.t 51]),oQ (53,.mv,[.l 1]),oQ (54,.bslice [.i .i64 0] 1 1 [0],[.t 53]),oQ (55,.app 1 8,[.t 52,.t 54]),oQ (56,.nilchk,[.t 46]),oQ (57,.fad 4,[.t 56]),⟨.no,none,.st 1,[.t 57,.t 55]⟩]) (.seq (.reg [⟨.l 4,none,.mv,[.c (.b true)]⟩,⟨.l 5,none,.mv,[.c (.sl none 0 0 0)]⟩]) .ret)) .skip)) (.seq (.reg [⟨.l 4,none,.mv,[.c (.b false)]⟩,⟨.l 5,none,.mv,[.c (.sl none 0 0 0)]⟩]) .ret))
noncomputable def D_f85_3 (F:TF)(N:TN)(Q:TQ) (x0 x1:AV) (L : Lg) : Prop :=
 wpOp F .nilchk [x0] L fun v1 L1=>
 wpOp F (.fad 4) [v1] L1 fun v2 L2=>
 wpOp F (.ld none) [v2] L2 fun v3 L3=>
 wpOp F .lenSl [v3] L3 fun v4 L4=>
 wpOp F .nilchk [x0] L4 fun v5 L5=>
 wpOp F (.fad 0) [v5] L5 fun v6 L6=>
 wpOp F (.ld none) [v6] L6 fun v7 L7=>
 wpOp F (.bin .lss) [v4,v7] L7 fun v8 L8=>
 condW v8
 (wpOp F (.bslice [.i .i64 0] 0 1 []) [] L8 fun v9 L9=>
 wpOp F .nilchk [x0] L9 fun v10 L10=>
 wpOp F (.fad 4) [v10] L10 fun v11 L11=>
 wpOp F (.ld none) [v11] L11 fun v12 L12=>
 wpOp F (.app 1 8) [v9,v12] L12 fun v13 L13=>
 wpOp F (.bslice [.i .i64 0] 1 1 [0]) [x1] L13 fun v14 L14=>
 wpOp F (.app 1 8) [v13,v14] L14 fun v15 L15=>
 wpOp F .nilchk [x0] L15 fun v16 L16=>
 wpOp F (.fad 4) [v16] L16 fun v17 L17=>
 wpOp F (.st 1) [v17,v15] L17 fun _ L18=>
 fin1 (some (.tup [(.b true),(.sl none 0 0 0)])) Q L18)
 (fin1 (some (.tup [(.b false),(.sl none 0 0 0)])) Q L8)
theorem e_f85_3 (F:TF)(N:TN)(Q:TQ) (l t : Env) (L : Lg) : wp F (q_f85_3 N) l t L (fin [.tmp (.l 4),.tmp (.l 5)] Q) nE (fin [.tmp (.l 4),.tmp (.l 5)] Q) = D_f85_3 F N Q (l 0) (l 1) L := by kernel_rfl
def q_f85_2a (N : TN) : ACode := (.seq (.reg [oQ (7,.mv,[.l 0]),oQ (8,.nilchk,[.t 7]),oQ (9,.fad 6,[.t 8]),oQ (10,.ld none,[.t 9]),oQ (11,.lenSl,[.t 10]),oQ (12,.bin .gtr,[.t 11,.c (.i .i64 0)])]) (.cond (.t 12) (.seq (.reg [oQ (13,.mv,[.l 0]),oQ (14,.nilchk,[.t 13]),oQ (15,.fad 6,[.t 14]),oQ (16,.ld none,[.t 15]),oQ (17,.iad 3,[.t 16,.c (.i .i64 0)]),oQ (18,.ld (some 3),[.t 17]),⟨.l 6,none,.alloc [.i .i64 0,.i .i64 0,.i .i64 0],[]⟩,⟨.no,none,.st 3,[.l 6,.t 18]⟩]) (.seq (.reg [oQ (19,.mv,[.l 0]),oQ (20,.bslice [.i .i64 0,.i .i64 0,.i .i64 0] 0 3 [],[]),oQ (21,.mv,[.l 0]),oQ (22,.nilchk,[.t 21]),oQ (23,.fad 6,[.t 22]),oQ (24,.ld none,[.t 23]),oQ (25,.slc 3 true false false,[.t 24,.c (.i .i64 1)]),oQ (26,.app 3 24,[.t 20,.t 25]),oQ (27,.nilchk,[.t 19]),oQ (28,.fad 6,[.t 27]),⟨.no,none,.st 1,[.t 28,.t 26]⟩]) (.seq (.reg [oQ (29,.fad 0,[.l 6]),oQ (30,.ld none,[.t 29]),oQ (31,.fad 1,[.l 6]),oQ (32,.ld none,[.t 31]),oQ (33,.mv,[.l 1]),oQ (34,.build [.i .i64 0,.i .i64 0,.i .i64 0,.b false,.b false] [(0,1),(1,1),(2,1),(3,1)],[.t 30,.t 32,.t 33,.c (.b true)]),oQ (35,.bslice [.i .i64 0,.i .i64 0,.i .i64 0,.b false,.b false] 1 5 [0],[.t 34]),⟨.l 4,none,.mv,[.c (.b true)]⟩,⟨.l 5,none,.mv,[.t 35]⟩]) .ret))) .skip))
def q_f85_2 (N : TN) : ACode := (.seq (q_f85_2a N) (q_f85_3 N))
noncomputable def D_f85_2 (F:TF)(N:TN)(Q:TQ) (x0 x1:AV) (L : Lg) : Prop :=
 wpOp F .nilchk [x0] L fun v1 L1=>
 wpOp F (.fad 6) [v1] L1 fun v2 L2=>
 wpOp F (.ld none) [v2] L2 fun v3 L3=>
 wpOp F .lenSl [v3] L3 fun v4 L4=>
 wpOp F (.bin .gtr) [v4,(.i .i64 0)] L4 fun v5 L5=>
 condW v5
 (wpOp F .nilchk [x0] L5 fun v6 L6=>
 wpOp F (.fad 6) [v6] L6 fun v7 L7=>
 wpOp F (.ld none) [v7] L7 fun v8 L8=>
 wpOp F (.iad 3) [v8,(.i .i64 0)] L8 fun v9 L9=>
 wpOp F (.ld (some 3)) [v9] L9 fun v10 L10=>
 wpOp F (.alloc [.i .i64 0,.i .i64 0,.i .i64 0]) [] L10 fun v11 L11=>
 wpOp F (.st 3) [v11,v10] L11 fun _ L12=>
 wpOp F (.bslice [.i .i64 0,.i .i64 0,.i .i64 0] 0 3 []) [] L12 fun v13 L13=>
 wpOp F .nilchk [x0] L13 fun v14 L14=>
 wpOp F (.fad 6) [v14] L14 fun v15 L15=>
 wpOp F (.ld none) [v15] L15 fun v16 L16=>
 wpOp F (.slc 3 true false false) [v16,(.i .i64 1)] L16 fun v17 L17=>
 wpOp F (.app 3 24) [v13,v17] L17 fun v18 L18=>
 wpOp F .nilchk [x0] L18 fun v19 L19=>
 wpOp F (.fad 6) [v19] L19 fun v20 L20=>
 wpOp F (.st 1) [v20,v18] L20 fun _ L21=>
 wpOp F (.fad 0) [v11] L21 fun v22 L22=>
 wpOp F (.ld none) [v22] L22 fun v23 L23=>
 wpOp F (.fad 1) [v11] L23 fun v24 L24=>
 wpOp F (.ld none) [v24] L24 fun v25 L25=>
 wpOp F (.build [.i .i64 0,.i .i64 0,.i .i64 0,.b false,.b false] [(0,1),(1,1),(2,1),(3,1)]) [v23,v25,x1,(.b true)] L25 fun v26 L26=>
 wpOp F (.bslice [.i .i64 0,.i .i64 0,.i .i64 0,.b false,.b false] 1 5 [0]) [v26] L26 fun v27 L27=>
 fin1 (some (.tup [(.b true),v27])) Q L27)
 (D_f85_3 F N Q x0 x1 L5)
theorem e_f85_2 (F:TF)(N:TN)(Q:TQ) (l t : Env) (L : Lg) : wp F (q_f85_2 N) l t L (fin [.tmp (.l 4),.tmp (.l 5)] Q) nE (fin [.tmp (.l 4),.tmp (.l 5)] Q) = D_f85_2 F N Q (l 0) (l 1) L := wpS (e_f85_3 F N Q) (by kernel_rfl)
def q_f85_1a (N : TN) : ACode := (.reg [⟨.l 4,none,.mv,[.c (.b false)]⟩,⟨.l 5,none,.mv,[.c (.sl none 0 0 0)]⟩])
def q_f85_1 (N : TN) : ACode := (.seq (q_f85_1a N) (q_f85_2 N))
noncomputable def D_f85_1 (F:TF)(N:TN)(Q:TQ) (x0 x1:AV) (L : Lg) : Prop :=
 D_f85_2 F N Q x0 x1 L
theorem e_f85_1 (F:TF)(N:TN)(Q:TQ) (l t : Env) (L : Lg) : wp F (q_f85_1 N) l t L (fin [.tmp (.l 4),.tmp (.l 5)] Q) nE (fin [.tmp (.l 4),.tmp (.l 5)] Q) = D_f85_1 F N Q (l 0) (l 1) L := wpS (e_f85_2 F N Q) (by kernel_rfl)
def c_f85 (N : TN) : AFn := ⟨q_f85_1 N,[.tmp (.l 4),.tmp (.l 5)]⟩
structure H_f85 (N : TN) (F : TF) : Prop where
  code : F (N k_f85) = some (c_f85 N)
theorem r_f85 {F : TF} {N : TN} (h : F (N k_f85) = some (c_f85 N)) {Q : TQ} {a0 a1 : AV} {L : Lg} (e : D_f85_1 F N Q a0 a1 L) : CallL F (N k_f85) [a0,a1] L Q :=
  CallL.of_wp h (Eq.mpr (Eq.trans (e_f85_1 F N Q (initE [a0,a1] 0) Env.nil L) (by kernel_rfl : _ = D_f85_1 F N Q a0 a1 L)) e)
def q_f86_1 (N : TN) : ACode := (.seq (.reg [⟨.l 4,none,.mv,[.c (.sl none 0 0 0)]⟩,⟨.l 5,none,.mv,[.c (.b false)]⟩]) (.seq (.seq (.reg [oQ (8,.mv,[.l 0]),oQ (9,.eq false .ptr,[.t 8,.c (.p none)]),oQ (10,.mv,[.t 9]),gQ (11,10,false,.mv,[.l 0]),gQ (12,10,false,.nilchk,[.t 11]),gQ (13,10,false,.fad 1,[.t 12]),gQ (14,10,false,.ld none,[.t 13]),gQ (15,10,false,.un .not,[.t 14]),oQ (16,.pick,[.t 10,.c (.b true),.t 15])]) (.cond (.t 16) (.seq (.reg [⟨.l 4,none,.mv,[.c (.sl none 0 0 0)]⟩,⟨.l 5,none,.mv,[.c (.b false)]⟩]) .ret) .skip)) (.seq (.reg [oQ (18,.mv,[.l 0]),oQ (19,.mv,[.l 1]),oQ (20,.call (N k_f85),[.t 18,.t 19]),oQ (17,.mv,[.t 20]),oQ (21,.ext 0,[.t 17]),oQ (22,.ext 1,[.t 17]),⟨.l 6,none,.mv,[.t 21]⟩,⟨.l 7,none,.mv,[.t 22]⟩]) (.seq (.reg [oQ (23,.mv,[.l 7]),oQ (24,.mv,[.l 6]),⟨.l 4,none,.mv,[.t 23]⟩,⟨.l 5,none,.mv,[.t 24]⟩]) .ret))))
noncomputable def D_f86_1 (F:TF)(N:TN)(Q:TQ) (x0 x1:AV) (L : Lg) : Prop :=
 wpOp F (.eq false .ptr) [x0,(.p none)] L fun v1 L1=>
 gdOp F v1 false .mv [x0] L1 fun v2 L2=>
 gdOp F v1 false .nilchk [v2] L2 fun v3 L3=>
 gdOp F v1 false (.fad 1) [v3] L3 fun v4 L4=>
 gdOp F v1 false (.ld none) [v4] L4 fun v5 L5=>
 gdOp F v1 false (.un .not) [v5] L5 fun v6 L6=>
 wpOp F .pick [v1,(.b true),v6] L6 fun v7 L7=>
 condW v7
 (fin1 (some (.tup [(.sl none 0 0 0),(.b false)])) Q L7)
 (CallL F (N k_f85) [x0,x1] L7 fun v8 L8=>
 wpOp F (.ext 0) [v8] L8 fun v9 L9=>
 wpOp F (.ext 1) [v8] L9 fun v10 L10=>
 fin1 (some (.tup [v10,v9])) Q L10)
theorem e_f86_1 (F:TF)(N:TN)(Q:TQ) (l t : Env) (L : Lg) : wp F (q_f86_1 N) l t L (fin [.tmp (.l 4),.tmp (.l 5)] Q) nE (fin [.tmp (.l 4),.tmp (.l 5)] Q) = D_f86_1 F N Q (l 0) (l 1) L := by kernel_rfl
def c_f86 (N : TN) : AFn := ⟨q_f86_1 N,[.tmp (.l 4),.tmp (.l 5)]⟩
structure H_f86 (N : TN) (F : TF) : Prop where
  code : F (N k_f86) = some (c_f86 N)
  f85 : H_f85 N F
theorem r_f86 {F : TF} {N : TN} (h : F (N k_f86) = some (c_f86 N)) {Q : TQ} {a0 a1 : AV} {L : Lg} (e : D_f86_1 F N Q a0 a1 L) : CallL F (N k_f86) [a0,a1] L Q :=
  CallL.of_wp h (Eq.mpr (Eq.trans (e_f86_1 F N Q (initE [a0,a1] 0) Env.nil L) (by kernel_rfl : _ = D_f86_1 F N Q a0 a1 L)) e)
def q_f87_5 (N : TN) : ACode := (.seq (.reg [oQ (29,.fad 0,[.l 6]),oQ (30,.ld none,[.t 29]),oQ (31,.fad 0,[.l 8]),oQ (32,.ld none,[.t 31]),oQ (33,.fad 1,[.l 6]),oQ (34,.ld none,[.t 33]),oQ (35,.mv,[.l 1]),oQ (36,.fad 1,[.l 8]),oQ (37,.ld none,[.t 36]),oQ (38,.build [.i .i64 0,.i .i64 0,.i .i64 0,.i .i64 0,.i .i64 0,.sl none 0 0 0,.b false] [(0,1),(1,1),(2,1),(3,1),(4,1)],[.t 30,.t 32,.t 34,.t 35,.t 37]),⟨.l 9,none,.alloc [.i .i64 0,.i .i64 0,.i .i64 0,.i .i64 0,.i .i64 0,.sl none 0 0 0,.b false],[]⟩,⟨.no,none,.st 7,[.l 9,.t 38]⟩]) (.seq (.seq (.reg [oQ (39,.fad 2,[.l 8]),oQ (40,.ld none,[.t 39]),oQ (41,.eq true .ptr,[.t 40,.c (.p none)])]) (.cond (.t 41) (.reg [oQ (43,.fad 2,[.l 8]),oQ (44,.ld none,[.t 43]),oQ (45,.mv,[.l 1]),oQ (46,.call (N k_f86),[.t 44,.t 45]),oQ (42,.mv,[.t 46]),oQ (47,.ext 0,[.t 42]),oQ (48,.ext 1,[.t 42]),oQ (49,.fad 5,[.l 9]),⟨.no,none,.st 1,[.t 49,.t 47]⟩,oQ (50,.fad 6,[.l 9]),⟨.no,none,.st 1,[.t 50,.t 48]⟩]) .skip)) (.seq (.reg [oQ (51,.ld (some 7),[.l 9]),⟨.no,none,.st 7,[.l 4,.t 51]⟩,⟨.l 5,none,.mv,[.c (.b true)]⟩]) .ret)))
noncomputable def D_f87_5 (F:TF)(N:TN)(Q:TQ) (x1 x4 x6 x8:AV) (L : Lg) : Prop :=
 wpOp F (.fad 0) [x6] L fun v1 L1=>
 wpOp F (.ld none) [v1] L1 fun v2 L2=>
 wpOp F (.fad 0) [x8] L2 fun v3 L3=>
 wpOp F (.ld none) [v3] L3 fun v4 L4=>
 wpOp F (.fad 1) [x6] L4 fun v5 L5=>
 wpOp F (.ld none) [v5] L5 fun v6 L6=>
 wpOp F (.fad 1) [x8] L6 fun v7 L7=>
 wpOp F (.ld none) [v7] L7 fun v8 L8=>
 wpOp F (.build [.i .i64 0,.i .i64 0,.i .i64 0,.i .i64 0,.i .i64 0,.sl none 0 0 0,.b false] [(0,1),(1,1),(2,1),(3,1),(4,1)]) [v2,v4,v6,x1,v8] L8 fun v9 L9=>
 wpOp F (.alloc [.i .i64 0,.i .i64 0,.i .i64 0,.i .i64 0,.i .i64 0,.sl none 0 0 0,.b false]) [] L9 fun v10 L10=>
 wpOp F (.st 7) [v10,v9] L10 fun _ L11=>
 wpOp F (.fad 2) [x8] L11 fun v12 L12=>
 wpOp F (.ld none) [v12] L12 fun v13 L13=>
 wpOp F (.eq true .ptr) [v13,(.p none)] L13 fun v14 L14=>
 condW v14
 (wpOp F (.fad 2) [x8] L14 fun v15 L15=>
 wpOp F (.ld none) [v15] L15 fun v16 L16=>
 CallL F (N k_f86) [v16,x1] L16 fun v17 L17=>
 wpOp F (.ext 0) [v17] L17 fun v18 L18=>
 wpOp F (.ext 1) [v17] L18 fun v19 L19=>
 wpOp F (.fad 5) [v10] L19 fun v20 L20=>
 wpOp F (.st 1) [v20,v18] L20 fun _ L21=>
 wpOp F (.fad 6) [v10] L21 fun v22 L22=>
 wpOp F (.st 1) [v22,v19] L22 fun _ L23=>
 wpOp F (.ld (some 7)) [v10] L23 fun v24 L24=>
 wpOp F (.st 7) [x4,v24] L24 fun _ L25=>
 fin1 (resVL Env.nil Env.nil L25 [.cell (.c x4) (some 7),.tmp (.c (.b true))]) Q L25)
 (wpOp F (.ld (some 7)) [v10] L14 fun v26 L26=>
 wpOp F (.st 7) [x4,v26] L26 fun _ L27=>
 fin1 (resVL Env.nil Env.nil L27 [.cell (.c x4) (some 7),.tmp (.c (.b true))]) Q L27)
theorem e_f87_5 (F:TF)(N:TN)(Q:TQ) (l t : Env) (L : Lg) : wp F (q_f87_5 N) l t L (fin [.cell (.l 4) (some 7),.tmp (.l 5)] Q) nE (fin [.cell (.l 4) (some 7),.tmp (.l 5)] Q) = D_f87_5 F N Q (l 1) (l 4) (l 6) (l 8) L := by kernel_rfl
def q_f87_4a (N : TN) : ACode := (.reg [oQ (21,.mv,[.l 0]),oQ (22,.nilchk,[.t 21]),oQ (23,.fad 3,[.t 22]),oQ (24,.ld none,[.t 23]),oQ (25,.fad 0,[.l 6]),oQ (26,.ld none,[.t 25]),oQ (27,.iad 4,[.t 24,.t 26]),oQ (28,.ld (some 4),[.t 27]),⟨.l 8,none,.alloc [.i .i64 0,.i .i64 0,.p none,.i .i64 0],[]⟩,⟨.no,none,.st 4,[.l 8,.t 28]⟩])
def q_f87_4 (N : TN) : ACode := (.seq (q_f87_4a N) (q_f87_5 N))
noncomputable def D_f87_4 (F:TF)(N:TN)(Q:TQ) (x0 x1 x4 x6:AV) (L : Lg) : Prop :=
 wpOp F .nilchk [x0] L fun v1 L1=>
 wpOp F (.fad 3) [v1] L1 fun v2 L2=>
 wpOp F (.ld none) [v2] L2 fun v3 L3=>
 wpOp F (.fad 0) [x6] L3 fun v4 L4=>
 wpOp F (.ld none) [v4] L4 fun v5 L5=>
 wpOp F (.iad 4) [v3,v5] L5 fun v6 L6=>
 wpOp F (.ld (some 4)) [v6] L6 fun v7 L7=>
 wpOp F (.alloc [.i .i64 0,.i .i64 0,.p none,.i .i64 0]) [] L7 fun v8 L8=>
 wpOp F (.st 4) [v8,v7] L8 fun _ L9=>
 D_f87_5 F N Q x1 x4 x6 v8 L9
theorem e_f87_4 (F:TF)(N:TN)(Q:TQ) (l t : Env) (L : Lg) : wp F (q_f87_4 N) l t L (fin [.cell (.l 4) (some 7),.tmp (.l 5)] Q) nE (fin [.cell (.l 4) (some 7),.tmp (.l 5)] Q) = D_f87_4 F N Q (l 0) (l 1) (l 4) (l 6) L := wpS (e_f87_5 F N Q) (by kernel_rfl)
def q_f87_3a (N : TN) : ACode := (.seq (.reg [oQ (18,.mv,[.l 7]),oQ (19,.un .not,[.t 18])]) (.cond (.t 19) (.seq (.reg [oQ (20,.build [.i .i64 0,.i .i64 0,.i .i64 0,.i .i64 0,.i .i64 0,.sl none 0 0 0,.b false] [],[]),⟨.no,none,.st 7,[.l 4,.t 20]⟩,⟨.l 5,none,.mv,[.c (.b false)]⟩]) .ret) .skip))
def q_f87_3 (N : TN) : ACode := (.seq (q_f87_3a N) (q_f87_4 N))
noncomputable def D_f87_3 (F:TF)(N:TN)(Q:TQ) (x0 x1 x4 x6 x7:AV) (L : Lg) : Prop :=
 wpOp F (.un .not) [x7] L fun v1 L1=>
 condW v1
 (wpOp F (.build [.i .i64 0,.i .i64 0,.i .i64 0,.i .i64 0,.i .i64 0,.sl none 0 0 0,.b false] []) [] L1 fun v2 L2=>
 wpOp F (.st 7) [x4,v2] L2 fun _ L3=>
 fin1 (resVL Env.nil Env.nil L3 [.cell (.c x4) (some 7),.tmp (.c (.b false))]) Q L3)
 (D_f87_4 F N Q x0 x1 x4 x6 L1)
theorem e_f87_3 (F:TF)(N:TN)(Q:TQ) (l t : Env) (L : Lg) : wp F (q_f87_3 N) l t L (fin [.cell (.l 4) (some 7),.tmp (.l 5)] Q) nE (fin [.cell (.l 4) (some 7),.tmp (.l 5)] Q) = D_f87_3 F N Q (l 0) (l 1) (l 4) (l 6) (l 7) L := wpS (e_f87_4 F N Q) (by kernel_rfl)
def q_f87_2a (N : TN) : ACode := (.reg [oQ (11,.mv,[.l 0]),oQ (12,.nilchk,[.t 11]),oQ (13,.fad 0,[.t 12]),oQ (14,.mv,[.l 1]),oQ (15,.call (N k_f84),[.t 13,.t 14]),oQ (10,.mv,[.t 15]),oQ (16,.ext 0,[.t 10]),oQ (17,.ext 1,[.t 10]),⟨.l 6,none,.alloc [.i .i64 0,.i .i64 0,.i .i64 0],[]⟩,⟨.no,none,.st 3,[.l 6,.t 16]⟩,⟨.l 7,none,.mv,[.t 17]⟩])
def q_f87_2 (N : TN) : ACode := (.seq (q_f87_2a N) (q_f87_3 N))
noncomputable def D_f87_2 (F:TF)(N:TN)(Q:TQ) (x0 x1 x4:AV) (L : Lg) : Prop :=
 wpOp F .nilchk [x0] L fun v1 L1=>
 wpOp F (.fad 0) [v1] L1 fun v2 L2=>
 CallL F (N k_f84) [v2,x1] L2 fun v3 L3=>
 wpOp F (.ext 0) [v3] L3 fun v4 L4=>
 wpOp F (.ext 1) [v3] L4 fun v5 L5=>
 wpOp F (.alloc [.i .i64 0,.i .i64 0,.i .i64 0]) [] L5 fun v6 L6=>
 wpOp F (.st 3) [v6,v4] L6 fun _ L7=>
 D_f87_3 F N Q x0 x1 x4 v6 v5 L7
theorem e_f87_2 (F:TF)(N:TN)(Q:TQ) (l t : Env) (L : Lg) : wp F (q_f87_2 N) l t L (fin [.cell (.l 4) (some 7),.tmp (.l 5)] Q) nE (fin [.cell (.l 4) (some 7),.tmp (.l 5)] Q) = D_f87_2 F N Q (l 0) (l 1) (l 4) L := wpS (e_f87_3 F N Q) (by kernel_rfl)
def q_f87_1a (N : TN) : ACode := (.reg [⟨.l 4,none,.alloc [.i .i64 0,.i .i64 0,.i .i64 0,.i .i64 0,.i .i64 0,.sl none 0 0 0,.b false],[]⟩,⟨.l 5,none,.mv,[.c (.b false)]⟩])
def q_f87_1 (N : TN) : ACode := (.seq (q_f87_1a N) (q_f87_2 N))
noncomputable def D_f87_1 (F:TF)(N:TN)(Q:TQ) (x0 x1:AV) (L : Lg) : Prop :=
 wpOp F (.alloc [.i .i64 0,.i .i64 0,.i .i64 0,.i .i64 0,.i .i64 0,.sl none 0 0 0,.b false]) [] L fun v1 L1=>
 D_f87_2 F N Q x0 x1 v1 L1
theorem e_f87_1 (F:TF)(N:TN)(Q:TQ) (l t : Env) (L : Lg) : wp F (q_f87_1 N) l t L (fin [.cell (.l 4) (some 7),.tmp (.l 5)] Q) nE (fin [.cell (.l 4) (some 7),.tmp (.l 5)] Q) = D_f87_1 F N Q (l 0) (l 1) L := wpS (e_f87_2 F N Q) (by kernel_rfl)
def c_f87 (N : TN) : AFn := ⟨q_f87_1 N,[.cell (.l 4) (some 7),.tmp (.l 5)]⟩
structure H_f87 (N : TN) (F : TF) : Prop where
  code : F (N k_f87) = some (c_f87 N)
  f84 : H_f84 N F
  f86 : H_f86 N F
theorem r_f87 {F : TF} {N : TN} (h : F (N k_f87) = some (c_f87 N)) {Q : TQ} {a0 a1 : AV} {L : Lg} (e : D_f87_1 F N Q a0 a1 L) : CallL F (N k_f87) [a0,a1] L Q :=
  CallL.of_wp h (Eq.mpr (Eq.trans (e_f87_1 F N Q (initE [a0,a1] 0) Env.nil L) (by kernel_rfl : _ = D_f87_1 F N Q a0 a1 L)) e)
def q_f88_4 (N : TN) : ACode := (.seq (.reg [⟨.l 4,none,.mv,[.c (.b true)]⟩]) .ret)
noncomputable def D_f88_4 (F:TF)(N:TN)(Q:TQ) (L : Lg) : Prop :=
 fin1 (some (.b true)) Q L
theorem e_f88_4 (F:TF)(N:TN)(Q:TQ) (l t : Env) (L : Lg) : wp F (q_f88_4 N) l t L (fin [.tmp (.l 4)] Q) nE (fin [.tmp (.l 4)] Q) = D_f88_4 F N Q L := by kernel_rfl
def w_f88_3 (F:TF)(N:TN)(Q:TQ) : Kn := (fun (l t : Env) (L : Lg) => D_f88_4 F N Q L)
def y_f88_6 (F:TF)(N:TN)(Q:TQ) : Nat → Kn := (fun (j : Nat) (l t : Env) (L : Lg) => bif Nat.beq j 0 then (w_f88_3 F N Q) l t L else nE j l t L)
def q_f88_8 (N : TN) : ACode := (.seq (.seq (.reg [oQ (11,.mv,[.l 5]),oQ (12,.mv,[.l 0]),oQ (13,.lenSl,[.t 12]),oQ (14,.bin .lss,[.t 11,.t 13])]) (.cond (.t 14) .skip (.exit 0))) (.seq (.block 1 (.seq (.reg [oQ (17,.mv,[.l 0]),oQ (18,.mv,[.l 5]),oQ (19,.iad 5,[.t 17,.t 18]),oQ (20,.ld (some 5),[.t 19]),oQ (21,.mv,[.l 1]),oQ (22,.mv,[.l 5]),oQ (23,.iad 5,[.t 21,.t 22]),oQ (24,.ld (some 5),[.t 23]),oQ (25,.eq true (.agg [(0,1),(1,1),(2,1),(3,0),(4,0)]),[.t 20,.t 24])]) (.cond (.t 25) (.seq (.reg [⟨.l 4,none,.mv,[.c (.b false)]⟩]) .ret) .skip))) (.reg [oQ (15,.mv,[.l 5]),oQ (16,.bin .add,[.t 15,.c (.i .i64 1)]),⟨.l 5,none,.mv,[.t 16]⟩])))
noncomputable def D_f88_8 (F:TF)(N:TN)(Q:TQ) (k1 : TK) (l : Env) (L : Lg) : Prop :=
 wpOp F .lenSl [(l 0)] L fun v1 L1=>
 wpOp F (.bin .lss) [(l 5),v1] L1 fun v2 L2=>
 condW v2
 (wpOp F (.iad 5) [(l 0),(l 5)] L2 fun v3 L3=>
 wpOp F (.ld (some 5)) [v3] L3 fun v4 L4=>
 wpOp F (.iad 5) [(l 1),(l 5)] L4 fun v5 L5=>
 wpOp F (.ld (some 5)) [v5] L5 fun v6 L6=>
 wpOp F (.eq true (.agg [(0,1),(1,1),(2,1),(3,0),(4,0)])) [v4,v6] L6 fun v7 L7=>
 condW v7
 (fin1 (some (.b false)) Q L7)
 (wpOp F (.bin .add) [(l 5),(.i .i64 1)] L7 fun v8 L8=>
 k1 (Env.put l 5 v8) L8))
 (D_f88_4 F N Q L2)
theorem e_f88_8 (F:TF)(N:TN)(Q:TQ) (k1 : TK) (l t : Env) (L : Lg) : wp F (q_f88_8 N) l t L (fun (l _ : Env) (L : Lg) => k1 l L) (y_f88_6 F N Q) (fin [.tmp (.l 4)] Q) = D_f88_8 F N Q k1 l L := by kernel_rfl
def q_f88_7 (N : TN) : ACode := (.loop (q_f88_8 N))
noncomputable def D_f88_7 (F:TF)(N:TN)(Q:TQ) (l : Env) (L : Lg) : Prop :=
 loopW (fun l t L k1 => D_f88_8 F N Q k1 l L) l L
theorem e_f88_7 (F:TF)(N:TN)(Q:TQ) (l t : Env) (L : Lg) : wp F (q_f88_7 N) l t L (w_f88_3 F N Q) (y_f88_6 F N Q) (fin [.tmp (.l 4)] Q) = D_f88_7 F N Q l L := wpL (fun l t L k1 => e_f88_8 F N Q k1 l t L) (by kernel_rfl)
def q_f88_6 (N : TN) : ACode := (.block 0 (q_f88_7 N))
theorem e_f88_6 (F:TF)(N:TN)(Q:TQ) (l t : Env) (L : Lg) : wp F (q_f88_6 N) l t L (w_f88_3 F N Q) nE (fin [.tmp (.l 4)] Q) = D_f88_7 F N Q l L := wpB (e_f88_7 F N Q l t L)
def q_f88_5a (N : TN) : ACode := (.reg [⟨.l 5,none,.mv,[.c (.i .i64 0)]⟩])
def q_f88_5 (N : TN) : ACode := (.seq (q_f88_5a N) (q_f88_6 N))
noncomputable def D_f88_5 (F:TF)(N:TN)(Q:TQ) (l : Env) (L : Lg) : Prop :=
 D_f88_7 F N Q (Env.put l 5 (.i .i64 0)) L
theorem e_f88_5 (F:TF)(N:TN)(Q:TQ) (l t : Env) (L : Lg) : wp F (q_f88_5 N) l t L (w_f88_3 F N Q) nE (fin [.tmp (.l 4)] Q) = D_f88_5 F N Q l L := wpS (e_f88_6 F N Q) (by kernel_rfl)
def q_f88_3 (N : TN) : ACode := (.seq (q_f88_5 N) (q_f88_4 N))
theorem e_f88_3 (F:TF)(N:TN)(Q:TQ) (l t : Env) (L : Lg) : wp F (q_f88_3 N) l t L (fin [.tmp (.l 4)] Q) nE (fin [.tmp (.l 4)] Q) = D_f88_5 F N Q l L := wpS (e_f88_4 F N Q) (e_f88_5 F N Q l t L)
def q_f88_2a (N : TN) : ACode := (.seq (.reg [oQ (6,.mv,[.l 0]),oQ (7,.lenSl,[.t 6]),oQ (8,.mv,[.l 1]),oQ (9,.lenSl,[.t 8]),oQ (10,.bin .neq,[.t 7,.t 9])]) (.cond (.t 10) (.seq (.reg [⟨.l 4,none,.mv,[.c (.b false)]⟩]) .ret) .skip))
def q_f88_2 (N : TN) : ACode := (.seq (q_f88_2a N) (q_f88_3 N))
noncomputable def D_f88_2 (F:TF)(N:TN)(Q:TQ) (l : Env) (L : Lg) : Prop :=
 wpOp F .lenSl [(l 0)] L fun v1 L1=>
 wpOp F .lenSl [(l 1)] L1 fun v2 L2=>
 wpOp F (.bin .neq) [v1,v2] L2 fun v3 L3=>
 condW v3
 (fin1 (some (.b false)) Q L3)
 (D_f88_5 F N Q l L3)
theorem e_f88_2 (F:TF)(N:TN)(Q:TQ) (l t : Env) (L : Lg) : wp F (q_f88_2 N) l t L (fin [.tmp (.l 4)] Q) nE (fin [.tmp (.l 4)] Q) = D_f88_2 F N Q l L := wpS (e_f88_3 F N Q) (by kernel_rfl)
def q_f88_1a (N : TN) : ACode := (.reg [⟨.l 4,none,.mv,[.c (.b false)]⟩])
def q_f88_1 (N : TN) : ACode := (.seq (q_f88_1a N) (q_f88_2 N))
noncomputable def D_f88_1 (F:TF)(N:TN)(Q:TQ) (l : Env) (L : Lg) : Prop :=
 D_f88_2 F N Q (Env.put l 4 (.b false)) L
theorem e_f88_1 (F:TF)(N:TN)(Q:TQ) (l t : Env) (L : Lg) : wp F (q_f88_1 N) l t L (fin [.tmp (.l 4)] Q) nE (fin [.tmp (.l 4)] Q) = D_f88_1 F N Q l L := wpS (e_f88_2 F N Q) (by kernel_rfl)
def c_f88 (N : TN) : AFn := ⟨q_f88_1 N,[.tmp (.l 4)]⟩
structure H_f88 (N : TN) (F : TF) : Prop where
  code : F (N k_f88) = some (c_f88 N)
theorem r_f88 {F : TF} {N : TN} (h : F (N k_f88) = some (c_f88 N)) {Q : TQ} {a0 a1 : AV} {L : Lg} (e : D_f88_1 F N Q (initE [a0,a1] 0) L) : CallL F (N k_f88) [a0,a1] L Q :=
  CallL.of_wp h (Eq.mpr (Eq.trans (e_f88_1 F N Q (initE [a0,a1] 0) Env.nil L) (by kernel_rfl : _ = D_f88_1 F N Q (initE [a0,a1] 0) L)) e)
def q_f89_3 (N : TN) : ACode := .ret
noncomputable def D_f89_3 (F:TF)(N:TN)(Q:TQ) (x4 : AV) (L : Lg) : Prop :=
 fin1 (some x4) Q L
theorem e_f89_3 (F:TF)(N:TN)(Q:TQ) (l t : Env) (L : Lg) : wp F (q_f89_3 N) l t L (fin [.tmp (.l 4)] Q) nE (fin [.tmp (.l 4)] Q) = D_f89_3 F N Q (l 4) L := by kernel_rfl
def q_f89_2a (N : TN) : ACode := (.reg [oQ (5,.fad 0,[.l 2]),oQ (6,.ld none,[.t 5]),oQ (7,.fad 0,[.l 3]),oQ (8,.ld none,[.t 7]),oQ (9,.bin .eql,[.t 6,.t 8]),oQ (10,.mv,[.t 9]),gQ (11,10,true,.fad 1,[.l 2]),gQ (12,10,true,.ld none,[.t 11]),gQ (13,10,true,.fad 1,[.l 3]),gQ (14,10,true,.ld none,[.t 13]),gQ (15,10,true,.bin .eql,[.t 12,.t 14]),oQ (16,.pick,[.t 10,.t 15,.c (.b false)]),oQ (17,.mv,[.t 16]),gQ (18,17,true,.fad 2,[.l 2]),gQ (19,17,true,.ld none,[.t 18]),gQ (20,17,true,.fad 2,[.l 3]),gQ (21,17,true,.ld none,[.t 20]),gQ (22,17,true,.bin .eql,[.t 19,.t 21]),oQ (23,.pick,[.t 17,.t 22,.c (.b false)]),oQ (24,.mv,[.t 23]),gQ (25,24,true,.fad 3,[.l 2]),gQ (26,24,true,.ld none,[.t 25]),gQ (27,24,true,.fad 3,[.l 3]),gQ (28,24,true,.ld none,[.t 27]),gQ (29,24,true,.bin .eql,[.t 26,.t 28]),oQ (30,.pick,[.t 24,.t 29,.c (.b false)]),oQ (31,.mv,[.t 30]),gQ (32,31,true,.fad 4,[.l 2]),gQ (33,31,true,.ld none,[.t 32]),gQ (34,31,true,.fad 4,[.l 3]),gQ (35,31,true,.ld none,[.t 34]),gQ (36,31,true,.bin .eql,[.t 33,.t 35]),oQ (37,.pick,[.t 31,.t 36,.c (.b false)]),oQ (38,.mv,[.t 37]),gQ (39,38,true,.fad 6,[.l 2]),gQ (40,38,true,.ld none,[.t 39]),gQ (41,38,true,.fad 6,[.l 3]),gQ (42,38,true,.ld none,[.t 41]),gQ (43,38,true,.eq false .bool,[.t 40,.t 42]),oQ (44,.pick,[.t 38,.t 43,.c (.b false)]),oQ (45,.mv,[.t 44]),gQ (46,45,true,.fad 5,[.l 2]),gQ (47,45,true,.ld none,[.t 46]),gQ (48,45,true,.fad 5,[.l 3]),gQ (49,45,true,.ld none,[.t 48]),gQ (50,45,true,.call (N k_f88),[.t 47,.t 49]),oQ (51,.pick,[.t 45,.t 50,.c (.b false)]),⟨.l 4,none,.mv,[.t 51]⟩])
def q_f89_2 (N : TN) : ACode := (.seq (q_f89_2a N) (q_f89_3 N))
noncomputable def D_f89_2 (F:TF)(N:TN)(Q:TQ) (x2 x3:AV) (L : Lg) : Prop :=
 wpOp F (.fad 0) [x2] L fun v1 L1=>
 wpOp F (.ld none) [v1] L1 fun v2 L2=>
 wpOp F (.fad 0) [x3] L2 fun v3 L3=>
 wpOp F (.ld none) [v3] L3 fun v4 L4=>
 wpOp F (.bin .eql) [v2,v4] L4 fun v5 L5=>
 gdOp F v5 true (.fad 1) [x2] L5 fun v6 L6=>
 gdOp F v5 true (.ld none) [v6] L6 fun v7 L7=>
 gdOp F v5 true (.fad 1) [x3] L7 fun v8 L8=>
 gdOp F v5 true (.ld none) [v8] L8 fun v9 L9=>
 gdOp F v5 true (.bin .eql) [v7,v9] L9 fun v10 L10=>
 wpOp F .pick [v5,v10,(.b false)] L10 fun v11 L11=>
 gdOp F v11 true (.fad 2) [x2] L11 fun v12 L12=>
 gdOp F v11 true (.ld none) [v12] L12 fun v13 L13=>
 gdOp F v11 true (.fad 2) [x3] L13 fun v14 L14=>
 gdOp F v11 true (.ld none) [v14] L14 fun v15 L15=>
 gdOp F v11 true (.bin .eql) [v13,v15] L15 fun v16 L16=>
 wpOp F .pick [v11,v16,(.b false)] L16 fun v17 L17=>
 gdOp F v17 true (.fad 3) [x2] L17 fun v18 L18=>
 gdOp F v17 true (.ld none) [v18] L18 fun v19 L19=>
 gdOp F v17 true (.fad 3) [x3] L19 fun v20 L20=>
 gdOp F v17 true (.ld none) [v20] L20 fun v21 L21=>
 gdOp F v17 true (.bin .eql) [v19,v21] L21 fun v22 L22=>
 wpOp F .pick [v17,v22,(.b false)] L22 fun v23 L23=>
 gdOp F v23 true (.fad 4) [x2] L23 fun v24 L24=>
 gdOp F v23 true (.ld none) [v24] L24 fun v25 L25=>
 gdOp F v23 true (.fad 4) [x3] L25 fun v26 L26=>
 gdOp F v23 true (.ld none) [v26] L26 fun v27 L27=>
 gdOp F v23 true (.bin .eql) [v25,v27] L27 fun v28 L28=>
 wpOp F .pick [v23,v28,(.b false)] L28 fun v29 L29=>
 gdOp F v29 true (.fad 6) [x2] L29 fun v30 L30=>
 gdOp F v29 true (.ld none) [v30] L30 fun v31 L31=>
 gdOp F v29 true (.fad 6) [x3] L31 fun v32 L32=>
 gdOp F v29 true (.ld none) [v32] L32 fun v33 L33=>
 gdOp F v29 true (.eq false .bool) [v31,v33] L33 fun v34 L34=>
 wpOp F .pick [v29,v34,(.b false)] L34 fun v35 L35=>
 gdOp F v35 true (.fad 5) [x2] L35 fun v36 L36=>
 gdOp F v35 true (.ld none) [v36] L36 fun v37 L37=>
 gdOp F v35 true (.fad 5) [x3] L37 fun v38 L38=>
 gdOp F v35 true (.ld none) [v38] L38 fun v39 L39=>
 gdOp F v35 true (.call (N k_f88)) [v37,v39] L39 fun v40 L40=>
 wpOp F .pick [v35,v40,(.b false)] L40 fun v41 L41=>
 D_f89_3 F N Q v41 L41
theorem e_f89_2 (F:TF)(N:TN)(Q:TQ) (l t : Env) (L : Lg) : wp F (q_f89_2 N) l t L (fin [.tmp (.l 4)] Q) nE (fin [.tmp (.l 4)] Q) = D_f89_2 F N Q (l 2) (l 3) L := wpS (e_f89_3 F N Q) (by kernel_rfl)
def q_f89_1a (N : TN) : ACode := (.reg [⟨.l 2,none,.box,[.l 0]⟩,⟨.l 3,none,.box,[.l 1]⟩,⟨.l 4,none,.mv,[.c (.b false)]⟩])
def q_f89_1 (N : TN) : ACode := (.seq (q_f89_1a N) (q_f89_2 N))
noncomputable def D_f89_1 (F:TF)(N:TN)(Q:TQ) (x0 x1:AV) (L : Lg) : Prop :=
 wpOp F .box [x0] L fun v1 L1=>
 wpOp F .box [x1] L1 fun v2 L2=>
 D_f89_2 F N Q v1 v2 L2
theorem e_f89_1 (F:TF)(N:TN)(Q:TQ) (l t : Env) (L : Lg) : wp F (q_f89_1 N) l t L (fin [.tmp (.l 4)] Q) nE (fin [.tmp (.l 4)] Q) = D_f89_1 F N Q (l 0) (l 1) L := wpS (e_f89_2 F N Q) (by kernel_rfl)
def c_f89 (N : TN) : AFn := ⟨q_f89_1 N,[.tmp (.l 4)]⟩
structure H_f89 (N : TN) (F : TF) : Prop where
  code : F (N k_f89) = some (c_f89 N)
  f88 : H_f88 N F
theorem r_f89 {F : TF} {N : TN} (h : F (N k_f89) = some (c_f89 N)) {Q : TQ} {a0 a1 : AV} {L : Lg} (e : D_f89_1 F N Q a0 a1 L) : CallL F (N k_f89) [a0,a1] L Q :=
  CallL.of_wp h (Eq.mpr (Eq.trans (e_f89_1 F N Q (initE [a0,a1] 0) Env.nil L) (by kernel_rfl : _ = D_f89_1 F N Q a0 a1 L)) e)
def q_f90_1 (N : TN) : ACode := (.seq (.reg [⟨.l 4,none,.mv,[.c (.p none)]⟩]) (.seq (.seq (.reg [oQ (5,.mv,[.l 0]),oQ (6,.mv,[.l 1]),oQ (7,.call (N k_f49),[.t 5,.t 6]),oQ (8,.un .not,[.t 7])]) (.cond (.t 8) (.seq (.reg [⟨.l 4,none,.mv,[.c (.p none)]⟩]) .ret) .skip)) (.seq (.reg [oQ (9,.mv,[.l 0]),oQ (10,.nilchk,[.t 9]),oQ (11,.fad 0,[.t 10]),oQ (12,.ld none,[.t 11]),oQ (13,.mv,[.l 1]),oQ (14,.iad 4,[.t 12,.t 13]),oQ (15,.fad 2,[.t 14]),oQ (16,.ld none,[.t 15]),⟨.l 4,none,.mv,[.t 16]⟩]) .ret)))
noncomputable def D_f90_1 (F:TF)(N:TN)(Q:TQ) (x0 x1:AV) (L : Lg) : Prop :=
 CallL F (N k_f49) [x0,x1] L fun v1 L1=>
 wpOp F (.un .not) [v1] L1 fun v2 L2=>
 condW v2
 (fin1 (some (.p none)) Q L2)
 (wpOp F .nilchk [x0] L2 fun v3 L3=>
 wpOp F (.fad 0) [v3] L3 fun v4 L4=>
 wpOp F (.ld none) [v4] L4 fun v5 L5=>
 wpOp F (.iad 4) [v5,x1] L5 fun v6 L6=>
 wpOp F (.fad 2) [v6] L6 fun v7 L7=>
 wpOp F (.ld none) [v7] L7 fun v8 L8=>
 fin1 (some v8) Q L8)
theorem e_f90_1 (F:TF)(N:TN)(Q:TQ) (l t : Env) (L : Lg) : wp F (q_f90_1 N) l t L (fin [.tmp (.l 4)] Q) nE (fin [.tmp (.l 4)] Q) = D_f90_1 F N Q (l 0) (l 1) L := by kernel_rfl
def c_f90 (N : TN) : AFn := ⟨q_f90_1 N,[.tmp (.l 4)]⟩
structure H_f90 (N : TN) (F : TF) : Prop where
  code : F (N k_f90) = some (c_f90 N)
  f49 : H_f49 N F
theorem r_f90 {F : TF} {N : TN} (h : F (N k_f90) = some (c_f90 N)) {Q : TQ} {a0 a1 : AV} {L : Lg} (e : D_f90_1 F N Q a0 a1 L) : CallL F (N k_f90) [a0,a1] L Q :=
  CallL.of_wp h (Eq.mpr (Eq.trans (e_f90_1 F N Q (initE [a0,a1] 0) Env.nil L) (by kernel_rfl : _ = D_f90_1 F N Q a0 a1 L)) e)
def q_f91_7 (N : TN) : ACode := (.seq (.reg [oQ (57,.mv,[.l 2]),oQ (58,.mv,[.l 5]),⟨.l 2,none,.mv,[.t 57]⟩,⟨.l 3,none,.mv,[.c (.b true)]⟩,⟨.l 4,none,.mv,[.c (.b true)]⟩,⟨.l 5,none,.mv,[.t 58]⟩]) .ret)
noncomputable def D_f91_7 (F:TF)(N:TN)(Q:TQ) (x2 x5:AV) (L : Lg) : Prop :=
 fin1 (some (.tup [x2,(.b true),(.b true),x5])) Q L
theorem e_f91_7 (F:TF)(N:TN)(Q:TQ) (l t : Env) (L : Lg) : wp F (q_f91_7 N) l t L (fin [.tmp (.l 2),.tmp (.l 3),.tmp (.l 4),.tmp (.l 5)] Q) nE (fin [.tmp (.l 2),.tmp (.l 3),.tmp (.l 4),.tmp (.l 5)] Q) = D_f91_7 F N Q (l 2) (l 5) L := by kernel_rfl
def q_f91_6a (N : TN) : ACode := (.block 0 (.seq (.reg [oQ (35,.mv,[.l 6]),oQ (36,.mv,[.t 35]),gQ (37,36,true,.mv,[.l 8]),oQ (38,.pick,[.t 36,.t 37,.c (.b false)]),oQ (34,.mv,[.t 38])]) (.cond (.t 34) (.reg [oQ (39,.mv,[.l 0]),oQ (40,.nilchk,[.t 39]),oQ (41,.fad 0,[.t 40]),oQ (42,.ld none,[.t 41]),oQ (43,.fad 2,[.l 7]),oQ (44,.ld none,[.t 43]),oQ (45,.call (N k_f4),[.t 42,.t 44])]) (.seq (.reg [oQ (47,.mv,[.l 8]),oQ (46,.mv,[.t 47])]) (.cond (.t 46) (.reg [oQ (48,.fad 2,[.l 7]),oQ (49,.ld none,[.t 48]),⟨.l 2,none,.mv,[.t 49]⟩]) (.seq (.reg [oQ (51,.mv,[.l 6]),oQ (52,.un .not,[.t 51]),oQ (50,.mv,[.t 52])]) (.cond (.t 50) (.seq (.reg [oQ (53,.mv,[.l 0]),oQ (54,.nilchk,[.t 53]),oQ (55,.fad 5,[.t 54]),oQ (56,.ld none,[.t 55]),⟨.l 2,none,.mv,[.c (.i .i64 0)]⟩,⟨.l 3,none,.mv,[.c (.b false)]⟩,⟨.l 4,none,.mv,[.t 56]⟩,⟨.l 5,none,.mv,[.c (.sl none 0 0 0)]⟩]) .ret) .skip)))))))
def q_f91_6 (N : TN) : ACode := (.seq (q_f91_6a N) (q_f91_7 N))
noncomputable def D_f91_6 (F:TF)(N:TN)(Q:TQ) (x0 x2 x5 x6 x7 x8:AV) (L : Lg) : Prop :=
 gdOp F x6 true .mv [x8] L fun v1 L1=>
 wpOp F .pick [x6,v1,(.b false)] L1 fun v2 L2=>
 condW v2
 (wpOp F .nilchk [x0] L2 fun v3 L3=>
 wpOp F (.fad 0) [v3] L3 fun v4 L4=>
 wpOp F (.ld none) [v4] L4 fun v5 L5=>
 wpOp F (.fad 2) [x7] L5 fun v6 L6=>
 wpOp F (.ld none) [v6] L6 fun v7 L7=>
 CallL F (N k_f4) [v5,v7] L7 fun v8 L8=>
 D_f91_7 F N Q x2 x5 L8)
 (condW x8
 (wpOp F (.fad 2) [x7] L2 fun v9 L9=>
 wpOp F (.ld none) [v9] L9 fun v10 L10=>
 D_f91_7 F N Q v10 x5 L10)
 (wpOp F (.un .not) [x6] L2 fun v11 L11=>
 condW v11
 (wpOp F .nilchk [x0] L11 fun v12 L12=>
 wpOp F (.fad 5) [v12] L12 fun v13 L13=>
 wpOp F (.ld none) [v13] L13 fun v14 L14=>
 fin1 (some (.tup [(.i .i64 0),(.b false),v14,(.sl none 0 0 0)])) Q L14)
 (D_f91_7 F N Q x2 x5 L11)))
theorem e_f91_6 (F:TF)(N:TN)(Q:TQ) (l t : Env) (L : Lg) : wp F (q_f91_6 N) l t L (fin [.tmp (.l 2),.tmp (.l 3),.tmp (.l 4),.tmp (.l 5)] Q) nE (fin [.tmp (.l 2),.tmp (.l 3),.tmp (.l 4),.tmp (.l 5)] Q) = D_f91_6 F N Q (l 0) (l 2) (l 5) (l 6) (l 7) (l 8) L := wpS (e_f91_7 F N Q) (by kernel_rfl)
def q_f91_5a (N : TN) : ACode := (.seq (.reg [oQ (27,.mv,[.l 8])]) (.cond (.t 27) (.reg [oQ (28,.fad 0,[.l 7]),oQ (29,.ld none,[.t 28]),oQ (30,.fad 1,[.l 7]),oQ (31,.ld none,[.t 30]),oQ (32,.build [.i .i64 0,.i .i64 0,.i .i64 0,.b false,.b false] [(0,1),(1,1),(3,1)],[.t 29,.t 31,.c (.b true)]),oQ (33,.bslice [.i .i64 0,.i .i64 0,.i .i64 0,.b false,.b false] 1 5 [0],[.t 32]),⟨.l 5,none,.mv,[.t 33]⟩]) .skip))
def q_f91_5 (N : TN) : ACode := (.seq (q_f91_5a N) (q_f91_6 N))
noncomputable def D_f91_5 (F:TF)(N:TN)(Q:TQ) (x0 x2 x5 x6 x7 x8:AV) (L : Lg) : Prop :=
 condW x8
 (wpOp F (.fad 0) [x7] L fun v1 L1=>
 wpOp F (.ld none) [v1] L1 fun v2 L2=>
 wpOp F (.fad 1) [x7] L2 fun v3 L3=>
 wpOp F (.ld none) [v3] L3 fun v4 L4=>
 wpOp F (.build [.i .i64 0,.i .i64 0,.i .i64 0,.b false,.b false] [(0,1),(1,1),(3,1)]) [v2,v4,(.b true)] L4 fun v5 L5=>
 wpOp F (.bslice [.i .i64 0,.i .i64 0,.i .i64 0,.b false,.b false] 1 5 [0]) [v5] L5 fun v6 L6=>
 D_f91_6 F N Q x0 x2 v6 x6 x7 x8 L6)
 (D_f91_6 F N Q x0 x2 x5 x6 x7 x8 L)
theorem e_f91_5 (F:TF)(N:TN)(Q:TQ) (l t : Env) (L : Lg) : wp F (q_f91_5 N) l t L (fin [.tmp (.l 2),.tmp (.l 3),.tmp (.l 4),.tmp (.l 5)] Q) nE (fin [.tmp (.l 2),.tmp (.l 3),.tmp (.l 4),.tmp (.l 5)] Q) = D_f91_5 F N Q (l 0) (l 2) (l 5) (l 6) (l 7) (l 8) L := wpS (e_f91_6 F N Q) (by kernel_rfl)
def q_f91_4a (N : TN) : ACode := (.reg [oQ (20,.mv,[.l 0]),oQ (21,.nilchk,[.t 20]),oQ (22,.fad 2,[.t 21]),oQ (23,.ld none,[.t 22]),oQ (24,.call (N k_f14),[.t 23]),oQ (19,.mv,[.t 24]),oQ (25,.ext 0,[.t 19]),oQ (26,.ext 1,[.t 19]),⟨.l 7,none,.alloc [.i .i64 0,.i .i64 0,.i .i64 0],[]⟩,⟨.no,none,.st 3,[.l 7,.t 25]⟩,⟨.l 8,none,.mv,[.t 26]⟩])
def q_f91_4 (N : TN) : ACode := (.seq (q_f91_4a N) (q_f91_5 N))
noncomputable def D_f91_4 (F:TF)(N:TN)(Q:TQ) (x0 x2 x5 x6:AV) (L : Lg) : Prop :=
 wpOp F .nilchk [x0] L fun v1 L1=>
 wpOp F (.fad 2) [v1] L1 fun v2 L2=>
 wpOp F (.ld none) [v2] L2 fun v3 L3=>
 CallL F (N k_f14) [v3] L3 fun v4 L4=>
 wpOp F (.ext 0) [v4] L4 fun v5 L5=>
 wpOp F (.ext 1) [v4] L5 fun v6 L6=>
 wpOp F (.alloc [.i .i64 0,.i .i64 0,.i .i64 0]) [] L6 fun v7 L7=>
 wpOp F (.st 3) [v7,v5] L7 fun _ L8=>
 D_f91_5 F N Q x0 x2 x5 x6 v7 v6 L8
theorem e_f91_4 (F:TF)(N:TN)(Q:TQ) (l t : Env) (L : Lg) : wp F (q_f91_4 N) l t L (fin [.tmp (.l 2),.tmp (.l 3),.tmp (.l 4),.tmp (.l 5)] Q) nE (fin [.tmp (.l 2),.tmp (.l 3),.tmp (.l 4),.tmp (.l 5)] Q) = D_f91_4 F N Q (l 0) (l 2) (l 5) (l 6) L := wpS (e_f91_5 F N Q) (by kernel_rfl)
def q_f91_3a (N : TN) : ACode := (.reg [oQ (12,.mv,[.l 0]),oQ (13,.nilchk,[.t 12]),oQ (14,.fad 0,[.t 13]),oQ (15,.ld none,[.t 14]),oQ (16,.call (N k_f5),[.t 15]),oQ (11,.mv,[.t 16]),oQ (17,.ext 0,[.t 11]),oQ (18,.ext 1,[.t 11]),⟨.l 2,none,.mv,[.t 17]⟩,⟨.l 6,none,.mv,[.t 18]⟩])
def q_f91_3 (N : TN) : ACode := (.seq (q_f91_3a N) (q_f91_4 N))
noncomputable def D_f91_3 (F:TF)(N:TN)(Q:TQ) (x0 x5:AV) (L : Lg) : Prop :=
 wpOp F .nilchk [x0] L fun v1 L1=>
 wpOp F (.fad 0) [v1] L1 fun v2 L2=>
 wpOp F (.ld none) [v2] L2 fun v3 L3=>
 CallL F (N k_f5) [v3] L3 fun v4 L4=>
 wpOp F (.ext 0) [v4] L4 fun v5 L5=>
 wpOp F (.ext 1) [v4] L5 fun v6 L6=>
 D_f91_4 F N Q x0 v5 x5 v6 L6
theorem e_f91_3 (F:TF)(N:TN)(Q:TQ) (l t : Env) (L : Lg) : wp F (q_f91_3 N) l t L (fin [.tmp (.l 2),.tmp (.l 3),.tmp (.l 4),.tmp (.l 5)] Q) nE (fin [.tmp (.l 2),.tmp (.l 3),.tmp (.l 4),.tmp (.l 5)] Q) = D_f91_3 F N Q (l 0) (l 5) L := wpS (e_f91_4 F N Q) (by kernel_rfl)
def q_f91_2a (N : TN) : ACode := (.seq (.reg [oQ (9,.mv,[.l 0]),oQ (10,.eq false .ptr,[.t 9,.c (.p none)])]) (.cond (.t 10) (.seq (.reg [⟨.l 2,none,.mv,[.c (.i .i64 0)]⟩,⟨.l 3,none,.mv,[.c (.b false)]⟩,⟨.l 4,none,.mv,[.c (.b false)]⟩,⟨.l 5,none,.mv,[.c (.sl none 0 0 0)]⟩]) .ret) .skip))
def q_f91_2 (N : TN) : ACode := (.seq (q_f91_2a N) (q_f91_3 N))
noncomputable def D_f91_2 (F:TF)(N:TN)(Q:TQ) (x0 x5:AV) (L : Lg) : Prop :=
 wpOp F (.eq false .ptr) [x0,(.p none)] L fun v1 L1=>
 condW v1
 (fin1 (some (.tup [(.i .i64 0),(.b false),(.b false),(.sl none 0 0 0)])) Q L1)
 (D_f91_3 F N Q x0 x5 L1)
theorem e_f91_2 (F:TF)(N:TN)(Q:TQ) (l t : Env) (L : Lg) : wp F (q_f91_2 N) l t L (fin [.tmp (.l 2),.tmp (.l 3),.tmp (.l 4),.tmp (.l 5)] Q) nE (fin [.tmp (.l 2),.tmp (.l 3),.tmp (.l 4),.tmp (.l 5)] Q) = D_f91_2 F N Q (l 0) (l 5) L := wpS (e_f91_3 F N Q) (by kernel_rfl)
def q_f91_1a (N : TN) : ACode := (.reg [⟨.l 2,none,.mv,[.c (.i .i64 0)]⟩,⟨.l 3,none,.mv,[.c (.b false)]⟩,⟨.l 4,none,.mv,[.c (.b false)]⟩,⟨.l 5,none,.mv,[.c (.sl none 0 0 0)]⟩])
def q_f91_1 (N : TN) : ACode := (.seq (q_f91_1a N) (q_f91_2 N))
noncomputable def D_f91_1 (F:TF)(N:TN)(Q:TQ) (x0 : AV) (L : Lg) : Prop :=
 D_f91_2 F N Q x0 (.sl none 0 0 0) L
theorem e_f91_1 (F:TF)(N:TN)(Q:TQ) (l t : Env) (L : Lg) : wp F (q_f91_1 N) l t L (fin [.tmp (.l 2),.tmp (.l 3),.tmp (.l 4),.tmp (.l 5)] Q) nE (fin [.tmp (.l 2),.tmp (.l 3),.tmp (.l 4),.tmp (.l 5)] Q) = D_f91_1 F N Q (l 0) L := wpS (e_f91_2 F N Q) (by kernel_rfl)
def c_f91 (N : TN) : AFn := ⟨q_f91_1 N,[.tmp (.l 2),.tmp (.l 3),.tmp (.l 4),.tmp (.l 5)]⟩
structure H_f91 (N : TN) (F : TF) : Prop where
  code : F (N k_f91) = some (c_f91 N)
  f5 : H_f5 N F
  f14 : H_f14 N F
  f4 : H_f4 N F
theorem r_f91 {F : TF} {N : TN} (h : F (N k_f91) = some (c_f91 N)) {Q : TQ} {a0 : AV} {L : Lg} (e : D_f91_1 F N Q a0 L) : CallL F (N k_f91) [a0] L Q :=
  CallL.of_wp h (Eq.mpr (Eq.trans (e_f91_1 F N Q (initE [a0] 0) Env.nil L) (by kernel_rfl : _ = D_f91_1 F N Q a0 L)) e)
def q_f92_1 (N : TN) : ACode := (.seq (.reg [⟨.l 4,none,.mv,[.c (.p none)]⟩]) (.seq (.seq (.reg [oQ (5,.mv,[.l 0]),oQ (6,.mv,[.l 1]),oQ (7,.call (N k_f78),[.t 5,.t 6]),oQ (8,.un .not,[.t 7])]) (.cond (.t 8) (.seq (.reg [⟨.l 4,none,.mv,[.c (.p none)]⟩]) .ret) .skip)) (.seq (.reg [oQ (9,.mv,[.l 0]),oQ (10,.nilchk,[.t 9]),oQ (11,.fad 3,[.t 10]),oQ (12,.ld none,[.t 11]),oQ (13,.mv,[.l 1]),oQ (14,.iad 4,[.t 12,.t 13]),oQ (15,.fad 2,[.t 14]),oQ (16,.ld none,[.t 15]),⟨.l 4,none,.mv,[.t 16]⟩]) .ret)))
noncomputable def D_f92_1 (F:TF)(N:TN)(Q:TQ) (x0 x1:AV) (L : Lg) : Prop :=
 CallL F (N k_f78) [x0,x1] L fun v1 L1=>
 wpOp F (.un .not) [v1] L1 fun v2 L2=>
 condW v2
 (fin1 (some (.p none)) Q L2)
 (wpOp F .nilchk [x0] L2 fun v3 L3=>
 wpOp F (.fad 3) [v3] L3 fun v4 L4=>
 wpOp F (.ld none) [v4] L4 fun v5 L5=>
 wpOp F (.iad 4) [v5,x1] L5 fun v6 L6=>
 wpOp F (.fad 2) [v6] L6 fun v7 L7=>
 wpOp F (.ld none) [v7] L7 fun v8 L8=>
 fin1 (some v8) Q L8)
theorem e_f92_1 (F:TF)(N:TN)(Q:TQ) (l t : Env) (L : Lg) : wp F (q_f92_1 N) l t L (fin [.tmp (.l 4)] Q) nE (fin [.tmp (.l 4)] Q) = D_f92_1 F N Q (l 0) (l 1) L := by kernel_rfl
def c_f92 (N : TN) : AFn := ⟨q_f92_1 N,[.tmp (.l 4)]⟩
structure H_f92 (N : TN) (F : TF) : Prop where
  code : F (N k_f92) = some (c_f92 N)
  f78 : H_f78 N F
theorem r_f92 {F : TF} {N : TN} (h : F (N k_f92) = some (c_f92 N)) {Q : TQ} {a0 a1 : AV} {L : Lg} (e : D_f92_1 F N Q a0 a1 L) : CallL F (N k_f92) [a0,a1] L Q :=
  CallL.of_wp h (Eq.mpr (Eq.trans (e_f92_1 F N Q (initE [a0,a1] 0) Env.nil L) (by kernel_rfl : _ = D_f92_1 F N Q a0 a1 L)) e)
def q_f93_5 (N : TN) : ACode := (.seq (.reg [oQ (104,.mv,[.l 0]),oQ (105,.nilchk,[.t 104]),oQ (106,.fad 3,[.t 105]),oQ (107,.ld none,[.t 106]),⟨.l 2,none,.mv,[.c (.i .i64 0)]⟩,⟨.l 3,none,.mv,[.c (.b false)]⟩,⟨.l 4,none,.mv,[.t 107]⟩,⟨.l 5,none,.mv,[.c (.sl none 0 0 0)]⟩]) .ret)
noncomputable def D_f93_5 (F:TF)(N:TN)(Q:TQ) (x0 : AV) (L : Lg) : Prop :=
 wpOp F .nilchk [x0] L fun v1 L1=>
 wpOp F (.fad 3) [v1] L1 fun v2 L2=>
 wpOp F (.ld none) [v2] L2 fun v3 L3=>
 fin1 (some (.tup [(.i .i64 0),(.b false),v3,(.sl none 0 0 0)])) Q L3
theorem e_f93_5 (F:TF)(N:TN)(Q:TQ) (l t : Env) (L : Lg) : wp F (q_f93_5 N) l t L (fin [.tmp (.l 2),.tmp (.l 3),.tmp (.l 4),.tmp (.l 5)] Q) nE (fin [.tmp (.l 2),.tmp (.l 3),.tmp (.l 4),.tmp (.l 5)] Q) = D_f93_5 F N Q (l 0) L := by kernel_rfl
def q_f93_4a (N : TN) : ACode := (.seq (.reg [oQ (74,.mv,[.l 0]),oQ (75,.nilchk,[.t 74]),oQ (76,.fad 5,[.t 75]),oQ (77,.ld none,[.t 76]),oQ (78,.lenSl,[.t 77]),oQ (79,.bin .gtr,[.t 78,.c (.i .i64 0)])]) (.cond (.t 79) (.seq (.reg [oQ (80,.mv,[.l 0]),oQ (81,.nilchk,[.t 80]),oQ (82,.fad 5,[.t 81]),oQ (83,.ld none,[.t 82]),oQ (84,.iad 3,[.t 83,.c (.i .i64 0)]),oQ (85,.ld (some 3),[.t 84]),⟨.l 8,none,.alloc [.i .i64 0,.i .i64 0,.i .i64 0],[]⟩,⟨.no,none,.st 3,[.l 8,.t 85]⟩]) (.seq (.reg [oQ (86,.mv,[.l 0]),oQ (87,.bslice [.i .i64 0,.i .i64 0,.i .i64 0] 0 3 [],[]),oQ (88,.mv,[.l 0]),oQ (89,.nilchk,[.t 88]),oQ (90,.fad 5,[.t 89]),oQ (91,.ld none,[.t 90]),oQ (92,.slc 3 true false false,[.t 91,.c (.i .i64 1)]),oQ (93,.app 3 24,[.t 87,.t 92]),oQ (94,.nilchk,[.t 86]),oQ (95,.fad 5,[.t 94]),⟨.no,none,.st 1,[.t 95,.t 93]⟩]) (.seq (.reg [oQ (96,.fad 2,[.l 8]),oQ (97,.ld none,[.t 96]),oQ (98,.fad 0,[.l 8]),oQ (99,.ld none,[.t 98]),oQ (100,.fad 1,[.l 8]),oQ (101,.ld none,[.t 100]),oQ (102,.build [.i .i64 0,.i .i64 0,.i .i64 0,.b false,.b false] [(0,1),(1,1),(3,1)],[.t 99,.t 101,.c (.b true)]),oQ (103,.bslice [.i .i64 0,.i .i64 0,.i .i64 0,.b false,.b false] 1 5 [0],[.t 102]),⟨.l 2,none,.mv,[.t 97]⟩,⟨.l 3,none,.mv,[.c (.b true)]⟩,⟨.l 4,none,.mv,[.c (.b true)]⟩,⟨.l 5,none,.mv,[.t 103]⟩]) .ret))) .skip))
def q_f93_4 (N : TN) : ACode := (.seq (q_f93_4a N) (q_f93_5 N))
noncomputable def D_f93_4 (F:TF)(N:TN)(Q:TQ) (x0 : AV) (L : Lg) : Prop :=
 wpOp F .nilchk [x0] L fun v1 L1=>
 wpOp F (.fad 5) [v1] L1 fun v2 L2=>
 wpOp F (.ld none) [v2] L2 fun v3 L3=>
 wpOp F .lenSl [v3] L3 fun v4 L4=>
 wpOp F (.bin .gtr) [v4,(.i .i64 0)] L4 fun v5 L5=>
 condW v5
 (wpOp F .nilchk [x0] L5 fun v6 L6=>
 wpOp F (.fad 5) [v6] L6 fun v7 L7=>
 wpOp F (.ld none) [v7] L7 fun v8 L8=>
 wpOp F (.iad 3) [v8,(.i .i64 0)] L8 fun v9 L9=>
 wpOp F (.ld (some 3)) [v9] L9 fun v10 L10=>
 wpOp F (.alloc [.i .i64 0,.i .i64 0,.i .i64 0]) [] L10 fun v11 L11=>
 wpOp F (.st 3) [v11,v10] L11 fun _ L12=>
 wpOp F (.bslice [.i .i64 0,.i .i64 0,.i .i64 0] 0 3 []) [] L12 fun v13 L13=>
 wpOp F .nilchk [x0] L13 fun v14 L14=>
 wpOp F (.fad 5) [v14] L14 fun v15 L15=>
 wpOp F (.ld none) [v15] L15 fun v16 L16=>
 wpOp F (.slc 3 true false false) [v16,(.i .i64 1)] L16 fun v17 L17=>
 wpOp F (.app 3 24) [v13,v17] L17 fun v18 L18=>
 wpOp F .nilchk [x0] L18 fun v19 L19=>
 wpOp F (.fad 5) [v19] L19 fun v20 L20=>
 wpOp F (.st 1) [v20,v18] L20 fun _ L21=>
 wpOp F (.fad 2) [v11] L21 fun v22 L22=>
 wpOp F (.ld none) [v22] L22 fun v23 L23=>
 wpOp F (.fad 0) [v11] L23 fun v24 L24=>
 wpOp F (.ld none) [v24] L24 fun v25 L25=>
 wpOp F (.fad 1) [v11] L25 fun v26 L26=>
 wpOp F (.ld none) [v26] L26 fun v27 L27=>
 wpOp F (.build [.i .i64 0,.i .i64 0,.i .i64 0,.b false,.b false] [(0,1),(1,1),(3,1)]) [v25,v27,(.b true)] L27 fun v28 L28=>
 wpOp F (.bslice [.i .i64 0,.i .i64 0,.i .i64 0,.b false,.b false] 1 5 [0]) [v28] L28 fun v29 L29=>
 fin1 (some (.tup [v23,(.b true),(.b true),v29])) Q L29)
 (D_f93_5 F N Q x0 L5)
theorem e_f93_4 (F:TF)(N:TN)(Q:TQ) (l t : Env) (L : Lg) : wp F (q_f93_4 N) l t L (fin [.tmp (.l 2),.tmp (.l 3),.tmp (.l 4),.tmp (.l 5)] Q) nE (fin [.tmp (.l 2),.tmp (.l 3),.tmp (.l 4),.tmp (.l 5)] Q) = D_f93_4 F N Q (l 0) L := wpS (e_f93_5 F N Q) (by kernel_rfl)
def w_f93_3 (F:TF)(N:TN)(Q:TQ) : Kn := (fun (l t : Env) (L : Lg) => D_f93_4 F N Q (l 0) L)
def q_f93_12 (N : TN) : ACode := (.seq (.reg [oQ (46,.mv,[.l 0]),oQ (47,.bslice [.i .i64 0,.i .i64 0,.i .i64 0] 0 3 [],[]),oQ (48,.mv,[.l 0]),oQ (49,.nilchk,[.t 48]),oQ (50,.fad 5,[.t 49]),oQ (51,.ld none,[.t 50]),oQ (52,.slc 3 true false false,[.t 51,.c (.i .i64 1)]),oQ (53,.app 3 24,[.t 47,.t 52]),oQ (54,.nilchk,[.t 46]),oQ (55,.fad 5,[.t 54]),⟨.no,none,.st 1,[.t 55,.t 53]⟩]) (.seq (.reg [oQ (56,.mv,[.l 0]),oQ (57,.mv,[.l 0]),oQ (58,.nilchk,[.t 57]),oQ (59,.fad 4,[.t 58]),oQ (60,.ld none,[.t 59]),oQ (61,.fad 2,[.l 7]),oQ (62,.ld none,[.t 61]),oQ (63,.bslice [.i .i64 0] 1 1 [0],[.t 62]),oQ (64,.app 1 8,[.t 60,.t 63]),oQ (65,.nilchk,[.t 56]),oQ (66,.fad 4,[.t 65]),⟨.no,none,.st 1,[.t 66,.t 64]⟩]) (.seq (.reg [oQ (67,.mv,[.l 6]),oQ (68,.fad 0,[.l 7]),oQ (69,.ld none,[.t 68]),oQ (70,.fad 1,[.l 7]),oQ (71,.ld none,[.t 70]),oQ (72,.build [.i .i64 0,.i .i64 0,.i .i64 0,.b false,.b false] [(0,1),(1,1),(3,1)],[.t 69,.t 71,.c (.b true)]),oQ (73,.bslice [.i .i64 0,.i .i64 0,.i .i64 0,.b false,.b false] 1 5 [0],[.t 72]),⟨.l 2,none,.mv,[.t 67]⟩,⟨.l 3,none,.mv,[.c (.b true)]⟩,⟨.l 4,none,.mv,[.c (.b true)]⟩,⟨.l 5,none,.mv,[.t 73]⟩]) .ret)))
noncomputable def D_f93_12 (F:TF)(N:TN)(Q:TQ) (x0 x6 x7:AV) (L : Lg) : Prop :=
 wpOp F (.bslice [.i .i64 0,.i .i64 0,.i .i64 0] 0 3 []) [] L fun v1 L1=>
 wpOp F .nilchk [x0] L1 fun v2 L2=>
 wpOp F (.fad 5) [v2] L2 fun v3 L3=>
 wpOp F (.ld none) [v3] L3 fun v4 L4=>
 wpOp F (.slc 3 true false false) [v4,(.i .i64 1)] L4 fun v5 L5=>
 wpOp F (.app 3 24) [v1,v5] L5 fun v6 L6=>
 wpOp F .nilchk [x0] L6 fun v7 L7=>
 wpOp F (.fad 5) [v7] L7 fun v8 L8=>
 wpOp F (.st 1) [v8,v6] L8 fun _ L9=>
 wpOp F .nilchk [x0] L9 fun v10 L10=>
 wpOp F (.fad 4) [v10] L10 fun v11 L11=>
 wpOp F (.ld none) [v11] L11 fun v12 L12=>
 wpOp F (.fad 2) [x7] L12 fun v13 L13=>
 wpOp F (.ld none) [v13] L13 fun v14 L14=>
 wpOp F (.bslice [.i .i64 0] 1 1 [0]) [v14] L14 fun v15 L15=>
 wpOp F (.app 1 8) [v12,v15] L15 fun v16 L16=>
 wpOp F .nilchk [x0] L16 fun v17 L17=>
 wpOp F (.fad 4) [v17] L17 fun v18 L18=>
 wpOp F (.st 1) [v18,v16] L18 fun _ L19=>
 wpOp F (.fad 0) [x7] L19 fun v20 L20=>
 wpOp F (.ld none) [v20] L20 fun v21 L21=>
 wpOp F (.fad 1) [x7] L21 fun v22 L22=>
 wpOp F (.ld none) [v22] L22 fun v23 L23=>
 wpOp F (.build [.i .i64 0,.i .i64 0,.i .i64 0,.b false,.b false] [(0,1),(1,1),(3,1)]) [v21,v23,(.b true)] L23 fun v24 L24=>
 wpOp F (.bslice [.i .i64 0,.i .i64 0,.i .i64 0,.b false,.b false] 1 5 [0]) [v24] L24 fun v25 L25=>
 fin1 (some (.tup [x6,(.b true),(.b true),v25])) Q L25
theorem e_f93_12 (F:TF)(N:TN)(Q:TQ) (l t : Env) (L : Lg) : wp F (q_f93_12 N) l t L (w_f93_3 F N Q) nE (fin [.tmp (.l 2),.tmp (.l 3),.tmp (.l 4),.tmp (.l 5)] Q) = D_f93_12 F N Q (l 0) (l 6) (l 7) L := by kernel_rfl
def q_f93_11a (N : TN) : ACode := (.reg [oQ (40,.mv,[.l 0]),oQ (41,.nilchk,[.t 40]),oQ (42,.fad 5,[.t 41]),oQ (43,.ld none,[.t 42]),oQ (44,.iad 3,[.t 43,.c (.i .i64 0)]),oQ (45,.ld (some 3),[.t 44]),⟨.l 7,none,.alloc [.i .i64 0,.i .i64 0,.i .i64 0],[]⟩,⟨.no,none,.st 3,[.l 7,.t 45]⟩])
def q_f93_11 (N : TN) : ACode := (.seq (q_f93_11a N) (q_f93_12 N))
noncomputable def D_f93_11 (F:TF)(N:TN)(Q:TQ) (x0 x6:AV) (L : Lg) : Prop :=
 wpOp F .nilchk [x0] L fun v1 L1=>
 wpOp F (.fad 5) [v1] L1 fun v2 L2=>
 wpOp F (.ld none) [v2] L2 fun v3 L3=>
 wpOp F (.iad 3) [v3,(.i .i64 0)] L3 fun v4 L4=>
 wpOp F (.ld (some 3)) [v4] L4 fun v5 L5=>
 wpOp F (.alloc [.i .i64 0,.i .i64 0,.i .i64 0]) [] L5 fun v6 L6=>
 wpOp F (.st 3) [v6,v5] L6 fun _ L7=>
 D_f93_12 F N Q x0 x6 v6 L7
theorem e_f93_11 (F:TF)(N:TN)(Q:TQ) (l t : Env) (L : Lg) : wp F (q_f93_11 N) l t L (w_f93_3 F N Q) nE (fin [.tmp (.l 2),.tmp (.l 3),.tmp (.l 4),.tmp (.l 5)] Q) = D_f93_11 F N Q (l 0) (l 6) L := wpS (e_f93_12 F N Q) (by kernel_rfl)
def q_f93_10a (N : TN) : ACode := (.seq (.reg [oQ (33,.mv,[.l 0]),oQ (34,.nilchk,[.t 33]),oQ (35,.fad 5,[.t 34]),oQ (36,.ld none,[.t 35]),oQ (37,.lenSl,[.t 36]),oQ (38,.bin .eql,[.t 37,.c (.i .i64 0)])]) (.cond (.t 38) (.seq (.reg [oQ (39,.mv,[.l 6]),⟨.l 2,none,.mv,[.t 39]⟩,⟨.l 3,none,.mv,[.c (.b true)]⟩,⟨.l 4,none,.mv,[.c (.b true)]⟩,⟨.l 5,none,.mv,[.c (.sl none 0 0 0)]⟩]) .ret) .skip))
def q_f93_10 (N : TN) : ACode := (.seq (q_f93_10a N) (q_f93_11 N))
noncomputable def D_f93_10 (F:TF)(N:TN)(Q:TQ) (x0 x6:AV) (L : Lg) : Prop :=
 wpOp F .nilchk [x0] L fun v1 L1=>
 wpOp F (.fad 5) [v1] L1 fun v2 L2=>
 wpOp F (.ld none) [v2] L2 fun v3 L3=>
 wpOp F .lenSl [v3] L3 fun v4 L4=>
 wpOp F (.bin .eql) [v4,(.i .i64 0)] L4 fun v5 L5=>
 condW v5
 (fin1 (some (.tup [x6,(.b true),(.b true),(.sl none 0 0 0)])) Q L5)
 (D_f93_11 F N Q x0 x6 L5)
theorem e_f93_10 (F:TF)(N:TN)(Q:TQ) (l t : Env) (L : Lg) : wp F (q_f93_10 N) l t L (w_f93_3 F N Q) nE (fin [.tmp (.l 2),.tmp (.l 3),.tmp (.l 4),.tmp (.l 5)] Q) = D_f93_10 F N Q (l 0) (l 6) L := wpS (e_f93_11 F N Q) (by kernel_rfl)
def q_f93_9a (N : TN) : ACode := (.reg [oQ (23,.mv,[.l 0]),oQ (24,.bslice [.i .i64 0] 0 1 [],[]),oQ (25,.mv,[.l 0]),oQ (26,.nilchk,[.t 25]),oQ (27,.fad 4,[.t 26]),oQ (28,.ld none,[.t 27]),oQ (29,.slc 1 true false false,[.t 28,.c (.i .i64 1)]),oQ (30,.app 1 8,[.t 24,.t 29]),oQ (31,.nilchk,[.t 23]),oQ (32,.fad 4,[.t 31]),⟨.no,none,.st 1,[.t 32,.t 30]⟩])
def q_f93_9 (N : TN) : ACode := (.seq (q_f93_9a N) (q_f93_10 N))
noncomputable def D_f93_9 (F:TF)(N:TN)(Q:TQ) (x0 x6:AV) (L : Lg) : Prop :=
 wpOp F (.bslice [.i .i64 0] 0 1 []) [] L fun v1 L1=>
 wpOp F .nilchk [x0] L1 fun v2 L2=>
 wpOp F (.fad 4) [v2] L2 fun v3 L3=>
 wpOp F (.ld none) [v3] L3 fun v4 L4=>
 wpOp F (.slc 1 true false false) [v4,(.i .i64 1)] L4 fun v5 L5=>
 wpOp F (.app 1 8) [v1,v5] L5 fun v6 L6=>
 wpOp F .nilchk [x0] L6 fun v7 L7=>
 wpOp F (.fad 4) [v7] L7 fun v8 L8=>
 wpOp F (.st 1) [v8,v6] L8 fun _ L9=>
 D_f93_10 F N Q x0 x6 L9
theorem e_f93_9 (F:TF)(N:TN)(Q:TQ) (l t : Env) (L : Lg) : wp F (q_f93_9 N) l t L (w_f93_3 F N Q) nE (fin [.tmp (.l 2),.tmp (.l 3),.tmp (.l 4),.tmp (.l 5)] Q) = D_f93_9 F N Q (l 0) (l 6) L := wpS (e_f93_10 F N Q) (by kernel_rfl)
def q_f93_8a (N : TN) : ACode := (.reg [oQ (17,.mv,[.l 0]),oQ (18,.nilchk,[.t 17]),oQ (19,.fad 4,[.t 18]),oQ (20,.ld none,[.t 19]),oQ (21,.iad 1,[.t 20,.c (.i .i64 0)]),oQ (22,.ld none,[.t 21]),⟨.l 6,none,.mv,[.t 22]⟩])
def q_f93_8 (N : TN) : ACode := (.seq (q_f93_8a N) (q_f93_9 N))
noncomputable def D_f93_8 (F:TF)(N:TN)(Q:TQ) (x0 : AV) (L : Lg) : Prop :=
 wpOp F .nilchk [x0] L fun v1 L1=>
 wpOp F (.fad 4) [v1] L1 fun v2 L2=>
 wpOp F (.ld none) [v2] L2 fun v3 L3=>
 wpOp F (.iad 1) [v3,(.i .i64 0)] L3 fun v4 L4=>
 wpOp F (.ld none) [v4] L4 fun v5 L5=>
 D_f93_9 F N Q x0 v5 L5
theorem e_f93_8 (F:TF)(N:TN)(Q:TQ) (l t : Env) (L : Lg) : wp F (q_f93_8 N) l t L (w_f93_3 F N Q) nE (fin [.tmp (.l 2),.tmp (.l 3),.tmp (.l 4),.tmp (.l 5)] Q) = D_f93_8 F N Q (l 0) L := wpS (e_f93_9 F N Q) (by kernel_rfl)
def q_f93_13 (N : TN) : ACode := .skip
noncomputable def D_f93_13 (F:TF)(N:TN)(Q:TQ) (x0 : AV) (L : Lg) : Prop :=
 D_f93_4 F N Q x0 L
theorem e_f93_13 (F:TF)(N:TN)(Q:TQ) (l t : Env) (L : Lg) : wp F (q_f93_13 N) l t L (w_f93_3 F N Q) nE (fin [.tmp (.l 2),.tmp (.l 3),.tmp (.l 4),.tmp (.l 5)] Q) = D_f93_13 F N Q (l 0) L := by kernel_rfl
def q_f93_7 (N : TN) : ACode := (.cond (.t 16) (q_f93_8 N) (q_f93_13 N))
noncomputable def D_f93_7 (F:TF)(N:TN)(Q:TQ) (x0 : AV) (t16 : AV) (L : Lg) : Prop :=
 condW t16
 (D_f93_8 F N Q x0 L)
 (D_f93_13 F N Q x0 L)
theorem e_f93_7 (F:TF)(N:TN)(Q:TQ) (l t : Env) (L : Lg) : wp F (q_f93_7 N) l t L (w_f93_3 F N Q) nE (fin [.tmp (.l 2),.tmp (.l 3),.tmp (.l 4),.tmp (.l 5)] Q) = D_f93_7 F N Q (l 0) (t 16) L := wpC (e_f93_8 F N Q l t L) (e_f93_13 F N Q l t L) (by kernel_rfl)
def q_f93_6a (N : TN) : ACode := (.reg [oQ (11,.mv,[.l 0]),oQ (12,.nilchk,[.t 11]),oQ (13,.fad 4,[.t 12]),oQ (14,.ld none,[.t 13]),oQ (15,.lenSl,[.t 14]),oQ (16,.bin .gtr,[.t 15,.c (.i .i64 0)])])
def q_f93_6 (N : TN) : ACode := (.seq (q_f93_6a N) (q_f93_7 N))
noncomputable def D_f93_6 (F:TF)(N:TN)(Q:TQ) (x0 : AV) (L : Lg) : Prop :=
 wpOp F .nilchk [x0] L fun v1 L1=>
 wpOp F (.fad 4) [v1] L1 fun v2 L2=>
 wpOp F (.ld none) [v2] L2 fun v3 L3=>
 wpOp F .lenSl [v3] L3 fun v4 L4=>
 wpOp F (.bin .gtr) [v4,(.i .i64 0)] L4 fun v5 L5=>
 D_f93_7 F N Q x0 v5 L5
theorem e_f93_6 (F:TF)(N:TN)(Q:TQ) (l t : Env) (L : Lg) : wp F (q_f93_6 N) l t L (w_f93_3 F N Q) nE (fin [.tmp (.l 2),.tmp (.l 3),.tmp (.l 4),.tmp (.l 5)] Q) = D_f93_6 F N Q (l 0) L := wpS (e_f93_7 F N Q) (by kernel_rfl)
def q_f93_3 (N : TN) : ACode := (.seq (q_f93_6 N) (q_f93_4 N))
theorem e_f93_3 (F:TF)(N:TN)(Q:TQ) (l t : Env) (L : Lg) : wp F (q_f93_3 N) l t L (fin [.tmp (.l 2),.tmp (.l 3),.tmp (.l 4),.tmp (.l 5)] Q) nE (fin [.tmp (.l 2),.tmp (.l 3),.tmp (.l 4),.tmp (.l 5)] Q) = D_f93_6 F N Q (l 0) L := wpS (e_f93_4 F N Q) (e_f93_6 F N Q l t L)
def q_f93_2a (N : TN) : ACode := (.seq (.reg [oQ (9,.mv,[.l 0]),oQ (10,.eq false .ptr,[.t 9,.c (.p none)])]) (.cond (.t 10) (.seq (.reg [⟨.l 2,none,.mv,[.c (.i .i64 0)]⟩,⟨.l 3,none,.mv,[.c (.b false)]⟩,⟨.l 4,none,.mv,[.c (.b false)]⟩,⟨.l 5,none,.mv,[.c (.sl none 0 0 0)]⟩]) .ret) .skip))
def q_f93_2 (N : TN) : ACode := (.seq (q_f93_2a N) (q_f93_3 N))
noncomputable def D_f93_2 (F:TF)(N:TN)(Q:TQ) (x0 : AV) (L : Lg) : Prop :=
 wpOp F (.eq false .ptr) [x0,(.p none)] L fun v1 L1=>
 condW v1
 (fin1 (some (.tup [(.i .i64 0),(.b false),(.b false),(.sl none 0 0 0)])) Q L1)
 (D_f93_6 F N Q x0 L1)
theorem e_f93_2 (F:TF)(N:TN)(Q:TQ) (l t : Env) (L : Lg) : wp F (q_f93_2 N) l t L (fin [.tmp (.l 2),.tmp (.l 3),.tmp (.l 4),.tmp (.l 5)] Q) nE (fin [.tmp (.l 2),.tmp (.l 3),.tmp (.l 4),.tmp (.l 5)] Q) = D_f93_2 F N Q (l 0) L := wpS (e_f93_3 F N Q) (by kernel_rfl)
def q_f93_1a (N : TN) : ACode := (.reg [⟨.l 2,none,.mv,[.c (.i .i64 0)]⟩,⟨.l 3,none,.mv,[.c (.b false)]⟩,⟨.l 4,none,.mv,[.c (.b false)]⟩,⟨.l 5,none,.mv,[.c (.sl none 0 0 0)]⟩])
def q_f93_1 (N : TN) : ACode := (.seq (q_f93_1a N) (q_f93_2 N))
noncomputable def D_f93_1 (F:TF)(N:TN)(Q:TQ) (x0 : AV) (L : Lg) : Prop :=
 D_f93_2 F N Q x0 L
theorem e_f93_1 (F:TF)(N:TN)(Q:TQ) (l t : Env) (L : Lg) : wp F (q_f93_1 N) l t L (fin [.tmp (.l 2),.tmp (.l 3),.tmp (.l 4),.tmp (.l 5)] Q) nE (fin [.tmp (.l 2),.tmp (.l 3),.tmp (.l 4),.tmp (.l 5)] Q) = D_f93_1 F N Q (l 0) L := wpS (e_f93_2 F N Q) (by kernel_rfl)
def c_f93 (N : TN) : AFn := ⟨q_f93_1 N,[.tmp (.l 2),.tmp (.l 3),.tmp (.l 4),.tmp (.l 5)]⟩
structure H_f93 (N : TN) (F : TF) : Prop where
  code : F (N k_f93) = some (c_f93 N)
theorem r_f93 {F : TF} {N : TN} (h : F (N k_f93) = some (c_f93 N)) {Q : TQ} {a0 : AV} {L : Lg} (e : D_f93_1 F N Q a0 L) : CallL F (N k_f93) [a0] L Q :=
  CallL.of_wp h (Eq.mpr (Eq.trans (e_f93_1 F N Q (initE [a0] 0) Env.nil L) (by kernel_rfl : _ = D_f93_1 F N Q a0 L)) e)
def q_f94_1 (N : TN) : ACode := (.seq (.reg [⟨.l 2,none,.box,[.l 0]⟩,⟨.l 3,none,.mv,[.c (.b false)]⟩]) (.seq (.reg [oQ (4,.fad 0,[.l 2]),oQ (5,.ld none,[.t 4]),oQ (6,.fad 0,[.l 1]),oQ (7,.ld none,[.t 6]),oQ (8,.bin .neq,[.t 5,.t 7]),⟨.l 3,none,.mv,[.t 8]⟩]) .ret))
noncomputable def D_f94_1 (F:TF)(N:TN)(Q:TQ) (x0 x1:AV) (L : Lg) : Prop :=
 wpOp F .box [x0] L fun v1 L1=>
 wpOp F (.fad 0) [v1] L1 fun v2 L2=>
 wpOp F (.ld none) [v2] L2 fun v3 L3=>
 wpOp F (.fad 0) [x1] L3 fun v4 L4=>
 wpOp F (.ld none) [v4] L4 fun v5 L5=>
 wpOp F (.bin .neq) [v3,v5] L5 fun v6 L6=>
 fin1 (some v6) Q L6
theorem e_f94_1 (F:TF)(N:TN)(Q:TQ) (l t : Env) (L : Lg) : wp F (q_f94_1 N) l t L (fin [.tmp (.l 3)] Q) nE (fin [.tmp (.l 3)] Q) = D_f94_1 F N Q (l 0) (l 1) L := by kernel_rfl
def c_f94 (N : TN) : AFn := ⟨q_f94_1 N,[.tmp (.l 3)]⟩
structure H_f94 (N : TN) (F : TF) : Prop where
  code : F (N k_f94) = some (c_f94 N)
theorem r_f94 {F : TF} {N : TN} (h : F (N k_f94) = some (c_f94 N)) {Q : TQ} {a0 a1 : AV} {L : Lg} (e : D_f94_1 F N Q a0 a1 L) : CallL F (N k_f94) [a0,a1] L Q :=
  CallL.of_wp h (Eq.mpr (Eq.trans (e_f94_1 F N Q (initE [a0,a1] 0) Env.nil L) (by kernel_rfl : _ = D_f94_1 F N Q a0 a1 L)) e)
def q_f95_1 (N : TN) : ACode := (.seq (.reg [⟨.l 4,none,.mv,[.c (.sl none 0 0 0)]⟩]) (.seq (.reg [oQ (5,.mv,[.l 0]),oQ (6,.mv,[.l 1]),oQ (7,.call (N k_f58),[.t 5,.t 6]),oQ (8,.call (N k_f15),[.t 7]),⟨.l 4,none,.mv,[.t 8]⟩]) .ret))
noncomputable def D_f95_1 (F:TF)(N:TN)(Q:TQ) (x0 x1:AV) (L : Lg) : Prop :=
 CallL F (N k_f58) [x0,x1] L fun v1 L1=>
 CallL F (N k_f15) [v1] L1 fun v2 L2=>
 fin1 (some v2) Q L2
theorem e_f95_1 (F:TF)(N:TN)(Q:TQ) (l t : Env) (L : Lg) : wp F (q_f95_1 N) l t L (fin [.tmp (.l 4)] Q) nE (fin [.tmp (.l 4)] Q) = D_f95_1 F N Q (l 0) (l 1) L := by kernel_rfl
def c_f95 (N : TN) : AFn := ⟨q_f95_1 N,[.tmp (.l 4)]⟩
structure H_f95 (N : TN) (F : TF) : Prop where
  code : F (N k_f95) = some (c_f95 N)
  f58 : H_f58 N F
  f15 : H_f15 N F
theorem r_f95 {F : TF} {N : TN} (h : F (N k_f95) = some (c_f95 N)) {Q : TQ} {a0 a1 : AV} {L : Lg} (e : D_f95_1 F N Q a0 a1 L) : CallL F (N k_f95) [a0,a1] L Q :=
  CallL.of_wp h (Eq.mpr (Eq.trans (e_f95_1 F N Q (initE [a0,a1] 0) Env.nil L) (by kernel_rfl : _ = D_f95_1 F N Q a0 a1 L)) e)
def q_f96_3 (N : TN) : ACode := (.seq (.reg [⟨.l 4,none,.mv,[.c (.i .i64 (-1))]⟩]) .ret)
noncomputable def D_f96_3 (F:TF)(N:TN)(Q:TQ) (L : Lg) : Prop :=
 fin1 (some (.i .i64 (-1))) Q L
theorem e_f96_3 (F:TF)(N:TN)(Q:TQ) (l t : Env) (L : Lg) : wp F (q_f96_3 N) l t L (fin [.tmp (.l 4)] Q) nE (fin [.tmp (.l 4)] Q) = D_f96_3 F N Q L := by kernel_rfl
def w_f96_2 (F:TF)(N:TN)(Q:TQ) : Kn := (fun (l t : Env) (L : Lg) => D_f96_3 F N Q L)
def y_f96_5 (F:TF)(N:TN)(Q:TQ) : Nat → Kn := (fun (j : Nat) (l t : Env) (L : Lg) => bif Nat.beq j 0 then (w_f96_2 F N Q) l t L else nE j l t L)
def q_f96_7 (N : TN) : ACode := (.seq (.reg [oQ (9,.bin .lss,[.l 8,.l 7])]) (.seq (.cond (.t 9) .skip (.exit 0)) (.seq (.block 1 (.seq (.reg [oQ (10,.mv,[.l 8]),⟨.l 5,none,.mv,[.t 10]⟩]) (.seq (.reg [oQ (11,.mv,[.l 1]),oQ (12,.mv,[.l 0]),oQ (13,.mv,[.l 5]),oQ (14,.iad 3,[.t 12,.t 13]),oQ (15,.ld (some 3),[.t 14]),oQ (16,.callv,[.t 11,.t 15])]) (.cond (.t 16) (.seq (.reg [oQ (17,.mv,[.l 5]),⟨.l 4,none,.mv,[.t 17]⟩]) .ret) .skip)))) (.reg [oQ (18,.bin .add,[.l 8,.c (.i .i64 1)]),⟨.l 8,none,.mv,[.t 18]⟩]))))
noncomputable def D_f96_7 (F:TF)(N:TN)(Q:TQ) (k1 : TK) (l : Env) (L : Lg) : Prop :=
 wpOp F (.bin .lss) [(l 8),(l 7)] L fun v1 L1=>
 condW v1
 (wpOp F (.iad 3) [(l 0),(l 8)] L1 fun v2 L2=>
 wpOp F (.ld (some 3)) [v2] L2 fun v3 L3=>
 wpOp F .callv [(l 1),v3] L3 fun v4 L4=>
 condW v4
 (fin1 (some (l 8)) Q L4)
 (wpOp F (.bin .add) [(l 8),(.i .i64 1)] L4 fun v5 L5=>
 k1 (Env.put (Env.put l 5 (l 8)) 8 v5) L5))
 (D_f96_3 F N Q L1)
theorem e_f96_7 (F:TF)(N:TN)(Q:TQ) (k1 : TK) (l t : Env) (L : Lg) : wp F (q_f96_7 N) l t L (fun (l _ : Env) (L : Lg) => k1 l L) (y_f96_5 F N Q) (fin [.tmp (.l 4)] Q) = D_f96_7 F N Q k1 l L := by kernel_rfl
def q_f96_6 (N : TN) : ACode := (.loop (q_f96_7 N))
noncomputable def D_f96_6 (F:TF)(N:TN)(Q:TQ) (l : Env) (L : Lg) : Prop :=
 loopW (fun l t L k1 => D_f96_7 F N Q k1 l L) l L
theorem e_f96_6 (F:TF)(N:TN)(Q:TQ) (l t : Env) (L : Lg) : wp F (q_f96_6 N) l t L (w_f96_2 F N Q) (y_f96_5 F N Q) (fin [.tmp (.l 4)] Q) = D_f96_6 F N Q l L := wpL (fun l t L k1 => e_f96_7 F N Q k1 l t L) (by kernel_rfl)
def q_f96_5 (N : TN) : ACode := (.block 0 (q_f96_6 N))
theorem e_f96_5 (F:TF)(N:TN)(Q:TQ) (l t : Env) (L : Lg) : wp F (q_f96_5 N) l t L (w_f96_2 F N Q) nE (fin [.tmp (.l 4)] Q) = D_f96_6 F N Q l L := wpB (e_f96_6 F N Q l t L)
def q_f96_4a (N : TN) : ACode := (.reg [oQ (6,.mv,[.l 0]),⟨.l 7,none,.lenSl,[.t 6]⟩,⟨.l 8,none,.mv,[.c (.i .i64 0)]⟩])
def q_f96_4 (N : TN) : ACode := (.seq (q_f96_4a N) (q_f96_5 N))
noncomputable def D_f96_4 (F:TF)(N:TN)(Q:TQ) (l : Env) (L : Lg) : Prop :=
 wpOp F .lenSl [(l 0)] L fun v1 L1=>
 D_f96_6 F N Q (Env.put (Env.put l 7 v1) 8 (.i .i64 0)) L1
theorem e_f96_4 (F:TF)(N:TN)(Q:TQ) (l t : Env) (L : Lg) : wp F (q_f96_4 N) l t L (w_f96_2 F N Q) nE (fin [.tmp (.l 4)] Q) = D_f96_4 F N Q l L := wpS (e_f96_5 F N Q) (by kernel_rfl)
def q_f96_2 (N : TN) : ACode := (.seq (q_f96_4 N) (q_f96_3 N))
theorem e_f96_2 (F:TF)(N:TN)(Q:TQ) (l t : Env) (L : Lg) : wp F (q_f96_2 N) l t L (fin [.tmp (.l 4)] Q) nE (fin [.tmp (.l 4)] Q) = D_f96_4 F N Q l L := wpS (e_f96_3 F N Q) (e_f96_4 F N Q l t L)
def q_f96_1a (N : TN) : ACode := (.reg [⟨.l 4,none,.mv,[.c (.i .i64 0)]⟩])
def q_f96_1 (N : TN) : ACode := (.seq (q_f96_1a N) (q_f96_2 N))
noncomputable def D_f96_1 (F:TF)(N:TN)(Q:TQ) (l : Env) (L : Lg) : Prop :=
 D_f96_4 F N Q (Env.put l 4 (.i .i64 0)) L
theorem e_f96_1 (F:TF)(N:TN)(Q:TQ) (l t : Env) (L : Lg) : wp F (q_f96_1 N) l t L (fin [.tmp (.l 4)] Q) nE (fin [.tmp (.l 4)] Q) = D_f96_1 F N Q l L := wpS (e_f96_2 F N Q) (by kernel_rfl)
def c_f96 (N : TN) : AFn := ⟨q_f96_1 N,[.tmp (.l 4)]⟩
structure H_f96 (N : TN) (F : TF) : Prop where
  code : F (N k_f96) = some (c_f96 N)
theorem r_f96 {F : TF} {N : TN} (h : F (N k_f96) = some (c_f96 N)) {Q : TQ} {a0 a1 : AV} {L : Lg} (e : D_f96_1 F N Q (initE [a0,a1] 0) L) : CallL F (N k_f96) [a0,a1] L Q :=
  CallL.of_wp h (Eq.mpr (Eq.trans (e_f96_1 F N Q (initE [a0,a1] 0) Env.nil L) (by kernel_rfl : _ = D_f96_1 F N Q (initE [a0,a1] 0) L)) e)
def q_f97_1 (N : TN) : ACode := (.seq (.reg [⟨.l 4,none,.mv,[.c (.b false)]⟩]) (.seq (.reg [oQ (5,.mv,[.l 0]),oQ (6,.mv,[.l 1]),oQ (7,.call (N k_f96),[.t 5,.t 6]),oQ (8,.bin .geq,[.t 7,.c (.i .i64 0)]),⟨.l 4,none,.mv,[.t 8]⟩]) .ret))
noncomputable def D_f97_1 (F:TF)(N:TN)(Q:TQ) (x0 x1:AV) (L : Lg) : Prop :=
 CallL F (N k_f96) [x0,x1] L fun v1 L1=>
 wpOp F (.bin .geq) [v1,(.i .i64 0)] L1 fun v2 L2=>
 fin1 (some v2) Q L2
theorem e_f97_1 (F:TF)(N:TN)(Q:TQ) (l t : Env) (L : Lg) : wp F (q_f97_1 N) l t L (fin [.tmp (.l 4)] Q) nE (fin [.tmp (.l 4)] Q) = D_f97_1 F N Q (l 0) (l 1) L := by kernel_rfl
def c_f97 (N : TN) : AFn := ⟨q_f97_1 N,[.tmp (.l 4)]⟩
structure H_f97 (N : TN) (F : TF) : Prop where
  code : F (N k_f97) = some (c_f97 N)
  f96 : H_f96 N F
theorem r_f97 {F : TF} {N : TN} (h : F (N k_f97) = some (c_f97 N)) {Q : TQ} {a0 a1 : AV} {L : Lg} (e : D_f97_1 F N Q a0 a1 L) : CallL F (N k_f97) [a0,a1] L Q :=
  CallL.of_wp h (Eq.mpr (Eq.trans (e_f97_1 F N Q (initE [a0,a1] 0) Env.nil L) (by kernel_rfl : _ = D_f97_1 F N Q a0 a1 L)) e)
def q_f94 (N : TN) : ACode := (.seq (.reg [⟨.l 4,none,.box,[.l 1]⟩,⟨.l 6,none,.mv,[.c (.i .i64 0)]⟩]) (.seq (.block 0 (.seq (.reg [oQ (9,.mv,[.l 0]),oQ (10,.eq false .ptr,[.t 9,.c (.p none)]),oQ (8,.mv,[.t 10])]) (.cond (.t 8) (.seq (.reg [⟨.l 6,none,.mv,[.c (.i .i64 6)]⟩]) .ret) (.seq (.reg [oQ (12,.mv,[.l 0]),oQ (13,.call (N k_f56),[.t 12]),oQ (14,.mv,[.t 13]),gQ (15,14,true,.mv,[.l 2]),oQ (16,.pick,[.t 14,.t 15,.c (.b false)]),oQ (11,.mv,[.t 16])]) (.cond (.t 11) (.seq (.reg [⟨.l 6,none,.mv,[.c (.i .i64 7)]⟩]) .ret) (.seq (.reg [oQ (18,.mv,[.l 0]),oQ (19,.nilchk,[.t 18]),oQ (20,.fad 5,[.t 19]),oQ (21,.ld none,[.t 20]),oQ (17,.mv,[.t 21])]) (.cond (.t 17) (.seq (.reg [⟨.l 6,none,.mv,[.c (.i .i64 5)]⟩]) .ret) .skip))))))) (.seq (.reg [oQ (22,.mkfn (N k_f94) 0,[.l 4]),⟨.l 7,none,.mv,[.t 22]⟩]) (.seq (.seq (.reg [oQ (23,.mv,[.l 0]),oQ (24,.mv,[.l 2]),oQ (25,.call (N k_f57),[.t 23,.t 24]),oQ (26,.mv,[.t 25]),gQ (27,26,false,.mv,[.l 0]),gQ (28,26,false,.mv,[.l 2]),gQ (29,26,false,.un .not,[.t 28]),gQ (30,26,false,.call (N k_f95),[.t 27,.t 29]),gQ (31,26,false,.mv,[.l 7]),gQ (32,26,false,.call (N k_f97),[.t 30,.t 31]),oQ (33,.pick,[.t 26,.c (.b true),.t 32])]) (.cond (.t 33) (.seq (.reg [⟨.l 6,none,.mv,[.c (.i .i64 1)]⟩]) .ret) .skip)) (.seq (.regD [oQ (34,.mv,[.l 0]),oQ (35,.mv,[.l 2]),oQ (36,.call (N k_f58),[.t 34,.t 35]),oQ (37,.ld (some 3),[.l 4]),oQ (38,.call (N k_f16),[.t 36,.t 37])] [(3,0)]) (.seq (.reg [⟨.l 6,none,.mv,[.c (.i .i64 0)]⟩]) .ret))))))
noncomputable def D_f94 (F:TF)(N:TN)(Q:TQ) (x0 x1 x2:AV) (L : Lg) : Prop :=
 wpOp F .box [x1] L fun v1 L1=>
 wpOp F (.eq false .ptr) [x0,(.p none)] L1 fun v2 L2=>
 condW v2
 (fin1 (some (.i .i64 6)) Q L2)
 (CallL F (N k_f56) [x0] L2 fun v3 L3=>
 gdOp F v3 true .mv [x2] L3 fun v4 L4=>
 wpOp F .pick [v3,v4,(.b false)] L4 fun v5 L5=>
 condW v5
 (fin1 (some (.i .i64 7)) Q L5)
 (wpOp F .nilchk [x0] L5 fun v6 L6=>
 wpOp F (.fad 5) [v6] L6 fun v7 L7=>
 wpOp F (.ld none) [v7] L7 fun v8 L8=>
 condW v8
 (fin1 (some (.i .i64 5)) Q L8)
 (wpOp F (.mkfn (N k_f94) 0) [v1] L8 fun v9 L9=>
 CallL F (N k_f57) [x0,x2] L9 fun v10 L10=>
 gdOp F v10 false .mv [x0] L10 fun v11 L11=>
 gdOp F v10 false .mv [x2] L11 fun v12 L12=>
 gdOp F v10 false (.un .not) [v12] L12 fun v13 L13=>
 gdOp F v10 false (.call (N k_f95)) [v11,v13] L13 fun v14 L14=>
 gdOp F v10 false .mv [v9] L14 fun v15 L15=>
 gdOp F v10 false (.call (N k_f97)) [v14,v15] L15 fun v16 L16=>
 wpOp F .pick [v10,(.b true),v16] L16 fun v17 L17=>
 condW v17
 (fin1 (some (.i .i64 1)) Q L17)
 (CallL F (N k_f58) [x0,x2] L17 fun v18 L18=>
 wpOp F (.ld (some 3)) [v1] L18 fun v19 L19=>
 CallL F (N k_f16) [v18,v19] L19 fun v20 L20=>
 (againV (.ld (some 3)) [v1] L18 L17 ∧ True) ∧ (fin1 (some (.i .i64 0)) Q L20)))))
theorem e_f94 (F:TF)(N:TN)(Q:TQ) (l t : Env) (L : Lg) : wp F (q_f94 N) l t L (fin [.tmp (.l 6)] Q) nE (fin [.tmp (.l 6)] Q) = D_f94 F N Q (l 0) (l 1) (l 2) L := by kernel_rfl
def c_f98 (N : TN) : AFn := ⟨q_f94 N,[.tmp (.l 6)]⟩
structure H_f98 (N : TN) (F : TF) : Prop where
  code : F (N k_f98) = some (c_f98 N)
  f56 : H_f56 N F
  f94 : H_f94 N F
  f57 : H_f57 N F
  f95 : H_f95 N F
  f97 : H_f97 N F
  f58 : H_f58 N F
  f16 : H_f16 N F
theorem r_f98 {F : TF} {N : TN} (h : F (N k_f98) = some (c_f98 N)) {Q : TQ} {a0 a1 a2 : AV} {L : Lg} (e : D_f94 F N Q a0 a1 a2 L) : CallL F (N k_f98) [a0,a1,a2] L Q :=
  CallL.of_wp h (Eq.mpr (Eq.trans (e_f94 F N Q (initE [a0,a1,a2] 0) Env.nil L) (by kernel_rfl : _ = D_f94 F N Q a0 a1 a2 L)) e)
def q_f99_3 (N : TN) : ACode := (.seq (.reg [⟨.l 4,none,.mv,[.c (.b false)]⟩]) .ret)
noncomputable def D_f99_3 (F:TF)(N:TN)(Q:TQ) (L : Lg) : Prop :=
 fin1 (some (.b false)) Q L
theorem e_f99_3 (F:TF)(N:TN)(Q:TQ) (l t : Env) (L : Lg) : wp F (q_f99_3 N) l t L (fin [.tmp (.l 4)] Q) nE (fin [.tmp (.l 4)] Q) = D_f99_3 F N Q L := by kernel_rfl
def w_f99_2 (F:TF)(N:TN)(Q:TQ) : Kn := (fun (l t : Env) (L : Lg) => D_f99_3 F N Q L)
def y_f99_5 (F:TF)(N:TN)(Q:TQ) : Nat → Kn := (fun (j : Nat) (l t : Env) (L : Lg) => bif Nat.beq j 0 then (w_f99_2 F N Q) l t L else nE j l t L)
def q_f99_7 (N : TN) : ACode := (.seq (.seq (.reg [oQ (6,.mv,[.l 5]),oQ (7,.mv,[.l 0]),oQ (8,.lenSl,[.t 7]),oQ (9,.bin .lss,[.t 6,.t 8])]) (.cond (.t 9) .skip (.exit 0))) (.seq (.block 1 (.seq (.reg [oQ (12,.mv,[.l 0]),oQ (13,.mv,[.l 5]),oQ (14,.iad 3,[.t 12,.t 13]),oQ (15,.fad 0,[.t 14]),oQ (16,.ld none,[.t 15]),oQ (17,.mv,[.l 1]),oQ (18,.bin .neq,[.t 16,.t 17])]) (.cond (.t 18) (.seq (.reg [⟨.l 4,none,.mv,[.c (.b true)]⟩]) .ret) .skip))) (.reg [oQ (10,.mv,[.l 5]),oQ (11,.bin .add,[.t 10,.c (.i .i64 1)]),⟨.l 5,none,.mv,[.t 11]⟩])))
noncomputable def D_f99_7 (F:TF)(N:TN)(Q:TQ) (k1 : TK) (l : Env) (L : Lg) : Prop :=
 wpOp F .lenSl [(l 0)] L fun v1 L1=>
 wpOp F (.bin .lss) [(l 5),v1] L1 fun v2 L2=>
 condW v2
 (wpOp F (.iad 3) [(l 0),(l 5)] L2 fun v3 L3=>
 wpOp F (.fad 0) [v3] L3 fun v4 L4=>
 wpOp F (.ld none) [v4] L4 fun v5 L5=>
 wpOp F (.bin .neq) [v5,(l 1)] L5 fun v6 L6=>
 condW v6
 (fin1 (some (.b true)) Q L6)
 (wpOp F (.bin .add) [(l 5),(.i .i64 1)] L6 fun v7 L7=>
 k1 (Env.put l 5 v7) L7))
 (D_f99_3 F N Q L2)
theorem e_f99_7 (F:TF)(N:TN)(Q:TQ) (k1 : TK) (l t : Env) (L : Lg) : wp F (q_f99_7 N) l t L (fun (l _ : Env) (L : Lg) => k1 l L) (y_f99_5 F N Q) (fin [.tmp (.l 4)] Q) = D_f99_7 F N Q k1 l L := by kernel_rfl
def q_f99_6 (N : TN) : ACode := (.loop (q_f99_7 N))
noncomputable def D_f99_6 (F:TF)(N:TN)(Q:TQ) (l : Env) (L : Lg) : Prop :=
 loopW (fun l t L k1 => D_f99_7 F N Q k1 l L) l L
theorem e_f99_6 (F:TF)(N:TN)(Q:TQ) (l t : Env) (L : Lg) : wp F (q_f99_6 N) l t L (w_f99_2 F N Q) (y_f99_5 F N Q) (fin [.tmp (.l 4)] Q) = D_f99_6 F N Q l L := wpL (fun l t L k1 => e_f99_7 F N Q k1 l t L) (by kernel_rfl)
def q_f99_5 (N : TN) : ACode := (.block 0 (q_f99_6 N))
theorem e_f99_5 (F:TF)(N:TN)(Q:TQ) (l t : Env) (L : Lg) : wp F (q_f99_5 N) l t L (w_f99_2 F N Q) nE (fin [.tmp (.l 4)] Q) = D_f99_6 F N Q l L := wpB (e_f99_6 F N Q l t L)
def q_f99_4a (N : TN) : ACode := (.reg [⟨.l 5,none,.mv,[.c (.i .i64 0)]⟩])
def q_f99_4 (N : TN) : ACode := (.seq (q_f99_4a N) (q_f99_5 N))
noncomputable def D_f99_4 (F:TF)(N:TN)(Q:TQ) (l : Env) (L : Lg) : Prop :=
 D_f99_6 F N Q (Env.put l 5 (.i .i64 0)) L
theorem e_f99_4 (F:TF)(N:TN)(Q:TQ) (l t : Env) (L : Lg) : wp F (q_f99_4 N) l t L (w_f99_2 F N Q) nE (fin [.tmp (.l 4)] Q) = D_f99_4 F N Q l L := wpS (e_f99_5 F N Q) (by kernel_rfl)
def q_f99_2 (N : TN) : ACode := (.seq (q_f99_4 N) (q_f99_3 N))
theorem e_f99_2 (F:TF)(N:TN)(Q:TQ) (l t : Env) (L : Lg) : wp F (q_f99_2 N) l t L (fin [.tmp (.l 4)] Q) nE (fin [.tmp (.l 4)] Q) = D_f99_4 F N Q l L := wpS (e_f99_3 F N Q) (e_f99_4 F N Q l t L)
def q_f99_1a (N : TN) : ACode := (.reg [⟨.l 4,none,.mv,[.c (.b false)]⟩])
def q_f99_1 (N : TN) : ACode := (.seq (q_f99_1a N) (q_f99_2 N))
noncomputable def D_f99_1 (F:TF)(N:TN)(Q:TQ) (l : Env) (L : Lg) : Prop :=
 D_f99_4 F N Q (Env.put l 4 (.b false)) L
theorem e_f99_1 (F:TF)(N:TN)(Q:TQ) (l t : Env) (L : Lg) : wp F (q_f99_1 N) l t L (fin [.tmp (.l 4)] Q) nE (fin [.tmp (.l 4)] Q) = D_f99_1 F N Q l L := wpS (e_f99_2 F N Q) (by kernel_rfl)
def c_f99 (N : TN) : AFn := ⟨q_f99_1 N,[.tmp (.l 4)]⟩
structure H_f99 (N : TN) (F : TF) : Prop where
  code : F (N k_f99) = some (c_f99 N)
theorem r_f99 {F : TF} {N : TN} (h : F (N k_f99) = some (c_f99 N)) {Q : TQ} {a0 a1 : AV} {L : Lg} (e : D_f99_1 F N Q (initE [a0,a1] 0) L) : CallL F (N k_f99) [a0,a1] L Q :=
  CallL.of_wp h (Eq.mpr (Eq.trans (e_f99_1 F N Q (initE [a0,a1] 0) Env.nil L) (by kernel_rfl : _ = D_f99_1 F N Q (initE [a0,a1] 0) L)) e)
def q_f100_3 (N : TN) : ACode := (.seq (.reg [⟨.l 6,none,.mv,[.c (.i .i64 0)]⟩]) .ret)
noncomputable def D_f100_3 (F:TF)(N:TN)(Q:TQ) (L : Lg) : Prop :=
 fin1 (some (.i .i64 0)) Q L
theorem e_f100_3 (F:TF)(N:TN)(Q:TQ) (l t : Env) (L : Lg) : wp F (q_f100_3 N) l t L (fin [.tmp (.l 6)] Q) nE (fin [.tmp (.l 6)] Q) = D_f100_3 F N Q L := by kernel_rfl
def w_f100_2 (F:TF)(N:TN)(Q:TQ) : Kn := (fun (l t : Env) (L : Lg) => D_f100_3 F N Q L)
def y_f100_4 (F:TF)(N:TN)(Q:TQ) : Nat → Kn := (fun (j : Nat) (l t : Env) (L : Lg) => bif Nat.beq j 0 then (w_f100_2 F N Q) l t L else nE j l t L)
def q_f100_7 (N : TN) : ACode := (.seq (.reg [⟨.l 6,none,.mv,[.c (.i .i64 6)]⟩]) .ret)
noncomputable def D_f100_7 (F:TF)(N:TN)(Q:TQ) (L : Lg) : Prop :=
 fin1 (some (.i .i64 6)) Q L
theorem e_f100_7 (F:TF)(N:TN)(Q:TQ) (l t : Env) (L : Lg) : wp F (q_f100_7 N) l t L (w_f100_2 F N Q) (y_f100_4 F N Q) (fin [.tmp (.l 6)] Q) = D_f100_7 F N Q L := by kernel_rfl
def q_f100_10 (N : TN) : ACode := (.seq (.reg [⟨.l 6,none,.mv,[.c (.i .i64 7)]⟩]) .ret)
noncomputable def D_f100_10 (F:TF)(N:TN)(Q:TQ) (L : Lg) : Prop :=
 fin1 (some (.i .i64 7)) Q L
theorem e_f100_10 (F:TF)(N:TN)(Q:TQ) (l t : Env) (L : Lg) : wp F (q_f100_10 N) l t L (w_f100_2 F N Q) (y_f100_4 F N Q) (fin [.tmp (.l 6)] Q) = D_f100_10 F N Q L := by kernel_rfl
def q_f100_13 (N : TN) : ACode := (.seq (.reg [⟨.l 6,none,.mv,[.c (.i .i64 5)]⟩]) .ret)
noncomputable def D_f100_13 (F:TF)(N:TN)(Q:TQ) (L : Lg) : Prop :=
 fin1 (some (.i .i64 5)) Q L
theorem e_f100_13 (F:TF)(N:TN)(Q:TQ) (l t : Env) (L : Lg) : wp F (q_f100_13 N) l t L (w_f100_2 F N Q) (y_f100_4 F N Q) (fin [.tmp (.l 6)] Q) = D_f100_13 F N Q L := by kernel_rfl
def q_f100_15 (N : TN) : ACode := (.cond (.t 41) (.seq (.reg [⟨.l 6,none,.mv,[.c (.i .i64 1)]⟩]) .ret) (.seq (.reg [oQ (84,.mv,[.l 2]),oQ (83,.mv,[.t 84])]) (.cond (.t 83) (.regD [oQ (85,.mv,[.l 0]),oQ (86,.bslice [.i .i64 0,.i .i64 0,.i .i64 0] 0 3 [],[]),oQ (87,.mv,[.l 0]),oQ (88,.nilchk,[.t 87]),oQ (89,.fad 5,[.t 88]),oQ (90,.ld none,[.t 89]),oQ (91,.app 3 24,[.t 86,.t 90]),oQ (92,.ld (some 3),[.l 4]),oQ (93,.bslice [.i .i64 0,.i .i64 0,.i .i64 0] 1 3 [0],[.t 92]),oQ (94,.app 3 24,[.t 91,.t 93]),oQ (95,.nilchk,[.t 85]),oQ (96,.fad 5,[.t 95]),⟨.no,none,.st 1,[.t 96,.t 94]⟩] [(7,0)]) (.regD [oQ (7,.mv,[.l 0]),oQ (8,.bslice [.i .i64 0,.i .i64 0,.i .i64 0] 0 3 [],[]),oQ (9,.mv,[.l 0]),oQ (10,.nilchk,[.t 9]),oQ (11,.fad 6,[.t 10]),oQ (12,.ld none,[.t 11]),oQ (13,.app 3 24,[.t 8,.t 12]),oQ (14,.ld (some 3),[.l 4]),oQ (15,.bslice [.i .i64 0,.i .i64 0,.i .i64 0] 1 3 [0],[.t 14]),oQ (16,.app 3 24,[.t 13,.t 15]),oQ (17,.nilchk,[.t 7]),oQ (18,.fad 6,[.t 17]),⟨.no,none,.st 1,[.t 18,.t 16]⟩] [(7,0)]))))
noncomputable def D_f100_15 (F:TF)(N:TN)(Q:TQ) (x0 x2 x4:AV) (t41 : AV) (L : Lg) : Prop :=
 condW t41
 (fin1 (some (.i .i64 1)) Q L)
 (condW x2
 (wpOp F (.bslice [.i .i64 0,.i .i64 0,.i .i64 0] 0 3 []) [] L fun v1 L1=>
 wpOp F .nilchk [x0] L1 fun v2 L2=>
 wpOp F (.fad 5) [v2] L2 fun v3 L3=>
 wpOp F (.ld none) [v3] L3 fun v4 L4=>
 wpOp F (.app 3 24) [v1,v4] L4 fun v5 L5=>
 wpOp F (.ld (some 3)) [x4] L5 fun v6 L6=>
 wpOp F (.bslice [.i .i64 0,.i .i64 0,.i .i64 0] 1 3 [0]) [v6] L6 fun v7 L7=>
 wpOp F (.app 3 24) [v5,v7] L7 fun v8 L8=>
 wpOp F .nilchk [x0] L8 fun v9 L9=>
 wpOp F (.fad 5) [v9] L9 fun v10 L10=>
 wpOp F (.st 1) [v10,v8] L10 fun _ L11=>
 (againV (.ld (some 3)) [x4] L5 L ∧ True) ∧ (D_f100_3 F N Q L11))
 (wpOp F (.bslice [.i .i64 0,.i .i64 0,.i .i64 0] 0 3 []) [] L fun v12 L12=>
 wpOp F .nilchk [x0] L12 fun v13 L13=>
 wpOp F (.fad 6) [v13] L13 fun v14 L14=>
 wpOp F (.ld none) [v14] L14 fun v15 L15=>
 wpOp F (.app 3 24) [v12,v15] L15 fun v16 L16=>
 wpOp F (.ld (some 3)) [x4] L16 fun v17 L17=>
 wpOp F (.bslice [.i .i64 0,.i .i64 0,.i .i64 0] 1 3 [0]) [v17] L17 fun v18 L18=>
 wpOp F (.app 3 24) [v16,v18] L18 fun v19 L19=>
 wpOp F .nilchk [x0] L19 fun v20 L20=>
 wpOp F (.fad 6) [v20] L20 fun v21 L21=>
 wpOp F (.st 1) [v21,v19] L21 fun _ L22=>
 (againV (.ld (some 3)) [x4] L16 L ∧ True) ∧ (D_f100_3 F N Q L22)))
theorem e_f100_15 (F:TF)(N:TN)(Q:TQ) (l t : Env) (L : Lg) : wp F (q_f100_15 N) l t L (w_f100_2 F N Q) (y_f100_4 F N Q) (fin [.tmp (.l 6)] Q) = D_f100_15 F N Q (l 0) (l 2) (l 4) (t 41) L := by kernel_rfl
def w_f100_14 (F:TF)(N:TN)(Q:TQ) : Kn := (fun (l t : Env) (L : Lg) => D_f100_15 F N Q (l 0) (l 2) (l 4) (t 41) L)
def q_f100_17 (N : TN) : ACode := (.cond (.t 41) .skip (.reg [oQ (64,.mv,[.l 2]),oQ (65,.un .not,[.t 64]),oQ (66,.mv,[.t 65]),gQ (67,66,true,.mv,[.l 0]),gQ (68,66,true,.nilchk,[.t 67]),gQ (69,66,true,.fad 4,[.t 68]),gQ (70,66,true,.ld none,[.t 69]),gQ (71,66,true,.lenSl,[.t 70]),gQ (72,66,true,.bin .gtr,[.t 71,.c (.i .i64 0)]),gQ (73,66,true,.mv,[.t 72]),gQ (74,73,false,.mv,[.l 0]),gQ (75,73,false,.nilchk,[.t 74]),gQ (76,73,false,.fad 5,[.t 75]),gQ (77,73,false,.ld none,[.t 76]),gQ (78,73,false,.fad 0,[.l 4]),gQ (79,73,false,.ld none,[.t 78]),gQ (80,73,false,.call (N k_f99),[.t 77,.t 79]),gQ (81,66,true,.pick,[.t 73,.c (.b true),.t 80]),oQ (82,.pick,[.t 66,.t 81,.c (.b false)]),oQ (41,.mv,[.t 82])]))
noncomputable def D_f100_17 (F:TF)(N:TN)(Q:TQ) (x0 x2 x4:AV) (t41 : AV) (L : Lg) : Prop :=
 condW t41
 (D_f100_15 F N Q x0 x2 x4 t41 L)
 (wpOp F (.un .not) [x2] L fun v1 L1=>
 gdOp F v1 true .mv [x0] L1 fun v2 L2=>
 gdOp F v1 true .nilchk [v2] L2 fun v3 L3=>
 gdOp F v1 true (.fad 4) [v3] L3 fun v4 L4=>
 gdOp F v1 true (.ld none) [v4] L4 fun v5 L5=>
 gdOp F v1 true .lenSl [v5] L5 fun v6 L6=>
 gdOp F v1 true (.bin .gtr) [v6,(.i .i64 0)] L6 fun v7 L7=>
 gdOp F v1 true .mv [v7] L7 fun v8 L8=>
 gdOp F v8 false .mv [x0] L8 fun v9 L9=>
 gdOp F v8 false .nilchk [v9] L9 fun v10 L10=>
 gdOp F v8 false (.fad 5) [v10] L10 fun v11 L11=>
 gdOp F v8 false (.ld none) [v11] L11 fun v12 L12=>
 gdOp F v8 false (.fad 0) [x4] L12 fun v13 L13=>
 gdOp F v8 false (.ld none) [v13] L13 fun v14 L14=>
 gdOp F v8 false (.call (N k_f99)) [v12,v14] L14 fun v15 L15=>
 gdOp F v1 true .pick [v8,(.b true),v15] L15 fun v16 L16=>
 wpOp F .pick [v1,v16,(.b false)] L16 fun v17 L17=>
 D_f100_15 F N Q x0 x2 x4 v17 L17)
theorem e_f100_17 (F:TF)(N:TN)(Q:TQ) (l t : Env) (L : Lg) : wp F (q_f100_17 N) l t L (w_f100_14 F N Q) (y_f100_4 F N Q) (fin [.tmp (.l 6)] Q) = D_f100_17 F N Q (l 0) (l 2) (l 4) (t 41) L := by kernel_rfl
def q_f100_16a (N : TN) : ACode := (.reg [oQ (42,.mv,[.l 2]),oQ (43,.mv,[.t 42]),gQ (44,43,true,.mv,[.l 0]),gQ (45,43,true,.nilchk,[.t 44]),gQ (46,43,true,.fad 4,[.t 45]),gQ (47,43,true,.ld none,[.t 46]),gQ (48,43,true,.lenSl,[.t 47]),gQ (49,43,true,.mv,[.l 0]),gQ (50,43,true,.nilchk,[.t 49]),gQ (51,43,true,.fad 0,[.t 50]),gQ (52,43,true,.ld none,[.t 51]),gQ (53,43,true,.bin .lss,[.t 48,.t 52]),gQ (54,43,true,.mv,[.t 53]),gQ (55,54,false,.mv,[.l 0]),gQ (56,54,false,.nilchk,[.t 55]),gQ (57,54,false,.fad 6,[.t 56]),gQ (58,54,false,.ld none,[.t 57]),gQ (59,54,false,.fad 0,[.l 4]),gQ (60,54,false,.ld none,[.t 59]),gQ (61,54,false,.call (N k_f99),[.t 58,.t 60]),gQ (62,43,true,.pick,[.t 54,.c (.b true),.t 61]),oQ (63,.pick,[.t 43,.t 62,.c (.b false)]),oQ (41,.mv,[.t 63])])
def q_f100_16 (N : TN) : ACode := (.seq (q_f100_16a N) (q_f100_17 N))
noncomputable def D_f100_16 (F:TF)(N:TN)(Q:TQ) (x0 x2 x4:AV) (L : Lg) : Prop :=
 gdOp F x2 true .mv [x0] L fun v1 L1=>
 gdOp F x2 true .nilchk [v1] L1 fun v2 L2=>
 gdOp F x2 true (.fad 4) [v2] L2 fun v3 L3=>
 gdOp F x2 true (.ld none) [v3] L3 fun v4 L4=>
 gdOp F x2 true .lenSl [v4] L4 fun v5 L5=>
 gdOp F x2 true .mv [x0] L5 fun v6 L6=>
 gdOp F x2 true .nilchk [v6] L6 fun v7 L7=>
 gdOp F x2 true (.fad 0) [v7] L7 fun v8 L8=>
 gdOp F x2 true (.ld none) [v8] L8 fun v9 L9=>
 gdOp F x2 true (.bin .lss) [v5,v9] L9 fun v10 L10=>
 gdOp F x2 true .mv [v10] L10 fun v11 L11=>
 gdOp F v11 false .mv [x0] L11 fun v12 L12=>
 gdOp F v11 false .nilchk [v12] L12 fun v13 L13=>
 gdOp F v11 false (.fad 6) [v13] L13 fun v14 L14=>
 gdOp F v11 false (.ld none) [v14] L14 fun v15 L15=>
 gdOp F v11 false (.fad 0) [x4] L15 fun v16 L16=>
 gdOp F v11 false (.ld none) [v16] L16 fun v17 L17=>
 gdOp F v11 false (.call (N k_f99)) [v15,v17] L17 fun v18 L18=>
 gdOp F x2 true .pick [v11,(.b true),v18] L18 fun v19 L19=>
 wpOp F .pick [x2,v19,(.b false)] L19 fun v20 L20=>
 D_f100_17 F N Q x0 x2 x4 v20 L20
theorem e_f100_16 (F:TF)(N:TN)(Q:TQ) (l t : Env) (L : Lg) : wp F (q_f100_16 N) l t L (w_f100_14 F N Q) (y_f100_4 F N Q) (fin [.tmp (.l 6)] Q) = D_f100_16 F N Q (l 0) (l 2) (l 4) L := wpS (e_f100_17 F N Q) (by kernel_rfl)
def q_f100_14 (N : TN) : ACode := (.seq (q_f100_16 N) (q_f100_15 N))
theorem e_f100_14 (F:TF)(N:TN)(Q:TQ) (l t : Env) (L : Lg) : wp F (q_f100_14 N) l t L (w_f100_2 F N Q) (y_f100_4 F N Q) (fin [.tmp (.l 6)] Q) = D_f100_16 F N Q (l 0) (l 2) (l 4) L := wpS (e_f100_15 F N Q) (e_f100_16 F N Q l t L)
def q_f100_12 (N : TN) : ACode := (.cond (.t 36) (q_f100_13 N) (q_f100_14 N))
noncomputable def D_f100_12 (F:TF)(N:TN)(Q:TQ) (x0 x2 x4:AV) (t36 : AV) (L : Lg) : Prop :=
 condW t36
 (D_f100_13 F N Q L)
 (D_f100_16 F N Q x0 x2 x4 L)
theorem e_f100_12 (F:TF)(N:TN)(Q:TQ) (l t : Env) (L : Lg) : wp F (q_f100_12 N) l t L (w_f100_2 F N Q) (y_f100_4 F N Q) (fin [.tmp (.l 6)] Q) = D_f100_12 F N Q (l 0) (l 2) (l 4) (t 36) L := wpC (e_f100_13 F N Q l t L) (e_f100_14 F N Q l t L) (by kernel_rfl)
def q_f100_11a (N : TN) : ACode := (.reg [oQ (37,.mv,[.l 0]),oQ (38,.nilchk,[.t 37]),oQ (39,.fad 3,[.t 38]),oQ (40,.ld none,[.t 39]),oQ (36,.mv,[.t 40])])
def q_f100_11 (N : TN) : ACode := (.seq (q_f100_11a N) (q_f100_12 N))
noncomputable def D_f100_11 (F:TF)(N:TN)(Q:TQ) (x0 x2 x4:AV) (L : Lg) : Prop :=
 wpOp F .nilchk [x0] L fun v1 L1=>
 wpOp F (.fad 3) [v1] L1 fun v2 L2=>
 wpOp F (.ld none) [v2] L2 fun v3 L3=>
 D_f100_12 F N Q x0 x2 x4 v3 L3
theorem e_f100_11 (F:TF)(N:TN)(Q:TQ) (l t : Env) (L : Lg) : wp F (q_f100_11 N) l t L (w_f100_2 F N Q) (y_f100_4 F N Q) (fin [.tmp (.l 6)] Q) = D_f100_11 F N Q (l 0) (l 2) (l 4) L := wpS (e_f100_12 F N Q) (by kernel_rfl)
def q_f100_9 (N : TN) : ACode := (.cond (.t 22) (q_f100_10 N) (q_f100_11 N))
noncomputable def D_f100_9 (F:TF)(N:TN)(Q:TQ) (x0 x2 x4:AV) (t22 : AV) (L : Lg) : Prop :=
 condW t22
 (D_f100_10 F N Q L)
 (D_f100_11 F N Q x0 x2 x4 L)
theorem e_f100_9 (F:TF)(N:TN)(Q:TQ) (l t : Env) (L : Lg) : wp F (q_f100_9 N) l t L (w_f100_2 F N Q) (y_f100_4 F N Q) (fin [.tmp (.l 6)] Q) = D_f100_9 F N Q (l 0) (l 2) (l 4) (t 22) L := wpC (e_f100_10 F N Q l t L) (e_f100_11 F N Q l t L) (by kernel_rfl)
def q_f100_8a (N : TN) : ACode := (.reg [oQ (23,.mv,[.l 2]),oQ (24,.mv,[.t 23]),gQ (25,24,true,.mv,[.l 0]),gQ (26,24,true,.nilchk,[.t 25]),gQ (27,24,true,.fad 1,[.t 26]),gQ (28,24,true,.ld none,[.t 27]),gQ (29,24,true,.mv,[.t 28]),gQ (30,29,false,.mv,[.l 0]),gQ (31,29,false,.nilchk,[.t 30]),gQ (32,29,false,.fad 2,[.t 31]),gQ (33,29,false,.ld none,[.t 32]),gQ (34,24,true,.pick,[.t 29,.c (.b true),.t 33]),oQ (35,.pick,[.t 24,.t 34,.c (.b false)]),oQ (22,.mv,[.t 35])])
def q_f100_8 (N : TN) : ACode := (.seq (q_f100_8a N) (q_f100_9 N))
noncomputable def D_f100_8 (F:TF)(N:TN)(Q:TQ) (x0 x2 x4:AV) (L : Lg) : Prop :=
 gdOp F x2 true .mv [x0] L fun v1 L1=>
 gdOp F x2 true .nilchk [v1] L1 fun v2 L2=>
 gdOp F x2 true (.fad 1) [v2] L2 fun v3 L3=>
 gdOp F x2 true (.ld none) [v3] L3 fun v4 L4=>
 gdOp F x2 true .mv [v4] L4 fun v5 L5=>
 gdOp F v5 false .mv [x0] L5 fun v6 L6=>
 gdOp F v5 false .nilchk [v6] L6 fun v7 L7=>
 gdOp F v5 false (.fad 2) [v7] L7 fun v8 L8=>
 gdOp F v5 false (.ld none) [v8] L8 fun v9 L9=>
 gdOp F x2 true .pick [v5,(.b true),v9] L9 fun v10 L10=>
 wpOp F .pick [x2,v10,(.b false)] L10 fun v11 L11=>
 D_f100_9 F N Q x0 x2 x4 v11 L11
theorem e_f100_8 (F:TF)(N:TN)(Q:TQ) (l t : Env) (L : Lg) : wp F (q_f100_8 N) l t L (w_f100_2 F N Q) (y_f100_4 F N Q) (fin [.tmp (.l 6)] Q) = D_f100_8 F N Q (l 0) (l 2) (l 4) L := wpS (e_f100_9 F N Q) (by kernel_rfl)
def q_f100_6 (N : TN) : ACode := (.cond (.t 19) (q_f100_7 N) (q_f100_8 N))
noncomputable def D_f100_6 (F:TF)(N:TN)(Q:TQ) (x0 x2 x4:AV) (t19 : AV) (L : Lg) : Prop :=
 condW t19
 (D_f100_7 F N Q L)
 (D_f100_8 F N Q x0 x2 x4 L)
theorem e_f100_6 (F:TF)(N:TN)(Q:TQ) (l t : Env) (L : Lg) : wp F (q_f100_6 N) l t L (w_f100_2 F N Q) (y_f100_4 F N Q) (fin [.tmp (.l 6)] Q) = D_f100_6 F N Q (l 0) (l 2) (l 4) (t 19) L := wpC (e_f100_7 F N Q l t L) (e_f100_8 F N Q l t L) (by kernel_rfl)
def q_f100_5a (N : TN) : ACode := (.reg [oQ (20,.mv,[.l 0]),oQ (21,.eq false .ptr,[.t 20,.c (.p none)]),oQ (19,.mv,[.t 21])])
def q_f100_5 (N : TN) : ACode := (.seq (q_f100_5a N) (q_f100_6 N))
noncomputable def D_f100_5 (F:TF)(N:TN)(Q:TQ) (x0 x2 x4:AV) (L : Lg) : Prop :=
 wpOp F (.eq false .ptr) [x0,(.p none)] L fun v1 L1=>
 D_f100_6 F N Q x0 x2 x4 v1 L1
theorem e_f100_5 (F:TF)(N:TN)(Q:TQ) (l t : Env) (L : Lg) : wp F (q_f100_5 N) l t L (w_f100_2 F N Q) (y_f100_4 F N Q) (fin [.tmp (.l 6)] Q) = D_f100_5 F N Q (l 0) (l 2) (l 4) L := wpS (e_f100_6 F N Q) (by kernel_rfl)
def q_f100_4 (N : TN) : ACode := (.block 0 (q_f100_5 N))
theorem e_f100_4 (F:TF)(N:TN)(Q:TQ) (l t : Env) (L : Lg) : wp F (q_f100_4 N) l t L (w_f100_2 F N Q) nE (fin [.tmp (.l 6)] Q) = D_f100_5 F N Q (l 0) (l 2) (l 4) L := wpB (e_f100_5 F N Q l t L)
def q_f100_2 (N : TN) : ACode := (.seq (q_f100_4 N) (q_f100_3 N))
theorem e_f100_2 (F:TF)(N:TN)(Q:TQ) (l t : Env) (L : Lg) : wp F (q_f100_2 N) l t L (fin [.tmp (.l 6)] Q) nE (fin [.tmp (.l 6)] Q) = D_f100_5 F N Q (l 0) (l 2) (l 4) L := wpS (e_f100_3 F N Q) (e_f100_4 F N Q l t L)
def q_f100_1a (N : TN) : ACode := (.reg [⟨.l 4,none,.box,[.l 1]⟩,⟨.l 6,none,.mv,[.c (.i .i64 0)]⟩])
def q_f100_1 (N : TN) : ACode := (.seq (q_f100_1a N) (q_f100_2 N))
noncomputable def D_f100_1 (F:TF)(N:TN)(Q:TQ) (x0 x1 x2:AV) (L : Lg) : Prop :=
 wpOp F .box [x1] L fun v1 L1=>
 D_f100_5 F N Q x0 x2 v1 L1
theorem e_f100_1 (F:TF)(N:TN)(Q:TQ) (l t : Env) (L : Lg) : wp F (q_f100_1 N) l t L (fin [.tmp (.l 6)] Q) nE (fin [.tmp (.l 6)] Q) = D_f100_1 F N Q (l 0) (l 1) (l 2) L := wpS (e_f100_2 F N Q) (by kernel_rfl)
def c_f100 (N : TN) : AFn := ⟨q_f100_1 N,[.tmp (.l 6)]⟩
structure H_f100 (N : TN) (F : TF) : Prop where
  code : F (N k_f100) = some (c_f100 N)
  f99 : H_f99 N F
theorem r_f100 {F : TF} {N : TN} (h : F (N k_f100) = some (c_f100 N)) {Q : TQ} {a0 a1 a2 : AV} {L : Lg} (e : D_f100_1 F N Q a0 a1 a2 L) : CallL F (N k_f100) [a0,a1,a2] L Q :=
  CallL.of_wp h (Eq.mpr (Eq.trans (e_f100_1 F N Q (initE [a0,a1,a2] 0) Env.nil L) (by kernel_rfl : _ = D_f100_1 F N Q a0 a1 a2 L)) e)
end Go.AM

