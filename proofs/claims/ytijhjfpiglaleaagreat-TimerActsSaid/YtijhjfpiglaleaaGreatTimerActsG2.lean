/- The texts GenA, LibClock of a proof of TimerActs, merged. -/
import Derived.Test.YtijhjfpiglaleaaGreatTimerActsG1
import Derived.KernelRfl
set_option linter.unusedVariables false
set_option maxRecDepth 100000
namespace Go.AM
def oQ (x : Nat × AOp × List Opd) : Op1 := ⟨.t x.1, none, x.2.1, x.2.2⟩
def gQ (x : Nat × Nat × Bool × AOp × List Opd) : Op1 := ⟨.t x.1, some (.t x.2.1, x.2.2.1), x.2.2.2.1, x.2.2.2.2⟩
def k_f1 : Nat := 1
def k_f2 : Nat := 2
def k_f3 : Nat := 3
def k_f4 : Nat := 4
def k_f5 : Nat := 5
def k_f6 : Nat := 6
def k_f7 : Nat := 7
def k_f8 : Nat := 8
def k_f9 : Nat := 9
def k_f10 : Nat := 10
def k_f11 : Nat := 11
def k_f12 : Nat := 12
def k_f13 : Nat := 13
def k_f14 : Nat := 14
def k_f15 : Nat := 15
def k_f16 : Nat := 16
def k_f17 : Nat := 17
def k_f18 : Nat := 18
def q_f1_1 (N : TN) : ACode := (.seq (.reg [⟨.l 2,none,.mv,[.c (.i .i64 0)]⟩]) (.seq (.reg [oQ (3,.mv,[.l 0]),oQ (4,.max,[.t 3,.c (.i .i64 (-4611686018427387904))]),oQ (5,.min,[.t 4,.c (.i .i64 4611686018427387904)]),⟨.l 2,none,.mv,[.t 5]⟩]) .ret))
noncomputable def D_f1_1 (F:TF)(N:TN)(Q:TQ) (x0 : AV) (L : Lg) : Prop :=
 wpOp F .max [x0,(.i .i64 (-4611686018427387904))] L fun v1 L1=>
 wpOp F .min [v1,(.i .i64 4611686018427387904)] L1 fun v2 L2=>
 fin1 (some v2) Q L2
theorem e_f1_1 (F:TF)(N:TN)(Q:TQ) (l t : Env) (L : Lg) : wp F (q_f1_1 N) l t L (fin [.tmp (.l 2)] Q) nE (fin [.tmp (.l 2)] Q) = D_f1_1 F N Q (l 0) L := by kernel_rfl
def c_f1 (N : TN) : AFn := ⟨q_f1_1 N,[.tmp (.l 2)]⟩
structure H_f1 (N : TN) (F : TF) : Prop where
  code : F (N k_f1) = some (c_f1 N)
theorem r_f1 {F : TF} {N : TN} (h : F (N k_f1) = some (c_f1 N)) {Q : TQ} {a0 : AV} {L : Lg} (e : D_f1_1 F N Q a0 L) : CallL F (N k_f1) [a0] L Q :=
  CallL.of_wp h (Eq.mpr (Eq.trans (e_f1_1 F N Q (initE [a0] 0) Env.nil L) (by kernel_rfl : _ = D_f1_1 F N Q a0 L)) e)
def q_f2_1 (N : TN) : ACode := (.seq (.reg [⟨.l 4,none,.mv,[.c (.i .i64 0)]⟩]) (.seq (.reg [oQ (5,.mv,[.l 0]),oQ (6,.call (N k_f1),[.t 5]),oQ (7,.mv,[.l 1]),oQ (8,.call (N k_f1),[.t 7]),⟨.l 0,none,.mv,[.t 6]⟩,⟨.l 1,none,.mv,[.t 8]⟩]) (.seq (.block 0 (.seq (.reg [oQ (10,.mv,[.l 1]),oQ (11,.bin .gtr,[.t 10,.c (.i .i64 0)]),oQ (12,.mv,[.t 11]),gQ (13,12,true,.mv,[.l 0]),gQ (14,12,true,.mv,[.l 1]),gQ (15,12,true,.bin .sub,[.c (.i .i64 4611686018427387904),.t 14]),gQ (16,12,true,.bin .gtr,[.t 13,.t 15]),oQ (17,.pick,[.t 12,.t 16,.c (.b false)]),oQ (9,.mv,[.t 17])]) (.cond (.t 9) (.seq (.reg [⟨.l 4,none,.mv,[.c (.i .i64 4611686018427387904)]⟩]) .ret) (.seq (.reg [oQ (19,.mv,[.l 1]),oQ (20,.bin .lss,[.t 19,.c (.i .i64 0)]),oQ (21,.mv,[.t 20]),gQ (22,21,true,.mv,[.l 0]),gQ (23,21,true,.mv,[.l 1]),gQ (24,21,true,.bin .sub,[.c (.i .i64 (-4611686018427387904)),.t 23]),gQ (25,21,true,.bin .lss,[.t 22,.t 24]),oQ (26,.pick,[.t 21,.t 25,.c (.b false)]),oQ (18,.mv,[.t 26])]) (.cond (.t 18) (.seq (.reg [⟨.l 4,none,.mv,[.c (.i .i64 (-4611686018427387904))]⟩]) .ret) .skip))))) (.seq (.reg [oQ (27,.mv,[.l 0]),oQ (28,.mv,[.l 1]),oQ (29,.bin .add,[.t 27,.t 28]),⟨.l 4,none,.mv,[.t 29]⟩]) .ret))))
noncomputable def D_f2_1 (F:TF)(N:TN)(Q:TQ) (x0 x1:AV) (L : Lg) : Prop :=
 CallL F (N k_f1) [x0] L fun v1 L1=>
 CallL F (N k_f1) [x1] L1 fun v2 L2=>
 wpOp F (.bin .gtr) [v2,(.i .i64 0)] L2 fun v3 L3=>
 gdOp F v3 true .mv [v1] L3 fun v4 L4=>
 gdOp F v3 true .mv [v2] L4 fun v5 L5=>
 gdOp F v3 true (.bin .sub) [(.i .i64 4611686018427387904),v5] L5 fun v6 L6=>
 gdOp F v3 true (.bin .gtr) [v4,v6] L6 fun v7 L7=>
 wpOp F .pick [v3,v7,(.b false)] L7 fun v8 L8=>
 condW v8
 (fin1 (some (.i .i64 4611686018427387904)) Q L8)
 (wpOp F (.bin .lss) [v2,(.i .i64 0)] L8 fun v9 L9=>
 gdOp F v9 true .mv [v1] L9 fun v10 L10=>
 gdOp F v9 true .mv [v2] L10 fun v11 L11=>
 gdOp F v9 true (.bin .sub) [(.i .i64 (-4611686018427387904)),v11] L11 fun v12 L12=>
 gdOp F v9 true (.bin .lss) [v10,v12] L12 fun v13 L13=>
 wpOp F .pick [v9,v13,(.b false)] L13 fun v14 L14=>
 condW v14
 (fin1 (some (.i .i64 (-4611686018427387904))) Q L14)
 (wpOp F (.bin .add) [v1,v2] L14 fun v15 L15=>
 fin1 (some v15) Q L15))
theorem e_f2_1 (F:TF)(N:TN)(Q:TQ) (l t : Env) (L : Lg) : wp F (q_f2_1 N) l t L (fin [.tmp (.l 4)] Q) nE (fin [.tmp (.l 4)] Q) = D_f2_1 F N Q (l 0) (l 1) L := by kernel_rfl
def c_f2 (N : TN) : AFn := ⟨q_f2_1 N,[.tmp (.l 4)]⟩
structure H_f2 (N : TN) (F : TF) : Prop where
  code : F (N k_f2) = some (c_f2 N)
  f1 : H_f1 N F
theorem r_f2 {F : TF} {N : TN} (h : F (N k_f2) = some (c_f2 N)) {Q : TQ} {a0 a1 : AV} {L : Lg} (e : D_f2_1 F N Q a0 a1 L) : CallL F (N k_f2) [a0,a1] L Q :=
  CallL.of_wp h (Eq.mpr (Eq.trans (e_f2_1 F N Q (initE [a0,a1] 0) Env.nil L) (by kernel_rfl : _ = D_f2_1 F N Q a0 a1 L)) e)
def q_f3_1 (N : TN) : ACode := (.seq (.reg [⟨.l 6,none,.mv,[.c (.i .i64 0)]⟩,⟨.l 7,none,.mv,[.c (.i .i64 0)]⟩]) (.seq (.seq (.reg [oQ (8,.mv,[.l 1]),oQ (9,.bin .lss,[.t 8,.c (.i .i64 1)]),oQ (10,.mv,[.t 9]),gQ (11,10,false,.mv,[.l 0]),gQ (12,10,false,.mv,[.l 2]),gQ (13,10,false,.min,[.t 11,.t 12]),gQ (14,10,false,.bin .lss,[.t 13,.c (.i .i64 0)]),oQ (15,.pick,[.t 10,.c (.b true),.t 14]),oQ (16,.mv,[.t 15]),gQ (17,16,false,.mv,[.l 0]),gQ (18,16,false,.mv,[.l 1]),gQ (19,16,false,.mv,[.l 2]),gQ (20,16,false,.max,[.t 17,.t 18,.t 19]),gQ (21,16,false,.bin .gtr,[.t 20,.c (.i .i64 4611686018427387904)]),oQ (22,.pick,[.t 16,.c (.b true),.t 21])]) (.cond (.t 22) (.seq (.reg [⟨.l 6,none,.mv,[.c (.i .i64 0)]⟩,⟨.l 7,none,.mv,[.c (.i .i64 1)]⟩]) .ret) .skip)) (.seq (.seq (.reg [oQ (23,.mv,[.l 0]),oQ (24,.mv,[.l 2]),oQ (25,.bin .gtr,[.t 23,.t 24])]) (.cond (.t 25) (.seq (.reg [oQ (26,.mv,[.l 0]),⟨.l 6,none,.mv,[.t 26]⟩,⟨.l 7,none,.mv,[.c (.i .i64 0)]⟩]) .ret) .skip)) (.seq (.reg [oQ (27,.mv,[.l 2]),oQ (28,.mv,[.l 1]),oQ (29,.mv,[.l 2]),oQ (30,.mv,[.l 0]),oQ (31,.bin .sub,[.t 29,.t 30]),oQ (32,.mv,[.l 1]),oQ (33,.bin .rem,[.t 31,.t 32]),oQ (34,.bin .sub,[.t 28,.t 33]),oQ (35,.call (N k_f2),[.t 27,.t 34]),⟨.l 6,none,.mv,[.t 35]⟩,⟨.l 7,none,.mv,[.c (.i .i64 0)]⟩]) .ret))))
noncomputable def D_f3_1 (F:TF)(N:TN)(Q:TQ) (x0 x1 x2:AV) (L : Lg) : Prop :=
 wpOp F (.bin .lss) [x1,(.i .i64 1)] L fun v1 L1=>
 gdOp F v1 false .mv [x0] L1 fun v2 L2=>
 gdOp F v1 false .mv [x2] L2 fun v3 L3=>
 gdOp F v1 false .min [v2,v3] L3 fun v4 L4=>
 gdOp F v1 false (.bin .lss) [v4,(.i .i64 0)] L4 fun v5 L5=>
 wpOp F .pick [v1,(.b true),v5] L5 fun v6 L6=>
 gdOp F v6 false .mv [x0] L6 fun v7 L7=>
 gdOp F v6 false .mv [x1] L7 fun v8 L8=>
 gdOp F v6 false .mv [x2] L8 fun v9 L9=>
 gdOp F v6 false .max [v7,v8,v9] L9 fun v10 L10=>
 gdOp F v6 false (.bin .gtr) [v10,(.i .i64 4611686018427387904)] L10 fun v11 L11=>
 wpOp F .pick [v6,(.b true),v11] L11 fun v12 L12=>
 condW v12
 (fin1 (some (.tup [(.i .i64 0),(.i .i64 1)])) Q L12)
 (wpOp F (.bin .gtr) [x0,x2] L12 fun v13 L13=>
 condW v13
 (fin1 (some (.tup [x0,(.i .i64 0)])) Q L13)
 (wpOp F (.bin .sub) [x2,x0] L13 fun v14 L14=>
 wpOp F (.bin .rem) [v14,x1] L14 fun v15 L15=>
 wpOp F (.bin .sub) [x1,v15] L15 fun v16 L16=>
 CallL F (N k_f2) [x2,v16] L16 fun v17 L17=>
 fin1 (some (.tup [v17,(.i .i64 0)])) Q L17))
theorem e_f3_1 (F:TF)(N:TN)(Q:TQ) (l t : Env) (L : Lg) : wp F (q_f3_1 N) l t L (fin [.tmp (.l 6),.tmp (.l 7)] Q) nE (fin [.tmp (.l 6),.tmp (.l 7)] Q) = D_f3_1 F N Q (l 0) (l 1) (l 2) L := by kernel_rfl
def c_f3 (N : TN) : AFn := ⟨q_f3_1 N,[.tmp (.l 6),.tmp (.l 7)]⟩
structure H_f3 (N : TN) (F : TF) : Prop where
  code : F (N k_f3) = some (c_f3 N)
  f2 : H_f2 N F
theorem r_f3 {F : TF} {N : TN} (h : F (N k_f3) = some (c_f3 N)) {Q : TQ} {a0 a1 a2 : AV} {L : Lg} (e : D_f3_1 F N Q a0 a1 a2 L) : CallL F (N k_f3) [a0,a1,a2] L Q :=
  CallL.of_wp h (Eq.mpr (Eq.trans (e_f3_1 F N Q (initE [a0,a1,a2] 0) Env.nil L) (by kernel_rfl : _ = D_f3_1 F N Q a0 a1 a2 L)) e)
def q_f4_3 (N : TN) : ACode := (.seq (.reg [oQ (19,.mv,[.l 0]),oQ (20,.nilchk,[.t 19]),oQ (21,.fad 0,[.t 20]),oQ (22,.ld none,[.t 21]),oQ (23,.mv,[.l 0]),oQ (24,.nilchk,[.t 23]),oQ (25,.fad 1,[.t 24]),oQ (26,.ld none,[.t 25]),oQ (27,.mv,[.l 0]),oQ (28,.nilchk,[.t 27]),oQ (29,.fad 2,[.t 28]),oQ (30,.ld none,[.t 29]),oQ (31,.bin .add,[.t 26,.t 30]),oQ (32,.mv,[.l 0]),oQ (33,.nilchk,[.t 32]),oQ (34,.fad 0,[.t 33]),oQ (35,.ld none,[.t 34]),oQ (36,.lenSl,[.t 35]),oQ (37,.bin .rem,[.t 31,.t 36]),oQ (38,.mv,[.l 1]),oQ (39,.iad 1,[.t 22,.t 37]),⟨.no,none,.st 1,[.t 39,.t 38]⟩]) (.seq (.reg [oQ (40,.mv,[.l 0]),oQ (41,.nilchk,[.t 40]),oQ (42,.fad 2,[.t 41]),oQ (43,.ld none,[.t 42]),oQ (44,.bin .add,[.t 43,.c (.i .i64 1)]),oQ (45,.nilchk,[.t 40]),oQ (46,.fad 2,[.t 45]),⟨.no,none,.st 1,[.t 46,.t 44]⟩]) (.seq (.reg [⟨.l 4,none,.mv,[.c (.b true)]⟩]) .ret)))
noncomputable def D_f4_3 (F:TF)(N:TN)(Q:TQ) (x0 x1:AV) (L : Lg) : Prop :=
 wpOp F .nilchk [x0] L fun v1 L1=>
 wpOp F (.fad 0) [v1] L1 fun v2 L2=>
 wpOp F (.ld none) [v2] L2 fun v3 L3=>
 wpOp F .nilchk [x0] L3 fun v4 L4=>
 wpOp F (.fad 1) [v4] L4 fun v5 L5=>
 wpOp F (.ld none) [v5] L5 fun v6 L6=>
 wpOp F .nilchk [x0] L6 fun v7 L7=>
 wpOp F (.fad 2) [v7] L7 fun v8 L8=>
 wpOp F (.ld none) [v8] L8 fun v9 L9=>
 wpOp F (.bin .add) [v6,v9] L9 fun v10 L10=>
 wpOp F .nilchk [x0] L10 fun v11 L11=>
 wpOp F (.fad 0) [v11] L11 fun v12 L12=>
 wpOp F (.ld none) [v12] L12 fun v13 L13=>
 wpOp F .lenSl [v13] L13 fun v14 L14=>
 wpOp F (.bin .rem) [v10,v14] L14 fun v15 L15=>
 wpOp F (.iad 1) [v3,v15] L15 fun v16 L16=>
 wpOp F (.st 1) [v16,x1] L16 fun _ L17=>
 wpOp F .nilchk [x0] L17 fun v18 L18=>
 wpOp F (.fad 2) [v18] L18 fun v19 L19=>
 wpOp F (.ld none) [v19] L19 fun v20 L20=>
 wpOp F (.bin .add) [v20,(.i .i64 1)] L20 fun v21 L21=>
 wpOp F .nilchk [x0] L21 fun v22 L22=>
 wpOp F (.fad 2) [v22] L22 fun v23 L23=>
 wpOp F (.st 1) [v23,v21] L23 fun _ L24=>
 fin1 (some (.b true)) Q L24
theorem e_f4_3 (F:TF)(N:TN)(Q:TQ) (l t : Env) (L : Lg) : wp F (q_f4_3 N) l t L (fin [.tmp (.l 4)] Q) nE (fin [.tmp (.l 4)] Q) = D_f4_3 F N Q (l 0) (l 1) L := by kernel_rfl
def q_f4_2a (N : TN) : ACode := (.seq (.reg [oQ (5,.mv,[.l 0]),oQ (6,.eq false .ptr,[.t 5,.c (.p none)]),oQ (7,.mv,[.t 6]),gQ (8,7,false,.mv,[.l 0]),gQ (9,7,false,.nilchk,[.t 8]),gQ (10,7,false,.fad 2,[.t 9]),gQ (11,7,false,.ld none,[.t 10]),gQ (12,7,false,.mv,[.l 0]),gQ (13,7,false,.nilchk,[.t 12]),gQ (14,7,false,.fad 0,[.t 13]),gQ (15,7,false,.ld none,[.t 14]),gQ (16,7,false,.lenSl,[.t 15]),gQ (17,7,false,.bin .eql,[.t 11,.t 16]),oQ (18,.pick,[.t 7,.c (.b true),.t 17])]) (.cond (.t 18) (.seq (.reg [⟨.l 4,none,.mv,[.c (.b false)]⟩]) .ret) .skip))
def q_f4_2 (N : TN) : ACode := (.seq (q_f4_2a N) (q_f4_3 N))
noncomputable def D_f4_2 (F:TF)(N:TN)(Q:TQ) (x0 x1:AV) (L : Lg) : Prop :=
 wpOp F (.eq false .ptr) [x0,(.p none)] L fun v1 L1=>
 gdOp F v1 false .mv [x0] L1 fun v2 L2=>
 gdOp F v1 false .nilchk [v2] L2 fun v3 L3=>
 gdOp F v1 false (.fad 2) [v3] L3 fun v4 L4=>
 gdOp F v1 false (.ld none) [v4] L4 fun v5 L5=>
 gdOp F v1 false .mv [x0] L5 fun v6 L6=>
 gdOp F v1 false .nilchk [v6] L6 fun v7 L7=>
 gdOp F v1 false (.fad 0) [v7] L7 fun v8 L8=>
 gdOp F v1 false (.ld none) [v8] L8 fun v9 L9=>
 gdOp F v1 false .lenSl [v9] L9 fun v10 L10=>
 gdOp F v1 false (.bin .eql) [v5,v10] L10 fun v11 L11=>
 wpOp F .pick [v1,(.b true),v11] L11 fun v12 L12=>
 condW v12
 (fin1 (some (.b false)) Q L12)
 (D_f4_3 F N Q x0 x1 L12)
theorem e_f4_2 (F:TF)(N:TN)(Q:TQ) (l t : Env) (L : Lg) : wp F (q_f4_2 N) l t L (fin [.tmp (.l 4)] Q) nE (fin [.tmp (.l 4)] Q) = D_f4_2 F N Q (l 0) (l 1) L := wpS (e_f4_3 F N Q) (by kernel_rfl)
def q_f4_1a (N : TN) : ACode := (.reg [⟨.l 4,none,.mv,[.c (.b false)]⟩])
def q_f4_1 (N : TN) : ACode := (.seq (q_f4_1a N) (q_f4_2 N))
noncomputable def D_f4_1 (F:TF)(N:TN)(Q:TQ) (x0 x1:AV) (L : Lg) : Prop :=
 D_f4_2 F N Q x0 x1 L
theorem e_f4_1 (F:TF)(N:TN)(Q:TQ) (l t : Env) (L : Lg) : wp F (q_f4_1 N) l t L (fin [.tmp (.l 4)] Q) nE (fin [.tmp (.l 4)] Q) = D_f4_1 F N Q (l 0) (l 1) L := wpS (e_f4_2 F N Q) (by kernel_rfl)
def c_f4 (N : TN) : AFn := ⟨q_f4_1 N,[.tmp (.l 4)]⟩
structure H_f4 (N : TN) (F : TF) : Prop where
  code : F (N k_f4) = some (c_f4 N)
theorem r_f4 {F : TF} {N : TN} (h : F (N k_f4) = some (c_f4 N)) {Q : TQ} {a0 a1 : AV} {L : Lg} (e : D_f4_1 F N Q a0 a1 L) : CallL F (N k_f4) [a0,a1] L Q :=
  CallL.of_wp h (Eq.mpr (Eq.trans (e_f4_1 F N Q (initE [a0,a1] 0) Env.nil L) (by kernel_rfl : _ = D_f4_1 F N Q a0 a1 L)) e)
def q_f5_3 (N : TN) : ACode := (.seq (.reg [oQ (14,.mv,[.l 0]),oQ (15,.nilchk,[.t 14]),oQ (16,.fad 0,[.t 15]),oQ (17,.ld none,[.t 16]),oQ (18,.mv,[.l 0]),oQ (19,.nilchk,[.t 18]),oQ (20,.fad 1,[.t 19]),oQ (21,.ld none,[.t 20]),oQ (22,.iad 1,[.t 17,.t 21]),oQ (23,.ld none,[.t 22]),⟨.l 4,none,.mv,[.t 23]⟩]) (.seq (.reg [oQ (24,.mv,[.l 0]),oQ (25,.mv,[.l 0]),oQ (26,.nilchk,[.t 25]),oQ (27,.fad 1,[.t 26]),oQ (28,.ld none,[.t 27]),oQ (29,.bin .add,[.t 28,.c (.i .i64 1)]),oQ (30,.mv,[.l 0]),oQ (31,.nilchk,[.t 30]),oQ (32,.fad 0,[.t 31]),oQ (33,.ld none,[.t 32]),oQ (34,.lenSl,[.t 33]),oQ (35,.bin .rem,[.t 29,.t 34]),oQ (36,.nilchk,[.t 24]),oQ (37,.fad 1,[.t 36]),⟨.no,none,.st 1,[.t 37,.t 35]⟩]) (.seq (.reg [oQ (38,.mv,[.l 0]),oQ (39,.nilchk,[.t 38]),oQ (40,.fad 2,[.t 39]),oQ (41,.ld none,[.t 40]),oQ (42,.bin .sub,[.t 41,.c (.i .i64 1)]),oQ (43,.nilchk,[.t 38]),oQ (44,.fad 2,[.t 43]),⟨.no,none,.st 1,[.t 44,.t 42]⟩]) (.seq (.reg [oQ (45,.mv,[.l 4]),⟨.l 2,none,.mv,[.t 45]⟩,⟨.l 3,none,.mv,[.c (.b true)]⟩]) .ret))))
noncomputable def D_f5_3 (F:TF)(N:TN)(Q:TQ) (x0 : AV) (L : Lg) : Prop :=
 wpOp F .nilchk [x0] L fun v1 L1=>
 wpOp F (.fad 0) [v1] L1 fun v2 L2=>
 wpOp F (.ld none) [v2] L2 fun v3 L3=>
 wpOp F .nilchk [x0] L3 fun v4 L4=>
 wpOp F (.fad 1) [v4] L4 fun v5 L5=>
 wpOp F (.ld none) [v5] L5 fun v6 L6=>
 wpOp F (.iad 1) [v3,v6] L6 fun v7 L7=>
 wpOp F (.ld none) [v7] L7 fun v8 L8=>
 wpOp F .nilchk [x0] L8 fun v9 L9=>
 wpOp F (.fad 1) [v9] L9 fun v10 L10=>
 wpOp F (.ld none) [v10] L10 fun v11 L11=>
 wpOp F (.bin .add) [v11,(.i .i64 1)] L11 fun v12 L12=>
 wpOp F .nilchk [x0] L12 fun v13 L13=>
 wpOp F (.fad 0) [v13] L13 fun v14 L14=>
 wpOp F (.ld none) [v14] L14 fun v15 L15=>
 wpOp F .lenSl [v15] L15 fun v16 L16=>
 wpOp F (.bin .rem) [v12,v16] L16 fun v17 L17=>
 wpOp F .nilchk [x0] L17 fun v18 L18=>
 wpOp F (.fad 1) [v18] L18 fun v19 L19=>
 wpOp F (.st 1) [v19,v17] L19 fun _ L20=>
 wpOp F .nilchk [x0] L20 fun v21 L21=>
 wpOp F (.fad 2) [v21] L21 fun v22 L22=>
 wpOp F (.ld none) [v22] L22 fun v23 L23=>
 wpOp F (.bin .sub) [v23,(.i .i64 1)] L23 fun v24 L24=>
 wpOp F .nilchk [x0] L24 fun v25 L25=>
 wpOp F (.fad 2) [v25] L25 fun v26 L26=>
 wpOp F (.st 1) [v26,v24] L26 fun _ L27=>
 fin1 (some (.tup [v8,(.b true)])) Q L27
theorem e_f5_3 (F:TF)(N:TN)(Q:TQ) (l t : Env) (L : Lg) : wp F (q_f5_3 N) l t L (fin [.tmp (.l 2),.tmp (.l 3)] Q) nE (fin [.tmp (.l 2),.tmp (.l 3)] Q) = D_f5_3 F N Q (l 0) L := by kernel_rfl
def q_f5_2a (N : TN) : ACode := (.seq (.reg [oQ (5,.mv,[.l 0]),oQ (6,.eq false .ptr,[.t 5,.c (.p none)]),oQ (7,.mv,[.t 6]),gQ (8,7,false,.mv,[.l 0]),gQ (9,7,false,.nilchk,[.t 8]),gQ (10,7,false,.fad 2,[.t 9]),gQ (11,7,false,.ld none,[.t 10]),gQ (12,7,false,.bin .eql,[.t 11,.c (.i .i64 0)]),oQ (13,.pick,[.t 7,.c (.b true),.t 12])]) (.cond (.t 13) (.seq (.reg [⟨.l 2,none,.mv,[.c (.i .i64 0)]⟩,⟨.l 3,none,.mv,[.c (.b false)]⟩]) .ret) .skip))
def q_f5_2 (N : TN) : ACode := (.seq (q_f5_2a N) (q_f5_3 N))
noncomputable def D_f5_2 (F:TF)(N:TN)(Q:TQ) (x0 : AV) (L : Lg) : Prop :=
 wpOp F (.eq false .ptr) [x0,(.p none)] L fun v1 L1=>
 gdOp F v1 false .mv [x0] L1 fun v2 L2=>
 gdOp F v1 false .nilchk [v2] L2 fun v3 L3=>
 gdOp F v1 false (.fad 2) [v3] L3 fun v4 L4=>
 gdOp F v1 false (.ld none) [v4] L4 fun v5 L5=>
 gdOp F v1 false (.bin .eql) [v5,(.i .i64 0)] L5 fun v6 L6=>
 wpOp F .pick [v1,(.b true),v6] L6 fun v7 L7=>
 condW v7
 (fin1 (some (.tup [(.i .i64 0),(.b false)])) Q L7)
 (D_f5_3 F N Q x0 L7)
theorem e_f5_2 (F:TF)(N:TN)(Q:TQ) (l t : Env) (L : Lg) : wp F (q_f5_2 N) l t L (fin [.tmp (.l 2),.tmp (.l 3)] Q) nE (fin [.tmp (.l 2),.tmp (.l 3)] Q) = D_f5_2 F N Q (l 0) L := wpS (e_f5_3 F N Q) (by kernel_rfl)
def q_f5_1a (N : TN) : ACode := (.reg [⟨.l 2,none,.mv,[.c (.i .i64 0)]⟩,⟨.l 3,none,.mv,[.c (.b false)]⟩])
def q_f5_1 (N : TN) : ACode := (.seq (q_f5_1a N) (q_f5_2 N))
noncomputable def D_f5_1 (F:TF)(N:TN)(Q:TQ) (x0 : AV) (L : Lg) : Prop :=
 D_f5_2 F N Q x0 L
theorem e_f5_1 (F:TF)(N:TN)(Q:TQ) (l t : Env) (L : Lg) : wp F (q_f5_1 N) l t L (fin [.tmp (.l 2),.tmp (.l 3)] Q) nE (fin [.tmp (.l 2),.tmp (.l 3)] Q) = D_f5_1 F N Q (l 0) L := wpS (e_f5_2 F N Q) (by kernel_rfl)
def c_f5 (N : TN) : AFn := ⟨q_f5_1 N,[.tmp (.l 2),.tmp (.l 3)]⟩
structure H_f5 (N : TN) (F : TF) : Prop where
  code : F (N k_f5) = some (c_f5 N)
theorem r_f5 {F : TF} {N : TN} (h : F (N k_f5) = some (c_f5 N)) {Q : TQ} {a0 : AV} {L : Lg} (e : D_f5_1 F N Q a0 L) : CallL F (N k_f5) [a0] L Q :=
  CallL.of_wp h (Eq.mpr (Eq.trans (e_f5_1 F N Q (initE [a0] 0) Env.nil L) (by kernel_rfl : _ = D_f5_1 F N Q a0 L)) e)
def q_f6_1 (N : TN) : ACode := (.seq (.reg [⟨.l 2,none,.mv,[.c (.i .i64 0)]⟩]) (.seq (.seq (.reg [oQ (3,.mv,[.l 0]),oQ (4,.eq false .ptr,[.t 3,.c (.p none)])]) (.cond (.t 4) (.seq (.reg [⟨.l 2,none,.mv,[.c (.i .i64 0)]⟩]) .ret) .skip)) (.seq (.reg [oQ (5,.mv,[.l 0]),oQ (6,.nilchk,[.t 5]),oQ (7,.fad 2,[.t 6]),oQ (8,.ld none,[.t 7]),⟨.l 2,none,.mv,[.t 8]⟩]) .ret)))
noncomputable def D_f6_1 (F:TF)(N:TN)(Q:TQ) (x0 : AV) (L : Lg) : Prop :=
 wpOp F (.eq false .ptr) [x0,(.p none)] L fun v1 L1=>
 condW v1
 (fin1 (some (.i .i64 0)) Q L1)
 (wpOp F .nilchk [x0] L1 fun v2 L2=>
 wpOp F (.fad 2) [v2] L2 fun v3 L3=>
 wpOp F (.ld none) [v3] L3 fun v4 L4=>
 fin1 (some v4) Q L4)
theorem e_f6_1 (F:TF)(N:TN)(Q:TQ) (l t : Env) (L : Lg) : wp F (q_f6_1 N) l t L (fin [.tmp (.l 2)] Q) nE (fin [.tmp (.l 2)] Q) = D_f6_1 F N Q (l 0) L := by kernel_rfl
def c_f6 (N : TN) : AFn := ⟨q_f6_1 N,[.tmp (.l 2)]⟩
structure H_f6 (N : TN) (F : TF) : Prop where
  code : F (N k_f6) = some (c_f6 N)
theorem r_f6 {F : TF} {N : TN} (h : F (N k_f6) = some (c_f6 N)) {Q : TQ} {a0 : AV} {L : Lg} (e : D_f6_1 F N Q a0 L) : CallL F (N k_f6) [a0] L Q :=
  CallL.of_wp h (Eq.mpr (Eq.trans (e_f6_1 F N Q (initE [a0] 0) Env.nil L) (by kernel_rfl : _ = D_f6_1 F N Q a0 L)) e)
def q_f7_1 (N : TN) : ACode := (.seq (.reg [⟨.l 2,none,.mv,[.c (.i .i64 0)]⟩]) (.seq (.seq (.reg [oQ (3,.mv,[.l 0]),oQ (4,.eq false .ptr,[.t 3,.c (.p none)])]) (.cond (.t 4) (.seq (.reg [⟨.l 2,none,.mv,[.c (.i .i64 0)]⟩]) .ret) .skip)) (.seq (.reg [oQ (5,.mv,[.l 0]),oQ (6,.nilchk,[.t 5]),oQ (7,.fad 0,[.t 6]),oQ (8,.ld none,[.t 7]),oQ (9,.lenSl,[.t 8]),⟨.l 2,none,.mv,[.t 9]⟩]) .ret)))
noncomputable def D_f7_1 (F:TF)(N:TN)(Q:TQ) (x0 : AV) (L : Lg) : Prop :=
 wpOp F (.eq false .ptr) [x0,(.p none)] L fun v1 L1=>
 condW v1
 (fin1 (some (.i .i64 0)) Q L1)
 (wpOp F .nilchk [x0] L1 fun v2 L2=>
 wpOp F (.fad 0) [v2] L2 fun v3 L3=>
 wpOp F (.ld none) [v3] L3 fun v4 L4=>
 wpOp F .lenSl [v4] L4 fun v5 L5=>
 fin1 (some v5) Q L5)
theorem e_f7_1 (F:TF)(N:TN)(Q:TQ) (l t : Env) (L : Lg) : wp F (q_f7_1 N) l t L (fin [.tmp (.l 2)] Q) nE (fin [.tmp (.l 2)] Q) = D_f7_1 F N Q (l 0) L := by kernel_rfl
def c_f7 (N : TN) : AFn := ⟨q_f7_1 N,[.tmp (.l 2)]⟩
structure H_f7 (N : TN) (F : TF) : Prop where
  code : F (N k_f7) = some (c_f7 N)
theorem r_f7 {F : TF} {N : TN} (h : F (N k_f7) = some (c_f7 N)) {Q : TQ} {a0 : AV} {L : Lg} (e : D_f7_1 F N Q a0 L) : CallL F (N k_f7) [a0] L Q :=
  CallL.of_wp h (Eq.mpr (Eq.trans (e_f7_1 F N Q (initE [a0] 0) Env.nil L) (by kernel_rfl : _ = D_f7_1 F N Q a0 L)) e)
def q_f8_1 (N : TN) : ACode := (.seq (.reg [⟨.l 2,none,.mv,[.c (.i .i64 0)]⟩]) (.seq (.reg [oQ (4,.mv,[.l 0]),oQ (5,.call (N k_f6),[.t 4]),⟨.l 3,none,.mv,[.t 5]⟩]) (.seq (.seq (.reg [oQ (6,.mv,[.l 3]),oQ (7,.bin .gtr,[.t 6,.c (.i .i64 0)])]) (.cond (.t 7) (.reg [oQ (8,.mv,[.l 0]),oQ (9,.nilchk,[.t 8]),oQ (10,.fad 2,[.t 9]),⟨.no,none,.st 1,[.t 10,.c (.i .i64 0)]⟩]) .skip)) (.seq (.reg [oQ (11,.mv,[.l 3]),⟨.l 2,none,.mv,[.t 11]⟩]) .ret))))
noncomputable def D_f8_1 (F:TF)(N:TN)(Q:TQ) (x0 : AV) (L : Lg) : Prop :=
 CallL F (N k_f6) [x0] L fun v1 L1=>
 wpOp F (.bin .gtr) [v1,(.i .i64 0)] L1 fun v2 L2=>
 condW v2
 (wpOp F .nilchk [x0] L2 fun v3 L3=>
 wpOp F (.fad 2) [v3] L3 fun v4 L4=>
 wpOp F (.st 1) [v4,(.i .i64 0)] L4 fun _ L5=>
 fin1 (some v1) Q L5)
 (fin1 (some v1) Q L2)
theorem e_f8_1 (F:TF)(N:TN)(Q:TQ) (l t : Env) (L : Lg) : wp F (q_f8_1 N) l t L (fin [.tmp (.l 2)] Q) nE (fin [.tmp (.l 2)] Q) = D_f8_1 F N Q (l 0) L := by kernel_rfl
def c_f8 (N : TN) : AFn := ⟨q_f8_1 N,[.tmp (.l 2)]⟩
structure H_f8 (N : TN) (F : TF) : Prop where
  code : F (N k_f8) = some (c_f8 N)
  f6 : H_f6 N F
theorem r_f8 {F : TF} {N : TN} (h : F (N k_f8) = some (c_f8 N)) {Q : TQ} {a0 : AV} {L : Lg} (e : D_f8_1 F N Q a0 L) : CallL F (N k_f8) [a0] L Q :=
  CallL.of_wp h (Eq.mpr (Eq.trans (e_f8_1 F N Q (initE [a0] 0) Env.nil L) (by kernel_rfl : _ = D_f8_1 F N Q a0 L)) e)
def q_f9_1 (N : TN) : ACode := (.seq (.reg [⟨.l 2,none,.mv,[.c (.p none)]⟩,⟨.l 3,none,.mv,[.c (.i .i64 0)]⟩]) (.seq (.seq (.reg [oQ (4,.mv,[.l 0]),oQ (5,.bin .lss,[.t 4,.c (.i .i64 0)]),oQ (6,.mv,[.t 5]),gQ (7,6,false,.mv,[.l 0]),gQ (8,6,false,.bin .gtr,[.t 7,.c (.i .i64 64)]),oQ (9,.pick,[.t 6,.c (.b true),.t 8])]) (.cond (.t 9) (.seq (.reg [⟨.l 2,none,.mv,[.c (.p none)]⟩,⟨.l 3,none,.mv,[.c (.i .i64 1)]⟩]) .ret) .skip)) (.seq (.reg [oQ (10,.mv,[.l 0]),oQ (11,.mksl [.i .i64 0] 8,[.t 10,.t 10]),oQ (12,.build [.sl none 0 0 0,.i .i64 0,.i .i64 0] [(0,1)],[.t 11]),oQ (13,.box,[.t 12]),⟨.l 2,none,.mv,[.t 13]⟩,⟨.l 3,none,.mv,[.c (.i .i64 0)]⟩]) .ret)))
noncomputable def D_f9_1 (F:TF)(N:TN)(Q:TQ) (x0 : AV) (L : Lg) : Prop :=
 wpOp F (.bin .lss) [x0,(.i .i64 0)] L fun v1 L1=>
 gdOp F v1 false .mv [x0] L1 fun v2 L2=>
 gdOp F v1 false (.bin .gtr) [v2,(.i .i64 64)] L2 fun v3 L3=>
 wpOp F .pick [v1,(.b true),v3] L3 fun v4 L4=>
 condW v4
 (fin1 (some (.tup [(.p none),(.i .i64 1)])) Q L4)
 (wpOp F (.mksl [.i .i64 0] 8) [x0,x0] L4 fun v5 L5=>
 wpOp F (.build [.sl none 0 0 0,.i .i64 0,.i .i64 0] [(0,1)]) [v5] L5 fun v6 L6=>
 wpOp F .box [v6] L6 fun v7 L7=>
 fin1 (some (.tup [v7,(.i .i64 0)])) Q L7)
theorem e_f9_1 (F:TF)(N:TN)(Q:TQ) (l t : Env) (L : Lg) : wp F (q_f9_1 N) l t L (fin [.tmp (.l 2),.tmp (.l 3)] Q) nE (fin [.tmp (.l 2),.tmp (.l 3)] Q) = D_f9_1 F N Q (l 0) L := by kernel_rfl
def c_f9 (N : TN) : AFn := ⟨q_f9_1 N,[.tmp (.l 2),.tmp (.l 3)]⟩
structure H_f9 (N : TN) (F : TF) : Prop where
  code : F (N k_f9) = some (c_f9 N)
theorem r_f9 {F : TF} {N : TN} (h : F (N k_f9) = some (c_f9 N)) {Q : TQ} {a0 : AV} {L : Lg} (e : D_f9_1 F N Q a0 L) : CallL F (N k_f9) [a0] L Q :=
  CallL.of_wp h (Eq.mpr (Eq.trans (e_f9_1 F N Q (initE [a0] 0) Env.nil L) (by kernel_rfl : _ = D_f9_1 F N Q a0 L)) e)
def q_f10_1 (N : TN) : ACode := (.seq (.reg [⟨.l 4,none,.mv,[.c (.i .i64 0)]⟩]) (.seq (.reg [oQ (5,.mv,[.l 0]),oQ (6,.mv,[.l 1]),oQ (7,.bin .rem,[.t 5,.t 6]),oQ (8,.mv,[.l 1]),oQ (9,.bin .add,[.t 7,.t 8]),oQ (10,.mv,[.l 1]),oQ (11,.bin .rem,[.t 9,.t 10]),⟨.l 4,none,.mv,[.t 11]⟩]) .ret))
def c_f10 (N : TN) : AFn := ⟨q_f10_1 N,[.tmp (.l 4)]⟩
structure H_f10 (N : TN) (F : TF) : Prop where
  code : F (N k_f10) = some (c_f10 N)
def q_f11_2 (N : TN) : ACode := (.seq (.seq (.reg [oQ (26,.mv,[.l 1]),oQ (27,.nilchk,[.t 26]),oQ (28,.fad 4,[.t 27]),oQ (29,.ld none,[.t 28]),oQ (30,.eq false .ptr,[.t 29,.c (.p none)])]) (.cond (.t 30) (.reg [oQ (31,.mv,[.l 0]),oQ (32,.mv,[.l 1]),oQ (33,.nilchk,[.t 32]),oQ (34,.fad 3,[.t 33]),oQ (35,.ld none,[.t 34]),oQ (36,.nilchk,[.t 31]),oQ (37,.fad 1,[.t 36]),⟨.no,none,.st 1,[.t 37,.t 35]⟩]) (.reg [oQ (38,.mv,[.l 1]),oQ (39,.nilchk,[.t 38]),oQ (40,.fad 4,[.t 39]),oQ (41,.ld none,[.t 40]),oQ (42,.mv,[.l 1]),oQ (43,.nilchk,[.t 42]),oQ (44,.fad 3,[.t 43]),oQ (45,.ld none,[.t 44]),oQ (46,.nilchk,[.t 41]),oQ (47,.fad 3,[.t 46]),⟨.no,none,.st 1,[.t 47,.t 45]⟩]))) (.reg [oQ (48,.mv,[.l 0]),oQ (49,.nilchk,[.t 48]),oQ (50,.fad 2,[.t 49]),oQ (51,.ld none,[.t 50]),oQ (52,.bin .sub,[.t 51,.c (.i .i64 1)]),oQ (53,.nilchk,[.t 48]),oQ (54,.fad 2,[.t 53]),⟨.no,none,.st 1,[.t 54,.t 52]⟩]))
noncomputable def D_f11_2 (F:TF)(N:TN)(Q:TQ) (x0 x1:AV) (L : Lg) : Prop :=
 wpOp F .nilchk [x1] L fun v1 L1=>
 wpOp F (.fad 4) [v1] L1 fun v2 L2=>
 wpOp F (.ld none) [v2] L2 fun v3 L3=>
 wpOp F (.eq false .ptr) [v3,(.p none)] L3 fun v4 L4=>
 condW v4
 (wpOp F .nilchk [x1] L4 fun v5 L5=>
 wpOp F (.fad 3) [v5] L5 fun v6 L6=>
 wpOp F (.ld none) [v6] L6 fun v7 L7=>
 wpOp F .nilchk [x0] L7 fun v8 L8=>
 wpOp F (.fad 1) [v8] L8 fun v9 L9=>
 wpOp F (.st 1) [v9,v7] L9 fun _ L10=>
 wpOp F .nilchk [x0] L10 fun v11 L11=>
 wpOp F (.fad 2) [v11] L11 fun v12 L12=>
 wpOp F (.ld none) [v12] L12 fun v13 L13=>
 wpOp F (.bin .sub) [v13,(.i .i64 1)] L13 fun v14 L14=>
 wpOp F .nilchk [x0] L14 fun v15 L15=>
 wpOp F (.fad 2) [v15] L15 fun v16 L16=>
 wpOp F (.st 1) [v16,v14] L16 fun _ L17=>
 fin1 (some (.tup [])) Q L17)
 (wpOp F .nilchk [x1] L4 fun v18 L18=>
 wpOp F (.fad 4) [v18] L18 fun v19 L19=>
 wpOp F (.ld none) [v19] L19 fun v20 L20=>
 wpOp F .nilchk [x1] L20 fun v21 L21=>
 wpOp F (.fad 3) [v21] L21 fun v22 L22=>
 wpOp F (.ld none) [v22] L22 fun v23 L23=>
 wpOp F .nilchk [v20] L23 fun v24 L24=>
 wpOp F (.fad 3) [v24] L24 fun v25 L25=>
 wpOp F (.st 1) [v25,v23] L25 fun _ L26=>
 wpOp F .nilchk [x0] L26 fun v27 L27=>
 wpOp F (.fad 2) [v27] L27 fun v28 L28=>
 wpOp F (.ld none) [v28] L28 fun v29 L29=>
 wpOp F (.bin .sub) [v29,(.i .i64 1)] L29 fun v30 L30=>
 wpOp F .nilchk [x0] L30 fun v31 L31=>
 wpOp F (.fad 2) [v31] L31 fun v32 L32=>
 wpOp F (.st 1) [v32,v30] L32 fun _ L33=>
 fin1 (some (.tup [])) Q L33)
theorem e_f11_2 (F:TF)(N:TN)(Q:TQ) (l t : Env) (L : Lg) : wp F (q_f11_2 N) l t L (fin [] Q) nE (fin [] Q) = D_f11_2 F N Q (l 0) (l 1) L := by kernel_rfl
def q_f11_1a (N : TN) : ACode := (.seq (.reg [oQ (4,.mv,[.l 1]),oQ (5,.nilchk,[.t 4]),oQ (6,.fad 3,[.t 5]),oQ (7,.ld none,[.t 6]),oQ (8,.eq false .ptr,[.t 7,.c (.p none)])]) (.cond (.t 8) (.reg [oQ (9,.mv,[.l 0]),oQ (10,.mv,[.l 1]),oQ (11,.nilchk,[.t 10]),oQ (12,.fad 4,[.t 11]),oQ (13,.ld none,[.t 12]),oQ (14,.nilchk,[.t 9]),oQ (15,.fad 0,[.t 14]),⟨.no,none,.st 1,[.t 15,.t 13]⟩]) (.reg [oQ (16,.mv,[.l 1]),oQ (17,.nilchk,[.t 16]),oQ (18,.fad 3,[.t 17]),oQ (19,.ld none,[.t 18]),oQ (20,.mv,[.l 1]),oQ (21,.nilchk,[.t 20]),oQ (22,.fad 4,[.t 21]),oQ (23,.ld none,[.t 22]),oQ (24,.nilchk,[.t 19]),oQ (25,.fad 4,[.t 24]),⟨.no,none,.st 1,[.t 25,.t 23]⟩])))
def q_f11_1 (N : TN) : ACode := (.seq (q_f11_1a N) (q_f11_2 N))
noncomputable def D_f11_1 (F:TF)(N:TN)(Q:TQ) (x0 x1:AV) (L : Lg) : Prop :=
 wpOp F .nilchk [x1] L fun v1 L1=>
 wpOp F (.fad 3) [v1] L1 fun v2 L2=>
 wpOp F (.ld none) [v2] L2 fun v3 L3=>
 wpOp F (.eq false .ptr) [v3,(.p none)] L3 fun v4 L4=>
 condW v4
 (wpOp F .nilchk [x1] L4 fun v5 L5=>
 wpOp F (.fad 4) [v5] L5 fun v6 L6=>
 wpOp F (.ld none) [v6] L6 fun v7 L7=>
 wpOp F .nilchk [x0] L7 fun v8 L8=>
 wpOp F (.fad 0) [v8] L8 fun v9 L9=>
 wpOp F (.st 1) [v9,v7] L9 fun _ L10=>
 D_f11_2 F N Q x0 x1 L10)
 (wpOp F .nilchk [x1] L4 fun v11 L11=>
 wpOp F (.fad 3) [v11] L11 fun v12 L12=>
 wpOp F (.ld none) [v12] L12 fun v13 L13=>
 wpOp F .nilchk [x1] L13 fun v14 L14=>
 wpOp F (.fad 4) [v14] L14 fun v15 L15=>
 wpOp F (.ld none) [v15] L15 fun v16 L16=>
 wpOp F .nilchk [v13] L16 fun v17 L17=>
 wpOp F (.fad 4) [v17] L17 fun v18 L18=>
 wpOp F (.st 1) [v18,v16] L18 fun _ L19=>
 D_f11_2 F N Q x0 x1 L19)
theorem e_f11_1 (F:TF)(N:TN)(Q:TQ) (l t : Env) (L : Lg) : wp F (q_f11_1 N) l t L (fin [] Q) nE (fin [] Q) = D_f11_1 F N Q (l 0) (l 1) L := wpS (e_f11_2 F N Q) (by kernel_rfl)
def c_f11 (N : TN) : AFn := ⟨q_f11_1 N,[]⟩
structure H_f11 (N : TN) (F : TF) : Prop where
  code : F (N k_f11) = some (c_f11 N)
theorem r_f11 {F : TF} {N : TN} (h : F (N k_f11) = some (c_f11 N)) {Q : TQ} {a0 a1 : AV} {L : Lg} (e : D_f11_1 F N Q a0 a1 L) : CallL F (N k_f11) [a0,a1] L Q :=
  CallL.of_wp h (Eq.mpr (Eq.trans (e_f11_1 F N Q (initE [a0,a1] 0) Env.nil L) (by kernel_rfl : _ = D_f11_1 F N Q a0 a1 L)) e)
def q_f12_4 (N : TN) : ACode := (.seq (.reg [oQ (33,.build [.i .i64 0,.i .i64 0,.i .i64 0] [],[]),⟨.no,none,.st 3,[.l 4,.t 33]⟩,⟨.l 5,none,.mv,[.c (.b false)]⟩]) .ret)
noncomputable def D_f12_4 (F:TF)(N:TN)(Q:TQ) (x4 : AV) (L : Lg) : Prop :=
 wpOp F (.build [.i .i64 0,.i .i64 0,.i .i64 0] []) [] L fun v1 L1=>
 wpOp F (.st 3) [x4,v1] L1 fun _ L2=>
 fin1 (resVL Env.nil Env.nil L2 [.cell (.c x4) (some 3),.tmp (.c (.b false))]) Q L2
theorem e_f12_4 (F:TF)(N:TN)(Q:TQ) (l t : Env) (L : Lg) : wp F (q_f12_4 N) l t L (fin [.cell (.l 4) (some 3),.tmp (.l 5)] Q) nE (fin [.cell (.l 4) (some 3),.tmp (.l 5)] Q) = D_f12_4 F N Q (l 4) L := by kernel_rfl
def w_f12_3 (F:TF)(N:TN)(Q:TQ) : Kn := (fun (l t : Env) (L : Lg) => D_f12_4 F N Q (l 4) L)
def y_f12_6 (F:TF)(N:TN)(Q:TQ) : Nat → Kn := (fun (j : Nat) (l t : Env) (L : Lg) => bif Nat.beq j 0 then (w_f12_3 F N Q) l t L else nE j l t L)
def q_f12_8 (N : TN) : ACode := (.seq (.seq (.reg [oQ (14,.mv,[.l 6]),oQ (15,.eq true .ptr,[.t 14,.c (.p none)])]) (.cond (.t 15) .skip (.exit 0))) (.seq (.block 1 (.seq (.reg [oQ (20,.mv,[.l 1]),oQ (21,.mv,[.l 6]),oQ (22,.nilchk,[.t 21]),oQ (23,.fad 0,[.t 22]),oQ (24,.ld (some 3),[.t 23]),oQ (25,.callv,[.t 20,.t 24])]) (.cond (.t 25) (.seq (.reg [oQ (26,.mv,[.l 0]),oQ (27,.mv,[.l 6]),oQ (28,.call (N k_f11),[.t 26,.t 27])]) (.seq (.reg [oQ (29,.mv,[.l 6]),oQ (30,.nilchk,[.t 29]),oQ (31,.fad 0,[.t 30]),oQ (32,.ld (some 3),[.t 31]),⟨.no,none,.st 3,[.l 4,.t 32]⟩,⟨.l 5,none,.mv,[.c (.b true)]⟩]) .ret)) .skip))) (.reg [oQ (16,.mv,[.l 6]),oQ (17,.nilchk,[.t 16]),oQ (18,.fad 4,[.t 17]),oQ (19,.ld none,[.t 18]),⟨.l 6,none,.mv,[.t 19]⟩])))
noncomputable def D_f12_8 (F:TF)(N:TN)(Q:TQ) (k1 : TK) (l : Env) (L : Lg) : Prop :=
 wpOp F (.eq true .ptr) [(l 6),(.p none)] L fun v1 L1=>
 condW v1
 (wpOp F .nilchk [(l 6)] L1 fun v2 L2=>
 wpOp F (.fad 0) [v2] L2 fun v3 L3=>
 wpOp F (.ld (some 3)) [v3] L3 fun v4 L4=>
 wpOp F .callv [(l 1),v4] L4 fun v5 L5=>
 condW v5
 (CallL F (N k_f11) [(l 0),(l 6)] L5 fun v6 L6=>
 wpOp F .nilchk [(l 6)] L6 fun v7 L7=>
 wpOp F (.fad 0) [v7] L7 fun v8 L8=>
 wpOp F (.ld (some 3)) [v8] L8 fun v9 L9=>
 wpOp F (.st 3) [(l 4),v9] L9 fun _ L10=>
 fin1 (resVL Env.nil Env.nil L10 [.cell (.c (l 4)) (some 3),.tmp (.c (.b true))]) Q L10)
 (wpOp F .nilchk [(l 6)] L5 fun v11 L11=>
 wpOp F (.fad 4) [v11] L11 fun v12 L12=>
 wpOp F (.ld none) [v12] L12 fun v13 L13=>
 k1 (Env.put l 6 v13) L13))
 (D_f12_4 F N Q (l 4) L1)
theorem e_f12_8 (F:TF)(N:TN)(Q:TQ) (k1 : TK) (l t : Env) (L : Lg) : wp F (q_f12_8 N) l t L (fun (l _ : Env) (L : Lg) => k1 l L) (y_f12_6 F N Q) (fin [.cell (.l 4) (some 3),.tmp (.l 5)] Q) = D_f12_8 F N Q k1 l L := by kernel_rfl
def q_f12_7 (N : TN) : ACode := (.loop (q_f12_8 N))
noncomputable def D_f12_7 (F:TF)(N:TN)(Q:TQ) (l : Env) (L : Lg) : Prop :=
 loopW (fun l t L k1 => D_f12_8 F N Q k1 l L) l L
theorem e_f12_7 (F:TF)(N:TN)(Q:TQ) (l t : Env) (L : Lg) : wp F (q_f12_7 N) l t L (w_f12_3 F N Q) (y_f12_6 F N Q) (fin [.cell (.l 4) (some 3),.tmp (.l 5)] Q) = D_f12_7 F N Q l L := wpL (fun l t L k1 => e_f12_8 F N Q k1 l t L) (by kernel_rfl)
def q_f12_6 (N : TN) : ACode := (.block 0 (q_f12_7 N))
theorem e_f12_6 (F:TF)(N:TN)(Q:TQ) (l t : Env) (L : Lg) : wp F (q_f12_6 N) l t L (w_f12_3 F N Q) nE (fin [.cell (.l 4) (some 3),.tmp (.l 5)] Q) = D_f12_7 F N Q l L := wpB (e_f12_7 F N Q l t L)
def q_f12_5a (N : TN) : ACode := (.reg [oQ (10,.mv,[.l 0]),oQ (11,.nilchk,[.t 10]),oQ (12,.fad 0,[.t 11]),oQ (13,.ld none,[.t 12]),⟨.l 6,none,.mv,[.t 13]⟩])
def q_f12_5 (N : TN) : ACode := (.seq (q_f12_5a N) (q_f12_6 N))
noncomputable def D_f12_5 (F:TF)(N:TN)(Q:TQ) (l : Env) (L : Lg) : Prop :=
 wpOp F .nilchk [(l 0)] L fun v1 L1=>
 wpOp F (.fad 0) [v1] L1 fun v2 L2=>
 wpOp F (.ld none) [v2] L2 fun v3 L3=>
 D_f12_7 F N Q (Env.put l 6 v3) L3
theorem e_f12_5 (F:TF)(N:TN)(Q:TQ) (l t : Env) (L : Lg) : wp F (q_f12_5 N) l t L (w_f12_3 F N Q) nE (fin [.cell (.l 4) (some 3),.tmp (.l 5)] Q) = D_f12_5 F N Q l L := wpS (e_f12_6 F N Q) (by kernel_rfl)
def q_f12_3 (N : TN) : ACode := (.seq (q_f12_5 N) (q_f12_4 N))
theorem e_f12_3 (F:TF)(N:TN)(Q:TQ) (l t : Env) (L : Lg) : wp F (q_f12_3 N) l t L (fin [.cell (.l 4) (some 3),.tmp (.l 5)] Q) nE (fin [.cell (.l 4) (some 3),.tmp (.l 5)] Q) = D_f12_5 F N Q l L := wpS (e_f12_4 F N Q) (e_f12_5 F N Q l t L)
def q_f12_2a (N : TN) : ACode := (.seq (.reg [oQ (7,.mv,[.l 0]),oQ (8,.eq false .ptr,[.t 7,.c (.p none)])]) (.cond (.t 8) (.seq (.reg [oQ (9,.build [.i .i64 0,.i .i64 0,.i .i64 0] [],[]),⟨.no,none,.st 3,[.l 4,.t 9]⟩,⟨.l 5,none,.mv,[.c (.b false)]⟩]) .ret) .skip))
def q_f12_2 (N : TN) : ACode := (.seq (q_f12_2a N) (q_f12_3 N))
noncomputable def D_f12_2 (F:TF)(N:TN)(Q:TQ) (l : Env) (L : Lg) : Prop :=
 wpOp F (.eq false .ptr) [(l 0),(.p none)] L fun v1 L1=>
 condW v1
 (wpOp F (.build [.i .i64 0,.i .i64 0,.i .i64 0] []) [] L1 fun v2 L2=>
 wpOp F (.st 3) [(l 4),v2] L2 fun _ L3=>
 fin1 (resVL Env.nil Env.nil L3 [.cell (.c (l 4)) (some 3),.tmp (.c (.b false))]) Q L3)
 (D_f12_5 F N Q l L1)
theorem e_f12_2 (F:TF)(N:TN)(Q:TQ) (l t : Env) (L : Lg) : wp F (q_f12_2 N) l t L (fin [.cell (.l 4) (some 3),.tmp (.l 5)] Q) nE (fin [.cell (.l 4) (some 3),.tmp (.l 5)] Q) = D_f12_2 F N Q l L := wpS (e_f12_3 F N Q) (by kernel_rfl)
def q_f12_1a (N : TN) : ACode := (.reg [⟨.l 4,none,.alloc [.i .i64 0,.i .i64 0,.i .i64 0],[]⟩,⟨.l 5,none,.mv,[.c (.b false)]⟩])
def q_f12_1 (N : TN) : ACode := (.seq (q_f12_1a N) (q_f12_2 N))
noncomputable def D_f12_1 (F:TF)(N:TN)(Q:TQ) (l : Env) (L : Lg) : Prop :=
 wpOp F (.alloc [.i .i64 0,.i .i64 0,.i .i64 0]) [] L fun v1 L1=>
 D_f12_2 F N Q (Env.put (Env.put l 4 v1) 5 (.b false)) L1
theorem e_f12_1 (F:TF)(N:TN)(Q:TQ) (l t : Env) (L : Lg) : wp F (q_f12_1 N) l t L (fin [.cell (.l 4) (some 3),.tmp (.l 5)] Q) nE (fin [.cell (.l 4) (some 3),.tmp (.l 5)] Q) = D_f12_1 F N Q l L := wpS (e_f12_2 F N Q) (by kernel_rfl)
def c_f12 (N : TN) : AFn := ⟨q_f12_1 N,[.cell (.l 4) (some 3),.tmp (.l 5)]⟩
structure H_f12 (N : TN) (F : TF) : Prop where
  code : F (N k_f12) = some (c_f12 N)
  f11 : H_f11 N F
theorem r_f12 {F : TF} {N : TN} (h : F (N k_f12) = some (c_f12 N)) {Q : TQ} {a0 a1 : AV} {L : Lg} (e : D_f12_1 F N Q (initE [a0,a1] 0) L) : CallL F (N k_f12) [a0,a1] L Q :=
  CallL.of_wp h (Eq.mpr (Eq.trans (e_f12_1 F N Q (initE [a0,a1] 0) Env.nil L) (by kernel_rfl : _ = D_f12_1 F N Q (initE [a0,a1] 0) L)) e)
def q_f13_1 (N : TN) : ACode := (.seq (.reg [oQ (1,.box,[.l 0]),⟨.l 2,none,.mv,[.c (.b false)]⟩]) (.seq (.reg [⟨.l 2,none,.mv,[.c (.b true)]⟩]) .ret))
noncomputable def D_f13_1 (F:TF)(N:TN)(Q:TQ) (x0 : AV) (L : Lg) : Prop :=
 wpOp F .box [x0] L fun v1 L1=>
 fin1 (some (.b true)) Q L1
theorem e_f13_1 (F:TF)(N:TN)(Q:TQ) (l t : Env) (L : Lg) : wp F (q_f13_1 N) l t L (fin [.tmp (.l 2)] Q) nE (fin [.tmp (.l 2)] Q) = D_f13_1 F N Q (l 0) L := by kernel_rfl
def c_f13 (N : TN) : AFn := ⟨q_f13_1 N,[.tmp (.l 2)]⟩
structure H_f13 (N : TN) (F : TF) : Prop where
  code : F (N k_f13) = some (c_f13 N)
theorem r_f13 {F : TF} {N : TN} (h : F (N k_f13) = some (c_f13 N)) {Q : TQ} {a0 : AV} {L : Lg} (e : D_f13_1 F N Q a0 L) : CallL F (N k_f13) [a0] L Q :=
  CallL.of_wp h (Eq.mpr (Eq.trans (e_f13_1 F N Q (initE [a0] 0) Env.nil L) (by kernel_rfl : _ = D_f13_1 F N Q a0 L)) e)
def q_f13 (N : TN) : ACode := (.seq (.reg [⟨.l 2,none,.alloc [.i .i64 0,.i .i64 0,.i .i64 0],[]⟩,⟨.l 3,none,.mv,[.c (.b false)]⟩]) (.seq (.reg [oQ (4,.mv,[.l 0]),oQ (5,.call (N k_f12),[.t 4,.c (.fn (N k_f13) [] [])]),oQ (6,.ext 0,[.t 5]),oQ (7,.ext 1,[.t 5]),⟨.no,none,.st 3,[.l 2,.t 6]⟩,⟨.l 3,none,.mv,[.t 7]⟩]) .ret))
noncomputable def D_f13 (F:TF)(N:TN)(Q:TQ) (x0 : AV) (L : Lg) : Prop :=
 wpOp F (.alloc [.i .i64 0,.i .i64 0,.i .i64 0]) [] L fun v1 L1=>
 CallL F (N k_f12) [x0,(.fn (N k_f13) [] [])] L1 fun v2 L2=>
 wpOp F (.ext 0) [v2] L2 fun v3 L3=>
 wpOp F (.ext 1) [v2] L3 fun v4 L4=>
 wpOp F (.st 3) [v1,v3] L4 fun _ L5=>
 fin1 (resVL Env.nil Env.nil L5 [.cell (.c v1) (some 3),.tmp (.c v4)]) Q L5
theorem e_f13 (F:TF)(N:TN)(Q:TQ) (l t : Env) (L : Lg) : wp F (q_f13 N) l t L (fin [.cell (.l 2) (some 3),.tmp (.l 3)] Q) nE (fin [.cell (.l 2) (some 3),.tmp (.l 3)] Q) = D_f13 F N Q (l 0) L := by kernel_rfl
def c_f14 (N : TN) : AFn := ⟨q_f13 N,[.cell (.l 2) (some 3),.tmp (.l 3)]⟩
structure H_f14 (N : TN) (F : TF) : Prop where
  code : F (N k_f14) = some (c_f14 N)
  f12 : H_f12 N F
  f13 : H_f13 N F
theorem r_f14 {F : TF} {N : TN} (h : F (N k_f14) = some (c_f14 N)) {Q : TQ} {a0 : AV} {L : Lg} (e : D_f13 F N Q a0 L) : CallL F (N k_f14) [a0] L Q :=
  CallL.of_wp h (Eq.mpr (Eq.trans (e_f13 F N Q (initE [a0] 0) Env.nil L) (by kernel_rfl : _ = D_f13 F N Q a0 L)) e)
def q_f15_4 (N : TN) : ACode := (.seq (.reg [oQ (23,.mv,[.l 2]),⟨.l 2,none,.mv,[.t 23]⟩]) .ret)
noncomputable def D_f15_4 (F:TF)(N:TN)(Q:TQ) (x2 : AV) (L : Lg) : Prop :=
 fin1 (some x2) Q L
theorem e_f15_4 (F:TF)(N:TN)(Q:TQ) (l t : Env) (L : Lg) : wp F (q_f15_4 N) l t L (fin [.tmp (.l 2)] Q) nE (fin [.tmp (.l 2)] Q) = D_f15_4 F N Q (l 2) L := by kernel_rfl
def w_f15_3 (F:TF)(N:TN)(Q:TQ) : Kn := (fun (l t : Env) (L : Lg) => D_f15_4 F N Q (l 2) L)
def y_f15_6 (F:TF)(N:TN)(Q:TQ) : Nat → Kn := (fun (j : Nat) (l t : Env) (L : Lg) => bif Nat.beq j 0 then (w_f15_3 F N Q) l t L else nE j l t L)
def q_f15_8 (N : TN) : ACode := (.seq (.seq (.reg [oQ (10,.mv,[.l 3]),oQ (11,.eq true .ptr,[.t 10,.c (.p none)])]) (.cond (.t 11) .skip (.exit 0))) (.seq (.block 1 (.reg [oQ (16,.mv,[.l 2]),oQ (17,.mv,[.l 3]),oQ (18,.nilchk,[.t 17]),oQ (19,.fad 0,[.t 18]),oQ (20,.ld (some 3),[.t 19]),oQ (21,.bslice [.i .i64 0,.i .i64 0,.i .i64 0] 1 3 [0],[.t 20]),oQ (22,.app 3 24,[.t 16,.t 21]),⟨.l 2,none,.mv,[.t 22]⟩])) (.reg [oQ (12,.mv,[.l 3]),oQ (13,.nilchk,[.t 12]),oQ (14,.fad 4,[.t 13]),oQ (15,.ld none,[.t 14]),⟨.l 3,none,.mv,[.t 15]⟩])))
noncomputable def D_f15_8 (F:TF)(N:TN)(Q:TQ) (k1 : TK) (l : Env) (L : Lg) : Prop :=
 wpOp F (.eq true .ptr) [(l 3),(.p none)] L fun v1 L1=>
 condW v1
 (wpOp F .nilchk [(l 3)] L1 fun v2 L2=>
 wpOp F (.fad 0) [v2] L2 fun v3 L3=>
 wpOp F (.ld (some 3)) [v3] L3 fun v4 L4=>
 wpOp F (.bslice [.i .i64 0,.i .i64 0,.i .i64 0] 1 3 [0]) [v4] L4 fun v5 L5=>
 wpOp F (.app 3 24) [(l 2),v5] L5 fun v6 L6=>
 wpOp F .nilchk [(l 3)] L6 fun v7 L7=>
 wpOp F (.fad 4) [v7] L7 fun v8 L8=>
 wpOp F (.ld none) [v8] L8 fun v9 L9=>
 k1 (Env.put (Env.put l 2 v6) 3 v9) L9)
 (D_f15_4 F N Q (l 2) L1)
theorem e_f15_8 (F:TF)(N:TN)(Q:TQ) (k1 : TK) (l t : Env) (L : Lg) : wp F (q_f15_8 N) l t L (fun (l _ : Env) (L : Lg) => k1 l L) (y_f15_6 F N Q) (fin [.tmp (.l 2)] Q) = D_f15_8 F N Q k1 l L := by kernel_rfl
def q_f15_7 (N : TN) : ACode := (.loop (q_f15_8 N))
noncomputable def D_f15_7 (F:TF)(N:TN)(Q:TQ) (l : Env) (L : Lg) : Prop :=
 loopW (fun l t L k1 => D_f15_8 F N Q k1 l L) l L
theorem e_f15_7 (F:TF)(N:TN)(Q:TQ) (l t : Env) (L : Lg) : wp F (q_f15_7 N) l t L (w_f15_3 F N Q) (y_f15_6 F N Q) (fin [.tmp (.l 2)] Q) = D_f15_7 F N Q l L := wpL (fun l t L k1 => e_f15_8 F N Q k1 l t L) (by kernel_rfl)
def q_f15_6 (N : TN) : ACode := (.block 0 (q_f15_7 N))
theorem e_f15_6 (F:TF)(N:TN)(Q:TQ) (l t : Env) (L : Lg) : wp F (q_f15_6 N) l t L (w_f15_3 F N Q) nE (fin [.tmp (.l 2)] Q) = D_f15_7 F N Q l L := wpB (e_f15_7 F N Q l t L)
def q_f15_5a (N : TN) : ACode := (.reg [oQ (6,.mv,[.l 0]),oQ (7,.nilchk,[.t 6]),oQ (8,.fad 0,[.t 7]),oQ (9,.ld none,[.t 8]),⟨.l 3,none,.mv,[.t 9]⟩])
def q_f15_5 (N : TN) : ACode := (.seq (q_f15_5a N) (q_f15_6 N))
noncomputable def D_f15_5 (F:TF)(N:TN)(Q:TQ) (l : Env) (L : Lg) : Prop :=
 wpOp F .nilchk [(l 0)] L fun v1 L1=>
 wpOp F (.fad 0) [v1] L1 fun v2 L2=>
 wpOp F (.ld none) [v2] L2 fun v3 L3=>
 D_f15_7 F N Q (Env.put l 3 v3) L3
theorem e_f15_5 (F:TF)(N:TN)(Q:TQ) (l t : Env) (L : Lg) : wp F (q_f15_5 N) l t L (w_f15_3 F N Q) nE (fin [.tmp (.l 2)] Q) = D_f15_5 F N Q l L := wpS (e_f15_6 F N Q) (by kernel_rfl)
def q_f15_3 (N : TN) : ACode := (.seq (q_f15_5 N) (q_f15_4 N))
theorem e_f15_3 (F:TF)(N:TN)(Q:TQ) (l t : Env) (L : Lg) : wp F (q_f15_3 N) l t L (fin [.tmp (.l 2)] Q) nE (fin [.tmp (.l 2)] Q) = D_f15_5 F N Q l L := wpS (e_f15_4 F N Q) (e_f15_5 F N Q l t L)
def q_f15_2a (N : TN) : ACode := (.seq (.reg [oQ (4,.mv,[.l 0]),oQ (5,.eq false .ptr,[.t 4,.c (.p none)])]) (.cond (.t 5) (.seq (.reg [⟨.l 2,none,.mv,[.c (.sl none 0 0 0)]⟩]) .ret) .skip))
def q_f15_2 (N : TN) : ACode := (.seq (q_f15_2a N) (q_f15_3 N))
noncomputable def D_f15_2 (F:TF)(N:TN)(Q:TQ) (l : Env) (L : Lg) : Prop :=
 wpOp F (.eq false .ptr) [(l 0),(.p none)] L fun v1 L1=>
 condW v1
 (fin1 (some (.sl none 0 0 0)) Q L1)
 (D_f15_5 F N Q l L1)
theorem e_f15_2 (F:TF)(N:TN)(Q:TQ) (l t : Env) (L : Lg) : wp F (q_f15_2 N) l t L (fin [.tmp (.l 2)] Q) nE (fin [.tmp (.l 2)] Q) = D_f15_2 F N Q l L := wpS (e_f15_3 F N Q) (by kernel_rfl)
def q_f15_1a (N : TN) : ACode := (.reg [⟨.l 2,none,.mv,[.c (.sl none 0 0 0)]⟩])
def q_f15_1 (N : TN) : ACode := (.seq (q_f15_1a N) (q_f15_2 N))
noncomputable def D_f15_1 (F:TF)(N:TN)(Q:TQ) (l : Env) (L : Lg) : Prop :=
 D_f15_2 F N Q (Env.put l 2 (.sl none 0 0 0)) L
theorem e_f15_1 (F:TF)(N:TN)(Q:TQ) (l t : Env) (L : Lg) : wp F (q_f15_1 N) l t L (fin [.tmp (.l 2)] Q) nE (fin [.tmp (.l 2)] Q) = D_f15_1 F N Q l L := wpS (e_f15_2 F N Q) (by kernel_rfl)
def c_f15 (N : TN) : AFn := ⟨q_f15_1 N,[.tmp (.l 2)]⟩
structure H_f15 (N : TN) (F : TF) : Prop where
  code : F (N k_f15) = some (c_f15 N)
theorem r_f15 {F : TF} {N : TN} (h : F (N k_f15) = some (c_f15 N)) {Q : TQ} {a0 : AV} {L : Lg} (e : D_f15_1 F N Q (initE [a0] 0) L) : CallL F (N k_f15) [a0] L Q :=
  CallL.of_wp h (Eq.mpr (Eq.trans (e_f15_1 F N Q (initE [a0] 0) Env.nil L) (by kernel_rfl : _ = D_f15_1 F N Q (initE [a0] 0) L)) e)
def q_f16_5 (N : TN) : ACode := (.seq (.reg [oQ (31,.mv,[.l 0]),oQ (32,.mv,[.l 5]),oQ (33,.nilchk,[.t 31]),oQ (34,.fad 1,[.t 33]),⟨.no,none,.st 1,[.t 34,.t 32]⟩]) (.seq (.reg [oQ (35,.mv,[.l 0]),oQ (36,.nilchk,[.t 35]),oQ (37,.fad 2,[.t 36]),oQ (38,.ld none,[.t 37]),oQ (39,.bin .add,[.t 38,.c (.i .i64 1)]),oQ (40,.nilchk,[.t 35]),oQ (41,.fad 2,[.t 40]),⟨.no,none,.st 1,[.t 41,.t 39]⟩]) (.seq (.reg [oQ (42,.mv,[.l 0]),oQ (43,.nilchk,[.t 42]),oQ (44,.fad 2,[.t 43]),oQ (45,.ld none,[.t 44]),⟨.l 4,none,.mv,[.t 45]⟩]) .ret)))
noncomputable def D_f16_5 (F:TF)(N:TN)(Q:TQ) (x0 x5:AV) (L : Lg) : Prop :=
 wpOp F .nilchk [x0] L fun v1 L1=>
 wpOp F (.fad 1) [v1] L1 fun v2 L2=>
 wpOp F (.st 1) [v2,x5] L2 fun _ L3=>
 wpOp F .nilchk [x0] L3 fun v4 L4=>
 wpOp F (.fad 2) [v4] L4 fun v5 L5=>
 wpOp F (.ld none) [v5] L5 fun v6 L6=>
 wpOp F (.bin .add) [v6,(.i .i64 1)] L6 fun v7 L7=>
 wpOp F .nilchk [x0] L7 fun v8 L8=>
 wpOp F (.fad 2) [v8] L8 fun v9 L9=>
 wpOp F (.st 1) [v9,v7] L9 fun _ L10=>
 wpOp F .nilchk [x0] L10 fun v11 L11=>
 wpOp F (.fad 2) [v11] L11 fun v12 L12=>
 wpOp F (.ld none) [v12] L12 fun v13 L13=>
 fin1 (some v13) Q L13
theorem e_f16_5 (F:TF)(N:TN)(Q:TQ) (l t : Env) (L : Lg) : wp F (q_f16_5 N) l t L (fin [.tmp (.l 4)] Q) nE (fin [.tmp (.l 4)] Q) = D_f16_5 F N Q (l 0) (l 5) L := by kernel_rfl
def q_f16_4a (N : TN) : ACode := (.seq (.reg [oQ (15,.mv,[.l 0]),oQ (16,.nilchk,[.t 15]),oQ (17,.fad 1,[.t 16]),oQ (18,.ld none,[.t 17]),oQ (19,.eq false .ptr,[.t 18,.c (.p none)])]) (.cond (.t 19) (.reg [oQ (20,.mv,[.l 0]),oQ (21,.mv,[.l 5]),oQ (22,.nilchk,[.t 20]),oQ (23,.fad 0,[.t 22]),⟨.no,none,.st 1,[.t 23,.t 21]⟩]) (.reg [oQ (24,.mv,[.l 0]),oQ (25,.nilchk,[.t 24]),oQ (26,.fad 1,[.t 25]),oQ (27,.ld none,[.t 26]),oQ (28,.mv,[.l 5]),oQ (29,.nilchk,[.t 27]),oQ (30,.fad 4,[.t 29]),⟨.no,none,.st 1,[.t 30,.t 28]⟩])))
def q_f16_4 (N : TN) : ACode := (.seq (q_f16_4a N) (q_f16_5 N))
noncomputable def D_f16_4 (F:TF)(N:TN)(Q:TQ) (x0 x5:AV) (L : Lg) : Prop :=
 wpOp F .nilchk [x0] L fun v1 L1=>
 wpOp F (.fad 1) [v1] L1 fun v2 L2=>
 wpOp F (.ld none) [v2] L2 fun v3 L3=>
 wpOp F (.eq false .ptr) [v3,(.p none)] L3 fun v4 L4=>
 condW v4
 (wpOp F .nilchk [x0] L4 fun v5 L5=>
 wpOp F (.fad 0) [v5] L5 fun v6 L6=>
 wpOp F (.st 1) [v6,x5] L6 fun _ L7=>
 D_f16_5 F N Q x0 x5 L7)
 (wpOp F .nilchk [x0] L4 fun v8 L8=>
 wpOp F (.fad 1) [v8] L8 fun v9 L9=>
 wpOp F (.ld none) [v9] L9 fun v10 L10=>
 wpOp F .nilchk [v10] L10 fun v11 L11=>
 wpOp F (.fad 4) [v11] L11 fun v12 L12=>
 wpOp F (.st 1) [v12,x5] L12 fun _ L13=>
 D_f16_5 F N Q x0 x5 L13)
theorem e_f16_4 (F:TF)(N:TN)(Q:TQ) (l t : Env) (L : Lg) : wp F (q_f16_4 N) l t L (fin [.tmp (.l 4)] Q) nE (fin [.tmp (.l 4)] Q) = D_f16_4 F N Q (l 0) (l 5) L := wpS (e_f16_5 F N Q) (by kernel_rfl)
def q_f16_3a (N : TN) : ACode := (.reg [oQ (8,.ld (some 3),[.l 3]),oQ (9,.mv,[.l 0]),oQ (10,.nilchk,[.t 9]),oQ (11,.fad 1,[.t 10]),oQ (12,.ld none,[.t 11]),oQ (13,.build [.i .i64 0,.i .i64 0,.i .i64 0,.p none,.p none] [(0,3),(3,1)],[.t 8,.t 12]),oQ (14,.box,[.t 13]),⟨.l 5,none,.mv,[.t 14]⟩])
def q_f16_3 (N : TN) : ACode := (.seq (q_f16_3a N) (q_f16_4 N))
noncomputable def D_f16_3 (F:TF)(N:TN)(Q:TQ) (x0 x3:AV) (L : Lg) : Prop :=
 wpOp F (.ld (some 3)) [x3] L fun v1 L1=>
 wpOp F .nilchk [x0] L1 fun v2 L2=>
 wpOp F (.fad 1) [v2] L2 fun v3 L3=>
 wpOp F (.ld none) [v3] L3 fun v4 L4=>
 wpOp F (.build [.i .i64 0,.i .i64 0,.i .i64 0,.p none,.p none] [(0,3),(3,1)]) [v1,v4] L4 fun v5 L5=>
 wpOp F .box [v5] L5 fun v6 L6=>
 D_f16_4 F N Q x0 v6 L6
theorem e_f16_3 (F:TF)(N:TN)(Q:TQ) (l t : Env) (L : Lg) : wp F (q_f16_3 N) l t L (fin [.tmp (.l 4)] Q) nE (fin [.tmp (.l 4)] Q) = D_f16_3 F N Q (l 0) (l 3) L := wpS (e_f16_4 F N Q) (by kernel_rfl)
def q_f16_2a (N : TN) : ACode := (.seq (.reg [oQ (6,.mv,[.l 0]),oQ (7,.eq false .ptr,[.t 6,.c (.p none)])]) (.cond (.t 7) (.seq (.reg [⟨.l 4,none,.mv,[.c (.i .i64 0)]⟩]) .ret) .skip))
def q_f16_2 (N : TN) : ACode := (.seq (q_f16_2a N) (q_f16_3 N))
noncomputable def D_f16_2 (F:TF)(N:TN)(Q:TQ) (x0 x3:AV) (L : Lg) : Prop :=
 wpOp F (.eq false .ptr) [x0,(.p none)] L fun v1 L1=>
 condW v1
 (fin1 (some (.i .i64 0)) Q L1)
 (D_f16_3 F N Q x0 x3 L1)
theorem e_f16_2 (F:TF)(N:TN)(Q:TQ) (l t : Env) (L : Lg) : wp F (q_f16_2 N) l t L (fin [.tmp (.l 4)] Q) nE (fin [.tmp (.l 4)] Q) = D_f16_2 F N Q (l 0) (l 3) L := wpS (e_f16_3 F N Q) (by kernel_rfl)
def q_f16_1a (N : TN) : ACode := (.reg [⟨.l 3,none,.box,[.l 1]⟩,⟨.l 4,none,.mv,[.c (.i .i64 0)]⟩])
def q_f16_1 (N : TN) : ACode := (.seq (q_f16_1a N) (q_f16_2 N))
noncomputable def D_f16_1 (F:TF)(N:TN)(Q:TQ) (x0 x1:AV) (L : Lg) : Prop :=
 wpOp F .box [x1] L fun v1 L1=>
 D_f16_2 F N Q x0 v1 L1
theorem e_f16_1 (F:TF)(N:TN)(Q:TQ) (l t : Env) (L : Lg) : wp F (q_f16_1 N) l t L (fin [.tmp (.l 4)] Q) nE (fin [.tmp (.l 4)] Q) = D_f16_1 F N Q (l 0) (l 1) L := wpS (e_f16_2 F N Q) (by kernel_rfl)
def c_f16 (N : TN) : AFn := ⟨q_f16_1 N,[.tmp (.l 4)]⟩
structure H_f16 (N : TN) (F : TF) : Prop where
  code : F (N k_f16) = some (c_f16 N)
theorem r_f16 {F : TF} {N : TN} (h : F (N k_f16) = some (c_f16 N)) {Q : TQ} {a0 a1 : AV} {L : Lg} (e : D_f16_1 F N Q a0 a1 L) : CallL F (N k_f16) [a0,a1] L Q :=
  CallL.of_wp h (Eq.mpr (Eq.trans (e_f16_1 F N Q (initE [a0,a1] 0) Env.nil L) (by kernel_rfl : _ = D_f16_1 F N Q a0 a1 L)) e)
def q_f17_1 (N : TN) : ACode := (.seq (.reg [⟨.l 2,none,.mv,[.c (.i .i64 0)]⟩]) (.seq (.seq (.reg [oQ (3,.mv,[.l 0]),oQ (4,.eq false .ptr,[.t 3,.c (.p none)])]) (.cond (.t 4) (.seq (.reg [⟨.l 2,none,.mv,[.c (.i .i64 0)]⟩]) .ret) .skip)) (.seq (.reg [oQ (5,.mv,[.l 0]),oQ (6,.nilchk,[.t 5]),oQ (7,.fad 2,[.t 6]),oQ (8,.ld none,[.t 7]),⟨.l 2,none,.mv,[.t 8]⟩]) .ret)))
noncomputable def D_f17_1 (F:TF)(N:TN)(Q:TQ) (x0 : AV) (L : Lg) : Prop :=
 wpOp F (.eq false .ptr) [x0,(.p none)] L fun v1 L1=>
 condW v1
 (fin1 (some (.i .i64 0)) Q L1)
 (wpOp F .nilchk [x0] L1 fun v2 L2=>
 wpOp F (.fad 2) [v2] L2 fun v3 L3=>
 wpOp F (.ld none) [v3] L3 fun v4 L4=>
 fin1 (some v4) Q L4)
theorem e_f17_1 (F:TF)(N:TN)(Q:TQ) (l t : Env) (L : Lg) : wp F (q_f17_1 N) l t L (fin [.tmp (.l 2)] Q) nE (fin [.tmp (.l 2)] Q) = D_f17_1 F N Q (l 0) L := by kernel_rfl
def c_f17 (N : TN) : AFn := ⟨q_f17_1 N,[.tmp (.l 2)]⟩
structure H_f17 (N : TN) (F : TF) : Prop where
  code : F (N k_f17) = some (c_f17 N)
theorem r_f17 {F : TF} {N : TN} (h : F (N k_f17) = some (c_f17 N)) {Q : TQ} {a0 : AV} {L : Lg} (e : D_f17_1 F N Q a0 L) : CallL F (N k_f17) [a0] L Q :=
  CallL.of_wp h (Eq.mpr (Eq.trans (e_f17_1 F N Q (initE [a0] 0) Env.nil L) (by kernel_rfl : _ = D_f17_1 F N Q a0 L)) e)
def q_f18_1 (N : TN) : ACode := (.seq (.reg [⟨.l 0,none,.mv,[.c (.p none)]⟩]) (.seq (.reg [oQ (1,.build [.p none,.p none,.i .i64 0] [],[]),oQ (2,.box,[.t 1]),⟨.l 0,none,.mv,[.t 2]⟩]) .ret))
noncomputable def D_f18_1 (F:TF)(N:TN)(Q:TQ) (L : Lg) : Prop :=
 wpOp F (.build [.p none,.p none,.i .i64 0] []) [] L fun v1 L1=>
 wpOp F .box [v1] L1 fun v2 L2=>
 fin1 (some v2) Q L2
theorem e_f18_1 (F:TF)(N:TN)(Q:TQ) (l t : Env) (L : Lg) : wp F (q_f18_1 N) l t L (fin [.tmp (.l 0)] Q) nE (fin [.tmp (.l 0)] Q) = D_f18_1 F N Q L := by kernel_rfl
def c_f18 (N : TN) : AFn := ⟨q_f18_1 N,[.tmp (.l 0)]⟩
structure H_f18 (N : TN) (F : TF) : Prop where
  code : F (N k_f18) = some (c_f18 N)
theorem r_f18 {F : TF} {N : TN} (h : F (N k_f18) = some (c_f18 N)) {Q : TQ} {L : Lg} (e : D_f18_1 F N Q L) : CallL F (N k_f18) [] L Q :=
  CallL.of_wp h (Eq.mpr (Eq.trans (e_f18_1 F N Q (initE [] 0) Env.nil L) (by kernel_rfl : _ = D_f18_1 F N Q L)) e)
end Go.AM

set_option linter.unusedVariables false
set_option linter.unusedSimpArgs false
namespace Go.AM
variable {N : Nat → Nat} {F : Nat → Option AFn}

def held (t : Int) : Int := min (max t (-4611686018427387904)) 4611686018427387904
theorem held_spec (h : H_f1 N F) (t : Int) (L : Lg) : CallL F (N k_f1) [.i .i64 t] L fun v L' => v = .i .i64 (held t) ∧ L' = L := by
  apply r_f1 h.code
  simp [D_f1_1]
  rfl
def clockAdd (t d : Int) : Int := held (held t + held d)
theorem held_bounds (t : Int) : -4611686018427387904 ≤ held t ∧ held t ≤ 4611686018427387904 := by unfold held; omega
theorem clockAdd_spec (h : H_f2 N F) (t d : Int) (L : Lg) : CallL F (N k_f2) [.i .i64 t,.i .i64 d] L fun v L' => v = .i .i64 (clockAdd t d) ∧ L' = L := by
  apply r_f2 h.code
  unfold D_f2_1
  refine (held_spec h.f1 _ _).mono ?_
  rintro _ _ ⟨rfl,rfl⟩
  refine (held_spec h.f1 _ _).mono ?_
  rintro _ _ ⟨rfl,rfl⟩
  have h1 := held_bounds t
  have h2 := held_bounds d
  have e4 : clockAdd t d = min (max (held t + held d) (-4611686018427387904)) 4611686018427387904 := rfl
  by_cases c1 : 0 < held d
  · have e2 : wr .i64 (4611686018427387904 - held d) = 4611686018427387904 - held d := wr_id (by omega) (by omega)
    have c2 : ¬ held d < 0 := by omega
    by_cases c3 : 4611686018427387904 - held d < held t
    · simp [c1,e2,c3,e4]; omega
    · have e1 : wr .i64 (held t + held d) = held t + held d := wr_id (by omega) (by omega)
      simp [c1,e2,c3,c2,e1,e4]; omega
  · by_cases c2 : held d < 0
    · have e3 : wr .i64 (-4611686018427387904 - held d) = -4611686018427387904 - held d := wr_id (by omega) (by omega)
      by_cases c3 : held t < -4611686018427387904 - held d
      · simp [c1,e3,c3,c2,e4]; omega
      · have e1 : wr .i64 (held t + held d) = held t + held d := wr_id (by omega) (by omega)
        simp [c1,e3,c3,c2,e1,e4]; omega
    · have e1 : wr .i64 (held t + held d) = held t + held d := wr_id (by omega) (by omega)
      simp [c1,c2,e1,e4]; omega

def clockNext (w p n : Int) : Int × Int :=
  if p < 1 ∨ min w n < 0 ∨ 4611686018427387904 < max w (max p n) then (0,1)
  else if n < w then (w,0) else (clockAdd n (p - (n - w).tmod p),0)
theorem clockNext_spec (h : H_f3 N F) (w p n : Int) (L : Lg) : CallL F (N k_f3) [.i .i64 w,.i .i64 p,.i .i64 n] L fun v L' => v = .tup [.i .i64 (clockNext w p n).1,.i .i64 (clockNext w p n).2] ∧ L' = L := by
  apply r_f3 h.code
  unfold D_f3_1 clockNext
  by_cases c1 : p < 1
  · simp [c1]
  by_cases c2 : min w n < 0
  · simp [c1,c2]
  by_cases c3 : 4611686018427387904 < max w (max p n)
  · simp [c1,c2,c3]
  by_cases c4 : n < w
  · simp [c1,c2,c3,c4]
  have hp : p ≠ 0 := by omega
  have e1 : wr .i64 (n - w) = n - w := wr_id (by omega) (by omega)
  have h3 : 0 ≤ (n - w).tmod p ∧ (n - w).tmod p < p := ⟨Int.tmod_nonneg _ (by omega),Int.tmod_lt_of_pos _ (by omega)⟩
  have e2 : wr .i64 (p - (n - w).tmod p) = p - (n - w).tmod p := wr_id (by omega) (by omega)
  simp [c1,c2,c3,c4,e1,e2,wp_rem _ _ _ _ _ _ hp]
  refine (clockAdd_spec h.f2 _ _ _).mono ?_
  rintro _ _ ⟨rfl,rfl⟩
  simp [c1,c2,c3,c4]
end Go.AM


