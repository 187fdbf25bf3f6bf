/- The texts GenB_p0 of a proof of TimerActs, merged. -/
import Derived.Test.YtijhjfpiglaleaaGreatTimerActsG2
import Derived.KernelRfl
set_option linter.unusedVariables false
set_option maxRecDepth 100000
namespace Go.AM
def k_f19 : Nat := 19
def k_f20 : Nat := 20
def k_f21 : Nat := 21
def k_f22 : Nat := 22
def k_f23 : Nat := 23
def k_f24 : Nat := 24
def k_f25 : Nat := 25
def k_f26 : Nat := 26
def k_f27 : Nat := 27
def k_f28 : Nat := 28
def k_f29 : Nat := 29
def k_f30 : Nat := 30
def k_f31 : Nat := 31
def k_f32 : Nat := 32
def k_f33 : Nat := 33
def k_f34 : Nat := 34
def k_f35 : Nat := 35
def k_f36 : Nat := 36
def k_f37 : Nat := 37
def k_f38 : Nat := 38
def k_f39 : Nat := 39
def k_f40 : Nat := 40
def k_f41 : Nat := 41
def k_f42 : Nat := 42
def k_f43 : Nat := 43
def k_f44 : Nat := 44
def k_f45 : Nat := 45
def k_f46 : Nat := 46
def k_f47 : Nat := 47
def k_f48 : Nat := 48
def k_f49 : Nat := 49
def k_f50 : Nat := 50
def k_f51 : Nat := 51
def k_f52 : Nat := 52
def k_f53 : Nat := 53
def k_f54 : Nat := 54
def k_f55 : Nat := 55
def k_f56 : Nat := 56
def k_f57 : Nat := 57
def k_f58 : Nat := 58
def k_f59 : Nat := 59
def k_f60 : Nat := 60
def k_f61 : Nat := 61
def k_f62 : Nat := 62
def k_f63 : Nat := 63
def k_f64 : Nat := 64
def k_f65 : Nat := 65
def k_f66 : Nat := 66
def k_f67 : Nat := 67
def k_f68 : Nat := 68
def k_f69 : Nat := 69
def k_f70 : Nat := 70
def k_f71 : Nat := 71
def k_f72 : Nat := 72
def k_f73 : Nat := 73
def k_f74 : Nat := 74
def k_f75 : Nat := 75
def k_f76 : Nat := 76
def k_f77 : Nat := 77
def k_f78 : Nat := 78
def k_f79 : Nat := 79
def k_f80 : Nat := 80
def k_f81 : Nat := 81
def k_f82 : Nat := 82
def k_f83 : Nat := 83
def k_f84 : Nat := 84
def k_f85 : Nat := 85
def k_f86 : Nat := 86
def k_f87 : Nat := 87
def k_f88 : Nat := 88
def k_f89 : Nat := 89
def k_f90 : Nat := 90
def k_f91 : Nat := 91
def k_f92 : Nat := 92
def k_f93 : Nat := 93
def k_f94 : Nat := 94
def k_f95 : Nat := 95
def k_f96 : Nat := 96
def k_f97 : Nat := 97
def k_f98 : Nat := 98
def k_f99 : Nat := 99
def k_f100 : Nat := 100
def k_f101 : Nat := 101
def k_f102 : Nat := 102
def k_f103 : Nat := 103
def k_f104 : Nat := 104
def k_f105 : Nat := 105
def k_f106 : Nat := 106
def k_f107 : Nat := 107
def k_f108 : Nat := 108
def k_f109 : Nat := 109
def k_f110 : Nat := 110
def k_f111 : Nat := 111
def q_f19_1 (N : TN) : ACode := (.seq (.reg [⟨.l 0,none,.mv,[.c (.p none)]⟩]) (.seq (.reg [oQ (1,.mkmap,[]),oQ (2,.build [.sl none 0 0 0,.m none,.i .i64 0] [(1,1)],[.t 1]),oQ (3,.box,[.t 2]),⟨.l 0,none,.mv,[.t 3]⟩]) .ret))
noncomputable def D_f19_1 (F:TF)(N:TN)(Q:TQ) (L : Lg) : Prop :=
 wpOp F .mkmap [] L fun v1 L1=>
 wpOp F (.build [.sl none 0 0 0,.m none,.i .i64 0] [(1,1)]) [v1] L1 fun v2 L2=>
 wpOp F .box [v2] L2 fun v3 L3=>
 fin1 (some v3) Q L3
theorem e_f19_1 (F:TF)(N:TN)(Q:TQ) (l t : Env) (L : Lg) : wp F (q_f19_1 N) l t L (fin [.tmp (.l 0)] Q) nE (fin [.tmp (.l 0)] Q) = D_f19_1 F N Q L := by kernel_rfl
def c_f19 (N : TN) : AFn := ⟨q_f19_1 N,[.tmp (.l 0)]⟩
structure H_f19 (N : TN) (F : TF) : Prop where
  code : F (N k_f19) = some (c_f19 N)
theorem r_f19 {F : TF} {N : TN} (h : F (N k_f19) = some (c_f19 N)) {Q : TQ} {L : Lg} (e : D_f19_1 F N Q L) : CallL F (N k_f19) [] L Q :=
  CallL.of_wp h (Eq.mpr (Eq.trans (e_f19_1 F N Q (initE [] 0) Env.nil L) (by kernel_rfl : _ = D_f19_1 F N Q L)) e)
def q_f20_1 (N : TN) : ACode := (.seq (.reg [⟨.l 0,none,.mv,[.c (.p none)]⟩]) (.seq (.reg [oQ (1,.call (N k_f19),[]),oQ (2,.mkmap,[]),oQ (3,.build [.p none,.m none] [(0,1),(1,1)],[.t 1,.t 2]),oQ (4,.box,[.t 3]),⟨.l 0,none,.mv,[.t 4]⟩]) .ret))
noncomputable def D_f20_1 (F:TF)(N:TN)(Q:TQ) (L : Lg) : Prop :=
 CallL F (N k_f19) [] L fun v1 L1=>
 wpOp F .mkmap [] L1 fun v2 L2=>
 wpOp F (.build [.p none,.m none] [(0,1),(1,1)]) [v1,v2] L2 fun v3 L3=>
 wpOp F .box [v3] L3 fun v4 L4=>
 fin1 (some v4) Q L4
theorem e_f20_1 (F:TF)(N:TN)(Q:TQ) (l t : Env) (L : Lg) : wp F (q_f20_1 N) l t L (fin [.tmp (.l 0)] Q) nE (fin [.tmp (.l 0)] Q) = D_f20_1 F N Q L := by kernel_rfl
def c_f20 (N : TN) : AFn := ⟨q_f20_1 N,[.tmp (.l 0)]⟩
structure H_f20 (N : TN) (F : TF) : Prop where
  code : F (N k_f20) = some (c_f20 N)
  f19 : H_f19 N F
theorem r_f20 {F : TF} {N : TN} (h : F (N k_f20) = some (c_f20 N)) {Q : TQ} {L : Lg} (e : D_f20_1 F N Q L) : CallL F (N k_f20) [] L Q :=
  CallL.of_wp h (Eq.mpr (Eq.trans (e_f20_1 F N Q (initE [] 0) Env.nil L) (by kernel_rfl : _ = D_f20_1 F N Q L)) e)
def q_f21_1 (N : TN) : ACode := (.seq (.reg [⟨.l 0,none,.mv,[.c (.p none)]⟩]) (.seq (.reg [oQ (1,.call (N k_f20),[]),oQ (2,.build [.sl none 0 0 0,.p none,.i .i64 0] [(1,1)],[.t 1]),oQ (3,.box,[.t 2]),⟨.l 0,none,.mv,[.t 3]⟩]) .ret))
noncomputable def D_f21_1 (F:TF)(N:TN)(Q:TQ) (L : Lg) : Prop :=
 CallL F (N k_f20) [] L fun v1 L1=>
 wpOp F (.build [.sl none 0 0 0,.p none,.i .i64 0] [(1,1)]) [v1] L1 fun v2 L2=>
 wpOp F .box [v2] L2 fun v3 L3=>
 fin1 (some v3) Q L3
theorem e_f21_1 (F:TF)(N:TN)(Q:TQ) (l t : Env) (L : Lg) : wp F (q_f21_1 N) l t L (fin [.tmp (.l 0)] Q) nE (fin [.tmp (.l 0)] Q) = D_f21_1 F N Q L := by kernel_rfl
def c_f21 (N : TN) : AFn := ⟨q_f21_1 N,[.tmp (.l 0)]⟩
structure H_f21 (N : TN) (F : TF) : Prop where
  code : F (N k_f21) = some (c_f21 N)
  f20 : H_f20 N F
theorem r_f21 {F : TF} {N : TN} (h : F (N k_f21) = some (c_f21 N)) {Q : TQ} {L : Lg} (e : D_f21_1 F N Q L) : CallL F (N k_f21) [] L Q :=
  CallL.of_wp h (Eq.mpr (Eq.trans (e_f21_1 F N Q (initE [] 0) Env.nil L) (by kernel_rfl : _ = D_f21_1 F N Q L)) e)
def q_f22_1 (N : TN) : ACode := (.seq (.reg [⟨.l 2,none,.mv,[.c (.p none)]⟩,⟨.l 3,none,.mv,[.c (.i .i64 0)]⟩]) (.seq (.reg [oQ (7,.mv,[.l 0]),oQ (8,.call (N k_f9),[.t 7]),oQ (6,.mv,[.t 8]),oQ (9,.ext 0,[.t 6]),oQ (10,.ext 1,[.t 6]),⟨.l 4,none,.mv,[.t 9]⟩,⟨.l 5,none,.mv,[.t 10]⟩]) (.seq (.seq (.reg [oQ (11,.mv,[.l 5]),oQ (12,.bin .neq,[.t 11,.c (.i .i64 0)])]) (.cond (.t 12) (.seq (.reg [oQ (13,.mv,[.l 5]),⟨.l 2,none,.mv,[.c (.p none)]⟩,⟨.l 3,none,.mv,[.t 13]⟩]) .ret) .skip)) (.seq (.reg [oQ (14,.mv,[.l 4]),oQ (15,.call (N k_f18),[]),oQ (16,.call (N k_f18),[]),oQ (17,.build [.p none,.p none,.p none,.b false,.b false,.b false] [(0,1),(1,1),(2,1)],[.t 14,.t 15,.t 16]),oQ (18,.box,[.t 17]),⟨.l 2,none,.mv,[.t 18]⟩,⟨.l 3,none,.mv,[.c (.i .i64 0)]⟩]) .ret))))
noncomputable def D_f22_1 (F:TF)(N:TN)(Q:TQ) (x0 : AV) (L : Lg) : Prop :=
 CallL F (N k_f9) [x0] L fun v1 L1=>
 wpOp F (.ext 0) [v1] L1 fun v2 L2=>
 wpOp F (.ext 1) [v1] L2 fun v3 L3=>
 wpOp F (.bin .neq) [v3,(.i .i64 0)] L3 fun v4 L4=>
 condW v4
 (fin1 (some (.tup [(.p none),v3])) Q L4)
 (CallL F (N k_f18) [] L4 fun v5 L5=>
 CallL F (N k_f18) [] L5 fun v6 L6=>
 wpOp F (.build [.p none,.p none,.p none,.b false,.b false,.b false] [(0,1),(1,1),(2,1)]) [v2,v5,v6] L6 fun v7 L7=>
 wpOp F .box [v7] L7 fun v8 L8=>
 fin1 (some (.tup [v8,(.i .i64 0)])) Q L8)
theorem e_f22_1 (F:TF)(N:TN)(Q:TQ) (l t : Env) (L : Lg) : wp F (q_f22_1 N) l t L (fin [.tmp (.l 2),.tmp (.l 3)] Q) nE (fin [.tmp (.l 2),.tmp (.l 3)] Q) = D_f22_1 F N Q (l 0) L := by kernel_rfl
def c_f22 (N : TN) : AFn := ⟨q_f22_1 N,[.tmp (.l 2),.tmp (.l 3)]⟩
structure H_f22 (N : TN) (F : TF) : Prop where
  code : F (N k_f22) = some (c_f22 N)
  f9 : H_f9 N F
  f18 : H_f18 N F
theorem r_f22 {F : TF} {N : TN} (h : F (N k_f22) = some (c_f22 N)) {Q : TQ} {a0 : AV} {L : Lg} (e : D_f22_1 F N Q a0 L) : CallL F (N k_f22) [a0] L Q :=
  CallL.of_wp h (Eq.mpr (Eq.trans (e_f22_1 F N Q (initE [a0] 0) Env.nil L) (by kernel_rfl : _ = D_f22_1 F N Q a0 L)) e)
def q_f23_1 (N : TN) : ACode := (.seq (.reg [⟨.l 0,none,.mv,[.c (.p none)]⟩]) (.seq (.reg [oQ (4,.call (N k_f22),[.c (.i .i64 1)]),oQ (3,.mv,[.t 4]),oQ (5,.ext 0,[.t 3]),oQ (6,.ext 1,[.t 3]),⟨.l 1,none,.mv,[.t 5]⟩,oQ (2,.mv,[.t 6])]) (.seq (.reg [oQ (7,.mv,[.l 1]),oQ (8,.nilchk,[.t 7]),oQ (9,.fad 3,[.t 8]),⟨.no,none,.st 1,[.t 9,.c (.b true)]⟩]) (.seq (.reg [oQ (10,.mv,[.l 1]),⟨.l 0,none,.mv,[.t 10]⟩]) .ret))))
noncomputable def D_f23_1 (F:TF)(N:TN)(Q:TQ) (L : Lg) : Prop :=
 CallL F (N k_f22) [(.i .i64 1)] L fun v1 L1=>
 wpOp F (.ext 0) [v1] L1 fun v2 L2=>
 wpOp F (.ext 1) [v1] L2 fun v3 L3=>
 wpOp F .nilchk [v2] L3 fun v4 L4=>
 wpOp F (.fad 3) [v4] L4 fun v5 L5=>
 wpOp F (.st 1) [v5,(.b true)] L5 fun _ L6=>
 fin1 (some v2) Q L6
theorem e_f23_1 (F:TF)(N:TN)(Q:TQ) (l t : Env) (L : Lg) : wp F (q_f23_1 N) l t L (fin [.tmp (.l 0)] Q) nE (fin [.tmp (.l 0)] Q) = D_f23_1 F N Q L := by kernel_rfl
def c_f23 (N : TN) : AFn := ⟨q_f23_1 N,[.tmp (.l 0)]⟩
structure H_f23 (N : TN) (F : TF) : Prop where
  code : F (N k_f23) = some (c_f23 N)
  f22 : H_f22 N F
theorem r_f23 {F : TF} {N : TN} (h : F (N k_f23) = some (c_f23 N)) {Q : TQ} {L : Lg} (e : D_f23_1 F N Q L) : CallL F (N k_f23) [] L Q :=
  CallL.of_wp h (Eq.mpr (Eq.trans (e_f23_1 F N Q (initE [] 0) Env.nil L) (by kernel_rfl : _ = D_f23_1 F N Q L)) e)
def q_f24_1 (N : TN) : ACode := (.seq (.reg [⟨.l 2,none,.mv,[.c (.b false)]⟩]) (.seq (.reg [oQ (3,.mv,[.l 0]),oQ (4,.bin .lss,[.t 3,.c (.i .i64 0)]),oQ (5,.mv,[.t 4]),gQ (6,5,false,.mv,[.l 0]),gQ (7,5,false,.bin .gtr,[.t 6,.c (.i .i64 4611686018427387904)]),oQ (8,.pick,[.t 5,.c (.b true),.t 7]),⟨.l 2,none,.mv,[.t 8]⟩]) .ret))
noncomputable def D_f24_1 (F:TF)(N:TN)(Q:TQ) (x0 : AV) (L : Lg) : Prop :=
 wpOp F (.bin .lss) [x0,(.i .i64 0)] L fun v1 L1=>
 gdOp F v1 false .mv [x0] L1 fun v2 L2=>
 gdOp F v1 false (.bin .gtr) [v2,(.i .i64 4611686018427387904)] L2 fun v3 L3=>
 wpOp F .pick [v1,(.b true),v3] L3 fun v4 L4=>
 fin1 (some v4) Q L4
theorem e_f24_1 (F:TF)(N:TN)(Q:TQ) (l t : Env) (L : Lg) : wp F (q_f24_1 N) l t L (fin [.tmp (.l 2)] Q) nE (fin [.tmp (.l 2)] Q) = D_f24_1 F N Q (l 0) L := by kernel_rfl
def c_f24 (N : TN) : AFn := ⟨q_f24_1 N,[.tmp (.l 2)]⟩
structure H_f24 (N : TN) (F : TF) : Prop where
  code : F (N k_f24) = some (c_f24 N)
theorem r_f24 {F : TF} {N : TN} (h : F (N k_f24) = some (c_f24 N)) {Q : TQ} {a0 : AV} {L : Lg} (e : D_f24_1 F N Q a0 L) : CallL F (N k_f24) [a0] L Q :=
  CallL.of_wp h (Eq.mpr (Eq.trans (e_f24_1 F N Q (initE [a0] 0) Env.nil L) (by kernel_rfl : _ = D_f24_1 F N Q a0 L)) e)
def q_f25_1 (N : TN) : ACode := (.seq (.reg [⟨.l 4,none,.alloc [.i .i64 0,.i .i64 0,.i .i64 0],[]⟩,⟨.l 5,none,.mv,[.c (.b false)]⟩]) (.seq (.seq (.reg [oQ (8,.mv,[.l 0]),oQ (9,.eq false .ptr,[.t 8,.c (.p none)])]) (.cond (.t 9) (.seq (.reg [oQ (10,.build [.i .i64 0,.i .i64 0,.i .i64 0] [],[]),⟨.no,none,.st 3,[.l 4,.t 10]⟩,⟨.l 5,none,.mv,[.c (.b false)]⟩]) .ret) .skip)) (.seq (.reg [oQ (12,.mv,[.l 0]),oQ (13,.nilchk,[.t 12]),oQ (14,.fad 1,[.t 13]),oQ (15,.ld none,[.t 14]),oQ (16,.mv,[.l 1]),oQ (17,.lkup (.i .i64 0) true,[.t 15,.t 16]),oQ (11,.mv,[.t 17]),oQ (18,.ext 0,[.t 11]),oQ (19,.ext 1,[.t 11]),⟨.l 6,none,.mv,[.t 18]⟩,⟨.l 7,none,.mv,[.t 19]⟩]) (.seq (.seq (.reg [oQ (20,.mv,[.l 7]),oQ (21,.un .not,[.t 20])]) (.cond (.t 21) (.seq (.reg [oQ (22,.build [.i .i64 0,.i .i64 0,.i .i64 0] [],[]),⟨.no,none,.st 3,[.l 4,.t 22]⟩,⟨.l 5,none,.mv,[.c (.b false)]⟩]) .ret) .skip)) (.seq (.reg [oQ (23,.mv,[.l 0]),oQ (24,.nilchk,[.t 23]),oQ (25,.fad 0,[.t 24]),oQ (26,.ld none,[.t 25]),oQ (27,.mv,[.l 6]),oQ (28,.iad 3,[.t 26,.t 27]),oQ (29,.ld (some 3),[.t 28]),⟨.no,none,.st 3,[.l 4,.t 29]⟩,⟨.l 5,none,.mv,[.c (.b true)]⟩]) .ret)))))
noncomputable def D_f25_1 (F:TF)(N:TN)(Q:TQ) (x0 x1:AV) (L : Lg) : Prop :=
 wpOp F (.alloc [.i .i64 0,.i .i64 0,.i .i64 0]) [] L fun v1 L1=>
 wpOp F (.eq false .ptr) [x0,(.p none)] L1 fun v2 L2=>
 condW v2
 (wpOp F (.build [.i .i64 0,.i .i64 0,.i .i64 0] []) [] L2 fun v3 L3=>
 wpOp F (.st 3) [v1,v3] L3 fun _ L4=>
 fin1 (resVL Env.nil Env.nil L4 [.cell (.c v1) (some 3),.tmp (.c (.b false))]) Q L4)
 (wpOp F .nilchk [x0] L2 fun v5 L5=>
 wpOp F (.fad 1) [v5] L5 fun v6 L6=>
 wpOp F (.ld none) [v6] L6 fun v7 L7=>
 wpOp F (.lkup (.i .i64 0) true) [v7,x1] L7 fun v8 L8=>
 wpOp F (.ext 0) [v8] L8 fun v9 L9=>
 wpOp F (.ext 1) [v8] L9 fun v10 L10=>
 wpOp F (.un .not) [v10] L10 fun v11 L11=>
 condW v11
 (wpOp F (.build [.i .i64 0,.i .i64 0,.i .i64 0] []) [] L11 fun v12 L12=>
 wpOp F (.st 3) [v1,v12] L12 fun _ L13=>
 fin1 (resVL Env.nil Env.nil L13 [.cell (.c v1) (some 3),.tmp (.c (.b false))]) Q L13)
 (wpOp F .nilchk [x0] L11 fun v14 L14=>
 wpOp F (.fad 0) [v14] L14 fun v15 L15=>
 wpOp F (.ld none) [v15] L15 fun v16 L16=>
 wpOp F (.iad 3) [v16,v9] L16 fun v17 L17=>
 wpOp F (.ld (some 3)) [v17] L17 fun v18 L18=>
 wpOp F (.st 3) [v1,v18] L18 fun _ L19=>
 fin1 (resVL Env.nil Env.nil L19 [.cell (.c v1) (some 3),.tmp (.c (.b true))]) Q L19))
theorem e_f25_1 (F:TF)(N:TN)(Q:TQ) (l t : Env) (L : Lg) : wp F (q_f25_1 N) l t L (fin [.cell (.l 4) (some 3),.tmp (.l 5)] Q) nE (fin [.cell (.l 4) (some 3),.tmp (.l 5)] Q) = D_f25_1 F N Q (l 0) (l 1) L := by kernel_rfl
def c_f25 (N : TN) : AFn := ⟨q_f25_1 N,[.cell (.l 4) (some 3),.tmp (.l 5)]⟩
structure H_f25 (N : TN) (F : TF) : Prop where
  code : F (N k_f25) = some (c_f25 N)
theorem r_f25 {F : TF} {N : TN} (h : F (N k_f25) = some (c_f25 N)) {Q : TQ} {a0 a1 : AV} {L : Lg} (e : D_f25_1 F N Q a0 a1 L) : CallL F (N k_f25) [a0,a1] L Q :=
  CallL.of_wp h (Eq.mpr (Eq.trans (e_f25_1 F N Q (initE [a0,a1] 0) Env.nil L) (by kernel_rfl : _ = D_f25_1 F N Q a0 a1 L)) e)
def q_f26_1 (N : TN) : ACode := (.seq (.reg [⟨.l 5,none,.box,[.l 2]⟩]) (.seq (.reg [oQ (6,.mv,[.l 0]),oQ (7,.nilchk,[.t 6]),oQ (8,.fad 0,[.t 7]),oQ (9,.ld none,[.t 8]),oQ (10,.mv,[.l 1]),oQ (11,.ld (some 3),[.l 5]),oQ (12,.iad 3,[.t 9,.t 10]),⟨.no,none,.st 3,[.t 12,.t 11]⟩]) (.reg [oQ (13,.mv,[.l 0]),oQ (14,.nilchk,[.t 13]),oQ (15,.fad 1,[.t 14]),oQ (16,.ld none,[.t 15]),oQ (17,.fad 0,[.l 5]),oQ (18,.ld none,[.t 17]),oQ (19,.mv,[.l 1]),⟨.no,none,.mset,[.t 16,.t 18,.t 19]⟩])))
noncomputable def D_f26_1 (F:TF)(N:TN)(Q:TQ) (x0 x1 x2:AV) (L : Lg) : Prop :=
 wpOp F .box [x2] L fun v1 L1=>
 wpOp F .nilchk [x0] L1 fun v2 L2=>
 wpOp F (.fad 0) [v2] L2 fun v3 L3=>
 wpOp F (.ld none) [v3] L3 fun v4 L4=>
 wpOp F (.ld (some 3)) [v1] L4 fun v5 L5=>
 wpOp F (.iad 3) [v4,x1] L5 fun v6 L6=>
 wpOp F (.st 3) [v6,v5] L6 fun _ L7=>
 wpOp F .nilchk [x0] L7 fun v8 L8=>
 wpOp F (.fad 1) [v8] L8 fun v9 L9=>
 wpOp F (.ld none) [v9] L9 fun v10 L10=>
 wpOp F (.fad 0) [v1] L10 fun v11 L11=>
 wpOp F (.ld none) [v11] L11 fun v12 L12=>
 wpOp F .mset [v10,v12,x1] L12 fun _ L13=>
 fin1 (some (.tup [])) Q L13
theorem e_f26_1 (F:TF)(N:TN)(Q:TQ) (l t : Env) (L : Lg) : wp F (q_f26_1 N) l t L (fin [] Q) nE (fin [] Q) = D_f26_1 F N Q (l 0) (l 1) (l 2) L := by kernel_rfl
def c_f26 (N : TN) : AFn := ⟨q_f26_1 N,[]⟩
structure H_f26 (N : TN) (F : TF) : Prop where
  code : F (N k_f26) = some (c_f26 N)
theorem r_f26 {F : TF} {N : TN} (h : F (N k_f26) = some (c_f26 N)) {Q : TQ} {a0 a1 a2 : AV} {L : Lg} (e : D_f26_1 F N Q a0 a1 a2 L) : CallL F (N k_f26) [a0,a1,a2] L Q :=
  CallL.of_wp h (Eq.mpr (Eq.trans (e_f26_1 F N Q (initE [a0,a1,a2] 0) Env.nil L) (by kernel_rfl : _ = D_f26_1 F N Q a0 a1 a2 L)) e)
def q_f27_1 (N : TN) : ACode := (.seq (.reg [⟨.l 2,none,.mv,[.c (.b false)]⟩]) (.seq (.reg [oQ (3,.mv,[.l 0]),oQ (4,.mv,[.l 0]),oQ (5,.bin .neq,[.t 3,.t 4]),⟨.l 2,none,.mv,[.t 5]⟩]) .ret))
noncomputable def D_f27_1 (F:TF)(N:TN)(Q:TQ) (x0 : AV) (L : Lg) : Prop :=
 wpOp F (.bin .neq) [x0,x0] L fun v1 L1=>
 fin1 (some v1) Q L1
theorem e_f27_1 (F:TF)(N:TN)(Q:TQ) (l t : Env) (L : Lg) : wp F (q_f27_1 N) l t L (fin [.tmp (.l 2)] Q) nE (fin [.tmp (.l 2)] Q) = D_f27_1 F N Q (l 0) L := by kernel_rfl
def c_f27 (N : TN) : AFn := ⟨q_f27_1 N,[.tmp (.l 2)]⟩
structure H_f27 (N : TN) (F : TF) : Prop where
  code : F (N k_f27) = some (c_f27 N)
theorem r_f27 {F : TF} {N : TN} (h : F (N k_f27) = some (c_f27 N)) {Q : TQ} {a0 : AV} {L : Lg} (e : D_f27_1 F N Q a0 L) : CallL F (N k_f27) [a0] L Q :=
  CallL.of_wp h (Eq.mpr (Eq.trans (e_f27_1 F N Q (initE [a0] 0) Env.nil L) (by kernel_rfl : _ = D_f27_1 F N Q a0 L)) e)
def q_f28_1 (N : TN) : ACode := (.seq (.reg [⟨.l 4,none,.mv,[.c (.i .i64 0)]⟩]) (.seq (.reg [oQ (7,.mv,[.l 0]),oQ (8,.call (N k_f27),[.t 7]),⟨.l 5,none,.mv,[.t 8]⟩]) (.seq (.reg [oQ (9,.mv,[.l 1]),oQ (10,.call (N k_f27),[.t 9]),⟨.l 6,none,.mv,[.t 10]⟩]) (.seq (.seq (.reg [oQ (11,.mv,[.l 5])]) (.cond (.t 11) (.seq (.seq (.reg [oQ (12,.mv,[.l 6])]) (.cond (.t 12) (.seq (.reg [⟨.l 4,none,.mv,[.c (.i .i64 0)]⟩]) .ret) .skip)) (.seq (.reg [⟨.l 4,none,.mv,[.c (.i .i64 (-1))]⟩]) .ret)) .skip)) (.seq (.seq (.reg [oQ (13,.mv,[.l 6])]) (.cond (.t 13) (.seq (.reg [⟨.l 4,none,.mv,[.c (.i .i64 1)]⟩]) .ret) .skip)) (.seq (.seq (.reg [oQ (14,.mv,[.l 0]),oQ (15,.mv,[.l 1]),oQ (16,.bin .lss,[.t 14,.t 15])]) (.cond (.t 16) (.seq (.reg [⟨.l 4,none,.mv,[.c (.i .i64 (-1))]⟩]) .ret) .skip)) (.seq (.seq (.reg [oQ (17,.mv,[.l 0]),oQ (18,.mv,[.l 1]),oQ (19,.bin .gtr,[.t 17,.t 18])]) (.cond (.t 19) (.seq (.reg [⟨.l 4,none,.mv,[.c (.i .i64 1)]⟩]) .ret) .skip)) (.seq (.reg [⟨.l 4,none,.mv,[.c (.i .i64 0)]⟩]) .ret))))))))
noncomputable def D_f28_1 (F:TF)(N:TN)(Q:TQ) (x0 x1:AV) (L : Lg) : Prop :=
 CallL F (N k_f27) [x0] L fun v1 L1=>
 CallL F (N k_f27) [x1] L1 fun v2 L2=>
 condW v1
 (condW v2
 (fin1 (some (.i .i64 0)) Q L2)
 (fin1 (some (.i .i64 (-1))) Q L2))
 (condW v2
 (fin1 (some (.i .i64 1)) Q L2)
 (wpOp F (.bin .lss) [x0,x1] L2 fun v3 L3=>
 condW v3
 (fin1 (some (.i .i64 (-1))) Q L3)
 (wpOp F (.bin .gtr) [x0,x1] L3 fun v4 L4=>
 condW v4
 (fin1 (some (.i .i64 1)) Q L4)
 (fin1 (some (.i .i64 0)) Q L4))))
theorem e_f28_1 (F:TF)(N:TN)(Q:TQ) (l t : Env) (L : Lg) : wp F (q_f28_1 N) l t L (fin [.tmp (.l 4)] Q) nE (fin [.tmp (.l 4)] Q) = D_f28_1 F N Q (l 0) (l 1) L := by kernel_rfl
def c_f28 (N : TN) : AFn := ⟨q_f28_1 N,[.tmp (.l 4)]⟩
structure H_f28 (N : TN) (F : TF) : Prop where
  code : F (N k_f28) = some (c_f28 N)
  f27 : H_f27 N F
theorem r_f28 {F : TF} {N : TN} (h : F (N k_f28) = some (c_f28 N)) {Q : TQ} {a0 a1 : AV} {L : Lg} (e : D_f28_1 F N Q a0 a1 L) : CallL F (N k_f28) [a0,a1] L Q :=
  CallL.of_wp h (Eq.mpr (Eq.trans (e_f28_1 F N Q (initE [a0,a1] 0) Env.nil L) (by kernel_rfl : _ = D_f28_1 F N Q a0 a1 L)) e)
def q_f29_4 (N : TN) : ACode := (.seq (.reg [oQ (17,.mv,[.l 3]),⟨.l 2,none,.mv,[.t 17]⟩]) .ret)
noncomputable def D_f29_4 (F:TF)(N:TN)(Q:TQ) (x3 : AV) (L : Lg) : Prop :=
 fin1 (some x3) Q L
theorem e_f29_4 (F:TF)(N:TN)(Q:TQ) (l t : Env) (L : Lg) : wp F (q_f29_4 N) l t L (fin [.tmp (.l 2)] Q) nE (fin [.tmp (.l 2)] Q) = D_f29_4 F N Q (l 3) L := by kernel_rfl
def y_f29_6 (F:TF)(N:TN)(Q:TQ) : Nat → Kn := (fun (j : Nat) (l t : Env) (L : Lg) => bif Nat.beq j 0 then (fun (l t : Env) (L : Lg) => D_f29_4 F N Q (l 3) L) l t L else nE j l t L)
def q_f29_8 (N : TN) : ACode := (.seq (.reg [oQ (9,.bin .lss,[.l 8,.l 7])]) (.seq (.cond (.t 9) .skip (.exit 0)) (.seq (.block 1 (.seq (.reg [oQ (10,.iad 1,[.l 6,.l 8]),oQ (11,.ld none,[.t 10]),⟨.l 5,none,.mv,[.t 11]⟩]) (.seq (.reg [oQ (12,.mv,[.l 5]),oQ (13,.mv,[.l 3]),oQ (14,.bin .neq,[.t 12,.t 13])]) (.cond (.t 14) (.seq (.reg [oQ (15,.mv,[.l 5]),⟨.l 2,none,.mv,[.t 15]⟩]) .ret) .skip)))) (.reg [oQ (16,.bin .add,[.l 8,.c (.i .i64 1)]),⟨.l 8,none,.mv,[.t 16]⟩]))))
noncomputable def D_f29_8 (F:TF)(N:TN)(Q:TQ) (k1 : TK) (l : Env) (L : Lg) : Prop :=
 wpOp F (.bin .lss) [(l 8),(l 7)] L fun v1 L1=>
 condW v1
 (wpOp F (.iad 1) [(l 6),(l 8)] L1 fun v2 L2=>
 wpOp F (.ld none) [v2] L2 fun v3 L3=>
 wpOp F (.bin .neq) [v3,(l 3)] L3 fun v4 L4=>
 condW v4
 (fin1 (some v3) Q L4)
 (wpOp F (.bin .add) [(l 8),(.i .i64 1)] L4 fun v5 L5=>
 k1 (Env.put (Env.put l 5 v3) 8 v5) L5))
 (D_f29_4 F N Q (l 3) L1)
theorem e_f29_8 (F:TF)(N:TN)(Q:TQ) (k1 : TK) (l t : Env) (L : Lg) : wp F (q_f29_8 N) l t L (fun (l _ : Env) (L : Lg) => k1 l L) (y_f29_6 F N Q) (fin [.tmp (.l 2)] Q) = D_f29_8 F N Q k1 l L := by kernel_rfl
def q_f29_7 (N : TN) : ACode := (.loop (q_f29_8 N))
noncomputable def D_f29_7 (F:TF)(N:TN)(Q:TQ) (l : Env) (L : Lg) : Prop :=
 loopW (fun l t L k1 => D_f29_8 F N Q k1 l L) l L
theorem e_f29_7 (F:TF)(N:TN)(Q:TQ) (l t : Env) (L : Lg) : wp F (q_f29_7 N) l t L (fun (l t : Env) (L : Lg) => D_f29_4 F N Q (l 3) L) (y_f29_6 F N Q) (fin [.tmp (.l 2)] Q) = D_f29_7 F N Q l L := wpL (fun l t L k1 => e_f29_8 F N Q k1 l t L) (by kernel_rfl)
def q_f29_6 (N : TN) : ACode := (.block 0 (q_f29_7 N))
theorem e_f29_6 (F:TF)(N:TN)(Q:TQ) (l t : Env) (L : Lg) : wp F (q_f29_6 N) l t L (fun (l t : Env) (L : Lg) => D_f29_4 F N Q (l 3) L) nE (fin [.tmp (.l 2)] Q) = D_f29_7 F N Q l L := wpB (e_f29_7 F N Q l t L)
def q_f29_5a (N : TN) : ACode := (.reg [⟨.l 6,none,.mv,[.l 0]⟩,⟨.l 7,none,.lenSl,[.l 6]⟩,⟨.l 8,none,.mv,[.c (.i .i64 0)]⟩])
def q_f29_5 (N : TN) : ACode := (.seq (q_f29_5a N) (q_f29_6 N))
noncomputable def D_f29_5 (F:TF)(N:TN)(Q:TQ) (l : Env) (L : Lg) : Prop :=
 wpOp F .lenSl [(l 0)] L fun v1 L1=>
 D_f29_7 F N Q (Env.put (Env.put (Env.put l 6 (l 0)) 7 v1) 8 (.i .i64 0)) L1
theorem e_f29_5 (F:TF)(N:TN)(Q:TQ) (l t : Env) (L : Lg) : wp F (q_f29_5 N) l t L (fun (l t : Env) (L : Lg) => D_f29_4 F N Q (l 3) L) nE (fin [.tmp (.l 2)] Q) = D_f29_5 F N Q l L := wpS (e_f29_6 F N Q) (by kernel_rfl)
def q_f29_3 (N : TN) : ACode := (.seq (q_f29_5 N) (q_f29_4 N))
theorem e_f29_3 (F:TF)(N:TN)(Q:TQ) (l t : Env) (L : Lg) : wp F (q_f29_3 N) l t L (fin [.tmp (.l 2)] Q) nE (fin [.tmp (.l 2)] Q) = D_f29_5 F N Q l L := wpS (e_f29_4 F N Q) (e_f29_5 F N Q l t L)
def q_f29_2a (N : TN) : ACode := (.reg [⟨.l 3,none,.mv,[.c (.i .i64 0)]⟩])
def q_f29_2 (N : TN) : ACode := (.seq (q_f29_2a N) (q_f29_3 N))
noncomputable def D_f29_2 (F:TF)(N:TN)(Q:TQ) (l : Env) (L : Lg) : Prop :=
 D_f29_5 F N Q (Env.put l 3 (.i .i64 0)) L
theorem e_f29_2 (F:TF)(N:TN)(Q:TQ) (l t : Env) (L : Lg) : wp F (q_f29_2 N) l t L (fin [.tmp (.l 2)] Q) nE (fin [.tmp (.l 2)] Q) = D_f29_2 F N Q l L := wpS (e_f29_3 F N Q) (by kernel_rfl)
def q_f29_1a (N : TN) : ACode := (.reg [⟨.l 2,none,.mv,[.c (.i .i64 0)]⟩])
def q_f29_1 (N : TN) : ACode := (.seq (q_f29_1a N) (q_f29_2 N))
noncomputable def D_f29_1 (F:TF)(N:TN)(Q:TQ) (l : Env) (L : Lg) : Prop :=
 D_f29_2 F N Q (Env.put l 2 (.i .i64 0)) L
theorem e_f29_1 (F:TF)(N:TN)(Q:TQ) (l t : Env) (L : Lg) : wp F (q_f29_1 N) l t L (fin [.tmp (.l 2)] Q) nE (fin [.tmp (.l 2)] Q) = D_f29_1 F N Q l L := wpS (e_f29_2 F N Q) (by kernel_rfl)
def c_f29 (N : TN) : AFn := ⟨q_f29_1 N,[.tmp (.l 2)]⟩
structure H_f29 (N : TN) (F : TF) : Prop where
  code : F (N k_f29) = some (c_f29 N)
theorem r_f29 {F : TF} {N : TN} (h : F (N k_f29) = some (c_f29 N)) {Q : TQ} {a0 : AV} {L : Lg} (e : D_f29_1 F N Q (initE [a0] 0) L) : CallL F (N k_f29) [a0] L Q :=
  CallL.of_wp h (Eq.mpr (Eq.trans (e_f29_1 F N Q (initE [a0] 0) Env.nil L) (by kernel_rfl : _ = D_f29_1 F N Q (initE [a0] 0) L)) e)
def q_f30_1 (N : TN) : ACode := (.seq (.reg [⟨.l 2,none,.box,[.l 0]⟩,⟨.l 3,none,.box,[.l 1]⟩,⟨.l 4,none,.mv,[.c (.i .i64 0)]⟩]) (.seq (.regD [oQ (5,.fad 1,[.l 2]),oQ (6,.ld none,[.t 5]),oQ (7,.fad 1,[.l 3]),oQ (8,.ld none,[.t 7]),oQ (9,.call (N k_f28),[.t 6,.t 8]),oQ (10,.fad 2,[.l 2]),oQ (11,.ld none,[.t 10]),oQ (12,.fad 2,[.l 3]),oQ (13,.ld none,[.t 12]),oQ (14,.call (N k_f28),[.t 11,.t 13]),oQ (15,.bslice [.i .i64 0] 2 1 [0,1],[.t 9,.t 14]),oQ (16,.call (N k_f29),[.t 15]),⟨.l 4,none,.mv,[.t 16]⟩] [(6,0),(8,0)]) .ret))
noncomputable def D_f30_1 (F:TF)(N:TN)(Q:TQ) (x0 x1:AV) (L : Lg) : Prop :=
 wpOp F .box [x0] L fun v1 L1=>
 wpOp F .box [x1] L1 fun v2 L2=>
 wpOp F (.fad 1) [v1] L2 fun v3 L3=>
 wpOp F (.ld none) [v3] L3 fun v4 L4=>
 wpOp F (.fad 1) [v2] L4 fun v5 L5=>
 wpOp F (.ld none) [v5] L5 fun v6 L6=>
 CallL F (N k_f28) [v4,v6] L6 fun v7 L7=>
 wpOp F (.fad 2) [v1] L7 fun v8 L8=>
 wpOp F (.ld none) [v8] L8 fun v9 L9=>
 wpOp F (.fad 2) [v2] L9 fun v10 L10=>
 wpOp F (.ld none) [v10] L10 fun v11 L11=>
 CallL F (N k_f28) [v9,v11] L11 fun v12 L12=>
 wpOp F (.bslice [.i .i64 0] 2 1 [0,1]) [v7,v12] L12 fun v13 L13=>
 CallL F (N k_f29) [v13] L13 fun v14 L14=>
 (againV (.ld none) [v8] L8 L2 ∧ againV (.ld none) [v10] L10 L2 ∧ True) ∧ (fin1 (some v14) Q L14)
theorem e_f30_1 (F:TF)(N:TN)(Q:TQ) (l t : Env) (L : Lg) : wp F (q_f30_1 N) l t L (fin [.tmp (.l 4)] Q) nE (fin [.tmp (.l 4)] Q) = D_f30_1 F N Q (l 0) (l 1) L := by kernel_rfl
def c_f30 (N : TN) : AFn := ⟨q_f30_1 N,[.tmp (.l 4)]⟩
structure H_f30 (N : TN) (F : TF) : Prop where
  code : F (N k_f30) = some (c_f30 N)
  f28 : H_f28 N F
  f29 : H_f29 N F
theorem r_f30 {F : TF} {N : TN} (h : F (N k_f30) = some (c_f30 N)) {Q : TQ} {a0 a1 : AV} {L : Lg} (e : D_f30_1 F N Q a0 a1 L) : CallL F (N k_f30) [a0,a1] L Q :=
  CallL.of_wp h (Eq.mpr (Eq.trans (e_f30_1 F N Q (initE [a0,a1] 0) Env.nil L) (by kernel_rfl : _ = D_f30_1 F N Q a0 a1 L)) e)
def q_f31_3 (N : TN) : ACode := (.reg [oQ (43,.mv,[.l 0]),oQ (44,.mv,[.l 1]),oQ (45,.ld (some 3),[.l 4]),oQ (46,.call (N k_f26),[.t 43,.t 44,.t 45])])
noncomputable def D_f31_3 (F:TF)(N:TN)(Q:TQ) (x0 x1 x4:AV) (L : Lg) : Prop :=
 wpOp F (.ld (some 3)) [x4] L fun v1 L1=>
 CallL F (N k_f26) [x0,x1,v1] L1 fun v2 L2=>
 fin1 (some (.tup [])) Q L2
theorem e_f31_3 (F:TF)(N:TN)(Q:TQ) (l t : Env) (L : Lg) : wp F (q_f31_3 N) l t L (fin [] Q) nE (fin [] Q) = D_f31_3 F N Q (l 0) (l 1) (l 4) L := by kernel_rfl
def w_f31_2 (F:TF)(N:TN)(Q:TQ) : Kn := (fun (l t : Env) (L : Lg) => D_f31_3 F N Q (l 0) (l 1) (l 4) L)
def y_f31_4 (F:TF)(N:TN)(Q:TQ) : Nat → Kn := (fun (j : Nat) (l t : Env) (L : Lg) => bif Nat.beq j 0 then (w_f31_2 F N Q) l t L else nE j l t L)
def q_f31_6 (N : TN) : ACode := (.seq (.seq (.reg [oQ (12,.mv,[.l 1]),oQ (13,.bin .gtr,[.t 12,.c (.i .i64 0)]),oQ (14,.mv,[.t 13]),gQ (15,14,true,.ld (some 3),[.l 4]),gQ (16,14,true,.mv,[.l 0]),gQ (17,14,true,.nilchk,[.t 16]),gQ (18,14,true,.fad 0,[.t 17]),gQ (19,14,true,.ld none,[.t 18]),gQ (20,14,true,.mv,[.l 1]),gQ (21,14,true,.bin .sub,[.t 20,.c (.i .i64 1)]),gQ (22,14,true,.bin .quo,[.t 21,.c (.i .i64 4)]),gQ (23,14,true,.iad 3,[.t 19,.t 22]),gQ (24,14,true,.ld (some 3),[.t 23]),gQ (25,14,true,.call (N k_f30),[.t 15,.t 24]),gQ (26,14,true,.bin .lss,[.t 25,.c (.i .i64 0)]),oQ (27,.pick,[.t 14,.t 26,.c (.b false)])]) (.cond (.t 27) .skip (.exit 0))) (.block 1 (.seq (.reg [oQ (28,.mv,[.l 0]),oQ (29,.mv,[.l 1]),oQ (30,.mv,[.l 0]),oQ (31,.nilchk,[.t 30]),oQ (32,.fad 0,[.t 31]),oQ (33,.ld none,[.t 32]),oQ (34,.mv,[.l 1]),oQ (35,.bin .sub,[.t 34,.c (.i .i64 1)]),oQ (36,.bin .quo,[.t 35,.c (.i .i64 4)]),oQ (37,.iad 3,[.t 33,.t 36]),oQ (38,.ld (some 3),[.t 37]),oQ (39,.call (N k_f26),[.t 28,.t 29,.t 38])]) (.reg [oQ (40,.mv,[.l 1]),oQ (41,.bin .sub,[.t 40,.c (.i .i64 1)]),oQ (42,.bin .quo,[.t 41,.c (.i .i64 4)]),⟨.l 1,none,.mv,[.t 42]⟩]))))
noncomputable def D_f31_6 (F:TF)(N:TN)(Q:TQ) (k1 : TK) (l : Env) (L : Lg) : Prop :=
 wpOp F (.bin .gtr) [(l 1),(.i .i64 0)] L fun v1 L1=>
 gdOp F v1 true (.ld (some 3)) [(l 4)] L1 fun v2 L2=>
 gdOp F v1 true .mv [(l 0)] L2 fun v3 L3=>
 gdOp F v1 true .nilchk [v3] L3 fun v4 L4=>
 gdOp F v1 true (.fad 0) [v4] L4 fun v5 L5=>
 gdOp F v1 true (.ld none) [v5] L5 fun v6 L6=>
 gdOp F v1 true .mv [(l 1)] L6 fun v7 L7=>
 gdOp F v1 true (.bin .sub) [v7,(.i .i64 1)] L7 fun v8 L8=>
 gdOp F v1 true (.bin .quo) [v8,(.i .i64 4)] L8 fun v9 L9=>
 gdOp F v1 true (.iad 3) [v6,v9] L9 fun v10 L10=>
 gdOp F v1 true (.ld (some 3)) [v10] L10 fun v11 L11=>
 gdOp F v1 true (.call (N k_f30)) [v2,v11] L11 fun v12 L12=>
 gdOp F v1 true (.bin .lss) [v12,(.i .i64 0)] L12 fun v13 L13=>
 wpOp F .pick [v1,v13,(.b false)] L13 fun v14 L14=>
 condW v14
 (wpOp F .nilchk [(l 0)] L14 fun v15 L15=>
 wpOp F (.fad 0) [v15] L15 fun v16 L16=>
 wpOp F (.ld none) [v16] L16 fun v17 L17=>
 wpOp F (.bin .sub) [(l 1),(.i .i64 1)] L17 fun v18 L18=>
 wpOp F (.bin .quo) [v18,(.i .i64 4)] L18 fun v19 L19=>
 wpOp F (.iad 3) [v17,v19] L19 fun v20 L20=>
 wpOp F (.ld (some 3)) [v20] L20 fun v21 L21=>
 CallL F (N k_f26) [(l 0),(l 1),v21] L21 fun v22 L22=>
 wpOp F (.bin .sub) [(l 1),(.i .i64 1)] L22 fun v23 L23=>
 wpOp F (.bin .quo) [v23,(.i .i64 4)] L23 fun v24 L24=>
 k1 (Env.put l 1 v24) L24)
 (D_f31_3 F N Q (l 0) (l 1) (l 4) L14)
theorem e_f31_6 (F:TF)(N:TN)(Q:TQ) (k1 : TK) (l t : Env) (L : Lg) : wp F (q_f31_6 N) l t L (fun (l _ : Env) (L : Lg) => k1 l L) (y_f31_4 F N Q) (fin [] Q) = D_f31_6 F N Q k1 l L := by kernel_rfl
def q_f31_5 (N : TN) : ACode := (.loop (q_f31_6 N))
noncomputable def D_f31_5 (F:TF)(N:TN)(Q:TQ) (l : Env) (L : Lg) : Prop :=
 loopW (fun l t L k1 => D_f31_6 F N Q k1 l L) l L
theorem e_f31_5 (F:TF)(N:TN)(Q:TQ) (l t : Env) (L : Lg) : wp F (q_f31_5 N) l t L (w_f31_2 F N Q) (y_f31_4 F N Q) (fin [] Q) = D_f31_5 F N Q l L := wpL (fun l t L k1 => e_f31_6 F N Q k1 l t L) (by kernel_rfl)
def q_f31_4 (N : TN) : ACode := (.block 0 (q_f31_5 N))
theorem e_f31_4 (F:TF)(N:TN)(Q:TQ) (l t : Env) (L : Lg) : wp F (q_f31_4 N) l t L (w_f31_2 F N Q) nE (fin [] Q) = D_f31_5 F N Q l L := wpB (e_f31_5 F N Q l t L)
def q_f31_2 (N : TN) : ACode := (.seq (q_f31_4 N) (q_f31_3 N))
theorem e_f31_2 (F:TF)(N:TN)(Q:TQ) (l t : Env) (L : Lg) : wp F (q_f31_2 N) l t L (fin [] Q) nE (fin [] Q) = D_f31_5 F N Q l L := wpS (e_f31_3 F N Q) (e_f31_4 F N Q l t L)
def q_f31_1a (N : TN) : ACode := (.reg [oQ (5,.mv,[.l 0]),oQ (6,.nilchk,[.t 5]),oQ (7,.fad 0,[.t 6]),oQ (8,.ld none,[.t 7]),oQ (9,.mv,[.l 1]),oQ (10,.iad 3,[.t 8,.t 9]),oQ (11,.ld (some 3),[.t 10]),⟨.l 4,none,.alloc [.i .i64 0,.i .i64 0,.i .i64 0],[]⟩,⟨.no,none,.st 3,[.l 4,.t 11]⟩])
def q_f31_1 (N : TN) : ACode := (.seq (q_f31_1a N) (q_f31_2 N))
noncomputable def D_f31_1 (F:TF)(N:TN)(Q:TQ) (l : Env) (L : Lg) : Prop :=
 wpOp F .nilchk [(l 0)] L fun v1 L1=>
 wpOp F (.fad 0) [v1] L1 fun v2 L2=>
 wpOp F (.ld none) [v2] L2 fun v3 L3=>
 wpOp F (.iad 3) [v3,(l 1)] L3 fun v4 L4=>
 wpOp F (.ld (some 3)) [v4] L4 fun v5 L5=>
 wpOp F (.alloc [.i .i64 0,.i .i64 0,.i .i64 0]) [] L5 fun v6 L6=>
 wpOp F (.st 3) [v6,v5] L6 fun _ L7=>
 D_f31_5 F N Q (Env.put l 4 v6) L7
theorem e_f31_1 (F:TF)(N:TN)(Q:TQ) (l t : Env) (L : Lg) : wp F (q_f31_1 N) l t L (fin [] Q) nE (fin [] Q) = D_f31_1 F N Q l L := wpS (e_f31_2 F N Q) (by kernel_rfl)
def c_f31 (N : TN) : AFn := ⟨q_f31_1 N,[]⟩
structure H_f31 (N : TN) (F : TF) : Prop where
  code : F (N k_f31) = some (c_f31 N)
  f30 : H_f30 N F
  f26 : H_f26 N F
theorem r_f31 {F : TF} {N : TN} (h : F (N k_f31) = some (c_f31 N)) {Q : TQ} {a0 a1 : AV} {L : Lg} (e : D_f31_1 F N Q (initE [a0,a1] 0) L) : CallL F (N k_f31) [a0,a1] L Q :=
  CallL.of_wp h (Eq.mpr (Eq.trans (e_f31_1 F N Q (initE [a0,a1] 0) Env.nil L) (by kernel_rfl : _ = D_f31_1 F N Q (initE [a0,a1] 0) L)) e)
def q_f32_3 (N : TN) : ACode := (.reg [oQ (78,.mv,[.l 0]),oQ (79,.mv,[.l 1]),oQ (80,.ld (some 3),[.l 4]),oQ (81,.call (N k_f26),[.t 78,.t 79,.t 80])])
noncomputable def D_f32_3 (F:TF)(N:TN)(Q:TQ) (x0 x1 x4:AV) (L : Lg) : Prop :=
 wpOp F (.ld (some 3)) [x4] L fun v1 L1=>
 CallL F (N k_f26) [x0,x1,v1] L1 fun v2 L2=>
 fin1 (some (.tup [])) Q L2
theorem e_f32_3 (F:TF)(N:TN)(Q:TQ) (l t : Env) (L : Lg) : wp F (q_f32_3 N) l t L (fin [] Q) nE (fin [] Q) = D_f32_3 F N Q (l 0) (l 1) (l 4) L := by kernel_rfl
def w_f32_2 (F:TF)(N:TN)(Q:TQ) : Kn := (fun (l t : Env) (L : Lg) => D_f32_3 F N Q (l 0) (l 1) (l 4) L)
def y_f32_4 (F:TF)(N:TN)(Q:TQ) : Nat → Kn := (fun (j : Nat) (l t : Env) (L : Lg) => bif Nat.beq j 0 then (w_f32_2 F N Q) l t L else nE j l t L)
def y_f32_6 (F:TF)(N:TN)(Q:TQ) (k1 : TK) : Nat → Kn := (fun (j : Nat) (l t : Env) (L : Lg) => bif Nat.beq j 1 then (fun (l _ : Env) (L : Lg) => k1 l L) l t L else (y_f32_4 F N Q) j l t L)
def q_f32_11 (N : TN) : ACode := (.seq (.seq (.reg [oQ (57,.ld (some 3),[.l 4]),oQ (58,.mv,[.l 0]),oQ (59,.nilchk,[.t 58]),oQ (60,.fad 0,[.t 59]),oQ (61,.ld none,[.t 60]),oQ (62,.mv,[.l 6]),oQ (63,.iad 3,[.t 61,.t 62]),oQ (64,.ld (some 3),[.t 63]),oQ (65,.call (N k_f30),[.t 57,.t 64]),oQ (66,.bin .lss,[.t 65,.c (.i .i64 0)])]) (.cond (.t 66) (.exit 0) .skip)) (.seq (.reg [oQ (67,.mv,[.l 0]),oQ (68,.mv,[.l 1]),oQ (69,.mv,[.l 0]),oQ (70,.nilchk,[.t 69]),oQ (71,.fad 0,[.t 70]),oQ (72,.ld none,[.t 71]),oQ (73,.mv,[.l 6]),oQ (74,.iad 3,[.t 72,.t 73]),oQ (75,.ld (some 3),[.t 74]),oQ (76,.call (N k_f26),[.t 67,.t 68,.t 75])]) (.reg [oQ (77,.mv,[.l 6]),⟨.l 1,none,.mv,[.t 77]⟩])))
noncomputable def D_f32_11 (F:TF)(N:TN)(Q:TQ) (k1 : TK) (l : Env) (L : Lg) : Prop :=
 wpOp F (.ld (some 3)) [(l 4)] L fun v1 L1=>
 wpOp F .nilchk [(l 0)] L1 fun v2 L2=>
 wpOp F (.fad 0) [v2] L2 fun v3 L3=>
 wpOp F (.ld none) [v3] L3 fun v4 L4=>
 wpOp F (.iad 3) [v4,(l 6)] L4 fun v5 L5=>
 wpOp F (.ld (some 3)) [v5] L5 fun v6 L6=>
 CallL F (N k_f30) [v1,v6] L6 fun v7 L7=>
 wpOp F (.bin .lss) [v7,(.i .i64 0)] L7 fun v8 L8=>
 condW v8
 (D_f32_3 F N Q (l 0) (l 1) (l 4) L8)
 (wpOp F .nilchk [(l 0)] L8 fun v9 L9=>
 wpOp F (.fad 0) [v9] L9 fun v10 L10=>
 wpOp F (.ld none) [v10] L10 fun v11 L11=>
 wpOp F (.iad 3) [v11,(l 6)] L11 fun v12 L12=>
 wpOp F (.ld (some 3)) [v12] L12 fun v13 L13=>
 CallL F (N k_f26) [(l 0),(l 1),v13] L13 fun v14 L14=>
 k1 (Env.put l 1 (l 6)) L14)
theorem e_f32_11 (F:TF)(N:TN)(Q:TQ) (k1 : TK) (l t : Env) (L : Lg) : wp F (q_f32_11 N) l t L (fun (l _ : Env) (L : Lg) => k1 l L) (y_f32_6 F N Q k1) (fin [] Q) = D_f32_11 F N Q k1 l L := by kernel_rfl
def w_f32_10 (F:TF)(N:TN)(Q:TQ) (k1 : TK) : Kn := (fun (l t : Env) (L : Lg) => D_f32_11 F N Q k1 l L)
def y_f32_13 (F:TF)(N:TN)(Q:TQ) (k1 : TK) : Nat → Kn := (fun (j : Nat) (l t : Env) (L : Lg) => bif Nat.beq j 2 then (w_f32_10 F N Q k1) l t L else (y_f32_6 F N Q k1) j l t L)
def q_f32_15 (N : TN) : ACode := (.seq (.seq (.reg [oQ (28,.mv,[.l 7]),oQ (29,.mv,[.l 5]),oQ (30,.bin .add,[.t 29,.c (.i .i64 4)]),oQ (31,.mv,[.l 0]),oQ (32,.nilchk,[.t 31]),oQ (33,.fad 0,[.t 32]),oQ (34,.ld none,[.t 33]),oQ (35,.lenSl,[.t 34]),oQ (36,.min,[.t 30,.t 35]),oQ (37,.bin .lss,[.t 28,.t 36])]) (.cond (.t 37) .skip (.exit 2))) (.seq (.block 3 (.seq (.reg [oQ (40,.mv,[.l 0]),oQ (41,.nilchk,[.t 40]),oQ (42,.fad 0,[.t 41]),oQ (43,.ld none,[.t 42]),oQ (44,.mv,[.l 7]),oQ (45,.iad 3,[.t 43,.t 44]),oQ (46,.ld (some 3),[.t 45]),oQ (47,.mv,[.l 0]),oQ (48,.nilchk,[.t 47]),oQ (49,.fad 0,[.t 48]),oQ (50,.ld none,[.t 49]),oQ (51,.mv,[.l 6]),oQ (52,.iad 3,[.t 50,.t 51]),oQ (53,.ld (some 3),[.t 52]),oQ (54,.call (N k_f30),[.t 46,.t 53]),oQ (55,.bin .lss,[.t 54,.c (.i .i64 0)])]) (.cond (.t 55) (.reg [oQ (56,.mv,[.l 7]),⟨.l 6,none,.mv,[.t 56]⟩]) .skip))) (.reg [oQ (38,.mv,[.l 7]),oQ (39,.bin .add,[.t 38,.c (.i .i64 1)]),⟨.l 7,none,.mv,[.t 39]⟩])))
noncomputable def D_f32_15 (F:TF)(N:TN)(Q:TQ) (k1 : TK) (k2 : TK) (l : Env) (L : Lg) : Prop :=
 wpOp F (.bin .add) [(l 5),(.i .i64 4)] L fun v1 L1=>
 wpOp F .nilchk [(l 0)] L1 fun v2 L2=>
 wpOp F (.fad 0) [v2] L2 fun v3 L3=>
 wpOp F (.ld none) [v3] L3 fun v4 L4=>
 wpOp F .lenSl [v4] L4 fun v5 L5=>
 wpOp F .min [v1,v5] L5 fun v6 L6=>
 wpOp F (.bin .lss) [(l 7),v6] L6 fun v7 L7=>
 condW v7
 (wpOp F .nilchk [(l 0)] L7 fun v8 L8=>
 wpOp F (.fad 0) [v8] L8 fun v9 L9=>
 wpOp F (.ld none) [v9] L9 fun v10 L10=>
 wpOp F (.iad 3) [v10,(l 7)] L10 fun v11 L11=>
 wpOp F (.ld (some 3)) [v11] L11 fun v12 L12=>
 wpOp F .nilchk [(l 0)] L12 fun v13 L13=>
 wpOp F (.fad 0) [v13] L13 fun v14 L14=>
 wpOp F (.ld none) [v14] L14 fun v15 L15=>
 wpOp F (.iad 3) [v15,(l 6)] L15 fun v16 L16=>
 wpOp F (.ld (some 3)) [v16] L16 fun v17 L17=>
 CallL F (N k_f30) [v12,v17] L17 fun v18 L18=>
 wpOp F (.bin .lss) [v18,(.i .i64 0)] L18 fun v19 L19=>
 condW v19
 (wpOp F (.bin .add) [(l 7),(.i .i64 1)] L19 fun v20 L20=>
 k2 (Env.put (Env.put l 6 (l 7)) 7 v20) L20)
 (wpOp F (.bin .add) [(l 7),(.i .i64 1)] L19 fun v21 L21=>
 k2 (Env.put l 7 v21) L21))
 (D_f32_11 F N Q k1 l L7)
theorem e_f32_15 (F:TF)(N:TN)(Q:TQ) (k1 : TK) (k2 : TK) (l t : Env) (L : Lg) : wp F (q_f32_15 N) l t L (fun (l _ : Env) (L : Lg) => k2 l L) (y_f32_13 F N Q k1) (fin [] Q) = D_f32_15 F N Q k1 k2 l L := by kernel_rfl
def q_f32_14 (N : TN) : ACode := (.loop (q_f32_15 N))
noncomputable def D_f32_14 (F:TF)(N:TN)(Q:TQ) (k1 : TK) (l : Env) (L : Lg) : Prop :=
 loopW (fun l t L k2 => D_f32_15 F N Q k1 k2 l L) l L
theorem e_f32_14 (F:TF)(N:TN)(Q:TQ) (k1 : TK) (l t : Env) (L : Lg) : wp F (q_f32_14 N) l t L (w_f32_10 F N Q k1) (y_f32_13 F N Q k1) (fin [] Q) = D_f32_14 F N Q k1 l L := wpL (fun l t L k2 => e_f32_15 F N Q k1 k2 l t L) (by kernel_rfl)
def q_f32_13 (N : TN) : ACode := (.block 2 (q_f32_14 N))
theorem e_f32_13 (F:TF)(N:TN)(Q:TQ) (k1 : TK) (l t : Env) (L : Lg) : wp F (q_f32_13 N) l t L (w_f32_10 F N Q k1) (y_f32_6 F N Q k1) (fin [] Q) = D_f32_14 F N Q k1 l L := wpB (e_f32_14 F N Q k1 l t L)
def q_f32_12a (N : TN) : ACode := (.reg [oQ (26,.mv,[.l 5]),oQ (27,.bin .add,[.t 26,.c (.i .i64 1)]),⟨.l 7,none,.mv,[.t 27]⟩])
def q_f32_12 (N : TN) : ACode := (.seq (q_f32_12a N) (q_f32_13 N))
noncomputable def D_f32_12 (F:TF)(N:TN)(Q:TQ) (k1 : TK) (l : Env) (L : Lg) : Prop :=
 wpOp F (.bin .add) [(l 5),(.i .i64 1)] L fun v1 L1=>
 D_f32_14 F N Q k1 (Env.put l 7 v1) L1
theorem e_f32_12 (F:TF)(N:TN)(Q:TQ) (k1 : TK) (l t : Env) (L : Lg) : wp F (q_f32_12 N) l t L (w_f32_10 F N Q k1) (y_f32_6 F N Q k1) (fin [] Q) = D_f32_12 F N Q k1 l L := wpS (e_f32_13 F N Q k1) (by kernel_rfl)
def q_f32_10 (N : TN) : ACode := (.seq (q_f32_12 N) (q_f32_11 N))
theorem e_f32_10 (F:TF)(N:TN)(Q:TQ) (k1 : TK) (l t : Env) (L : Lg) : wp F (q_f32_10 N) l t L (fun (l _ : Env) (L : Lg) => k1 l L) (y_f32_6 F N Q k1) (fin [] Q) = D_f32_12 F N Q k1 l L := wpS (e_f32_11 F N Q k1) (e_f32_12 F N Q k1 l t L)
def q_f32_9a (N : TN) : ACode := (.reg [oQ (25,.mv,[.l 5]),⟨.l 6,none,.mv,[.t 25]⟩])
def q_f32_9 (N : TN) : ACode := (.seq (q_f32_9a N) (q_f32_10 N))
noncomputable def D_f32_9 (F:TF)(N:TN)(Q:TQ) (k1 : TK) (l : Env) (L : Lg) : Prop :=
 D_f32_12 F N Q k1 (Env.put l 6 (l 5)) L
theorem e_f32_9 (F:TF)(N:TN)(Q:TQ) (k1 : TK) (l t : Env) (L : Lg) : wp F (q_f32_9 N) l t L (fun (l _ : Env) (L : Lg) => k1 l L) (y_f32_6 F N Q k1) (fin [] Q) = D_f32_9 F N Q k1 l L := wpS (e_f32_10 F N Q k1) (by kernel_rfl)
def q_f32_8a (N : TN) : ACode := (.seq (.reg [oQ (18,.mv,[.l 5]),oQ (19,.mv,[.l 0]),oQ (20,.nilchk,[.t 19]),oQ (21,.fad 0,[.t 20]),oQ (22,.ld none,[.t 21]),oQ (23,.lenSl,[.t 22]),oQ (24,.bin .geq,[.t 18,.t 23])]) (.cond (.t 24) (.exit 0) .skip))
def q_f32_8 (N : TN) : ACode := (.seq (q_f32_8a N) (q_f32_9 N))
noncomputable def D_f32_8 (F:TF)(N:TN)(Q:TQ) (k1 : TK) (l : Env) (L : Lg) : Prop :=
 wpOp F .nilchk [(l 0)] L fun v1 L1=>
 wpOp F (.fad 0) [v1] L1 fun v2 L2=>
 wpOp F (.ld none) [v2] L2 fun v3 L3=>
 wpOp F .lenSl [v3] L3 fun v4 L4=>
 wpOp F (.bin .geq) [(l 5),v4] L4 fun v5 L5=>
 condW v5
 (D_f32_3 F N Q (l 0) (l 1) (l 4) L5)
 (D_f32_9 F N Q k1 l L5)
theorem e_f32_8 (F:TF)(N:TN)(Q:TQ) (k1 : TK) (l t : Env) (L : Lg) : wp F (q_f32_8 N) l t L (fun (l _ : Env) (L : Lg) => k1 l L) (y_f32_6 F N Q k1) (fin [] Q) = D_f32_8 F N Q k1 l L := wpS (e_f32_9 F N Q k1) (by kernel_rfl)
def q_f32_7a (N : TN) : ACode := (.reg [oQ (15,.mv,[.l 1]),oQ (16,.bin .mul,[.c (.i .i64 4),.t 15]),oQ (17,.bin .add,[.t 16,.c (.i .i64 1)]),⟨.l 5,none,.mv,[.t 17]⟩])
def q_f32_7 (N : TN) : ACode := (.seq (q_f32_7a N) (q_f32_8 N))
noncomputable def D_f32_7 (F:TF)(N:TN)(Q:TQ) (k1 : TK) (l : Env) (L : Lg) : Prop :=
 wpOp F (.bin .mul) [(.i .i64 4),(l 1)] L fun v1 L1=>
 wpOp F (.bin .add) [v1,(.i .i64 1)] L1 fun v2 L2=>
 D_f32_8 F N Q k1 (Env.put l 5 v2) L2
theorem e_f32_7 (F:TF)(N:TN)(Q:TQ) (k1 : TK) (l t : Env) (L : Lg) : wp F (q_f32_7 N) l t L (fun (l _ : Env) (L : Lg) => k1 l L) (y_f32_6 F N Q k1) (fin [] Q) = D_f32_7 F N Q k1 l L := wpS (e_f32_8 F N Q k1) (by kernel_rfl)
def q_f32_6 (N : TN) : ACode := (.block 1 (q_f32_7 N))
theorem e_f32_6 (F:TF)(N:TN)(Q:TQ) (k1 : TK) (l t : Env) (L : Lg) : wp F (q_f32_6 N) l t L (fun (l _ : Env) (L : Lg) => k1 l L) (y_f32_4 F N Q) (fin [] Q) = D_f32_7 F N Q k1 l L := wpB (e_f32_7 F N Q k1 l t L)
def q_f32_5 (N : TN) : ACode := (.loop (q_f32_6 N))
noncomputable def D_f32_5 (F:TF)(N:TN)(Q:TQ) (l : Env) (L : Lg) : Prop :=
 loopW (fun l t L k1 => D_f32_7 F N Q k1 l L) l L
theorem e_f32_5 (F:TF)(N:TN)(Q:TQ) (l t : Env) (L : Lg) : wp F (q_f32_5 N) l t L (w_f32_2 F N Q) (y_f32_4 F N Q) (fin [] Q) = D_f32_5 F N Q l L := wpL (fun l t L k1 => e_f32_6 F N Q k1 l t L) (by kernel_rfl)
def q_f32_4 (N : TN) : ACode := (.block 0 (q_f32_5 N))
theorem e_f32_4 (F:TF)(N:TN)(Q:TQ) (l t : Env) (L : Lg) : wp F (q_f32_4 N) l t L (w_f32_2 F N Q) nE (fin [] Q) = D_f32_5 F N Q l L := wpB (e_f32_5 F N Q l t L)
def q_f32_2 (N : TN) : ACode := (.seq (q_f32_4 N) (q_f32_3 N))
theorem e_f32_2 (F:TF)(N:TN)(Q:TQ) (l t : Env) (L : Lg) : wp F (q_f32_2 N) l t L (fin [] Q) nE (fin [] Q) = D_f32_5 F N Q l L := wpS (e_f32_3 F N Q) (e_f32_4 F N Q l t L)
def q_f32_1a (N : TN) : ACode := (.reg [oQ (8,.mv,[.l 0]),oQ (9,.nilchk,[.t 8]),oQ (10,.fad 0,[.t 9]),oQ (11,.ld none,[.t 10]),oQ (12,.mv,[.l 1]),oQ (13,.iad 3,[.t 11,.t 12]),oQ (14,.ld (some 3),[.t 13]),⟨.l 4,none,.alloc [.i .i64 0,.i .i64 0,.i .i64 0],[]⟩,⟨.no,none,.st 3,[.l 4,.t 14]⟩])
def q_f32_1 (N : TN) : ACode := (.seq (q_f32_1a N) (q_f32_2 N))
noncomputable def D_f32_1 (F:TF)(N:TN)(Q:TQ) (l : Env) (L : Lg) : Prop :=
 wpOp F .nilchk [(l 0)] L fun v1 L1=>
 wpOp F (.fad 0) [v1] L1 fun v2 L2=>
 wpOp F (.ld none) [v2] L2 fun v3 L3=>
 wpOp F (.iad 3) [v3,(l 1)] L3 fun v4 L4=>
 wpOp F (.ld (some 3)) [v4] L4 fun v5 L5=>
 wpOp F (.alloc [.i .i64 0,.i .i64 0,.i .i64 0]) [] L5 fun v6 L6=>
 wpOp F (.st 3) [v6,v5] L6 fun _ L7=>
 D_f32_5 F N Q (Env.put l 4 v6) L7
theorem e_f32_1 (F:TF)(N:TN)(Q:TQ) (l t : Env) (L : Lg) : wp F (q_f32_1 N) l t L (fin [] Q) nE (fin [] Q) = D_f32_1 F N Q l L := wpS (e_f32_2 F N Q) (by kernel_rfl)
def c_f32 (N : TN) : AFn := ⟨q_f32_1 N,[]⟩
structure H_f32 (N : TN) (F : TF) : Prop where
  code : F (N k_f32) = some (c_f32 N)
  f30 : H_f30 N F
  f26 : H_f26 N F
theorem r_f32 {F : TF} {N : TN} (h : F (N k_f32) = some (c_f32 N)) {Q : TQ} {a0 a1 : AV} {L : Lg} (e : D_f32_1 F N Q (initE [a0,a1] 0) L) : CallL F (N k_f32) [a0,a1] L Q :=
  CallL.of_wp h (Eq.mpr (Eq.trans (e_f32_1 F N Q (initE [a0,a1] 0) Env.nil L) (by kernel_rfl : _ = D_f32_1 F N Q (initE [a0,a1] 0) L)) e)
def q_f33_7 (N : TN) : ACode := (.seq (.reg [oQ (48,.mv,[.l 0]),oQ (49,.nilchk,[.t 48]),oQ (50,.fad 1,[.t 49]),oQ (51,.ld none,[.t 50]),oQ (52,.mv,[.l 1]),⟨.no,none,.mdel,[.t 51,.t 52]⟩]) (.seq (.seq (.reg [oQ (53,.mv,[.l 8]),oQ (54,.mv,[.l 9]),oQ (55,.bin .lss,[.t 53,.t 54])]) (.cond (.t 55) (.seq (.reg [oQ (56,.mv,[.l 0]),oQ (57,.mv,[.l 8]),oQ (58,.ld (some 3),[.l 10]),oQ (59,.call (N k_f26),[.t 56,.t 57,.t 58])]) (.seq (.reg [oQ (60,.mv,[.l 0]),oQ (61,.mv,[.l 8]),oQ (62,.call (N k_f31),[.t 60,.t 61])]) (.reg [oQ (63,.mv,[.l 0]),oQ (64,.mv,[.l 0]),oQ (65,.nilchk,[.t 64]),oQ (66,.fad 1,[.t 65]),oQ (67,.ld none,[.t 66]),oQ (68,.fad 0,[.l 10]),oQ (69,.ld none,[.t 68]),oQ (70,.lkup (.i .i64 0) false,[.t 67,.t 69]),oQ (71,.call (N k_f32),[.t 63,.t 70])]))) .skip)) (.seq (.reg [oQ (72,.ld (some 3),[.l 6]),⟨.no,none,.st 3,[.l 4,.t 72]⟩,⟨.l 5,none,.mv,[.c (.b true)]⟩]) .ret)))
noncomputable def D_f33_7 (F:TF)(N:TN)(Q:TQ) (x0 x1 x4 x6 x8 x9 x10:AV) (L : Lg) : Prop :=
 wpOp F .nilchk [x0] L fun v1 L1=>
 wpOp F (.fad 1) [v1] L1 fun v2 L2=>
 wpOp F (.ld none) [v2] L2 fun v3 L3=>
 wpOp F .mdel [v3,x1] L3 fun _ L4=>
 wpOp F (.bin .lss) [x8,x9] L4 fun v5 L5=>
 condW v5
 (wpOp F (.ld (some 3)) [x10] L5 fun v6 L6=>
 CallL F (N k_f26) [x0,x8,v6] L6 fun v7 L7=>
 CallL F (N k_f31) [x0,x8] L7 fun v8 L8=>
 wpOp F .nilchk [x0] L8 fun v9 L9=>
 wpOp F (.fad 1) [v9] L9 fun v10 L10=>
 wpOp F (.ld none) [v10] L10 fun v11 L11=>
 wpOp F (.fad 0) [x10] L11 fun v12 L12=>
 wpOp F (.ld none) [v12] L12 fun v13 L13=>
 wpOp F (.lkup (.i .i64 0) false) [v11,v13] L13 fun v14 L14=>
 CallL F (N k_f32) [x0,v14] L14 fun v15 L15=>
 wpOp F (.ld (some 3)) [x6] L15 fun v16 L16=>
 wpOp F (.st 3) [x4,v16] L16 fun _ L17=>
 fin1 (resVL Env.nil Env.nil L17 [.cell (.c x4) (some 3),.tmp (.c (.b true))]) Q L17)
 (wpOp F (.ld (some 3)) [x6] L5 fun v18 L18=>
 wpOp F (.st 3) [x4,v18] L18 fun _ L19=>
 fin1 (resVL Env.nil Env.nil L19 [.cell (.c x4) (some 3),.tmp (.c (.b true))]) Q L19)
theorem e_f33_7 (F:TF)(N:TN)(Q:TQ) (l t : Env) (L : Lg) : wp F (q_f33_7 N) l t L (fin [.cell (.l 4) (some 3),.tmp (.l 5)] Q) nE (fin [.cell (.l 4) (some 3),.tmp (.l 5)] Q) = D_f33_7 F N Q (l 0) (l 1) (l 4) (l 6) (l 8) (l 9) (l 10) L := by kernel_rfl
def q_f33_6a (N : TN) : ACode := (.reg [oQ (39,.mv,[.l 0]),oQ (40,.mv,[.l 0]),oQ (41,.nilchk,[.t 40]),oQ (42,.fad 0,[.t 41]),oQ (43,.ld none,[.t 42]),oQ (44,.mv,[.l 9]),oQ (45,.slc 3 false true false,[.t 43,.t 44]),oQ (46,.nilchk,[.t 39]),oQ (47,.fad 0,[.t 46]),⟨.no,none,.st 1,[.t 47,.t 45]⟩])
def q_f33_6 (N : TN) : ACode := (.seq (q_f33_6a N) (q_f33_7 N))
noncomputable def D_f33_6 (F:TF)(N:TN)(Q:TQ) (x0 x1 x4 x6 x8 x9 x10:AV) (L : Lg) : Prop :=
 wpOp F .nilchk [x0] L fun v1 L1=>
 wpOp F (.fad 0) [v1] L1 fun v2 L2=>
 wpOp F (.ld none) [v2] L2 fun v3 L3=>
 wpOp F (.slc 3 false true false) [v3,x9] L3 fun v4 L4=>
 wpOp F .nilchk [x0] L4 fun v5 L5=>
 wpOp F (.fad 0) [v5] L5 fun v6 L6=>
 wpOp F (.st 1) [v6,v4] L6 fun _ L7=>
 D_f33_7 F N Q x0 x1 x4 x6 x8 x9 x10 L7
theorem e_f33_6 (F:TF)(N:TN)(Q:TQ) (l t : Env) (L : Lg) : wp F (q_f33_6 N) l t L (fin [.cell (.l 4) (some 3),.tmp (.l 5)] Q) nE (fin [.cell (.l 4) (some 3),.tmp (.l 5)] Q) = D_f33_6 F N Q (l 0) (l 1) (l 4) (l 6) (l 8) (l 9) (l 10) L := wpS (e_f33_7 F N Q) (by kernel_rfl)
def q_f33_5a (N : TN) : ACode := (.reg [oQ (32,.mv,[.l 0]),oQ (33,.nilchk,[.t 32]),oQ (34,.fad 0,[.t 33]),oQ (35,.ld none,[.t 34]),oQ (36,.mv,[.l 9]),oQ (37,.iad 3,[.t 35,.t 36]),oQ (38,.ld (some 3),[.t 37]),⟨.l 10,none,.alloc [.i .i64 0,.i .i64 0,.i .i64 0],[]⟩,⟨.no,none,.st 3,[.l 10,.t 38]⟩])
def q_f33_5 (N : TN) : ACode := (.seq (q_f33_5a N) (q_f33_6 N))
noncomputable def D_f33_5 (F:TF)(N:TN)(Q:TQ) (x0 x1 x4 x6 x8 x9:AV) (L : Lg) : Prop :=
 wpOp F .nilchk [x0] L fun v1 L1=>
 wpOp F (.fad 0) [v1] L1 fun v2 L2=>
 wpOp F (.ld none) [v2] L2 fun v3 L3=>
 wpOp F (.iad 3) [v3,x9] L3 fun v4 L4=>
 wpOp F (.ld (some 3)) [v4] L4 fun v5 L5=>
 wpOp F (.alloc [.i .i64 0,.i .i64 0,.i .i64 0]) [] L5 fun v6 L6=>
 wpOp F (.st 3) [v6,v5] L6 fun _ L7=>
 D_f33_6 F N Q x0 x1 x4 x6 x8 x9 v6 L7
theorem e_f33_5 (F:TF)(N:TN)(Q:TQ) (l t : Env) (L : Lg) : wp F (q_f33_5 N) l t L (fin [.cell (.l 4) (some 3),.tmp (.l 5)] Q) nE (fin [.cell (.l 4) (some 3),.tmp (.l 5)] Q) = D_f33_5 F N Q (l 0) (l 1) (l 4) (l 6) (l 8) (l 9) L := wpS (e_f33_6 F N Q) (by kernel_rfl)
def q_f33_4a (N : TN) : ACode := (.reg [oQ (20,.mv,[.l 0]),oQ (21,.nilchk,[.t 20]),oQ (22,.fad 1,[.t 21]),oQ (23,.ld none,[.t 22]),oQ (24,.mv,[.l 1]),oQ (25,.lkup (.i .i64 0) false,[.t 23,.t 24]),oQ (26,.mv,[.l 0]),oQ (27,.nilchk,[.t 26]),oQ (28,.fad 0,[.t 27]),oQ (29,.ld none,[.t 28]),oQ (30,.lenSl,[.t 29]),oQ (31,.bin .sub,[.t 30,.c (.i .i64 1)]),⟨.l 8,none,.mv,[.t 25]⟩,⟨.l 9,none,.mv,[.t 31]⟩])
def q_f33_4 (N : TN) : ACode := (.seq (q_f33_4a N) (q_f33_5 N))
noncomputable def D_f33_4 (F:TF)(N:TN)(Q:TQ) (x0 x1 x4 x6:AV) (L : Lg) : Prop :=
 wpOp F .nilchk [x0] L fun v1 L1=>
 wpOp F (.fad 1) [v1] L1 fun v2 L2=>
 wpOp F (.ld none) [v2] L2 fun v3 L3=>
 wpOp F (.lkup (.i .i64 0) false) [v3,x1] L3 fun v4 L4=>
 wpOp F .nilchk [x0] L4 fun v5 L5=>
 wpOp F (.fad 0) [v5] L5 fun v6 L6=>
 wpOp F (.ld none) [v6] L6 fun v7 L7=>
 wpOp F .lenSl [v7] L7 fun v8 L8=>
 wpOp F (.bin .sub) [v8,(.i .i64 1)] L8 fun v9 L9=>
 D_f33_5 F N Q x0 x1 x4 x6 v4 v9 L9
theorem e_f33_4 (F:TF)(N:TN)(Q:TQ) (l t : Env) (L : Lg) : wp F (q_f33_4 N) l t L (fin [.cell (.l 4) (some 3),.tmp (.l 5)] Q) nE (fin [.cell (.l 4) (some 3),.tmp (.l 5)] Q) = D_f33_4 F N Q (l 0) (l 1) (l 4) (l 6) L := wpS (e_f33_5 F N Q) (by kernel_rfl)
def q_f33_3a (N : TN) : ACode := (.seq (.reg [oQ (17,.mv,[.l 7]),oQ (18,.un .not,[.t 17])]) (.cond (.t 18) (.seq (.reg [oQ (19,.build [.i .i64 0,.i .i64 0,.i .i64 0] [],[]),⟨.no,none,.st 3,[.l 4,.t 19]⟩,⟨.l 5,none,.mv,[.c (.b false)]⟩]) .ret) .skip))
def q_f33_3 (N : TN) : ACode := (.seq (q_f33_3a N) (q_f33_4 N))
noncomputable def D_f33_3 (F:TF)(N:TN)(Q:TQ) (x0 x1 x4 x6 x7:AV) (L : Lg) : Prop :=
 wpOp F (.un .not) [x7] L fun v1 L1=>
 condW v1
 (wpOp F (.build [.i .i64 0,.i .i64 0,.i .i64 0] []) [] L1 fun v2 L2=>
 wpOp F (.st 3) [x4,v2] L2 fun _ L3=>
 fin1 (resVL Env.nil Env.nil L3 [.cell (.c x4) (some 3),.tmp (.c (.b false))]) Q L3)
 (D_f33_4 F N Q x0 x1 x4 x6 L1)
theorem e_f33_3 (F:TF)(N:TN)(Q:TQ) (l t : Env) (L : Lg) : wp F (q_f33_3 N) l t L (fin [.cell (.l 4) (some 3),.tmp (.l 5)] Q) nE (fin [.cell (.l 4) (some 3),.tmp (.l 5)] Q) = D_f33_3 F N Q (l 0) (l 1) (l 4) (l 6) (l 7) L := wpS (e_f33_4 F N Q) (by kernel_rfl)
def q_f33_2a (N : TN) : ACode := (.reg [oQ (12,.mv,[.l 0]),oQ (13,.mv,[.l 1]),oQ (14,.call (N k_f25),[.t 12,.t 13]),oQ (11,.mv,[.t 14]),oQ (15,.ext 0,[.t 11]),oQ (16,.ext 1,[.t 11]),⟨.l 6,none,.alloc [.i .i64 0,.i .i64 0,.i .i64 0],[]⟩,⟨.no,none,.st 3,[.l 6,.t 15]⟩,⟨.l 7,none,.mv,[.t 16]⟩])
def q_f33_2 (N : TN) : ACode := (.seq (q_f33_2a N) (q_f33_3 N))
noncomputable def D_f33_2 (F:TF)(N:TN)(Q:TQ) (x0 x1 x4:AV) (L : Lg) : Prop :=
 CallL F (N k_f25) [x0,x1] L fun v1 L1=>
 wpOp F (.ext 0) [v1] L1 fun v2 L2=>
 wpOp F (.ext 1) [v1] L2 fun v3 L3=>
 wpOp F (.alloc [.i .i64 0,.i .i64 0,.i .i64 0]) [] L3 fun v4 L4=>
 wpOp F (.st 3) [v4,v2] L4 fun _ L5=>
 D_f33_3 F N Q x0 x1 x4 v4 v3 L5
theorem e_f33_2 (F:TF)(N:TN)(Q:TQ) (l t : Env) (L : Lg) : wp F (q_f33_2 N) l t L (fin [.cell (.l 4) (some 3),.tmp (.l 5)] Q) nE (fin [.cell (.l 4) (some 3),.tmp (.l 5)] Q) = D_f33_2 F N Q (l 0) (l 1) (l 4) L := wpS (e_f33_3 F N Q) (by kernel_rfl)
def q_f33_1a (N : TN) : ACode := (.reg [⟨.l 4,none,.alloc [.i .i64 0,.i .i64 0,.i .i64 0],[]⟩,⟨.l 5,none,.mv,[.c (.b false)]⟩])
def q_f33_1 (N : TN) : ACode := (.seq (q_f33_1a N) (q_f33_2 N))
noncomputable def D_f33_1 (F:TF)(N:TN)(Q:TQ) (x0 x1:AV) (L : Lg) : Prop :=
 wpOp F (.alloc [.i .i64 0,.i .i64 0,.i .i64 0]) [] L fun v1 L1=>
 D_f33_2 F N Q x0 x1 v1 L1
theorem e_f33_1 (F:TF)(N:TN)(Q:TQ) (l t : Env) (L : Lg) : wp F (q_f33_1 N) l t L (fin [.cell (.l 4) (some 3),.tmp (.l 5)] Q) nE (fin [.cell (.l 4) (some 3),.tmp (.l 5)] Q) = D_f33_1 F N Q (l 0) (l 1) L := wpS (e_f33_2 F N Q) (by kernel_rfl)
def c_f33 (N : TN) : AFn := ⟨q_f33_1 N,[.cell (.l 4) (some 3),.tmp (.l 5)]⟩
structure H_f33 (N : TN) (F : TF) : Prop where
  code : F (N k_f33) = some (c_f33 N)
  f25 : H_f25 N F
  f26 : H_f26 N F
  f31 : H_f31 N F
  f32 : H_f32 N F
theorem r_f33 {F : TF} {N : TN} (h : F (N k_f33) = some (c_f33 N)) {Q : TQ} {a0 a1 : AV} {L : Lg} (e : D_f33_1 F N Q a0 a1 L) : CallL F (N k_f33) [a0,a1] L Q :=
  CallL.of_wp h (Eq.mpr (Eq.trans (e_f33_1 F N Q (initE [a0,a1] 0) Env.nil L) (by kernel_rfl : _ = D_f33_1 F N Q a0 a1 L)) e)
def q_f34_1 (N : TN) : ACode := (.seq (.reg [⟨.l 4,none,.mv,[.c (.b false)]⟩]) (.seq (.seq (.reg [oQ (7,.mv,[.l 0]),oQ (8,.eq false .ptr,[.t 7,.c (.p none)])]) (.cond (.t 8) (.seq (.reg [⟨.l 4,none,.mv,[.c (.b false)]⟩]) .ret) .skip)) (.seq (.reg [oQ (10,.mv,[.l 0]),oQ (11,.nilchk,[.t 10]),oQ (12,.fad 0,[.t 11]),oQ (13,.ld none,[.t 12]),oQ (14,.mv,[.l 1]),oQ (15,.call (N k_f33),[.t 13,.t 14]),oQ (9,.mv,[.t 15]),oQ (16,.ext 0,[.t 9]),oQ (17,.ext 1,[.t 9]),oQ (5,.alloc [.i .i64 0,.i .i64 0,.i .i64 0],[]),⟨.no,none,.st 3,[.t 5,.t 16]⟩,⟨.l 6,none,.mv,[.t 17]⟩]) (.seq (.reg [oQ (18,.mv,[.l 0]),oQ (19,.nilchk,[.t 18]),oQ (20,.fad 1,[.t 19]),oQ (21,.ld none,[.t 20]),oQ (22,.mv,[.l 1]),⟨.no,none,.mdel,[.t 21,.t 22]⟩]) (.seq (.reg [oQ (23,.mv,[.l 6]),⟨.l 4,none,.mv,[.t 23]⟩]) .ret)))))
noncomputable def D_f34_1 (F:TF)(N:TN)(Q:TQ) (x0 x1:AV) (L : Lg) : Prop :=
 wpOp F (.eq false .ptr) [x0,(.p none)] L fun v1 L1=>
 condW v1
 (fin1 (some (.b false)) Q L1)
 (wpOp F .nilchk [x0] L1 fun v2 L2=>
 wpOp F (.fad 0) [v2] L2 fun v3 L3=>
 wpOp F (.ld none) [v3] L3 fun v4 L4=>
 CallL F (N k_f33) [v4,x1] L4 fun v5 L5=>
 wpOp F (.ext 0) [v5] L5 fun v6 L6=>
 wpOp F (.ext 1) [v5] L6 fun v7 L7=>
 wpOp F (.alloc [.i .i64 0,.i .i64 0,.i .i64 0]) [] L7 fun v8 L8=>
 wpOp F (.st 3) [v8,v6] L8 fun _ L9=>
 wpOp F .nilchk [x0] L9 fun v10 L10=>
 wpOp F (.fad 1) [v10] L10 fun v11 L11=>
 wpOp F (.ld none) [v11] L11 fun v12 L12=>
 wpOp F .mdel [v12,x1] L12 fun _ L13=>
 fin1 (some v7) Q L13)
theorem e_f34_1 (F:TF)(N:TN)(Q:TQ) (l t : Env) (L : Lg) : wp F (q_f34_1 N) l t L (fin [.tmp (.l 4)] Q) nE (fin [.tmp (.l 4)] Q) = D_f34_1 F N Q (l 0) (l 1) L := by kernel_rfl
def c_f34 (N : TN) : AFn := ⟨q_f34_1 N,[.tmp (.l 4)]⟩
structure H_f34 (N : TN) (F : TF) : Prop where
  code : F (N k_f34) = some (c_f34 N)
  f33 : H_f33 N F
theorem r_f34 {F : TF} {N : TN} (h : F (N k_f34) = some (c_f34 N)) {Q : TQ} {a0 a1 : AV} {L : Lg} (e : D_f34_1 F N Q a0 a1 L) : CallL F (N k_f34) [a0,a1] L Q :=
  CallL.of_wp h (Eq.mpr (Eq.trans (e_f34_1 F N Q (initE [a0,a1] 0) Env.nil L) (by kernel_rfl : _ = D_f34_1 F N Q a0 a1 L)) e)
def q_f35_4 (N : TN) : ACode := (.seq (.reg [oQ (21,.mv,[.l 0]),oQ (22,.nilchk,[.t 21]),oQ (23,.fad 2,[.t 22]),oQ (24,.ld none,[.t 23]),oQ (25,.bin .add,[.t 24,.c (.i .i64 1)]),oQ (26,.nilchk,[.t 21]),oQ (27,.fad 2,[.t 26]),⟨.no,none,.st 1,[.t 27,.t 25]⟩]) (.seq (.reg [oQ (28,.mv,[.l 0]),oQ (29,.mv,[.l 0]),oQ (30,.nilchk,[.t 29]),oQ (31,.fad 0,[.t 30]),oQ (32,.ld none,[.t 31]),oQ (33,.mv,[.l 1]),oQ (34,.mv,[.l 2]),oQ (35,.mv,[.l 0]),oQ (36,.nilchk,[.t 35]),oQ (37,.fad 2,[.t 36]),oQ (38,.ld none,[.t 37]),oQ (39,.build [.i .i64 0,.i .i64 0,.i .i64 0] [(0,1),(1,1),(2,1)],[.t 33,.t 34,.t 38]),oQ (40,.bslice [.i .i64 0,.i .i64 0,.i .i64 0] 1 3 [0],[.t 39]),oQ (41,.app 3 24,[.t 32,.t 40]),oQ (42,.nilchk,[.t 28]),oQ (43,.fad 0,[.t 42]),⟨.no,none,.st 1,[.t 43,.t 41]⟩]) (.seq (.reg [oQ (44,.mv,[.l 0]),oQ (45,.mv,[.l 0]),oQ (46,.nilchk,[.t 45]),oQ (47,.fad 0,[.t 46]),oQ (48,.ld none,[.t 47]),oQ (49,.lenSl,[.t 48]),oQ (50,.bin .sub,[.t 49,.c (.i .i64 1)]),oQ (51,.call (N k_f31),[.t 44,.t 50])]) (.seq (.reg [⟨.l 6,none,.mv,[.c (.i .i64 0)]⟩]) .ret))))
noncomputable def D_f35_4 (F:TF)(N:TN)(Q:TQ) (x0 x1 x2:AV) (L : Lg) : Prop :=
 wpOp F .nilchk [x0] L fun v1 L1=>
 wpOp F (.fad 2) [v1] L1 fun v2 L2=>
 wpOp F (.ld none) [v2] L2 fun v3 L3=>
 wpOp F (.bin .add) [v3,(.i .i64 1)] L3 fun v4 L4=>
 wpOp F .nilchk [x0] L4 fun v5 L5=>
 wpOp F (.fad 2) [v5] L5 fun v6 L6=>
 wpOp F (.st 1) [v6,v4] L6 fun _ L7=>
 wpOp F .nilchk [x0] L7 fun v8 L8=>
 wpOp F (.fad 0) [v8] L8 fun v9 L9=>
 wpOp F (.ld none) [v9] L9 fun v10 L10=>
 wpOp F .nilchk [x0] L10 fun v11 L11=>
 wpOp F (.fad 2) [v11] L11 fun v12 L12=>
 wpOp F (.ld none) [v12] L12 fun v13 L13=>
 wpOp F (.build [.i .i64 0,.i .i64 0,.i .i64 0] [(0,1),(1,1),(2,1)]) [x1,x2,v13] L13 fun v14 L14=>
 wpOp F (.bslice [.i .i64 0,.i .i64 0,.i .i64 0] 1 3 [0]) [v14] L14 fun v15 L15=>
 wpOp F (.app 3 24) [v10,v15] L15 fun v16 L16=>
 wpOp F .nilchk [x0] L16 fun v17 L17=>
 wpOp F (.fad 0) [v17] L17 fun v18 L18=>
 wpOp F (.st 1) [v18,v16] L18 fun _ L19=>
 wpOp F .nilchk [x0] L19 fun v20 L20=>
 wpOp F (.fad 0) [v20] L20 fun v21 L21=>
 wpOp F (.ld none) [v21] L21 fun v22 L22=>
 wpOp F .lenSl [v22] L22 fun v23 L23=>
 wpOp F (.bin .sub) [v23,(.i .i64 1)] L23 fun v24 L24=>
 CallL F (N k_f31) [x0,v24] L24 fun v25 L25=>
 fin1 (some (.i .i64 0)) Q L25
theorem e_f35_4 (F:TF)(N:TN)(Q:TQ) (l t : Env) (L : Lg) : wp F (q_f35_4 N) l t L (fin [.tmp (.l 6)] Q) nE (fin [.tmp (.l 6)] Q) = D_f35_4 F N Q (l 0) (l 1) (l 2) L := by kernel_rfl
def q_f35_3a (N : TN) : ACode := (.seq (.reg [oQ (12,.mv,[.l 0]),oQ (13,.nilchk,[.t 12]),oQ (14,.fad 1,[.t 13]),oQ (15,.ld none,[.t 14]),oQ (16,.mv,[.l 1]),oQ (17,.lkup (.i .i64 0) true,[.t 15,.t 16]),oQ (11,.mv,[.t 17]),oQ (18,.ext 0,[.t 11]),oQ (19,.ext 1,[.t 11]),oQ (7,.mv,[.t 18]),⟨.l 8,none,.mv,[.t 19]⟩]) (.seq (.reg [oQ (20,.mv,[.l 8])]) (.cond (.t 20) (.seq (.reg [⟨.l 6,none,.mv,[.c (.i .i64 1)]⟩]) .ret) .skip)))
def q_f35_3 (N : TN) : ACode := (.seq (q_f35_3a N) (q_f35_4 N))
noncomputable def D_f35_3 (F:TF)(N:TN)(Q:TQ) (x0 x1 x2:AV) (L : Lg) : Prop :=
 wpOp F .nilchk [x0] L fun v1 L1=>
 wpOp F (.fad 1) [v1] L1 fun v2 L2=>
 wpOp F (.ld none) [v2] L2 fun v3 L3=>
 wpOp F (.lkup (.i .i64 0) true) [v3,x1] L3 fun v4 L4=>
 wpOp F (.ext 0) [v4] L4 fun v5 L5=>
 wpOp F (.ext 1) [v4] L5 fun v6 L6=>
 condW v6
 (fin1 (some (.i .i64 1)) Q L6)
 (D_f35_4 F N Q x0 x1 x2 L6)
theorem e_f35_3 (F:TF)(N:TN)(Q:TQ) (l t : Env) (L : Lg) : wp F (q_f35_3 N) l t L (fin [.tmp (.l 6)] Q) nE (fin [.tmp (.l 6)] Q) = D_f35_3 F N Q (l 0) (l 1) (l 2) L := wpS (e_f35_4 F N Q) (by kernel_rfl)
def q_f35_2a (N : TN) : ACode := (.seq (.reg [oQ (9,.mv,[.l 0]),oQ (10,.eq false .ptr,[.t 9,.c (.p none)])]) (.cond (.t 10) (.seq (.reg [⟨.l 6,none,.mv,[.c (.i .i64 1)]⟩]) .ret) .skip))
def q_f35_2 (N : TN) : ACode := (.seq (q_f35_2a N) (q_f35_3 N))
noncomputable def D_f35_2 (F:TF)(N:TN)(Q:TQ) (x0 x1 x2:AV) (L : Lg) : Prop :=
 wpOp F (.eq false .ptr) [x0,(.p none)] L fun v1 L1=>
 condW v1
 (fin1 (some (.i .i64 1)) Q L1)
 (D_f35_3 F N Q x0 x1 x2 L1)
theorem e_f35_2 (F:TF)(N:TN)(Q:TQ) (l t : Env) (L : Lg) : wp F (q_f35_2 N) l t L (fin [.tmp (.l 6)] Q) nE (fin [.tmp (.l 6)] Q) = D_f35_2 F N Q (l 0) (l 1) (l 2) L := wpS (e_f35_3 F N Q) (by kernel_rfl)
def q_f35_1a (N : TN) : ACode := (.reg [⟨.l 6,none,.mv,[.c (.i .i64 0)]⟩])
def q_f35_1 (N : TN) : ACode := (.seq (q_f35_1a N) (q_f35_2 N))
noncomputable def D_f35_1 (F:TF)(N:TN)(Q:TQ) (x0 x1 x2:AV) (L : Lg) : Prop :=
 D_f35_2 F N Q x0 x1 x2 L
theorem e_f35_1 (F:TF)(N:TN)(Q:TQ) (l t : Env) (L : Lg) : wp F (q_f35_1 N) l t L (fin [.tmp (.l 6)] Q) nE (fin [.tmp (.l 6)] Q) = D_f35_1 F N Q (l 0) (l 1) (l 2) L := wpS (e_f35_2 F N Q) (by kernel_rfl)
def c_f35 (N : TN) : AFn := ⟨q_f35_1 N,[.tmp (.l 6)]⟩
structure H_f35 (N : TN) (F : TF) : Prop where
  code : F (N k_f35) = some (c_f35 N)
  f31 : H_f31 N F
theorem r_f35 {F : TF} {N : TN} (h : F (N k_f35) = some (c_f35 N)) {Q : TQ} {a0 a1 a2 : AV} {L : Lg} (e : D_f35_1 F N Q a0 a1 a2 L) : CallL F (N k_f35) [a0,a1,a2] L Q :=
  CallL.of_wp h (Eq.mpr (Eq.trans (e_f35_1 F N Q (initE [a0,a1,a2] 0) Env.nil L) (by kernel_rfl : _ = D_f35_1 F N Q a0 a1 a2 L)) e)
def q_f36_1 (N : TN) : ACode := (.seq (.reg [⟨.l 8,none,.mv,[.c (.i .i64 0)]⟩]) (.seq (.seq (.reg [oQ (9,.mv,[.l 0]),oQ (10,.eq false .ptr,[.t 9,.c (.p none)]),oQ (11,.mv,[.t 10]),gQ (12,11,false,.mv,[.l 2]),gQ (13,11,false,.mv,[.l 3]),gQ (14,11,false,.min,[.t 12,.t 13]),gQ (15,11,false,.bin .lss,[.t 14,.c (.i .i64 0)]),oQ (16,.pick,[.t 11,.c (.b true),.t 15]),oQ (17,.mv,[.t 16]),gQ (18,17,false,.mv,[.l 2]),gQ (19,17,false,.mv,[.l 3]),gQ (20,17,false,.max,[.t 18,.t 19]),gQ (21,17,false,.bin .gtr,[.t 20,.c (.i .i64 4611686018427387904)]),oQ (22,.pick,[.t 17,.c (.b true),.t 21])]) (.cond (.t 22) (.seq (.reg [⟨.l 8,none,.mv,[.c (.i .i64 1)]⟩]) .ret) .skip)) (.seq (.reg [oQ (23,.mv,[.l 0]),oQ (24,.mv,[.l 1]),oQ (25,.call (N k_f34),[.t 23,.t 24])]) (.seq (.reg [oQ (26,.mv,[.l 0]),oQ (27,.nilchk,[.t 26]),oQ (28,.fad 1,[.t 27]),oQ (29,.ld none,[.t 28]),oQ (30,.mv,[.l 1]),oQ (31,.mv,[.l 3]),⟨.no,none,.mset,[.t 29,.t 30,.t 31]⟩]) (.seq (.reg [oQ (32,.mv,[.l 0]),oQ (33,.nilchk,[.t 32]),oQ (34,.fad 0,[.t 33]),oQ (35,.ld none,[.t 34]),oQ (36,.mv,[.l 1]),oQ (37,.mv,[.l 2]),oQ (38,.call (N k_f35),[.t 35,.t 36,.t 37]),⟨.l 8,none,.mv,[.t 38]⟩]) .ret)))))
noncomputable def D_f36_1 (F:TF)(N:TN)(Q:TQ) (x0 x1 x2 x3:AV) (L : Lg) : Prop :=
 wpOp F (.eq false .ptr) [x0,(.p none)] L fun v1 L1=>
 gdOp F v1 false .mv [x2] L1 fun v2 L2=>
 gdOp F v1 false .mv [x3] L2 fun v3 L3=>
 gdOp F v1 false .min [v2,v3] L3 fun v4 L4=>
 gdOp F v1 false (.bin .lss) [v4,(.i .i64 0)] L4 fun v5 L5=>
 wpOp F .pick [v1,(.b true),v5] L5 fun v6 L6=>
 gdOp F v6 false .mv [x2] L6 fun v7 L7=>
 gdOp F v6 false .mv [x3] L7 fun v8 L8=>
 gdOp F v6 false .max [v7,v8] L8 fun v9 L9=>
 gdOp F v6 false (.bin .gtr) [v9,(.i .i64 4611686018427387904)] L9 fun v10 L10=>
 wpOp F .pick [v6,(.b true),v10] L10 fun v11 L11=>
 condW v11
 (fin1 (some (.i .i64 1)) Q L11)
 (CallL F (N k_f34) [x0,x1] L11 fun v12 L12=>
 wpOp F .nilchk [x0] L12 fun v13 L13=>
 wpOp F (.fad 1) [v13] L13 fun v14 L14=>
 wpOp F (.ld none) [v14] L14 fun v15 L15=>
 wpOp F .mset [v15,x1,x3] L15 fun _ L16=>
 wpOp F .nilchk [x0] L16 fun v17 L17=>
 wpOp F (.fad 0) [v17] L17 fun v18 L18=>
 wpOp F (.ld none) [v18] L18 fun v19 L19=>
 CallL F (N k_f35) [v19,x1,x2] L19 fun v20 L20=>
 fin1 (some v20) Q L20)
theorem e_f36_1 (F:TF)(N:TN)(Q:TQ) (l t : Env) (L : Lg) : wp F (q_f36_1 N) l t L (fin [.tmp (.l 8)] Q) nE (fin [.tmp (.l 8)] Q) = D_f36_1 F N Q (l 0) (l 1) (l 2) (l 3) L := by kernel_rfl
def c_f36 (N : TN) : AFn := ⟨q_f36_1 N,[.tmp (.l 8)]⟩
structure H_f36 (N : TN) (F : TF) : Prop where
  code : F (N k_f36) = some (c_f36 N)
  f34 : H_f34 N F
  f35 : H_f35 N F
theorem r_f36 {F : TF} {N : TN} (h : F (N k_f36) = some (c_f36 N)) {Q : TQ} {a0 a1 a2 a3 : AV} {L : Lg} (e : D_f36_1 F N Q a0 a1 a2 a3 L) : CallL F (N k_f36) [a0,a1,a2,a3] L Q :=
  CallL.of_wp h (Eq.mpr (Eq.trans (e_f36_1 F N Q (initE [a0,a1,a2,a3] 0) Env.nil L) (by kernel_rfl : _ = D_f36_1 F N Q a0 a1 a2 a3 L)) e)
def q_f37_3 (N : TN) : ACode := (.seq (.regD [oQ (20,.mv,[.l 0]),oQ (21,.nilchk,[.t 20]),oQ (22,.fad 1,[.t 21]),oQ (23,.ld none,[.t 22]),oQ (24,.mv,[.l 1]),oQ (25,.mv,[.l 2]),oQ (26,.mv,[.l 3]),oQ (27,.max,[.t 26,.c (.i .i64 0)]),oQ (28,.call (N k_f2),[.t 25,.t 27]),oQ (29,.mv,[.l 8]),oQ (30,.call (N k_f36),[.t 23,.t 24,.t 28,.t 29])] [(3,9)]) (.reg [oQ (31,.mv,[.l 0]),oQ (32,.nilchk,[.t 31]),oQ (33,.fad 0,[.t 32]),oQ (34,.ld none,[.t 33]),oQ (35,.mv,[.l 1]),oQ (36,.iad 4,[.t 34,.t 35]),oQ (37,.fad 3,[.t 36]),oQ (38,.ld none,[.t 37]),oQ (39,.bin .add,[.t 38,.c (.i .i64 1)]),oQ (40,.iad 4,[.t 34,.t 35]),oQ (41,.fad 3,[.t 40]),⟨.no,none,.st 1,[.t 41,.t 39]⟩]))
noncomputable def D_f37_3 (F:TF)(N:TN)(Q:TQ) (x0 x1 x2 x3 x8:AV) (L : Lg) : Prop :=
 wpOp F .nilchk [x0] L fun v1 L1=>
 wpOp F (.fad 1) [v1] L1 fun v2 L2=>
 wpOp F (.ld none) [v2] L2 fun v3 L3=>
 wpOp F .max [x3,(.i .i64 0)] L3 fun v4 L4=>
 CallL F (N k_f2) [x2,v4] L4 fun v5 L5=>
 CallL F (N k_f36) [v3,x1,v5,x8] L5 fun v6 L6=>
 (againV (.ld none) [v2] L2 L5 ∧ True) ∧ (wpOp F .nilchk [x0] L6 fun v7 L7=>
 wpOp F (.fad 0) [v7] L7 fun v8 L8=>
 wpOp F (.ld none) [v8] L8 fun v9 L9=>
 wpOp F (.iad 4) [v9,x1] L9 fun v10 L10=>
 wpOp F (.fad 3) [v10] L10 fun v11 L11=>
 wpOp F (.ld none) [v11] L11 fun v12 L12=>
 wpOp F (.bin .add) [v12,(.i .i64 1)] L12 fun v13 L13=>
 wpOp F (.iad 4) [v9,x1] L13 fun v14 L14=>
 wpOp F (.fad 3) [v14] L14 fun v15 L15=>
 wpOp F (.st 1) [v15,v13] L15 fun _ L16=>
 fin1 (some (.tup [])) Q L16)
theorem e_f37_3 (F:TF)(N:TN)(Q:TQ) (l t : Env) (L : Lg) : wp F (q_f37_3 N) l t L (fin [] Q) nE (fin [] Q) = D_f37_3 F N Q (l 0) (l 1) (l 2) (l 3) (l 8) L := by kernel_rfl
def q_f37_2a (N : TN) : ACode := (.seq (.reg [oQ (9,.mv,[.l 0]),oQ (10,.nilchk,[.t 9]),oQ (11,.fad 0,[.t 10]),oQ (12,.ld none,[.t 11]),oQ (13,.mv,[.l 1]),oQ (14,.iad 4,[.t 12,.t 13]),oQ (15,.fad 0,[.t 14]),oQ (16,.ld none,[.t 15]),oQ (17,.bin .eql,[.t 16,.c (.i .i64 2)])]) (.cond (.t 17) (.reg [oQ (18,.mv,[.l 3]),oQ (19,.min,[.t 18,.c (.i .i64 4611686018427387904)]),⟨.l 8,none,.mv,[.t 19]⟩]) .skip))
def q_f37_2 (N : TN) : ACode := (.seq (q_f37_2a N) (q_f37_3 N))
noncomputable def D_f37_2 (F:TF)(N:TN)(Q:TQ) (x0 x1 x2 x3 x8:AV) (L : Lg) : Prop :=
 wpOp F .nilchk [x0] L fun v1 L1=>
 wpOp F (.fad 0) [v1] L1 fun v2 L2=>
 wpOp F (.ld none) [v2] L2 fun v3 L3=>
 wpOp F (.iad 4) [v3,x1] L3 fun v4 L4=>
 wpOp F (.fad 0) [v4] L4 fun v5 L5=>
 wpOp F (.ld none) [v5] L5 fun v6 L6=>
 wpOp F (.bin .eql) [v6,(.i .i64 2)] L6 fun v7 L7=>
 condW v7
 (wpOp F .min [x3,(.i .i64 4611686018427387904)] L7 fun v8 L8=>
 D_f37_3 F N Q x0 x1 x2 x3 v8 L8)
 (D_f37_3 F N Q x0 x1 x2 x3 x8 L7)
theorem e_f37_2 (F:TF)(N:TN)(Q:TQ) (l t : Env) (L : Lg) : wp F (q_f37_2 N) l t L (fin [] Q) nE (fin [] Q) = D_f37_2 F N Q (l 0) (l 1) (l 2) (l 3) (l 8) L := wpS (e_f37_3 F N Q) (by kernel_rfl)
def q_f37_1a (N : TN) : ACode := (.reg [⟨.l 8,none,.mv,[.c (.i .i64 0)]⟩])
def q_f37_1 (N : TN) : ACode := (.seq (q_f37_1a N) (q_f37_2 N))
noncomputable def D_f37_1 (F:TF)(N:TN)(Q:TQ) (x0 x1 x2 x3:AV) (L : Lg) : Prop :=
 D_f37_2 F N Q x0 x1 x2 x3 (.i .i64 0) L
theorem e_f37_1 (F:TF)(N:TN)(Q:TQ) (l t : Env) (L : Lg) : wp F (q_f37_1 N) l t L (fin [] Q) nE (fin [] Q) = D_f37_1 F N Q (l 0) (l 1) (l 2) (l 3) L := wpS (e_f37_2 F N Q) (by kernel_rfl)
def c_f37 (N : TN) : AFn := ⟨q_f37_1 N,[]⟩
structure H_f37 (N : TN) (F : TF) : Prop where
  code : F (N k_f37) = some (c_f37 N)
  f2 : H_f2 N F
  f36 : H_f36 N F
theorem r_f37 {F : TF} {N : TN} (h : F (N k_f37) = some (c_f37 N)) {Q : TQ} {a0 a1 a2 a3 : AV} {L : Lg} (e : D_f37_1 F N Q a0 a1 a2 a3 L) : CallL F (N k_f37) [a0,a1,a2,a3] L Q :=
  CallL.of_wp h (Eq.mpr (Eq.trans (e_f37_1 F N Q (initE [a0,a1,a2,a3] 0) Env.nil L) (by kernel_rfl : _ = D_f37_1 F N Q a0 a1 a2 a3 L)) e)
def q_f38_4 (N : TN) : ACode := (.seq (.reg [oQ (50,.mv,[.l 0]),oQ (51,.mv,[.l 0]),oQ (52,.nilchk,[.t 51]),oQ (53,.fad 0,[.t 52]),oQ (54,.ld none,[.t 53]),oQ (55,.ld (some 4),[.l 5]),oQ (56,.bslice [.i .i64 0,.i .i64 0,.p none,.i .i64 0] 1 4 [0],[.t 55]),oQ (57,.app 4 32,[.t 54,.t 56]),oQ (58,.nilchk,[.t 50]),oQ (59,.fad 0,[.t 58]),⟨.no,none,.st 1,[.t 59,.t 57]⟩]) (.seq (.reg [oQ (60,.mv,[.l 0]),oQ (61,.mv,[.l 0]),oQ (62,.nilchk,[.t 61]),oQ (63,.fad 0,[.t 62]),oQ (64,.ld none,[.t 63]),oQ (65,.lenSl,[.t 64]),oQ (66,.bin .sub,[.t 65,.c (.i .i64 1)]),oQ (67,.mv,[.l 2]),oQ (68,.mv,[.l 3]),oQ (69,.call (N k_f37),[.t 60,.t 66,.t 67,.t 68])]) (.seq (.reg [oQ (70,.mv,[.l 0]),oQ (71,.nilchk,[.t 70]),oQ (72,.fad 0,[.t 71]),oQ (73,.ld none,[.t 72]),oQ (74,.lenSl,[.t 73]),oQ (75,.bin .sub,[.t 74,.c (.i .i64 1)]),⟨.l 8,none,.mv,[.t 75]⟩,⟨.l 9,none,.mv,[.c (.i .i64 0)]⟩]) .ret)))
noncomputable def D_f38_4 (F:TF)(N:TN)(Q:TQ) (x0 x2 x3 x5:AV) (L : Lg) : Prop :=
 wpOp F .nilchk [x0] L fun v1 L1=>
 wpOp F (.fad 0) [v1] L1 fun v2 L2=>
 wpOp F (.ld none) [v2] L2 fun v3 L3=>
 wpOp F (.ld (some 4)) [x5] L3 fun v4 L4=>
 wpOp F (.bslice [.i .i64 0,.i .i64 0,.p none,.i .i64 0] 1 4 [0]) [v4] L4 fun v5 L5=>
 wpOp F (.app 4 32) [v3,v5] L5 fun v6 L6=>
 wpOp F .nilchk [x0] L6 fun v7 L7=>
 wpOp F (.fad 0) [v7] L7 fun v8 L8=>
 wpOp F (.st 1) [v8,v6] L8 fun _ L9=>
 wpOp F .nilchk [x0] L9 fun v10 L10=>
 wpOp F (.fad 0) [v10] L10 fun v11 L11=>
 wpOp F (.ld none) [v11] L11 fun v12 L12=>
 wpOp F .lenSl [v12] L12 fun v13 L13=>
 wpOp F (.bin .sub) [v13,(.i .i64 1)] L13 fun v14 L14=>
 CallL F (N k_f37) [x0,v14,x2,x3] L14 fun v15 L15=>
 wpOp F .nilchk [x0] L15 fun v16 L16=>
 wpOp F (.fad 0) [v16] L16 fun v17 L17=>
 wpOp F (.ld none) [v17] L17 fun v18 L18=>
 wpOp F .lenSl [v18] L18 fun v19 L19=>
 wpOp F (.bin .sub) [v19,(.i .i64 1)] L19 fun v20 L20=>
 fin1 (some (.tup [v20,(.i .i64 0)])) Q L20
theorem e_f38_4 (F:TF)(N:TN)(Q:TQ) (l t : Env) (L : Lg) : wp F (q_f38_4 N) l t L (fin [.tmp (.l 8),.tmp (.l 9)] Q) nE (fin [.tmp (.l 8),.tmp (.l 9)] Q) = D_f38_4 F N Q (l 0) (l 2) (l 3) (l 5) L := by kernel_rfl
def q_f38_3a (N : TN) : ACode := (.seq (.reg [oQ (40,.fad 0,[.l 5]),oQ (41,.ld none,[.t 40]),oQ (42,.bin .neq,[.t 41,.c (.i .i64 4)])]) (.cond (.t 42) (.reg [oQ (43,.mv,[.l 0]),oQ (44,.nilchk,[.t 43]),oQ (45,.fad 2,[.t 44]),oQ (46,.ld none,[.t 45]),oQ (47,.bin .add,[.t 46,.c (.i .i64 1)]),oQ (48,.nilchk,[.t 43]),oQ (49,.fad 2,[.t 48]),⟨.no,none,.st 1,[.t 49,.t 47]⟩]) .skip))
def q_f38_3 (N : TN) : ACode := (.seq (q_f38_3a N) (q_f38_4 N))
noncomputable def D_f38_3 (F:TF)(N:TN)(Q:TQ) (x0 x2 x3 x5:AV) (L : Lg) : Prop :=
 wpOp F (.fad 0) [x5] L fun v1 L1=>
 wpOp F (.ld none) [v1] L1 fun v2 L2=>
 wpOp F (.bin .neq) [v2,(.i .i64 4)] L2 fun v3 L3=>
 condW v3
 (wpOp F .nilchk [x0] L3 fun v4 L4=>
 wpOp F (.fad 2) [v4] L4 fun v5 L5=>
 wpOp F (.ld none) [v5] L5 fun v6 L6=>
 wpOp F (.bin .add) [v6,(.i .i64 1)] L6 fun v7 L7=>
 wpOp F .nilchk [x0] L7 fun v8 L8=>
 wpOp F (.fad 2) [v8] L8 fun v9 L9=>
 wpOp F (.st 1) [v9,v7] L9 fun _ L10=>
 D_f38_4 F N Q x0 x2 x3 x5 L10)
 (D_f38_4 F N Q x0 x2 x3 x5 L3)
theorem e_f38_3 (F:TF)(N:TN)(Q:TQ) (l t : Env) (L : Lg) : wp F (q_f38_3 N) l t L (fin [.tmp (.l 8),.tmp (.l 9)] Q) nE (fin [.tmp (.l 8),.tmp (.l 9)] Q) = D_f38_3 F N Q (l 0) (l 2) (l 3) (l 5) L := wpS (e_f38_4 F N Q) (by kernel_rfl)
def q_f38_2a (N : TN) : ACode := (.block 0 (.seq (.reg [oQ (11,.mv,[.l 2]),oQ (12,.call (N k_f24),[.t 11]),oQ (13,.mv,[.t 12]),gQ (14,13,false,.fad 1,[.l 5]),gQ (15,13,false,.ld none,[.t 14]),gQ (16,13,false,.bin .lss,[.t 15,.c (.i .i64 0)]),oQ (17,.pick,[.t 13,.c (.b true),.t 16]),oQ (18,.mv,[.t 17]),gQ (19,18,false,.fad 0,[.l 5]),gQ (20,18,false,.ld none,[.t 19]),gQ (21,18,false,.bin .eql,[.t 20,.c (.i .i64 2)]),gQ (22,18,false,.mv,[.t 21]),gQ (23,22,true,.mv,[.l 3]),gQ (24,22,true,.bin .lss,[.t 23,.c (.i .i64 1)]),gQ (25,18,false,.pick,[.t 22,.t 24,.c (.b false)]),oQ (26,.pick,[.t 18,.c (.b true),.t 25]),oQ (10,.mv,[.t 26])]) (.cond (.t 10) (.seq (.reg [⟨.l 8,none,.mv,[.c (.i .i64 0)]⟩,⟨.l 9,none,.mv,[.c (.i .i64 1)]⟩]) .ret) (.seq (.seq (.reg [oQ (28,.mv,[.l 0]),oQ (29,.eq false .ptr,[.t 28,.c (.p none)]),oQ (27,.mv,[.t 29])]) (.cond (.t 27) .skip (.reg [oQ (30,.fad 0,[.l 5]),oQ (31,.ld none,[.t 30]),oQ (32,.bin .neq,[.t 31,.c (.i .i64 4)]),oQ (33,.mv,[.t 32]),gQ (34,33,true,.mv,[.l 0]),gQ (35,33,true,.nilchk,[.t 34]),gQ (36,33,true,.fad 2,[.t 35]),gQ (37,33,true,.ld none,[.t 36]),gQ (38,33,true,.bin .geq,[.t 37,.c (.i .i64 64)]),oQ (39,.pick,[.t 33,.t 38,.c (.b false)]),oQ (27,.mv,[.t 39])]))) (.cond (.t 27) (.seq (.reg [⟨.l 8,none,.mv,[.c (.i .i64 0)]⟩,⟨.l 9,none,.mv,[.c (.i .i64 3)]⟩]) .ret) .skip)))))
def q_f38_2 (N : TN) : ACode := (.seq (q_f38_2a N) (q_f38_3 N))
noncomputable def D_f38_2 (F:TF)(N:TN)(Q:TQ) (x0 x2 x3 x5:AV) (L : Lg) : Prop :=
 CallL F (N k_f24) [x2] L fun v1 L1=>
 gdOp F v1 false (.fad 1) [x5] L1 fun v2 L2=>
 gdOp F v1 false (.ld none) [v2] L2 fun v3 L3=>
 gdOp F v1 false (.bin .lss) [v3,(.i .i64 0)] L3 fun v4 L4=>
 wpOp F .pick [v1,(.b true),v4] L4 fun v5 L5=>
 gdOp F v5 false (.fad 0) [x5] L5 fun v6 L6=>
 gdOp F v5 false (.ld none) [v6] L6 fun v7 L7=>
 gdOp F v5 false (.bin .eql) [v7,(.i .i64 2)] L7 fun v8 L8=>
 gdOp F v5 false .mv [v8] L8 fun v9 L9=>
 gdOp F v9 true .mv [x3] L9 fun v10 L10=>
 gdOp F v9 true (.bin .lss) [v10,(.i .i64 1)] L10 fun v11 L11=>
 gdOp F v5 false .pick [v9,v11,(.b false)] L11 fun v12 L12=>
 wpOp F .pick [v5,(.b true),v12] L12 fun v13 L13=>
 condW v13
 (fin1 (some (.tup [(.i .i64 0),(.i .i64 1)])) Q L13)
 (wpOp F (.eq false .ptr) [x0,(.p none)] L13 fun v14 L14=>
 condW v14
 (condW v14
 (fin1 (some (.tup [(.i .i64 0),(.i .i64 3)])) Q L14)
 (D_f38_3 F N Q x0 x2 x3 x5 L14))
 (wpOp F (.fad 0) [x5] L14 fun v15 L15=>
 wpOp F (.ld none) [v15] L15 fun v16 L16=>
 wpOp F (.bin .neq) [v16,(.i .i64 4)] L16 fun v17 L17=>
 gdOp F v17 true .mv [x0] L17 fun v18 L18=>
 gdOp F v17 true .nilchk [v18] L18 fun v19 L19=>
 gdOp F v17 true (.fad 2) [v19] L19 fun v20 L20=>
 gdOp F v17 true (.ld none) [v20] L20 fun v21 L21=>
 gdOp F v17 true (.bin .geq) [v21,(.i .i64 64)] L21 fun v22 L22=>
 wpOp F .pick [v17,v22,(.b false)] L22 fun v23 L23=>
 condW v23
 (fin1 (some (.tup [(.i .i64 0),(.i .i64 3)])) Q L23)
 (D_f38_3 F N Q x0 x2 x3 x5 L23)))
theorem e_f38_2 (F:TF)(N:TN)(Q:TQ) (l t : Env) (L : Lg) : wp F (q_f38_2 N) l t L (fin [.tmp (.l 8),.tmp (.l 9)] Q) nE (fin [.tmp (.l 8),.tmp (.l 9)] Q) = D_f38_2 F N Q (l 0) (l 2) (l 3) (l 5) L := wpS (e_f38_3 F N Q) (by kernel_rfl)
def q_f38_1a (N : TN) : ACode := (.reg [⟨.l 5,none,.box,[.l 1]⟩,⟨.l 8,none,.mv,[.c (.i .i64 0)]⟩,⟨.l 9,none,.mv,[.c (.i .i64 0)]⟩])
def q_f38_1 (N : TN) : ACode := (.seq (q_f38_1a N) (q_f38_2 N))
noncomputable def D_f38_1 (F:TF)(N:TN)(Q:TQ) (x0 x1 x2 x3:AV) (L : Lg) : Prop :=
 wpOp F .box [x1] L fun v1 L1=>
 D_f38_2 F N Q x0 x2 x3 v1 L1
theorem e_f38_1 (F:TF)(N:TN)(Q:TQ) (l t : Env) (L : Lg) : wp F (q_f38_1 N) l t L (fin [.tmp (.l 8),.tmp (.l 9)] Q) nE (fin [.tmp (.l 8),.tmp (.l 9)] Q) = D_f38_1 F N Q (l 0) (l 1) (l 2) (l 3) L := wpS (e_f38_2 F N Q) (by kernel_rfl)
def c_f38 (N : TN) : AFn := ⟨q_f38_1 N,[.tmp (.l 8),.tmp (.l 9)]⟩
structure H_f38 (N : TN) (F : TF) : Prop where
  code : F (N k_f38) = some (c_f38 N)
  f24 : H_f24 N F
  f37 : H_f37 N F
theorem r_f38 {F : TF} {N : TN} (h : F (N k_f38) = some (c_f38 N)) {Q : TQ} {a0 a1 a2 a3 : AV} {L : Lg} (e : D_f38_1 F N Q a0 a1 a2 a3 L) : CallL F (N k_f38) [a0,a1,a2,a3] L Q :=
  CallL.of_wp h (Eq.mpr (Eq.trans (e_f38_1 F N Q (initE [a0,a1,a2,a3] 0) Env.nil L) (by kernel_rfl : _ = D_f38_1 F N Q a0 a1 a2 a3 L)) e)
def q_f39_1 (N : TN) : ACode := (.seq (.reg [⟨.l 8,none,.mv,[.c (.i .i64 0)]⟩,⟨.l 9,none,.mv,[.c (.p none)]⟩,⟨.l 10,none,.mv,[.c (.i .i64 0)]⟩]) (.seq (.reg [oQ (14,.call (N k_f23),[]),⟨.l 11,none,.mv,[.t 14]⟩]) (.seq (.reg [oQ (16,.mv,[.l 0]),oQ (17,.mv,[.l 1]),oQ (18,.mv,[.l 11]),oQ (19,.build [.i .i64 0,.i .i64 0,.p none,.i .i64 0] [(0,1),(2,1)],[.t 17,.t 18]),oQ (20,.mv,[.l 2]),oQ (21,.mv,[.l 3]),oQ (22,.call (N k_f38),[.t 16,.t 19,.t 20,.t 21]),oQ (15,.mv,[.t 22]),oQ (23,.ext 0,[.t 15]),oQ (24,.ext 1,[.t 15]),⟨.l 12,none,.mv,[.t 23]⟩,⟨.l 13,none,.mv,[.t 24]⟩]) (.seq (.seq (.reg [oQ (25,.mv,[.l 13]),oQ (26,.bin .neq,[.t 25,.c (.i .i64 0)])]) (.cond (.t 26) (.seq (.reg [oQ (27,.mv,[.l 13]),⟨.l 8,none,.mv,[.c (.i .i64 0)]⟩,⟨.l 9,none,.mv,[.c (.p none)]⟩,⟨.l 10,none,.mv,[.t 27]⟩]) .ret) .skip)) (.seq (.reg [oQ (28,.mv,[.l 12]),oQ (29,.mv,[.l 11]),⟨.l 8,none,.mv,[.t 28]⟩,⟨.l 9,none,.mv,[.t 29]⟩,⟨.l 10,none,.mv,[.c (.i .i64 0)]⟩]) .ret)))))
noncomputable def D_f39_1 (F:TF)(N:TN)(Q:TQ) (x0 x1 x2 x3:AV) (L : Lg) : Prop :=
 CallL F (N k_f23) [] L fun v1 L1=>
 wpOp F (.build [.i .i64 0,.i .i64 0,.p none,.i .i64 0] [(0,1),(2,1)]) [x1,v1] L1 fun v2 L2=>
 CallL F (N k_f38) [x0,v2,x2,x3] L2 fun v3 L3=>
 wpOp F (.ext 0) [v3] L3 fun v4 L4=>
 wpOp F (.ext 1) [v3] L4 fun v5 L5=>
 wpOp F (.bin .neq) [v5,(.i .i64 0)] L5 fun v6 L6=>
 condW v6
 (fin1 (some (.tup [(.i .i64 0),(.p none),v5])) Q L6)
 (fin1 (some (.tup [v4,v1,(.i .i64 0)])) Q L6)
theorem e_f39_1 (F:TF)(N:TN)(Q:TQ) (l t : Env) (L : Lg) : wp F (q_f39_1 N) l t L (fin [.tmp (.l 8),.tmp (.l 9),.tmp (.l 10)] Q) nE (fin [.tmp (.l 8),.tmp (.l 9),.tmp (.l 10)] Q) = D_f39_1 F N Q (l 0) (l 1) (l 2) (l 3) L := by kernel_rfl
def c_f39 (N : TN) : AFn := ⟨q_f39_1 N,[.tmp (.l 8),.tmp (.l 9),.tmp (.l 10)]⟩
structure H_f39 (N : TN) (F : TF) : Prop where
  code : F (N k_f39) = some (c_f39 N)
  f23 : H_f23 N F
  f38 : H_f38 N F
theorem r_f39 {F : TF} {N : TN} (h : F (N k_f39) = some (c_f39 N)) {Q : TQ} {a0 a1 a2 a3 : AV} {L : Lg} (e : D_f39_1 F N Q a0 a1 a2 a3 L) : CallL F (N k_f39) [a0,a1,a2,a3] L Q :=
  CallL.of_wp h (Eq.mpr (Eq.trans (e_f39_1 F N Q (initE [a0,a1,a2,a3] 0) Env.nil L) (by kernel_rfl : _ = D_f39_1 F N Q a0 a1 a2 a3 L)) e)
def q_f40_1 (N : TN) : ACode := (.seq (.reg [⟨.l 6,none,.mv,[.c (.i .i64 0)]⟩,⟨.l 7,none,.mv,[.c (.p none)]⟩,⟨.l 8,none,.mv,[.c (.i .i64 0)]⟩]) (.seq (.reg [oQ (9,.mv,[.l 0]),oQ (10,.mv,[.l 1]),oQ (11,.mv,[.l 2]),oQ (12,.call (N k_f39),[.t 9,.c (.i .i64 1),.t 10,.t 11]),oQ (13,.ext 0,[.t 12]),oQ (14,.ext 1,[.t 12]),oQ (15,.ext 2,[.t 12]),⟨.l 6,none,.mv,[.t 13]⟩,⟨.l 7,none,.mv,[.t 14]⟩,⟨.l 8,none,.mv,[.t 15]⟩]) .ret))
noncomputable def D_f40_1 (F:TF)(N:TN)(Q:TQ) (x0 x1 x2:AV) (L : Lg) : Prop :=
 CallL F (N k_f39) [x0,(.i .i64 1),x1,x2] L fun v1 L1=>
 wpOp F (.ext 0) [v1] L1 fun v2 L2=>
 wpOp F (.ext 1) [v1] L2 fun v3 L3=>
 wpOp F (.ext 2) [v1] L3 fun v4 L4=>
 fin1 (some (.tup [v2,v3,v4])) Q L4
theorem e_f40_1 (F:TF)(N:TN)(Q:TQ) (l t : Env) (L : Lg) : wp F (q_f40_1 N) l t L (fin [.tmp (.l 6),.tmp (.l 7),.tmp (.l 8)] Q) nE (fin [.tmp (.l 6),.tmp (.l 7),.tmp (.l 8)] Q) = D_f40_1 F N Q (l 0) (l 1) (l 2) L := by kernel_rfl
def c_f40 (N : TN) : AFn := ⟨q_f40_1 N,[.tmp (.l 6),.tmp (.l 7),.tmp (.l 8)]⟩
structure H_f40 (N : TN) (F : TF) : Prop where
  code : F (N k_f40) = some (c_f40 N)
  f39 : H_f39 N F
theorem r_f40 {F : TF} {N : TN} (h : F (N k_f40) = some (c_f40 N)) {Q : TQ} {a0 a1 a2 : AV} {L : Lg} (e : D_f40_1 F N Q a0 a1 a2 L) : CallL F (N k_f40) [a0,a1,a2] L Q :=
  CallL.of_wp h (Eq.mpr (Eq.trans (e_f40_1 F N Q (initE [a0,a1,a2] 0) Env.nil L) (by kernel_rfl : _ = D_f40_1 F N Q a0 a1 a2 L)) e)
def q_f41_1 (N : TN) : ACode := (.seq (.reg [⟨.l 2,none,.mv,[.c (.i .i64 0)]⟩]) (.seq (.seq (.reg [oQ (3,.mv,[.l 0]),oQ (4,.eq false .ptr,[.t 3,.c (.p none)])]) (.cond (.t 4) (.seq (.reg [⟨.l 2,none,.mv,[.c (.i .i64 0)]⟩]) .ret) .skip)) (.seq (.reg [oQ (5,.mv,[.l 0]),oQ (6,.nilchk,[.t 5]),oQ (7,.fad 0,[.t 6]),oQ (8,.ld none,[.t 7]),oQ (9,.lenSl,[.t 8]),⟨.l 2,none,.mv,[.t 9]⟩]) .ret)))
noncomputable def D_f41_1 (F:TF)(N:TN)(Q:TQ) (x0 : AV) (L : Lg) : Prop :=
 wpOp F (.eq false .ptr) [x0,(.p none)] L fun v1 L1=>
 condW v1
 (fin1 (some (.i .i64 0)) Q L1)
 (wpOp F .nilchk [x0] L1 fun v2 L2=>
 wpOp F (.fad 0) [v2] L2 fun v3 L3=>
 wpOp F (.ld none) [v3] L3 fun v4 L4=>
 wpOp F .lenSl [v4] L4 fun v5 L5=>
 fin1 (some v5) Q L5)
theorem e_f41_1 (F:TF)(N:TN)(Q:TQ) (l t : Env) (L : Lg) : wp F (q_f41_1 N) l t L (fin [.tmp (.l 2)] Q) nE (fin [.tmp (.l 2)] Q) = D_f41_1 F N Q (l 0) L := by kernel_rfl
def c_f41 (N : TN) : AFn := ⟨q_f41_1 N,[.tmp (.l 2)]⟩
structure H_f41 (N : TN) (F : TF) : Prop where
  code : F (N k_f41) = some (c_f41 N)
theorem r_f41 {F : TF} {N : TN} (h : F (N k_f41) = some (c_f41 N)) {Q : TQ} {a0 : AV} {L : Lg} (e : D_f41_1 F N Q a0 L) : CallL F (N k_f41) [a0] L Q :=
  CallL.of_wp h (Eq.mpr (Eq.trans (e_f41_1 F N Q (initE [a0] 0) Env.nil L) (by kernel_rfl : _ = D_f41_1 F N Q a0 L)) e)
def q_f42_1 (N : TN) : ACode := (.seq (.reg [⟨.l 2,none,.alloc [.i .i64 0,.i .i64 0,.i .i64 0],[]⟩,⟨.l 3,none,.mv,[.c (.b false)]⟩]) (.seq (.seq (.reg [oQ (4,.mv,[.l 0]),oQ (5,.call (N k_f41),[.t 4]),oQ (6,.bin .eql,[.t 5,.c (.i .i64 0)])]) (.cond (.t 6) (.seq (.reg [oQ (7,.build [.i .i64 0,.i .i64 0,.i .i64 0] [],[]),⟨.no,none,.st 3,[.l 2,.t 7]⟩,⟨.l 3,none,.mv,[.c (.b false)]⟩]) .ret) .skip)) (.seq (.reg [oQ (8,.mv,[.l 0]),oQ (9,.nilchk,[.t 8]),oQ (10,.fad 0,[.t 9]),oQ (11,.ld none,[.t 10]),oQ (12,.iad 3,[.t 11,.c (.i .i64 0)]),oQ (13,.ld (some 3),[.t 12]),⟨.no,none,.st 3,[.l 2,.t 13]⟩,⟨.l 3,none,.mv,[.c (.b true)]⟩]) .ret)))
noncomputable def D_f42_1 (F:TF)(N:TN)(Q:TQ) (x0 : AV) (L : Lg) : Prop :=
 wpOp F (.alloc [.i .i64 0,.i .i64 0,.i .i64 0]) [] L fun v1 L1=>
 CallL F (N k_f41) [x0] L1 fun v2 L2=>
 wpOp F (.bin .eql) [v2,(.i .i64 0)] L2 fun v3 L3=>
 condW v3
 (wpOp F (.build [.i .i64 0,.i .i64 0,.i .i64 0] []) [] L3 fun v4 L4=>
 wpOp F (.st 3) [v1,v4] L4 fun _ L5=>
 fin1 (resVL Env.nil Env.nil L5 [.cell (.c v1) (some 3),.tmp (.c (.b false))]) Q L5)
 (wpOp F .nilchk [x0] L3 fun v6 L6=>
 wpOp F (.fad 0) [v6] L6 fun v7 L7=>
 wpOp F (.ld none) [v7] L7 fun v8 L8=>
 wpOp F (.iad 3) [v8,(.i .i64 0)] L8 fun v9 L9=>
 wpOp F (.ld (some 3)) [v9] L9 fun v10 L10=>
 wpOp F (.st 3) [v1,v10] L10 fun _ L11=>
 fin1 (resVL Env.nil Env.nil L11 [.cell (.c v1) (some 3),.tmp (.c (.b true))]) Q L11)
theorem e_f42_1 (F:TF)(N:TN)(Q:TQ) (l t : Env) (L : Lg) : wp F (q_f42_1 N) l t L (fin [.cell (.l 2) (some 3),.tmp (.l 3)] Q) nE (fin [.cell (.l 2) (some 3),.tmp (.l 3)] Q) = D_f42_1 F N Q (l 0) L := by kernel_rfl
def c_f42 (N : TN) : AFn := ⟨q_f42_1 N,[.cell (.l 2) (some 3),.tmp (.l 3)]⟩
structure H_f42 (N : TN) (F : TF) : Prop where
  code : F (N k_f42) = some (c_f42 N)
  f41 : H_f41 N F
theorem r_f42 {F : TF} {N : TN} (h : F (N k_f42) = some (c_f42 N)) {Q : TQ} {a0 : AV} {L : Lg} (e : D_f42_1 F N Q a0 L) : CallL F (N k_f42) [a0] L Q :=
  CallL.of_wp h (Eq.mpr (Eq.trans (e_f42_1 F N Q (initE [a0] 0) Env.nil L) (by kernel_rfl : _ = D_f42_1 F N Q a0 L)) e)
def q_f43_1 (N : TN) : ACode := (.seq (.reg [⟨.l 2,none,.mv,[.c (.i .i64 0)]⟩,⟨.l 3,none,.mv,[.c (.b false)]⟩]) (.seq (.seq (.reg [oQ (6,.mv,[.l 0]),oQ (7,.eq false .ptr,[.t 6,.c (.p none)])]) (.cond (.t 7) (.seq (.reg [⟨.l 2,none,.mv,[.c (.i .i64 0)]⟩,⟨.l 3,none,.mv,[.c (.b false)]⟩]) .ret) .skip)) (.seq (.reg [oQ (9,.mv,[.l 0]),oQ (10,.nilchk,[.t 9]),oQ (11,.fad 0,[.t 10]),oQ (12,.ld none,[.t 11]),oQ (13,.call (N k_f42),[.t 12]),oQ (8,.mv,[.t 13]),oQ (14,.ext 0,[.t 8]),oQ (15,.ext 1,[.t 8]),⟨.l 4,none,.alloc [.i .i64 0,.i .i64 0,.i .i64 0],[]⟩,⟨.no,none,.st 3,[.l 4,.t 14]⟩,⟨.l 5,none,.mv,[.t 15]⟩]) (.seq (.reg [oQ (16,.fad 1,[.l 4]),oQ (17,.ld none,[.t 16]),oQ (18,.mv,[.l 5]),⟨.l 2,none,.mv,[.t 17]⟩,⟨.l 3,none,.mv,[.t 18]⟩]) .ret))))
noncomputable def D_f43_1 (F:TF)(N:TN)(Q:TQ) (x0 : AV) (L : Lg) : Prop :=
 wpOp F (.eq false .ptr) [x0,(.p none)] L fun v1 L1=>
 condW v1
 (fin1 (some (.tup [(.i .i64 0),(.b false)])) Q L1)
 (wpOp F .nilchk [x0] L1 fun v2 L2=>
 wpOp F (.fad 0) [v2] L2 fun v3 L3=>
 wpOp F (.ld none) [v3] L3 fun v4 L4=>
 CallL F (N k_f42) [v4] L4 fun v5 L5=>
 wpOp F (.ext 0) [v5] L5 fun v6 L6=>
 wpOp F (.ext 1) [v5] L6 fun v7 L7=>
 wpOp F (.alloc [.i .i64 0,.i .i64 0,.i .i64 0]) [] L7 fun v8 L8=>
 wpOp F (.st 3) [v8,v6] L8 fun _ L9=>
 wpOp F (.fad 1) [v8] L9 fun v10 L10=>
 wpOp F (.ld none) [v10] L10 fun v11 L11=>
 fin1 (some (.tup [v11,v7])) Q L11)
theorem e_f43_1 (F:TF)(N:TN)(Q:TQ) (l t : Env) (L : Lg) : wp F (q_f43_1 N) l t L (fin [.tmp (.l 2),.tmp (.l 3)] Q) nE (fin [.tmp (.l 2),.tmp (.l 3)] Q) = D_f43_1 F N Q (l 0) L := by kernel_rfl
def c_f43 (N : TN) : AFn := ⟨q_f43_1 N,[.tmp (.l 2),.tmp (.l 3)]⟩
structure H_f43 (N : TN) (F : TF) : Prop where
  code : F (N k_f43) = some (c_f43 N)
  f42 : H_f42 N F
theorem r_f43 {F : TF} {N : TN} (h : F (N k_f43) = some (c_f43 N)) {Q : TQ} {a0 : AV} {L : Lg} (e : D_f43_1 F N Q a0 L) : CallL F (N k_f43) [a0] L Q :=
  CallL.of_wp h (Eq.mpr (Eq.trans (e_f43_1 F N Q (initE [a0] 0) Env.nil L) (by kernel_rfl : _ = D_f43_1 F N Q a0 L)) e)
def q_f44_1 (N : TN) : ACode := (.seq (.reg [⟨.l 2,none,.alloc [.i .i64 0,.i .i64 0,.i .i64 0],[]⟩,⟨.l 3,none,.mv,[.c (.b false)]⟩]) (.seq (.reg [oQ (7,.mv,[.l 0]),oQ (8,.call (N k_f42),[.t 7]),oQ (6,.mv,[.t 8]),oQ (9,.ext 0,[.t 6]),oQ (10,.ext 1,[.t 6]),⟨.l 4,none,.alloc [.i .i64 0,.i .i64 0,.i .i64 0],[]⟩,⟨.no,none,.st 3,[.l 4,.t 9]⟩,⟨.l 5,none,.mv,[.t 10]⟩]) (.seq (.seq (.reg [oQ (11,.mv,[.l 5])]) (.cond (.t 11) (.reg [oQ (12,.mv,[.l 0]),oQ (13,.fad 0,[.l 4]),oQ (14,.ld none,[.t 13]),oQ (15,.call (N k_f33),[.t 12,.t 14])]) .skip)) (.seq (.reg [oQ (16,.ld (some 3),[.l 4]),oQ (17,.mv,[.l 5]),⟨.no,none,.st 3,[.l 2,.t 16]⟩,⟨.l 3,none,.mv,[.t 17]⟩]) .ret))))
noncomputable def D_f44_1 (F:TF)(N:TN)(Q:TQ) (x0 : AV) (L : Lg) : Prop :=
 wpOp F (.alloc [.i .i64 0,.i .i64 0,.i .i64 0]) [] L fun v1 L1=>
 CallL F (N k_f42) [x0] L1 fun v2 L2=>
 wpOp F (.ext 0) [v2] L2 fun v3 L3=>
 wpOp F (.ext 1) [v2] L3 fun v4 L4=>
 wpOp F (.alloc [.i .i64 0,.i .i64 0,.i .i64 0]) [] L4 fun v5 L5=>
 wpOp F (.st 3) [v5,v3] L5 fun _ L6=>
 condW v4
 (wpOp F (.fad 0) [v5] L6 fun v7 L7=>
 wpOp F (.ld none) [v7] L7 fun v8 L8=>
 CallL F (N k_f33) [x0,v8] L8 fun v9 L9=>
 wpOp F (.ld (some 3)) [v5] L9 fun v10 L10=>
 wpOp F (.st 3) [v1,v10] L10 fun _ L11=>
 fin1 (resVL Env.nil Env.nil L11 [.cell (.c v1) (some 3),.tmp (.c v4)]) Q L11)
 (wpOp F (.ld (some 3)) [v5] L6 fun v12 L12=>
 wpOp F (.st 3) [v1,v12] L12 fun _ L13=>
 fin1 (resVL Env.nil Env.nil L13 [.cell (.c v1) (some 3),.tmp (.c v4)]) Q L13)
theorem e_f44_1 (F:TF)(N:TN)(Q:TQ) (l t : Env) (L : Lg) : wp F (q_f44_1 N) l t L (fin [.cell (.l 2) (some 3),.tmp (.l 3)] Q) nE (fin [.cell (.l 2) (some 3),.tmp (.l 3)] Q) = D_f44_1 F N Q (l 0) L := by kernel_rfl
def c_f44 (N : TN) : AFn := ⟨q_f44_1 N,[.cell (.l 2) (some 3),.tmp (.l 3)]⟩
structure H_f44 (N : TN) (F : TF) : Prop where
  code : F (N k_f44) = some (c_f44 N)
  f42 : H_f42 N F
  f33 : H_f33 N F
theorem r_f44 {F : TF} {N : TN} (h : F (N k_f44) = some (c_f44 N)) {Q : TQ} {a0 : AV} {L : Lg} (e : D_f44_1 F N Q a0 L) : CallL F (N k_f44) [a0] L Q :=
  CallL.of_wp h (Eq.mpr (Eq.trans (e_f44_1 F N Q (initE [a0] 0) Env.nil L) (by kernel_rfl : _ = D_f44_1 F N Q a0 L)) e)
def q_f45_7 (N : TN) : ACode := (.seq (.seq (.reg [oQ (52,.mv,[.l 6]),oQ (53,.mv,[.l 10]),oQ (54,.mv,[.l 1]),oQ (55,.call (N k_f3),[.t 52,.t 53,.t 54]),oQ (51,.mv,[.t 55]),oQ (56,.ext 0,[.t 51]),oQ (57,.ext 1,[.t 51]),⟨.l 11,none,.mv,[.t 56]⟩,⟨.l 12,none,.mv,[.t 57]⟩]) (.seq (.reg [oQ (58,.mv,[.l 12]),oQ (59,.bin .eql,[.t 58,.c (.i .i64 0)]),oQ (60,.mv,[.t 59]),gQ (61,60,true,.mv,[.l 11]),gQ (62,60,true,.mv,[.l 1]),gQ (63,60,true,.bin .gtr,[.t 61,.t 62]),oQ (64,.pick,[.t 60,.t 63,.c (.b false)])]) (.cond (.t 64) (.reg [oQ (65,.mv,[.l 0]),oQ (66,.fad 0,[.l 8]),oQ (67,.ld none,[.t 66]),oQ (68,.mv,[.l 11]),oQ (69,.mv,[.l 10]),oQ (70,.call (N k_f36),[.t 65,.t 67,.t 68,.t 69])]) .skip))) (.seq (.reg [oQ (71,.fad 0,[.l 8]),oQ (72,.ld none,[.t 71]),oQ (73,.mv,[.l 6]),oQ (74,.mv,[.l 1]),oQ (75,.build [.i .i64 0,.i .i64 0,.i .i64 0] [(0,1),(1,1),(2,1)],[.t 72,.t 73,.t 74]),⟨.no,none,.st 3,[.l 4,.t 75]⟩,⟨.l 5,none,.mv,[.c (.b true)]⟩]) .ret))
noncomputable def D_f45_7 (F:TF)(N:TN)(Q:TQ) (x0 x1 x4 x6 x8 x10:AV) (L : Lg) : Prop :=
 CallL F (N k_f3) [x6,x10,x1] L fun v1 L1=>
 wpOp F (.ext 0) [v1] L1 fun v2 L2=>
 wpOp F (.ext 1) [v1] L2 fun v3 L3=>
 wpOp F (.bin .eql) [v3,(.i .i64 0)] L3 fun v4 L4=>
 gdOp F v4 true .mv [v2] L4 fun v5 L5=>
 gdOp F v4 true .mv [x1] L5 fun v6 L6=>
 gdOp F v4 true (.bin .gtr) [v5,v6] L6 fun v7 L7=>
 wpOp F .pick [v4,v7,(.b false)] L7 fun v8 L8=>
 condW v8
 (wpOp F (.fad 0) [x8] L8 fun v9 L9=>
 wpOp F (.ld none) [v9] L9 fun v10 L10=>
 CallL F (N k_f36) [x0,v10,v2,x10] L10 fun v11 L11=>
 wpOp F (.fad 0) [x8] L11 fun v12 L12=>
 wpOp F (.ld none) [v12] L12 fun v13 L13=>
 wpOp F (.build [.i .i64 0,.i .i64 0,.i .i64 0] [(0,1),(1,1),(2,1)]) [v13,x6,x1] L13 fun v14 L14=>
 wpOp F (.st 3) [x4,v14] L14 fun _ L15=>
 fin1 (resVL Env.nil Env.nil L15 [.cell (.c x4) (some 3),.tmp (.c (.b true))]) Q L15)
 (wpOp F (.fad 0) [x8] L8 fun v16 L16=>
 wpOp F (.ld none) [v16] L16 fun v17 L17=>
 wpOp F (.build [.i .i64 0,.i .i64 0,.i .i64 0] [(0,1),(1,1),(2,1)]) [v17,x6,x1] L17 fun v18 L18=>
 wpOp F (.st 3) [x4,v18] L18 fun _ L19=>
 fin1 (resVL Env.nil Env.nil L19 [.cell (.c x4) (some 3),.tmp (.c (.b true))]) Q L19)
theorem e_f45_7 (F:TF)(N:TN)(Q:TQ) (l t : Env) (L : Lg) : wp F (q_f45_7 N) l t L (fin [.cell (.l 4) (some 3),.tmp (.l 5)] Q) nE (fin [.cell (.l 4) (some 3),.tmp (.l 5)] Q) = D_f45_7 F N Q (l 0) (l 1) (l 4) (l 6) (l 8) (l 10) L := by kernel_rfl
def q_f45_6a (N : TN) : ACode := (.reg [oQ (45,.mv,[.l 0]),oQ (46,.nilchk,[.t 45]),oQ (47,.fad 1,[.t 46]),oQ (48,.ld none,[.t 47]),oQ (49,.fad 0,[.l 8]),oQ (50,.ld none,[.t 49]),⟨.no,none,.mdel,[.t 48,.t 50]⟩])
def q_f45_6 (N : TN) : ACode := (.seq (q_f45_6a N) (q_f45_7 N))
noncomputable def D_f45_6 (F:TF)(N:TN)(Q:TQ) (x0 x1 x4 x6 x8 x10:AV) (L : Lg) : Prop :=
 wpOp F .nilchk [x0] L fun v1 L1=>
 wpOp F (.fad 1) [v1] L1 fun v2 L2=>
 wpOp F (.ld none) [v2] L2 fun v3 L3=>
 wpOp F (.fad 0) [x8] L3 fun v4 L4=>
 wpOp F (.ld none) [v4] L4 fun v5 L5=>
 wpOp F .mdel [v3,v5] L5 fun _ L6=>
 D_f45_7 F N Q x0 x1 x4 x6 x8 x10 L6
theorem e_f45_6 (F:TF)(N:TN)(Q:TQ) (l t : Env) (L : Lg) : wp F (q_f45_6 N) l t L (fin [.cell (.l 4) (some 3),.tmp (.l 5)] Q) nE (fin [.cell (.l 4) (some 3),.tmp (.l 5)] Q) = D_f45_6 F N Q (l 0) (l 1) (l 4) (l 6) (l 8) (l 10) L := wpS (e_f45_7 F N Q) (by kernel_rfl)
def q_f45_5a (N : TN) : ACode := (.reg [oQ (38,.mv,[.l 0]),oQ (39,.nilchk,[.t 38]),oQ (40,.fad 1,[.t 39]),oQ (41,.ld none,[.t 40]),oQ (42,.fad 0,[.l 8]),oQ (43,.ld none,[.t 42]),oQ (44,.lkup (.i .i64 0) false,[.t 41,.t 43]),⟨.l 10,none,.mv,[.t 44]⟩])
def q_f45_5 (N : TN) : ACode := (.seq (q_f45_5a N) (q_f45_6 N))
noncomputable def D_f45_5 (F:TF)(N:TN)(Q:TQ) (x0 x1 x4 x6 x8:AV) (L : Lg) : Prop :=
 wpOp F .nilchk [x0] L fun v1 L1=>
 wpOp F (.fad 1) [v1] L1 fun v2 L2=>
 wpOp F (.ld none) [v2] L2 fun v3 L3=>
 wpOp F (.fad 0) [x8] L3 fun v4 L4=>
 wpOp F (.ld none) [v4] L4 fun v5 L5=>
 wpOp F (.lkup (.i .i64 0) false) [v3,v5] L5 fun v6 L6=>
 D_f45_6 F N Q x0 x1 x4 x6 x8 v6 L6
theorem e_f45_5 (F:TF)(N:TN)(Q:TQ) (l t : Env) (L : Lg) : wp F (q_f45_5 N) l t L (fin [.cell (.l 4) (some 3),.tmp (.l 5)] Q) nE (fin [.cell (.l 4) (some 3),.tmp (.l 5)] Q) = D_f45_5 F N Q (l 0) (l 1) (l 4) (l 6) (l 8) L := wpS (e_f45_6 F N Q) (by kernel_rfl)
def q_f45_4a (N : TN) : ACode := (.reg [oQ (31,.mv,[.l 0]),oQ (32,.nilchk,[.t 31]),oQ (33,.fad 0,[.t 32]),oQ (34,.ld none,[.t 33]),oQ (35,.call (N k_f44),[.t 34]),oQ (30,.mv,[.t 35]),oQ (36,.ext 0,[.t 30]),oQ (37,.ext 1,[.t 30]),⟨.l 8,none,.alloc [.i .i64 0,.i .i64 0,.i .i64 0],[]⟩,⟨.no,none,.st 3,[.l 8,.t 36]⟩,oQ (9,.mv,[.t 37])])
def q_f45_4 (N : TN) : ACode := (.seq (q_f45_4a N) (q_f45_5 N))
noncomputable def D_f45_4 (F:TF)(N:TN)(Q:TQ) (x0 x1 x4 x6:AV) (L : Lg) : Prop :=
 wpOp F .nilchk [x0] L fun v1 L1=>
 wpOp F (.fad 0) [v1] L1 fun v2 L2=>
 wpOp F (.ld none) [v2] L2 fun v3 L3=>
 CallL F (N k_f44) [v3] L3 fun v4 L4=>
 wpOp F (.ext 0) [v4] L4 fun v5 L5=>
 wpOp F (.ext 1) [v4] L5 fun v6 L6=>
 wpOp F (.alloc [.i .i64 0,.i .i64 0,.i .i64 0]) [] L6 fun v7 L7=>
 wpOp F (.st 3) [v7,v5] L7 fun _ L8=>
 D_f45_5 F N Q x0 x1 x4 x6 v7 L8
theorem e_f45_4 (F:TF)(N:TN)(Q:TQ) (l t : Env) (L : Lg) : wp F (q_f45_4 N) l t L (fin [.cell (.l 4) (some 3),.tmp (.l 5)] Q) nE (fin [.cell (.l 4) (some 3),.tmp (.l 5)] Q) = D_f45_4 F N Q (l 0) (l 1) (l 4) (l 6) L := wpS (e_f45_5 F N Q) (by kernel_rfl)
def q_f45_3a (N : TN) : ACode := (.seq (.reg [oQ (18,.mv,[.l 7]),oQ (19,.un .not,[.t 18]),oQ (20,.mv,[.t 19]),gQ (21,20,false,.mv,[.l 1]),gQ (22,20,false,.bin .lss,[.t 21,.c (.i .i64 0)]),oQ (23,.pick,[.t 20,.c (.b true),.t 22]),oQ (24,.mv,[.t 23]),gQ (25,24,false,.mv,[.l 6]),gQ (26,24,false,.mv,[.l 1]),gQ (27,24,false,.bin .gtr,[.t 25,.t 26]),oQ (28,.pick,[.t 24,.c (.b true),.t 27])]) (.cond (.t 28) (.seq (.reg [oQ (29,.build [.i .i64 0,.i .i64 0,.i .i64 0] [],[]),⟨.no,none,.st 3,[.l 4,.t 29]⟩,⟨.l 5,none,.mv,[.c (.b false)]⟩]) .ret) .skip))
def q_f45_3 (N : TN) : ACode := (.seq (q_f45_3a N) (q_f45_4 N))
noncomputable def D_f45_3 (F:TF)(N:TN)(Q:TQ) (x0 x1 x4 x6 x7:AV) (L : Lg) : Prop :=
 wpOp F (.un .not) [x7] L fun v1 L1=>
 gdOp F v1 false .mv [x1] L1 fun v2 L2=>
 gdOp F v1 false (.bin .lss) [v2,(.i .i64 0)] L2 fun v3 L3=>
 wpOp F .pick [v1,(.b true),v3] L3 fun v4 L4=>
 gdOp F v4 false .mv [x6] L4 fun v5 L5=>
 gdOp F v4 false .mv [x1] L5 fun v6 L6=>
 gdOp F v4 false (.bin .gtr) [v5,v6] L6 fun v7 L7=>
 wpOp F .pick [v4,(.b true),v7] L7 fun v8 L8=>
 condW v8
 (wpOp F (.build [.i .i64 0,.i .i64 0,.i .i64 0] []) [] L8 fun v9 L9=>
 wpOp F (.st 3) [x4,v9] L9 fun _ L10=>
 fin1 (resVL Env.nil Env.nil L10 [.cell (.c x4) (some 3),.tmp (.c (.b false))]) Q L10)
 (D_f45_4 F N Q x0 x1 x4 x6 L8)
theorem e_f45_3 (F:TF)(N:TN)(Q:TQ) (l t : Env) (L : Lg) : wp F (q_f45_3 N) l t L (fin [.cell (.l 4) (some 3),.tmp (.l 5)] Q) nE (fin [.cell (.l 4) (some 3),.tmp (.l 5)] Q) = D_f45_3 F N Q (l 0) (l 1) (l 4) (l 6) (l 7) L := wpS (e_f45_4 F N Q) (by kernel_rfl)
def q_f45_2a (N : TN) : ACode := (.reg [oQ (14,.mv,[.l 0]),oQ (15,.call (N k_f43),[.t 14]),oQ (13,.mv,[.t 15]),oQ (16,.ext 0,[.t 13]),oQ (17,.ext 1,[.t 13]),⟨.l 6,none,.mv,[.t 16]⟩,⟨.l 7,none,.mv,[.t 17]⟩])
def q_f45_2 (N : TN) : ACode := (.seq (q_f45_2a N) (q_f45_3 N))
noncomputable def D_f45_2 (F:TF)(N:TN)(Q:TQ) (x0 x1 x4:AV) (L : Lg) : Prop :=
 CallL F (N k_f43) [x0] L fun v1 L1=>
 wpOp F (.ext 0) [v1] L1 fun v2 L2=>
 wpOp F (.ext 1) [v1] L2 fun v3 L3=>
 D_f45_3 F N Q x0 x1 x4 v2 v3 L3
theorem e_f45_2 (F:TF)(N:TN)(Q:TQ) (l t : Env) (L : Lg) : wp F (q_f45_2 N) l t L (fin [.cell (.l 4) (some 3),.tmp (.l 5)] Q) nE (fin [.cell (.l 4) (some 3),.tmp (.l 5)] Q) = D_f45_2 F N Q (l 0) (l 1) (l 4) L := wpS (e_f45_3 F N Q) (by kernel_rfl)
def q_f45_1a (N : TN) : ACode := (.reg [⟨.l 4,none,.alloc [.i .i64 0,.i .i64 0,.i .i64 0],[]⟩,⟨.l 5,none,.mv,[.c (.b false)]⟩])
def q_f45_1 (N : TN) : ACode := (.seq (q_f45_1a N) (q_f45_2 N))
noncomputable def D_f45_1 (F:TF)(N:TN)(Q:TQ) (x0 x1:AV) (L : Lg) : Prop :=
 wpOp F (.alloc [.i .i64 0,.i .i64 0,.i .i64 0]) [] L fun v1 L1=>
 D_f45_2 F N Q x0 x1 v1 L1
theorem e_f45_1 (F:TF)(N:TN)(Q:TQ) (l t : Env) (L : Lg) : wp F (q_f45_1 N) l t L (fin [.cell (.l 4) (some 3),.tmp (.l 5)] Q) nE (fin [.cell (.l 4) (some 3),.tmp (.l 5)] Q) = D_f45_1 F N Q (l 0) (l 1) L := wpS (e_f45_2 F N Q) (by kernel_rfl)
def c_f45 (N : TN) : AFn := ⟨q_f45_1 N,[.cell (.l 4) (some 3),.tmp (.l 5)]⟩
structure H_f45 (N : TN) (F : TF) : Prop where
  code : F (N k_f45) = some (c_f45 N)
  f43 : H_f43 N F
  f44 : H_f44 N F
  f3 : H_f3 N F
  f36 : H_f36 N F
theorem r_f45 {F : TF} {N : TN} (h : F (N k_f45) = some (c_f45 N)) {Q : TQ} {a0 a1 : AV} {L : Lg} (e : D_f45_1 F N Q a0 a1 L) : CallL F (N k_f45) [a0,a1] L Q :=
  CallL.of_wp h (Eq.mpr (Eq.trans (e_f45_1 F N Q (initE [a0,a1] 0) Env.nil L) (by kernel_rfl : _ = D_f45_1 F N Q a0 a1 L)) e)
def q_f46_1 (N : TN) : ACode := (.seq (.reg [⟨.l 4,none,.mv,[.c (.sl none 0 0 0)]⟩]) (.seq (.reg [oQ (8,.mv,[.l 0]),oQ (9,.nilchk,[.t 8]),oQ (10,.fad 1,[.t 9]),oQ (11,.ld none,[.t 10]),oQ (12,.call (N k_f14),[.t 11]),oQ (7,.mv,[.t 12]),oQ (13,.ext 0,[.t 7]),oQ (14,.ext 1,[.t 7]),⟨.l 5,none,.alloc [.i .i64 0,.i .i64 0,.i .i64 0],[]⟩,⟨.no,none,.st 3,[.l 5,.t 13]⟩,⟨.l 6,none,.mv,[.t 14]⟩]) (.seq (.seq (.reg [oQ (15,.mv,[.l 6]),oQ (16,.un .not,[.t 15])]) (.cond (.t 16) (.seq (.reg [⟨.l 4,none,.mv,[.c (.sl none 0 0 0)]⟩]) .ret) .skip)) (.seq (.reg [oQ (17,.fad 0,[.l 5]),oQ (18,.ld none,[.t 17]),oQ (19,.fad 1,[.l 5]),oQ (20,.ld none,[.t 19]),oQ (21,.mv,[.l 1]),oQ (22,.build [.i .i64 0,.i .i64 0,.i .i64 0,.b false,.b false] [(0,1),(1,1),(2,1),(3,1)],[.t 18,.t 20,.t 21,.c (.b true)]),oQ (23,.bslice [.i .i64 0,.i .i64 0,.i .i64 0,.b false,.b false] 1 5 [0],[.t 22]),⟨.l 4,none,.mv,[.t 23]⟩]) .ret))))
noncomputable def D_f46_1 (F:TF)(N:TN)(Q:TQ) (x0 x1:AV) (L : Lg) : Prop :=
 wpOp F .nilchk [x0] L fun v1 L1=>
 wpOp F (.fad 1) [v1] L1 fun v2 L2=>
 wpOp F (.ld none) [v2] L2 fun v3 L3=>
 CallL F (N k_f14) [v3] L3 fun v4 L4=>
 wpOp F (.ext 0) [v4] L4 fun v5 L5=>
 wpOp F (.ext 1) [v4] L5 fun v6 L6=>
 wpOp F (.alloc [.i .i64 0,.i .i64 0,.i .i64 0]) [] L6 fun v7 L7=>
 wpOp F (.st 3) [v7,v5] L7 fun _ L8=>
 wpOp F (.un .not) [v6] L8 fun v9 L9=>
 condW v9
 (fin1 (some (.sl none 0 0 0)) Q L9)
 (wpOp F (.fad 0) [v7] L9 fun v10 L10=>
 wpOp F (.ld none) [v10] L10 fun v11 L11=>
 wpOp F (.fad 1) [v7] L11 fun v12 L12=>
 wpOp F (.ld none) [v12] L12 fun v13 L13=>
 wpOp F (.build [.i .i64 0,.i .i64 0,.i .i64 0,.b false,.b false] [(0,1),(1,1),(2,1),(3,1)]) [v11,v13,x1,(.b true)] L13 fun v14 L14=>
 wpOp F (.bslice [.i .i64 0,.i .i64 0,.i .i64 0,.b false,.b false] 1 5 [0]) [v14] L14 fun v15 L15=>
 fin1 (some v15) Q L15)
theorem e_f46_1 (F:TF)(N:TN)(Q:TQ) (l t : Env) (L : Lg) : wp F (q_f46_1 N) l t L (fin [.tmp (.l 4)] Q) nE (fin [.tmp (.l 4)] Q) = D_f46_1 F N Q (l 0) (l 1) L := by kernel_rfl
def c_f46 (N : TN) : AFn := ⟨q_f46_1 N,[.tmp (.l 4)]⟩
structure H_f46 (N : TN) (F : TF) : Prop where
  code : F (N k_f46) = some (c_f46 N)
  f14 : H_f14 N F
theorem r_f46 {F : TF} {N : TN} (h : F (N k_f46) = some (c_f46 N)) {Q : TQ} {a0 a1 : AV} {L : Lg} (e : D_f46_1 F N Q a0 a1 L) : CallL F (N k_f46) [a0,a1] L Q :=
  CallL.of_wp h (Eq.mpr (Eq.trans (e_f46_1 F N Q (initE [a0,a1] 0) Env.nil L) (by kernel_rfl : _ = D_f46_1 F N Q a0 a1 L)) e)
def q_f47_1 (N : TN) : ACode := (.seq (.reg [⟨.l 4,none,.mv,[.c (.sl none 0 0 0)]⟩,⟨.l 5,none,.mv,[.c (.b false)]⟩]) (.seq (.seq (.reg [oQ (6,.mv,[.l 0]),oQ (7,.eq false .ptr,[.t 6,.c (.p none)]),oQ (8,.mv,[.t 7]),gQ (9,8,false,.mv,[.l 0]),gQ (10,8,false,.nilchk,[.t 9]),gQ (11,8,false,.fad 3,[.t 10]),gQ (12,8,false,.ld none,[.t 11]),gQ (13,8,false,.un .not,[.t 12]),oQ (14,.pick,[.t 8,.c (.b true),.t 13])]) (.cond (.t 14) (.seq (.reg [⟨.l 4,none,.mv,[.c (.sl none 0 0 0)]⟩,⟨.l 5,none,.mv,[.c (.b false)]⟩]) .ret) .skip)) (.seq (.seq (.reg [oQ (15,.mv,[.l 0]),oQ (16,.mv,[.l 1]),oQ (17,.call (N k_f46),[.t 15,.t 16]),⟨.l 4,none,.mv,[.t 17]⟩]) (.seq (.reg [oQ (18,.mv,[.l 4]),oQ (19,.lenSl,[.t 18]),oQ (20,.bin .gtr,[.t 19,.c (.i .i64 0)])]) (.cond (.t 20) (.seq (.reg [oQ (21,.mv,[.l 4]),⟨.l 4,none,.mv,[.t 21]⟩,⟨.l 5,none,.mv,[.c (.b true)]⟩]) .ret) .skip))) (.seq (.reg [oQ (22,.mv,[.l 0]),oQ (23,.nilchk,[.t 22]),oQ (24,.fad 0,[.t 23]),oQ (25,.ld none,[.t 24]),oQ (26,.mv,[.l 1]),oQ (27,.call (N k_f4),[.t 25,.t 26]),⟨.l 4,none,.mv,[.c (.sl none 0 0 0)]⟩,⟨.l 5,none,.mv,[.t 27]⟩]) .ret))))
noncomputable def D_f47_1 (F:TF)(N:TN)(Q:TQ) (x0 x1:AV) (L : Lg) : Prop :=
 wpOp F (.eq false .ptr) [x0,(.p none)] L fun v1 L1=>
 gdOp F v1 false .mv [x0] L1 fun v2 L2=>
 gdOp F v1 false .nilchk [v2] L2 fun v3 L3=>
 gdOp F v1 false (.fad 3) [v3] L3 fun v4 L4=>
 gdOp F v1 false (.ld none) [v4] L4 fun v5 L5=>
 gdOp F v1 false (.un .not) [v5] L5 fun v6 L6=>
 wpOp F .pick [v1,(.b true),v6] L6 fun v7 L7=>
 condW v7
 (fin1 (some (.tup [(.sl none 0 0 0),(.b false)])) Q L7)
 (CallL F (N k_f46) [x0,x1] L7 fun v8 L8=>
 wpOp F .lenSl [v8] L8 fun v9 L9=>
 wpOp F (.bin .gtr) [v9,(.i .i64 0)] L9 fun v10 L10=>
 condW v10
 (fin1 (some (.tup [v8,(.b true)])) Q L10)
 (wpOp F .nilchk [x0] L10 fun v11 L11=>
 wpOp F (.fad 0) [v11] L11 fun v12 L12=>
 wpOp F (.ld none) [v12] L12 fun v13 L13=>
 CallL F (N k_f4) [v13,x1] L13 fun v14 L14=>
 fin1 (some (.tup [(.sl none 0 0 0),v14])) Q L14))
theorem e_f47_1 (F:TF)(N:TN)(Q:TQ) (l t : Env) (L : Lg) : wp F (q_f47_1 N) l t L (fin [.tmp (.l 4),.tmp (.l 5)] Q) nE (fin [.tmp (.l 4),.tmp (.l 5)] Q) = D_f47_1 F N Q (l 0) (l 1) L := by kernel_rfl
def c_f47 (N : TN) : AFn := ⟨q_f47_1 N,[.tmp (.l 4),.tmp (.l 5)]⟩
structure H_f47 (N : TN) (F : TF) : Prop where
  code : F (N k_f47) = some (c_f47 N)
  f46 : H_f46 N F
  f4 : H_f4 N F
theorem r_f47 {F : TF} {N : TN} (h : F (N k_f47) = some (c_f47 N)) {Q : TQ} {a0 a1 : AV} {L : Lg} (e : D_f47_1 F N Q a0 a1 L) : CallL F (N k_f47) [a0,a1] L Q :=
  CallL.of_wp h (Eq.mpr (Eq.trans (e_f47_1 F N Q (initE [a0,a1] 0) Env.nil L) (by kernel_rfl : _ = D_f47_1 F N Q a0 a1 L)) e)
def q_f48_5 (N : TN) : ACode := (.seq (.reg [oQ (25,.mv,[.l 0]),oQ (26,.nilchk,[.t 25]),oQ (27,.fad 0,[.t 26]),oQ (28,.ld none,[.t 27]),oQ (29,.fad 0,[.l 6]),oQ (30,.ld none,[.t 29]),oQ (31,.iad 4,[.t 28,.t 30]),oQ (32,.ld (some 4),[.t 31]),⟨.l 8,none,.alloc [.i .i64 0,.i .i64 0,.p none,.i .i64 0],[]⟩,⟨.no,none,.st 4,[.l 8,.t 32]⟩]) (.seq (.reg [oQ (33,.fad 0,[.l 6]),oQ (34,.ld none,[.t 33]),oQ (35,.fad 0,[.l 8]),oQ (36,.ld none,[.t 35]),oQ (37,.fad 1,[.l 6]),oQ (38,.ld none,[.t 37]),oQ (39,.fad 2,[.l 6]),oQ (40,.ld none,[.t 39]),oQ (41,.fad 1,[.l 8]),oQ (42,.ld none,[.t 41]),oQ (43,.build [.i .i64 0,.i .i64 0,.i .i64 0,.i .i64 0,.i .i64 0,.sl none 0 0 0,.b false] [(0,1),(1,1),(2,1),(3,1),(4,1)],[.t 34,.t 36,.t 38,.t 40,.t 42]),⟨.l 9,none,.alloc [.i .i64 0,.i .i64 0,.i .i64 0,.i .i64 0,.i .i64 0,.sl none 0 0 0,.b false],[]⟩,⟨.no,none,.st 7,[.l 9,.t 43]⟩]) (.seq (.reg [oQ (45,.fad 2,[.l 8]),oQ (46,.ld none,[.t 45]),oQ (47,.mv,[.l 1]),oQ (48,.call (N k_f47),[.t 46,.t 47]),oQ (44,.mv,[.t 48]),oQ (49,.ext 0,[.t 44]),oQ (50,.ext 1,[.t 44]),oQ (51,.fad 5,[.l 9]),⟨.no,none,.st 1,[.t 51,.t 49]⟩,oQ (52,.fad 6,[.l 9]),⟨.no,none,.st 1,[.t 52,.t 50]⟩]) (.seq (.reg [oQ (53,.ld (some 7),[.l 9]),⟨.no,none,.st 7,[.l 4,.t 53]⟩,⟨.l 5,none,.mv,[.c (.b true)]⟩]) .ret))))
noncomputable def D_f48_5 (F:TF)(N:TN)(Q:TQ) (x0 x1 x4 x6:AV) (L : Lg) : Prop :=
 wpOp F .nilchk [x0] L fun v1 L1=>
 wpOp F (.fad 0) [v1] L1 fun v2 L2=>
 wpOp F (.ld none) [v2] L2 fun v3 L3=>
 wpOp F (.fad 0) [x6] L3 fun v4 L4=>
 wpOp F (.ld none) [v4] L4 fun v5 L5=>
 wpOp F (.iad 4) [v3,v5] L5 fun v6 L6=>
 wpOp F (.ld (some 4)) [v6] L6 fun v7 L7=>
 wpOp F (.alloc [.i .i64 0,.i .i64 0,.p none,.i .i64 0]) [] L7 fun v8 L8=>
 wpOp F (.st 4) [v8,v7] L8 fun _ L9=>
 wpOp F (.fad 0) [x6] L9 fun v10 L10=>
 wpOp F (.ld none) [v10] L10 fun v11 L11=>
 wpOp F (.fad 0) [v8] L11 fun v12 L12=>
 wpOp F (.ld none) [v12] L12 fun v13 L13=>
 wpOp F (.fad 1) [x6] L13 fun v14 L14=>
 wpOp F (.ld none) [v14] L14 fun v15 L15=>
 wpOp F (.fad 2) [x6] L15 fun v16 L16=>
 wpOp F (.ld none) [v16] L16 fun v17 L17=>
 wpOp F (.fad 1) [v8] L17 fun v18 L18=>
 wpOp F (.ld none) [v18] L18 fun v19 L19=>
 wpOp F (.build [.i .i64 0,.i .i64 0,.i .i64 0,.i .i64 0,.i .i64 0,.sl none 0 0 0,.b false] [(0,1),(1,1),(2,1),(3,1),(4,1)]) [v11,v13,v15,v17,v19] L19 fun v20 L20=>
 wpOp F (.alloc [.i .i64 0,.i .i64 0,.i .i64 0,.i .i64 0,.i .i64 0,.sl none 0 0 0,.b false]) [] L20 fun v21 L21=>
 wpOp F (.st 7) [v21,v20] L21 fun _ L22=>
 wpOp F (.fad 2) [v8] L22 fun v23 L23=>
 wpOp F (.ld none) [v23] L23 fun v24 L24=>
 CallL F (N k_f47) [v24,x1] L24 fun v25 L25=>
 wpOp F (.ext 0) [v25] L25 fun v26 L26=>
 wpOp F (.ext 1) [v25] L26 fun v27 L27=>
 wpOp F (.fad 5) [v21] L27 fun v28 L28=>
 wpOp F (.st 1) [v28,v26] L28 fun _ L29=>
 wpOp F (.fad 6) [v21] L29 fun v30 L30=>
 wpOp F (.st 1) [v30,v27] L30 fun _ L31=>
 wpOp F (.ld (some 7)) [v21] L31 fun v32 L32=>
 wpOp F (.st 7) [x4,v32] L32 fun _ L33=>
 fin1 (resVL Env.nil Env.nil L33 [.cell (.c x4) (some 7),.tmp (.c (.b true))]) Q L33
theorem e_f48_5 (F:TF)(N:TN)(Q:TQ) (l t : Env) (L : Lg) : wp F (q_f48_5 N) l t L (fin [.cell (.l 4) (some 7),.tmp (.l 5)] Q) nE (fin [.cell (.l 4) (some 7),.tmp (.l 5)] Q) = D_f48_5 F N Q (l 0) (l 1) (l 4) (l 6) L := by kernel_rfl
def q_f48_4a (N : TN) : ACode := (.seq (.reg [oQ (22,.mv,[.l 7]),oQ (23,.un .not,[.t 22])]) (.cond (.t 23) (.seq (.reg [oQ (24,.build [.i .i64 0,.i .i64 0,.i .i64 0,.i .i64 0,.i .i64 0,.sl none 0 0 0,.b false] [],[]),⟨.no,none,.st 7,[.l 4,.t 24]⟩,⟨.l 5,none,.mv,[.c (.b false)]⟩]) .ret) .skip))
def q_f48_4 (N : TN) : ACode := (.seq (q_f48_4a N) (q_f48_5 N))
noncomputable def D_f48_4 (F:TF)(N:TN)(Q:TQ) (x0 x1 x4 x6 x7:AV) (L : Lg) : Prop :=
 wpOp F (.un .not) [x7] L fun v1 L1=>
 condW v1
 (wpOp F (.build [.i .i64 0,.i .i64 0,.i .i64 0,.i .i64 0,.i .i64 0,.sl none 0 0 0,.b false] []) [] L1 fun v2 L2=>
 wpOp F (.st 7) [x4,v2] L2 fun _ L3=>
 fin1 (resVL Env.nil Env.nil L3 [.cell (.c x4) (some 7),.tmp (.c (.b false))]) Q L3)
 (D_f48_5 F N Q x0 x1 x4 x6 L1)
theorem e_f48_4 (F:TF)(N:TN)(Q:TQ) (l t : Env) (L : Lg) : wp F (q_f48_4 N) l t L (fin [.cell (.l 4) (some 7),.tmp (.l 5)] Q) nE (fin [.cell (.l 4) (some 7),.tmp (.l 5)] Q) = D_f48_4 F N Q (l 0) (l 1) (l 4) (l 6) (l 7) L := wpS (e_f48_5 F N Q) (by kernel_rfl)
def q_f48_3a (N : TN) : ACode := (.reg [oQ (14,.mv,[.l 0]),oQ (15,.nilchk,[.t 14]),oQ (16,.fad 1,[.t 15]),oQ (17,.ld none,[.t 16]),oQ (18,.mv,[.l 1]),oQ (19,.call (N k_f45),[.t 17,.t 18]),oQ (13,.mv,[.t 19]),oQ (20,.ext 0,[.t 13]),oQ (21,.ext 1,[.t 13]),⟨.l 6,none,.alloc [.i .i64 0,.i .i64 0,.i .i64 0],[]⟩,⟨.no,none,.st 3,[.l 6,.t 20]⟩,⟨.l 7,none,.mv,[.t 21]⟩])
def q_f48_3 (N : TN) : ACode := (.seq (q_f48_3a N) (q_f48_4 N))
noncomputable def D_f48_3 (F:TF)(N:TN)(Q:TQ) (x0 x1 x4:AV) (L : Lg) : Prop :=
 wpOp F .nilchk [x0] L fun v1 L1=>
 wpOp F (.fad 1) [v1] L1 fun v2 L2=>
 wpOp F (.ld none) [v2] L2 fun v3 L3=>
 CallL F (N k_f45) [v3,x1] L3 fun v4 L4=>
 wpOp F (.ext 0) [v4] L4 fun v5 L5=>
 wpOp F (.ext 1) [v4] L5 fun v6 L6=>
 wpOp F (.alloc [.i .i64 0,.i .i64 0,.i .i64 0]) [] L6 fun v7 L7=>
 wpOp F (.st 3) [v7,v5] L7 fun _ L8=>
 D_f48_4 F N Q x0 x1 x4 v7 v6 L8
theorem e_f48_3 (F:TF)(N:TN)(Q:TQ) (l t : Env) (L : Lg) : wp F (q_f48_3 N) l t L (fin [.cell (.l 4) (some 7),.tmp (.l 5)] Q) nE (fin [.cell (.l 4) (some 7),.tmp (.l 5)] Q) = D_f48_3 F N Q (l 0) (l 1) (l 4) L := wpS (e_f48_4 F N Q) (by kernel_rfl)
def q_f48_2a (N : TN) : ACode := (.seq (.reg [oQ (10,.mv,[.l 0]),oQ (11,.eq false .ptr,[.t 10,.c (.p none)])]) (.cond (.t 11) (.seq (.reg [oQ (12,.build [.i .i64 0,.i .i64 0,.i .i64 0,.i .i64 0,.i .i64 0,.sl none 0 0 0,.b false] [],[]),⟨.no,none,.st 7,[.l 4,.t 12]⟩,⟨.l 5,none,.mv,[.c (.b false)]⟩]) .ret) .skip))
def q_f48_2 (N : TN) : ACode := (.seq (q_f48_2a N) (q_f48_3 N))
noncomputable def D_f48_2 (F:TF)(N:TN)(Q:TQ) (x0 x1 x4:AV) (L : Lg) : Prop :=
 wpOp F (.eq false .ptr) [x0,(.p none)] L fun v1 L1=>
 condW v1
 (wpOp F (.build [.i .i64 0,.i .i64 0,.i .i64 0,.i .i64 0,.i .i64 0,.sl none 0 0 0,.b false] []) [] L1 fun v2 L2=>
 wpOp F (.st 7) [x4,v2] L2 fun _ L3=>
 fin1 (resVL Env.nil Env.nil L3 [.cell (.c x4) (some 7),.tmp (.c (.b false))]) Q L3)
 (D_f48_3 F N Q x0 x1 x4 L1)
theorem e_f48_2 (F:TF)(N:TN)(Q:TQ) (l t : Env) (L : Lg) : wp F (q_f48_2 N) l t L (fin [.cell (.l 4) (some 7),.tmp (.l 5)] Q) nE (fin [.cell (.l 4) (some 7),.tmp (.l 5)] Q) = D_f48_2 F N Q (l 0) (l 1) (l 4) L := wpS (e_f48_3 F N Q) (by kernel_rfl)
def q_f48_1a (N : TN) : ACode := (.reg [⟨.l 4,none,.alloc [.i .i64 0,.i .i64 0,.i .i64 0,.i .i64 0,.i .i64 0,.sl none 0 0 0,.b false],[]⟩,⟨.l 5,none,.mv,[.c (.b false)]⟩])
def q_f48_1 (N : TN) : ACode := (.seq (q_f48_1a N) (q_f48_2 N))
noncomputable def D_f48_1 (F:TF)(N:TN)(Q:TQ) (x0 x1:AV) (L : Lg) : Prop :=
 wpOp F (.alloc [.i .i64 0,.i .i64 0,.i .i64 0,.i .i64 0,.i .i64 0,.sl none 0 0 0,.b false]) [] L fun v1 L1=>
 D_f48_2 F N Q x0 x1 v1 L1
theorem e_f48_1 (F:TF)(N:TN)(Q:TQ) (l t : Env) (L : Lg) : wp F (q_f48_1 N) l t L (fin [.cell (.l 4) (some 7),.tmp (.l 5)] Q) nE (fin [.cell (.l 4) (some 7),.tmp (.l 5)] Q) = D_f48_1 F N Q (l 0) (l 1) L := wpS (e_f48_2 F N Q) (by kernel_rfl)
def c_f48 (N : TN) : AFn := ⟨q_f48_1 N,[.cell (.l 4) (some 7),.tmp (.l 5)]⟩
structure H_f48 (N : TN) (F : TF) : Prop where
  code : F (N k_f48) = some (c_f48 N)
  f45 : H_f45 N F
  f47 : H_f47 N F
theorem r_f48 {F : TF} {N : TN} (h : F (N k_f48) = some (c_f48 N)) {Q : TQ} {a0 a1 : AV} {L : Lg} (e : D_f48_1 F N Q a0 a1 L) : CallL F (N k_f48) [a0,a1] L Q :=
  CallL.of_wp h (Eq.mpr (Eq.trans (e_f48_1 F N Q (initE [a0,a1] 0) Env.nil L) (by kernel_rfl : _ = D_f48_1 F N Q a0 a1 L)) e)
def q_f49_1 (N : TN) : ACode := (.seq (.reg [⟨.l 4,none,.mv,[.c (.b false)]⟩]) (.seq (.reg [oQ (5,.mv,[.l 0]),oQ (6,.eq true .ptr,[.t 5,.c (.p none)]),oQ (7,.mv,[.t 6]),gQ (8,7,true,.mv,[.l 1]),gQ (9,7,true,.bin .geq,[.t 8,.c (.i .i64 0)]),oQ (10,.pick,[.t 7,.t 9,.c (.b false)]),oQ (11,.mv,[.t 10]),gQ (12,11,true,.mv,[.l 1]),gQ (13,11,true,.mv,[.l 0]),gQ (14,11,true,.nilchk,[.t 13]),gQ (15,11,true,.fad 0,[.t 14]),gQ (16,11,true,.ld none,[.t 15]),gQ (17,11,true,.lenSl,[.t 16]),gQ (18,11,true,.bin .lss,[.t 12,.t 17]),oQ (19,.pick,[.t 11,.t 18,.c (.b false)]),⟨.l 4,none,.mv,[.t 19]⟩]) .ret))
noncomputable def D_f49_1 (F:TF)(N:TN)(Q:TQ) (x0 x1:AV) (L : Lg) : Prop :=
 wpOp F (.eq true .ptr) [x0,(.p none)] L fun v1 L1=>
 gdOp F v1 true .mv [x1] L1 fun v2 L2=>
 gdOp F v1 true (.bin .geq) [v2,(.i .i64 0)] L2 fun v3 L3=>
 wpOp F .pick [v1,v3,(.b false)] L3 fun v4 L4=>
 gdOp F v4 true .mv [x1] L4 fun v5 L5=>
 gdOp F v4 true .mv [x0] L5 fun v6 L6=>
 gdOp F v4 true .nilchk [v6] L6 fun v7 L7=>
 gdOp F v4 true (.fad 0) [v7] L7 fun v8 L8=>
 gdOp F v4 true (.ld none) [v8] L8 fun v9 L9=>
 gdOp F v4 true .lenSl [v9] L9 fun v10 L10=>
 gdOp F v4 true (.bin .lss) [v5,v10] L10 fun v11 L11=>
 wpOp F .pick [v4,v11,(.b false)] L11 fun v12 L12=>
 fin1 (some v12) Q L12
theorem e_f49_1 (F:TF)(N:TN)(Q:TQ) (l t : Env) (L : Lg) : wp F (q_f49_1 N) l t L (fin [.tmp (.l 4)] Q) nE (fin [.tmp (.l 4)] Q) = D_f49_1 F N Q (l 0) (l 1) L := by kernel_rfl
def c_f49 (N : TN) : AFn := ⟨q_f49_1 N,[.tmp (.l 4)]⟩
structure H_f49 (N : TN) (F : TF) : Prop where
  code : F (N k_f49) = some (c_f49 N)
theorem r_f49 {F : TF} {N : TN} (h : F (N k_f49) = some (c_f49 N)) {Q : TQ} {a0 a1 : AV} {L : Lg} (e : D_f49_1 F N Q a0 a1 L) : CallL F (N k_f49) [a0,a1] L Q :=
  CallL.of_wp h (Eq.mpr (Eq.trans (e_f49_1 F N Q (initE [a0,a1] 0) Env.nil L) (by kernel_rfl : _ = D_f49_1 F N Q a0 a1 L)) e)
def q_f50_1 (N : TN) : ACode := (.seq (.reg [⟨.l 2,none,.mv,[.c (.b false)]⟩]) (.seq (.reg [oQ (3,.mv,[.l 0]),oQ (4,.eq true .ptr,[.t 3,.c (.p none)]),oQ (5,.mv,[.t 4]),gQ (6,5,true,.mv,[.l 0]),gQ (7,5,true,.nilchk,[.t 6]),gQ (8,5,true,.fad 3,[.t 7]),gQ (9,5,true,.ld none,[.t 8]),oQ (10,.pick,[.t 5,.t 9,.c (.b false)]),oQ (11,.mv,[.t 10]),gQ (12,11,true,.mv,[.l 0]),gQ (13,11,true,.nilchk,[.t 12]),gQ (14,11,true,.fad 0,[.t 13]),gQ (15,11,true,.ld none,[.t 14]),gQ (16,11,true,.call (N k_f8),[.t 15]),gQ (17,11,true,.bin .gtr,[.t 16,.c (.i .i64 0)]),oQ (18,.pick,[.t 11,.t 17,.c (.b false)]),⟨.l 2,none,.mv,[.t 18]⟩]) .ret))
noncomputable def D_f50_1 (F:TF)(N:TN)(Q:TQ) (x0 : AV) (L : Lg) : Prop :=
 wpOp F (.eq true .ptr) [x0,(.p none)] L fun v1 L1=>
 gdOp F v1 true .mv [x0] L1 fun v2 L2=>
 gdOp F v1 true .nilchk [v2] L2 fun v3 L3=>
 gdOp F v1 true (.fad 3) [v3] L3 fun v4 L4=>
 gdOp F v1 true (.ld none) [v4] L4 fun v5 L5=>
 wpOp F .pick [v1,v5,(.b false)] L5 fun v6 L6=>
 gdOp F v6 true .mv [x0] L6 fun v7 L7=>
 gdOp F v6 true .nilchk [v7] L7 fun v8 L8=>
 gdOp F v6 true (.fad 0) [v8] L8 fun v9 L9=>
 gdOp F v6 true (.ld none) [v9] L9 fun v10 L10=>
 gdOp F v6 true (.call (N k_f8)) [v10] L10 fun v11 L11=>
 gdOp F v6 true (.bin .gtr) [v11,(.i .i64 0)] L11 fun v12 L12=>
 wpOp F .pick [v6,v12,(.b false)] L12 fun v13 L13=>
 fin1 (some v13) Q L13
theorem e_f50_1 (F:TF)(N:TN)(Q:TQ) (l t : Env) (L : Lg) : wp F (q_f50_1 N) l t L (fin [.tmp (.l 2)] Q) nE (fin [.tmp (.l 2)] Q) = D_f50_1 F N Q (l 0) L := by kernel_rfl
def c_f50 (N : TN) : AFn := ⟨q_f50_1 N,[.tmp (.l 2)]⟩
structure H_f50 (N : TN) (F : TF) : Prop where
  code : F (N k_f50) = some (c_f50 N)
  f8 : H_f8 N F
theorem r_f50 {F : TF} {N : TN} (h : F (N k_f50) = some (c_f50 N)) {Q : TQ} {a0 : AV} {L : Lg} (e : D_f50_1 F N Q a0 L) : CallL F (N k_f50) [a0] L Q :=
  CallL.of_wp h (Eq.mpr (Eq.trans (e_f50_1 F N Q (initE [a0] 0) Env.nil L) (by kernel_rfl : _ = D_f50_1 F N Q a0 L)) e)
def q_f51_1 (N : TN) : ACode := (.seq (.reg [⟨.l 4,none,.mv,[.c (.b false)]⟩,⟨.l 5,none,.mv,[.c (.i .i64 0)]⟩]) (.seq (.seq (.reg [oQ (7,.mv,[.l 0]),oQ (8,.mv,[.l 1]),oQ (9,.call (N k_f49),[.t 7,.t 8]),oQ (10,.un .not,[.t 9])]) (.cond (.t 10) (.seq (.reg [⟨.l 4,none,.mv,[.c (.b false)]⟩,⟨.l 5,none,.mv,[.c (.i .i64 4)]⟩]) .ret) .skip)) (.seq (.reg [oQ (11,.mv,[.l 0]),oQ (12,.nilchk,[.t 11]),oQ (13,.fad 1,[.t 12]),oQ (14,.ld none,[.t 13]),oQ (15,.mv,[.l 1]),oQ (16,.call (N k_f34),[.t 14,.t 15]),⟨.l 6,none,.mv,[.t 16]⟩]) (.seq (.reg [oQ (17,.mv,[.l 0]),oQ (18,.nilchk,[.t 17]),oQ (19,.fad 0,[.t 18]),oQ (20,.ld none,[.t 19]),oQ (21,.mv,[.l 1]),oQ (22,.iad 4,[.t 20,.t 21]),oQ (23,.fad 2,[.t 22]),oQ (24,.ld none,[.t 23]),oQ (25,.call (N k_f50),[.t 24]),oQ (26,.mv,[.t 25]),gQ (27,26,false,.mv,[.l 6]),oQ (28,.pick,[.t 26,.c (.b true),.t 27]),⟨.l 4,none,.mv,[.t 28]⟩,⟨.l 5,none,.mv,[.c (.i .i64 0)]⟩]) .ret))))
noncomputable def D_f51_1 (F:TF)(N:TN)(Q:TQ) (x0 x1:AV) (L : Lg) : Prop :=
 CallL F (N k_f49) [x0,x1] L fun v1 L1=>
 wpOp F (.un .not) [v1] L1 fun v2 L2=>
 condW v2
 (fin1 (some (.tup [(.b false),(.i .i64 4)])) Q L2)
 (wpOp F .nilchk [x0] L2 fun v3 L3=>
 wpOp F (.fad 1) [v3] L3 fun v4 L4=>
 wpOp F (.ld none) [v4] L4 fun v5 L5=>
 CallL F (N k_f34) [v5,x1] L5 fun v6 L6=>
 wpOp F .nilchk [x0] L6 fun v7 L7=>
 wpOp F (.fad 0) [v7] L7 fun v8 L8=>
 wpOp F (.ld none) [v8] L8 fun v9 L9=>
 wpOp F (.iad 4) [v9,x1] L9 fun v10 L10=>
 wpOp F (.fad 2) [v10] L10 fun v11 L11=>
 wpOp F (.ld none) [v11] L11 fun v12 L12=>
 CallL F (N k_f50) [v12] L12 fun v13 L13=>
 gdOp F v13 false .mv [v6] L13 fun v14 L14=>
 wpOp F .pick [v13,(.b true),v14] L14 fun v15 L15=>
 fin1 (some (.tup [v15,(.i .i64 0)])) Q L15)
theorem e_f51_1 (F:TF)(N:TN)(Q:TQ) (l t : Env) (L : Lg) : wp F (q_f51_1 N) l t L (fin [.tmp (.l 4),.tmp (.l 5)] Q) nE (fin [.tmp (.l 4),.tmp (.l 5)] Q) = D_f51_1 F N Q (l 0) (l 1) L := by kernel_rfl
def c_f51 (N : TN) : AFn := ⟨q_f51_1 N,[.tmp (.l 4),.tmp (.l 5)]⟩
structure H_f51 (N : TN) (F : TF) : Prop where
  code : F (N k_f51) = some (c_f51 N)
  f49 : H_f49 N F
  f34 : H_f34 N F
  f50 : H_f50 N F
theorem r_f51 {F : TF} {N : TN} (h : F (N k_f51) = some (c_f51 N)) {Q : TQ} {a0 a1 : AV} {L : Lg} (e : D_f51_1 F N Q a0 a1 L) : CallL F (N k_f51) [a0,a1] L Q :=
  CallL.of_wp h (Eq.mpr (Eq.trans (e_f51_1 F N Q (initE [a0,a1] 0) Env.nil L) (by kernel_rfl : _ = D_f51_1 F N Q a0 a1 L)) e)
def q_f52_1 (N : TN) : ACode := (.seq (.reg [⟨.l 6,none,.mv,[.c (.i .i64 0)]⟩,⟨.l 7,none,.mv,[.c (.p none)]⟩,⟨.l 8,none,.mv,[.c (.i .i64 0)]⟩]) (.seq (.reg [oQ (9,.mv,[.l 0]),oQ (10,.mv,[.l 1]),oQ (11,.mv,[.l 2]),oQ (12,.call (N k_f39),[.t 9,.c (.i .i64 2),.t 10,.t 11]),oQ (13,.ext 0,[.t 12]),oQ (14,.ext 1,[.t 12]),oQ (15,.ext 2,[.t 12]),⟨.l 6,none,.mv,[.t 13]⟩,⟨.l 7,none,.mv,[.t 14]⟩,⟨.l 8,none,.mv,[.t 15]⟩]) .ret))
noncomputable def D_f52_1 (F:TF)(N:TN)(Q:TQ) (x0 x1 x2:AV) (L : Lg) : Prop :=
 CallL F (N k_f39) [x0,(.i .i64 2),x1,x2] L fun v1 L1=>
 wpOp F (.ext 0) [v1] L1 fun v2 L2=>
 wpOp F (.ext 1) [v1] L2 fun v3 L3=>
 wpOp F (.ext 2) [v1] L3 fun v4 L4=>
 fin1 (some (.tup [v2,v3,v4])) Q L4
theorem e_f52_1 (F:TF)(N:TN)(Q:TQ) (l t : Env) (L : Lg) : wp F (q_f52_1 N) l t L (fin [.tmp (.l 6),.tmp (.l 7),.tmp (.l 8)] Q) nE (fin [.tmp (.l 6),.tmp (.l 7),.tmp (.l 8)] Q) = D_f52_1 F N Q (l 0) (l 1) (l 2) L := by kernel_rfl
def c_f52 (N : TN) : AFn := ⟨q_f52_1 N,[.tmp (.l 6),.tmp (.l 7),.tmp (.l 8)]⟩
structure H_f52 (N : TN) (F : TF) : Prop where
  code : F (N k_f52) = some (c_f52 N)
  f39 : H_f39 N F
theorem r_f52 {F : TF} {N : TN} (h : F (N k_f52) = some (c_f52 N)) {Q : TQ} {a0 a1 a2 : AV} {L : Lg} (e : D_f52_1 F N Q a0 a1 a2 L) : CallL F (N k_f52) [a0,a1,a2] L Q :=
  CallL.of_wp h (Eq.mpr (Eq.trans (e_f52_1 F N Q (initE [a0,a1,a2] 0) Env.nil L) (by kernel_rfl : _ = D_f52_1 F N Q a0 a1 a2 L)) e)
def q_f53_1 (N : TN) : ACode := (.seq (.reg [⟨.l 8,none,.mv,[.c (.i .i64 0)]⟩,⟨.l 9,none,.mv,[.c (.i .i64 0)]⟩]) (.seq (.reg [oQ (10,.mv,[.l 0]),oQ (11,.mv,[.l 3]),oQ (12,.build [.i .i64 0,.i .i64 0,.p none,.i .i64 0] [(0,1),(1,1)],[.c (.i .i64 3),.t 11]),oQ (13,.mv,[.l 1]),oQ (14,.mv,[.l 2]),oQ (15,.call (N k_f38),[.t 10,.t 12,.t 13,.t 14]),oQ (16,.ext 0,[.t 15]),oQ (17,.ext 1,[.t 15]),⟨.l 8,none,.mv,[.t 16]⟩,⟨.l 9,none,.mv,[.t 17]⟩]) .ret))
noncomputable def D_f53_1 (F:TF)(N:TN)(Q:TQ) (x0 x1 x2 x3:AV) (L : Lg) : Prop :=
 wpOp F (.build [.i .i64 0,.i .i64 0,.p none,.i .i64 0] [(0,1),(1,1)]) [(.i .i64 3),x3] L fun v1 L1=>
 CallL F (N k_f38) [x0,v1,x1,x2] L1 fun v2 L2=>
 wpOp F (.ext 0) [v2] L2 fun v3 L3=>
 wpOp F (.ext 1) [v2] L3 fun v4 L4=>
 fin1 (some (.tup [v3,v4])) Q L4
theorem e_f53_1 (F:TF)(N:TN)(Q:TQ) (l t : Env) (L : Lg) : wp F (q_f53_1 N) l t L (fin [.tmp (.l 8),.tmp (.l 9)] Q) nE (fin [.tmp (.l 8),.tmp (.l 9)] Q) = D_f53_1 F N Q (l 0) (l 1) (l 2) (l 3) L := by kernel_rfl
def c_f53 (N : TN) : AFn := ⟨q_f53_1 N,[.tmp (.l 8),.tmp (.l 9)]⟩
structure H_f53 (N : TN) (F : TF) : Prop where
  code : F (N k_f53) = some (c_f53 N)
  f38 : H_f38 N F
theorem r_f53 {F : TF} {N : TN} (h : F (N k_f53) = some (c_f53 N)) {Q : TQ} {a0 a1 a2 a3 : AV} {L : Lg} (e : D_f53_1 F N Q a0 a1 a2 a3 L) : CallL F (N k_f53) [a0,a1,a2,a3] L Q :=
  CallL.of_wp h (Eq.mpr (Eq.trans (e_f53_1 F N Q (initE [a0,a1,a2,a3] 0) Env.nil L) (by kernel_rfl : _ = D_f53_1 F N Q a0 a1 a2 a3 L)) e)
def q_f54_3 (N : TN) : ACode := (.seq (.reg [oQ (46,.mv,[.l 0]),oQ (47,.mv,[.l 1]),oQ (48,.call (N k_f51),[.t 46,.t 47]),oQ (45,.mv,[.t 48]),oQ (49,.ext 0,[.t 45]),oQ (50,.ext 1,[.t 45]),⟨.l 10,none,.mv,[.t 49]⟩,oQ (11,.mv,[.t 50])]) (.seq (.reg [oQ (51,.mv,[.l 0]),oQ (52,.mv,[.l 1]),oQ (53,.mv,[.l 2]),oQ (54,.mv,[.l 3]),oQ (55,.call (N k_f37),[.t 51,.t 52,.t 53,.t 54])]) (.seq (.reg [oQ (56,.mv,[.l 10]),⟨.l 8,none,.mv,[.t 56]⟩,⟨.l 9,none,.mv,[.c (.i .i64 0)]⟩]) .ret)))
noncomputable def D_f54_3 (F:TF)(N:TN)(Q:TQ) (x0 x1 x2 x3:AV) (L : Lg) : Prop :=
 CallL F (N k_f51) [x0,x1] L fun v1 L1=>
 wpOp F (.ext 0) [v1] L1 fun v2 L2=>
 wpOp F (.ext 1) [v1] L2 fun v3 L3=>
 CallL F (N k_f37) [x0,x1,x2,x3] L3 fun v4 L4=>
 fin1 (some (.tup [v2,(.i .i64 0)])) Q L4
theorem e_f54_3 (F:TF)(N:TN)(Q:TQ) (l t : Env) (L : Lg) : wp F (q_f54_3 N) l t L (fin [.tmp (.l 8),.tmp (.l 9)] Q) nE (fin [.tmp (.l 8),.tmp (.l 9)] Q) = D_f54_3 F N Q (l 0) (l 1) (l 2) (l 3) L := by kernel_rfl
def q_f54_2a (N : TN) : ACode := (.block 0 (.seq (.reg [oQ (13,.mv,[.l 0]),oQ (14,.mv,[.l 1]),oQ (15,.call (N k_f49),[.t 13,.t 14]),oQ (16,.un .not,[.t 15]),oQ (12,.mv,[.t 16])]) (.cond (.t 12) (.seq (.reg [⟨.l 8,none,.mv,[.c (.b false)]⟩,⟨.l 9,none,.mv,[.c (.i .i64 4)]⟩]) .ret) (.seq (.reg [oQ (18,.mv,[.l 2]),oQ (19,.call (N k_f24),[.t 18]),oQ (20,.mv,[.t 19]),gQ (21,20,false,.mv,[.l 0]),gQ (22,20,false,.nilchk,[.t 21]),gQ (23,20,false,.fad 0,[.t 22]),gQ (24,20,false,.ld none,[.t 23]),gQ (25,20,false,.mv,[.l 1]),gQ (26,20,false,.iad 4,[.t 24,.t 25]),gQ (27,20,false,.fad 0,[.t 26]),gQ (28,20,false,.ld none,[.t 27]),gQ (29,20,false,.bin .eql,[.t 28,.c (.i .i64 2)]),gQ (30,20,false,.mv,[.t 29]),gQ (31,30,true,.mv,[.l 3]),gQ (32,30,true,.bin .lss,[.t 31,.c (.i .i64 1)]),gQ (33,20,false,.pick,[.t 30,.t 32,.c (.b false)]),oQ (34,.pick,[.t 20,.c (.b true),.t 33]),oQ (17,.mv,[.t 34])]) (.cond (.t 17) (.seq (.reg [⟨.l 8,none,.mv,[.c (.b false)]⟩,⟨.l 9,none,.mv,[.c (.i .i64 1)]⟩]) .ret) (.seq (.reg [oQ (36,.mv,[.l 0]),oQ (37,.nilchk,[.t 36]),oQ (38,.fad 0,[.t 37]),oQ (39,.ld none,[.t 38]),oQ (40,.mv,[.l 1]),oQ (41,.iad 4,[.t 39,.t 40]),oQ (42,.fad 0,[.t 41]),oQ (43,.ld none,[.t 42]),oQ (44,.bin .eql,[.t 43,.c (.i .i64 4)]),oQ (35,.mv,[.t 44])]) (.cond (.t 35) (.seq (.reg [⟨.l 8,none,.mv,[.c (.b false)]⟩,⟨.l 9,none,.mv,[.c (.i .i64 7)]⟩]) .ret) .skip)))))))
def q_f54_2 (N : TN) : ACode := (.seq (q_f54_2a N) (q_f54_3 N))
noncomputable def D_f54_2 (F:TF)(N:TN)(Q:TQ) (x0 x1 x2 x3:AV) (L : Lg) : Prop :=
 CallL F (N k_f49) [x0,x1] L fun v1 L1=>
 wpOp F (.un .not) [v1] L1 fun v2 L2=>
 condW v2
 (fin1 (some (.tup [(.b false),(.i .i64 4)])) Q L2)
 (CallL F (N k_f24) [x2] L2 fun v3 L3=>
 gdOp F v3 false .mv [x0] L3 fun v4 L4=>
 gdOp F v3 false .nilchk [v4] L4 fun v5 L5=>
 gdOp F v3 false (.fad 0) [v5] L5 fun v6 L6=>
 gdOp F v3 false (.ld none) [v6] L6 fun v7 L7=>
 gdOp F v3 false .mv [x1] L7 fun v8 L8=>
 gdOp F v3 false (.iad 4) [v7,v8] L8 fun v9 L9=>
 gdOp F v3 false (.fad 0) [v9] L9 fun v10 L10=>
 gdOp F v3 false (.ld none) [v10] L10 fun v11 L11=>
 gdOp F v3 false (.bin .eql) [v11,(.i .i64 2)] L11 fun v12 L12=>
 gdOp F v3 false .mv [v12] L12 fun v13 L13=>
 gdOp F v13 true .mv [x3] L13 fun v14 L14=>
 gdOp F v13 true (.bin .lss) [v14,(.i .i64 1)] L14 fun v15 L15=>
 gdOp F v3 false .pick [v13,v15,(.b false)] L15 fun v16 L16=>
 wpOp F .pick [v3,(.b true),v16] L16 fun v17 L17=>
 condW v17
 (fin1 (some (.tup [(.b false),(.i .i64 1)])) Q L17)
 (wpOp F .nilchk [x0] L17 fun v18 L18=>
 wpOp F (.fad 0) [v18] L18 fun v19 L19=>
 wpOp F (.ld none) [v19] L19 fun v20 L20=>
 wpOp F (.iad 4) [v20,x1] L20 fun v21 L21=>
 wpOp F (.fad 0) [v21] L21 fun v22 L22=>
 wpOp F (.ld none) [v22] L22 fun v23 L23=>
 wpOp F (.bin .eql) [v23,(.i .i64 4)] L23 fun v24 L24=>
 condW v24
 (fin1 (some (.tup [(.b false),(.i .i64 7)])) Q L24)
 (D_f54_3 F N Q x0 x1 x2 x3 L24)))
theorem e_f54_2 (F:TF)(N:TN)(Q:TQ) (l t : Env) (L : Lg) : wp F (q_f54_2 N) l t L (fin [.tmp (.l 8),.tmp (.l 9)] Q) nE (fin [.tmp (.l 8),.tmp (.l 9)] Q) = D_f54_2 F N Q (l 0) (l 1) (l 2) (l 3) L := wpS (e_f54_3 F N Q) (by kernel_rfl)
def q_f54_1a (N : TN) : ACode := (.reg [⟨.l 8,none,.mv,[.c (.b false)]⟩,⟨.l 9,none,.mv,[.c (.i .i64 0)]⟩])
def q_f54_1 (N : TN) : ACode := (.seq (q_f54_1a N) (q_f54_2 N))
noncomputable def D_f54_1 (F:TF)(N:TN)(Q:TQ) (x0 x1 x2 x3:AV) (L : Lg) : Prop :=
 D_f54_2 F N Q x0 x1 x2 x3 L
theorem e_f54_1 (F:TF)(N:TN)(Q:TQ) (l t : Env) (L : Lg) : wp F (q_f54_1 N) l t L (fin [.tmp (.l 8),.tmp (.l 9)] Q) nE (fin [.tmp (.l 8),.tmp (.l 9)] Q) = D_f54_1 F N Q (l 0) (l 1) (l 2) (l 3) L := wpS (e_f54_2 F N Q) (by kernel_rfl)
def c_f54 (N : TN) : AFn := ⟨q_f54_1 N,[.tmp (.l 8),.tmp (.l 9)]⟩
structure H_f54 (N : TN) (F : TF) : Prop where
  code : F (N k_f54) = some (c_f54 N)
  f49 : H_f49 N F
  f24 : H_f24 N F
  f51 : H_f51 N F
  f37 : H_f37 N F
theorem r_f54 {F : TF} {N : TN} (h : F (N k_f54) = some (c_f54 N)) {Q : TQ} {a0 a1 a2 a3 : AV} {L : Lg} (e : D_f54_1 F N Q a0 a1 a2 a3 L) : CallL F (N k_f54) [a0,a1,a2,a3] L Q :=
  CallL.of_wp h (Eq.mpr (Eq.trans (e_f54_1 F N Q (initE [a0,a1,a2,a3] 0) Env.nil L) (by kernel_rfl : _ = D_f54_1 F N Q a0 a1 a2 a3 L)) e)
def q_f55_1 (N : TN) : ACode := (.seq (.reg [⟨.l 6,none,.mv,[.c (.i .i64 0)]⟩,⟨.l 7,none,.mv,[.c (.i .i64 0)]⟩]) (.seq (.reg [oQ (8,.mv,[.l 0]),oQ (9,.mv,[.l 2]),oQ (10,.build [.i .i64 0,.i .i64 0,.p none,.i .i64 0] [(0,1),(1,1)],[.c (.i .i64 4),.t 9]),oQ (11,.mv,[.l 1]),oQ (12,.call (N k_f38),[.t 8,.t 10,.c (.i .i64 0),.t 11]),oQ (13,.ext 0,[.t 12]),oQ (14,.ext 1,[.t 12]),⟨.l 6,none,.mv,[.t 13]⟩,⟨.l 7,none,.mv,[.t 14]⟩]) .ret))
noncomputable def D_f55_1 (F:TF)(N:TN)(Q:TQ) (x0 x1 x2:AV) (L : Lg) : Prop :=
 wpOp F (.build [.i .i64 0,.i .i64 0,.p none,.i .i64 0] [(0,1),(1,1)]) [(.i .i64 4),x2] L fun v1 L1=>
 CallL F (N k_f38) [x0,v1,(.i .i64 0),x1] L1 fun v2 L2=>
 wpOp F (.ext 0) [v2] L2 fun v3 L3=>
 wpOp F (.ext 1) [v2] L3 fun v4 L4=>
 fin1 (some (.tup [v3,v4])) Q L4
theorem e_f55_1 (F:TF)(N:TN)(Q:TQ) (l t : Env) (L : Lg) : wp F (q_f55_1 N) l t L (fin [.tmp (.l 6),.tmp (.l 7)] Q) nE (fin [.tmp (.l 6),.tmp (.l 7)] Q) = D_f55_1 F N Q (l 0) (l 1) (l 2) L := by kernel_rfl
def c_f55 (N : TN) : AFn := ⟨q_f55_1 N,[.tmp (.l 6),.tmp (.l 7)]⟩
structure H_f55 (N : TN) (F : TF) : Prop where
  code : F (N k_f55) = some (c_f55 N)
  f38 : H_f38 N F
theorem r_f55 {F : TF} {N : TN} (h : F (N k_f55) = some (c_f55 N)) {Q : TQ} {a0 a1 a2 : AV} {L : Lg} (e : D_f55_1 F N Q a0 a1 a2 L) : CallL F (N k_f55) [a0,a1,a2] L Q :=
  CallL.of_wp h (Eq.mpr (Eq.trans (e_f55_1 F N Q (initE [a0,a1,a2] 0) Env.nil L) (by kernel_rfl : _ = D_f55_1 F N Q a0 a1 a2 L)) e)
def q_f56_1 (N : TN) : ACode := (.seq (.reg [⟨.l 2,none,.mv,[.c (.b false)]⟩]) (.seq (.reg [oQ (3,.mv,[.l 0]),oQ (4,.eq true .ptr,[.t 3,.c (.p none)]),oQ (5,.mv,[.t 4]),gQ (6,5,true,.mv,[.l 0]),gQ (7,5,true,.nilchk,[.t 6]),gQ (8,5,true,.fad 3,[.t 7]),gQ (9,5,true,.ld none,[.t 8]),gQ (10,5,true,.mv,[.t 9]),gQ (11,10,false,.mv,[.l 0]),gQ (12,10,false,.nilchk,[.t 11]),gQ (13,10,false,.fad 4,[.t 12]),gQ (14,10,false,.ld none,[.t 13]),gQ (15,5,true,.pick,[.t 10,.c (.b true),.t 14]),oQ (16,.pick,[.t 5,.t 15,.c (.b false)]),⟨.l 2,none,.mv,[.t 16]⟩]) .ret))
noncomputable def D_f56_1 (F:TF)(N:TN)(Q:TQ) (x0 : AV) (L : Lg) : Prop :=
 wpOp F (.eq true .ptr) [x0,(.p none)] L fun v1 L1=>
 gdOp F v1 true .mv [x0] L1 fun v2 L2=>
 gdOp F v1 true .nilchk [v2] L2 fun v3 L3=>
 gdOp F v1 true (.fad 3) [v3] L3 fun v4 L4=>
 gdOp F v1 true (.ld none) [v4] L4 fun v5 L5=>
 gdOp F v1 true .mv [v5] L5 fun v6 L6=>
 gdOp F v6 false .mv [x0] L6 fun v7 L7=>
 gdOp F v6 false .nilchk [v7] L7 fun v8 L8=>
 gdOp F v6 false (.fad 4) [v8] L8 fun v9 L9=>
 gdOp F v6 false (.ld none) [v9] L9 fun v10 L10=>
 gdOp F v1 true .pick [v6,(.b true),v10] L10 fun v11 L11=>
 wpOp F .pick [v1,v11,(.b false)] L11 fun v12 L12=>
 fin1 (some v12) Q L12
theorem e_f56_1 (F:TF)(N:TN)(Q:TQ) (l t : Env) (L : Lg) : wp F (q_f56_1 N) l t L (fin [.tmp (.l 2)] Q) nE (fin [.tmp (.l 2)] Q) = D_f56_1 F N Q (l 0) L := by kernel_rfl
def c_f56 (N : TN) : AFn := ⟨q_f56_1 N,[.tmp (.l 2)]⟩
structure H_f56 (N : TN) (F : TF) : Prop where
  code : F (N k_f56) = some (c_f56 N)
theorem r_f56 {F : TF} {N : TN} (h : F (N k_f56) = some (c_f56 N)) {Q : TQ} {a0 : AV} {L : Lg} (e : D_f56_1 F N Q a0 L) : CallL F (N k_f56) [a0] L Q :=
  CallL.of_wp h (Eq.mpr (Eq.trans (e_f56_1 F N Q (initE [a0] 0) Env.nil L) (by kernel_rfl : _ = D_f56_1 F N Q a0 L)) e)
def q_f57_1 (N : TN) : ACode := (.seq (.reg [⟨.l 4,none,.mv,[.c (.b false)]⟩]) (.seq (.seq (.reg [oQ (5,.mv,[.l 1])]) (.cond (.t 5) (.seq (.regD [oQ (6,.mv,[.l 0]),oQ (7,.nilchk,[.t 6]),oQ (8,.fad 0,[.t 7]),oQ (9,.ld none,[.t 8]),oQ (10,.call (N k_f6),[.t 9]),oQ (11,.mv,[.l 0]),oQ (12,.nilchk,[.t 11]),oQ (13,.fad 0,[.t 12]),oQ (14,.ld none,[.t 13]),oQ (15,.call (N k_f7),[.t 14]),oQ (16,.bin .lss,[.t 10,.t 15]),⟨.l 4,none,.mv,[.t 16]⟩] [(8,0)]) .ret) .skip)) (.seq (.reg [oQ (17,.mv,[.l 0]),oQ (18,.nilchk,[.t 17]),oQ (19,.fad 0,[.t 18]),oQ (20,.ld none,[.t 19]),oQ (21,.call (N k_f6),[.t 20]),oQ (22,.bin .gtr,[.t 21,.c (.i .i64 0)]),⟨.l 4,none,.mv,[.t 22]⟩]) .ret)))
noncomputable def D_f57_1 (F:TF)(N:TN)(Q:TQ) (x0 x1:AV) (L : Lg) : Prop :=
 condW x1
 (wpOp F .nilchk [x0] L fun v1 L1=>
 wpOp F (.fad 0) [v1] L1 fun v2 L2=>
 wpOp F (.ld none) [v2] L2 fun v3 L3=>
 CallL F (N k_f6) [v3] L3 fun v4 L4=>
 wpOp F .nilchk [x0] L4 fun v5 L5=>
 wpOp F (.fad 0) [v5] L5 fun v6 L6=>
 wpOp F (.ld none) [v6] L6 fun v7 L7=>
 CallL F (N k_f7) [v7] L7 fun v8 L8=>
 wpOp F (.bin .lss) [v4,v8] L8 fun v9 L9=>
 (againV (.ld none) [v6] L6 L ∧ True) ∧ (fin1 (some v9) Q L9))
 (wpOp F .nilchk [x0] L fun v10 L10=>
 wpOp F (.fad 0) [v10] L10 fun v11 L11=>
 wpOp F (.ld none) [v11] L11 fun v12 L12=>
 CallL F (N k_f6) [v12] L12 fun v13 L13=>
 wpOp F (.bin .gtr) [v13,(.i .i64 0)] L13 fun v14 L14=>
 fin1 (some v14) Q L14)
theorem e_f57_1 (F:TF)(N:TN)(Q:TQ) (l t : Env) (L : Lg) : wp F (q_f57_1 N) l t L (fin [.tmp (.l 4)] Q) nE (fin [.tmp (.l 4)] Q) = D_f57_1 F N Q (l 0) (l 1) L := by kernel_rfl
def c_f57 (N : TN) : AFn := ⟨q_f57_1 N,[.tmp (.l 4)]⟩
structure H_f57 (N : TN) (F : TF) : Prop where
  code : F (N k_f57) = some (c_f57 N)
  f6 : H_f6 N F
  f7 : H_f7 N F
theorem r_f57 {F : TF} {N : TN} (h : F (N k_f57) = some (c_f57 N)) {Q : TQ} {a0 a1 : AV} {L : Lg} (e : D_f57_1 F N Q a0 a1 L) : CallL F (N k_f57) [a0,a1] L Q :=
  CallL.of_wp h (Eq.mpr (Eq.trans (e_f57_1 F N Q (initE [a0,a1] 0) Env.nil L) (by kernel_rfl : _ = D_f57_1 F N Q a0 a1 L)) e)
def q_f58_1 (N : TN) : ACode := (.seq (.reg [⟨.l 4,none,.mv,[.c (.p none)]⟩]) (.seq (.block 0 (.seq (.reg [oQ (6,.mv,[.l 0]),oQ (7,.eq false .ptr,[.t 6,.c (.p none)]),oQ (5,.mv,[.t 7])]) (.cond (.t 5) (.seq (.reg [⟨.l 4,none,.mv,[.c (.p none)]⟩]) .ret) (.seq (.reg [oQ (9,.mv,[.l 1]),oQ (8,.mv,[.t 9])]) (.cond (.t 8) (.seq (.reg [oQ (10,.mv,[.l 0]),oQ (11,.nilchk,[.t 10]),oQ (12,.fad 2,[.t 11]),oQ (13,.ld none,[.t 12]),⟨.l 4,none,.mv,[.t 13]⟩]) .ret) .skip))))) (.seq (.reg [oQ (14,.mv,[.l 0]),oQ (15,.nilchk,[.t 14]),oQ (16,.fad 1,[.t 15]),oQ (17,.ld none,[.t 16]),⟨.l 4,none,.mv,[.t 17]⟩]) .ret)))
noncomputable def D_f58_1 (F:TF)(N:TN)(Q:TQ) (x0 x1:AV) (L : Lg) : Prop :=
 wpOp F (.eq false .ptr) [x0,(.p none)] L fun v1 L1=>
 condW v1
 (fin1 (some (.p none)) Q L1)
 (condW x1
 (wpOp F .nilchk [x0] L1 fun v2 L2=>
 wpOp F (.fad 2) [v2] L2 fun v3 L3=>
 wpOp F (.ld none) [v3] L3 fun v4 L4=>
 fin1 (some v4) Q L4)
 (wpOp F .nilchk [x0] L1 fun v5 L5=>
 wpOp F (.fad 1) [v5] L5 fun v6 L6=>
 wpOp F (.ld none) [v6] L6 fun v7 L7=>
 fin1 (some v7) Q L7))
theorem e_f58_1 (F:TF)(N:TN)(Q:TQ) (l t : Env) (L : Lg) : wp F (q_f58_1 N) l t L (fin [.tmp (.l 4)] Q) nE (fin [.tmp (.l 4)] Q) = D_f58_1 F N Q (l 0) (l 1) L := by kernel_rfl
def c_f58 (N : TN) : AFn := ⟨q_f58_1 N,[.tmp (.l 4)]⟩
structure H_f58 (N : TN) (F : TF) : Prop where
  code : F (N k_f58) = some (c_f58 N)
theorem r_f58 {F : TF} {N : TN} (h : F (N k_f58) = some (c_f58 N)) {Q : TQ} {a0 a1 : AV} {L : Lg} (e : D_f58_1 F N Q a0 a1 L) : CallL F (N k_f58) [a0,a1] L Q :=
  CallL.of_wp h (Eq.mpr (Eq.trans (e_f58_1 F N Q (initE [a0,a1] 0) Env.nil L) (by kernel_rfl : _ = D_f58_1 F N Q a0 a1 L)) e)
def q_f59_3 (N : TN) : ACode := (.seq (.reg [oQ (13,.mv,[.l 0]),oQ (14,.nilchk,[.t 13]),oQ (15,.fad 5,[.t 14]),oQ (16,.ld none,[.t 15]),oQ (17,.mv,[.t 16]),gQ (18,17,false,.mv,[.l 0]),gQ (19,17,false,.mv,[.l 1]),gQ (20,17,false,.call (N k_f57),[.t 18,.t 19]),oQ (21,.pick,[.t 17,.c (.b true),.t 20]),oQ (22,.mv,[.t 21]),gQ (23,22,false,.mv,[.l 0]),gQ (24,22,false,.mv,[.l 1]),gQ (25,22,false,.un .not,[.t 24]),gQ (26,22,false,.call (N k_f58),[.t 23,.t 25]),gQ (27,22,false,.call (N k_f17),[.t 26]),gQ (28,22,false,.bin .gtr,[.t 27,.c (.i .i64 0)]),oQ (29,.pick,[.t 22,.c (.b true),.t 28]),⟨.l 4,none,.mv,[.t 29]⟩]) .ret)
noncomputable def D_f59_3 (F:TF)(N:TN)(Q:TQ) (x0 x1:AV) (L : Lg) : Prop :=
 wpOp F .nilchk [x0] L fun v1 L1=>
 wpOp F (.fad 5) [v1] L1 fun v2 L2=>
 wpOp F (.ld none) [v2] L2 fun v3 L3=>
 gdOp F v3 false .mv [x0] L3 fun v4 L4=>
 gdOp F v3 false .mv [x1] L4 fun v5 L5=>
 gdOp F v3 false (.call (N k_f57)) [v4,v5] L5 fun v6 L6=>
 wpOp F .pick [v3,(.b true),v6] L6 fun v7 L7=>
 gdOp F v7 false .mv [x0] L7 fun v8 L8=>
 gdOp F v7 false .mv [x1] L8 fun v9 L9=>
 gdOp F v7 false (.un .not) [v9] L9 fun v10 L10=>
 gdOp F v7 false (.call (N k_f58)) [v8,v10] L10 fun v11 L11=>
 gdOp F v7 false (.call (N k_f17)) [v11] L11 fun v12 L12=>
 gdOp F v7 false (.bin .gtr) [v12,(.i .i64 0)] L12 fun v13 L13=>
 wpOp F .pick [v7,(.b true),v13] L13 fun v14 L14=>
 fin1 (some v14) Q L14
theorem e_f59_3 (F:TF)(N:TN)(Q:TQ) (l t : Env) (L : Lg) : wp F (q_f59_3 N) l t L (fin [.tmp (.l 4)] Q) nE (fin [.tmp (.l 4)] Q) = D_f59_3 F N Q (l 0) (l 1) L := by kernel_rfl
def q_f59_2a (N : TN) : ACode := (.block 0 (.seq (.seq (.reg [oQ (6,.mv,[.l 0]),oQ (7,.eq false .ptr,[.t 6,.c (.p none)]),oQ (5,.mv,[.t 7])]) (.cond (.t 5) .skip (.reg [oQ (8,.mv,[.l 0]),oQ (9,.call (N k_f56),[.t 8]),oQ (10,.mv,[.t 9]),gQ (11,10,true,.mv,[.l 1]),oQ (12,.pick,[.t 10,.t 11,.c (.b false)]),oQ (5,.mv,[.t 12])]))) (.cond (.t 5) (.seq (.reg [⟨.l 4,none,.mv,[.c (.b false)]⟩]) .ret) .skip)))
def q_f59_2 (N : TN) : ACode := (.seq (q_f59_2a N) (q_f59_3 N))
noncomputable def D_f59_2 (F:TF)(N:TN)(Q:TQ) (x0 x1:AV) (L : Lg) : Prop :=
 wpOp F (.eq false .ptr) [x0,(.p none)] L fun v1 L1=>
 condW v1
 (condW v1
 (fin1 (some (.b false)) Q L1)
 (D_f59_3 F N Q x0 x1 L1))
 (CallL F (N k_f56) [x0] L1 fun v2 L2=>
 gdOp F v2 true .mv [x1] L2 fun v3 L3=>
 wpOp F .pick [v2,v3,(.b false)] L3 fun v4 L4=>
 condW v4
 (fin1 (some (.b false)) Q L4)
 (D_f59_3 F N Q x0 x1 L4))
theorem e_f59_2 (F:TF)(N:TN)(Q:TQ) (l t : Env) (L : Lg) : wp F (q_f59_2 N) l t L (fin [.tmp (.l 4)] Q) nE (fin [.tmp (.l 4)] Q) = D_f59_2 F N Q (l 0) (l 1) L := wpS (e_f59_3 F N Q) (by kernel_rfl)
def q_f59_1a (N : TN) : ACode := (.reg [⟨.l 4,none,.mv,[.c (.b false)]⟩])
def q_f59_1 (N : TN) : ACode := (.seq (q_f59_1a N) (q_f59_2 N))
noncomputable def D_f59_1 (F:TF)(N:TN)(Q:TQ) (x0 x1:AV) (L : Lg) : Prop :=
 D_f59_2 F N Q x0 x1 L
theorem e_f59_1 (F:TF)(N:TN)(Q:TQ) (l t : Env) (L : Lg) : wp F (q_f59_1 N) l t L (fin [.tmp (.l 4)] Q) nE (fin [.tmp (.l 4)] Q) = D_f59_1 F N Q (l 0) (l 1) L := wpS (e_f59_2 F N Q) (by kernel_rfl)
def c_f59 (N : TN) : AFn := ⟨q_f59_1 N,[.tmp (.l 4)]⟩
structure H_f59 (N : TN) (F : TF) : Prop where
  code : F (N k_f59) = some (c_f59 N)
  f56 : H_f56 N F
  f57 : H_f57 N F
  f58 : H_f58 N F
  f17 : H_f17 N F
theorem r_f59 {F : TF} {N : TN} (h : F (N k_f59) = some (c_f59 N)) {Q : TQ} {a0 a1 : AV} {L : Lg} (e : D_f59_1 F N Q a0 a1 L) : CallL F (N k_f59) [a0,a1] L Q :=
  CallL.of_wp h (Eq.mpr (Eq.trans (e_f59_1 F N Q (initE [a0,a1] 0) Env.nil L) (by kernel_rfl : _ = D_f59_1 F N Q a0 a1 L)) e)
def q_f60_1 (N : TN) : ACode := (.seq (.reg [⟨.l 4,none,.mv,[.c (.i .i64 0)]⟩]) (.seq (.seq (.reg [oQ (5,.mv,[.l 0]),oQ (6,.mv,[.l 1]),oQ (7,.call (N k_f49),[.t 5,.t 6]),oQ (8,.un .not,[.t 7])]) (.cond (.t 8) (.seq (.reg [⟨.l 4,none,.mv,[.c (.i .i64 0)]⟩]) .ret) .skip)) (.seq (.reg [oQ (9,.mv,[.l 0]),oQ (10,.nilchk,[.t 9]),oQ (11,.fad 0,[.t 10]),oQ (12,.ld none,[.t 11]),oQ (13,.mv,[.l 1]),oQ (14,.iad 4,[.t 12,.t 13]),oQ (15,.fad 3,[.t 14]),oQ (16,.ld none,[.t 15]),⟨.l 4,none,.mv,[.t 16]⟩]) .ret)))
noncomputable def D_f60_1 (F:TF)(N:TN)(Q:TQ) (x0 x1:AV) (L : Lg) : Prop :=
 CallL F (N k_f49) [x0,x1] L fun v1 L1=>
 wpOp F (.un .not) [v1] L1 fun v2 L2=>
 condW v2
 (fin1 (some (.i .i64 0)) Q L2)
 (wpOp F .nilchk [x0] L2 fun v3 L3=>
 wpOp F (.fad 0) [v3] L3 fun v4 L4=>
 wpOp F (.ld none) [v4] L4 fun v5 L5=>
 wpOp F (.iad 4) [v5,x1] L5 fun v6 L6=>
 wpOp F (.fad 3) [v6] L6 fun v7 L7=>
 wpOp F (.ld none) [v7] L7 fun v8 L8=>
 fin1 (some v8) Q L8)
theorem e_f60_1 (F:TF)(N:TN)(Q:TQ) (l t : Env) (L : Lg) : wp F (q_f60_1 N) l t L (fin [.tmp (.l 4)] Q) nE (fin [.tmp (.l 4)] Q) = D_f60_1 F N Q (l 0) (l 1) L := by kernel_rfl
def c_f60 (N : TN) : AFn := ⟨q_f60_1 N,[.tmp (.l 4)]⟩
structure H_f60 (N : TN) (F : TF) : Prop where
  code : F (N k_f60) = some (c_f60 N)
  f49 : H_f49 N F
theorem r_f60 {F : TF} {N : TN} (h : F (N k_f60) = some (c_f60 N)) {Q : TQ} {a0 a1 : AV} {L : Lg} (e : D_f60_1 F N Q a0 a1 L) : CallL F (N k_f60) [a0,a1] L Q :=
  CallL.of_wp h (Eq.mpr (Eq.trans (e_f60_1 F N Q (initE [a0,a1] 0) Env.nil L) (by kernel_rfl : _ = D_f60_1 F N Q a0 a1 L)) e)
def q_f62_1 (N : TN) : ACode := (.seq (.reg [⟨.l 0,none,.mv,[.c (.p none)]⟩]) (.seq (.reg [oQ (1,.build [.i .i64 0,.b false,.b false,.b false,.sl none 0 0 0,.sl none 0 0 0,.sl none 0 0 0] [(0,1),(1,1)],[.c (.i .i64 1),.c (.b true)]),oQ (2,.box,[.t 1]),⟨.l 0,none,.mv,[.t 2]⟩]) .ret))
noncomputable def D_f62_1 (F:TF)(N:TN)(Q:TQ) (L : Lg) : Prop :=
 wpOp F (.build [.i .i64 0,.b false,.b false,.b false,.sl none 0 0 0,.sl none 0 0 0,.sl none 0 0 0] [(0,1),(1,1)]) [(.i .i64 1),(.b true)] L fun v1 L1=>
 wpOp F .box [v1] L1 fun v2 L2=>
 fin1 (some v2) Q L2
theorem e_f62_1 (F:TF)(N:TN)(Q:TQ) (l t : Env) (L : Lg) : wp F (q_f62_1 N) l t L (fin [.tmp (.l 0)] Q) nE (fin [.tmp (.l 0)] Q) = D_f62_1 F N Q L := by kernel_rfl
def c_f62 (N : TN) : AFn := ⟨q_f62_1 N,[.tmp (.l 0)]⟩
structure H_f62 (N : TN) (F : TF) : Prop where
  code : F (N k_f62) = some (c_f62 N)
theorem r_f62 {F : TF} {N : TN} (h : F (N k_f62) = some (c_f62 N)) {Q : TQ} {L : Lg} (e : D_f62_1 F N Q L) : CallL F (N k_f62) [] L Q :=
  CallL.of_wp h (Eq.mpr (Eq.trans (e_f62_1 F N Q (initE [] 0) Env.nil L) (by kernel_rfl : _ = D_f62_1 F N Q L)) e)
def q_f63_1 (N : TN) : ACode := (.seq (.reg [⟨.l 2,none,.mv,[.c (.i .i64 0)]⟩]) (.seq (.reg [oQ (3,.mv,[.l 0]),oQ (4,.min,[.t 3,.c (.i .i64 4611686018427387904)]),oQ (5,.max,[.t 4,.c (.i .i64 0)]),⟨.l 2,none,.mv,[.t 5]⟩]) .ret))
noncomputable def D_f63_1 (F:TF)(N:TN)(Q:TQ) (x0 : AV) (L : Lg) : Prop :=
 wpOp F .min [x0,(.i .i64 4611686018427387904)] L fun v1 L1=>
 wpOp F .max [v1,(.i .i64 0)] L1 fun v2 L2=>
 fin1 (some v2) Q L2
theorem e_f63_1 (F:TF)(N:TN)(Q:TQ) (l t : Env) (L : Lg) : wp F (q_f63_1 N) l t L (fin [.tmp (.l 2)] Q) nE (fin [.tmp (.l 2)] Q) = D_f63_1 F N Q (l 0) L := by kernel_rfl
def c_f63 (N : TN) : AFn := ⟨q_f63_1 N,[.tmp (.l 2)]⟩
structure H_f63 (N : TN) (F : TF) : Prop where
  code : F (N k_f63) = some (c_f63 N)
theorem r_f63 {F : TF} {N : TN} (h : F (N k_f63) = some (c_f63 N)) {Q : TQ} {a0 : AV} {L : Lg} (e : D_f63_1 F N Q a0 L) : CallL F (N k_f63) [a0] L Q :=
  CallL.of_wp h (Eq.mpr (Eq.trans (e_f63_1 F N Q (initE [a0] 0) Env.nil L) (by kernel_rfl : _ = D_f63_1 F N Q a0 L)) e)
def q_f64_1 (N : TN) : ACode := (.seq (.reg [⟨.l 2,none,.mv,[.c (.i .i64 0)]⟩]) (.seq (.reg [oQ (3,.mv,[.l 0]),oQ (4,.min,[.t 3,.c (.i .i64 4611686018427387904)]),oQ (5,.max,[.t 4,.c (.i .i64 (-4611686018427387904))]),⟨.l 2,none,.mv,[.t 5]⟩]) .ret))
noncomputable def D_f64_1 (F:TF)(N:TN)(Q:TQ) (x0 : AV) (L : Lg) : Prop :=
 wpOp F .min [x0,(.i .i64 4611686018427387904)] L fun v1 L1=>
 wpOp F .max [v1,(.i .i64 (-4611686018427387904))] L1 fun v2 L2=>
 fin1 (some v2) Q L2
theorem e_f64_1 (F:TF)(N:TN)(Q:TQ) (l t : Env) (L : Lg) : wp F (q_f64_1 N) l t L (fin [.tmp (.l 2)] Q) nE (fin [.tmp (.l 2)] Q) = D_f64_1 F N Q (l 0) L := by kernel_rfl
def c_f64 (N : TN) : AFn := ⟨q_f64_1 N,[.tmp (.l 2)]⟩
structure H_f64 (N : TN) (F : TF) : Prop where
  code : F (N k_f64) = some (c_f64 N)
theorem r_f64 {F : TF} {N : TN} (h : F (N k_f64) = some (c_f64 N)) {Q : TQ} {a0 : AV} {L : Lg} (e : D_f64_1 F N Q a0 L) : CallL F (N k_f64) [a0] L Q :=
  CallL.of_wp h (Eq.mpr (Eq.trans (e_f64_1 F N Q (initE [a0] 0) Env.nil L) (by kernel_rfl : _ = D_f64_1 F N Q a0 L)) e)
def q_f65_1 (N : TN) : ACode := (.seq (.reg [⟨.l 4,none,.mv,[.c (.i .i64 0)]⟩]) (.seq (.reg [oQ (7,.mv,[.l 0]),oQ (8,.call (N k_f64),[.t 7]),oQ (9,.mv,[.l 1]),oQ (10,.call (N k_f64),[.t 9]),⟨.l 5,none,.mv,[.t 8]⟩,⟨.l 6,none,.mv,[.t 10]⟩]) (.seq (.seq (.reg [oQ (11,.mv,[.l 6]),oQ (12,.bin .gtr,[.t 11,.c (.i .i64 0)]),oQ (13,.mv,[.t 12]),gQ (14,13,true,.mv,[.l 5]),gQ (15,13,true,.mv,[.l 6]),gQ (16,13,true,.bin .sub,[.c (.i .i64 4611686018427387904),.t 15]),gQ (17,13,true,.bin .gtr,[.t 14,.t 16]),oQ (18,.pick,[.t 13,.t 17,.c (.b false)])]) (.cond (.t 18) (.seq (.reg [⟨.l 4,none,.mv,[.c (.i .i64 4611686018427387904)]⟩]) .ret) .skip)) (.seq (.seq (.reg [oQ (19,.mv,[.l 6]),oQ (20,.bin .lss,[.t 19,.c (.i .i64 0)]),oQ (21,.mv,[.t 20]),gQ (22,21,true,.mv,[.l 5]),gQ (23,21,true,.mv,[.l 6]),gQ (24,21,true,.bin .sub,[.c (.i .i64 (-4611686018427387904)),.t 23]),gQ (25,21,true,.bin .lss,[.t 22,.t 24]),oQ (26,.pick,[.t 21,.t 25,.c (.b false)])]) (.cond (.t 26) (.seq (.reg [⟨.l 4,none,.mv,[.c (.i .i64 (-4611686018427387904))]⟩]) .ret) .skip)) (.seq (.reg [oQ (27,.mv,[.l 5]),oQ (28,.mv,[.l 6]),oQ (29,.bin .add,[.t 27,.t 28]),⟨.l 4,none,.mv,[.t 29]⟩]) .ret)))))
noncomputable def D_f65_1 (F:TF)(N:TN)(Q:TQ) (x0 x1:AV) (L : Lg) : Prop :=
 CallL F (N k_f64) [x0] L fun v1 L1=>
 CallL F (N k_f64) [x1] L1 fun v2 L2=>
 wpOp F (.bin .gtr) [v2,(.i .i64 0)] L2 fun v3 L3=>
 gdOp F v3 true .mv [v1] L3 fun v4 L4=>
 gdOp F v3 true .mv [v2] L4 fun v5 L5=>
 gdOp F v3 true (.bin .sub) [(.i .i64 4611686018427387904),v5] L5 fun v6 L6=>
 gdOp F v3 true (.bin .gtr) [v4,v6] L6 fun v7 L7=>
 wpOp F .pick [v3,v7,(.b false)] L7 fun v8 L8=>
 condW v8
 (fin1 (some (.i .i64 4611686018427387904)) Q L8)
 (wpOp F (.bin .lss) [v2,(.i .i64 0)] L8 fun v9 L9=>
 gdOp F v9 true .mv [v1] L9 fun v10 L10=>
 gdOp F v9 true .mv [v2] L10 fun v11 L11=>
 gdOp F v9 true (.bin .sub) [(.i .i64 (-4611686018427387904)),v11] L11 fun v12 L12=>
 gdOp F v9 true (.bin .lss) [v10,v12] L12 fun v13 L13=>
 wpOp F .pick [v9,v13,(.b false)] L13 fun v14 L14=>
 condW v14
 (fin1 (some (.i .i64 (-4611686018427387904))) Q L14)
 (wpOp F (.bin .add) [v1,v2] L14 fun v15 L15=>
 fin1 (some v15) Q L15))
theorem e_f65_1 (F:TF)(N:TN)(Q:TQ) (l t : Env) (L : Lg) : wp F (q_f65_1 N) l t L (fin [.tmp (.l 4)] Q) nE (fin [.tmp (.l 4)] Q) = D_f65_1 F N Q (l 0) (l 1) L := by kernel_rfl
def c_f65 (N : TN) : AFn := ⟨q_f65_1 N,[.tmp (.l 4)]⟩
structure H_f65 (N : TN) (F : TF) : Prop where
  code : F (N k_f65) = some (c_f65 N)
  f64 : H_f64 N F
theorem r_f65 {F : TF} {N : TN} (h : F (N k_f65) = some (c_f65 N)) {Q : TQ} {a0 a1 : AV} {L : Lg} (e : D_f65_1 F N Q a0 a1 L) : CallL F (N k_f65) [a0,a1] L Q :=
  CallL.of_wp h (Eq.mpr (Eq.trans (e_f65_1 F N Q (initE [a0,a1] 0) Env.nil L) (by kernel_rfl : _ = D_f65_1 F N Q a0 a1 L)) e)
def q_f66_3 (N : TN) : ACode := (.seq (.reg [⟨.l 4,none,.mv,[.c (.i .i64 (-1))]⟩]) .ret)
noncomputable def D_f66_3 (F:TF)(N:TN)(Q:TQ) (L : Lg) : Prop :=
 fin1 (some (.i .i64 (-1))) Q L
theorem e_f66_3 (F:TF)(N:TN)(Q:TQ) (l t : Env) (L : Lg) : wp F (q_f66_3 N) l t L (fin [.tmp (.l 4)] Q) nE (fin [.tmp (.l 4)] Q) = D_f66_3 F N Q L := by kernel_rfl
def w_f66_2 (F:TF)(N:TN)(Q:TQ) : Kn := (fun (l t : Env) (L : Lg) => D_f66_3 F N Q L)
def y_f66_5 (F:TF)(N:TN)(Q:TQ) : Nat → Kn := (fun (j : Nat) (l t : Env) (L : Lg) => bif Nat.beq j 0 then (w_f66_2 F N Q) l t L else nE j l t L)
def q_f66_7 (N : TN) : ACode := (.seq (.seq (.reg [oQ (6,.mv,[.l 5]),oQ (7,.mv,[.l 0]),oQ (8,.nilchk,[.t 7]),oQ (9,.fad 0,[.t 8]),oQ (10,.ld none,[.t 9]),oQ (11,.lenSl,[.t 10]),oQ (12,.bin .lss,[.t 6,.t 11])]) (.cond (.t 12) .skip (.exit 0))) (.seq (.block 1 (.seq (.reg [oQ (15,.mv,[.l 0]),oQ (16,.nilchk,[.t 15]),oQ (17,.fad 0,[.t 16]),oQ (18,.ld none,[.t 17]),oQ (19,.mv,[.l 5]),oQ (20,.iad 3,[.t 18,.t 19]),oQ (21,.fad 0,[.t 20]),oQ (22,.ld none,[.t 21]),oQ (23,.mv,[.l 1]),oQ (24,.bin .eql,[.t 22,.t 23])]) (.cond (.t 24) (.seq (.reg [oQ (25,.mv,[.l 5]),⟨.l 4,none,.mv,[.t 25]⟩]) .ret) .skip))) (.reg [oQ (13,.mv,[.l 5]),oQ (14,.bin .add,[.t 13,.c (.i .i64 1)]),⟨.l 5,none,.mv,[.t 14]⟩])))
noncomputable def D_f66_7 (F:TF)(N:TN)(Q:TQ) (k1 : TK) (l : Env) (L : Lg) : Prop :=
 wpOp F .nilchk [(l 0)] L fun v1 L1=>
 wpOp F (.fad 0) [v1] L1 fun v2 L2=>
 wpOp F (.ld none) [v2] L2 fun v3 L3=>
 wpOp F .lenSl [v3] L3 fun v4 L4=>
 wpOp F (.bin .lss) [(l 5),v4] L4 fun v5 L5=>
 condW v5
 (wpOp F .nilchk [(l 0)] L5 fun v6 L6=>
 wpOp F (.fad 0) [v6] L6 fun v7 L7=>
 wpOp F (.ld none) [v7] L7 fun v8 L8=>
 wpOp F (.iad 3) [v8,(l 5)] L8 fun v9 L9=>
 wpOp F (.fad 0) [v9] L9 fun v10 L10=>
 wpOp F (.ld none) [v10] L10 fun v11 L11=>
 wpOp F (.bin .eql) [v11,(l 1)] L11 fun v12 L12=>
 condW v12
 (fin1 (some (l 5)) Q L12)
 (wpOp F (.bin .add) [(l 5),(.i .i64 1)] L12 fun v13 L13=>
 k1 (Env.put l 5 v13) L13))
 (D_f66_3 F N Q L5)
theorem e_f66_7 (F:TF)(N:TN)(Q:TQ) (k1 : TK) (l t : Env) (L : Lg) : wp F (q_f66_7 N) l t L (fun (l _ : Env) (L : Lg) => k1 l L) (y_f66_5 F N Q) (fin [.tmp (.l 4)] Q) = D_f66_7 F N Q k1 l L := by kernel_rfl
def q_f66_6 (N : TN) : ACode := (.loop (q_f66_7 N))
noncomputable def D_f66_6 (F:TF)(N:TN)(Q:TQ) (l : Env) (L : Lg) : Prop :=
 loopW (fun l t L k1 => D_f66_7 F N Q k1 l L) l L
theorem e_f66_6 (F:TF)(N:TN)(Q:TQ) (l t : Env) (L : Lg) : wp F (q_f66_6 N) l t L (w_f66_2 F N Q) (y_f66_5 F N Q) (fin [.tmp (.l 4)] Q) = D_f66_6 F N Q l L := wpL (fun l t L k1 => e_f66_7 F N Q k1 l t L) (by kernel_rfl)
def q_f66_5 (N : TN) : ACode := (.block 0 (q_f66_6 N))
theorem e_f66_5 (F:TF)(N:TN)(Q:TQ) (l t : Env) (L : Lg) : wp F (q_f66_5 N) l t L (w_f66_2 F N Q) nE (fin [.tmp (.l 4)] Q) = D_f66_6 F N Q l L := wpB (e_f66_6 F N Q l t L)
def q_f66_4a (N : TN) : ACode := (.reg [⟨.l 5,none,.mv,[.c (.i .i64 0)]⟩])
def q_f66_4 (N : TN) : ACode := (.seq (q_f66_4a N) (q_f66_5 N))
noncomputable def D_f66_4 (F:TF)(N:TN)(Q:TQ) (l : Env) (L : Lg) : Prop :=
 D_f66_6 F N Q (Env.put l 5 (.i .i64 0)) L
theorem e_f66_4 (F:TF)(N:TN)(Q:TQ) (l t : Env) (L : Lg) : wp F (q_f66_4 N) l t L (w_f66_2 F N Q) nE (fin [.tmp (.l 4)] Q) = D_f66_4 F N Q l L := wpS (e_f66_5 F N Q) (by kernel_rfl)
def q_f66_2 (N : TN) : ACode := (.seq (q_f66_4 N) (q_f66_3 N))
theorem e_f66_2 (F:TF)(N:TN)(Q:TQ) (l t : Env) (L : Lg) : wp F (q_f66_2 N) l t L (fin [.tmp (.l 4)] Q) nE (fin [.tmp (.l 4)] Q) = D_f66_4 F N Q l L := wpS (e_f66_3 F N Q) (e_f66_4 F N Q l t L)
def q_f66_1a (N : TN) : ACode := (.reg [⟨.l 4,none,.mv,[.c (.i .i64 0)]⟩])
def q_f66_1 (N : TN) : ACode := (.seq (q_f66_1a N) (q_f66_2 N))
noncomputable def D_f66_1 (F:TF)(N:TN)(Q:TQ) (l : Env) (L : Lg) : Prop :=
 D_f66_4 F N Q (Env.put l 4 (.i .i64 0)) L
theorem e_f66_1 (F:TF)(N:TN)(Q:TQ) (l t : Env) (L : Lg) : wp F (q_f66_1 N) l t L (fin [.tmp (.l 4)] Q) nE (fin [.tmp (.l 4)] Q) = D_f66_1 F N Q l L := wpS (e_f66_2 F N Q) (by kernel_rfl)
def c_f66 (N : TN) : AFn := ⟨q_f66_1 N,[.tmp (.l 4)]⟩
structure H_f66 (N : TN) (F : TF) : Prop where
  code : F (N k_f66) = some (c_f66 N)
theorem r_f66 {F : TF} {N : TN} (h : F (N k_f66) = some (c_f66 N)) {Q : TQ} {a0 a1 : AV} {L : Lg} (e : D_f66_1 F N Q (initE [a0,a1] 0) L) : CallL F (N k_f66) [a0,a1] L Q :=
  CallL.of_wp h (Eq.mpr (Eq.trans (e_f66_1 F N Q (initE [a0,a1] 0) Env.nil L) (by kernel_rfl : _ = D_f66_1 F N Q (initE [a0,a1] 0) L)) e)
def q_f67_3 (N : TN) : ACode := (.seq (.seq (.reg [oQ (11,.mv,[.l 6]),oQ (12,.bin .lss,[.t 11,.c (.i .i64 0)])]) (.cond (.t 12) (.seq (.reg [oQ (13,.build [.i .i64 0,.i .i64 0,.i .i64 0] [],[]),⟨.no,none,.st 3,[.l 4,.t 13]⟩,⟨.l 5,none,.mv,[.c (.b false)]⟩]) .ret) .skip)) (.seq (.reg [oQ (14,.mv,[.l 0]),oQ (15,.nilchk,[.t 14]),oQ (16,.fad 0,[.t 15]),oQ (17,.ld none,[.t 16]),oQ (18,.mv,[.l 6]),oQ (19,.iad 3,[.t 17,.t 18]),oQ (20,.ld (some 3),[.t 19]),⟨.l 7,none,.alloc [.i .i64 0,.i .i64 0,.i .i64 0],[]⟩,⟨.no,none,.st 3,[.l 7,.t 20]⟩]) (.seq (.regD [oQ (21,.mv,[.l 0]),oQ (22,.bslice [.i .i64 0,.i .i64 0,.i .i64 0] 0 3 [],[]),oQ (23,.mv,[.l 0]),oQ (24,.nilchk,[.t 23]),oQ (25,.fad 0,[.t 24]),oQ (26,.ld none,[.t 25]),oQ (27,.mv,[.l 6]),oQ (28,.slc 3 false true false,[.t 26,.t 27]),oQ (29,.app 3 24,[.t 22,.t 28]),oQ (30,.mv,[.l 0]),oQ (31,.nilchk,[.t 30]),oQ (32,.fad 0,[.t 31]),oQ (33,.ld none,[.t 32]),oQ (34,.mv,[.l 6]),oQ (35,.bin .add,[.t 34,.c (.i .i64 1)]),oQ (36,.slc 3 true false false,[.t 33,.t 35]),oQ (37,.app 3 24,[.t 29,.t 36]),oQ (38,.nilchk,[.t 21]),oQ (39,.fad 0,[.t 38]),⟨.no,none,.st 1,[.t 39,.t 37]⟩] [(12,0)]) (.seq (.reg [oQ (40,.ld (some 3),[.l 7]),⟨.no,none,.st 3,[.l 4,.t 40]⟩,⟨.l 5,none,.mv,[.c (.b true)]⟩]) .ret))))
noncomputable def D_f67_3 (F:TF)(N:TN)(Q:TQ) (x0 x4 x6:AV) (L : Lg) : Prop :=
 wpOp F (.bin .lss) [x6,(.i .i64 0)] L fun v1 L1=>
 condW v1
 (wpOp F (.build [.i .i64 0,.i .i64 0,.i .i64 0] []) [] L1 fun v2 L2=>
 wpOp F (.st 3) [x4,v2] L2 fun _ L3=>
 fin1 (resVL Env.nil Env.nil L3 [.cell (.c x4) (some 3),.tmp (.c (.b false))]) Q L3)
 (wpOp F .nilchk [x0] L1 fun v4 L4=>
 wpOp F (.fad 0) [v4] L4 fun v5 L5=>
 wpOp F (.ld none) [v5] L5 fun v6 L6=>
 wpOp F (.iad 3) [v6,x6] L6 fun v7 L7=>
 wpOp F (.ld (some 3)) [v7] L7 fun v8 L8=>
 wpOp F (.alloc [.i .i64 0,.i .i64 0,.i .i64 0]) [] L8 fun v9 L9=>
 wpOp F (.st 3) [v9,v8] L9 fun _ L10=>
 wpOp F (.bslice [.i .i64 0,.i .i64 0,.i .i64 0] 0 3 []) [] L10 fun v11 L11=>
 wpOp F .nilchk [x0] L11 fun v12 L12=>
 wpOp F (.fad 0) [v12] L12 fun v13 L13=>
 wpOp F (.ld none) [v13] L13 fun v14 L14=>
 wpOp F (.slc 3 false true false) [v14,x6] L14 fun v15 L15=>
 wpOp F (.app 3 24) [v11,v15] L15 fun v16 L16=>
 wpOp F .nilchk [x0] L16 fun v17 L17=>
 wpOp F (.fad 0) [v17] L17 fun v18 L18=>
 wpOp F (.ld none) [v18] L18 fun v19 L19=>
 wpOp F (.bin .add) [x6,(.i .i64 1)] L19 fun v20 L20=>
 wpOp F (.slc 3 true false false) [v19,v20] L20 fun v21 L21=>
 wpOp F (.app 3 24) [v16,v21] L21 fun v22 L22=>
 wpOp F .nilchk [x0] L22 fun v23 L23=>
 wpOp F (.fad 0) [v23] L23 fun v24 L24=>
 wpOp F (.st 1) [v24,v22] L24 fun _ L25=>
 (againV (.ld none) [v18] L18 L10 ∧ True) ∧ (wpOp F (.ld (some 3)) [v9] L25 fun v26 L26=>
 wpOp F (.st 3) [x4,v26] L26 fun _ L27=>
 fin1 (resVL Env.nil Env.nil L27 [.cell (.c x4) (some 3),.tmp (.c (.b true))]) Q L27))
theorem e_f67_3 (F:TF)(N:TN)(Q:TQ) (l t : Env) (L : Lg) : wp F (q_f67_3 N) l t L (fin [.cell (.l 4) (some 3),.tmp (.l 5)] Q) nE (fin [.cell (.l 4) (some 3),.tmp (.l 5)] Q) = D_f67_3 F N Q (l 0) (l 4) (l 6) L := by kernel_rfl
def q_f67_2a (N : TN) : ACode := (.reg [oQ (8,.mv,[.l 0]),oQ (9,.mv,[.l 1]),oQ (10,.call (N k_f66),[.t 8,.t 9]),⟨.l 6,none,.mv,[.t 10]⟩])
def q_f67_2 (N : TN) : ACode := (.seq (q_f67_2a N) (q_f67_3 N))
noncomputable def D_f67_2 (F:TF)(N:TN)(Q:TQ) (x0 x1 x4:AV) (L : Lg) : Prop :=
 CallL F (N k_f66) [x0,x1] L fun v1 L1=>
 D_f67_3 F N Q x0 x4 v1 L1
theorem e_f67_2 (F:TF)(N:TN)(Q:TQ) (l t : Env) (L : Lg) : wp F (q_f67_2 N) l t L (fin [.cell (.l 4) (some 3),.tmp (.l 5)] Q) nE (fin [.cell (.l 4) (some 3),.tmp (.l 5)] Q) = D_f67_2 F N Q (l 0) (l 1) (l 4) L := wpS (e_f67_3 F N Q) (by kernel_rfl)
def q_f67_1a (N : TN) : ACode := (.reg [⟨.l 4,none,.alloc [.i .i64 0,.i .i64 0,.i .i64 0],[]⟩,⟨.l 5,none,.mv,[.c (.b false)]⟩])
def q_f67_1 (N : TN) : ACode := (.seq (q_f67_1a N) (q_f67_2 N))
noncomputable def D_f67_1 (F:TF)(N:TN)(Q:TQ) (x0 x1:AV) (L : Lg) : Prop :=
 wpOp F (.alloc [.i .i64 0,.i .i64 0,.i .i64 0]) [] L fun v1 L1=>
 D_f67_2 F N Q x0 x1 v1 L1
theorem e_f67_1 (F:TF)(N:TN)(Q:TQ) (l t : Env) (L : Lg) : wp F (q_f67_1 N) l t L (fin [.cell (.l 4) (some 3),.tmp (.l 5)] Q) nE (fin [.cell (.l 4) (some 3),.tmp (.l 5)] Q) = D_f67_1 F N Q (l 0) (l 1) L := wpS (e_f67_2 F N Q) (by kernel_rfl)
def c_f67 (N : TN) : AFn := ⟨q_f67_1 N,[.cell (.l 4) (some 3),.tmp (.l 5)]⟩
structure H_f67 (N : TN) (F : TF) : Prop where
  code : F (N k_f67) = some (c_f67 N)
  f66 : H_f66 N F
theorem r_f67 {F : TF} {N : TN} (h : F (N k_f67) = some (c_f67 N)) {Q : TQ} {a0 a1 : AV} {L : Lg} (e : D_f67_1 F N Q a0 a1 L) : CallL F (N k_f67) [a0,a1] L Q :=
  CallL.of_wp h (Eq.mpr (Eq.trans (e_f67_1 F N Q (initE [a0,a1] 0) Env.nil L) (by kernel_rfl : _ = D_f67_1 F N Q a0 a1 L)) e)
def q_f68_4 (N : TN) : ACode := (.seq (.reg [oQ (54,.mv,[.l 6]),⟨.l 4,none,.mv,[.t 54]⟩]) .ret)
noncomputable def D_f68_4 (F:TF)(N:TN)(Q:TQ) (x6 : AV) (L : Lg) : Prop :=
 fin1 (some x6) Q L
theorem e_f68_4 (F:TF)(N:TN)(Q:TQ) (l t : Env) (L : Lg) : wp F (q_f68_4 N) l t L (fin [.tmp (.l 4)] Q) nE (fin [.tmp (.l 4)] Q) = D_f68_4 F N Q (l 6) L := by kernel_rfl
def w_f68_3 (F:TF)(N:TN)(Q:TQ) : Kn := (fun (l t : Env) (L : Lg) => D_f68_4 F N Q (l 6) L)
def y_f68_6 (F:TF)(N:TN)(Q:TQ) : Nat → Kn := (fun (j : Nat) (l t : Env) (L : Lg) => bif Nat.beq j 0 then (w_f68_3 F N Q) l t L else nE j l t L)
def q_f68_8 (N : TN) : ACode := (.seq (.seq (.reg [oQ (16,.mv,[.l 7]),oQ (17,.mv,[.l 0]),oQ (18,.nilchk,[.t 17]),oQ (19,.fad 2,[.t 18]),oQ (20,.ld none,[.t 19]),oQ (21,.lenSl,[.t 20]),oQ (22,.bin .lss,[.t 16,.t 21])]) (.cond (.t 22) .skip (.exit 0))) (.seq (.block 1 (.seq (.reg [oQ (25,.mv,[.l 0]),oQ (26,.nilchk,[.t 25]),oQ (27,.fad 2,[.t 26]),oQ (28,.ld none,[.t 27]),oQ (29,.mv,[.l 7]),oQ (30,.iad 3,[.t 28,.t 29]),oQ (31,.fad 0,[.t 30]),oQ (32,.ld none,[.t 31]),oQ (33,.mv,[.l 1]),oQ (34,.bin .eql,[.t 32,.t 33])]) (.cond (.t 34) (.seq (.regD [oQ (35,.mv,[.l 0]),oQ (36,.bslice [.i .i64 0,.i .i64 0,.i .i64 0] 0 3 [],[]),oQ (37,.mv,[.l 0]),oQ (38,.nilchk,[.t 37]),oQ (39,.fad 2,[.t 38]),oQ (40,.ld none,[.t 39]),oQ (41,.mv,[.l 7]),oQ (42,.slc 3 false true false,[.t 40,.t 41]),oQ (43,.app 3 24,[.t 36,.t 42]),oQ (44,.mv,[.l 0]),oQ (45,.nilchk,[.t 44]),oQ (46,.fad 2,[.t 45]),oQ (47,.ld none,[.t 46]),oQ (48,.mv,[.l 7]),oQ (49,.bin .add,[.t 48,.c (.i .i64 1)]),oQ (50,.slc 3 true false false,[.t 47,.t 49]),oQ (51,.app 3 24,[.t 43,.t 50]),oQ (52,.nilchk,[.t 35]),oQ (53,.fad 2,[.t 52]),⟨.no,none,.st 1,[.t 53,.t 51]⟩] [(12,0)]) (.exit 0)) .skip))) (.reg [oQ (23,.mv,[.l 7]),oQ (24,.bin .add,[.t 23,.c (.i .i64 1)]),⟨.l 7,none,.mv,[.t 24]⟩])))
noncomputable def D_f68_8 (F:TF)(N:TN)(Q:TQ) (k1 : TK) (l : Env) (L : Lg) : Prop :=
 wpOp F .nilchk [(l 0)] L fun v1 L1=>
 wpOp F (.fad 2) [v1] L1 fun v2 L2=>
 wpOp F (.ld none) [v2] L2 fun v3 L3=>
 wpOp F .lenSl [v3] L3 fun v4 L4=>
 wpOp F (.bin .lss) [(l 7),v4] L4 fun v5 L5=>
 condW v5
 (wpOp F .nilchk [(l 0)] L5 fun v6 L6=>
 wpOp F (.fad 2) [v6] L6 fun v7 L7=>
 wpOp F (.ld none) [v7] L7 fun v8 L8=>
 wpOp F (.iad 3) [v8,(l 7)] L8 fun v9 L9=>
 wpOp F (.fad 0) [v9] L9 fun v10 L10=>
 wpOp F (.ld none) [v10] L10 fun v11 L11=>
 wpOp F (.bin .eql) [v11,(l 1)] L11 fun v12 L12=>
 condW v12
 (wpOp F (.bslice [.i .i64 0,.i .i64 0,.i .i64 0] 0 3 []) [] L12 fun v13 L13=>
 wpOp F .nilchk [(l 0)] L13 fun v14 L14=>
 wpOp F (.fad 2) [v14] L14 fun v15 L15=>
 wpOp F (.ld none) [v15] L15 fun v16 L16=>
 wpOp F (.slc 3 false true false) [v16,(l 7)] L16 fun v17 L17=>
 wpOp F (.app 3 24) [v13,v17] L17 fun v18 L18=>
 wpOp F .nilchk [(l 0)] L18 fun v19 L19=>
 wpOp F (.fad 2) [v19] L19 fun v20 L20=>
 wpOp F (.ld none) [v20] L20 fun v21 L21=>
 wpOp F (.bin .add) [(l 7),(.i .i64 1)] L21 fun v22 L22=>
 wpOp F (.slc 3 true false false) [v21,v22] L22 fun v23 L23=>
 wpOp F (.app 3 24) [v18,v23] L23 fun v24 L24=>
 wpOp F .nilchk [(l 0)] L24 fun v25 L25=>
 wpOp F (.fad 2) [v25] L25 fun v26 L26=>
 wpOp F (.st 1) [v26,v24] L26 fun _ L27=>
 (againV (.ld none) [v20] L20 L12 ∧ True) ∧ (D_f68_4 F N Q (l 6) L27))
 (wpOp F (.bin .add) [(l 7),(.i .i64 1)] L12 fun v28 L28=>
 k1 (Env.put l 7 v28) L28))
 (D_f68_4 F N Q (l 6) L5)
theorem e_f68_8 (F:TF)(N:TN)(Q:TQ) (k1 : TK) (l t : Env) (L : Lg) : wp F (q_f68_8 N) l t L (fun (l _ : Env) (L : Lg) => k1 l L) (y_f68_6 F N Q) (fin [.tmp (.l 4)] Q) = D_f68_8 F N Q k1 l L := by kernel_rfl
def q_f68_7 (N : TN) : ACode := (.loop (q_f68_8 N))
noncomputable def D_f68_7 (F:TF)(N:TN)(Q:TQ) (l : Env) (L : Lg) : Prop :=
 loopW (fun l t L k1 => D_f68_8 F N Q k1 l L) l L
theorem e_f68_7 (F:TF)(N:TN)(Q:TQ) (l t : Env) (L : Lg) : wp F (q_f68_7 N) l t L (w_f68_3 F N Q) (y_f68_6 F N Q) (fin [.tmp (.l 4)] Q) = D_f68_7 F N Q l L := wpL (fun l t L k1 => e_f68_8 F N Q k1 l t L) (by kernel_rfl)
def q_f68_6 (N : TN) : ACode := (.block 0 (q_f68_7 N))
theorem e_f68_6 (F:TF)(N:TN)(Q:TQ) (l t : Env) (L : Lg) : wp F (q_f68_6 N) l t L (w_f68_3 F N Q) nE (fin [.tmp (.l 4)] Q) = D_f68_7 F N Q l L := wpB (e_f68_7 F N Q l t L)
def q_f68_5a (N : TN) : ACode := (.reg [⟨.l 7,none,.mv,[.c (.i .i64 0)]⟩])
def q_f68_5 (N : TN) : ACode := (.seq (q_f68_5a N) (q_f68_6 N))
noncomputable def D_f68_5 (F:TF)(N:TN)(Q:TQ) (l : Env) (L : Lg) : Prop :=
 D_f68_7 F N Q (Env.put l 7 (.i .i64 0)) L
theorem e_f68_5 (F:TF)(N:TN)(Q:TQ) (l t : Env) (L : Lg) : wp F (q_f68_5 N) l t L (w_f68_3 F N Q) nE (fin [.tmp (.l 4)] Q) = D_f68_5 F N Q l L := wpS (e_f68_6 F N Q) (by kernel_rfl)
def q_f68_3 (N : TN) : ACode := (.seq (q_f68_5 N) (q_f68_4 N))
theorem e_f68_3 (F:TF)(N:TN)(Q:TQ) (l t : Env) (L : Lg) : wp F (q_f68_3 N) l t L (fin [.tmp (.l 4)] Q) nE (fin [.tmp (.l 4)] Q) = D_f68_5 F N Q l L := wpS (e_f68_4 F N Q) (e_f68_5 F N Q l t L)
def q_f68_2a (N : TN) : ACode := (.reg [oQ (9,.mv,[.l 0]),oQ (10,.nilchk,[.t 9]),oQ (11,.fad 0,[.t 10]),oQ (12,.mv,[.l 1]),oQ (13,.call (N k_f67),[.t 11,.t 12]),oQ (8,.mv,[.t 13]),oQ (14,.ext 0,[.t 8]),oQ (15,.ext 1,[.t 8]),oQ (5,.alloc [.i .i64 0,.i .i64 0,.i .i64 0],[]),⟨.no,none,.st 3,[.t 5,.t 14]⟩,⟨.l 6,none,.mv,[.t 15]⟩])
def q_f68_2 (N : TN) : ACode := (.seq (q_f68_2a N) (q_f68_3 N))
noncomputable def D_f68_2 (F:TF)(N:TN)(Q:TQ) (l : Env) (L : Lg) : Prop :=
 wpOp F .nilchk [(l 0)] L fun v1 L1=>
 wpOp F (.fad 0) [v1] L1 fun v2 L2=>
 CallL F (N k_f67) [v2,(l 1)] L2 fun v3 L3=>
 wpOp F (.ext 0) [v3] L3 fun v4 L4=>
 wpOp F (.ext 1) [v3] L4 fun v5 L5=>
 wpOp F (.alloc [.i .i64 0,.i .i64 0,.i .i64 0]) [] L5 fun v6 L6=>
 wpOp F (.st 3) [v6,v4] L6 fun _ L7=>
 D_f68_5 F N Q (Env.put l 6 v5) L7
theorem e_f68_2 (F:TF)(N:TN)(Q:TQ) (l t : Env) (L : Lg) : wp F (q_f68_2 N) l t L (fin [.tmp (.l 4)] Q) nE (fin [.tmp (.l 4)] Q) = D_f68_2 F N Q l L := wpS (e_f68_3 F N Q) (by kernel_rfl)
def q_f68_1a (N : TN) : ACode := (.reg [⟨.l 4,none,.mv,[.c (.b false)]⟩])
def q_f68_1 (N : TN) : ACode := (.seq (q_f68_1a N) (q_f68_2 N))
noncomputable def D_f68_1 (F:TF)(N:TN)(Q:TQ) (l : Env) (L : Lg) : Prop :=
 D_f68_2 F N Q (Env.put l 4 (.b false)) L
theorem e_f68_1 (F:TF)(N:TN)(Q:TQ) (l t : Env) (L : Lg) : wp F (q_f68_1 N) l t L (fin [.tmp (.l 4)] Q) nE (fin [.tmp (.l 4)] Q) = D_f68_1 F N Q l L := wpS (e_f68_2 F N Q) (by kernel_rfl)
def c_f68 (N : TN) : AFn := ⟨q_f68_1 N,[.tmp (.l 4)]⟩
structure H_f68 (N : TN) (F : TF) : Prop where
  code : F (N k_f68) = some (c_f68 N)
  f67 : H_f67 N F
theorem r_f68 {F : TF} {N : TN} (h : F (N k_f68) = some (c_f68 N)) {Q : TQ} {a0 a1 : AV} {L : Lg} (e : D_f68_1 F N Q (initE [a0,a1] 0) L) : CallL F (N k_f68) [a0,a1] L Q :=
  CallL.of_wp h (Eq.mpr (Eq.trans (e_f68_1 F N Q (initE [a0,a1] 0) Env.nil L) (by kernel_rfl : _ = D_f68_1 F N Q (initE [a0,a1] 0) L)) e)
end Go.AM

