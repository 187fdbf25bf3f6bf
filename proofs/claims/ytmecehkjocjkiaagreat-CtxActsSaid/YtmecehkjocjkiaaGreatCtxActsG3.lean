/- The texts Print1, LibClock, LibRing, LibWait, LibChan, LibMap, LibHeapA, LibHeapP, LibHeapB of a proof of CtxActs, merged. -/
import Derived.Test.YtmecehkjocjkiaaGreatCtxActsG2
import Derived.KernelRfl
set_option linter.unusedVariables false
set_option maxRecDepth 100000
namespace Go.AM
section
open Go.Proofs
noncomputable section
def D_f144_7 (F:TF)(Q:TQ)(x0 x1 x2 x3 x13:AV)(L:Lg):Prop :=zd F k_f142 [x0,x13,x1] L fun v1 L1=>za F .lenSl [v1] L1 fun v2 L2=>za F (.bin .gtr) [v2,(.i .i64 0)] L2 fun v3 L3=>zn v3 (zl (some (.tup [x13,v1,(.i .i64 0)])) Q L3) (za F (.bin .leq) [x2,x3] L3 fun v4 L4=>zn v4 (zd F k_f141 [x0,x13,(.i .i64 2),(.i .i64 2)] L4 fun v5 L5=>za F (.ext 0) [v5] L5 fun v6 L6=>za F (.ext 1) [v5] L6 fun v7 L7=>zl (some (.tup [x13,v6,(.i .i64 0)])) Q L7) (D_f144_8 F Q x0 x2 x13 L4))
def D_f144_6 (F:TF)(Q:TQ)(x0 x1 x2 x3 x12:AV)(L:Lg):Prop :=zd F k_f129 [] L fun v1 L1=>za F (.build [.i .i64 0,.b false,.p none,.i .i64 0,.i .i64 0,.i .i64 0,.b false,.b false,.i .i64 0] [(2,1),(5,1),(6,1),(7,1)]) [v1,x2,(.b true),(.b true)] L1 fun v2 L2=>za F (.fad 0) [x12] L2 fun v3 L3=>za F (.ld none) [v3] L3 fun v4 L4=>zd F k_f121 [x0,v2,v4] L4 fun v5 L5=>(z8 (.ld none) [v3] L3 L∧True)∧(D_f144_7 F Q x0 x1 x2 x3 v5 L5)
def D_f144_5 (F:TF)(Q:TQ)(x0 x1 x2 x3 x12:AV)(L:Lg):Prop :=za F (.fad 6) [x12] L fun v1 L1=>za F (.ld none) [v1] L1 fun v2 L2=>zi F v2 true (.fad 5) [x12] L2 fun v3 L3=>zi F v2 true (.ld none) [v3] L3 fun v4 L4=>zi F v2 true .mv [x2] L4 fun v5 L5=>zi F v2 true (.bin .leq) [v4,v5] L5 fun v6 L6=>za F .pick [v2,v6,(.b false)] L6 fun v7 L7=>zn v7 (zd F k_f143 [x0,x1] L7 fun v8 L8=>za F (.ext 0) [v8] L8 fun v9 L9=>za F (.ext 1) [v8] L9 fun v10 L10=>za F (.ext 2) [v8] L10 fun v11 L11=>zl (some (.tup [v9,v10,v11])) Q L11) (D_f144_6 F Q x0 x1 x2 x3 x12 L7)
def D_f144_4 (F:TF)(Q:TQ)(x0 x1 x2 x3:AV)(L:Lg):Prop :=za F .nilchk [x0] L fun v1 L1=>za F (.fad 2) [v1] L1 fun v2 L2=>za F (.ld none) [v2] L2 fun v3 L3=>za F (.iad 9) [v3,x1] L3 fun v4 L4=>za F (.ld (some 9)) [v4] L4 fun v5 L5=>za F (.alloc [.i .i64 0,.b false,.p none,.i .i64 0,.i .i64 0,.i .i64 0,.b false,.b false,.i .i64 0]) [] L5 fun v6 L6=>za F (.st 9) [v6,v5] L6 fun _ L7=>D_f144_5 F Q x0 x1 x2 x3 v6 L7
def D_f144_3 (F:TF)(Q:TQ)(x0 x1 x2 x3:AV)(L:Lg):Prop :=zd F k_f2 [x2,(.i .i64 0)] L fun v1 L1=>za F .max [v1,(.i .i64 0)] L1 fun v2 L2=>D_f144_4 F Q x0 x1 v2 x3 L2
def D_f144_2 (F:TF)(Q:TQ)(x0 x1 x2 x3:AV)(L:Lg):Prop :=zd F k_f128 [x0,x1] L fun v1 L1=>za F (.bin .neq) [v1,(.i .i64 0)] L1 fun v2 L2=>zn v2 (zl (some (.tup [(.i .i64 0),(.sl none 0 0 0),v1])) Q L2) (D_f144_3 F Q x0 x1 x2 x3 L2)
def D_f144_1 (F:TF)(Q:TQ)(x0 x1 x2 x3:AV)(L:Lg):Prop :=D_f144_2 F Q x0 x1 x2 x3 L
structure H_f144 (F:TF):Prop where
 code:F k_f144=some c_f144
 f128:H_f128 F
 f2:H_f2 F
 f143:H_f143 F
 f129:H_f129 F
 f121:H_f121 F
 f142:H_f142 F
 f141:H_f141 F
 f55:H_f55 F
theorem r_f144 {F:TF}(h:F k_f144=some c_f144){Q:TQ}{a0 a1 a2 a3:AV}{L:Lg}(e:D_f144_1 F Q a0 a1 a2 a3 L):zd F k_f144 [a0,a1,a2,a3] L Q :=
 cw h (fun l t L=>wS (fun l t L=>wS (fun l t L=>wS (fun l t L=>wS (fun l t L=>wS (fun l t L=>wS (fun l t L=>wS (fun l t L=>lf (D_f144_8 F Q (l 0) (l 2) (l 13) L)) (lf (D_f144_7 F Q (l 0) (l 1) (l 2) (l 3) (l 13) L))) (lf (D_f144_6 F Q (l 0) (l 1) (l 2) (l 3) (l 12) L))) (lf (D_f144_5 F Q (l 0) (l 1) (l 2) (l 3) (l 12) L))) (lf (D_f144_4 F Q (l 0) (l 1) (l 2) (l 3) L))) (lf (D_f144_3 F Q (l 0) (l 1) (l 2) (l 3) L))) (lf (D_f144_2 F Q (l 0) (l 1) (l 2) (l 3) L))) (lf (D_f144_1 F Q (l 0) (l 1) (l 2) (l 3) L))) e
def D_f145_1 (F:TF)(Q:TQ)(x0 x1:AV)(L:Lg):Prop :=zd F k_f128 [x0,x1] L fun v1 L1=>za F (.bin .neq) [v1,(.i .i64 0)] L1 fun v2 L2=>zn v2 (zl (some (.tup [(.i .i64 0),v1])) Q L2) (za F (.build [.i .i64 0,.b false,.p none,.i .i64 0,.i .i64 0,.i .i64 0,.b false,.b false,.i .i64 0] [(1,1)]) [(.b true)] L2 fun v3 L3=>za F .nilchk [x0] L3 fun v4 L4=>za F (.fad 2) [v4] L4 fun v5 L5=>za F (.ld none) [v5] L5 fun v6 L6=>za F (.iad 9) [v6,x1] L6 fun v7 L7=>za F (.fad 0) [v7] L7 fun v8 L8=>za F (.ld none) [v8] L8 fun v9 L9=>zd F k_f121 [x0,v3,v9] L9 fun v10 L10=>zl (some (.tup [v10,(.i .i64 0)])) Q L10)
structure H_f145 (F:TF):Prop where
 code:F k_f145=some c_f145
 f128:H_f128 F
 f121:H_f121 F
theorem r_f145 {F:TF}(h:F k_f145=some c_f145){Q:TQ}{a0 a1:AV}{L:Lg}(e:D_f145_1 F Q a0 a1 L):zd F k_f145 [a0,a1] L Q :=
 cw h (fun l t L=>lf (D_f145_1 F Q (l 0) (l 1) L)) e
def D_f146_6 (F:TF)(Q:TQ)(x0 x1 x2 x9 x11:AV)(L:Lg):Prop :=za F .nilchk [x0] L fun v1 L1=>za F (.fad 3) [v1] L1 fun v2 L2=>za F (.ld none) [v2] L2 fun v3 L3=>za F (.build [.i .i64 0,.i .i64 0,.b false] [(0,1),(1,1)]) [x9,x2] L3 fun v4 L4=>za F (.bslice [.i .i64 0,.i .i64 0,.b false] 1 3 [0]) [v4] L4 fun v5 L5=>za F (.app 3 24) [v3,v5] L5 fun v6 L6=>za F .nilchk [x0] L6 fun v7 L7=>za F (.fad 3) [v7] L7 fun v8 L8=>za F (.st 1) [v8,v6] L8 fun _ L9=>za F .nilchk [x0] L9 fun v10 L10=>za F (.fad 2) [v10] L10 fun v11 L11=>za F (.ld none) [v11] L11 fun v12 L12=>za F (.iad 9) [v12,x1] L12 fun v13 L13=>za F (.fad 3) [v13] L13 fun v14 L14=>za F (.ld none) [v14] L14 fun v15 L15=>za F (.bin .neq) [v15,(.i .i64 0)] L15 fun v16 L16=>zn v16 (zd F k_f140 [x0,x11] L16 fun v17 L17=>za F (.bslice [.i .i64 0,.i .i64 0] 1 2 [0]) [v17] L17 fun v18 L18=>zl (some (.tup [x11,v18,(.i .i64 0)])) Q L18) (zl (some (.tup [x11,(.sl none 0 0 0),(.i .i64 0)])) Q L16)
def D_f146_5 (F:TF)(Q:TQ)(x0 x1 x2 x9 x11:AV)(L:Lg):Prop :=za F .nilchk [x0] L fun v1 L1=>za F (.fad 4) [v1] L1 fun v2 L2=>za F (.ld none) [v2] L2 fun v3 L3=>za F (.un .neg) [x11] L3 fun v4 L4=>za F (.bin .sub) [v4,(.i .i64 1)] L4 fun v5 L5=>za F .mset [v3,x9,v5] L5 fun _ L6=>D_f146_6 F Q x0 x1 x2 x9 x11 L6
def D_f146_4 (F:TF)(Q:TQ)(x0 x1 x2 x9:AV)(L:Lg):Prop :=za F .nilchk [x0] L fun v1 L1=>za F (.fad 3) [v1] L1 fun v2 L2=>za F (.ld none) [v2] L2 fun v3 L3=>za F .lenSl [v3] L3 fun v4 L4=>D_f146_5 F Q x0 x1 x2 x9 v4 L4
def D_f146_3 (F:TF)(Q:TQ)(x0 x1 x2:AV)(L:Lg):Prop :=za F .nilchk [x0] L fun v1 L1=>za F (.fad 1) [v1] L1 fun v2 L2=>za F (.ld none) [v2] L2 fun v3 L3=>za F .nilchk [x0] L3 fun v4 L4=>za F (.fad 2) [v4] L4 fun v5 L5=>za F (.ld none) [v5] L5 fun v6 L6=>za F (.iad 9) [v6,x1] L6 fun v7 L7=>za F (.fad 0) [v7] L7 fun v8 L8=>za F (.ld none) [v8] L8 fun v9 L9=>zd F k_f120 [v3,v9,(.b true)] L9 fun v10 L10=>za F (.ext 0) [v10] L10 fun v11 L11=>za F (.ext 1) [v10] L11 fun v12 L12=>D_f146_4 F Q x0 x1 x2 v11 L12
def D_f146_2 (F:TF)(Q:TQ)(x0 x1 x2:AV)(L:Lg):Prop :=zd F k_f127 [x0,x1] L fun v1 L1=>za F (.un .not) [v1] L1 fun v2 L2=>zn v2 (zl (some (.tup [(.i .i64 0),(.sl none 0 0 0),(.i .i64 4)])) Q L2) (za F (.bin .lss) [x2,(.i .i64 0)] L2 fun v3 L3=>zn v3 (zl (some (.tup [(.i .i64 0),(.sl none 0 0 0),(.i .i64 1)])) Q L3) (za F .nilchk [x0] L3 fun v4 L4=>za F (.fad 3) [v4] L4 fun v5 L5=>za F (.ld none) [v5] L5 fun v6 L6=>za F .lenSl [v6] L6 fun v7 L7=>za F (.bin .geq) [v7,(.i .i64 64)] L7 fun v8 L8=>zn v8 (zl (some (.tup [(.i .i64 0),(.sl none 0 0 0),(.i .i64 3)])) Q L8) (D_f146_3 F Q x0 x1 x2 L8)))
def D_f146_1 (F:TF)(Q:TQ)(x0 x1 x2:AV)(L:Lg):Prop :=D_f146_2 F Q x0 x1 x2 L
structure H_f146 (F:TF):Prop where
 code:F k_f146=some c_f146
 f127:H_f127 F
 f120:H_f120 F
 f140:H_f140 F
theorem r_f146 {F:TF}(h:F k_f146=some c_f146){Q:TQ}{a0 a1 a2:AV}{L:Lg}(e:D_f146_1 F Q a0 a1 a2 L):zd F k_f146 [a0,a1,a2] L Q :=
 cw h (fun l t L=>wS (fun l t L=>wS (fun l t L=>wS (fun l t L=>wS (fun l t L=>wS (fun l t L=>lf (D_f146_6 F Q (l 0) (l 1) (l 2) (l 9) (l 11) L)) (lf (D_f146_5 F Q (l 0) (l 1) (l 2) (l 9) (l 11) L))) (lf (D_f146_4 F Q (l 0) (l 1) (l 2) (l 9) L))) (lf (D_f146_3 F Q (l 0) (l 1) (l 2) L))) (lf (D_f146_2 F Q (l 0) (l 1) (l 2) L))) (lf (D_f146_1 F Q (l 0) (l 1) (l 2) L))) e
def D_f147_1 (F:TF)(Q:TQ)(x0 x1:AV)(L:Lg):Prop :=zd F k_f127 [x0,x1] L fun v1 L1=>za F (.un .not) [v1] L1 fun v2 L2=>zn v2 (zl (some (.tup [(.i .i64 0),(.b false),(.i .i64 4)])) Q L2) (za F .nilchk [x0] L2 fun v3 L3=>za F (.fad 2) [v3] L3 fun v4 L4=>za F (.ld none) [v4] L4 fun v5 L5=>za F (.iad 9) [v5,x1] L5 fun v6 L6=>za F (.fad 5) [v6] L6 fun v7 L7=>za F (.ld none) [v7] L7 fun v8 L8=>za F .nilchk [x0] L8 fun v9 L9=>za F (.fad 2) [v9] L9 fun v10 L10=>za F (.ld none) [v10] L10 fun v11 L11=>za F (.iad 9) [v11,x1] L11 fun v12 L12=>za F (.fad 6) [v12] L12 fun v13 L13=>za F (.ld none) [v13] L13 fun v14 L14=>zl (some (.tup [v8,v14,(.i .i64 0)])) Q L14)
structure H_f147 (F:TF):Prop where
 code:F k_f147=some c_f147
 f127:H_f127 F
theorem r_f147 {F:TF}(h:F k_f147=some c_f147){Q:TQ}{a0 a1:AV}{L:Lg}(e:D_f147_1 F Q a0 a1 L):zd F k_f147 [a0,a1] L Q :=
 cw h (fun l t L=>lf (D_f147_1 F Q (l 0) (l 1) L)) e
def D_f148_3 (F:TF)(Q:TQ)(x0 x1 x2:AV)(L:Lg):Prop :=zd F k_f141 [x0,x1,(.i .i64 1),x2] L fun v1 L1=>za F (.ext 0) [v1] L1 fun v2 L2=>za F (.ext 1) [v1] L2 fun v3 L3=>zl (some (.tup [v2,v3,(.i .i64 0)])) Q L3
def D_f148_2 (F:TF)(Q:TQ)(x0 x1 x2:AV)(L:Lg):Prop :=zd F k_f127 [x0,x1] L fun v1 L1=>za F (.un .not) [v1] L1 fun v2 L2=>zn v2 (zl (some (.tup [(.sl none 0 0 0),(.sl none 0 0 0),(.i .i64 4)])) Q L2) (za F .nilchk [x0] L2 fun v3 L3=>za F (.fad 2) [v3] L3 fun v4 L4=>za F (.ld none) [v4] L4 fun v5 L5=>za F (.iad 9) [v5,x1] L5 fun v6 L6=>za F (.fad 1) [v6] L6 fun v7 L7=>za F (.ld none) [v7] L7 fun v8 L8=>zn v8 (zl (some (.tup [(.sl none 0 0 0),(.sl none 0 0 0),(.i .i64 1)])) Q L8) (za F (.bin .lss) [x2,(.i .i64 1)] L8 fun v9 L9=>zn v9 (D_f148_3 F Q x0 x1 (.i .i64 1) L9) (D_f148_3 F Q x0 x1 x2 L9)))
def D_f148_1 (F:TF)(Q:TQ)(x0 x1 x2:AV)(L:Lg):Prop :=D_f148_2 F Q x0 x1 x2 L
structure H_f148 (F:TF):Prop where
 code:F k_f148=some c_f148
 f127:H_f127 F
 f141:H_f141 F
theorem r_f148 {F:TF}(h:F k_f148=some c_f148){Q:TQ}{a0 a1 a2:AV}{L:Lg}(e:D_f148_1 F Q a0 a1 a2 L):zd F k_f148 [a0,a1,a2] L Q :=
 cw h (fun l t L=>wS (fun l t L=>wS (fun l t L=>lf (D_f148_3 F Q (l 0) (l 1) (l 2) L)) (lf (D_f148_2 F Q (l 0) (l 1) (l 2) L))) (lf (D_f148_1 F Q (l 0) (l 1) (l 2) L))) e
def D_f149_1 (F:TF)(Q:TQ)(x0 x1:AV)(L:Lg):Prop :=zd F k_f127 [x0,x1] L fun v1 L1=>za F (.un .not) [v1] L1 fun v2 L2=>zn v2 (zl (some (.tup [(.i .i64 0),(.i .i64 4)])) Q L2) (za F .nilchk [x0] L2 fun v3 L3=>za F (.fad 2) [v3] L3 fun v4 L4=>za F (.ld none) [v4] L4 fun v5 L5=>za F (.iad 9) [v5,x1] L5 fun v6 L6=>za F (.fad 3) [v6] L6 fun v7 L7=>za F (.ld none) [v7] L7 fun v8 L8=>zl (some (.tup [v8,(.i .i64 0)])) Q L8)
structure H_f149 (F:TF):Prop where
 code:F k_f149=some c_f149
 f127:H_f127 F
theorem r_f149 {F:TF}(h:F k_f149=some c_f149){Q:TQ}{a0 a1:AV}{L:Lg}(e:D_f149_1 F Q a0 a1 L):zd F k_f149 [a0,a1] L Q :=
 cw h (fun l t L=>lf (D_f149_1 F Q (l 0) (l 1) L)) e
def D_f150_1 (F:TF)(Q:TQ)(x0 x1:AV)(L:Lg):Prop :=zd F k_f127 [x0,x1] L fun v1 L1=>za F (.un .not) [v1] L1 fun v2 L2=>zn v2 (zl (some (.tup [(.i .i64 0),(.i .i64 4)])) Q L2) (za F .nilchk [x0] L2 fun v3 L3=>za F (.fad 2) [v3] L3 fun v4 L4=>za F (.ld none) [v4] L4 fun v5 L5=>za F (.iad 9) [v5,x1] L5 fun v6 L6=>za F (.fad 4) [v6] L6 fun v7 L7=>za F (.ld none) [v7] L7 fun v8 L8=>zl (some (.tup [v8,(.i .i64 0)])) Q L8)
structure H_f150 (F:TF):Prop where
 code:F k_f150=some c_f150
 f127:H_f127 F
theorem r_f150 {F:TF}(h:F k_f150=some c_f150){Q:TQ}{a0 a1:AV}{L:Lg}(e:D_f150_1 F Q a0 a1 L):zd F k_f150 [a0,a1] L Q :=
 cw h (fun l t L=>lf (D_f150_1 F Q (l 0) (l 1) L)) e
def D_f151_3 (F:TF)(Q:TQ)(x0 x1:AV)(L:Lg):Prop :=za F .nilchk [x0] L fun v1 L1=>za F (.fad 3) [v1] L1 fun v2 L2=>za F (.ld none) [v2] L2 fun v3 L3=>za F (.iad 3) [v3,x1] L3 fun v4 L4=>za F .nilchk [v4] L4 fun v5 L5=>za F (.fad 2) [v5] L5 fun v6 L6=>za F (.ld none) [v6] L6 fun v7 L7=>za F (.un .not) [v7] L7 fun v8 L8=>za F .nilchk [v4] L8 fun v9 L9=>za F (.fad 2) [v9] L9 fun v10 L10=>za F (.st 1) [v10,(.b true)] L10 fun _ L11=>za F .nilchk [x0] L11 fun v12 L12=>za F (.fad 1) [v12] L12 fun v13 L13=>za F (.ld none) [v13] L13 fun v14 L14=>za F .nilchk [v4] L14 fun v15 L15=>za F (.fad 0) [v15] L15 fun v16 L16=>za F (.ld none) [v16] L16 fun v17 L17=>zd F k_f139 [v14,v17] L17 fun v18 L18=>zl (some (.tup [v8,(.i .i64 0)])) Q L18
def D_f151_2 (F:TF)(Q:TQ)(x0 x1:AV)(L:Lg):Prop :=za F (.eq false .ptr) [x0,(.p none)] L fun v1 L1=>zi F v1 false .mv [x1] L1 fun v2 L2=>zi F v1 false (.bin .lss) [v2,(.i .i64 0)] L2 fun v3 L3=>za F .pick [v1,(.b true),v3] L3 fun v4 L4=>zi F v4 false .mv [x1] L4 fun v5 L5=>zi F v4 false .mv [x0] L5 fun v6 L6=>zi F v4 false .nilchk [v6] L6 fun v7 L7=>zi F v4 false (.fad 3) [v7] L7 fun v8 L8=>zi F v4 false (.ld none) [v8] L8 fun v9 L9=>zi F v4 false .lenSl [v9] L9 fun v10 L10=>zi F v4 false (.bin .geq) [v5,v10] L10 fun v11 L11=>za F .pick [v4,(.b true),v11] L11 fun v12 L12=>zn v12 (zl (some (.tup [(.b false),(.i .i64 4)])) Q L12) (D_f151_3 F Q x0 x1 L12)
def D_f151_1 (F:TF)(Q:TQ)(x0 x1:AV)(L:Lg):Prop :=D_f151_2 F Q x0 x1 L
structure H_f151 (F:TF):Prop where
 code:F k_f151=some c_f151
 f139:H_f139 F
theorem r_f151 {F:TF}(h:F k_f151=some c_f151){Q:TQ}{a0 a1:AV}{L:Lg}(e:D_f151_1 F Q a0 a1 L):zd F k_f151 [a0,a1] L Q :=
 cw h (fun l t L=>wS (fun l t L=>wS (fun l t L=>lf (D_f151_3 F Q (l 0) (l 1) L)) (lf (D_f151_2 F Q (l 0) (l 1) L))) (lf (D_f151_1 F Q (l 0) (l 1) L))) e
def D_f155_1 (F:TF)(Q:TQ)(x0:AV)(L:Lg):Prop :=za F (.eq false .ptr) [x0,(.p none)] L fun v1 L1=>zn v1 (zl (some (.i .i64 0)) Q L1) (za F .nilchk [x0] L1 fun v2 L2=>za F (.fad 2) [v2] L2 fun v3 L3=>za F (.ld none) [v3] L3 fun v4 L4=>za F .lenSl [v4] L4 fun v5 L5=>zl (some v5) Q L5)
structure H_f155 (F:TF):Prop where
 code:F k_f155=some c_f155
theorem r_f155 {F:TF}(h:F k_f155=some c_f155){Q:TQ}{a0:AV}{L:Lg}(e:D_f155_1 F Q a0 L):zd F k_f155 [a0] L Q :=
 cw h (fun l t L=>lf (D_f155_1 F Q (l 0) L)) e
def D_f157_1 (F:TF)(Q:TQ)(x0 x1:AV)(L:Lg):Prop :=zd F k_f127 [x0,x1] L fun v1 L1=>za F (.un .not) [v1] L1 fun v2 L2=>zn v2 (zl (some (.tup [(.p none),(.i .i64 4)])) Q L2) (za F .nilchk [x0] L2 fun v3 L3=>za F (.fad 2) [v3] L3 fun v4 L4=>za F (.ld none) [v4] L4 fun v5 L5=>za F (.iad 9) [v5,x1] L5 fun v6 L6=>za F (.fad 2) [v6] L6 fun v7 L7=>za F (.ld none) [v7] L7 fun v8 L8=>zl (some (.tup [v8,(.i .i64 0)])) Q L8)
structure H_f157 (F:TF):Prop where
 code:F k_f157=some c_f157
 f127:H_f127 F
theorem r_f157 {F:TF}(h:F k_f157=some c_f157){Q:TQ}{a0 a1:AV}{L:Lg}(e:D_f157_1 F Q a0 a1 L):zd F k_f157 [a0,a1] L Q :=
 cw h (fun l t L=>lf (D_f157_1 F Q (l 0) (l 1) L)) e
def D_f158_1 (F:TF)(Q:TQ)(x0:AV)(L:Lg):Prop :=za F (.eq true .ptr) [x0,(.p none)] L fun v1 L1=>zi F v1 true .mv [x0] L1 fun v2 L2=>zi F v1 true .nilchk [v2] L2 fun v3 L3=>zi F v1 true (.fad 5) [v3] L3 fun v4 L4=>zi F v1 true (.ld none) [v4] L4 fun v5 L5=>za F .pick [v1,v5,(.b false)] L5 fun v6 L6=>zl (some v6) Q L6
structure H_f158 (F:TF):Prop where
 code:F k_f158=some c_f158
theorem r_f158 {F:TF}(h:F k_f158=some c_f158){Q:TQ}{a0:AV}{L:Lg}(e:D_f158_1 F Q a0 L):zd F k_f158 [a0] L Q :=
 cw h (fun l t L=>lf (D_f158_1 F Q (l 0) L)) e
def D_f160_1 (F:TF)(Q:TQ)(x0 x1:AV)(L:Lg):Prop :=zd F k_f127 [x0,x1] L fun v1 L1=>za F (.un .not) [v1] L1 fun v2 L2=>zn v2 (zl (some (.tup [(.sl none 0 0 0),(.sl none 0 0 0),(.i .i64 4)])) Q L2) (za F .nilchk [x0] L2 fun v3 L3=>za F (.fad 2) [v3] L3 fun v4 L4=>za F (.ld none) [v4] L4 fun v5 L5=>za F (.iad 9) [v5,x1] L5 fun v6 L6=>za F (.fad 7) [v6] L6 fun v7 L7=>za F (.ld none) [v7] L7 fun v8 L8=>za F (.un .not) [v8] L8 fun v9 L9=>zn v9 (zl (some (.tup [(.sl none 0 0 0),(.sl none 0 0 0),(.i .i64 1)])) Q L9) (zd F k_f141 [x0,x1,(.i .i64 2),(.i .i64 2)] L9 fun v10 L10=>za F (.ext 0) [v10] L10 fun v11 L11=>za F (.ext 1) [v10] L11 fun v12 L12=>zl (some (.tup [v11,v12,(.i .i64 0)])) Q L12))
structure H_f160 (F:TF):Prop where
 code:F k_f160=some c_f160
 f127:H_f127 F
 f141:H_f141 F
theorem r_f160 {F:TF}(h:F k_f160=some c_f160){Q:TQ}{a0 a1:AV}{L:Lg}(e:D_f160_1 F Q a0 a1 L):zd F k_f160 [a0,a1] L Q :=
 cw h (fun l t L=>lf (D_f160_1 F Q (l 0) (l 1) L)) e
def D_f194_1 (F:TF)(Q:TQ)(x0 x1:AV)(L:Lg):Prop :=za F (.bin .geq) [x1,(.i .i64 0)] L fun v1 L1=>zi F v1 true .mv [x1] L1 fun v2 L2=>zi F v1 true .mv [x0] L2 fun v3 L3=>zi F v1 true .nilchk [v3] L3 fun v4 L4=>zi F v1 true (.fad 3) [v4] L4 fun v5 L5=>zi F v1 true (.ld none) [v5] L5 fun v6 L6=>zi F v1 true .lenSl [v6] L6 fun v7 L7=>zi F v1 true (.bin .lss) [v2,v7] L7 fun v8 L8=>za F .pick [v1,v8,(.b false)] L8 fun v9 L9=>zl (some v9) Q L9
structure H_f194 (F:TF):Prop where
 code:F k_f194=some c_f194
theorem r_f194 {F:TF}(h:F k_f194=some c_f194){Q:TQ}{a0 a1:AV}{L:Lg}(e:D_f194_1 F Q a0 a1 L):zd F k_f194 [a0,a1] L Q :=
 cw h (fun l t L=>lf (D_f194_1 F Q (l 0) (l 1) L)) e
def D_f195_1 (F:TF)(Q:TQ)(x0 x1:AV)(L:Lg):Prop :=za F .nilchk [x0] L fun v1 L1=>za F (.fad 2) [v1] L1 fun v2 L2=>za F (.ld none) [v2] L2 fun v3 L3=>za F .nilchk [x0] L3 fun v4 L4=>za F (.fad 3) [v4] L4 fun v5 L5=>za F (.ld none) [v5] L5 fun v6 L6=>za F (.iad 1) [v6,x1] L6 fun v7 L7=>za F (.ld none) [v7] L7 fun v8 L8=>za F (.iad 12) [v3,v8] L8 fun v9 L9=>zl (some v9) Q L9
structure H_f195 (F:TF):Prop where
 code:F k_f195=some c_f195
theorem r_f195 {F:TF}(h:F k_f195=some c_f195){Q:TQ}{a0 a1:AV}{L:Lg}(e:D_f195_1 F Q a0 a1 L):zd F k_f195 [a0,a1] L Q :=
 cw h (fun l t L=>lf (D_f195_1 F Q (l 0) (l 1) L)) e
def D_f196_1 (F:TF)(Q:TQ)(x0 x1:AV)(L:Lg):Prop :=za F (.bin .lss) [x1,(.i .i64 0)] L fun v1 L1=>zi F v1 false .mv [x1] L1 fun v2 L2=>zi F v1 false .mv [x0] L2 fun v3 L3=>zi F v1 false .nilchk [v3] L3 fun v4 L4=>zi F v1 false (.fad 0) [v4] L4 fun v5 L5=>zi F v1 false (.ld none) [v5] L5 fun v6 L6=>zi F v1 false .lenSl [v6] L6 fun v7 L7=>zi F v1 false (.bin .geq) [v2,v7] L7 fun v8 L8=>za F .pick [v1,(.b true),v8] L8 fun v9 L9=>zi F v9 false .mv [x0] L9 fun v10 L10=>zi F v9 false .nilchk [v10] L10 fun v11 L11=>zi F v9 false (.fad 0) [v11] L11 fun v12 L12=>zi F v9 false (.ld none) [v12] L12 fun v13 L13=>zi F v9 false .mv [x1] L13 fun v14 L14=>zi F v9 false (.iad 2) [v13,v14] L14 fun v15 L15=>zi F v9 false (.fad 1) [v15] L15 fun v16 L16=>zi F v9 false (.ld none) [v16] L16 fun v17 L17=>zi F v9 false (.un .not) [v17] L17 fun v18 L18=>za F .pick [v9,(.b true),v18] L18 fun v19 L19=>zn v19 (zl (some (.b false)) Q L19) (za F .nilchk [x0] L19 fun v20 L20=>za F (.fad 0) [v20] L20 fun v21 L21=>za F (.ld none) [v21] L21 fun v22 L22=>za F (.iad 2) [v22,x1] L22 fun v23 L23=>za F (.fad 1) [v23] L23 fun v24 L24=>za F (.st 1) [v24,(.b false)] L24 fun _ L25=>zl (some (.b true)) Q L25)
structure H_f196 (F:TF):Prop where
 code:F k_f196=some c_f196
theorem r_f196 {F:TF}(h:F k_f196=some c_f196){Q:TQ}{a0 a1:AV}{L:Lg}(e:D_f196_1 F Q a0 a1 L):zd F k_f196 [a0,a1] L Q :=
 cw h (fun l t L=>lf (D_f196_1 F Q (l 0) (l 1) L)) e
def D_f197_3 (F:TF)(Q:TQ)(L:Lg):Prop :=zl (some (.b false)) Q L
def D_f197_7 (F:TF)(Q:TQ)(k1:TK)(l:Env)(L:Lg):Prop :=za F .lenSl [(l 0)] L fun v1 L1=>za F (.bin .lss) [(l 5),v1] L1 fun v2 L2=>zn v2 (za F (.iad 5) [(l 0),(l 5)] L2 fun v3 L3=>za F (.fad 0) [v3] L3 fun v4 L4=>za F (.ld none) [v4] L4 fun v5 L5=>za F (.bin .eql) [v5,(l 1)] L5 fun v6 L6=>zn v6 (zl (some (.b true)) Q L6) (za F (.bin .add) [(l 5),(.i .i64 1)] L6 fun v7 L7=>k1 (Env.put l 5 v7) L7)) (D_f197_3 F Q L2)
def D_f197_6 (F:TF)(Q:TQ)(l:Env)(L:Lg):Prop :=xC (fun l t L k1=>D_f197_7 F Q k1 l L) l L
def D_f197_4 (F:TF)(Q:TQ)(l:Env)(L:Lg):Prop :=D_f197_6 F Q (Env.put l 5 (.i .i64 0)) L
def D_f197_1 (F:TF)(Q:TQ)(l:Env)(L:Lg):Prop :=D_f197_4 F Q (Env.put l 4 (.b false)) L
structure H_f197 (F:TF):Prop where
 code:F k_f197=some c_f197
theorem r_f197 {F:TF}(h:F k_f197=some c_f197){Q:TQ}{a0 a1:AV}{L:Lg}(e:D_f197_1 F Q (zJ [a0,a1] 0) L):zd F k_f197 [a0,a1] L Q :=
 cw h (fun l t L=>wS (fun l t L=>wS (fun l t L=>lf (D_f197_3 F Q L)) (wS (fun l t L=>wB (wL (fun l t L k1=>lf (D_f197_7 F Q k1 l L)) (lf (D_f197_6 F Q l L)))) (lf (D_f197_4 F Q l L)))) (lf (D_f197_1 F Q l L))) e
def D_f198_5 (F:TF)(Q:TQ)(x0 x3:AV)(L:Lg):Prop :=za F .nilchk [x0] L fun v1 L1=>za F (.fad 6) [v1] L1 fun v2 L2=>za F (.st 1) [v2,(.sl none 0 0 0)] L2 fun _ L3=>za F .nilchk [x0] L3 fun v4 L4=>za F (.fad 5) [v4] L4 fun v5 L5=>za F (.st 1) [v5,(.sl none 0 0 0)] L5 fun _ L6=>za F .nilchk [x0] L6 fun v7 L7=>za F (.fad 3) [v7] L7 fun v8 L8=>za F (.st 1) [v8,(.b true)] L8 fun _ L9=>zl (some x3) Q L9
def D_f198_10 (F:TF)(Q:TQ)(k1:TK)(l:Env)(L:Lg):Prop :=za F .nilchk [(l 0)] L fun v1 L1=>za F (.fad 5) [v1] L1 fun v2 L2=>za F (.ld none) [v2] L2 fun v3 L3=>za F (.iad 3) [v3,(l 5)] L3 fun v4 L4=>za F (.fad 0) [v4] L4 fun v5 L5=>za F (.ld none) [v5] L5 fun v6 L6=>zd F k_f197 [(l 3),v6] L6 fun v7 L7=>za F (.un .not) [v7] L7 fun v8 L8=>zn v8 (za F .nilchk [(l 0)] L8 fun v9 L9=>za F (.fad 5) [v9] L9 fun v10 L10=>za F (.ld none) [v10] L10 fun v11 L11=>za F (.iad 3) [v11,(l 5)] L11 fun v12 L12=>za F (.fad 0) [v12] L12 fun v13 L13=>za F (.ld none) [v13] L13 fun v14 L14=>za F .nilchk [(l 0)] L14 fun v15 L15=>za F (.fad 5) [v15] L15 fun v16 L16=>za F (.ld none) [v16] L16 fun v17 L17=>za F (.iad 3) [v17,(l 5)] L17 fun v18 L18=>za F (.fad 1) [v18] L18 fun v19 L19=>za F (.ld none) [v19] L19 fun v20 L20=>za F (.build [.i .i64 0,.i .i64 0,.i .i64 0,.b false,.b false] [(0,1),(1,1),(4,1)]) [v14,v20,(.b true)] L20 fun v21 L21=>za F (.bslice [.i .i64 0,.i .i64 0,.i .i64 0,.b false,.b false] 1 5 [0]) [v21] L21 fun v22 L22=>za F (.app 5 32) [(l 3),v22] L22 fun v23 L23=>za F (.bin .add) [(l 5),(.i .i64 1)] L23 fun v24 L24=>k1 (Env.put (Env.put l 3 v23) 5 v24) L24) (za F (.bin .add) [(l 5),(.i .i64 1)] L8 fun v25 L25=>k1 (Env.put l 5 v25) L25)
def D_f198_9 (F:TF)(Q:TQ)(k1:TK)(l:Env)(L:Lg):Prop :=za F .nilchk [(l 0)] L fun v1 L1=>za F (.fad 5) [v1] L1 fun v2 L2=>za F (.ld none) [v2] L2 fun v3 L3=>za F .lenSl [v3] L3 fun v4 L4=>za F (.bin .lss) [(l 5),v4] L4 fun v5 L5=>zn v5 (D_f198_10 F Q k1 l L5) (D_f198_5 F Q (l 0) (l 3) L5)
def D_f198_8 (F:TF)(Q:TQ)(l:Env)(L:Lg):Prop :=xC (fun l t L k1=>D_f198_9 F Q k1 l L) l L
def D_f198_6 (F:TF)(Q:TQ)(l:Env)(L:Lg):Prop :=D_f198_8 F Q (Env.put l 5 (.i .i64 0)) L
def D_f198_15 (F:TF)(Q:TQ)(k1:TK)(l:Env)(L:Lg):Prop :=za F .nilchk [(l 0)] L fun v1 L1=>za F (.fad 6) [v1] L1 fun v2 L2=>za F (.ld none) [v2] L2 fun v3 L3=>za F (.iad 3) [v3,(l 4)] L3 fun v4 L4=>za F (.fad 0) [v4] L4 fun v5 L5=>za F (.ld none) [v5] L5 fun v6 L6=>zd F k_f197 [(l 3),v6] L6 fun v7 L7=>za F (.un .not) [v7] L7 fun v8 L8=>zn v8 (za F .nilchk [(l 0)] L8 fun v9 L9=>za F (.fad 6) [v9] L9 fun v10 L10=>za F (.ld none) [v10] L10 fun v11 L11=>za F (.iad 3) [v11,(l 4)] L11 fun v12 L12=>za F (.fad 0) [v12] L12 fun v13 L13=>za F (.ld none) [v13] L13 fun v14 L14=>za F .nilchk [(l 0)] L14 fun v15 L15=>za F (.fad 6) [v15] L15 fun v16 L16=>za F (.ld none) [v16] L16 fun v17 L17=>za F (.iad 3) [v17,(l 4)] L17 fun v18 L18=>za F (.fad 1) [v18] L18 fun v19 L19=>za F (.ld none) [v19] L19 fun v20 L20=>za F (.build [.i .i64 0,.i .i64 0,.i .i64 0,.b false,.b false] [(0,1),(1,1)]) [v14,v20] L20 fun v21 L21=>za F (.bslice [.i .i64 0,.i .i64 0,.i .i64 0,.b false,.b false] 1 5 [0]) [v21] L21 fun v22 L22=>za F (.app 5 32) [(l 3),v22] L22 fun v23 L23=>za F (.bin .add) [(l 4),(.i .i64 1)] L23 fun v24 L24=>k1 (Env.put (Env.put l 3 v23) 4 v24) L24) (za F (.bin .add) [(l 4),(.i .i64 1)] L8 fun v25 L25=>k1 (Env.put l 4 v25) L25)
def D_f198_14 (F:TF)(Q:TQ)(k1:TK)(l:Env)(L:Lg):Prop :=za F .nilchk [(l 0)] L fun v1 L1=>za F (.fad 6) [v1] L1 fun v2 L2=>za F (.ld none) [v2] L2 fun v3 L3=>za F .lenSl [v3] L3 fun v4 L4=>za F (.bin .lss) [(l 4),v4] L4 fun v5 L5=>zn v5 (D_f198_15 F Q k1 l L5) (D_f198_6 F Q l L5)
def D_f198_13 (F:TF)(Q:TQ)(l:Env)(L:Lg):Prop :=xC (fun l t L k1=>D_f198_14 F Q k1 l L) l L
def D_f198_11 (F:TF)(Q:TQ)(l:Env)(L:Lg):Prop :=D_f198_13 F Q (Env.put l 4 (.i .i64 0)) L
def D_f198_2 (F:TF)(Q:TQ)(l:Env)(L:Lg):Prop :=D_f198_11 F Q (Env.put l 3 (.sl none 0 0 0)) L
def D_f198_1 (F:TF)(Q:TQ)(l:Env)(L:Lg):Prop :=D_f198_2 F Q (Env.put l 2 (.sl none 0 0 0)) L
structure H_f198 (F:TF):Prop where
 code:F k_f198=some c_f198
 f197:H_f197 F
theorem r_f198 {F:TF}(h:F k_f198=some c_f198){Q:TQ}{a0:AV}{L:Lg}(e:D_f198_1 F Q (zJ [a0] 0) L):zd F k_f198 [a0] L Q :=
 cw h (fun l t L=>wS (fun l t L=>wS (fun l t L=>wS (fun l t L=>wS (fun l t L=>lf (D_f198_5 F Q (l 0) (l 3) L)) (wS (fun l t L=>wB (wL (fun l t L k1=>wS (fun l t L=>lf (D_f198_10 F Q k1 l L)) (lf (D_f198_9 F Q k1 l L))) (lf (D_f198_8 F Q l L)))) (lf (D_f198_6 F Q l L)))) (wS (fun l t L=>wB (wL (fun l t L k1=>wS (fun l t L=>lf (D_f198_15 F Q k1 l L)) (lf (D_f198_14 F Q k1 l L))) (lf (D_f198_13 F Q l L)))) (lf (D_f198_11 F Q l L)))) (lf (D_f198_2 F Q l L))) (lf (D_f198_1 F Q l L))) e
def D_f199_1 (F:TF)(Q:TQ)(x0:AV)(L:Lg):Prop :=za F (.eq false .ptr) [x0,(.p none)] L fun v1 L1=>zi F v1 false .mv [x0] L1 fun v2 L2=>zi F v1 false .nilchk [v2] L2 fun v3 L3=>zi F v1 false (.fad 2) [v3] L3 fun v4 L4=>zi F v1 false (.ld none) [v4] L4 fun v5 L5=>zi F v1 false (.un .not) [v5] L5 fun v6 L6=>za F .pick [v1,(.b true),v6] L6 fun v7 L7=>zi F v7 false .mv [x0] L7 fun v8 L8=>zi F v7 false .nilchk [v8] L8 fun v9 L9=>zi F v7 false (.fad 3) [v9] L9 fun v10 L10=>zi F v7 false (.ld none) [v10] L10 fun v11 L11=>za F .pick [v7,(.b true),v11] L11 fun v12 L12=>zn v12 (zl (some (.sl none 0 0 0)) Q L12) (zd F k_f198 [x0] L12 fun v13 L13=>zl (some v13) Q L13)
structure H_f199 (F:TF):Prop where
 code:F k_f199=some c_f199
 f198:H_f198 F
theorem r_f199 {F:TF}(h:F k_f199=some c_f199){Q:TQ}{a0:AV}{L:Lg}(e:D_f199_1 F Q a0 L):zd F k_f199 [a0] L Q :=
 cw h (fun l t L=>lf (D_f199_1 F Q (l 0) L)) e
def D_f200_4 (F:TF)(Q:TQ)(x5:AV)(L:Lg):Prop :=zl (some x5) Q L
def D_f200_8 (F:TF)(Q:TQ)(k1:TK)(l:Env)(L:Lg):Prop :=za F .nilchk [(l 0)] L fun v1 L1=>za F (.fad 0) [v1] L1 fun v2 L2=>za F (.ld none) [v2] L2 fun v3 L3=>za F .lenSl [v3] L3 fun v4 L4=>za F (.bin .lss) [(l 6),v4] L4 fun v5 L5=>zn v5 (za F .nilchk [(l 0)] L5 fun v6 L6=>za F (.fad 0) [v6] L6 fun v7 L7=>za F (.ld none) [v7] L7 fun v8 L8=>za F (.iad 2) [v8,(l 6)] L8 fun v9 L9=>za F (.fad 1) [v9] L9 fun v10 L10=>za F (.ld none) [v10] L10 fun v11 L11=>zi F v11 true .mv [(l 0)] L11 fun v12 L12=>zi F v11 true .nilchk [v12] L12 fun v13 L13=>zi F v11 true (.fad 0) [v13] L13 fun v14 L14=>zi F v11 true (.ld none) [v14] L14 fun v15 L15=>zi F v11 true .mv [(l 6)] L15 fun v16 L16=>zi F v11 true (.iad 2) [v15,v16] L16 fun v17 L17=>zi F v11 true (.fad 0) [v17] L17 fun v18 L18=>zi F v11 true (.ld none) [v18] L18 fun v19 L19=>zi F v11 true .mv [(l 1)] L19 fun v20 L20=>zi F v11 true (.bin .eql) [v19,v20] L20 fun v21 L21=>za F .pick [v11,v21,(.b false)] L21 fun v22 L22=>zn v22 (za F (.bslice [.i .i64 0] 1 1 [0]) [(l 6)] L22 fun v23 L23=>za F (.app 1 8) [(l 5),v23] L23 fun v24 L24=>za F (.bin .add) [(l 6),(.i .i64 1)] L24 fun v25 L25=>k1 (Env.put (Env.put l 5 v24) 6 v25) L25) (za F (.bin .add) [(l 6),(.i .i64 1)] L22 fun v26 L26=>k1 (Env.put l 6 v26) L26)) (D_f200_4 F Q (l 5) L5)
def D_f200_7 (F:TF)(Q:TQ)(l:Env)(L:Lg):Prop :=xC (fun l t L k1=>D_f200_8 F Q k1 l L) l L
def D_f200_5 (F:TF)(Q:TQ)(l:Env)(L:Lg):Prop :=D_f200_7 F Q (Env.put l 6 (.i .i64 0)) L
def D_f200_2 (F:TF)(Q:TQ)(l:Env)(L:Lg):Prop :=D_f200_5 F Q (Env.put l 5 (.sl none 0 0 0)) L
def D_f200_1 (F:TF)(Q:TQ)(l:Env)(L:Lg):Prop :=D_f200_2 F Q (Env.put l 4 (.sl none 0 0 0)) L
structure H_f200 (F:TF):Prop where
 code:F k_f200=some c_f200
theorem r_f200 {F:TF}(h:F k_f200=some c_f200){Q:TQ}{a0 a1:AV}{L:Lg}(e:D_f200_1 F Q (zJ [a0,a1] 0) L):zd F k_f200 [a0,a1] L Q :=
 cw h (fun l t L=>wS (fun l t L=>wS (fun l t L=>wS (fun l t L=>lf (D_f200_4 F Q (l 5) L)) (wS (fun l t L=>wB (wL (fun l t L k1=>lf (D_f200_8 F Q k1 l L)) (lf (D_f200_7 F Q l L)))) (lf (D_f200_5 F Q l L)))) (lf (D_f200_2 F Q l L))) (lf (D_f200_1 F Q l L))) e
def D_f201_10 (F:TF)(Q:TQ)(x0 x1 x4 x5:AV)(L:Lg):Prop :=za F .nilchk [x0] L fun v1 L1=>za F (.fad 1) [v1] L1 fun v2 L2=>zd F k_f196 [v2,x1] L2 fun v3 L3=>zl (some (.tup [x4,x5])) Q L3
def D_f201_14 (F:TF)(Q:TQ)(k1:TK)(l:Env)(L:Lg):Prop :=za F .lenSl [(l 15)] L fun v1 L1=>za F (.bin .lss) [(l 16),v1] L1 fun v2 L2=>zn v2 (za F (.iad 1) [(l 15),(l 16)] L2 fun v3 L3=>za F (.ld none) [v3] L3 fun v4 L4=>zd F k_f201 [(l 0),v4,(l 2),(l 3),(l 4),(l 5)] L4 fun v5 L5=>za F (.ext 0) [v5] L5 fun v6 L6=>za F (.ext 1) [v5] L6 fun v7 L7=>za F (.bin .add) [(l 16),(.i .i64 1)] L7 fun v8 L8=>k1 (Env.put (Env.put (Env.put l 4 v6) 5 v7) 16 v8) L8) (D_f201_10 F Q (l 0) (l 1) (l 4) (l 5) L2)
def D_f201_13 (F:TF)(Q:TQ)(l:Env)(L:Lg):Prop :=xC (fun l t L k1=>D_f201_14 F Q k1 l L) l L
def D_f201_11 (F:TF)(Q:TQ)(l:Env)(L:Lg):Prop :=D_f201_13 F Q (Env.put l 16 (.i .i64 0)) L
def D_f201_8 (F:TF)(Q:TQ)(l:Env)(L:Lg):Prop :=za F .nilchk [(l 0)] L fun v1 L1=>za F (.fad 1) [v1] L1 fun v2 L2=>zd F k_f200 [v2,(l 1)] L2 fun v3 L3=>D_f201_11 F Q (Env.put l 15 v3) L3
def D_f201_7 (F:TF)(Q:TQ)(l:Env)(L:Lg):Prop :=za F .nilchk [(l 14)] L fun v1 L1=>za F (.fad 10) [v1] L1 fun v2 L2=>za F (.ld none) [v2] L2 fun v3 L3=>za F (.bin .geq) [v3,(.i .i64 0)] L3 fun v4 L4=>zi F v4 true .mv [(l 0)] L4 fun v5 L5=>zi F v4 true .nilchk [v5] L5 fun v6 L6=>zi F v4 true (.fad 0) [v6] L6 fun v7 L7=>zi F v4 true (.ld none) [v7] L7 fun v8 L8=>zi F v4 true (.eq true .ptr) [v8,(.p none)] L8 fun v9 L9=>za F .pick [v4,v9,(.b false)] L9 fun v10 L10=>zn v10 (za F .nilchk [(l 0)] L10 fun v11 L11=>za F (.fad 0) [v11] L11 fun v12 L12=>za F (.ld none) [v12] L12 fun v13 L13=>za F .nilchk [(l 14)] L13 fun v14 L14=>za F (.fad 10) [v14] L14 fun v15 L15=>za F (.ld none) [v15] L15 fun v16 L16=>zd F k_f80 [v13,v16] L16 fun v17 L17=>D_f201_8 F Q l L17) (D_f201_8 F Q l L10)
def D_f201_6 (F:TF)(Q:TQ)(l:Env)(L:Lg):Prop :=za F .nilchk [(l 14)] L fun v1 L1=>za F (.fad 1) [v1] L1 fun v2 L2=>za F (.ld none) [v2] L2 fun v3 L3=>za F .nilchk [(l 14)] L3 fun v4 L4=>za F (.fad 11) [v4] L4 fun v5 L5=>za F (.ld none) [v5] L5 fun v6 L6=>zd F k_f199 [v6] L6 fun v7 L7=>za F (.build [.i .i64 0,.i .i64 0,.i .i64 0,.sl none 0 0 0] [(0,1),(1,1),(2,1),(3,1)]) [v3,(l 2),(l 3),v7] L7 fun v8 L8=>za F (.bslice [.i .i64 0,.i .i64 0,.i .i64 0,.sl none 0 0 0] 1 4 [0]) [v8] L8 fun v9 L9=>za F (.app 4 48) [(l 4),v9] L9 fun v10 L10=>(z8 (.ld none) [v2] L2 L7∧True)∧(D_f201_7 F Q (Env.put l 4 v10) L10)
def D_f201_5 (F:TF)(Q:TQ)(l:Env)(L:Lg):Prop :=za F .nilchk [(l 14)] L fun v1 L1=>za F (.fad 5) [v1] L1 fun v2 L2=>za F (.st 1) [v2,(l 2)] L2 fun _ L3=>za F .nilchk [(l 14)] L3 fun v4 L4=>za F (.fad 6) [v4] L4 fun v5 L5=>za F (.st 1) [v5,(l 3)] L5 fun _ L6=>D_f201_6 F Q l L6
def D_f201_4 (F:TF)(Q:TQ)(l:Env)(L:Lg):Prop :=za F .nilchk [(l 14)] L fun v1 L1=>za F (.fad 5) [v1] L1 fun v2 L2=>za F (.ld none) [v2] L2 fun v3 L3=>za F (.bin .neq) [v3,(.i .i64 0)] L3 fun v4 L4=>zi F v4 false .mv [(l 14)] L4 fun v5 L5=>zi F v4 false .nilchk [v5] L5 fun v6 L6=>zi F v4 false (.fad 4) [v6] L6 fun v7 L7=>zi F v4 false (.ld none) [v7] L7 fun v8 L8=>za F .pick [v4,(.b true),v8] L8 fun v9 L9=>zn v9 (zl (some (.tup [(l 4),(l 5)])) Q L9) (D_f201_5 F Q l L9)
def D_f201_16 (F:TF)(Q:TQ)(l:Env)(t26:AV)(L:Lg):Prop :=zn t26 (za F .nilchk [(l 14)] L fun v1 L1=>za F (.fad 3) [v1] L1 fun v2 L2=>za F (.ld none) [v2] L2 fun v3 L3=>za F (.un .not) [v3] L3 fun v4 L4=>zn v4 (za F .nilchk [(l 14)] L4 fun v5 L5=>za F (.fad 3) [v5] L5 fun v6 L6=>za F (.st 1) [v6,(.b true)] L6 fun _ L7=>za F .nilchk [(l 14)] L7 fun v8 L8=>za F (.fad 1) [v8] L8 fun v9 L9=>za F (.ld none) [v9] L9 fun v10 L10=>za F .nilchk [(l 14)] L10 fun v11 L11=>za F (.fad 2) [v11] L11 fun v12 L12=>za F (.ld none) [v12] L12 fun v13 L13=>za F (.build [.i .i64 0,.i .i64 0] [(0,1),(1,1)]) [v10,v13] L13 fun v14 L14=>za F (.bslice [.i .i64 0,.i .i64 0] 1 2 [0]) [v14] L14 fun v15 L15=>za F (.app 2 16) [(l 5),v15] L15 fun v16 L16=>za F .nilchk [(l 0)] L16 fun v17 L17=>za F (.fad 1) [v17] L17 fun v18 L18=>zd F k_f196 [v18,(l 1)] L18 fun v19 L19=>zl (some (.tup [(l 4),v16])) Q L19) (za F .nilchk [(l 0)] L4 fun v20 L20=>za F (.fad 1) [v20] L20 fun v21 L21=>zd F k_f196 [v21,(l 1)] L21 fun v22 L22=>zl (some (.tup [(l 4),(l 5)])) Q L22)) (D_f201_4 F Q l L)
def D_f201_15 (F:TF)(Q:TQ)(l:Env)(L:Lg):Prop :=za F .nilchk [(l 14)] L fun v1 L1=>za F (.fad 0) [v1] L1 fun v2 L2=>za F (.ld none) [v2] L2 fun v3 L3=>D_f201_16 F Q l v3 L3
def D_f201_2 (F:TF)(Q:TQ)(l:Env)(L:Lg):Prop :=za F .nilchk [(l 0)] L fun v1 L1=>za F (.fad 2) [v1] L1 fun v2 L2=>za F (.ld none) [v2] L2 fun v3 L3=>za F (.iad 12) [v3,(l 1)] L3 fun v4 L4=>D_f201_15 F Q (Env.put l 14 v4) L4
def D_f201_1 (F:TF)(Q:TQ)(l:Env)(L:Lg):Prop :=D_f201_2 F Q (Env.put (Env.put l 12 (.sl none 0 0 0)) 13 (.sl none 0 0 0)) L
structure H_f201 (F:TF):Prop where
 code:F k_f201=some c_f201
 f196:H_f196 F
 f199:H_f199 F
 f80:H_f80 F
 f200:H_f200 F
theorem r_f201 {F:TF}(h:F k_f201=some c_f201){Q:TQ}{a0 a1 a2 a3 a4 a5:AV}{L:Lg}(e:D_f201_1 F Q (zJ [a0,a1,a2,a3,a4,a5] 0) L):zd F k_f201 [a0,a1,a2,a3,a4,a5] L Q :=
 cw h (fun l t L=>wS (fun l t L=>wS (fun l t L=>wS (fun l t L=>wS (fun l t L=>wS (fun l t L=>wS (fun l t L=>wS (fun l t L=>wS (fun l t L=>wS (fun l t L=>lf (D_f201_10 F Q (l 0) (l 1) (l 4) (l 5) L)) (wS (fun l t L=>wB (wL (fun l t L k1=>lf (D_f201_14 F Q k1 l L)) (lf (D_f201_13 F Q l L)))) (lf (D_f201_11 F Q l L)))) (lf (D_f201_8 F Q l L))) (lf (D_f201_7 F Q l L))) (lf (D_f201_6 F Q l L))) (lf (D_f201_5 F Q l L))) (lf (D_f201_4 F Q l L))) (wS (fun l t L=>lf (D_f201_16 F Q l (t 26) L)) (lf (D_f201_15 F Q l L)))) (lf (D_f201_2 F Q l L))) (lf (D_f201_1 F Q l L))) e
def D_f202_6 (F:TF)(Q:TQ)(x0 x7 x8:AV)(L:Lg):Prop :=za F (.fad 5) [x7] L fun v1 L1=>za F (.ld none) [v1] L1 fun v2 L2=>za F (.bin .eql) [v2,(.i .i64 0)] L2 fun v3 L3=>zn v3 (zl (some (.tup [x8,(.sl none 0 0 0),(.i .i64 0)])) Q L3) (za F .nilchk [x0] L3 fun v4 L4=>za F (.fad 3) [v4] L4 fun v5 L5=>za F (.ld none) [v5] L5 fun v6 L6=>za F (.iad 1) [v6,x8] L6 fun v7 L7=>za F (.ld none) [v7] L7 fun v8 L8=>za F (.fad 5) [x7] L8 fun v9 L9=>za F (.ld none) [v9] L9 fun v10 L10=>za F (.fad 6) [x7] L10 fun v11 L11=>za F (.ld none) [v11] L11 fun v12 L12=>zd F k_f201 [x0,v8,v10,v12,(.sl none 0 0 0),(.sl none 0 0 0)] L12 fun v13 L13=>za F (.ext 0) [v13] L13 fun v14 L14=>za F (.ext 1) [v13] L14 fun v15 L15=>zl (some (.tup [x8,v14,(.i .i64 0)])) Q L15)
def D_f202_5 (F:TF)(Q:TQ)(x0 x1 x7:AV)(L:Lg):Prop :=za F .nilchk [x0] L fun v1 L1=>za F (.fad 3) [v1] L1 fun v2 L2=>za F (.ld none) [v2] L2 fun v3 L3=>za F (.iad 1) [v3,x1] L3 fun v4 L4=>za F (.ld none) [v4] L4 fun v5 L5=>za F (.build [.i .i64 0,.b false,.b false,.b false,.sl none 0 0 0,.sl none 0 0 0,.sl none 0 0 0] [(2,1)]) [(.b true)] L5 fun v6 L6=>za F .box [v6] L6 fun v7 L7=>za F (.fad 7) [x7] L7 fun v8 L8=>za F (.ld none) [v8] L8 fun v9 L9=>za F (.fad 8) [x7] L9 fun v10 L10=>za F (.ld none) [v10] L10 fun v11 L11=>za F (.build [.b false,.i .i64 0,.i .i64 0,.b false,.b false,.i .i64 0,.i .i64 0,.i .i64 0,.b false,.b false,.i .i64 0,.p none] [(11,1),(7,1),(8,1),(10,1)]) [v7,v9,v11,(.i .i64 (-1))] L11 fun v12 L12=>zd F k_f124 [x0,v5,(.b true),v12] L12 fun v13 L13=>D_f202_6 F Q x0 x7 v13 L13
def D_f202_4 (F:TF)(Q:TQ)(x0 x1:AV)(L:Lg):Prop :=zd F k_f195 [x0,x1] L fun v1 L1=>za F .nilchk [v1] L1 fun v2 L2=>za F (.ld (some 12)) [v2] L2 fun v3 L3=>za F (.alloc [.b false,.i .i64 0,.i .i64 0,.b false,.b false,.i .i64 0,.i .i64 0,.i .i64 0,.b false,.b false,.i .i64 0,.p none]) [] L3 fun v4 L4=>za F (.st 12) [v4,v3] L4 fun _ L5=>D_f202_5 F Q x0 x1 v4 L5
def D_f202_3 (F:TF)(Q:TQ)(x0 x1:AV)(L:Lg):Prop :=za F .nilchk [x0] L fun v1 L1=>za F (.fad 3) [v1] L1 fun v2 L2=>za F (.ld none) [v2] L2 fun v3 L3=>za F .lenSl [v3] L3 fun v4 L4=>za F (.bin .geq) [v4,(.i .i64 64)] L4 fun v5 L5=>zn v5 (zl (some (.tup [(.i .i64 0),(.sl none 0 0 0),(.i .i64 3)])) Q L5) (D_f202_4 F Q x0 x1 L5)
def D_f202_2 (F:TF)(Q:TQ)(x0 x1:AV)(L:Lg):Prop :=zd F k_f194 [x0,x1] L fun v1 L1=>za F (.un .not) [v1] L1 fun v2 L2=>zn v2 (zl (some (.tup [(.i .i64 0),(.sl none 0 0 0),(.i .i64 4)])) Q L2) (D_f202_3 F Q x0 x1 L2)
def D_f202_1 (F:TF)(Q:TQ)(x0 x1:AV)(L:Lg):Prop :=D_f202_2 F Q x0 x1 L
structure H_f202 (F:TF):Prop where
 code:F k_f202=some c_f202
 f194:H_f194 F
 f195:H_f195 F
 f124:H_f124 F
 f201:H_f201 F
theorem r_f202 {F:TF}(h:F k_f202=some c_f202){Q:TQ}{a0 a1:AV}{L:Lg}(e:D_f202_1 F Q a0 a1 L):zd F k_f202 [a0,a1] L Q :=
 cw h (fun l t L=>wS (fun l t L=>wS (fun l t L=>wS (fun l t L=>wS (fun l t L=>wS (fun l t L=>lf (D_f202_6 F Q (l 0) (l 7) (l 8) L)) (lf (D_f202_5 F Q (l 0) (l 1) (l 7) L))) (lf (D_f202_4 F Q (l 0) (l 1) L))) (lf (D_f202_3 F Q (l 0) (l 1) L))) (lf (D_f202_2 F Q (l 0) (l 1) L))) (lf (D_f202_1 F Q (l 0) (l 1) L))) e
def D_f203_4 (F:TF)(Q:TQ)(L:Lg):Prop :=zl (some (.b true)) Q L
def D_f203_10 (F:TF)(Q:TQ)(k1:TK)(l:Env)(L:Lg):Prop :=za F (.bin .add) [(l 5),(.i .i64 1)] L fun v1 L1=>k1 (Env.put l 5 v1) L1
def D_f203_13 (F:TF)(Q:TQ)(k1:TK)(l:Env)(t67:AV)(L:Lg):Prop :=zn t67 (zl (some (.b false)) Q L) (D_f203_10 F Q k1 l L)
def D_f203_12 (F:TF)(Q:TQ)(k1:TK)(l:Env)(L:Lg):Prop :=za F (.iad 4) [(l 0),(l 5)] L fun v1 L1=>za F (.fad 0) [v1] L1 fun v2 L2=>za F (.ld none) [v2] L2 fun v3 L3=>za F (.iad 4) [(l 1),(l 5)] L3 fun v4 L4=>za F (.fad 0) [v4] L4 fun v5 L5=>za F (.ld none) [v5] L5 fun v6 L6=>za F (.bin .neq) [v3,v6] L6 fun v7 L7=>zi F v7 false .mv [(l 0)] L7 fun v8 L8=>zi F v7 false .mv [(l 5)] L8 fun v9 L9=>zi F v7 false (.iad 4) [v8,v9] L9 fun v10 L10=>zi F v7 false (.fad 1) [v10] L10 fun v11 L11=>zi F v7 false (.ld none) [v11] L11 fun v12 L12=>zi F v7 false .mv [(l 1)] L12 fun v13 L13=>zi F v7 false .mv [(l 5)] L13 fun v14 L14=>zi F v7 false (.iad 4) [v13,v14] L14 fun v15 L15=>zi F v7 false (.fad 1) [v15] L15 fun v16 L16=>zi F v7 false (.ld none) [v16] L16 fun v17 L17=>zi F v7 false (.bin .neq) [v12,v17] L17 fun v18 L18=>za F .pick [v7,(.b true),v18] L18 fun v19 L19=>zi F v19 false .mv [(l 0)] L19 fun v20 L20=>zi F v19 false .mv [(l 5)] L20 fun v21 L21=>zi F v19 false (.iad 4) [v20,v21] L21 fun v22 L22=>zi F v19 false (.fad 2) [v22] L22 fun v23 L23=>zi F v19 false (.ld none) [v23] L23 fun v24 L24=>zi F v19 false .mv [(l 1)] L24 fun v25 L25=>zi F v19 false .mv [(l 5)] L25 fun v26 L26=>zi F v19 false (.iad 4) [v25,v26] L26 fun v27 L27=>zi F v19 false (.fad 2) [v27] L27 fun v28 L28=>zi F v19 false (.ld none) [v28] L28 fun v29 L29=>zi F v19 false (.bin .neq) [v24,v29] L29 fun v30 L30=>za F .pick [v19,(.b true),v30] L30 fun v31 L31=>zi F v31 false .mv [(l 0)] L31 fun v32 L32=>zi F v31 false .mv [(l 5)] L32 fun v33 L33=>zi F v31 false (.iad 4) [v32,v33] L33 fun v34 L34=>zi F v31 false (.fad 3) [v34] L34 fun v35 L35=>zi F v31 false (.ld none) [v35] L35 fun v36 L36=>zi F v31 false .mv [(l 1)] L36 fun v37 L37=>zi F v31 false .mv [(l 5)] L37 fun v38 L38=>zi F v31 false (.iad 4) [v37,v38] L38 fun v39 L39=>zi F v31 false (.fad 3) [v39] L39 fun v40 L40=>zi F v31 false (.ld none) [v40] L40 fun v41 L41=>zi F v31 false (.call k_f88) [v36,v41] L41 fun v42 L42=>zi F v31 false (.un .not) [v42] L42 fun v43 L43=>za F .pick [v31,(.b true),v43] L43 fun v44 L44=>D_f203_13 F Q k1 l v44 L44
def D_f203_8 (F:TF)(Q:TQ)(k1:TK)(l:Env)(L:Lg):Prop :=za F .lenSl [(l 0)] L fun v1 L1=>za F (.bin .lss) [(l 5),v1] L1 fun v2 L2=>zn v2 (D_f203_12 F Q k1 l L2) (D_f203_4 F Q L2)
def D_f203_7 (F:TF)(Q:TQ)(l:Env)(L:Lg):Prop :=xC (fun l t L k1=>D_f203_8 F Q k1 l L) l L
def D_f203_5 (F:TF)(Q:TQ)(l:Env)(L:Lg):Prop :=D_f203_7 F Q (Env.put l 5 (.i .i64 0)) L
def D_f203_2 (F:TF)(Q:TQ)(l:Env)(L:Lg):Prop :=za F .lenSl [(l 0)] L fun v1 L1=>za F .lenSl [(l 1)] L1 fun v2 L2=>za F (.bin .neq) [v1,v2] L2 fun v3 L3=>zn v3 (zl (some (.b false)) Q L3) (D_f203_5 F Q l L3)
def D_f203_1 (F:TF)(Q:TQ)(l:Env)(L:Lg):Prop :=D_f203_2 F Q (Env.put l 4 (.b false)) L
structure H_f203 (F:TF):Prop where
 code:F k_f203=some c_f203
 f88:H_f88 F
theorem r_f203 {F:TF}(h:F k_f203=some c_f203){Q:TQ}{a0 a1:AV}{L:Lg}(e:D_f203_1 F Q (zJ [a0,a1] 0) L):zd F k_f203 [a0,a1] L Q :=
 cw h (fun l t L=>wS (fun l t L=>wS (fun l t L=>wS (fun l t L=>lf (D_f203_4 F Q L)) (wS (fun l t L=>wB (wL (fun l t L k1=>wS (fun l t L=>wS (fun l t L=>lf (D_f203_10 F Q k1 l L)) (wB (wS (fun l t L=>lf (D_f203_13 F Q k1 l (t 67) L)) (lf (D_f203_12 F Q k1 l L))))) (lf (D_f203_8 F Q k1 l L))) (lf (D_f203_7 F Q l L)))) (lf (D_f203_5 F Q l L)))) (lf (D_f203_2 F Q l L))) (lf (D_f203_1 F Q l L))) e
def D_f204_10 (F:TF)(Q:TQ)(x0 x2 x11 x14:AV)(L:Lg):Prop :=za F .nilchk [x0] L fun v1 L1=>za F (.fad 0) [v1] L1 fun v2 L2=>za F (.ld none) [v2] L2 fun v3 L3=>za F (.eq true .ptr) [v3,(.p none)] L3 fun v4 L4=>zn v4 (za F .nilchk [x0] L4 fun v5 L5=>za F (.fad 0) [v5] L5 fun v6 L6=>za F (.ld none) [v6] L6 fun v7 L7=>zd F k_f77 [v7,x2,x11] L7 fun v8 L8=>za F (.ext 0) [v8] L8 fun v9 L9=>za F (.ext 1) [v8] L9 fun v10 L10=>za F .nilchk [x14] L10 fun v11 L11=>za F (.fad 10) [v11] L11 fun v12 L12=>za F (.st 1) [v12,v9] L12 fun _ L13=>zl (some (.tup [x11,(.sl none 0 0 0),(.i .i64 0)])) Q L13) (zl (some (.tup [x11,(.sl none 0 0 0),(.i .i64 0)])) Q L4)
def D_f204_9 (F:TF)(Q:TQ)(x0 x2 x3 x11 x14:AV)(L:Lg):Prop :=za F (.bin .leq) [x2,x3] L fun v1 L1=>zn v1 (za F .nilchk [x0] L1 fun v2 L2=>za F (.fad 3) [v2] L2 fun v3 L3=>za F (.ld none) [v3] L3 fun v4 L4=>za F (.iad 1) [v4,x11] L4 fun v5 L5=>za F (.ld none) [v5] L5 fun v6 L6=>zd F k_f201 [x0,v6,(.i .i64 2),(.i .i64 2),(.sl none 0 0 0),(.sl none 0 0 0)] L6 fun v7 L7=>za F (.ext 0) [v7] L7 fun v8 L8=>za F (.ext 1) [v7] L8 fun v9 L9=>zl (some (.tup [x11,v8,(.i .i64 0)])) Q L9) (D_f204_10 F Q x0 x2 x11 x14 L1)
def D_f204_8 (F:TF)(Q:TQ)(x0 x2 x3 x11 x12 x14:AV)(L:Lg):Prop :=za F .nilchk [x14] L fun v1 L1=>za F (.fad 5) [v1] L1 fun v2 L2=>za F (.ld none) [v2] L2 fun v3 L3=>za F (.bin .neq) [v3,(.i .i64 0)] L3 fun v4 L4=>zn v4 (zl (some (.tup [x11,x12,(.i .i64 0)])) Q L4) (D_f204_9 F Q x0 x2 x3 x11 x14 L4)
def D_f204_7 (F:TF)(Q:TQ)(x0 x2 x3 x11 x12 x14:AV)(L:Lg):Prop :=za F .nilchk [x14] L fun v1 L1=>za F (.fad 7) [v1] L1 fun v2 L2=>za F (.st 1) [v2,x2] L2 fun _ L3=>za F .nilchk [x14] L3 fun v4 L4=>za F (.fad 8) [v4] L4 fun v5 L5=>za F (.st 1) [v5,(.b true)] L5 fun _ L6=>za F .nilchk [x14] L6 fun v7 L7=>za F (.fad 9) [v7] L7 fun v8 L8=>za F (.st 1) [v8,(.b true)] L8 fun _ L9=>D_f204_8 F Q x0 x2 x3 x11 x12 x14 L9
def D_f204_6 (F:TF)(Q:TQ)(x0 x2 x3 x11 x12:AV)(L:Lg):Prop :=zd F k_f195 [x0,x11] L fun v1 L1=>D_f204_7 F Q x0 x2 x3 x11 x12 v1 L1
def D_f204_5 (F:TF)(Q:TQ)(x0 x2 x3 x11 x12 x13:AV)(L:Lg):Prop :=za F (.bin .neq) [x13,(.i .i64 0)] L fun v1 L1=>zn v1 (zl (some (.tup [(.i .i64 0),(.sl none 0 0 0),x13])) Q L1) (D_f204_6 F Q x0 x2 x3 x11 x12 L1)
def D_f204_4 (F:TF)(Q:TQ)(x0 x1 x2 x3:AV)(L:Lg):Prop :=zd F k_f202 [x0,x1] L fun v1 L1=>za F (.ext 0) [v1] L1 fun v2 L2=>za F (.ext 1) [v1] L2 fun v3 L3=>za F (.ext 2) [v1] L3 fun v4 L4=>D_f204_5 F Q x0 x2 x3 v2 v3 v4 L4
def D_f204_3 (F:TF)(Q:TQ)(x0 x1 x2 x3:AV)(L:Lg):Prop :=zd F k_f194 [x0,x1] L fun v1 L1=>zi F v1 true .mv [x0] L1 fun v2 L2=>zi F v1 true .mv [x1] L2 fun v3 L3=>zi F v1 true (.call k_f195) [v2,v3] L3 fun v4 L4=>zi F v1 true .nilchk [v4] L4 fun v5 L5=>zi F v1 true (.fad 8) [v5] L5 fun v6 L6=>zi F v1 true (.ld none) [v6] L6 fun v7 L7=>za F .pick [v1,v7,(.b false)] L7 fun v8 L8=>zi F v8 true .mv [x0] L8 fun v9 L9=>zi F v8 true .mv [x1] L9 fun v10 L10=>zi F v8 true (.call k_f195) [v9,v10] L10 fun v11 L11=>zi F v8 true .nilchk [v11] L11 fun v12 L12=>zi F v8 true (.fad 7) [v12] L12 fun v13 L13=>zi F v8 true (.ld none) [v13] L13 fun v14 L14=>zi F v8 true .mv [x2] L14 fun v15 L15=>zi F v8 true (.bin .leq) [v14,v15] L15 fun v16 L16=>za F .pick [v8,v16,(.b false)] L16 fun v17 L17=>zn v17 (zd F k_f202 [x0,x1] L17 fun v18 L18=>za F (.ext 0) [v18] L18 fun v19 L19=>za F (.ext 1) [v18] L19 fun v20 L20=>za F (.ext 2) [v18] L20 fun v21 L21=>zl (some (.tup [v19,v20,v21])) Q L21) (D_f204_4 F Q x0 x1 x2 x3 L17)
def D_f204_2 (F:TF)(Q:TQ)(x0 x1 x2 x3:AV)(L:Lg):Prop :=zd F k_f63 [x2] L fun v1 L1=>D_f204_3 F Q x0 x1 v1 x3 L1
def D_f204_1 (F:TF)(Q:TQ)(x0 x1 x2 x3:AV)(L:Lg):Prop :=D_f204_2 F Q x0 x1 x2 x3 L
structure H_f204 (F:TF):Prop where
 code:F k_f204=some c_f204
 f63:H_f63 F
 f194:H_f194 F
 f195:H_f195 F
 f202:H_f202 F
 f201:H_f201 F
 f77:H_f77 F
theorem r_f204 {F:TF}(h:F k_f204=some c_f204){Q:TQ}{a0 a1 a2 a3:AV}{L:Lg}(e:D_f204_1 F Q a0 a1 a2 a3 L):zd F k_f204 [a0,a1,a2,a3] L Q :=
 cw h (fun l t L=>wS (fun l t L=>wS (fun l t L=>wS (fun l t L=>wS (fun l t L=>wS (fun l t L=>wS (fun l t L=>wS (fun l t L=>wS (fun l t L=>wS (fun l t L=>lf (D_f204_10 F Q (l 0) (l 2) (l 11) (l 14) L)) (lf (D_f204_9 F Q (l 0) (l 2) (l 3) (l 11) (l 14) L))) (lf (D_f204_8 F Q (l 0) (l 2) (l 3) (l 11) (l 12) (l 14) L))) (lf (D_f204_7 F Q (l 0) (l 2) (l 3) (l 11) (l 12) (l 14) L))) (lf (D_f204_6 F Q (l 0) (l 2) (l 3) (l 11) (l 12) L))) (lf (D_f204_5 F Q (l 0) (l 2) (l 3) (l 11) (l 12) (l 13) L))) (lf (D_f204_4 F Q (l 0) (l 1) (l 2) (l 3) L))) (lf (D_f204_3 F Q (l 0) (l 1) (l 2) (l 3) L))) (lf (D_f204_2 F Q (l 0) (l 1) (l 2) (l 3) L))) (lf (D_f204_1 F Q (l 0) (l 1) (l 2) (l 3) L))) e
def D_f205_1 (F:TF)(Q:TQ)(x0 x1:AV)(L:Lg):Prop :=zd F k_f194 [x0,x1] L fun v1 L1=>za F (.un .not) [v1] L1 fun v2 L2=>zn v2 (zl (some (.tup [(.i .i64 0),(.i .i64 4)])) Q L2) (za F .nilchk [x0] L2 fun v3 L3=>za F (.fad 3) [v3] L3 fun v4 L4=>za F (.ld none) [v4] L4 fun v5 L5=>za F .lenSl [v5] L5 fun v6 L6=>za F (.bin .geq) [v6,(.i .i64 64)] L6 fun v7 L7=>zn v7 (zl (some (.tup [(.i .i64 0),(.i .i64 3)])) Q L7) (za F .nilchk [x0] L7 fun v8 L8=>za F (.fad 3) [v8] L8 fun v9 L9=>za F (.ld none) [v9] L9 fun v10 L10=>za F (.iad 1) [v10,x1] L10 fun v11 L11=>za F (.ld none) [v11] L11 fun v12 L12=>za F (.build [.b false,.i .i64 0,.i .i64 0,.b false,.b false,.i .i64 0,.i .i64 0,.i .i64 0,.b false,.b false,.i .i64 0,.p none] [(4,1),(10,1)]) [(.b true),(.i .i64 (-1))] L12 fun v13 L13=>zd F k_f124 [x0,v12,(.b false),v13] L13 fun v14 L14=>zl (some (.tup [v14,(.i .i64 0)])) Q L14))
structure H_f205 (F:TF):Prop where
 code:F k_f205=some c_f205
 f194:H_f194 F
 f124:H_f124 F
theorem r_f205 {F:TF}(h:F k_f205=some c_f205){Q:TQ}{a0 a1:AV}{L:Lg}(e:D_f205_1 F Q a0 a1 L):zd F k_f205 [a0,a1] L Q :=
 cw h (fun l t L=>lf (D_f205_1 F Q (l 0) (l 1) L)) e
def D_f206_5 (F:TF)(Q:TQ)(x0 x1 x2:AV)(L:Lg):Prop :=za F .nilchk [x0] L fun v1 L1=>za F (.fad 3) [v1] L1 fun v2 L2=>za F (.ld none) [v2] L2 fun v3 L3=>za F (.iad 1) [v3,x1] L3 fun v4 L4=>za F (.ld none) [v4] L4 fun v5 L5=>zd F k_f201 [x0,v5,(.i .i64 1),x2,(.sl none 0 0 0),(.sl none 0 0 0)] L5 fun v6 L6=>za F (.ext 0) [v6] L6 fun v7 L7=>za F (.ext 1) [v6] L7 fun v8 L8=>zl (some (.tup [v7,v8,(.i .i64 0)])) Q L8
def D_f206_4 (F:TF)(Q:TQ)(x0 x1 x2:AV)(L:Lg):Prop :=za F (.bin .lss) [x2,(.i .i64 1)] L fun v1 L1=>zn v1 (D_f206_5 F Q x0 x1 (.i .i64 1) L1) (D_f206_5 F Q x0 x1 x2 L1)
def D_f206_3 (F:TF)(Q:TQ)(x0 x1 x2:AV)(L:Lg):Prop :=zd F k_f195 [x0,x1] L fun v1 L1=>za F .nilchk [v1] L1 fun v2 L2=>za F (.fad 4) [v2] L2 fun v3 L3=>za F (.ld none) [v3] L3 fun v4 L4=>zn v4 (zl (some (.tup [(.sl none 0 0 0),(.sl none 0 0 0),(.i .i64 1)])) Q L4) (D_f206_4 F Q x0 x1 x2 L4)
def D_f206_2 (F:TF)(Q:TQ)(x0 x1 x2:AV)(L:Lg):Prop :=zd F k_f194 [x0,x1] L fun v1 L1=>za F (.un .not) [v1] L1 fun v2 L2=>zn v2 (zl (some (.tup [(.sl none 0 0 0),(.sl none 0 0 0),(.i .i64 4)])) Q L2) (D_f206_3 F Q x0 x1 x2 L2)
def D_f206_1 (F:TF)(Q:TQ)(x0 x1 x2:AV)(L:Lg):Prop :=D_f206_2 F Q x0 x1 x2 L
structure H_f206 (F:TF):Prop where
 code:F k_f206=some c_f206
 f194:H_f194 F
 f195:H_f195 F
 f201:H_f201 F
theorem r_f206 {F:TF}(h:F k_f206=some c_f206){Q:TQ}{a0 a1 a2:AV}{L:Lg}(e:D_f206_1 F Q a0 a1 a2 L):zd F k_f206 [a0,a1,a2] L Q :=
 cw h (fun l t L=>wS (fun l t L=>wS (fun l t L=>wS (fun l t L=>wS (fun l t L=>lf (D_f206_5 F Q (l 0) (l 1) (l 2) L)) (lf (D_f206_4 F Q (l 0) (l 1) (l 2) L))) (lf (D_f206_3 F Q (l 0) (l 1) (l 2) L))) (lf (D_f206_2 F Q (l 0) (l 1) (l 2) L))) (lf (D_f206_1 F Q (l 0) (l 1) (l 2) L))) e
def D_f207_4 (F:TF)(Q:TQ)(L:Lg):Prop :=zl (some (.b true)) Q L
def D_f207_8 (F:TF)(Q:TQ)(k1:TK)(l:Env)(L:Lg):Prop :=za F .lenSl [(l 0)] L fun v1 L1=>za F (.bin .lss) [(l 5),v1] L1 fun v2 L2=>zn v2 (za F (.iad 2) [(l 0),(l 5)] L2 fun v3 L3=>za F (.fad 0) [v3] L3 fun v4 L4=>za F (.ld none) [v4] L4 fun v5 L5=>za F (.iad 2) [(l 1),(l 5)] L5 fun v6 L6=>za F (.fad 0) [v6] L6 fun v7 L7=>za F (.ld none) [v7] L7 fun v8 L8=>za F (.bin .neq) [v5,v8] L8 fun v9 L9=>zi F v9 false .mv [(l 0)] L9 fun v10 L10=>zi F v9 false .mv [(l 5)] L10 fun v11 L11=>zi F v9 false (.iad 2) [v10,v11] L11 fun v12 L12=>zi F v9 false (.fad 1) [v12] L12 fun v13 L13=>zi F v9 false (.ld none) [v13] L13 fun v14 L14=>zi F v9 false .mv [(l 1)] L14 fun v15 L15=>zi F v9 false .mv [(l 5)] L15 fun v16 L16=>zi F v9 false (.iad 2) [v15,v16] L16 fun v17 L17=>zi F v9 false (.fad 1) [v17] L17 fun v18 L18=>zi F v9 false (.ld none) [v18] L18 fun v19 L19=>zi F v9 false (.bin .neq) [v14,v19] L19 fun v20 L20=>za F .pick [v9,(.b true),v20] L20 fun v21 L21=>zn v21 (zl (some (.b false)) Q L21) (za F (.bin .add) [(l 5),(.i .i64 1)] L21 fun v22 L22=>k1 (Env.put l 5 v22) L22)) (D_f207_4 F Q L2)
def D_f207_7 (F:TF)(Q:TQ)(l:Env)(L:Lg):Prop :=xC (fun l t L k1=>D_f207_8 F Q k1 l L) l L
def D_f207_5 (F:TF)(Q:TQ)(l:Env)(L:Lg):Prop :=D_f207_7 F Q (Env.put l 5 (.i .i64 0)) L
def D_f207_2 (F:TF)(Q:TQ)(l:Env)(L:Lg):Prop :=za F .lenSl [(l 0)] L fun v1 L1=>za F .lenSl [(l 1)] L1 fun v2 L2=>za F (.bin .neq) [v1,v2] L2 fun v3 L3=>zn v3 (zl (some (.b false)) Q L3) (D_f207_5 F Q l L3)
def D_f207_1 (F:TF)(Q:TQ)(l:Env)(L:Lg):Prop :=D_f207_2 F Q (Env.put l 4 (.b false)) L
structure H_f207 (F:TF):Prop where
 code:F k_f207=some c_f207
theorem r_f207 {F:TF}(h:F k_f207=some c_f207){Q:TQ}{a0 a1:AV}{L:Lg}(e:D_f207_1 F Q (zJ [a0,a1] 0) L):zd F k_f207 [a0,a1] L Q :=
 cw h (fun l t L=>wS (fun l t L=>wS (fun l t L=>wS (fun l t L=>lf (D_f207_4 F Q L)) (wS (fun l t L=>wB (wL (fun l t L k1=>lf (D_f207_8 F Q k1 l L)) (lf (D_f207_7 F Q l L)))) (lf (D_f207_5 F Q l L)))) (lf (D_f207_2 F Q l L))) (lf (D_f207_1 F Q l L))) e
def D_f208_6 (F:TF)(Q:TQ)(x0 x1 x9 x11:AV)(L:Lg):Prop :=za F .nilchk [x0] L fun v1 L1=>za F (.fad 4) [v1] L1 fun v2 L2=>za F (.ld none) [v2] L2 fun v3 L3=>za F (.bslice [.i .i64 0] 1 1 [0]) [x9] L3 fun v4 L4=>za F (.app 1 8) [v3,v4] L4 fun v5 L5=>za F .nilchk [x0] L5 fun v6 L6=>za F (.fad 4) [v6] L6 fun v7 L7=>za F (.st 1) [v7,v5] L7 fun _ L8=>zd F k_f195 [x0,x1] L8 fun v9 L9=>za F .nilchk [v9] L9 fun v10 L10=>za F (.fad 5) [v10] L10 fun v11 L11=>za F (.ld none) [v11] L11 fun v12 L12=>za F (.bin .eql) [v12,(.i .i64 0)] L12 fun v13 L13=>zn v13 (za F (.fad 1) [x11] L13 fun v14 L14=>za F (.ld none) [v14] L14 fun v15 L15=>zl (some (.tup [v15,(.sl none 0 0 0),(.i .i64 0)])) Q L15) (zd F k_f201 [x0,x9,(.i .i64 0),(.i .i64 0),(.sl none 0 0 0),(.sl none 0 0 0)] L13 fun v16 L16=>za F (.ext 0) [v16] L16 fun v17 L17=>za F (.ext 1) [v16] L17 fun v18 L18=>za F (.fad 1) [x11] L18 fun v19 L19=>za F (.ld none) [v19] L19 fun v20 L20=>zl (some (.tup [v20,v18,(.i .i64 0)])) Q L20)
def D_f208_5 (F:TF)(Q:TQ)(x0 x1 x9 x11:AV)(L:Lg):Prop :=za F .nilchk [x0] L fun v1 L1=>za F (.fad 2) [v1] L1 fun v2 L2=>za F (.ld none) [v2] L2 fun v3 L3=>za F (.ld (some 12)) [x11] L3 fun v4 L4=>za F (.bslice [.b false,.i .i64 0,.i .i64 0,.b false,.b false,.i .i64 0,.i .i64 0,.i .i64 0,.b false,.b false,.i .i64 0,.p none] 1 12 [0]) [v4] L4 fun v5 L5=>za F (.app 12 80) [v3,v5] L5 fun v6 L6=>za F .nilchk [x0] L6 fun v7 L7=>za F (.fad 2) [v7] L7 fun v8 L8=>za F (.st 1) [v8,v6] L8 fun _ L9=>D_f208_6 F Q x0 x1 x9 x11 L9
def D_f208_4 (F:TF)(Q:TQ)(x0 x1 x2 x9:AV)(L:Lg):Prop :=za F .nilchk [x0] L fun v1 L1=>za F (.fad 4) [v1] L1 fun v2 L2=>za F (.ld none) [v2] L2 fun v3 L3=>za F .lenSl [v3] L3 fun v4 L4=>za F (.build [.b false,.i .i64 0,.i .i64 0,.b false,.b false,.i .i64 0,.i .i64 0,.i .i64 0,.b false,.b false,.i .i64 0,.p none] [(0,1),(1,1),(2,1),(10,1)]) [(.b true),v4,x2,(.i .i64 (-1))] L4 fun v5 L5=>za F (.alloc [.b false,.i .i64 0,.i .i64 0,.b false,.b false,.i .i64 0,.i .i64 0,.i .i64 0,.b false,.b false,.i .i64 0,.p none]) [] L5 fun v6 L6=>za F (.st 12) [v6,v5] L6 fun _ L7=>D_f208_5 F Q x0 x1 x9 v6 L7
def D_f208_3 (F:TF)(Q:TQ)(x0 x1 x2:AV)(L:Lg):Prop :=za F .nilchk [x0] L fun v1 L1=>za F (.fad 1) [v1] L1 fun v2 L2=>za F .nilchk [x0] L2 fun v3 L3=>za F (.fad 3) [v3] L3 fun v4 L4=>za F (.ld none) [v4] L4 fun v5 L5=>za F (.iad 1) [v5,x1] L5 fun v6 L6=>za F (.ld none) [v6] L6 fun v7 L7=>zd F k_f123 [v2,v7,(.b true)] L7 fun v8 L8=>za F (.ext 0) [v8] L8 fun v9 L9=>za F (.ext 1) [v8] L9 fun v10 L10=>D_f208_4 F Q x0 x1 x2 v9 L10
def D_f208_2 (F:TF)(Q:TQ)(x0 x1 x2:AV)(L:Lg):Prop :=zd F k_f194 [x0,x1] L fun v1 L1=>za F (.un .not) [v1] L1 fun v2 L2=>zn v2 (zl (some (.tup [(.i .i64 0),(.sl none 0 0 0),(.i .i64 4)])) Q L2) (za F (.bin .lss) [x2,(.i .i64 0)] L2 fun v3 L3=>zn v3 (zl (some (.tup [(.i .i64 0),(.sl none 0 0 0),(.i .i64 1)])) Q L3) (za F .nilchk [x0] L3 fun v4 L4=>za F (.fad 4) [v4] L4 fun v5 L5=>za F (.ld none) [v5] L5 fun v6 L6=>za F .lenSl [v6] L6 fun v7 L7=>za F (.bin .geq) [v7,(.i .i64 64)] L7 fun v8 L8=>zn v8 (zl (some (.tup [(.i .i64 0),(.sl none 0 0 0),(.i .i64 3)])) Q L8) (D_f208_3 F Q x0 x1 x2 L8)))
def D_f208_1 (F:TF)(Q:TQ)(x0 x1 x2:AV)(L:Lg):Prop :=D_f208_2 F Q x0 x1 x2 L
structure H_f208 (F:TF):Prop where
 code:F k_f208=some c_f208
 f194:H_f194 F
 f123:H_f123 F
 f195:H_f195 F
 f201:H_f201 F
theorem r_f208 {F:TF}(h:F k_f208=some c_f208){Q:TQ}{a0 a1 a2:AV}{L:Lg}(e:D_f208_1 F Q a0 a1 a2 L):zd F k_f208 [a0,a1,a2] L Q :=
 cw h (fun l t L=>wS (fun l t L=>wS (fun l t L=>wS (fun l t L=>wS (fun l t L=>wS (fun l t L=>lf (D_f208_6 F Q (l 0) (l 1) (l 9) (l 11) L)) (lf (D_f208_5 F Q (l 0) (l 1) (l 9) (l 11) L))) (lf (D_f208_4 F Q (l 0) (l 1) (l 2) (l 9) L))) (lf (D_f208_3 F Q (l 0) (l 1) (l 2) L))) (lf (D_f208_2 F Q (l 0) (l 1) (l 2) L))) (lf (D_f208_1 F Q (l 0) (l 1) (l 2) L))) e
def D_f209_3 (F:TF)(Q:TQ)(x0 x1:AV)(L:Lg):Prop :=za F .nilchk [x0] L fun v1 L1=>za F (.fad 2) [v1] L1 fun v2 L2=>za F (.ld none) [v2] L2 fun v3 L3=>za F .nilchk [x0] L3 fun v4 L4=>za F (.fad 4) [v4] L4 fun v5 L5=>za F (.ld none) [v5] L5 fun v6 L6=>za F (.iad 1) [v6,x1] L6 fun v7 L7=>za F (.ld none) [v7] L7 fun v8 L8=>za F (.iad 12) [v3,v8] L8 fun v9 L9=>za F .nilchk [v9] L9 fun v10 L10=>za F (.fad 3) [v10] L10 fun v11 L11=>za F (.ld none) [v11] L11 fun v12 L12=>za F (.un .not) [v12] L12 fun v13 L13=>za F .nilchk [v9] L13 fun v14 L14=>za F (.fad 3) [v14] L14 fun v15 L15=>za F (.st 1) [v15,(.b true)] L15 fun _ L16=>za F .nilchk [x0] L16 fun v17 L17=>za F (.fad 1) [v17] L17 fun v18 L18=>za F .nilchk [x0] L18 fun v19 L19=>za F (.fad 4) [v19] L19 fun v20 L20=>za F (.ld none) [v20] L20 fun v21 L21=>za F (.iad 1) [v21,x1] L21 fun v22 L22=>za F (.ld none) [v22] L22 fun v23 L23=>zd F k_f196 [v18,v23] L23 fun v24 L24=>zl (some (.tup [v13,(.i .i64 0)])) Q L24
def D_f209_2 (F:TF)(Q:TQ)(x0 x1:AV)(L:Lg):Prop :=za F (.bin .lss) [x1,(.i .i64 0)] L fun v1 L1=>zi F v1 false .mv [x1] L1 fun v2 L2=>zi F v1 false .mv [x0] L2 fun v3 L3=>zi F v1 false .nilchk [v3] L3 fun v4 L4=>zi F v1 false (.fad 4) [v4] L4 fun v5 L5=>zi F v1 false (.ld none) [v5] L5 fun v6 L6=>zi F v1 false .lenSl [v6] L6 fun v7 L7=>zi F v1 false (.bin .geq) [v2,v7] L7 fun v8 L8=>za F .pick [v1,(.b true),v8] L8 fun v9 L9=>zn v9 (zl (some (.tup [(.b false),(.i .i64 4)])) Q L9) (D_f209_3 F Q x0 x1 L9)
def D_f209_1 (F:TF)(Q:TQ)(x0 x1:AV)(L:Lg):Prop :=D_f209_2 F Q x0 x1 L
structure H_f209 (F:TF):Prop where
 code:F k_f209=some c_f209
 f196:H_f196 F
theorem r_f209 {F:TF}(h:F k_f209=some c_f209){Q:TQ}{a0 a1:AV}{L:Lg}(e:D_f209_1 F Q a0 a1 L):zd F k_f209 [a0,a1] L Q :=
 cw h (fun l t L=>wS (fun l t L=>wS (fun l t L=>lf (D_f209_3 F Q (l 0) (l 1) L)) (lf (D_f209_2 F Q (l 0) (l 1) L))) (lf (D_f209_1 F Q (l 0) (l 1) L))) e
def D_f210_1 (F:TF)(Q:TQ)(x0 x1:AV)(L:Lg):Prop :=zd F k_f194 [x0,x1] L fun v1 L1=>za F (.un .not) [v1] L1 fun v2 L2=>zn v2 (zl (some (.tup [(.sl none 0 0 0),(.sl none 0 0 0),(.i .i64 4)])) Q L2) (zd F k_f195 [x0,x1] L2 fun v3 L3=>za F .nilchk [v3] L3 fun v4 L4=>za F (.fad 9) [v4] L4 fun v5 L5=>za F (.ld none) [v5] L5 fun v6 L6=>za F (.un .not) [v6] L6 fun v7 L7=>zn v7 (zl (some (.tup [(.sl none 0 0 0),(.sl none 0 0 0),(.i .i64 1)])) Q L7) (za F .nilchk [x0] L7 fun v8 L8=>za F (.fad 3) [v8] L8 fun v9 L9=>za F (.ld none) [v9] L9 fun v10 L10=>za F (.iad 1) [v10,x1] L10 fun v11 L11=>za F (.ld none) [v11] L11 fun v12 L12=>zd F k_f201 [x0,v12,(.i .i64 2),(.i .i64 2),(.sl none 0 0 0),(.sl none 0 0 0)] L12 fun v13 L13=>za F (.ext 0) [v13] L13 fun v14 L14=>za F (.ext 1) [v13] L14 fun v15 L15=>zl (some (.tup [v14,v15,(.i .i64 0)])) Q L15))
structure H_f210 (F:TF):Prop where
 code:F k_f210=some c_f210
 f194:H_f194 F
 f195:H_f195 F
 f201:H_f201 F
theorem r_f210 {F:TF}(h:F k_f210=some c_f210){Q:TQ}{a0 a1:AV}{L:Lg}(e:D_f210_1 F Q a0 a1 L):zd F k_f210 [a0,a1] L Q :=
 cw h (fun l t L=>lf (D_f210_1 F Q (l 0) (l 1) L)) e
def D_f211_1 (F:TF)(Q:TQ)(x0 x1:AV)(L:Lg):Prop :=zd F k_f194 [x0,x1] L fun v1 L1=>za F (.un .not) [v1] L1 fun v2 L2=>zn v2 (zl (some (.tup [(.p none),(.i .i64 4)])) Q L2) (zd F k_f195 [x0,x1] L2 fun v3 L3=>za F .nilchk [v3] L3 fun v4 L4=>za F (.fad 11) [v4] L4 fun v5 L5=>za F (.ld none) [v5] L5 fun v6 L6=>zl (some (.tup [v6,(.i .i64 0)])) Q L6)
structure H_f211 (F:TF):Prop where
 code:F k_f211=some c_f211
 f194:H_f194 F
 f195:H_f195 F
theorem r_f211 {F:TF}(h:F k_f211=some c_f211){Q:TQ}{a0 a1:AV}{L:Lg}(e:D_f211_1 F Q a0 a1 L):zd F k_f211 [a0,a1] L Q :=
 cw h (fun l t L=>lf (D_f211_1 F Q (l 0) (l 1) L)) e
def D_f212_3 (F:TF)(Q:TQ)(L:Lg):Prop :=zl (some (.b true)) Q L
def D_f212_9 (F:TF)(Q:TQ)(x0 x3 x5 x6 x7:AV)(L:Lg):Prop :=za F .nilchk [x0] L fun v1 L1=>za F (.fad 3) [v1] L1 fun v2 L2=>za F (.ld none) [v2] L2 fun v3 L3=>za F (.fad 1) [x3] L3 fun v4 L4=>za F (.ld none) [v4] L4 fun v5 L5=>zd F k_f202 [v3,v5] L5 fun v6 L6=>za F (.ext 0) [v6] L6 fun v7 L7=>za F (.ext 1) [v6] L7 fun v8 L8=>za F (.ext 2) [v6] L8 fun v9 L9=>za F (.bin .eql) [x5,v7] L9 fun v10 L10=>zi F v10 true .mv [x6] L10 fun v11 L11=>zi F v10 true .mv [v8] L11 fun v12 L12=>zi F v10 true (.call k_f203) [v11,v12] L12 fun v13 L13=>za F .pick [v10,v13,(.b false)] L13 fun v14 L14=>zi F v14 true .mv [x7] L14 fun v15 L15=>zi F v14 true .mv [v9] L15 fun v16 L16=>zi F v14 true (.bin .eql) [v15,v16] L16 fun v17 L17=>za F .pick [v14,v17,(.b false)] L17 fun v18 L18=>zl (some v18) Q L18
def D_f212_8 (F:TF)(Q:TQ)(x0 x3:AV)(L:Lg):Prop :=za F .nilchk [x0] L fun v1 L1=>za F (.fad 1) [v1] L1 fun v2 L2=>za F (.ld none) [v2] L2 fun v3 L3=>za F (.fad 1) [x3] L3 fun v4 L4=>za F (.ld none) [v4] L4 fun v5 L5=>zd F k_f143 [v3,v5] L5 fun v6 L6=>za F (.ext 0) [v6] L6 fun v7 L7=>za F (.ext 1) [v6] L7 fun v8 L8=>za F (.ext 2) [v6] L8 fun v9 L9=>D_f212_9 F Q x0 x3 v7 v8 v9 L9
def D_f212_13 (F:TF)(Q:TQ)(x0 x3 x11 x12 x13:AV)(L:Lg):Prop :=za F .nilchk [x0] L fun v1 L1=>za F (.fad 3) [v1] L1 fun v2 L2=>za F (.ld none) [v2] L2 fun v3 L3=>za F (.fad 1) [x3] L3 fun v4 L4=>za F (.ld none) [v4] L4 fun v5 L5=>za F (.fad 2) [x3] L5 fun v6 L6=>za F (.ld none) [v6] L6 fun v7 L7=>za F .nilchk [x0] L7 fun v8 L8=>za F (.fad 4) [v8] L8 fun v9 L9=>za F (.ld none) [v9] L9 fun v10 L10=>zd F k_f204 [v3,v5,v7,v10] L10 fun v11 L11=>za F (.ext 0) [v11] L11 fun v12 L12=>za F (.ext 1) [v11] L12 fun v13 L13=>za F (.ext 2) [v11] L13 fun v14 L14=>za F (.bin .eql) [x11,v12] L14 fun v15 L15=>zi F v15 true .mv [x12] L15 fun v16 L16=>zi F v15 true .mv [v13] L16 fun v17 L17=>zi F v15 true (.call k_f203) [v16,v17] L17 fun v18 L18=>za F .pick [v15,v18,(.b false)] L18 fun v19 L19=>zi F v19 true .mv [x13] L19 fun v20 L20=>zi F v19 true .mv [v14] L20 fun v21 L21=>zi F v19 true (.bin .eql) [v20,v21] L21 fun v22 L22=>za F .pick [v19,v22,(.b false)] L22 fun v23 L23=>zl (some v23) Q L23
def D_f212_12 (F:TF)(Q:TQ)(x0 x3:AV)(L:Lg):Prop :=za F .nilchk [x0] L fun v1 L1=>za F (.fad 1) [v1] L1 fun v2 L2=>za F (.ld none) [v2] L2 fun v3 L3=>za F (.fad 1) [x3] L3 fun v4 L4=>za F (.ld none) [v4] L4 fun v5 L5=>za F (.fad 2) [x3] L5 fun v6 L6=>za F (.ld none) [v6] L6 fun v7 L7=>za F .nilchk [x0] L7 fun v8 L8=>za F (.fad 4) [v8] L8 fun v9 L9=>za F (.ld none) [v9] L9 fun v10 L10=>zd F k_f144 [v3,v5,v7,v10] L10 fun v11 L11=>za F (.ext 0) [v11] L11 fun v12 L12=>za F (.ext 1) [v11] L12 fun v13 L13=>za F (.ext 2) [v11] L13 fun v14 L14=>D_f212_13 F Q x0 x3 v12 v13 v14 L14
def D_f212_16 (F:TF)(Q:TQ)(x0 x3:AV)(L:Lg):Prop :=za F .nilchk [x0] L fun v1 L1=>za F (.fad 1) [v1] L1 fun v2 L2=>za F (.ld none) [v2] L2 fun v3 L3=>za F (.fad 1) [x3] L3 fun v4 L4=>za F (.ld none) [v4] L4 fun v5 L5=>zd F k_f145 [v3,v5] L5 fun v6 L6=>za F (.ext 0) [v6] L6 fun v7 L7=>za F (.ext 1) [v6] L7 fun v8 L8=>za F .nilchk [x0] L8 fun v9 L9=>za F (.fad 3) [v9] L9 fun v10 L10=>za F (.ld none) [v10] L10 fun v11 L11=>za F (.fad 1) [x3] L11 fun v12 L12=>za F (.ld none) [v12] L12 fun v13 L13=>zd F k_f205 [v11,v13] L13 fun v14 L14=>za F (.ext 0) [v14] L14 fun v15 L15=>za F (.ext 1) [v14] L15 fun v16 L16=>za F (.bin .eql) [v7,v15] L16 fun v17 L17=>zi F v17 true .mv [v8] L17 fun v18 L18=>zi F v17 true .mv [v16] L18 fun v19 L19=>zi F v17 true (.bin .eql) [v18,v19] L19 fun v20 L20=>za F .pick [v17,v20,(.b false)] L20 fun v21 L21=>zl (some v21) Q L21
def D_f212_20 (F:TF)(Q:TQ)(x0 x3 x21 x22 x23:AV)(L:Lg):Prop :=za F .nilchk [x0] L fun v1 L1=>za F (.fad 3) [v1] L1 fun v2 L2=>za F (.ld none) [v2] L2 fun v3 L3=>za F (.fad 1) [x3] L3 fun v4 L4=>za F (.ld none) [v4] L4 fun v5 L5=>za F (.fad 2) [x3] L5 fun v6 L6=>za F (.ld none) [v6] L6 fun v7 L7=>zd F k_f206 [v3,v5,v7] L7 fun v8 L8=>za F (.ext 0) [v8] L8 fun v9 L9=>za F (.ext 1) [v8] L9 fun v10 L10=>za F (.ext 2) [v8] L10 fun v11 L11=>zd F k_f203 [x21,v9] L11 fun v12 L12=>zi F v12 true .mv [x22] L12 fun v13 L13=>zi F v12 true .mv [v10] L13 fun v14 L14=>zi F v12 true (.call k_f207) [v13,v14] L14 fun v15 L15=>za F .pick [v12,v15,(.b false)] L15 fun v16 L16=>zi F v16 true .mv [x23] L16 fun v17 L17=>zi F v16 true .mv [v11] L17 fun v18 L18=>zi F v16 true (.bin .eql) [v17,v18] L18 fun v19 L19=>za F .pick [v16,v19,(.b false)] L19 fun v20 L20=>zl (some v20) Q L20
def D_f212_19 (F:TF)(Q:TQ)(x0 x3:AV)(L:Lg):Prop :=za F .nilchk [x0] L fun v1 L1=>za F (.fad 1) [v1] L1 fun v2 L2=>za F (.ld none) [v2] L2 fun v3 L3=>za F (.fad 1) [x3] L3 fun v4 L4=>za F (.ld none) [v4] L4 fun v5 L5=>za F (.fad 2) [x3] L5 fun v6 L6=>za F (.ld none) [v6] L6 fun v7 L7=>zd F k_f148 [v3,v5,v7] L7 fun v8 L8=>za F (.ext 0) [v8] L8 fun v9 L9=>za F (.ext 1) [v8] L9 fun v10 L10=>za F (.ext 2) [v8] L10 fun v11 L11=>D_f212_20 F Q x0 x3 v9 v10 v11 L11
def D_f212_24 (F:TF)(Q:TQ)(x0 x3 x27 x28 x29:AV)(L:Lg):Prop :=za F .nilchk [x0] L fun v1 L1=>za F (.fad 3) [v1] L1 fun v2 L2=>za F (.ld none) [v2] L2 fun v3 L3=>za F (.fad 1) [x3] L3 fun v4 L4=>za F (.ld none) [v4] L4 fun v5 L5=>za F (.fad 2) [x3] L5 fun v6 L6=>za F (.ld none) [v6] L6 fun v7 L7=>zd F k_f208 [v3,v5,v7] L7 fun v8 L8=>za F (.ext 0) [v8] L8 fun v9 L9=>za F (.ext 1) [v8] L9 fun v10 L10=>za F (.ext 2) [v8] L10 fun v11 L11=>za F (.bin .eql) [x27,v9] L11 fun v12 L12=>zi F v12 true .mv [x28] L12 fun v13 L13=>zi F v12 true .mv [v10] L13 fun v14 L14=>zi F v12 true (.call k_f207) [v13,v14] L14 fun v15 L15=>za F .pick [v12,v15,(.b false)] L15 fun v16 L16=>zi F v16 true .mv [x29] L16 fun v17 L17=>zi F v16 true .mv [v11] L17 fun v18 L18=>zi F v16 true (.bin .eql) [v17,v18] L18 fun v19 L19=>za F .pick [v16,v19,(.b false)] L19 fun v20 L20=>zl (some v20) Q L20
def D_f212_23 (F:TF)(Q:TQ)(x0 x3:AV)(L:Lg):Prop :=za F .nilchk [x0] L fun v1 L1=>za F (.fad 1) [v1] L1 fun v2 L2=>za F (.ld none) [v2] L2 fun v3 L3=>za F (.fad 1) [x3] L3 fun v4 L4=>za F (.ld none) [v4] L4 fun v5 L5=>za F (.fad 2) [x3] L5 fun v6 L6=>za F (.ld none) [v6] L6 fun v7 L7=>zd F k_f146 [v3,v5,v7] L7 fun v8 L8=>za F (.ext 0) [v8] L8 fun v9 L9=>za F (.ext 1) [v8] L9 fun v10 L10=>za F (.ext 2) [v8] L10 fun v11 L11=>D_f212_24 F Q x0 x3 v9 v10 v11 L11
def D_f212_27 (F:TF)(Q:TQ)(x0 x3:AV)(L:Lg):Prop :=za F .nilchk [x0] L fun v1 L1=>za F (.fad 1) [v1] L1 fun v2 L2=>za F (.ld none) [v2] L2 fun v3 L3=>za F (.fad 1) [x3] L3 fun v4 L4=>za F (.ld none) [v4] L4 fun v5 L5=>zd F k_f151 [v3,v5] L5 fun v6 L6=>za F (.ext 0) [v6] L6 fun v7 L7=>za F (.ext 1) [v6] L7 fun v8 L8=>za F .nilchk [x0] L8 fun v9 L9=>za F (.fad 3) [v9] L9 fun v10 L10=>za F (.ld none) [v10] L10 fun v11 L11=>za F (.fad 1) [x3] L11 fun v12 L12=>za F (.ld none) [v12] L12 fun v13 L13=>zd F k_f209 [v11,v13] L13 fun v14 L14=>za F (.ext 0) [v14] L14 fun v15 L15=>za F (.ext 1) [v14] L15 fun v16 L16=>za F (.eq false .bool) [v7,v15] L16 fun v17 L17=>zi F v17 true .mv [v8] L17 fun v18 L18=>zi F v17 true .mv [v16] L18 fun v19 L19=>zi F v17 true (.bin .eql) [v18,v19] L19 fun v20 L20=>za F .pick [v17,v20,(.b false)] L20 fun v21 L21=>zl (some v21) Q L21
def D_f212_32 (F:TF)(Q:TQ)(L:Lg):Prop :=zl (some (.b false)) Q L
def D_f212_38 (F:TF)(Q:TQ)(k1:TK)(l:Env)(L:Lg):Prop :=za F (.bin .add) [(l 37),(.i .i64 1)] L fun v1 L1=>k1 (Env.put l 37 v1) L1
def D_f212_45 (F:TF)(Q:TQ)(k1:TK)(l:Env)(L:Lg):Prop :=za F .nilchk [(l 0)] L fun v1 L1=>za F (.fad 3) [v1] L1 fun v2 L2=>za F (.ld none) [v2] L2 fun v3 L3=>za F (.fad 4) [(l 40)] L3 fun v4 L4=>za F (.ld none) [v4] L4 fun v5 L5=>zd F k_f210 [v3,v5] L5 fun v6 L6=>za F (.ext 0) [v6] L6 fun v7 L7=>za F (.ext 1) [v6] L7 fun v8 L8=>za F (.ext 2) [v6] L8 fun v9 L9=>zd F k_f203 [(l 42),v7] L9 fun v10 L10=>za F (.un .not) [v10] L10 fun v11 L11=>zi F v11 false .mv [(l 43)] L11 fun v12 L12=>zi F v11 false .mv [v8] L12 fun v13 L13=>zi F v11 false (.call k_f207) [v12,v13] L13 fun v14 L14=>zi F v11 false (.un .not) [v14] L14 fun v15 L15=>za F .pick [v11,(.b true),v15] L15 fun v16 L16=>zi F v16 false .mv [(l 44)] L16 fun v17 L17=>zi F v16 false .mv [v9] L17 fun v18 L18=>zi F v16 false (.bin .neq) [v17,v18] L18 fun v19 L19=>za F .pick [v16,(.b true),v19] L19 fun v20 L20=>zn v20 (zl (some (.b false)) Q L20) (D_f212_38 F Q k1 (Env.put (Env.put (Env.put l 45 v7) 46 v8) 47 v9) L20)
def D_f212_44 (F:TF)(Q:TQ)(k1:TK)(l:Env)(L:Lg):Prop :=za F .nilchk [(l 0)] L fun v1 L1=>za F (.fad 1) [v1] L1 fun v2 L2=>za F (.ld none) [v2] L2 fun v3 L3=>za F (.fad 4) [(l 38)] L3 fun v4 L4=>za F (.ld none) [v4] L4 fun v5 L5=>zd F k_f160 [v3,v5] L5 fun v6 L6=>za F (.ext 0) [v6] L6 fun v7 L7=>za F (.ext 1) [v6] L7 fun v8 L8=>za F (.ext 2) [v6] L8 fun v9 L9=>D_f212_45 F Q k1 (Env.put (Env.put (Env.put l 42 v7) 43 v8) 44 v9) L9
def D_f212_43 (F:TF)(Q:TQ)(k1:TK)(l:Env)(L:Lg):Prop :=za F (.un .not) [(l 39)] L fun v1 L1=>zn v1 (zl (some (.b true)) Q L1) (D_f212_44 F Q k1 l L1)
def D_f212_42 (F:TF)(Q:TQ)(k1:TK)(l:Env)(L:Lg):Prop :=za F (.eq true .bool) [(l 39),(l 41)] L fun v1 L1=>zi F v1 false (.fad 0) [(l 38)] L1 fun v2 L2=>zi F v1 false (.ld none) [v2] L2 fun v3 L3=>zi F v1 false (.fad 0) [(l 40)] L3 fun v4 L4=>zi F v1 false (.ld none) [v4] L4 fun v5 L5=>zi F v1 false (.bin .neq) [v3,v5] L5 fun v6 L6=>za F .pick [v1,(.b true),v6] L6 fun v7 L7=>zi F v7 false (.fad 1) [(l 38)] L7 fun v8 L8=>zi F v7 false (.ld none) [v8] L8 fun v9 L9=>zi F v7 false (.fad 1) [(l 40)] L9 fun v10 L10=>zi F v7 false (.ld none) [v10] L10 fun v11 L11=>zi F v7 false (.bin .neq) [v9,v11] L11 fun v12 L12=>za F .pick [v7,(.b true),v12] L12 fun v13 L13=>zi F v13 false (.fad 4) [(l 38)] L13 fun v14 L14=>zi F v13 false (.ld none) [v14] L14 fun v15 L15=>zi F v13 false (.fad 4) [(l 40)] L15 fun v16 L16=>zi F v13 false (.ld none) [v16] L16 fun v17 L17=>zi F v13 false (.bin .neq) [v15,v17] L17 fun v18 L18=>za F .pick [v13,(.b true),v18] L18 fun v19 L19=>zi F v19 false (.fad 2) [(l 38)] L19 fun v20 L20=>zi F v19 false (.ld none) [v20] L20 fun v21 L21=>zi F v19 false (.fad 2) [(l 40)] L21 fun v22 L22=>zi F v19 false (.ld none) [v22] L22 fun v23 L23=>zi F v19 false (.bin .neq) [v21,v23] L23 fun v24 L24=>za F .pick [v19,(.b true),v24] L24 fun v25 L25=>zn v25 (zl (some (.b false)) Q L25) (D_f212_43 F Q k1 l L25)
def D_f212_41 (F:TF)(Q:TQ)(k1:TK)(l:Env)(L:Lg):Prop :=za F .nilchk [(l 0)] L fun v1 L1=>za F (.fad 2) [v1] L1 fun v2 L2=>za F (.ld none) [v2] L2 fun v3 L3=>za F .nilchk [(l 0)] L3 fun v4 L4=>za F (.fad 4) [v4] L4 fun v5 L5=>za F (.ld none) [v5] L5 fun v6 L6=>zd F k_f87 [v3,v6] L6 fun v7 L7=>za F (.ext 0) [v7] L7 fun v8 L8=>za F (.ext 1) [v7] L8 fun v9 L9=>za F (.alloc [.i .i64 0,.i .i64 0,.i .i64 0,.i .i64 0,.i .i64 0,.sl none 0 0 0,.b false]) [] L9 fun v10 L10=>za F (.st 7) [v10,v8] L10 fun _ L11=>D_f212_42 F Q k1 (Env.put (Env.put l 40 v10) 41 v9) L11
def D_f212_40 (F:TF)(Q:TQ)(k1:TK)(l:Env)(L:Lg):Prop :=za F .nilchk [(l 0)] L fun v1 L1=>za F (.fad 0) [v1] L1 fun v2 L2=>za F (.ld none) [v2] L2 fun v3 L3=>za F .nilchk [(l 0)] L3 fun v4 L4=>za F (.fad 4) [v4] L4 fun v5 L5=>za F (.ld none) [v5] L5 fun v6 L6=>zd F k_f48 [v3,v6] L6 fun v7 L7=>za F (.ext 0) [v7] L7 fun v8 L8=>za F (.ext 1) [v7] L8 fun v9 L9=>za F (.alloc [.i .i64 0,.i .i64 0,.i .i64 0,.i .i64 0,.i .i64 0,.sl none 0 0 0,.b false]) [] L9 fun v10 L10=>za F (.st 7) [v10,v8] L10 fun _ L11=>D_f212_41 F Q k1 (Env.put (Env.put l 38 v10) 39 v9) L11
def D_f212_36 (F:TF)(Q:TQ)(k1:TK)(l:Env)(L:Lg):Prop :=za F .nilchk [(l 0)] L fun v1 L1=>za F (.fad 2) [v1] L1 fun v2 L2=>za F (.ld none) [v2] L2 fun v3 L3=>za F .nilchk [v3] L3 fun v4 L4=>za F (.fad 3) [v4] L4 fun v5 L5=>za F (.ld none) [v5] L5 fun v6 L6=>za F .lenSl [v6] L6 fun v7 L7=>za F (.bin .leq) [(l 37),v7] L7 fun v8 L8=>zn v8 (D_f212_40 F Q k1 l L8) (D_f212_32 F Q L8)
def D_f212_35 (F:TF)(Q:TQ)(l:Env)(L:Lg):Prop :=xC (fun l t L k1=>D_f212_36 F Q k1 l L) l L
def D_f212_33 (F:TF)(Q:TQ)(l:Env)(L:Lg):Prop :=D_f212_35 F Q (Env.put l 37 (.i .i64 0)) L
def D_f212_30 (F:TF)(Q:TQ)(l:Env)(L:Lg):Prop :=za F .nilchk [(l 0)] L fun v1 L1=>za F (.fad 4) [v1] L1 fun v2 L2=>za F (.ld none) [v2] L2 fun v3 L3=>za F (.fad 2) [(l 3)] L3 fun v4 L4=>za F (.ld none) [v4] L4 fun v5 L5=>za F .max [v5,(.i .i64 0)] L5 fun v6 L6=>zd F k_f65 [v3,v6] L6 fun v7 L7=>za F .nilchk [(l 0)] L7 fun v8 L8=>za F (.fad 4) [v8] L8 fun v9 L9=>za F (.st 1) [v9,v7] L9 fun _ L10=>D_f212_33 F Q l L10
def D_f212_49 (F:TF)(Q:TQ)(x0 x3 x48 x49:AV)(L:Lg):Prop :=za F .nilchk [x0] L fun v1 L1=>za F (.fad 3) [v1] L1 fun v2 L2=>za F (.ld none) [v2] L2 fun v3 L3=>za F (.fad 1) [x3] L3 fun v4 L4=>za F (.ld none) [v4] L4 fun v5 L5=>zd F k_f211 [v3,v5] L5 fun v6 L6=>za F (.ext 0) [v6] L6 fun v7 L7=>za F (.ext 1) [v6] L7 fun v8 L8=>za F (.fad 2) [x3] L8 fun v9 L9=>za F (.ld none) [v9] L9 fun v10 L10=>za F (.build [.i .i64 0,.i .i64 0,.i .i64 0] [(0,1)]) [v10] L10 fun v11 L11=>za F (.alloc [.i .i64 0,.i .i64 0,.i .i64 0]) [] L11 fun v12 L12=>za F (.st 3) [v12,v11] L12 fun _ L13=>za F (.bin .eql) [x49,v8] L13 fun v14 L14=>zi F v14 true .mv [x48] L14 fun v15 L15=>zi F v14 true (.eq false .ptr) [v15,(.p none)] L15 fun v16 L16=>zi F v14 true .mv [v7] L16 fun v17 L17=>zi F v14 true (.eq false .ptr) [v17,(.p none)] L17 fun v18 L18=>zi F v14 true (.eq false .bool) [v16,v18] L18 fun v19 L19=>za F .pick [v14,v19,(.b false)] L19 fun v20 L20=>zi F v20 true .mv [x48] L20 fun v21 L21=>zi F v20 true (.ld (some 3)) [v12] L21 fun v22 L22=>zi F v20 true (.call k_f98) [v21,v22,(.b false)] L22 fun v23 L23=>zi F v20 true .mv [v7] L23 fun v24 L24=>zi F v20 true (.ld (some 3)) [v12] L24 fun v25 L25=>zi F v20 true (.call k_f100) [v24,v25,(.b false)] L25 fun v26 L26=>zi F v20 true (.bin .eql) [v23,v26] L26 fun v27 L27=>za F .pick [v20,v27,(.b false)] L27 fun v28 L28=>(Y7 v20 true (z8 (.ld (some 3)) [v12] L24 L13)∧True)∧(zl (some v28) Q L28)
def D_f212_48 (F:TF)(Q:TQ)(x0 x3:AV)(L:Lg):Prop :=za F .nilchk [x0] L fun v1 L1=>za F (.fad 1) [v1] L1 fun v2 L2=>za F (.ld none) [v2] L2 fun v3 L3=>za F (.fad 1) [x3] L3 fun v4 L4=>za F (.ld none) [v4] L4 fun v5 L5=>zd F k_f157 [v3,v5] L5 fun v6 L6=>za F (.ext 0) [v6] L6 fun v7 L7=>za F (.ext 1) [v6] L7 fun v8 L8=>D_f212_49 F Q x0 x3 v7 v8 L8
def D_f212_53 (F:TF)(Q:TQ)(x0 x3 x53 x54 x55:AV)(L:Lg):Prop :=za F .nilchk [x0] L fun v1 L1=>za F (.fad 3) [v1] L1 fun v2 L2=>za F (.ld none) [v2] L2 fun v3 L3=>za F (.fad 1) [x3] L3 fun v4 L4=>za F (.ld none) [v4] L4 fun v5 L5=>zd F k_f210 [v3,v5] L5 fun v6 L6=>za F (.ext 0) [v6] L6 fun v7 L7=>za F (.ext 1) [v6] L7 fun v8 L8=>za F (.ext 2) [v6] L8 fun v9 L9=>zd F k_f203 [x53,v7] L9 fun v10 L10=>zi F v10 true .mv [x54] L10 fun v11 L11=>zi F v10 true .mv [v8] L11 fun v12 L12=>zi F v10 true (.call k_f207) [v11,v12] L12 fun v13 L13=>za F .pick [v10,v13,(.b false)] L13 fun v14 L14=>zi F v14 true .mv [x55] L14 fun v15 L15=>zi F v14 true .mv [v9] L15 fun v16 L16=>zi F v14 true (.bin .eql) [v15,v16] L16 fun v17 L17=>za F .pick [v14,v17,(.b false)] L17 fun v18 L18=>zl (some v18) Q L18
def D_f212_52 (F:TF)(Q:TQ)(x0 x3:AV)(L:Lg):Prop :=za F .nilchk [x0] L fun v1 L1=>za F (.fad 1) [v1] L1 fun v2 L2=>za F (.ld none) [v2] L2 fun v3 L3=>za F (.fad 1) [x3] L3 fun v4 L4=>za F (.ld none) [v4] L4 fun v5 L5=>zd F k_f160 [v3,v5] L5 fun v6 L6=>za F (.ext 0) [v6] L6 fun v7 L7=>za F (.ext 1) [v6] L7 fun v8 L8=>za F (.ext 2) [v6] L8 fun v9 L9=>D_f212_53 F Q x0 x3 v7 v8 v9 L9
def D_f212_54 (F:TF)(Q:TQ)(L:Lg):Prop :=D_f212_3 F Q L
def D_f212_51 (F:TF)(Q:TQ)(x0 x3 t452:AV)(L:Lg):Prop :=zn t452 (D_f212_52 F Q x0 x3 L) (D_f212_54 F Q L)
def D_f212_50 (F:TF)(Q:TQ)(x0 x3 x60:AV)(L:Lg):Prop :=za F (.bin .eql) [x60,(.i .i64 9)] L fun v1 L1=>D_f212_51 F Q x0 x3 v1 L1
def D_f212_47 (F:TF)(Q:TQ)(x0 x3 x60 t408:AV)(L:Lg):Prop :=zn t408 (D_f212_48 F Q x0 x3 L) (D_f212_50 F Q x0 x3 x60 L)
def D_f212_46 (F:TF)(Q:TQ)(x0 x3 x60:AV)(L:Lg):Prop :=za F (.bin .eql) [x60,(.i .i64 8)] L fun v1 L1=>D_f212_47 F Q x0 x3 x60 v1 L1
def D_f212_29 (F:TF)(Q:TQ)(l:Env)(t289:AV)(L:Lg):Prop :=zn t289 (D_f212_30 F Q l L) (D_f212_46 F Q (l 0) (l 3) (l 60) L)
def D_f212_28 (F:TF)(Q:TQ)(l:Env)(L:Lg):Prop :=za F (.bin .eql) [(l 60),(.i .i64 7)] L fun v1 L1=>D_f212_29 F Q l v1 L1
def D_f212_26 (F:TF)(Q:TQ)(l:Env)(t259:AV)(L:Lg):Prop :=zn t259 (D_f212_27 F Q (l 0) (l 3) L) (D_f212_28 F Q l L)
def D_f212_25 (F:TF)(Q:TQ)(l:Env)(L:Lg):Prop :=za F (.bin .eql) [(l 60),(.i .i64 6)] L fun v1 L1=>D_f212_26 F Q l v1 L1
def D_f212_22 (F:TF)(Q:TQ)(l:Env)(t218:AV)(L:Lg):Prop :=zn t218 (D_f212_23 F Q (l 0) (l 3) L) (D_f212_25 F Q l L)
def D_f212_21 (F:TF)(Q:TQ)(l:Env)(L:Lg):Prop :=za F (.bin .eql) [(l 60),(.i .i64 5)] L fun v1 L1=>D_f212_22 F Q l v1 L1
def D_f212_18 (F:TF)(Q:TQ)(l:Env)(t177:AV)(L:Lg):Prop :=zn t177 (D_f212_19 F Q (l 0) (l 3) L) (D_f212_21 F Q l L)
def D_f212_17 (F:TF)(Q:TQ)(l:Env)(L:Lg):Prop :=za F (.bin .eql) [(l 60),(.i .i64 4)] L fun v1 L1=>D_f212_18 F Q l v1 L1
def D_f212_15 (F:TF)(Q:TQ)(l:Env)(t147:AV)(L:Lg):Prop :=zn t147 (D_f212_16 F Q (l 0) (l 3) L) (D_f212_17 F Q l L)
def D_f212_14 (F:TF)(Q:TQ)(l:Env)(L:Lg):Prop :=za F (.bin .eql) [(l 60),(.i .i64 3)] L fun v1 L1=>D_f212_15 F Q l v1 L1
def D_f212_11 (F:TF)(Q:TQ)(l:Env)(t98:AV)(L:Lg):Prop :=zn t98 (D_f212_12 F Q (l 0) (l 3) L) (D_f212_14 F Q l L)
def D_f212_10 (F:TF)(Q:TQ)(l:Env)(L:Lg):Prop :=za F (.bin .eql) [(l 60),(.i .i64 2)] L fun v1 L1=>D_f212_11 F Q l v1 L1
def D_f212_7 (F:TF)(Q:TQ)(l:Env)(t61:AV)(L:Lg):Prop :=zn t61 (D_f212_8 F Q (l 0) (l 3) L) (D_f212_10 F Q l L)
def D_f212_6 (F:TF)(Q:TQ)(l:Env)(L:Lg):Prop :=za F (.bin .eql) [(l 60),(.i .i64 1)] L fun v1 L1=>D_f212_7 F Q l v1 L1
def D_f212_4 (F:TF)(Q:TQ)(l:Env)(L:Lg):Prop :=za F (.fad 0) [(l 3)] L fun v1 L1=>za F (.ld none) [v1] L1 fun v2 L2=>D_f212_6 F Q (Env.put l 60 v2) L2
def D_f212_1 (F:TF)(Q:TQ)(l:Env)(L:Lg):Prop :=za F .box [(l 1)] L fun v1 L1=>D_f212_4 F Q (Env.put (Env.put l 3 v1) 4 (.b false)) L1
structure H_f212 (F:TF):Prop where
 code:F k_f212=some c_f212
 f143:H_f143 F
 f202:H_f202 F
 f203:H_f203 F
 f144:H_f144 F
 f204:H_f204 F
 f145:H_f145 F
 f205:H_f205 F
 f148:H_f148 F
 f206:H_f206 F
 f207:H_f207 F
 f146:H_f146 F
 f208:H_f208 F
 f151:H_f151 F
 f209:H_f209 F
 f65:H_f65 F
 f48:H_f48 F
 f87:H_f87 F
 f160:H_f160 F
 f210:H_f210 F
 f157:H_f157 F
 f211:H_f211 F
 f98:H_f98 F
 f100:H_f100 F
theorem r_f212 {F:TF}(h:F k_f212=some c_f212){Q:TQ}{a0 a1:AV}{L:Lg}(e:D_f212_1 F Q (zJ [a0,a1] 0) L):zd F k_f212 [a0,a1] L Q :=
 cw h (fun l t L=>wS (fun l t L=>wS (fun l t L=>lf (D_f212_3 F Q L)) (wS (fun l t L=>wB (wS (fun l t L=>wC (wS (fun l t L=>lf (D_f212_9 F Q (l 0) (l 3) (l 5) (l 6) (l 7) L)) (lf (D_f212_8 F Q (l 0) (l 3) L))) (wS (fun l t L=>wC (wS (fun l t L=>lf (D_f212_13 F Q (l 0) (l 3) (l 11) (l 12) (l 13) L)) (lf (D_f212_12 F Q (l 0) (l 3) L))) (wS (fun l t L=>wC (lf (D_f212_16 F Q (l 0) (l 3) L)) (wS (fun l t L=>wC (wS (fun l t L=>lf (D_f212_20 F Q (l 0) (l 3) (l 21) (l 22) (l 23) L)) (lf (D_f212_19 F Q (l 0) (l 3) L))) (wS (fun l t L=>wC (wS (fun l t L=>lf (D_f212_24 F Q (l 0) (l 3) (l 27) (l 28) (l 29) L)) (lf (D_f212_23 F Q (l 0) (l 3) L))) (wS (fun l t L=>wC (lf (D_f212_27 F Q (l 0) (l 3) L)) (wS (fun l t L=>wC (wS (fun l t L=>wS (fun l t L=>lf (D_f212_32 F Q L)) (wS (fun l t L=>wB (wL (fun l t L k1=>wS (fun l t L=>wS (fun l t L=>lf (D_f212_38 F Q k1 l L)) (wB (wS (fun l t L=>wS (fun l t L=>wS (fun l t L=>wS (fun l t L=>wS (fun l t L=>lf (D_f212_45 F Q k1 l L)) (lf (D_f212_44 F Q k1 l L))) (lf (D_f212_43 F Q k1 l L))) (lf (D_f212_42 F Q k1 l L))) (lf (D_f212_41 F Q k1 l L))) (lf (D_f212_40 F Q k1 l L))))) (lf (D_f212_36 F Q k1 l L))) (lf (D_f212_35 F Q l L)))) (lf (D_f212_33 F Q l L)))) (lf (D_f212_30 F Q l L))) (wS (fun l t L=>wC (wS (fun l t L=>lf (D_f212_49 F Q (l 0) (l 3) (l 48) (l 49) L)) (lf (D_f212_48 F Q (l 0) (l 3) L))) (wS (fun l t L=>wC (wS (fun l t L=>lf (D_f212_53 F Q (l 0) (l 3) (l 53) (l 54) (l 55) L)) (lf (D_f212_52 F Q (l 0) (l 3) L))) (lf (D_f212_54 F Q L)) (lf (D_f212_51 F Q (l 0) (l 3) (t 452) L))) (lf (D_f212_50 F Q (l 0) (l 3) (l 60) L))) (lf (D_f212_47 F Q (l 0) (l 3) (l 60) (t 408) L))) (lf (D_f212_46 F Q (l 0) (l 3) (l 60) L))) (lf (D_f212_29 F Q l (t 289) L))) (lf (D_f212_28 F Q l L))) (lf (D_f212_26 F Q l (t 259) L))) (lf (D_f212_25 F Q l L))) (lf (D_f212_22 F Q l (t 218) L))) (lf (D_f212_21 F Q l L))) (lf (D_f212_18 F Q l (t 177) L))) (lf (D_f212_17 F Q l L))) (lf (D_f212_15 F Q l (t 147) L))) (lf (D_f212_14 F Q l L))) (lf (D_f212_11 F Q l (t 98) L))) (lf (D_f212_10 F Q l L))) (lf (D_f212_7 F Q l (t 61) L))) (lf (D_f212_6 F Q l L)))) (lf (D_f212_4 F Q l L)))) (lf (D_f212_1 F Q l L))) e
def D_f213_1 (F:TF)(Q:TQ)(x0:AV)(L:Lg):Prop :=za F .nilchk [x0] L fun v1 L1=>za F (.fad 3) [v1] L1 fun v2 L2=>za F (.ld none) [v2] L2 fun v3 L3=>za F .lenSl [v3] L3 fun v4 L4=>zl (some v4) Q L4
structure H_f213 (F:TF):Prop where
 code:F k_f213=some c_f213
theorem r_f213 {F:TF}(h:F k_f213=some c_f213){Q:TQ}{a0:AV}{L:Lg}(e:D_f213_1 F Q a0 L):zd F k_f213 [a0] L Q :=
 cw h (fun l t L=>lf (D_f213_1 F Q (l 0) L)) e
def D_f214_1 (F:TF)(Q:TQ)(x0 x1:AV)(L:Lg):Prop :=zd F k_f194 [x0,x1] L fun v1 L1=>za F (.un .not) [v1] L1 fun v2 L2=>zn v2 (zl (some (.tup [(.i .i64 0),(.i .i64 0),(.i .i64 4)])) Q L2) (zd F k_f195 [x0,x1] L2 fun v3 L3=>za F .nilchk [v3] L3 fun v4 L4=>za F (.fad 5) [v4] L4 fun v5 L5=>za F (.ld none) [v5] L5 fun v6 L6=>zd F k_f195 [x0,x1] L6 fun v7 L7=>za F .nilchk [v7] L7 fun v8 L8=>za F (.fad 6) [v8] L8 fun v9 L9=>za F (.ld none) [v9] L9 fun v10 L10=>(z8 (.ld none) [v5] L5 L7∧True)∧(zl (some (.tup [v6,v10,(.i .i64 0)])) Q L10))
structure H_f214 (F:TF):Prop where
 code:F k_f214=some c_f214
 f194:H_f194 F
 f195:H_f195 F
theorem r_f214 {F:TF}(h:F k_f214=some c_f214){Q:TQ}{a0 a1:AV}{L:Lg}(e:D_f214_1 F Q a0 a1 L):zd F k_f214 [a0,a1] L Q :=
 cw h (fun l t L=>lf (D_f214_1 F Q (l 0) (l 1) L)) e
def D_f215_1 (F:TF)(Q:TQ)(x0 x1:AV)(L:Lg):Prop :=zd F k_f194 [x0,x1] L fun v1 L1=>za F (.un .not) [v1] L1 fun v2 L2=>zn v2 (zl (some (.tup [(.i .i64 0),(.b false),(.i .i64 4)])) Q L2) (zd F k_f195 [x0,x1] L2 fun v3 L3=>za F .nilchk [v3] L3 fun v4 L4=>za F (.fad 7) [v4] L4 fun v5 L5=>za F (.ld none) [v5] L5 fun v6 L6=>zd F k_f195 [x0,x1] L6 fun v7 L7=>za F .nilchk [v7] L7 fun v8 L8=>za F (.fad 8) [v8] L8 fun v9 L9=>za F (.ld none) [v9] L9 fun v10 L10=>(z8 (.ld none) [v5] L5 L7∧True)∧(zl (some (.tup [v6,v10,(.i .i64 0)])) Q L10))
structure H_f215 (F:TF):Prop where
 code:F k_f215=some c_f215
 f194:H_f194 F
 f195:H_f195 F
theorem r_f215 {F:TF}(h:F k_f215=some c_f215){Q:TQ}{a0 a1:AV}{L:Lg}(e:D_f215_1 F Q a0 a1 L):zd F k_f215 [a0,a1] L Q :=
 cw h (fun l t L=>lf (D_f215_1 F Q (l 0) (l 1) L)) e
def D_f216_3 (F:TF)(Q:TQ)(x0:AV)(L:Lg):Prop :=za F .nilchk [x0] L fun v1 L1=>za F (.fad 1) [v1] L1 fun v2 L2=>za F (.ld none) [v2] L2 fun v3 L3=>zd F k_f155 [v3] L3 fun v4 L4=>za F .nilchk [x0] L4 fun v5 L5=>za F (.fad 3) [v5] L5 fun v6 L6=>za F (.ld none) [v6] L6 fun v7 L7=>zd F k_f213 [v7] L7 fun v8 L8=>za F (.bin .eql) [v4,v8] L8 fun v9 L9=>(z8 (.ld none) [v6] L6 L∧True)∧(zl (some v9) Q L9)
def D_f216_9 (F:TF)(Q:TQ)(k1:TK)(l:Env)(L:Lg):Prop :=za F (.bin .add) [(l 3),(.i .i64 1)] L fun v1 L1=>k1 (Env.put l 3 v1) L1
def D_f216_19 (F:TF)(Q:TQ)(k1:TK)(l:Env)(t153:AV)(L:Lg):Prop :=zn t153 (zl (some (.b false)) Q L) (D_f216_9 F Q k1 l L)
def D_f216_18 (F:TF)(Q:TQ)(k1:TK)(l:Env)(L:Lg):Prop :=za F (.bin .neq) [(l 4),(l 8)] L fun v1 L1=>zi F v1 false .mv [(l 6)] L1 fun v2 L2=>zi F v1 false .mv [(l 9)] L2 fun v3 L3=>zi F v1 false (.bin .neq) [v2,v3] L3 fun v4 L4=>za F .pick [v1,(.b true),v4] L4 fun v5 L5=>zi F v5 false .mv [(l 5)] L5 fun v6 L6=>zi F v5 false .mv [(l 10)] L6 fun v7 L7=>zi F v5 false (.bin .neq) [v6,v7] L7 fun v8 L8=>za F .pick [v5,(.b true),v8] L8 fun v9 L9=>zi F v9 false .mv [(l 7)] L9 fun v10 L10=>zi F v9 false .mv [(l 10)] L10 fun v11 L11=>zi F v9 false (.bin .neq) [v10,v11] L11 fun v12 L12=>za F .pick [v9,(.b true),v12] L12 fun v13 L13=>zi F v13 false .mv [(l 11)] L13 fun v14 L14=>zi F v13 false .mv [(l 14)] L14 fun v15 L15=>zi F v13 false (.bin .neq) [v14,v15] L15 fun v16 L16=>za F .pick [v13,(.b true),v16] L16 fun v17 L17=>zi F v17 false .mv [(l 12)] L17 fun v18 L18=>zi F v17 false .mv [(l 15)] L18 fun v19 L19=>zi F v17 false (.eq true .bool) [v18,v19] L19 fun v20 L20=>za F .pick [v17,(.b true),v20] L20 fun v21 L21=>zi F v21 false .mv [(l 13)] L21 fun v22 L22=>zi F v21 false .mv [(l 16)] L22 fun v23 L23=>zi F v21 false (.bin .neq) [v22,v23] L23 fun v24 L24=>za F .pick [v21,(.b true),v24] L24 fun v25 L25=>zi F v25 false .mv [(l 17)] L25 fun v26 L26=>zi F v25 false (.eq false .ptr) [v26,(.p none)] L26 fun v27 L27=>zi F v25 false .mv [(l 19)] L27 fun v28 L28=>zi F v25 false (.eq false .ptr) [v28,(.p none)] L28 fun v29 L29=>zi F v25 false (.eq true .bool) [v27,v29] L29 fun v30 L30=>za F .pick [v25,(.b true),v30] L30 fun v31 L31=>zi F v31 false .mv [(l 18)] L31 fun v32 L32=>zi F v31 false .mv [(l 20)] L32 fun v33 L33=>zi F v31 false (.bin .neq) [v32,v33] L33 fun v34 L34=>za F .pick [v31,(.b true),v34] L34 fun v35 L35=>zi F v35 false .mv [(l 19)] L35 fun v36 L36=>zi F v35 false (.eq true .ptr) [v36,(.p none)] L36 fun v37 L37=>zi F v35 false .mv [v37] L37 fun v38 L38=>zi F v38 true .mv [(l 17)] L38 fun v39 L39=>zi F v38 true (.call k_f158) [v39] L39 fun v40 L40=>zi F v38 true .mv [(l 19)] L40 fun v41 L41=>zi F v38 true .nilchk [v41] L41 fun v42 L42=>zi F v38 true (.fad 3) [v42] L42 fun v43 L43=>zi F v38 true (.ld none) [v43] L43 fun v44 L44=>zi F v38 true (.eq true .bool) [v40,v44] L44 fun v45 L45=>zi F v35 false .pick [v38,v45,(.b false)] L45 fun v46 L46=>za F .pick [v35,(.b true),v46] L46 fun v47 L47=>(Y7 v38 true (z8 (.ld none) [v43] L43 L)∧True)∧(D_f216_19 F Q k1 l v47 L47)
def D_f216_17 (F:TF)(Q:TQ)(k1:TK)(l:Env)(L:Lg):Prop :=za F .nilchk [(l 0)] L fun v1 L1=>za F (.fad 3) [v1] L1 fun v2 L2=>za F (.ld none) [v2] L2 fun v3 L3=>zd F k_f211 [v3,(l 3)] L3 fun v4 L4=>za F (.ext 0) [v4] L4 fun v5 L5=>za F (.ext 1) [v4] L5 fun v6 L6=>D_f216_18 F Q k1 (Env.put (Env.put l 19 v5) 20 v6) L6
def D_f216_16 (F:TF)(Q:TQ)(k1:TK)(l:Env)(L:Lg):Prop :=za F .nilchk [(l 0)] L fun v1 L1=>za F (.fad 1) [v1] L1 fun v2 L2=>za F (.ld none) [v2] L2 fun v3 L3=>zd F k_f157 [v3,(l 3)] L3 fun v4 L4=>za F (.ext 0) [v4] L4 fun v5 L5=>za F (.ext 1) [v4] L5 fun v6 L6=>D_f216_17 F Q k1 (Env.put (Env.put l 17 v5) 18 v6) L6
def D_f216_15 (F:TF)(Q:TQ)(k1:TK)(l:Env)(L:Lg):Prop :=za F .nilchk [(l 0)] L fun v1 L1=>za F (.fad 3) [v1] L1 fun v2 L2=>za F (.ld none) [v2] L2 fun v3 L3=>zd F k_f215 [v3,(l 3)] L3 fun v4 L4=>za F (.ext 0) [v4] L4 fun v5 L5=>za F (.ext 1) [v4] L5 fun v6 L6=>za F (.ext 2) [v4] L6 fun v7 L7=>D_f216_16 F Q k1 (Env.put (Env.put (Env.put l 14 v5) 15 v6) 16 v7) L7
def D_f216_14 (F:TF)(Q:TQ)(k1:TK)(l:Env)(L:Lg):Prop :=za F .nilchk [(l 0)] L fun v1 L1=>za F (.fad 1) [v1] L1 fun v2 L2=>za F (.ld none) [v2] L2 fun v3 L3=>zd F k_f147 [v3,(l 3)] L3 fun v4 L4=>za F (.ext 0) [v4] L4 fun v5 L5=>za F (.ext 1) [v4] L5 fun v6 L6=>za F (.ext 2) [v4] L6 fun v7 L7=>D_f216_15 F Q k1 (Env.put (Env.put (Env.put l 11 v5) 12 v6) 13 v7) L7
def D_f216_13 (F:TF)(Q:TQ)(k1:TK)(l:Env)(L:Lg):Prop :=za F .nilchk [(l 0)] L fun v1 L1=>za F (.fad 3) [v1] L1 fun v2 L2=>za F (.ld none) [v2] L2 fun v3 L3=>zd F k_f214 [v3,(l 3)] L3 fun v4 L4=>za F (.ext 0) [v4] L4 fun v5 L5=>za F (.ext 1) [v4] L5 fun v6 L6=>za F (.ext 2) [v4] L6 fun v7 L7=>D_f216_14 F Q k1 (Env.put (Env.put (Env.put l 8 v5) 9 v6) 10 v7) L7
def D_f216_12 (F:TF)(Q:TQ)(k1:TK)(l:Env)(L:Lg):Prop :=za F .nilchk [(l 0)] L fun v1 L1=>za F (.fad 1) [v1] L1 fun v2 L2=>za F (.ld none) [v2] L2 fun v3 L3=>zd F k_f150 [v3,(l 3)] L3 fun v4 L4=>za F (.ext 0) [v4] L4 fun v5 L5=>za F (.ext 1) [v4] L5 fun v6 L6=>D_f216_13 F Q k1 (Env.put (Env.put l 6 v5) 7 v6) L6
def D_f216_11 (F:TF)(Q:TQ)(k1:TK)(l:Env)(L:Lg):Prop :=za F .nilchk [(l 0)] L fun v1 L1=>za F (.fad 1) [v1] L1 fun v2 L2=>za F (.ld none) [v2] L2 fun v3 L3=>zd F k_f149 [v3,(l 3)] L3 fun v4 L4=>za F (.ext 0) [v4] L4 fun v5 L5=>za F (.ext 1) [v4] L5 fun v6 L6=>D_f216_12 F Q k1 (Env.put (Env.put l 4 v5) 5 v6) L6
def D_f216_7 (F:TF)(Q:TQ)(k1:TK)(l:Env)(L:Lg):Prop :=za F .nilchk [(l 0)] L fun v1 L1=>za F (.fad 3) [v1] L1 fun v2 L2=>za F (.ld none) [v2] L2 fun v3 L3=>zd F k_f213 [v3] L3 fun v4 L4=>za F (.bin .leq) [(l 3),v4] L4 fun v5 L5=>zn v5 (D_f216_11 F Q k1 l L5) (D_f216_3 F Q (l 0) L5)
def D_f216_6 (F:TF)(Q:TQ)(l:Env)(L:Lg):Prop :=xC (fun l t L k1=>D_f216_7 F Q k1 l L) l L
def D_f216_4 (F:TF)(Q:TQ)(l:Env)(L:Lg):Prop :=D_f216_6 F Q (Env.put l 3 (.i .i64 (-1))) L
def D_f216_1 (F:TF)(Q:TQ)(l:Env)(L:Lg):Prop :=D_f216_4 F Q (Env.put l 2 (.b false)) L
structure H_f216 (F:TF):Prop where
 code:F k_f216=some c_f216
 f213:H_f213 F
 f149:H_f149 F
 f150:H_f150 F
 f214:H_f214 F
 f147:H_f147 F
 f215:H_f215 F
 f157:H_f157 F
 f211:H_f211 F
 f158:H_f158 F
 f155:H_f155 F
theorem r_f216 {F:TF}(h:F k_f216=some c_f216){Q:TQ}{a0:AV}{L:Lg}(e:D_f216_1 F Q (zJ [a0] 0) L):zd F k_f216 [a0] L Q :=
 cw h (fun l t L=>wS (fun l t L=>wS (fun l t L=>lf (D_f216_3 F Q (l 0) L)) (wS (fun l t L=>wB (wL (fun l t L k1=>wS (fun l t L=>wS (fun l t L=>lf (D_f216_9 F Q k1 l L)) (wB (wS (fun l t L=>wS (fun l t L=>wS (fun l t L=>wS (fun l t L=>wS (fun l t L=>wS (fun l t L=>wS (fun l t L=>wS (fun l t L=>lf (D_f216_19 F Q k1 l (t 153) L)) (lf (D_f216_18 F Q k1 l L))) (lf (D_f216_17 F Q k1 l L))) (lf (D_f216_16 F Q k1 l L))) (lf (D_f216_15 F Q k1 l L))) (lf (D_f216_14 F Q k1 l L))) (lf (D_f216_13 F Q k1 l L))) (lf (D_f216_12 F Q k1 l L))) (lf (D_f216_11 F Q k1 l L))))) (lf (D_f216_7 F Q k1 l L))) (lf (D_f216_6 F Q l L)))) (lf (D_f216_4 F Q l L)))) (lf (D_f216_1 F Q l L))) e
def D_f217_6 (F:TF)(Q:TQ)(L:Lg):Prop :=zd F k_f152 [] L fun v1 L1=>zl (some v1) Q L1
def D_f217_10 (F:TF)(Q:TQ)(k1:TK)(l:Env)(L:Lg):Prop :=za F .lenSl [(l 0)] L fun v1 L1=>za F (.bin .lss) [(l 5),v1] L1 fun v2 L2=>zn v2 (za F (.iad 3) [(l 0),(l 5)] L2 fun v3 L3=>za F (.ld (some 3)) [v3] L3 fun v4 L4=>zd F k_f212 [(l 3),v4] L4 fun v5 L5=>za F (.un .not) [v5] L5 fun v6 L6=>zi F v6 false .mv [(l 3)] L6 fun v7 L7=>zi F v6 false (.call k_f216) [v7] L7 fun v8 L8=>zi F v6 false (.un .not) [v8] L8 fun v9 L9=>za F .pick [v6,(.b true),v9] L9 fun v10 L10=>zn v10 (zl (some (.b false)) Q L10) (za F (.bin .add) [(l 5),(.i .i64 1)] L10 fun v11 L11=>k1 (Env.put l 5 v11) L11)) (D_f217_6 F Q L2)
def D_f217_9 (F:TF)(Q:TQ)(l:Env)(L:Lg):Prop :=xC (fun l t L k1=>D_f217_10 F Q k1 l L) l L
def D_f217_7 (F:TF)(Q:TQ)(l:Env)(L:Lg):Prop :=D_f217_9 F Q (Env.put l 5 (.i .i64 0)) L
def D_f217_4 (F:TF)(Q:TQ)(l:Env)(L:Lg):Prop :=za F (.un .not) [(l 4)] L fun v1 L1=>zn v1 (zl (some (.b false)) Q L1) (D_f217_7 F Q l L1)
def D_f217_3 (F:TF)(Q:TQ)(l:Env)(L:Lg):Prop :=zd F k_f126 [] L fun v1 L1=>za F (.ext 0) [v1] L1 fun v2 L2=>za F (.ext 1) [v1] L2 fun v3 L3=>D_f217_4 F Q (Env.put (Env.put l 3 v2) 4 v3) L3
def D_f217_2 (F:TF)(Q:TQ)(l:Env)(L:Lg):Prop :=za F .lenSl [(l 0)] L fun v1 L1=>za F (.bin .gtr) [v1,(.i .i64 60)] L1 fun v2 L2=>zn v2 (zd F k_f152 [] L2 fun v3 L3=>zl (some v3) Q L3) (D_f217_3 F Q l L2)
def D_f217_1 (F:TF)(Q:TQ)(l:Env)(L:Lg):Prop :=D_f217_2 F Q (Env.put l 2 (.b false)) L
theorem r_f217 {F:TF}(h:F k_f217=some c_f217){Q:TQ}{a0:AV}{L:Lg}(e:D_f217_1 F Q (zJ [a0] 0) L):zd F k_f217 [a0] L Q :=
 cw h (fun l t L=>wS (fun l t L=>wS (fun l t L=>wS (fun l t L=>wS (fun l t L=>wS (fun l t L=>lf (D_f217_6 F Q L)) (wS (fun l t L=>wB (wL (fun l t L k1=>lf (D_f217_10 F Q k1 l L)) (lf (D_f217_9 F Q l L)))) (lf (D_f217_7 F Q l L)))) (lf (D_f217_4 F Q l L))) (lf (D_f217_3 F Q l L))) (lf (D_f217_2 F Q l L))) (lf (D_f217_1 F Q l L))) e
end
end
set_option linter.unusedSimpArgs false
section
variable {F:Nat→Option AFn}
def yx (t:Int):Int:=min (max t (-4611686018427387904)) 4611686018427387904
theorem zae (h:H_f1 F)(t:Int)(L:Lg):zd F k_f1 [.i .i64 t] L fun v L'=>v=.i .i64 (yx t)∧L'=L:=by
 apply r_f1 h.code
 simp[D_f1_1]
 rfl
def zM (t d:Int):Int:=yx (yx t+yx d)
theorem vB (t:Int):-4611686018427387904≤yx t∧yx t≤4611686018427387904:=by unfold yx;omega
theorem vE (h:H_f2 F)(t d:Int)(L:Lg):zd F k_f2 [.i .i64 t,.i .i64 d] L fun v L'=>v=.i .i64 (zM t d)∧L'=L:=by
 apply r_f2 h.code
 unfold D_f2_1
 refine (zae h.f1 _ _).mono ?_
 rintro _ _ ⟨rfl,rfl⟩
 refine (zae h.f1 _ _).mono ?_
 rintro _ _ ⟨rfl,rfl⟩
 have h1:=vB t
 have h2:=vB d
 have e4:zM t d=min (max (yx t+yx d) (-4611686018427387904)) 4611686018427387904:=rfl
 by_cases c1:0<yx d
 ·have e2:wr .i64 (4611686018427387904-yx d)=4611686018427387904-yx d:=zS (by omega) (by omega)
  have c2:¬yx d<0:=by omega
  by_cases c3:4611686018427387904-yx d<yx t
  ·simp[c1,e2,c3,e4];omega
  ·have e1:wr .i64 (yx t+yx d)=yx t+yx d:=zS (by omega) (by omega)
   simp[c1,e2,c3,c2,e1,e4];omega
 ·by_cases c2:yx d<0
  ·have e3:wr .i64 (-4611686018427387904-yx d)=-4611686018427387904-yx d:=zS (by omega) (by omega)
   by_cases c3:yx t < -4611686018427387904-yx d
   ·simp[c1,e3,c3,c2,e4];omega
   ·have e1:wr .i64 (yx t+yx d)=yx t+yx d:=zS (by omega) (by omega)
    simp[c1,e3,c3,c2,e1,e4];omega
  ·have e1:wr .i64 (yx t+yx d)=yx t+yx d:=zS (by omega) (by omega)
   simp[c1,c2,e1,e4];omega
def zy (w p n:Int):Int×Int :=
 if p<1∨min w n<0∨4611686018427387904<max w (max p n)then (0,1)
 else if n<w then (w,0)else (zM n (p-(n-w).tmod p),0)
theorem WM (h:H_f3 F)(w p n:Int)(L:Lg):zd F k_f3 [.i .i64 w,.i .i64 p,.i .i64 n] L fun v L'=>v=.tup [.i .i64 (zy w p n).1,.i .i64 (zy w p n).2]∧L'=L:=by
 apply r_f3 h.code
 unfold D_f3_1 zy
 by_cases c1:p<1
 ·simp[c1]
 by_cases c2:min w n<0
 ·simp[c1,c2]
 by_cases c3:4611686018427387904<max w (max p n)
 ·simp[c1,c2,c3]
 by_cases c4:n<w
 ·simp[c1,c2,c3,c4]
 have hp:p≠0:=by omega
 have e1:wr .i64 (n-w)=n-w:=zS (by omega) (by omega)
 have h3:0≤(n-w).tmod p∧(n-w).tmod p<p:=⟨Int.tmod_nonneg _ (by omega),Int.tmod_lt_of_pos _ (by omega)⟩
 have e2:wr .i64 (p-(n-w).tmod p)=p-(n-w).tmod p:=zS (by omega) (by omega)
 simp[c1,c2,c3,c4,e1,e2,zgA _ _ _ _ _ _ hp]
 refine (vE h.f2 _ _ _).mono ?_
 rintro _ _ ⟨rfl,rfl⟩
 simp[c1,c2,c3,c4]
end
section
variable {F:Nat→Option AFn}
def zeH (zs:List Int):List AV:=zs.map (.i .i64 ·)
@[simp] theorem zhL (zs:List Int):(zeH zs).length=zs.length:=by simp[zeH]
@[simp] theorem ints_get (zs:List Int)(i:Nat):(zeH zs)[i]?=(zs[i]?).map (.i .i64 ·):=by simp[zeH]
theorem zgc (zs:List Int)(i:Nat)(v:Int):(zeH zs).set i (.i .i64 v)=zeH (zs.set i v):=by simp[zeH,List.map_set]
def ZU (r:Nat)(xs:List Int)(cap:Nat)(h:Hp):Prop:=∃(b fr:Nat) (zs:List Int),b≠r∧zs.length=cap∧xs.length≤cap∧cap≤64∧fr≤cap∧(0<cap→fr<cap)∧(∀i,i<xs.length→zs[(fr+i) % cap]?=xs[i]?) ∧
 Sat (Lg.two r b (.raw (.cells [.sl (some (b,0)) cap cap 0,.i .i64 fr,.i .i64 xs.length])) (.raw (.cells (zeH zs)))) h
section
variable {L:Lg} {r cap:Nat} {xs:List Int}
theorem XH (h:H_f6 F){a b:AV}{n:Int}(e:L r=some (.raw (.cells [a,b,.i .i64 n]))):zd F k_f6 [.p (some (r,0))] L fun w L'=>w=.i .i64 n∧L'=L:=by
 apply r_f6 h.code
 simp[D_f6_1,rdL,AB.read,zO,e]
theorem YW (h:H_f6 F)(e:L r=some (.abs (ZU r xs cap))):zd F k_f6 [.p (some (r,0))] L fun w L'=>w=.i .i64 xs.length∧L'=L:=by
 apply vJ e
 rintro hm ⟨b,fr,zs,hne,h1,h2,h3,h4,h5,h6,hs⟩
 refine⟨b,_,_,hne,hs,fun hb=>?_⟩
 refine (XH h (ze _ _ _)).sees ?_
 rintro _ _ ⟨rfl,rfl⟩
 refine⟨L,?_,rfl,rfl⟩
 have:=wH (P:=ZU r xs cap) hne hb (fun h hs=>⟨b,fr,zs,hne,h1,h2,h3,h4,h5,h6,hs⟩)
 rwa [yc L r _ e]at this
theorem VM (h:H_f7 F)(e:L r=some (.abs (ZU r xs cap))):zd F k_f7 [.p (some (r,0))] L fun w L'=>w=.i .i64 cap∧L'=L:=by
 apply vJ e
 rintro hm ⟨b,fr,zs,hne,h1,h2,h3,h4,h5,h6,hs⟩
 refine⟨b,_,_,hne,hs,fun hb=>?_⟩
 apply r_f7 h.code
 simp[D_f7_1,rdL,AB.read,zO]
 have:=wH (P:=ZU r xs cap) hne hb (fun h hs=>⟨b,fr,zs,hne,h1,h2,h3,h4,h5,h6,hs⟩)
 rwa [yc L r _ e]at this
theorem VN (h:H_f4 F)(e:L r=some (.abs (ZU r xs cap)))(v:Int):zd F k_f4 [.p (some (r,0)),.i .i64 v] L fun w L' =>
  if xs.length=cap then w=.b false∧L'=L else w=.b true∧L'=L.put r (.abs (ZU r (xs++[v]) cap)):=by
 apply vJ e
 rintro hm ⟨b,fr,zs,hne,h1,h2,h3,h4,h5,h6,hs⟩
 refine⟨b,_,_,hne,hs,fun hb=>?_⟩
 apply r_f4 h.code
 unfold D_f4_1 D_f4_2
 by_cases hf:xs.length=cap
 ·simp[rdL,AB.read,zO,hf]
  have:=wH (P:=ZU r xs cap) hne hb (fun h hs=>⟨b,fr,zs,hne,h1,h2,h3,h4,h5,h6,hs⟩)
  rwa [yc L r _ e,hf]at this
 ·have hi:¬((xs.length:Int)=cap):=by omega
  have hc:(cap:Int)≠0:=by omega
  have e1:wr .i64 ((fr:Int)+xs.length)=(fr:Int)+xs.length:=zS (by omega) (by omega)
  obtain⟨m,hm'⟩:∃m,m=(fr+xs.length) % cap:=⟨_,rfl⟩
  have e2:((fr:Int)+xs.length).tmod cap=(m:Int):=by rw[hm',←Int.natCast_add,Int.ofNat_tmod]
  obtain⟨n1,hn1⟩:∃n1,n1=xs.length+1:=⟨_,rfl⟩
  have e3:wr .i64 ((xs.length:Int)+1)=(n1:Int):=by rw[zS (by omega) (by omega)];omega
  have hlt:m<cap:=by rw[hm'];exact Nat.mod_lt _ (by omega)
  have e5:(m:Int)<cap:=by omega
  have e6:m+1≤cap:=hlt
  simp[rdL,AB.read,zO,hf,hi,D_f4_3,e1,e2,zgA _ _ _ _ _ _ hc,yF _ _ _ 1 b 0 cap cap 0 .i64 (m:Int) (Int.natCast_nonneg _) e5,
   stL,wrL,xf,zgc,Lg.put_apply,hne,Ne.symm hne,h1,hlt,e3,e6,zid _ hne]
  apply wH hne hb
  intro h hs
  refine⟨b,fr,zs.set m v,hne,by simpa using h1,by simp;omega,h3,h4,h5,?_,by simpa[hn1]using hs⟩
  intro i hi'
  rw[List.length_append,List.length_singleton]at hi'
  rw[List.getElem?_set,List.getElem?_append]
  by_cases h7:i<xs.length
  ·have:m≠(fr+i) % cap:=by
    rw[hm'];intro h8
    have h9:(fr+xs.length) % cap=(fr+i) % cap:=h8
    have:=Nat.mod_lt (fr+i) (show 0<cap by omega)
    have a1:=Nat.div_add_mod (fr+xs.length) cap
    have a2:=Nat.div_add_mod (fr+i) cap
    have a3:(fr+i) / cap≤(fr+xs.length) / cap:=Nat.div_le_div_right (by omega)
    rcases Nat.lt_or_ge ((fr+i) / cap) ((fr+xs.length) / cap)with a4 | a4
    ·have a5:=Nat.mul_le_mul_left cap (show (fr+i) / cap+1≤(fr+xs.length) / cap from a4)
     rw[Nat.mul_add]at a5
     omega
    ·have:(fr+i) / cap=(fr+xs.length) / cap:=by omega
     rw[this]at a2
     omega
   simp only[this,if_false,h7,if_true]
   exact h6 i h7
  ·have:i=xs.length:=by omega
   subst this
   simp[hm']
   rw[←hm']
   simp[h1,hlt]
theorem WB (h:H_f8 F)(e:L r=some (.abs (ZU r xs cap))):zd F k_f8 [.p (some (r,0))] L fun w L'=>w=.i .i64 xs.length∧L'=L.put r (.abs (ZU r [] cap)):=by
 apply vJ e
 rintro hm ⟨b,fr,zs,hne,h1,h2,h3,h4,h5,h6,hs⟩
 refine⟨b,_,_,hne,hs,fun hb=>?_⟩
 apply r_f8 h.code
 unfold D_f8_1
 have key:zu ((L.put b (.raw (.cells (zeH zs)))).put r (.raw (.cells [.sl (some (b,0)) cap cap 0,.i .i64 fr,.i .i64 (0:Nat)]))) (L.put r (.abs (ZU r [] cap))) :=
  wH hne hb (fun h hs=>⟨b,fr,zs,hne,h1,by simp,h3,h4,h5,by simp,hs⟩)
 refine (XH (r:=r) h.f6 (ze _ _ _)).mono ?_
 rintro _ _ ⟨rfl,rfl⟩
 by_cases h0:xs.length=0
 ·have h0':((0:Nat):Int)=0:=rfl
  rw[h0]at hs ⊢
  simpa[h0']using key
 ·have hp:(0:Int)<xs.length:=by omega
  have hp2:0<xs.length:=by omega
  simpa[hp,hp2,rdL,AB.read,zO,stL,wrL,xf]using key
theorem UQ (h:H_f9 F)(n:Nat)(hn:n≤64):zd F k_f9 [.i .i64 n] L fun w L'=>∃r,L r=none∧w=.tup [.p (some (r,0)),.i .i64 0]∧L'=L.put r (.abs (ZU r [] n)):=by
 apply r_f9 h.code
 have h1:¬((n:Int)<0):=by omega
 have h2:¬((64:Int)<n):=by omega
 have h2':¬(64<n):=by omega
 simp[D_f9_1,h1,h2,h2',zg5 F _ _ [.i .i64 0] 8 .i64 .i64 n n (Nat.le_refl n) (by omega)]
 intro b hb
 simp[zE,zo,Nat.ble]
 ·intro r hr
  have hrb:r≠b:=by rintro rfl;simp at hr
  rw[zb _ _ _ hrb]at hr
  refine⟨L.put r (.abs (ZU r [] n)),?_,r,hr,rfl,rfl⟩
  refine wH (Ne.symm hrb) hb ?_
  intro h hs
  refine⟨b,0,List.replicate n 0,Ne.symm hrb,by simp,by simp,hn,by omega,fun h=>h,by simp,?_⟩
  have:zeH (List.replicate n 0)=y5 [.i .i64 0] n:=by simp[zeH,UR]
  rw[this]
  exact hs
end
end
section
variable {F:Nat→Option AFn}
structure Wt where
 t:Int
 c:Int
 v:Int
 deriving DecidableEq
def Wt.cells (w:Wt):List AV:=[.i .i64 w.t,.i .i64 w.c,.i .i64 w.v]
def Wt.av (w:Wt):AV:=.agg w.cells
def Wt.zero:Wt:=⟨0,0,0⟩
def ptr (o:Option Nat):AV:=.p (o.map fun b=>(b,0))
@[simp] theorem Xn:ptr none=.p none:=rfl
@[simp] theorem VQ (b:Nat):ptr (some b)=.p (some (b,0)):=rfl
@[simp] theorem zhw (o:Option Nat):(ptr o).cellsOf=some [ptr o]:=rfl
@[simp] theorem ptr_one (o:Option Nat):(ptr o).one=true:=rfl
def xH (w:Wt)(p n:Option Nat):LC:=.raw (.cells [.i .i64 w.t,.i .i64 w.c,.i .i64 w.v,ptr p,ptr n])
def hd (n:Option Nat):List (Nat×Wt)→Option Nat
 | []=>n
 | x::_=>some x.1
def lst (p:Option Nat):List (Nat×Wt)→Option Nat
 | []=>p
 | x::r=>lst (some x.1) r
def Seg (M:Lg)(p:Option Nat):List (Nat×Wt)→Option Nat→Prop
 | [],_=>True
 | (i,w)::r,n=>M i=some (xH w p (hd n r))∧Seg M (some i) r n
def zW (l:List (Nat×Wt)):List Nat:=l.map (·.1)
@[simp] theorem hd_nil (n:Option Nat):hd n []=n:=rfl
@[simp] theorem hd_cons (n:Option Nat)(x:Nat×Wt)(r:List (Nat×Wt)):hd n (x::r)=some x.1:=rfl
@[simp] theorem lst_nil (n:Option Nat):lst n []=n:=rfl
@[simp] theorem lst_cons (n:Option Nat)(x:Nat×Wt)(r:List (Nat×Wt)):lst n (x::r)=lst (some x.1) r:=rfl
theorem wq (n:Option Nat):∀(A B:List (Nat×Wt)),hd n (A++B)=hd (hd n B) A
 | [],_=>rfl
 | _::_,_=>rfl
theorem wE:∀(A B:List (Nat×Wt)) (p:Option Nat),lst p (A++B)=lst (lst p A) B
 | [],_,_=>rfl
 | _::A,B,_=>wE A B _
theorem Seg.append (M:Lg):∀(A B:List (Nat×Wt)) (p n:Option Nat),Seg M p (A++B) n↔Seg M p A (hd n B)∧Seg M (lst p A) B n
 | [],_,_,_=>by simp[Seg,lst]
 | (i,w)::A,B,p,n=>by
  simp only[List.cons_append,Seg,lst,wq,Seg.append M A B,and_assoc]
theorem Seg.congr {M M':Lg}:∀{l:List (Nat×Wt)} {p n:Option Nat},(∀i,i∈zW l→M' i=M i)→Seg M p l n→Seg M' p l n
 | [],_,_,_,_=>trivial
 | (i,w)::r,p,n,h,hs=>⟨by rw[h i (by simp[zW])];exact hs.1,Seg.congr (fun j hj=>h j (by simp[zW]at hj ⊢;exact .inr hj)) hs.2⟩
theorem Seg.some {M:Lg}:∀{l:List (Nat×Wt)} {p n:Option Nat},Seg M p l n→∀i,i∈zW l→M i≠none
 | [],_,_,_,i,hi=>by simp[zW]at hi
 | (j,w)::r,p,n,hs,i,hi=>by
  simp only[zW,List.map_cons,List.mem_cons]at hi
  rcases hi with rfl | hi
  ·rw[hs.1];simp
  ·exact Seg.some hs.2 i hi
def y7 (q:Nat)(ws:List Wt)(h:Hp):Prop:=∃(l:List (Nat×Wt)) (M:Lg),l.map (·.2)=ws∧(q::zW l).Nodup∧ws.length≤1000000 ∧
 M q=some (.raw (.cells [ptr (hd none l),ptr (lst none l),.i .i64 ws.length]))∧Seg M none l none∧(∀b,b∉q::zW l→M b=none)∧Sat M h
section
variable {L:Lg} {q:Nat} {ws:List Wt}
structure QOpen (L:Lg)(q:Nat)(l:List (Nat×Wt))(L1:Lg):Prop where
 nd:(q::zW l).Nodup
 root:L1 q=some (.raw (.cells [ptr (hd none l),ptr (lst none l),.i .i64 l.length]))
 seg:Seg L1 none l none
 old:∀b c,b∉q::zW l→L b=some c→L1 b=some c
 new:∀b,b∈zW l→L b=none
theorem QOpen.shut {l:List (Nat×Wt)}{L1:Lg}(h:QOpen L q l L1)(hl:l.length≤1000000):zu L1 (L.put q (.abs (y7 q (l.map (·.2))))):=by
 refine yW (fun b=>b∈q::zW l) (List.mem_cons_self ..) h.old ?_ (.inl ⟨_,h.root⟩) ?_
 ·intro b hb hbq
  rcases List.mem_cons.1 hb with rfl | hb
  ·exact absurd rfl hbq
  ·exact h.new b hb
 ·intro M hp hM hN hs
  refine⟨l,M,rfl,h.nd,by simpa using hl,?_,?_,hN,hs⟩
  ·rw[hM q (List.mem_cons_self ..),h.root];simp
  ·exact Seg.congr (fun i hi=>hM i (List.mem_cons_of_mem _ hi)) h.seg
theorem ZZ {f:Nat}{vs:List AV}{Q:AV→Lg→Prop}(e:L q=some (.abs (y7 q ws)))
  (h:∀l L1,l.map (·.2)=ws→l.length≤1000000→QOpen L q l L1→(∀b,b∉q::zW l→L1 b=L b)→zd F f vs L1 Q):zd F f vs L Q:=by
 apply yX e
 rintro hm ⟨l,M,h1,h2,h3,h4,h5,h6,hs⟩
 refine⟨M,hs,by rw[h4];simp,fun hf=>?_⟩
 have hover:∀b c,M b=some c→(M.over L) b=some c:=fun b c hb=>by simp[Lg.over,hb]
 have hseg:∀{l:List (Nat×Wt)} {p n:Option Nat},Seg M p l n→Seg (M.over L) p l n:=by
  intro l
  induction l with
  | nil=>intros;trivial
  | cons x r ih=>intro p n hs;exact⟨hover _ _ hs.1,ih hs.2⟩
 have hin:∀{l:List (Nat×Wt)} {p n:Option Nat},Seg M p l n→∀i,i∈zW l→∃c,M i=some c:=by
  intro l
  induction l with
  | nil=>intro p n hs i hi;simp[zW]at hi
  | cons x r ih =>
   intro p n hs i hi
   simp only[zW,List.map_cons,List.mem_cons]at hi
   rcases hi with rfl | hi
   ·exact⟨_,hs.1⟩
   ·exact ih hs.2 i hi
 have hlen:l.length=ws.length:=by rw[←h1];simp
 refine h l (M.over L) h1 (by omega) ⟨h2,?_,hseg h5,?_,?_⟩ ?_
 ·rw[hlen];exact hover q _ h4
 ·intro b c hb hL;simp[Lg.over,h6 b hb,hL]
 ·intro b hb
  obtain⟨c,hc⟩:=hin h5 b hb
  refine hf b c hc ?_
  rintro rfl
  exact (List.nodup_cons.1 h2).1 hb
 ·intro b hb;simp[Lg.over,h6 b hb]
theorem Yb (h:H_f18 F):zd F k_f18 [] L fun v L'=>∃q,L q=none∧v=.p (some (q,0))∧L'=L.put q (.abs (y7 q [])):=by
 apply r_f18 h.code
 simp[D_f18_1,zE]
 intro b hb
 refine⟨L.put b (.abs (y7 b [])),?_,b,hb,rfl,rfl⟩
 have:QOpen L b [] (L.put b (.raw (.cells [.p none,.p none,.i .i64 0]))) :=
  ⟨by simp[zW],by simp[hd,lst],trivial,fun c d h1 h2=>by simp[zW]at h1;rw[zb _ _ _ h1];exact h2,fun c hc=>by simp[zW]at hc⟩
 exact this.shut (by simp)
theorem WG (h:H_f16 F)(e:L q=some (.abs (y7 q ws)))(w:Wt)(hws:ws.length<1000000):zd F k_f16 [.p (some (q,0)),w.av] L fun v L'=>v=.i .i64 (ws.length+1)∧L'=L.put q (.abs (y7 q (ws++[w]))):=by
 apply ZZ e
 intro l L1 h1 h2 hq hn
 apply r_f16 h.code
 have hlen:l.length=ws.length:=by rw[←h1];simp
 have e1:wr .i64 ((ws.length:Int)+1)=(ws.length:Int)+1:=zS (by omega) (by omega)
 have hroot:=hq.root
 unfold D_f16_1 D_f16_2 D_f16_3 D_f16_4 D_f16_5 Wt.av Wt.cells
 simp
 intro x hx
 have hxq:x≠q:=by rintro rfl;rw[hroot]at hx;cases hx
 simp[rdL,AB.read,zO,Lg.put_apply,hxq,Ne.symm hxq,hroot,cut,zq,zp,zE,zo,xT]
 rw[zN _ _ _ (by simp)]
 intro y hy1
 have hy:y≠x:=by rintro rfl;simp at hy1
 rw[zb _ _ _ hy]at hy1
 have hyq:y≠q:=by rintro rfl;rw[hroot]at hy1;cases hy1
 have hyL:L y=none:=by
  cases h3:L y with
  | none=>rfl
  | some c =>
   by_cases h4:y∈q::zW l
   ·rcases List.mem_cons.1 h4 with h4 | h4
    ·exact absurd h4 hyq
    ·rw[hq.new y h4]at h3;cases h3
   ·rw[hq.old y c h4 h3]at hy1;cases hy1
 have hyl:y∉zW l:=by
  intro h4
  exact Seg.some hq.seg y h4 hy1
 rcases List.eq_nil_or_concat l with rfl | ⟨A,⟨j,u⟩,rfl⟩
 ·simp at hlen
  simp[hd,lst,rdL,AB.read,zO,Lg.put_apply,hyq,Ne.symm hyq,hxq,Ne.symm hxq,hroot,stL,wrL,xf,hy]
  have hws0:ws=[]:=List.length_eq_zero_iff.1 hlen.symm
  subst hws0
  refine⟨?_,by rw[zS (by omega) (by omega)];simp⟩
  have hf:∀Lf:Lg,Lf q=some (.raw (.cells [.p (some (y,0)),.p (some (y,0)),.i .i64 1]))→Lf y=some (xH w none none)→(∀b,b≠q→b≠y→b≠x→Lf b=L1 b)→QOpen L q [(y,w)] Lf:=by
   intro Lf f1 f2 f3
   refine⟨by simp[zW,Ne.symm hyq],by simpa[hd,lst]using f1,⟨f2,trivial⟩,?_,by simpa[zW]using hyL⟩
   intro b c hb hc
   simp[zW]at hb
   have hbx:b≠x:=by
    rintro rfl
    rw[hq.old b c (by simp[zW,hb.1]) hc]at hx;cases hx
   rw[f3 b hb.1 hb.2 hbx]
   exact hq.old b c (by simp[zW,hb.1]) hc
  refine (hf _ ?_ ?_ ?_).shut (by simp)
  ·simp[zS]
  ·simp[Lg.put_apply,hyq,xH]
  ·intro b b1 b2 b3;simp[Lg.put_apply,b1,b2,b3]
 ·simp only[List.concat_eq_append]at hq hroot hyl h1 hlen hn h2
  have hseg:=(Seg.append L1 A [(j,u)] none none).1 hq.seg
  have hj:L1 j=some (xH u (lst none A) none):=hseg.2.1
  have hnd:=hq.nd
  simp only[zW,List.map_append,List.map_cons,List.map_nil]at hnd hyl
  have hjq:j≠q:=by
   rintro rfl
   exact (List.nodup_cons.1 hnd).1 (by simp)
  have hjA:j∉zW A:=by
   have:=(List.nodup_append.1 (List.nodup_cons.1 hnd).2).2.2
   intro hjA
   exact this j hjA j (by simp) rfl
  have hyj:y≠j:=by rintro rfl;exact hyl (by simp)
  have hxj:x≠j:=by rintro rfl;rw[hj]at hx;cases hx
  have hl1:lst none (A++[(j,u)])=some j:=by simp[wE,lst]
  have hlen':(A.length:Int)+1=ws.length:=by simp at hlen;omega
  simp[hl1]at hroot
  simp[hl1,rdL,AB.read,zO,Lg.put_apply,hyq,Ne.symm hyq,hxq,Ne.symm hxq,hyj,Ne.symm hyj,hjq,Ne.symm hjq,hxj,Ne.symm hxj,hroot,stL,wrL,xf,hy,hj,xH,hlen',e1]
  have hf:∀Lf:Lg,Lf q=some (.raw (.cells [ptr (hd none (A++[(j,u)])),.p (some (y,0)),.i .i64 (ws.length+1)]))→Lf y=some (xH w (some j) none)→Lf j=some (xH u (lst none A) (some y)) →
    (∀b,b≠q→b≠y→b≠j→b≠x→Lf b=L1 b)→QOpen L q (A++[(j,u),(y,w)]) Lf:=by
   intro Lf f1 f2 f3 f4
   have hqA:q∉zW A:=fun h5=>(List.nodup_cons.1 hnd).1 (by simp[zW]at h5 ⊢;exact .inl h5)
   have hyA:y∉zW A:=fun h5=>hyl (by simp[zW]at h5 ⊢;exact .inl h5)
   refine⟨?_,?_,?_,?_,?_⟩
   ·have e3:q::zW (A++[(j,u),(y,w)])=(q::(List.map (fun x=>x.fst) A++[j]))++[y]:=by simp[zW]
    rw[e3,List.nodup_append]
    refine⟨hnd,by simp,?_⟩
    intro a ha b hb hab
    simp at hb
    subst hb
    subst hab
    rcases List.mem_cons.1 ha with ha | ha
    ·exact hyq ha
    ·exact hyl ha
   ·rw[f1]
    have:hd none (A++[(j,u),(y,w)])=hd none (A++[(j,u)]):=by rw[wq,wq];rfl
    rw[this]
    simp[wE,lst]
    omega
   ·rw[Seg.append]
    refine⟨Seg.congr ?_ hseg.1,f3,f2,trivial⟩
    intro i hi
    have:i≠x:=by
     rintro rfl
     have:=hq.new i (by simp[zW]at hi ⊢;exact .inl hi)
     exact Seg.some hseg.1 i hi hx
    exact f4 i (fun h5=>hqA (h5▸hi)) (fun h5=>hyA (h5▸hi)) (fun h5=>hjA (h5▸hi)) this
   ·intro b c hb hc
    simp[zW]at hb
    have hb':b∉q::zW (A++[(j,u)]):=by
     simp[zW]
     exact⟨hb.1,fun x=>hb.2.1 x,hb.2.2.1⟩
    have h6:=hq.old b c hb' hc
    have hbx:b≠x:=by rintro rfl;rw[h6]at hx;cases hx
    rw[f4 b hb.1 hb.2.2.2 hb.2.2.1 hbx]
    exact h6
   ·intro b hb
    by_cases h7:b=y
    ·subst h7;exact hyL
    ·exact hq.new b (by simp[zW]at hb ⊢;rcases hb with hb | hb | hb;exact .inl hb;exact .inr hb;exact absurd hb h7)
  have h8:ws++[w]=(A++[(j,u),(y,w)]).map (·.2):=by rw[←h1];simp
  rw[h8]
  refine (hf _ ?_ ?_ ?_ ?_).shut ?_
  ·simp
  ·simp[Lg.put_apply,hyq,hyj,xH]
  ·simp[Lg.put_apply,hjq,xH]
  ·intro b b1 b2 b3 b4;simp[Lg.put_apply,b1,b2,b3,b4]
  ·simp;omega
theorem yo (A B:List (Nat×Wt)):zW (A++B)=zW A++zW B:=by simp[zW]
theorem xi (x:Nat×Wt)(B:List (Nat×Wt)):zW (x::B)=x.1::zW B:=rfl
@[simp] theorem ziX:zW []=[]:=rfl
theorem QOpen.dropped {A B:List (Nat×Wt)}{i:Nat}{w:Wt}{L1:Lg}(hq:QOpen L q (A++(i,w)::B) L1){Lf:Lg}
  (f1:Lf q=some (.raw (.cells [ptr (hd none (A++B)),ptr (lst none (A++B)),.i .i64 (A++B).length])))
  (f2:∀A' j u,A=A'++[(j,u)]→Lf j=some (xH u (lst none A') (hd none B)))
  (f3:∀k z B',B=(k,z)::B'→Lf k=some (xH z (lst none A) (hd none B')))
  (f4:∀b,b≠q→(∀A' j u,A=A'++[(j,u)]→b≠j)→(∀k z B',B=(k,z)::B'→b≠k)→Lf b=L1 b):QOpen L q (A++B) Lf:=by
 have hseg:=(Seg.append L1 A ((i,w)::B) none none).1 hq.seg
 have hnd:=hq.nd
 rw[yo,xi]at hnd
 have h1:=(List.nodup_cons.1 hnd).1
 have h2:=List.nodup_append.1 (List.nodup_cons.1 hnd).2
 have h3:=List.nodup_cons.1 h2.2.1
 refine⟨?_,f1,?_,?_,?_⟩
 ·rw[yo,List.nodup_cons,List.nodup_append]
  refine⟨fun h=>h1 ?_,h2.1,h3.2,fun a ha b hb=>h2.2.2 a ha b (List.mem_cons_of_mem _ hb)⟩
  rw[List.mem_append]at h ⊢
  exact h.imp id (List.mem_cons_of_mem _)
 ·rw[Seg.append]
  refine⟨?_,?_⟩
  ·rcases List.eq_nil_or_concat A with rfl | ⟨A',⟨j,u⟩,rfl⟩
   ·trivial
   ·simp only[List.concat_eq_append]at *
    have hs:=(Seg.append L1 A' [(j,u)] none (some i)).1 hseg.1
    rw[Seg.append]
    refine⟨Seg.congr ?_ hs.1,f2 A' j u rfl,trivial⟩
    intro b hb
    have hnA:=h2.1
    rw[yo,List.nodup_append]at hnA
    refine f4 b ?_ ?_ ?_
    ·rintro rfl;exact h1 (by rw[yo];simp[hb])
    ·intro A'' j' u' e hbj
     have:=(List.append_inj' e rfl).2
     simp at this
     subst hbj
     exact hnA.2.2 b hb j (by simp[zW]) this.1.symm
    ·intro k z B' e hbk
     subst hbk
     refine h2.2.2 b (by rw[yo];simp[hb]) b ?_ rfl
     rw[e,xi];simp
  ·cases B with
   | nil=>trivial
   | cons x B' =>
    obtain⟨k,z⟩:=x
    refine⟨f3 k z B' rfl,Seg.congr ?_ hseg.2.2.2⟩
    intro b hb
    rw[xi]at h3
    have h4:=List.nodup_cons.1 h3.2
    refine f4 b ?_ ?_ ?_
    ·rintro rfl;exact h1 (by rw[xi];simp[hb])
    ·intro A' j u e hbj
     subst hbj
     refine h2.2.2 b (by rw[e,yo];simp[zW]) b (by rw[xi];simp[hb]) rfl
    ·intro k' z' B'' e hbk
     simp at e
     subst hbk
     rw[←e.1.1]at hb
     exact h4.1 hb
 ·intro b c hb hc
  rw[yo]at hb
  by_cases hbi:b=i
  ·subst hbi
   have:=hq.new b (by rw[yo,xi];simp)
   rw[this]at hc;cases hc
  ·have hb':b∉q::zW (A++(i,w)::B):=by
    rw[yo,xi]
    simp at hb ⊢
    exact⟨hb.1,hb.2.1,hbi,hb.2.2⟩
   simp at hb
   rw[f4 b hb.1 ?_ ?_]
   ·exact hq.old b c hb' hc
   ·rintro A' j u rfl rfl;exact hb.2.1 (by simp[zW])
   ·rintro k z B' rfl rfl;exact hb.2.2 (by simp[zW])
 ·intro b hb
  refine hq.new b ?_
  rw[yo,xi]
  rw[yo]at hb
  rw[List.mem_append]at hb ⊢
  exact hb.imp id (List.mem_cons_of_mem _)
theorem WH (h:H_f11 F){A B:List (Nat×Wt)}{i:Nat}{w:Wt}{L1:Lg}(hq:QOpen L q (A++(i,w)::B) L1)(hl:(A++(i,w)::B).length≤1000000) :
  zd F k_f11 [.p (some (q,0)),.p (some (i,0))] L1 fun v L'=>v=.tup []∧QOpen L q (A++B) L'∧L' i=some (xH w (lst none A) (hd none B))∧∀b,b∉q::zW (A++B)→L' b=L1 b:=by
 apply r_f11 h.code
 have hseg:=(Seg.append L1 A ((i,w)::B) none none).1 hq.seg
 have hnd:=hq.nd
 rw[yo,xi]at hnd
 have h1:=(List.nodup_cons.1 hnd).1
 have h2:=List.nodup_append.1 (List.nodup_cons.1 hnd).2
 have h3:=List.nodup_cons.1 h2.2.1
 have hiq:i≠q:=by rintro rfl;exact h1 (by simp)
 have hi:L1 i=some (xH w (lst none A) (hd none B)):=hseg.2.1
 have hroot:=hq.root
 unfold D_f11_1 D_f11_2
 have e1:wr .i64 ((((A++(i,w)::B).length:Nat):Int)-1)=((A++B).length:Nat):=by rw[zS (by simp at hl ⊢;omega) (by omega)];simp;omega
 have hr1:hd none (A++(i,w)::B)=hd (some i) A:=by rw[wq];rfl
 have hr2:lst none (A++(i,w)::B)=lst (some i) B:=by rw[wE];rfl
 rw[hr1,hr2]at hroot
 obtain⟨n,hn⟩:∃n,n=(A++(i,w)::B).length:=⟨_,rfl⟩
 obtain⟨m,hm⟩:∃m,m=(A++B).length:=⟨_,rfl⟩
 rw[←hn]at e1 hroot
 rw[←hm]at e1
 rcases List.eq_nil_or_concat A with rfl | ⟨A',⟨j,u⟩,rfl⟩
 ·cases B with
  | nil =>
   simp[rdL,AB.read,zO,hi,xH,hroot,stL,wrL,xf,Lg.put_apply,hiq,Ne.symm hiq,e1]
   refine⟨_,zu.refl _,hq.dropped ?_ ?_ ?_ ?_,?_,?_⟩
   ·simp[hm]
   ·intro A' j u e;simp at e
   ·intro k z B' e;simp at e
   ·intro b b1 b2 b3;simp[Lg.put_apply,b1]
   ·simp[Lg.put_apply,hiq,hi,xH]
   ·intro b b1;simp[Lg.put_apply,b1]
  | cons x B' =>
   obtain⟨k,z⟩:=x
   have hk:L1 k=some (xH z (some i) (hd none B')):=hseg.2.2.1
   have hkq:k≠q:=by rintro rfl;exact h1 (by simp[zW])
   have hki:k≠i:=by rintro rfl;exact h3.1 (by simp[zW])
   simp[rdL,AB.read,zO,hi,hk,xH,hroot,stL,wrL,xf,Lg.put_apply,hiq,Ne.symm hiq,hkq,Ne.symm hkq,hki,Ne.symm hki,e1]
   refine⟨_,zu.refl _,hq.dropped ?_ ?_ ?_ ?_,?_,?_⟩
   ·simp[hm]
   ·intro A' j u e;simp at e
   ·intro k' z' B'' e
    simp at e
    obtain⟨⟨rfl,rfl⟩,rfl⟩:=e
    simp[Lg.put_apply,hkq,xH]
   ·intro b b1 b2 b3
    have:b≠k:=b3 k z B' rfl
    simp[Lg.put_apply,b1,this]
   ·simp[Lg.put_apply,hiq,Ne.symm hki,hi,xH]
   ·intro b b1 b2
    have b3:b≠k:=by rintro rfl;exact b2 (by simp[zW])
    simp[Lg.put_apply,b1,b3]
 ·simp only[List.concat_eq_append]at *
  have hsA:=(Seg.append L1 A' [(j,u)] none _).1 hseg.1
  have hj:L1 j=some (xH u (lst none A') (some i)):=hsA.2.1
  have hjq:j≠q:=by rintro rfl;exact h1 (by simp[zW])
  have hji:j≠i:=fun e=>h2.2.2 j (by simp[zW]) i (by simp) e
  have hl1:lst none (A'++[(j,u)])=some j:=by simp[wE]
  have hh1:hd (some i) (A'++[(j,u)])=hd (some j) A':=by simp[wq]
  rw[hl1]at hi
  rw[hh1]at hroot
  cases B with
  | nil =>
   simp[rdL,AB.read,zO,hi,hj,xH,hroot,stL,wrL,xf,Lg.put_apply,hiq,Ne.symm hiq,hjq,Ne.symm hjq,hji,Ne.symm hji,e1]
   refine⟨_,zu.refl _,?_,?_,?_⟩
   rw[←List.append_nil (A'++[(j,u)])]
   refine hq.dropped ?_ ?_ ?_ ?_
   ·have:hd none (A'++[(j,u)])=hd (some j) A':=by simp[wq]
    rw[hm];simp[this,hl1]
   ·intro A'' j' u' e
    obtain⟨rfl,e2⟩:=List.append_inj' e rfl
    simp at e2
    obtain⟨rfl,rfl⟩:=e2
    simp[Lg.put_apply,hjq,xH]
   ·intro k z B' e;simp at e
   ·intro b b1 b2 b3
    have:b≠j:=b2 A' j u rfl
    simp[Lg.put_apply,b1,this]
   ·simp[Lg.put_apply,hiq,Ne.symm hji,hi,xH,hl1]
   ·intro b b1 b2
    have b3:b≠j:=by rintro rfl;exact b2 (by simp[zW])
    simp[Lg.put_apply,b1,b3]
  | cons x B' =>
   obtain⟨k,z⟩:=x
   have hk:L1 k=some (xH z (some i) (hd none B')):=hseg.2.2.1
   have hkq:k≠q:=by rintro rfl;exact h1 (by simp[zW])
   have hki:k≠i:=by rintro rfl;exact h3.1 (by simp[zW])
   have hkj:k≠j:=fun e=>h2.2.2 j (by simp[zW]) k (by simp[zW]) e.symm
   simp[rdL,AB.read,zO,hi,hj,hk,xH,hroot,stL,wrL,xf,Lg.put_apply,hiq,Ne.symm hiq,hjq,Ne.symm hjq,hji,Ne.symm hji,hkq,Ne.symm hkq,hki,Ne.symm hki,hkj,Ne.symm hkj,e1]
   refine⟨_,zu.refl _,?_,?_,?_⟩
   rw[show A'++(j,u)::(k,z)::B'=A'++[(j,u)]++(k,z)::B' by simp]
   refine hq.dropped ?_ ?_ ?_ ?_
   ·have:hd none (A'++[(j,u)]++(k,z)::B')=hd (some j) A':=by rw[wq,wq];simp
    have h9:lst none (A'++[(j,u)]++(k,z)::B')=lst (some k) B':=by rw[wE];simp
    rw[this,h9,←hm]
    simp[Lg.put_apply]
   ·intro A'' j' u' e
    obtain⟨rfl,e2⟩:=List.append_inj' e rfl
    simp at e2
    obtain⟨rfl,rfl⟩:=e2
    simp[Lg.put_apply,hjq,Ne.symm hkj,xH]
   ·intro k' z' B'' e
    simp at e
    obtain⟨⟨rfl,rfl⟩,rfl⟩:=e
    simp[Lg.put_apply,hkq,hkj,xH,hl1]
   ·intro b b1 b2 b3
    have c1:b≠k:=b3 k z B' rfl
    have c2:b≠j:=b2 A' j u rfl
    simp[Lg.put_apply,b1,c1,c2]
   ·simp[Lg.put_apply,hiq,Ne.symm hji,Ne.symm hki,hi,xH,hl1]
   ·intro b b1 b2
    have b3:b≠j:=by rintro rfl;exact b2 (by simp[zW])
    have b4:b≠k:=by rintro rfl;exact b2 (by simp[zW])
    simp[Lg.put_apply,b1,b3,b4]
theorem QOpen.other {l:List (Nat×Wt)}{L1:Lg}(h:QOpen L q l L1){L2:Lg}(h2:∀b c,L1 b=some c→L2 b=some c):QOpen L q l L2:=by
 refine⟨h.nd,h2 _ _ h.root,?_,fun b c hb hc=>h2 _ _ (h.old b c hb hc),h.new⟩
 have:∀{l:List (Nat×Wt)} {p n:Option Nat},Seg L1 p l n→Seg L2 p l n:=by
  intro l
  induction l with
  | nil=>intros;trivial
  | cons x r ih=>intro p n hs;exact⟨h2 _ _ hs.1,ih hs.2⟩
 exact this h.seg
theorem QOpen.put {l:List (Nat×Wt)}{L1:Lg}(h:QOpen L q l L1){rc:Nat}{c:LC}(h1:rc∉q::zW l)(h2:L rc=none):QOpen L q l (L1.put rc c):=by
 have h3:∀b,b∈q::zW l→(L1.put rc c) b=L1 b:=fun b hb=>zb _ _ _ (fun e=>h1 (e▸hb))
 refine⟨h.nd,?_,Seg.congr (fun i hi=>h3 i (List.mem_cons_of_mem _ hi)) h.seg,?_,h.new⟩
 ·rw[h3 q (List.mem_cons_self ..)];exact h.root
 ·intro b d hb hd
  have:b≠rc:=by rintro rfl;rw[h2]at hd;cases hd
  rw[zb _ _ _ this]
  exact h.old b d hb hd
theorem QOpen.keeps {l:List (Nat×Wt)}{L1:Lg}(h:QOpen L q l L1){b:Nat}{c:LC}(hb:b≠q)(hc:L b=some c):L1 b=some c:=by
 by_cases hi:b∈zW l
 ·rw[h.new b hi]at hc;cases hc
 ·exact h.old b c (by simp[hb,hi]) hc
def Xa (p:Wt→Bool):List Wt→Option (Wt×List Wt)
 | []=>none
 | w::r=>if p w=true then some (w,r)else (Xa p r).map fun x=>(x.1,w::x.2)
theorem W3 (p:Wt→Bool)(w:Wt)(B:List Wt):∀(A:List Wt),(∀x,x∈A→p x=false)→p w=true→Xa p (A++w::B)=some (w,A++B)
 | [],_,hw=>by simp[Xa,hw]
 | a::A,hA,hw=>by simp[Xa,hA a (by simp),W3 p w B A (fun x hx=>hA x (by simp[hx])) hw]
theorem W4 (p:Wt→Bool):∀(A:List Wt),(∀x,x∈A→p x=false)→Xa p A=none
 | [],_=>rfl
 | a::A,hA=>by simp[Xa,hA a (by simp),W4 p A (fun x hx=>hA x (by simp[hx]))]
theorem WE (h:H_f12 F)(e:L q=some (.abs (y7 q ws))){f:Nat}{fst cap:List AV}{p:Wt→Bool}
  (hso:∀(w:Wt) L',(∀b c,b≠q→L b=some c→L' b=some c)→zd F f (fst++w.av::cap) L' fun v L''=>v=.b (p w)∧L''=L') :
  zd F k_f12 [.p (some (q,0)),.fn f fst cap] L fun v L'=>match (generalizing:=false) Xa p ws with
   | none=>v=.tup [Wt.zero.av,.b false]∧L'=L
   | some (w,r)=>v=.tup [w.av,.b true]∧L'=L.put q (.abs (y7 q r)):=by
 apply ZZ e
 intro l L1 h1 h2 hq hn
 apply r_f12 h.code
 unfold D_f12_1 D_f12_2 D_f12_5
 generalize hQ:(fun (v:AV) (L':Lg)=>match Xa p ws with
   | none=>v=AV.tup [Wt.zero.av,.b false]∧L'=L
   | some (w,r)=>v=AV.tup [w.av,.b true]∧L'=L.put q (.abs (y7 q r)))=Q
 simp[zJ]
 intro rc hrc
 have hrq:rc≠q:=by rintro rfl;rw[hq.root]at hrc;cases hrc
 simp[Env.put_apply,rdL,AB.read,zO,Lg.put_apply,Ne.symm hrq,hq.root,D_f12_7]
 have hq2:QOpen L q l (L1.put rc (.raw (.cells [.i .i64 0,.i .i64 0,.i .i64 0]))):=hq.other (fun b c hb=>by
  have:b≠rc:=by rintro rfl;rw[hrc]at hb;cases hb
  rw[zb _ _ _ this];exact hb)
 refine zQ (fun n l' L'=>∃A B,l=A++B∧(∀x,x∈A→p x.2=false)∧n=B.length∧L'=L1.put rc (.raw (.cells [.i .i64 0,.i .i64 0,.i .i64 0]))∧l' 0=.p (some (q,0))∧l' 1=.fn f fst cap∧l' 4=.p (some (rc,0))∧l' 6=ptr (hd none B))
  l.length ⟨[],l,rfl,by simp,rfl,rfl,by simp[Env.put_apply],by simp[Env.put_apply],by simp[Env.put_apply],by simp[Env.put_apply]⟩ ?_
 rintro n l' t L' ⟨A,B,rfl,hA,hnB,rfl,l0,l1,l4,l6⟩
 unfold D_f12_8
 rw[l0,l1,l4,l6]
 have h0:∀b c,b≠q→L b=some c→(L1.put rc (.raw (.cells [.i .i64 0,.i .i64 0,.i .i64 0]))) b=some c:=fun b c hb hc=>hq2.keeps hb hc
 cases B with
 | nil =>
  simp[D_f12_4,zE,zw (ze _ _ _),zo,zU _ _ (ze _ _ _)]
  refine⟨L,?_,?_⟩
  ·have:=hq2.shut h2
   rwa [h1,yc L q _ e]at this
  ·subst hQ
   have:Xa p ws=none:=W4 p ws (by rw[←h1];intro x hx;simp at hx;obtain⟨a,hx⟩:=hx;exact hA _ hx)
   simp only[this]
   exact⟨rfl,trivial⟩
 | cons x B =>
  obtain⟨i,w⟩:=x
  have hseg:=(Seg.append _ A ((i,w)::B) none none).1 hq2.seg
  have hi:=hseg.2.1
  simp[rdL,AB.read,zO,hi,xH,cut,zq]
  refine (hso w _ h0).mono ?_
  rintro _ _ ⟨rfl,rfl⟩
  rw[xE]
  refine⟨fun hw=>?_,fun hw=>?_⟩
  ·refine (WH h.f11 hq2 h2).mono ?_
   rintro _ L3 ⟨rfl,hq3,h3i,h3o⟩
   have hrc3:L3 rc=some (.raw (.cells [.i .i64 0,.i .i64 0,.i .i64 0])):=by
    rw[h3o rc,ze]
    intro hm
    rw[yo]at hm
    have:rc∈zW (A++(i,w)::B):=by
     rw[yo,xi]
     simp at hm ⊢
     rcases hm with hm | hm | hm
     ·exact absurd hm hrq
     ·exact .inl hm
     ·exact .inr (.inr hm)
    exact Seg.some hq.seg rc this hrc
   simp[rdL,AB.read,zO,h3i,xH,cut,zq,zw hrc3,zo,zU _ _ (ze _ _ _)]
   have hrcL:L rc=none:=by
    cases hL:L rc with
    | none=>rfl
    | some c=>rw[hq.keeps hrq hL]at hrc;cases hrc
   have hrc4:rc∉q::zW (A++B):=by
    intro hm
    rcases List.mem_cons.1 hm with hm | hm
    ·exact hrq hm
    ·have h7:=Seg.some hq3.seg rc hm
     have:rc∈zW (A++(i,w)::B):=by
      rw[yo]at hm
      rw[yo,xi]
      simp at hm ⊢
      rcases hm with hm | hm
      ·exact .inl hm
      ·exact .inr (.inr hm)
     exact Seg.some hq.seg rc this hrc
   refine⟨_,(hq3.put hrc4 hrcL).shut ?_,?_⟩
   ·simp at h2 ⊢;omega
   ·subst hQ
    have:Xa p ws=some (w,(A++B).map (·.2)):=by
     rw[←h1];simpa using W3 p w (B.map (·.2)) (A.map (·.2)) (by intro x hx;simp at hx;obtain⟨a,hx⟩:=hx;exact hA _ hx) hw
    simp only[this]
    exact⟨rfl,trivial⟩
  ·simp[rdL,AB.read,zO,hi,xH]
   refine⟨B.length,by simp at hnB;omega,A++[(i,w)],B,by simp,?_,rfl,l0,l1,l4,rfl⟩
   intro a b hx
   rcases List.mem_append.1 hx with hx | hx
   ·exact hA _ hx
   ·simp at hx;obtain⟨_,rfl⟩:=hx;exact hw
theorem vy (h:H_f14 F)(e:L q=some (.abs (y7 q ws))) :
  zd F k_f14 [.p (some (q,0))] L fun v L'=>match (generalizing:=false) ws with
   | []=>v=.tup [Wt.zero.av,.b false]∧L'=L
   | w::r=>v=.tup [w.av,.b true]∧L'=L.put q (.abs (y7 q r)):=by
 apply r_f14 h.code
 unfold D_f13
 simp
 intro rc hrc
 have hrq:rc≠q:=by rintro rfl;rw[e]at hrc;cases hrc
 have e2:(L.put rc (.raw (.cells [.i .i64 0,.i .i64 0,.i .i64 0]))) q=some (.abs (y7 q ws)):=by rw[zb _ _ _ (Ne.symm hrq)];exact e
 refine (WE h.f12 e2 (f:=N k_f13) (fst:=[]) (cap:=[]) (p:=fun _=>true) ?_).mono ?_
 ·intro w L' hL'
  apply r_f13 h.f13.code
  simp[D_f13_1,Wt.av]
  rw[zN _ _ _ (by simp[Wt.cells])]
  intro b hb
  exact zu.drop fun c d hc=>by
   have:c≠b:=by rintro rfl;rw[hb]at hc;cases hc
   rw[zb _ _ _ this];exact hc
 ·intro v L' hv
  have hs1:zu (L.put rc (.raw (.cells [.i .i64 0,.i .i64 0,.i .i64 0]))) L:=zu.drop fun c d hc=>by
   have:c≠rc:=by rintro rfl;rw[hrc]at hc;cases hc
   rw[zb _ _ _ this];exact hc
  cases ws with
  | nil =>
   simp only[Xa]at hv
   obtain⟨rfl,rfl⟩:=hv
   simp[Wt.av,Wt.cells,Wt.zero,zw (ze _ _ _),zo,zU _ _ (ze _ _ _)]
   simpa using hs1
  | cons w r =>
   simp only[Xa,if_true]at hv
   obtain⟨rfl,rfl⟩:=hv
   have e3:((L.put rc (.raw (.cells [.i .i64 0,.i .i64 0,.i .i64 0]))).put q (.abs (y7 q r))) rc=some (.raw (.cells [.i .i64 0,.i .i64 0,.i .i64 0])):=by
    rw[zb _ _ _ hrq,ze]
   simp[Wt.av,Wt.cells,zw e3,zo,zU _ _ (ze _ _ _)]
   apply zu.drop
   intro c d hc
   have:c≠rc:=by
    rintro rfl
    rw[zb _ _ _ hrq,hrc]at hc;cases hc
   rw[zb _ _ _ this,Lg.put_apply]
   rw[Lg.put_apply]at hc
   split
   ·rename_i h9;rw[if_pos h9]at hc;exact hc
   ·rename_i h9;rw[if_neg h9]at hc;rw[zb _ _ _ this];exact hc
def xV:List Wt→List AV
 | []=>[]
 | w::r=>w.cells++xV r
theorem Z5:∀(A B:List Wt),xV (A++B)=xV A++xV B
 | [],_=>rfl
 | w::A,B=>by simp[xV,Z5 A B]
theorem QOpen.onto {l:List (Nat×Wt)}{L1:Lg}(h:QOpen L q l L1){b:Nat}{c:LC}{L2:Lg}(hb:L1 b=none)(h2:yq L1 L2)(h3:L2 b=some c):QOpen (L.put b c) q l L2:=by
 have hx:=h.other h2
 refine⟨hx.nd,hx.root,hx.seg,?_,?_⟩
 ·intro d e hd he
  rw[Lg.put_apply]at he
  split at he
  ·rename_i h4;subst h4;cases he;exact h3
  ·exact hx.old d e hd he
 ·intro d hd
  have:d≠b:=by rintro rfl;exact Seg.some h.seg d hd hb
  rw[zb _ _ _ this]
  exact h.new d hd
theorem VP (h:H_f15 F)(e:L q=some (.abs (y7 q ws))) :
  zd F k_f15 [.p (some (q,0))] L fun v L'=>xu L v (xV ws) ws.length 3 L':=by
 apply ZZ e
 intro l L1 h1 h2 hq hn
 apply r_f15 h.code
 unfold D_f15_1 D_f15_2 D_f15_5
 generalize hQ:(fun (v:AV) (L':Lg)=>xu L v (xV ws) ws.length 3 L')=Q
 have hlen:l.length=ws.length:=by rw[←h1];simp
 simp[rdL,AB.read,zO,hq.root,D_f15_7]
 refine zQ (fun n l' L'=>∃A B v,l=A++B∧n=B.length∧yq L1 L'∧l' 2=v∧ZA L' v (xV (A.map (·.2))) A.length 3∧(∀b,slB v=some b→L1 b=none)∧l' 3=ptr (hd none B))
  l.length ⟨[],l,_,rfl,rfl,yq.refl _,rfl,.inl ⟨rfl,rfl,by simp⟩,by simp[slB],by simp⟩ ?_
 rintro n l' t L' ⟨A,B,v,rfl,hnB,hext,l2,hown,hfr,l3⟩
 unfold D_f15_8
 rw[l3,l2]
 cases B with
 | nil =>
  simp[D_f15_4]
  subst hQ
  simp only[List.append_nil]at h1 hlen hq
  rw[h1,hlen]at hown
  rcases hown with⟨h3,h4,rfl⟩ | ⟨b,h0,rfl,hL,hl⟩
  ·refine⟨L,?_,.inl ⟨h3,h4,rfl,rfl⟩⟩
   have:=(hq.other hext).shut (by simp at h2 ⊢;omega)
   rwa [h1,yc L q _ e]at this
  ·have hb1:=hfr b rfl
   have hqb:q≠b:=by rintro rfl;rw[hq.root]at hb1;cases hb1
   have hLb:L b=none:=by
    cases hL2:L b with
    | none=>rfl
    | some c=>rw[hq.keeps (Ne.symm hqb) hL2]at hb1;cases hb1
   refine⟨L.put b (.raw (.cells (xV ws))),?_,.inr ⟨b,3,hLb,by omega,rfl,hl,rfl⟩⟩
   have:=(hq.onto hb1 hext hL).shut (by simp at h2 ⊢;omega)
   rwa [h1,yc _ q]at this
   rw[zb _ _ _ hqb];exact e
 | cons x B =>
  obtain⟨i,w⟩:=x
  have hseg:=(Seg.append _ A ((i,w)::B) none none).1 (hq.other hext).seg
  have hi:=hseg.2.1
  simp[rdL,AB.read,zO,hi,xH,cut,zq]
  rw[yg (c:=w.cells) _ _ (by simp[y5,zE,xT,zo,Wt.cells,zq,zp]) (by simp[Wt.cells])]
  intro b1 hb1
  have hv1:ZA (L'.put b1 (.raw (.cells w.cells))) v (xV (A.map (·.2))) A.length 3:=by
   rcases hown with h5 | ⟨b,h0,rfl,hL,hl⟩
   ·exact .inl h5
   ·refine .inr ⟨b,h0,rfl,?_,hl⟩
    have:b≠b1:=by rintro rfl;rw[hL]at hb1;cases hb1
    rw[zb _ _ _ this];exact hL
  simp
  refine ZA.app hv1 (by omega) rfl (m:=1) (new:=w.cells) (by omega) (by simp[zF,AB.read,cut,Wt.cells,zq]) rfl (by simp[Wt.cells]) (by simp at h2;omega) ?_
  intro b2 hb2
  have hb2':b2≠b1:=by rintro rfl;simp at hb2
  rw[zb _ _ _ hb2']at hb2
  have hext2:yq L1 (((L'.put b1 (.raw (.cells w.cells))).delO (slB v)).put b2 (.raw (.cells (xV (A.map (·.2))++w.cells)))) :=
   ((hext.put (hext.none hb1) _).delO hfr).put (hext.none hb2) _
  have hi2:=((Seg.append _ A ((i,w)::B) none none).1 (hq.other hext2).seg).2.1
  simp[rdL,AB.read,zO,hi2,xH]
  refine⟨B.length,by simp at hnB;omega,A++[(i,w)],B,by simp,rfl,hext2,?_,?_,rfl⟩
  ·have:=ZA.of_app (b:=b2) hv1 (new:=w.cells) (m:=1) (by omega) rfl
   simpa[Z5,xV]using this
  ·intro b hb;simp[slB]at hb;subst hb;exact hext.none hb2
end
end
section
variable {F:Nat→Option AFn}
structure Ch where
 vals:List Int
 cap:Nat
 recvs:List Wt
 sends:List Wt
 timed:Bool
 signal:Bool
 closed:Bool
structure Wk where
 t:Int
 c:Int
 v:Int
 ok:Bool
 panic:Bool
 deriving DecidableEq
def Wk.cells (w:Wk):List AV:=[.i .i64 w.t,.i .i64 w.c,.i .i64 w.v,.b w.ok,.b w.panic]
def yp:List Wk→List AV
 | []=>[]
 | w::r=>w.cells++yp r
def vN (rg q1 q2:Nat)(x:Ch):LC:=.raw (.cells [.p (some (rg,0)),.p (some (q1,0)),.p (some (q2,0)),.b x.timed,.b x.signal,.b x.closed])
structure COpen (L:Lg)(c:Nat)(x:Ch)(rg q1 q2:Nat)(L1:Lg):Prop where
 n1:rg≠c
 n2:q1≠c
 n3:q2≠c
 n4:rg≠q1
 n5:rg≠q2
 n6:q1≠q2
 root:L1 c=some (vN rg q1 q2 x)
 ring:L1 rg=some (.abs (ZU rg x.vals x.cap))
 rcv:L1 q1=some (.abs (y7 q1 x.recvs))
 snd:L1 q2=some (.abs (y7 q2 x.sends))
 old:∀b d,b≠c→b≠rg→b≠q1→b≠q2→L b=some d→L1 b=some d
 f1:L rg=none
 f2:L q1=none
 f3:L q2=none
def yu (c:Nat)(x:Ch)(h:Hp):Prop:=∃(rg q1 q2:Nat) (M:Lg),rg≠c∧q1≠c∧q2≠c∧rg≠q1∧rg≠q2∧q1≠q2∧M c=some (vN rg q1 q2 x)∧M rg=some (.abs (ZU rg x.vals x.cap)) ∧
 M q1=some (.abs (y7 q1 x.recvs))∧M q2=some (.abs (y7 q2 x.sends))∧(∀b,b≠c→b≠rg→b≠q1→b≠q2→M b=none)∧Sat M h
section
variable {L L1:Lg} {c rg q1 q2:Nat} {x:Ch}
theorem COpen.shut (h:COpen L c x rg q1 q2 L1):zu L1 (L.put c (.abs (yu c x))):=by
 refine yW (fun b=>b=c∨b=rg∨b=q1∨b=q2) (.inl rfl) ?_ ?_ (.inl ⟨_,h.root⟩) ?_
 ·intro b d hb hd
  simp only[not_or]at hb
  exact h.old b d hb.1 hb.2.1 hb.2.2.1 hb.2.2.2 hd
 ·rintro b (rfl | rfl | rfl | rfl) hb
  ·exact absurd rfl hb
  ·exact h.f1
  ·exact h.f2
  ·exact h.f3
 ·intro M hp hM hN hs
  refine⟨rg,q1,q2,M,h.n1,h.n2,h.n3,h.n4,h.n5,h.n6,?_,?_,?_,?_,?_,hs⟩
  ·rw[hM c (.inl rfl)];exact h.root
  ·rw[hM rg (.inr (.inl rfl))];exact h.ring
  ·rw[hM q1 (.inr (.inr (.inl rfl)))];exact h.rcv
  ·rw[hM q2 (.inr (.inr (.inr rfl)))];exact h.snd
  ·intro b b1 b2 b3 b4;exact hN b (by simp[b1,b2,b3,b4])
theorem wZ {f:Nat}{vs:List AV}{Q:AV→Lg→Prop}(e:L c=some (.abs (yu c x)))
  (h:∀rg q1 q2 L1,COpen L c x rg q1 q2 L1→zd F f vs L1 Q):zd F f vs L Q:=by
 apply yX e
 rintro hm ⟨rg,q1,q2,M,n1,n2,n3,n4,n5,n6,m1,m2,m3,m4,m5,hs⟩
 refine⟨M,hs,by rw[m1];simp,fun hf=>?_⟩
 have hover:∀b d,M b=some d→(M.over L) b=some d:=fun b d hb=>by simp[Lg.over,hb]
 exact h rg q1 q2 (M.over L) ⟨n1,n2,n3,n4,n5,n6,hover _ _ m1,hover _ _ m2,hover _ _ m3,hover _ _ m4,
  fun b d b1 b2 b3 b4 hd=>by simp[Lg.over,m5 b b1 b2 b3 b4,hd],hf _ _ m2 n1,hf _ _ m3 n2,hf _ _ m4 n3⟩
theorem COpen.ext (h:COpen L c x rg q1 q2 L1){L2:Lg}(h2:yq L1 L2):COpen L c x rg q1 q2 L2 :=
 ⟨h.n1,h.n2,h.n3,h.n4,h.n5,h.n6,h2 _ _ h.root,h2 _ _ h.ring,h2 _ _ h.rcv,h2 _ _ h.snd,fun b d b1 b2 b3 b4 hd=>h2 _ _ (h.old b d b1 b2 b3 b4 hd),h.f1,h.f2,h.f3⟩
theorem COpen.setRing (h:COpen L c x rg q1 q2 L1)(ys:List Int):COpen L c { x with vals:=ys } rg q1 q2 (L1.put rg (.abs (ZU rg ys x.cap))) :=
 ⟨h.n1,h.n2,h.n3,h.n4,h.n5,h.n6,by rw[zb _ _ _ (Ne.symm h.n1)];exact h.root,ze _ _ _,by rw[zb _ _ _ (Ne.symm h.n4)];exact h.rcv,by rw[zb _ _ _ (Ne.symm h.n5)];exact h.snd,
  fun b d b1 b2 b3 b4 hd=>by rw[zb _ _ _ b2];exact h.old b d b1 b2 b3 b4 hd,h.f1,h.f2,h.f3⟩
theorem COpen.setRcv (h:COpen L c x rg q1 q2 L1)(ws:List Wt):COpen L c { x with recvs:=ws } rg q1 q2 (L1.put q1 (.abs (y7 q1 ws))) :=
 ⟨h.n1,h.n2,h.n3,h.n4,h.n5,h.n6,by rw[zb _ _ _ (Ne.symm h.n2)];exact h.root,by rw[zb _ _ _ h.n4];exact h.ring,ze _ _ _,by rw[zb _ _ _ (Ne.symm h.n6)];exact h.snd,
  fun b d b1 b2 b3 b4 hd=>by rw[zb _ _ _ b3];exact h.old b d b1 b2 b3 b4 hd,h.f1,h.f2,h.f3⟩
theorem COpen.setSnd (h:COpen L c x rg q1 q2 L1)(ws:List Wt):COpen L c { x with sends:=ws } rg q1 q2 (L1.put q2 (.abs (y7 q2 ws))) :=
 ⟨h.n1,h.n2,h.n3,h.n4,h.n5,h.n6,by rw[zb _ _ _ (Ne.symm h.n3)];exact h.root,by rw[zb _ _ _ h.n5];exact h.ring,by rw[zb _ _ _ h.n6];exact h.rcv,ze _ _ _,
  fun b d b1 b2 b3 b4 hd=>by rw[zb _ _ _ b4];exact h.old b d b1 b2 b3 b4 hd,h.f1,h.f2,h.f3⟩
theorem COpen.setRoot (h:COpen L c x rg q1 q2 L1)(a b d:Bool):COpen L c { x with timed:=a,signal:=b,closed:=d } rg q1 q2 (L1.put c (vN rg q1 q2 { x with timed:=a,signal:=b,closed:=d })) :=
 ⟨h.n1,h.n2,h.n3,h.n4,h.n5,h.n6,ze _ _ _,by rw[zb _ _ _ h.n1];exact h.ring,by rw[zb _ _ _ h.n2];exact h.rcv,by rw[zb _ _ _ h.n3];exact h.snd,
  fun b d b1 b2 b3 b4 hd=>by rw[zb _ _ _ b1];exact h.old b d b1 b2 b3 b4 hd,h.f1,h.f2,h.f3⟩
theorem COpen.back (h:COpen L c x rg q1 q2 L1)(e:L c=some (.abs (yu c x))):zu L1 L:=by
 have:=h.shut
 rwa [yc L c _ e]at this
theorem COpen.onto (h:COpen L c x rg q1 q2 L1){b:Nat}{d:LC}(hb:L1 b=none):COpen (L.put b d) c x rg q1 q2 (L1.put b d):=by
 have e:=h.ext ((yq.refl L1).put hb d)
 have nb:∀{r:Nat} {k:LC},L1 r=some k→r≠b:=fun hr hrb=>by rw[hrb,hb]at hr;cases hr
 refine⟨h.n1,h.n2,h.n3,h.n4,h.n5,h.n6,e.root,e.ring,e.rcv,e.snd,?_,?_,?_,?_⟩
 ·intro r k b1 b2 b3 b4 hk
  rw[Lg.put_apply]at hk ⊢
  split
  ·rename_i h9;rw[if_pos h9]at hk;exact hk
  ·rename_i h9;rw[if_neg h9]at hk;exact h.old r k b1 b2 b3 b4 hk
 ·rw[zb _ _ _ (nb h.ring)];exact h.f1
 ·rw[zb _ _ _ (nb h.rcv)];exact h.f2
 ·rw[zb _ _ _ (nb h.snd)];exact h.f3
theorem COpen.none (h:COpen L c x rg q1 q2 L1){b:Nat}(hb:L1 b=none):b≠c∧L b=none:=by
 have nb:∀{r:Nat} {k:LC},L1 r=some k→b≠r:=fun hr hrb=>by rw[←hrb,hb]at hr;cases hr
 refine⟨nb h.root,?_⟩
 cases e:L b with
 | none=>rfl
 | some d=>rw[h.old b d (nb h.root) (nb h.ring) (nb h.rcv) (nb h.snd) e]at hb;cases hb
theorem zez (hf:H_f56 F)(h:COpen L c x rg q1 q2 L1):zd F k_f56 [.p (some (c,0))] L1 fun v L'=>v=.b (x.timed||x.signal)∧L'=L1:=by
 apply r_f56 hf.code
 cases h1:x.timed<;>simp[D_f56_1,rdL,AB.read,zO,h.root,vN,h1]
theorem zeT (hf:H_f57 F)(h:COpen L c x rg q1 q2 L1)(send:Bool):zd F k_f57 [.p (some (c,0)),.b send] L1 fun v L'=>v=.b (if send=true then decide (x.vals.length<x.cap)else decide (0<x.vals.length))∧L'=L1:=by
 apply r_f57 hf.code
 cases send
 ·simp[D_f57_1,rdL,AB.read,zO,h.root,vN]
  refine (YW hf.f6 h.ring).mono ?_
  rintro _ _ ⟨rfl,rfl⟩
  simp
 ·simp[D_f57_1,rdL,AB.read,zO,h.root,vN]
  refine (YW hf.f6 h.ring).mono ?_
  rintro _ _ ⟨rfl,rfl⟩
  simp[rdL,AB.read,zO,h.root,vN]
  refine (VM hf.f7 h.ring).mono ?_
  rintro _ _ ⟨rfl,rfl⟩
  simp[z8,yB,Xm,rdL,AB.read,zO,h.root,vN,vk,YD]
theorem Vb (hf:H_f58 F)(h:COpen L c x rg q1 q2 L1)(send:Bool):zd F k_f58 [.p (some (c,0)),.b send] L1 fun v L'=>v=.p (some (if send=true then q2 else q1,0))∧L'=L1:=by
 apply r_f58 hf.code
 cases send<;>simp[D_f58_1,rdL,AB.read,zO,h.root,vN]
def Ch.wait (x:Ch)(send:Bool):List Wt:=if send=true then x.sends else x.recvs
def Ch.mute (x:Ch):Bool:=x.timed||x.signal
def Ch.free (x:Ch)(send:Bool):Bool:=if send=true then decide (x.vals.length<x.cap)else decide (0<x.vals.length)
theorem UB (hf:H_f95 F)(h:COpen L c x rg q1 q2 L1)(send:Bool):zd F k_f95 [.p (some (c,0)),.b send] L1 fun v L'=>xu L1 v (xV (x.wait send)) (x.wait send).length 3 L':=by
 apply r_f95 hf.code
 unfold D_f95_1
 refine (Vb hf.f58 h send).mono ?_
 rintro _ L1 ⟨rfl,rfl⟩
 have e:L1 (if send=true then q2 else q1)=some (.abs (y7 (if send=true then q2 else q1) (x.wait send))):=by
  cases send
  ·exact h.rcv
  ·exact h.snd
 refine (VP hf.f15 e).mono ?_
 intro v L' hv
 simp
 exact⟨L',zu.refl _,hv⟩
theorem zfg (hf:H_f50 F)(e:L c=some (.abs (yu c x))):zd F k_f50 [.p (some (c,0))] L fun v L' =>
  if x.timed=true then v=.b (decide (0<x.vals.length))∧L'=L.put c (.abs (yu c { x with vals:=[] }))else v=.b false∧L'=L:=by
 apply wZ e
 intro rg q1 q2 L1 h
 apply r_f50 hf.code
 unfold D_f50_1
 cases ht:x.timed
 ·simpa[rdL,AB.read,zO,h.root,vN,ht]using h.back e
 ·simp[rdL,AB.read,zO,h.root,vN,ht]
  refine (WB hf.f8 h.ring).mono ?_
  rintro _ L2 ⟨rfl,rfl⟩
  simpa[ht]using (h.setRing []).shut
theorem zaj (hf:H_f50 F):zd F k_f50 [.p none] L fun v L'=>v=.b false∧L'=L:=by
 apply r_f50 hf.code
 simp[D_f50_1]
theorem zaU (hf:H_f47 F)(v:Int):zd F k_f47 [.p none,.i .i64 v] L fun v L'=>v=.tup [.sl none 0 0 0,.b false]∧L'=L:=by
 apply r_f47 hf.code
 simp[D_f47_1]
theorem zao (hf:H_f46 F)(h:COpen L c x rg q1 q2 L1)(v:Int):zd F k_f46 [.p (some (c,0)),.i .i64 v] L1 fun r L'=>match (generalizing:=false) x.recvs with
  | []=>r=.sl none 0 0 0∧L'=L1
  | w::ws=>xu (L1.put q1 (.abs (y7 q1 ws))) r (yp [⟨w.t,w.c,v,true,false⟩]) 1 5 L':=by
 apply r_f46 hf.code
 unfold D_f46_1
 simp[rdL,AB.read,zO,h.root,vN]
 refine (vy hf.f14 h.rcv).mono ?_
 intro r L' hr
 cases hx:x.recvs with
 | nil =>
  simp only[hx]at hr
  obtain⟨rfl,rfl⟩:=hr
  simp[Wt.av]
  intro b hb
  rw[zw (ze _ _ _) (by simp[Wt.cells]) (by simp[Wt.cells]) (by simp)]
  simp
  exact ((yq.refl L').put hb _).sees
 | cons w ws =>
  simp only[hx]at hr
  obtain⟨rfl,rfl⟩:=hr
  simp[Wt.av]
  intro b hb
  rw[zw (ze _ _ _) (by simp[Wt.cells]) (by simp[Wt.cells]) (by simp),zA]
  simp[Wt.cells,zo,rdL,AB.read,zO,zE,zp,zq]
  rw[yg (c:=[.i .i64 w.t,.i .i64 w.c,.i .i64 v,.b true,.b false]) _ _ (by simp[y5,zE,xT,zo,zq,zp]) (by simp)]
  intro d hd
  have hdb:d≠b:=by rintro rfl;simp at hd
  rw[zb _ _ _ hdb]at hd
  refine⟨(L1.put q1 (.abs (y7 q1 ws))).put d (.raw (.cells [.i .i64 w.t,.i .i64 w.c,.i .i64 v,.b true,.b false])),?_,.inr ⟨d,0,hd,by omega,rfl,rfl,by simp[yp,Wk.cells]⟩⟩
  rw[yJ _ (Ne.symm hdb)]
  apply yq.sees
  refine (yq.refl _).put ?_ _
  rw[zb _ _ _ (Ne.symm hdb)];exact hb
def Ch.put (x:Ch)(v:Int):Ch×List Wk×Bool :=
 if x.timed=true then match x.recvs with
  | w::ws=>({ x with recvs:=ws },[⟨w.t,w.c,v,true,false⟩],true)
  | []=>if x.vals.length=x.cap then (x,[],false)else ({ x with vals:=x.vals++[v] },[],true)
 else (x,[],false)
theorem zf1 (hf:H_f47 F)(e:L c=some (.abs (yu c x)))(v:Int):zd F k_f47 [.p (some (c,0)),.i .i64 v] L fun r L'=>∃s,r=.tup [s,.b (x.put v).2.2] ∧
  xu (L.put c (.abs (yu c (x.put v).1))) s (yp (x.put v).2.1) (x.put v).2.1.length 5 L':=by
 apply wZ e
 intro rg q1 q2 L1 h
 apply r_f47 hf.code
 unfold D_f47_1
 cases ht:x.timed
 ·simp[rdL,AB.read,zO,h.root,vN,ht,Ch.put]
  exact⟨L,h.back e,.inl ⟨rfl,rfl,rfl,by simp[e]⟩⟩
 ·simp[rdL,AB.read,zO,h.root,vN,ht]
  refine (zao hf.f46 h v).mono ?_
  intro r L' hr
  cases hx:x.recvs with
  | nil =>
   simp only[hx]at hr
   obtain⟨rfl,rfl⟩:=hr
   simp[rdL,AB.read,zO,h.root,vN]
   refine (VN hf.f4 h.ring v).mono ?_
   intro r L2 hr
   by_cases hc:x.vals.length=x.cap
   ·simp only[hc,if_true]at hr
    obtain⟨rfl,rfl⟩:=hr
    simp[Ch.put,ht,hx,hc]
    exact⟨L,h.back e,.inl ⟨rfl,rfl,rfl,by simp[e]⟩⟩
   ·simp only[hc,if_false]at hr
    obtain⟨rfl,rfl⟩:=hr
    simp[Ch.put,ht,hx,hc]
    exact⟨_,(h.setRing (x.vals++[v])).shut,.inl ⟨rfl,rfl,rfl,by simp[ht,hx]⟩⟩
  | cons w ws =>
   simp only[hx]at hr
   rcases hr with⟨h1,_⟩ | ⟨b,ex,hb,h0,rfl,h2,rfl⟩
   ·cases h1
   ·simp[Ch.put,ht,hx]
    have h3:=h.setRcv ws
    have hn:=h3.none hb
    refine⟨_,(h3.onto hb).shut,.inr ⟨b,ex,?_,by omega,rfl,rfl,?_⟩⟩
    ·rw[zb _ _ _ hn.1];exact hn.2
    ·rw[yJ _ hn.1];simp[ht]
theorem zbP (a b c:AV)(w:Wt):zo [a,b,c] 0 w.cells=w.cells:=by simp[zo,Wt.cells]
theorem zar (hf:H_f22 F)(n:Nat)(hn:n≤64):zd F k_f22 [.i .i64 n] L fun r L'=>∃c rg q1 q2,L c=none∧r=.tup [.p (some (c,0)),.i .i64 0]∧COpen L c ⟨[],n,[],[],false,false,false⟩ rg q1 q2 L':=by
 apply r_f22 hf.code
 unfold D_f22_1
 refine (UQ hf.f9 n hn).mono ?_
 rintro _ _ ⟨rg,hrg,rfl,rfl⟩
 simp
 refine (Yb hf.f18).mono ?_
 rintro _ _ ⟨q1,h1,rfl,rfl⟩
 refine (Yb hf.f18).mono ?_
 rintro _ _ ⟨q2,h2,rfl,rfl⟩
 have n1:q1≠rg:=by rintro rfl;simp at h1
 have n2:q2≠q1:=by rintro rfl;simp at h2
 have n3:q2≠rg:=by rintro rfl;rw[zb _ _ _ n2,ze]at h2;cases h2
 rw[zb _ _ _ n1]at h1
 rw[zb _ _ _ n2,zb _ _ _ n3]at h2
 simp[zE,zo,zq,zp]
 rw[zN _ _ _ (by simp)]
 intro c hc
 have n4:c≠q2:=by rintro rfl;simp at hc
 have n5:c≠q1:=by rintro rfl;simp[Lg.put_apply,Ne.symm n2]at hc
 have n6:c≠rg:=by rintro rfl;simp[Lg.put_apply,Ne.symm n1,Ne.symm n3]at hc
 rw[zb _ _ _ n4,zb _ _ _ n5,zb _ _ _ n6]at hc
 refine⟨_,zu.refl _,c,rg,q1,q2,hc,rfl,Ne.symm n6,Ne.symm n5,Ne.symm n4,Ne.symm n1,Ne.symm n3,Ne.symm n2,ze _ _ _,?_,?_,?_,?_,hrg,h1,h2⟩
 ·simp[Lg.put_apply,Ne.symm n6,Ne.symm n1,Ne.symm n3]
 ·simp[Lg.put_apply,Ne.symm n5,Ne.symm n2]
 ·simp[Lg.put_apply,Ne.symm n4]
 ·intro b d b1 b2 b3 b4 hd;simp[Lg.put_apply,b1,b2,b3,b4,hd]
theorem Uz:∀(ws:List Wt) (i:Nat) (w:Wt),ws[i]?=some w→((xV ws).drop (i * 3)).take 3=w.cells∧i * 3+3≤(xV ws).length
 | [],i,w,h=>by simp at h
 | a::r,0,w,h=>by simp at h;subst h;simp[xV,Wt.cells]
 | a::r,i+1,w,h=>by
  have:=Uz r i w (by simpa using h)
  have e:(i+1) * 3=i * 3+1+1+1:=by omega
  rw[e]
  simp only[xV,Wt.cells,List.cons_append,List.nil_append,List.drop_succ_cons,List.length_cons]
  exact⟨this.1,by omega⟩
def SlW (L:Lg)(s:AV)(ws:List Wt):Prop:=(ws=[]∧s=.sl none 0 0 0)∨∃b ex,s=.sl (some (b,0)) ws.length ws.length ex∧L b=some (.raw (.cells (xV ws)))
theorem WK (hf:H_f97 F){s:AV}{ws:List Wt}(hs:SlW L s ws)(hl:ws.length≤1000000){f:Nat}{fst cap:List AV}{p:Wt→Bool}
  (hso:∀w:Wt,zd F f (fst++w.av::cap) L fun v L'=>v=.b (p w)∧L'=L):zd F k_f97 [s,.fn f fst cap] L fun v L'=>v=.b (ws.any p)∧L'=L:=by
 apply r_f97 hf.code
 unfold D_f97_1
 have key:zd F k_f96 [s,.fn f fst cap] L fun v L'=>(∃i:Int,v=.i .i64 i∧(decide (0≤i)=ws.any p))∧L'=L:=by
  apply r_f96 hf.f96.code
  unfold D_f96_1 D_f96_4
  obtain⟨a,cp,ex,hsl⟩:∃a cp ex,s=.sl a ws.length cp ex:=by
   rcases hs with⟨rfl,rfl⟩ | ⟨b,ex,rfl,_⟩
   ·exact⟨none,0,0,rfl⟩
   ·exact⟨_,_,_,rfl⟩
  simp[hsl,D_f96_6]
  refine zQ (fun n l' L'=>∃i:Nat,i≤ws.length∧n=ws.length-i∧(∀x,x∈ws.take i→p x=false)∧L'=L∧l' 0=s∧l' 1=.fn f fst cap∧l' 7=.i .i64 ws.length∧l' 8=.i .i64 i)
   ws.length ⟨0,by omega,by omega,by simp,rfl,by simp[hsl],by simp,by simp,by simp⟩ ?_
  rintro n l' t L' ⟨i,hi,hn,hA,rfl,l0,l1,l7,l8⟩
  unfold D_f96_7
  rw[l0,l1,l7,l8]
  by_cases hlt:i<ws.length
  ·have hne:ws≠[]:=by rintro rfl;simp at hlt
   rcases hs with⟨h1,_⟩ | ⟨b,ex,rfl,hL⟩
   ·exact absurd h1 hne
   have hw:ws[i]?=some ws[i]:=List.getElem?_eq_getElem hlt
   have hat:=Uz ws i _ hw
   have e1:((i:Int)<(ws.length:Int)):=by omega
   simp[hlt,yF _ _ _ 3 b 0 ws.length ws.length ex .i64 (i:Int) (Int.natCast_nonneg _) e1,rdL,AB.read,zO,hL,cut,zq,hat.2,hat.1]
   refine (hso ws[i]).mono ?_
   rintro _ L2 ⟨rfl,rfl⟩
   rw[xE]
   refine⟨fun hp=>?_,fun hp=>?_⟩
   ·simp
    have:ws.any p=true:=List.any_eq_true.2 ⟨ws[i],List.getElem_mem _,hp⟩
    simpa using this
   ·have e2:wr .i64 ((i:Int)+1)=((i+1:Nat):Int):=by rw[zS (by omega) (by omega)];omega
    simp
    refine⟨ws.length-(i+1),by omega,i+1,by omega,rfl,?_,l0,l1,l7,e2⟩
    intro x hx
    rw[List.take_add_one,hw]at hx
    rcases List.mem_append.1 hx with hx | hx
    ·exact hA x hx
    ·simp at hx;rw[hx];exact hp
  ·have e1:¬((i:Int)<(ws.length:Int)):=by omega
   have e2:i=ws.length:=by omega
   simp[hlt,D_f96_3]
   rw[e2,List.take_length]at hA
   simpa using hA
 refine key.mono ?_
 rintro _ _ ⟨⟨i,rfl,hi⟩,rfl⟩
 simp[←hi]
theorem xu.slW {v:AV}{ws:List Wt}{L':Lg}(h:xu L v (xV ws) ws.length 3 L'):SlW L' v ws:=by
 rcases h with⟨h1,h2,rfl,rfl⟩ | ⟨b,ex,h1,h2,rfl,h3,rfl⟩
 ·exact .inl ⟨List.length_eq_zero_iff.1 h1,rfl⟩
 ·exact .inr ⟨b,ex,rfl,ze _ _ _⟩
theorem xu.ext {v:AV}{cs:List AV}{n size:Nat}{L':Lg}(h:xu L v cs n size L'):yq L L':=by
 rcases h with⟨h1,h2,rfl,rfl⟩ | ⟨b,ex,h1,h2,rfl,h3,rfl⟩
 ·exact yq.refl _
 ·exact (yq.refl _).put h1 _
def Ch.waits (x:Ch)(w:Wt)(send:Bool):Ch×Int :=
 if (x.mute&&send)=true then (x,7)else if x.closed=true then (x,5)
 else if (x.free send||(x.wait (!send)).any fun y=>!decide (y.t=w.t))=true then (x,1)
 else (if send=true then { x with sends:=x.sends++[w] }else { x with recvs:=x.recvs++[w] },0)
theorem UC (hf:H_f98 F){K:Lg}(h1:COpen L c x rg q1 q2 K)(w:Wt)(send:Bool)(hl1:(x.wait send).length<1000000)(hl2:(x.wait (!send)).length≤1000000){b0:Nat}(hb0:K b0=some (.raw (.cells w.cells)))
  (hb1:b0≠c∧b0≠rg∧b0≠q1∧b0≠q2) (hm:(x.mute&&send)=false) {Q:AV→Lg→Prop}
  (fin:∀(y:Ch) (k:Int) {K:Lg},x.waits w send=(y,k)→zu K (L.put c (.abs (yu c y)))→zl (some (.i .i64 k)) Q K) (e:L c=some (.abs (yu c x))) :
 za F .nilchk [.p (some (c,0))] K fun v6 L6 =>
 za F (.fad 5) [v6] L6 fun v7 L7 =>
 za F (.ld none) [v7] L7 fun v8 L8 =>
 zn v8
 (zl (some (.i .i64 5)) Q L8)
 (za F (.mkfn k_f94 0) [.p (some (b0,0))] L8 fun v9 L9 =>
 zd F k_f57 [.p (some (c,0)),.b send] L9 fun v10 L10 =>
 zi F v10 false .mv [.p (some (c,0))] L10 fun v11 L11 =>
 zi F v10 false .mv [.b send] L11 fun v12 L12 =>
 zi F v10 false (.un .not) [v12] L12 fun v13 L13 =>
 zi F v10 false (.call k_f95) [v11,v13] L13 fun v14 L14 =>
 zi F v10 false .mv [v9] L14 fun v15 L15 =>
 zi F v10 false (.call k_f97) [v14,v15] L15 fun v16 L16 =>
 za F .pick [v10,(.b true),v16] L16 fun v17 L17 =>
 zn v17
 (zl (some (.i .i64 1)) Q L17)
 (zd F k_f58 [.p (some (c,0)),.b send] L17 fun v18 L18 =>
 za F (.ld (some 3)) [.p (some (b0,0))] L18 fun v19 L19 =>
 zd F k_f16 [v18,v19] L19 fun v20 L20 =>
 (z8 (.ld (some 3)) [.p (some (b0,0))] L18 L17∧True)∧(zl (some (.i .i64 0)) Q L20))):=by
 have same:∀{K:Lg} (h1:COpen L c x rg q1 q2 K) (k:Int),x.waits w send=(x,k)→zl (some (.i .i64 k)) Q K:=by
  intro K h1 k hk
  refine fin x k hk ?_
  rw[yc L c _ e]
  exact h1.back e
 simp[rdL,AB.read,zO,h1.root,vN]
 cases hc:x.closed
 ·simp
  refine (zeT hf.f57 h1 send).mono ?_
  rintro _ K ⟨rfl,rfl⟩
  have hfr:(if send=true then decide (x.vals.length<x.cap)else decide (0<x.vals.length))=x.free send:=rfl
  rw[hfr]
  have push:∀{K:Lg} (h1:COpen L c x rg q1 q2 K),K b0=some (.raw (.cells w.cells))→(x.free send||(x.wait (!send)).any fun y=>!decide (y.t=w.t))=false →
    zd F k_f58 [.p (some (c,0)),.b send] K fun v18 L18=>za F (.ld (some 3)) [.p (some (b0,0))] L18 fun v19 L19=>zd F k_f16 [v18,v19] L19 fun v20 L20 =>
     (z8 (.ld (some 3)) [.p (some (b0,0))] L18 K∧True)∧(zl (some (.i .i64 0)) Q L20):=by
   intro K h1 hb0 hn
   refine (Vb hf.f58 h1 send).mono ?_
   rintro _ K ⟨rfl,rfl⟩
   have e4:K (if send=true then q2 else q1)=some (.abs (y7 (if send=true then q2 else q1) (x.wait send))):=by
    cases send
    ·exact h1.rcv
    ·exact h1.snd
   simp[yj hb0 (show 0+3≤w.cells.length by simp[Wt.cells])]
   refine (WG hf.f16 e4 w hl1).mono ?_
   rintro _ K2 ⟨rfl,rfl⟩
   refine⟨⟨?_,trivial⟩,?_⟩
   ·simp[z8,yB,Xm,yj hb0 (show 0+3≤w.cells.length by simp[Wt.cells]),vk,zaR,YD,Wt.cells,wR,kEq]
   ·cases send
    ·exact fin { x with recvs:=x.recvs++[w] } 0 (by simp only[Ch.waits,hm,hc,hn];simp) (h1.setRcv (x.recvs++[w])).shut
    ·exact fin { x with sends:=x.sends++[w] } 0 (by simp only[Ch.waits,hm,hc,hn];simp) (h1.setSnd (x.sends++[w])).shut
  cases hfree:x.free send
  ·simp
   refine (UB hf.f95 h1 (!send)).mono ?_
   intro v14 L14 hv
   have h2:=h1.ext hv.ext
   have hb2:=hv.ext b0 _ hb0
   simp
   refine (WK hf.f97 hv.slW hl2 (f:=N k_f94) (fst:=[]) (cap:=[.p (some (b0,0))]) (p:=fun y=>!decide (y.t=w.t)) ?_).mono ?_
   ·intro y
    apply r_f94 hf.f94.code
    unfold D_f94_1 Wt.av
    simp
    rw[zN _ _ _ (by simp[Wt.cells])]
    intro b hb
    have hbb:b0≠b:=by rintro rfl;rw[hb]at hb2;cases hb2
    simp[rdL,AB.read,zO,Lg.put_apply,hbb,hb2,Wt.cells]
    exact ((yq.refl _).put hb _).sees
   ·rintro _ K2 ⟨rfl,rfl⟩
    simp
    rw[xE]
    refine⟨fun ha=>?_,fun ha=>?_⟩
    ·exact same h2 1 (by simp only[Ch.waits,hm,hc,hfree,ha,Bool.false_or,if_true,Bool.false_eq_true,if_false])
    ·exact push h2 hb2 (by rw[hfree,ha];rfl)
  ·simp
   exact same h1 1 (by simp only[Ch.waits,hm,hc,hfree];simp)
 ·simp
  exact same h1 5 (by simp only[Ch.waits,hm,hc];simp)
theorem zdR (hf:H_f98 F)(e:L c=some (.abs (yu c x)))(w:Wt)(send:Bool)(hl1:(x.wait send).length<1000000)(hl2:(x.wait (!send)).length≤1000000) :
  zd F k_f98 [.p (some (c,0)),w.av,.b send] L fun v L'=>v=.i .i64 (x.waits w send).2∧L'=L.put c (.abs (yu c (x.waits w send).1)):=by
 apply wZ e
 intro rg q1 q2 L1 h
 apply r_f98 hf.code
 unfold D_f94 Wt.av
 generalize hQ:(fun (v:AV) (L':Lg)=>v=.i .i64 (x.waits w send).2∧L'=L.put c (.abs (yu c (x.waits w send).1)))=Q
 simp
 rw[zN _ _ _ (by simp[Wt.cells])]
 intro b0 hb0
 have h1:=h.ext ((yq.refl _).put hb0 (.raw (.cells w.cells)))
 simp
 refine (zez hf.f56 h1).mono ?_
 rintro _ K ⟨rfl,rfl⟩
 have key2:(x.timed||x.signal)=x.mute:=rfl
 rw[key2]
 have hback:=h1.back e
 have fin:∀(y:Ch) (k:Int) {K:Lg},x.waits w send=(y,k)→zu K (L.put c (.abs (yu c y)))→zl (some (.i .i64 k)) Q K:=by
  intro y k K hy hs
  subst hQ
  refine⟨_,hs,?_⟩
  simp only[hy]
  exact⟨trivial,trivial⟩
 have same:∀(k:Int),x.waits w send=(x,k)→zl (some (.i .i64 k)) Q (L1.put b0 (.raw (.cells w.cells))):=by
  intro k hk
  refine fin x k hk ?_
  rw[yc L c _ e]
  exact hback
 have hb2:b0≠c∧b0≠rg∧b0≠q1∧b0≠q2:=by
  refine⟨?_,?_,?_,?_⟩<;>rintro rfl
  ·rw[h.root]at hb0;cases hb0
  ·rw[h.ring]at hb0;cases hb0
  ·rw[h.rcv]at hb0;cases hb0
  ·rw[h.snd]at hb0;cases hb0
 cases hmm:x.mute
 ·simp
  exact UC hf h1 w send hl1 hl2 (ze _ _ _) hb2 (by rw[hmm];rfl) fin e
 ·cases send
  ·simp
   exact UC hf h1 w false hl1 hl2 (ze _ _ _) hb2 (by rw[hmm];rfl) fin e
  ·simp
   exact same 7 (by simp[Ch.waits,hmm])
end
end
section
def enc (ks:List (Int×Int)):List (AV×AV):=ks.map fun x=>(.i .i64 x.1,.i .i64 x.2)
def vZ (k:Int):List (Int×Int)→Option Int
 | []=>none
 | (a,v)::r=>if a=k then some v else vZ k r
def zgE (k v:Int):List (Int×Int)→List (Int×Int)
 | []=>[(k,v)]
 | (a,u)::r=>if a=k then (a,v)::r else (a,u)::zgE k v r
def zgT (k:Int):List (Int×Int)→List (Int×Int)
 | []=>[]
 | (a,u)::r=>if a=k then r else (a,u)::zgT k r
theorem zc7 (k a v:Int)(r:List (Int×Int)):vZ k ((a,v)::r)=if a=k then some v else vZ k r:=rfl
theorem XE (k v a u:Int)(r:List (Int×Int)):zgE k v ((a,u)::r)=if a=k then (a,v)::r else (a,u)::zgE k v r:=rfl
theorem Wh (k a u:Int)(r:List (Int×Int)):zgT k ((a,u)::r)=if a=k then r else (a,u)::zgT k r:=rfl
theorem zhK:kEq .i64 .i64=true:=rfl
theorem V4 (a b:Int):iEq a b=decide (a=b):=by rw[wR,Wm]
theorem U2 (k:Int):∀ks,V0 .i64 k (enc ks)=some ((vZ k ks).map (.i .i64 ·))
 | []=>rfl
 | (a,v)::r=>by
  show (bif kEq .i64 .i64 then (bif iEq k a then some (some (AV.i .i64 v))else V0 .i64 k (enc r))else none)=_
  rw[zhK,cond_true,U2 k r,V4]
  rw[zc7]
  by_cases h:a=k
  ·simp[h]
  ·simp[h,Ne.symm h]
theorem U1 (k v:Int):∀ks,WI .i64 k (.i .i64 v) (enc ks)=some (enc (zgE k v ks))
 | []=>rfl
 | (a,u)::r=>by
  show (bif kEq .i64 .i64 then (bif iEq k a then some ((AV.i .i64 a,AV.i .i64 v)::enc r)else (WI .i64 k (.i .i64 v) (enc r)).map ((AV.i .i64 a,AV.i .i64 u)::·))else none)=_
  rw[zhK,cond_true,U1 k v r,V4]
  rw[XE]
  by_cases h:a=k
  ·simp[h,enc]
  ·simp[h,Ne.symm h,enc]
theorem U4 (k:Int):∀ks,WJ .i64 k (enc ks)=some (enc (zgT k ks))
 | []=>rfl
 | (a,u)::r=>by
  show (bif kEq .i64 .i64 then (bif iEq k a then some (enc r)else (WJ .i64 k (enc r)).map ((AV.i .i64 a,AV.i .i64 u)::·))else none)=_
  rw[zhK,cond_true,U4 k r,V4]
  rw[Wh]
  by_cases h:a=k
  ·simp[h]
  ·simp[h,Ne.symm h,enc]
theorem Vg (k v j:Int):∀ks,vZ j (zgE k v ks)=if k=j then some v else vZ j ks
 | []=>by simp[zgE,vZ]
 | (a,u)::r=>by
  rw[XE]
  by_cases h:a=k
  ·subst h;by_cases h2:a=j<;>simp[vZ,h2]
  ·simp only[h,if_false,vZ,Vg k v j r]
   by_cases h2:a=j
   ·subst h2;simp[Ne.symm h]
   ·simp[h2]
theorem Vh (j:Int):∀(ks:List (Int×Int)),j∉ks.map (·.1)→vZ j ks=none
 | [],_=>rfl
 | (a,u)::r,h=>by
  simp at h
  simp[vZ,Ne.symm h.1,Vh j r (by simpa using h.2)]
theorem UN (k v:Int):∀(ks:List (Int×Int)),(zgE k v ks).map (·.1)=if k∈ks.map (·.1)then ks.map (·.1)else ks.map (·.1)++[k]
 | []=>rfl
 | (a,u)::r=>by
  rw[XE]
  by_cases h:a=k
  ·simp[h]
  ·simp only[h,if_false,List.map_cons,UN k v r,List.mem_cons,Ne.symm h,false_or]
   split<;>simp
theorem zcz (k:Int):∀(ks:List (Int×Int)),(zgT k ks).map (·.1) |>.Sublist (ks.map (·.1))
 | []=>List.Sublist.refl _
 | (a,u)::r=>by
  rw[Wh]
  by_cases h:a=k
  ·simp[h]
  ·simp only[h,if_false,List.map_cons];exact (zcz k r).cons_cons _
theorem Vi (k j:Int):∀(ks:List (Int×Int)),(ks.map (·.1)).Nodup→vZ j (zgT k ks)=if k=j then none else vZ j ks
 | [],_=>by simp[zgT,vZ]
 | (a,u)::r,h=>by
  simp only[List.map_cons,List.nodup_cons]at h
  rw[Wh]
  by_cases h1:a=k
  ·subst h1
   by_cases h2:a=j
   ·subst h2;simp[Vh a r h.1]
   ·simp[vZ,h2]
  ·simp only[h1,if_false,vZ,Vi k j r h.2]
   by_cases h2:a=j
   ·subst h2;simp[Ne.symm h1]
   ·simp[h2]
def zaE (es:List (AV×AV))(f:Int→Option Int):Prop:=∃ks,es=enc ks∧(ks.map (·.1)).Nodup∧∀k,vZ k ks=f k
def yN (f:Int→Option Int)(k:Int)(v:Option Int):Int→Option Int:=fun j=>if k=j then v else f j
theorem V2:zaE [] fun _=>none:=⟨[],rfl,by simp,fun _=>rfl⟩
theorem zaE.find {es:List (AV×AV)}{f:Int→Option Int}(h:zaE es f)(k:Int):V0 .i64 k es=some ((f k).map (.i .i64 ·)):=by
 obtain⟨ks,rfl,_,h2⟩:=h;rw[U2,h2]
theorem zaE.set {es:List (AV×AV)}{f:Int→Option Int}(h:zaE es f)(k v:Int):∃es',WI .i64 k (.i .i64 v) es=some es'∧zaE es' (yN f k (some v)):=by
 obtain⟨ks,rfl,h1,h2⟩:=h
 refine⟨_,U1 k v ks,zgE k v ks,rfl,?_,fun j=>by rw[Vg,h2];rfl⟩
 rw[UN]
 split
 ·exact h1
 ·rename_i h3
  rw[List.nodup_append]
  exact⟨h1,by simp,fun a ha b hb hab=>by simp at hb;subst hb;subst hab;exact h3 ha⟩
theorem zaE.del {es:List (AV×AV)}{f:Int→Option Int}(h:zaE es f)(k:Int):∃es',WJ .i64 k es=some es'∧zaE es' (yN f k none):=by
 obtain⟨ks,rfl,h1,h2⟩:=h
 exact⟨_,U4 k ks,zgT k ks,rfl,(zcz k ks).nodup h1,fun j=>by rw[Vi k j ks h1,h2];rfl⟩
end
section
variable {F:Nat→Option AFn}
structure It where
 id:Int
 w:Int
 s:Int
 deriving DecidableEq
def It.cells (x:It):List AV:=[.i .i64 x.id,.i .i64 x.w,.i .i64 x.s]
def It.av (x:It):AV:=.agg x.cells
def It.zero:It:=⟨0,0,0⟩
def yL:List It→List AV
 | []=>[]
 | x::r=>x.cells++yL r
theorem wA:∀(A B:List It),yL (A++B)=yL A++yL B
 | [],_=>rfl
 | w::A,B=>by simp[yL,wA A B]
theorem xD:∀(A:List It),(yL A).length=A.length * 3
 | []=>rfl
 | w::A=>by simp[yL,xD A,It.cells];omega
theorem wo:∀(ws:List It) (i:Nat) (w:It) (sp:List AV),ws[i]?=some w→((yL ws++sp).drop (i * 3)).take 3=w.cells∧i * 3+3≤(yL ws++sp).length
 | [],i,w,sp,h=>by simp at h
 | a::r,0,w,sp,h=>by simp at h;subst h;simp[yL,It.cells]
 | a::r,i+1,w,sp,h=>by
  have:=wo r i w sp (by simpa using h)
  have e:(i+1) * 3=i * 3+1+1+1:=by omega
  rw[e]
  simp only[yL,It.cells,List.cons_append,List.nil_append,List.drop_succ_cons,List.length_cons]
  exact⟨this.1,by omega⟩
theorem ZJ (a:AV)(c:List AV)(n:Nat)(vs:List AV):zo (a::c) (n+1) vs=a::zo c n vs:=by
 have:n+1+vs.length=(n+vs.length)+1:=by omega
 simp[zo,this]
theorem Vn:∀(ws:List It) (i:Nat) (w:It) (sp:List AV),i<ws.length→zo (yL ws++sp) (i * 3) w.cells=yL (ws.set i w)++sp
 | [],i,w,sp,h=>by simp at h
 | a::r,0,w,sp,h=>by simp[zo,yL,It.cells]
 | a::r,i+1,w,sp,h=>by
  have e:(i+1) * 3=i * 3+1+1+1:=by omega
  rw[e,List.set_cons_succ]
  simp only[yL,It.cells,List.cons_append,List.nil_append]
  rw[ZJ,ZJ,ZJ]
  have:=Vn r i w sp (by simpa using h)
  simp only[It.cells]at this
  rw[this]
def It.lt (a b:It):Prop:=a.w<b.w∨(a.w=b.w∧a.s<b.s)
instance (a b:It):Decidable (a.lt b):=by unfold It.lt;exact inferInstance
theorem It.lt_irrefl (a:It):¬a.lt a:=by unfold It.lt;omega
theorem zbx {a b:It}(h:a.lt b):¬b.lt a:=by unfold It.lt at *;omega
theorem wW {a b c:It}(h:a.lt b)(k:b.lt c):a.lt c:=by unfold It.lt at *;omega
theorem ZV {a b c:It}(h:¬a.lt b)(k:¬b.lt c):¬a.lt c:=by unfold It.lt at *;omega
def zfI (x y:Int):Int:=if x<y then -1 else if y<x then 1 else 0
def It.cmp (a b:It):Int:=if zfI a.w b.w≠0 then zfI a.w b.w else zfI a.s b.s
theorem YP (a b:It):a.cmp b<0↔a.lt b:=by unfold It.cmp It.lt zfI;split<;>split<;>(try split)<;>(try split)<;>omega
section
variable {L:Lg}
theorem Y2 (h:H_f28 F)(x y:Int):zd F k_f28 [.i .i64 x,.i .i64 y] L fun v L'=>v=.i .i64 (zfI x y)∧L'=L:=by
 apply r_f28 h.code
 unfold D_f28_1
 have nan:∀(z:Int) (L:Lg),zd F k_f27 [.i .i64 z] L fun v L'=>v=.b false∧L'=L:=by
  intro z L
  apply r_f27 h.f27.code
  simp[D_f27_1]
 refine (nan x L).mono ?_
 rintro _ _ ⟨rfl,rfl⟩
 refine (nan y _).mono ?_
 rintro _ _ ⟨rfl,rfl⟩
 by_cases h1:x<y
 ·simp[h1,zfI]
 ·by_cases h2:y<x<;>simp[h1,h2,zfI]
theorem zhy (h:H_f29 F){b:Nat}{x y:Int}{cp ex:Nat}(hL:L b=some (.raw (.cells [.i .i64 x,.i .i64 y]))):zd F k_f29 [.sl (some (b,0)) 2 cp ex] L fun v L'=>v=.i .i64 (if x≠0 then x else y)∧L'=L:=by
 apply r_f29 h.code
 unfold D_f29_1 D_f29_2 D_f29_5
 simp[D_f29_7]
 refine zQ (fun n l' L'=>∃i:Nat,i≤2∧n=2-i∧(0<i→x=0)∧(1<i→y=0)∧L'=L∧l' 3=.i .i64 0∧l' 6=.sl (some (b,0)) 2 cp ex∧l' 7=.i .i64 2∧l' 8=.i .i64 i)
  2 ⟨0,by omega,by omega,by omega,by omega,rfl,by simp,by simp,by simp,by simp⟩ ?_
 rintro n l' t L' ⟨i,hi,hn,h0,h1,rfl,l3,l6,l7,l8⟩
 unfold D_f29_8
 rw[l3,l6,l7,l8]
 obtain rfl | rfl | rfl:i=0∨i=1∨i=2:=by omega
 ·by_cases hx:x=0
  ·simp[yF _ _ _ 1 b 0 2 cp ex .i64 0 (by omega) (by omega),rdL,AB.read,zO,hL,hx]
   refine⟨1,by omega,1,by omega,by omega,?_⟩
   simp[hx,l3,l6,l7,zS]
  ·simp[yF _ _ _ 1 b 0 2 cp ex .i64 0 (by omega) (by omega),rdL,AB.read,zO,hL,hx]
 ·have hx:=h0 (by omega)
  have e:((1:Nat):Int)=1:=rfl
  rw[e]
  by_cases hy:y=0
  ·simp[yF _ _ _ 1 b 0 2 cp ex .i64 1 (by omega) (by omega),rdL,AB.read,zO,hL,hx,hy]
   refine⟨0,by omega,2,by omega,by omega,?_⟩
   simp[hx,hy,l3,l6,l7,zS]
  ·simp[yF _ _ _ 1 b 0 2 cp ex .i64 1 (by omega) (by omega),rdL,AB.read,zO,hL,hx,hy]
 ·have hx:=h0 (by omega)
  have hy:=h1 (by omega)
  simp[D_f29_4,hx,hy]
theorem YM (h:H_f30 F)(x y:It):zd F k_f30 [x.av,y.av] L fun v L'=>v=.i .i64 (x.cmp y)∧L'=L:=by
 apply r_f30 h.code
 unfold D_f30_1 It.av
 simp
 rw[zN _ _ _ (by simp[It.cells])]
 intro b1 h1
 simp
 rw[zN _ _ _ (by simp[It.cells])]
 intro b2 h2
 have n1:b2≠b1:=by rintro rfl;simp at h2
 rw[zb _ _ _ n1]at h2
 simp[rdL,AB.read,zO,Lg.put_apply,n1,Ne.symm n1,It.cells]
 refine (Y2 h.f28 _ _).mono ?_
 rintro _ _ ⟨rfl,rfl⟩
 simp[rdL,AB.read,zO,Lg.put_apply,n1,Ne.symm n1,It.cells]
 refine (Y2 h.f28 _ _).mono ?_
 rintro _ _ ⟨rfl,rfl⟩
 simp
 rw[yg (c:=[.i .i64 (zfI x.w y.w),.i .i64 (zfI x.s y.s)]) _ _ (by simp[y5,zE,zo,zq,zp]) (by simp)]
 intro b3 h3
 refine (zhy h.f29 (ze _ _ _)).mono ?_
 rintro _ _ ⟨rfl,rfl⟩
 have n2:b3≠b2:=by rintro rfl;simp at h3
 have n3:b3≠b1:=by rintro rfl;simp[Lg.put_apply,Ne.symm n1]at h3
 rw[zb _ _ _ n2,zb _ _ _ n3]at h3
 simp[z8,yB,Xm,rdL,AB.read,zO,Lg.put_apply,n1,Ne.symm n1,n2,Ne.symm n2,n3,Ne.symm n3,It.cells]
 refine⟨zu.drop ?_,?_⟩
 ·intro c d hd
  have c1:c≠b1:=by rintro rfl;rw[h1]at hd;cases hd
  have c2:c≠b2:=by rintro rfl;rw[h2]at hd;cases hd
  have c3:c≠b3:=by rintro rfl;rw[h3]at hd;cases hd
  simp[Lg.put_apply,c1,c2,c3,hd]
 ·unfold It.cmp;by_cases h9:zfI x.w y.w=0<;>simp[h9]
end
end
section
def par (i:Nat):Nat:=(i-1) / 4
def gA (A:List It)(j:Nat):It:=A.getD j It.zero
theorem vc {j:Nat}(h:0<j):par j<j:=by unfold par;omega
theorem X0 {A:List It}{j:Nat}(h:j<A.length):A[j]?=some (gA A j):=by simp[gA,h]
theorem zaf {A:List It}{i j:Nat}{x:It}(h:i<A.length):gA (A.set i x) j=if i=j then x else gA A j:=by
 unfold gA
 simp only[List.getD_eq_getElem?_getD,List.getElem?_set]
 by_cases hij:i=j
 ·subst hij;simp[h]
 ·simp[hij]
def Exx (A:List It)(i:Nat):Prop:=(∀j,0<j→j<A.length→j≠i→par j≠i→¬(gA A j).lt (gA A (par j)))∧∀j,0<j→j<A.length→par j=i→0<i→¬(gA A j).lt (gA A (par i))
def Up (A:List It)(i:Nat):Prop:=(∀j,0<j→j<A.length→j≠i→¬(gA A j).lt (gA A (par j)))∧∀j,0<j→j<A.length→par j=i→0<i→¬(gA A j).lt (gA A (par i))
def Dn (A:List It)(i:Nat):Prop:=(∀j,0<j→j<A.length→par j≠i→¬(gA A j).lt (gA A (par j)))∧∀j,0<j→j<A.length→par j=i→0<i→¬(gA A j).lt (gA A (par i))
def vO (A:List It):Prop:=∀j,0<j→j<A.length→¬(gA A j).lt (gA A (par j))
def swap (A:List It)(i p:Nat):List It:=(A.set i (gA A p)).set p (gA A i)
theorem yV (A:List It)(i p:Nat):(swap A i p).length=A.length:=by simp[swap]
theorem xP {A:List It}{i p:Nat}(hi:i<A.length)(hp:p<A.length)(j:Nat):gA (swap A i p) j=if p=j then gA A i else if i=j then gA A p else gA A j:=by
 unfold swap
 rw[zaf (by simpa using hp),zaf hi]
theorem Exx.up {A:List It}{i:Nat}(h:Exx A i)(hi:0<i)(hl:(gA A i).lt (gA A (par i))):Up A i:=by
 refine⟨fun j h0 hj hji=>?_,h.2⟩
 by_cases hp:par j=i
 ·rw[hp]
  have:=h.2 j h0 hj hp hi
  exact fun h3=>this (wW h3 hl)
 ·exact h.1 j h0 hj hji hp
theorem Up.step {A:List It}{i:Nat}(h:Up A i)(hi:0<i)(hn:i<A.length)(hl:(gA A i).lt (gA A (par i))):Up (swap A i (par i)) (par i):=by
 have hp:par i<i:=vc hi
 have hpn:par i<A.length:=by omega
 refine⟨fun j h0 hj hji=>?_,fun j h0 hj hpj hp0=>?_⟩
 ·rw[yV]at hj
  rw[xP hn hpn,xP hn hpn]
  rw[if_neg (Ne.symm hji)]
  by_cases h1:i=j
  ·subst h1
   simp only[if_true]
   exact zbx hl
  ·rw[if_neg h1]
   by_cases h2:par i=par j
   ·rw[if_pos h2]
    have:=h.1 j h0 hj (Ne.symm h1)
    rw[←h2]at this
    exact fun h3=>this (wW h3 hl)
   ·rw[if_neg h2]
    by_cases h3:i=par j
    ·rw[if_pos h3]
     exact h.2 j h0 hj h3.symm hi
    ·rw[if_neg h3]
     exact h.1 j h0 hj (Ne.symm h1)
 ·rw[yV]at hj
  have hpp:par (par i)<par i:=vc hp0
  have hjp:j≠par i:=by rintro rfl;omega
  rw[xP hn hpn,xP hn hpn,if_neg (Ne.symm hjp)]
  rw[if_neg (show par i≠par (par i) by omega),if_neg (show i≠par (par i) by omega)]
  have hb:=h.1 (par i) hp0 hpn (by omega)
  by_cases h1:i=j
  ·rw[if_pos h1];exact hb
  ·rw[if_neg h1]
   have:=h.1 j h0 hj (Ne.symm h1)
   rw[hpj]at this
   exact ZV this hb
theorem Up.heap {A:List It}{i:Nat}(h:Up A i)(hi:i=0∨¬(gA A i).lt (gA A (par i))):vO A:=by
 intro j h0 hj
 by_cases h1:j=i
 ·subst h1
  rcases hi with h2 | h2
  ·omega
  ·exact h2
 ·exact h.1 j h0 hj h1
theorem Exx.dn {A:List It}{i:Nat}(h:Exx A i)(hi:i=0∨¬(gA A i).lt (gA A (par i))):Dn A i:=by
 refine⟨fun j h0 hj hp=>?_,h.2⟩
 by_cases h1:j=i
 ·subst h1
  rcases hi with h2 | h2
  ·omega
  ·exact h2
 ·exact h.1 j h0 hj h1 hp
theorem Dn.step {A:List It}{i m:Nat}(h:Dn A i)(hm0:0<m)(hm:m<A.length)(hpm:par m=i)(hmin:∀j,0<j→j<A.length→par j=i→¬(gA A j).lt (gA A m))(hx:¬(gA A i).lt (gA A m)):Dn (swap A i m) m:=by
 have him:i<m:=by rw[←hpm];exact vc hm0
 have hn:i<A.length:=by omega
 refine⟨fun j h0 hj hp=>?_,fun j h0 hj hp _=>?_⟩
 ·rw[yV]at hj
  rw[xP hn hm,xP hn hm,if_neg (Ne.symm hp)]
  by_cases h1:m=j
  ·subst h1;rw[if_pos rfl,hpm,if_pos rfl];exact hx
  ·rw[if_neg h1]
   by_cases h2:i=j
   ·subst h2
    rw[if_pos rfl,if_neg (show i≠par i by have:=vc h0;omega)]
    exact h.2 m hm0 hm hpm h0
   ·rw[if_neg h2]
    by_cases h3:i=par j
    ·rw[if_pos h3];exact hmin j h0 hj h3.symm
    ·rw[if_neg h3];exact h.1 j h0 hj (Ne.symm h3)
 ·rw[yV]at hj
  have hjm:j≠m:=by rintro rfl;have:=vc h0;omega
  have hji:j≠i:=by rintro rfl;have:=vc h0;omega
  rw[xP hn hm,xP hn hm,if_neg (Ne.symm hjm),if_neg (Ne.symm hji),hpm,if_neg (show m≠i by omega),if_pos rfl]
  have:=h.1 j h0 hj (by omega)
  rw[hp]at this
  exact this
theorem Dn.heap {A:List It}{i:Nat}(h:Dn A i)(hc:∀j,0<j→j<A.length→par j=i→¬(gA A j).lt (gA A i)):vO A:=by
 intro j h0 hj
 by_cases h1:par j=i
 ·rw[h1];exact hc j h0 hj h1
 ·exact h.1 j h0 hj h1
theorem vO.root {A:List It}(h:vO A):∀j,j<A.length→¬(gA A j).lt (gA A 0):=by
 intro j
 induction j using Nat.strongRecOn with
 | ind j ih =>
  intro hj
  by_cases h0:j=0
  ·subst h0;exact It.lt_irrefl _
  ·have:=vc (show 0<j by omega)
   exact ZV (h j (by omega) hj) (ih _ this (by omega))
theorem UK {A:List It}{i p:Nat}(hi:i<A.length)(hp:p<A.length):(swap A i p).Perm A:=by
 by_cases h:i=p
 ·subst h
  have:swap A i i=A:=by
   apply List.ext_getElem?
   intro j
   simp only[swap,List.getElem?_set,List.length_set]
   by_cases hj:i=j
   ·subst hj;simp[hi,gA]
   ·simp[hj]
  rw[this]
 ·unfold swap
  have h1:gA A p=A[p]:=by simp[gA,hp]
  have h2:gA A i=A[i]:=by simp[gA,hi]
  rw[h1,h2]
  exact List.set_set_perm hi hp
def Ids (A:List It):Prop:=∀j k,j<A.length→k<A.length→(gA A j).id=(gA A k).id→j=k
def Wz (A:List It)(mp:Int→Option Int):Prop:=Ids A∧(∀j,j<A.length→mp (gA A j).id=some (j:Int))∧∀k v,mp k=some v→∃j,j<A.length∧v=(j:Int)∧(gA A j).id=k
def WR (A:List It)(mp:Int→Option Int)(i:Nat):Prop:=Ids A∧(∀j,j<A.length→j≠i→mp (gA A j).id=some (j:Int))∧∀k v,mp k=some v→k=(gA A i).id∨∃j,j<A.length∧j≠i∧v=(j:Int)∧(gA A j).id=k
theorem WR.fill {A:List It}{mp:Int→Option Int}{i:Nat}(h:WR A mp i)(hi:i<A.length):Wz A (yN mp (gA A i).id (some (i:Int))):=by
 refine⟨h.1,fun j hj=>?_,fun k v hk=>?_⟩
 ·unfold yN
  by_cases h1:(gA A i).id=(gA A j).id
  ·have:=h.1 i j hi hj h1;subst this;simp
  ·rw[if_neg h1];exact h.2.1 j hj (fun e=>h1 (by rw[e]))
 ·unfold yN at hk
  by_cases h1:(gA A i).id=k
  ·rw[if_pos h1]at hk;cases hk;exact⟨i,hi,rfl,h1⟩
  ·rw[if_neg h1]at hk
   rcases h.2.2 k v hk with h2 | ⟨j,h2,_,h3,h4⟩
   ·exact absurd h2.symm h1
   ·exact⟨j,h2,h3,h4⟩
theorem Wz.hole {A:List It}{mp:Int→Option Int}(h:Wz A mp)(i:Nat):WR A mp i:=by
 refine⟨h.1,fun j hj _=>h.2.1 j hj,fun k v hk=>?_⟩
 obtain⟨j,h2,h3,h4⟩:=h.2.2 k v hk
 by_cases h5:j=i
 ·subst h5;exact .inl h4.symm
 ·exact .inr ⟨j,h2,h5,h3,h4⟩
theorem Ids.swap {A:List It}(h:Ids A){i p:Nat}(hi:i<A.length)(hp:p<A.length):Ids (swap A i p):=by
 have key:∀j,gA (Go.AM.swap A i p) j=gA A (if p=j then i else if i=j then p else j):=by
  intro j
  rw[xP hi hp]
  split
  ·rfl
  ·split<;>rfl
 intro j k hj hk
 rw[yV]at hj hk
 rw[key,key]
 intro e
 have:=h _ _ (by split;exact hi;split;exact hp;exact hj) (by split;exact hi;split;exact hp;exact hk) e
 split at this<;>split at this<;>(try split at this)<;>(try split at this)<;>omega
theorem WR.step {A:List It}{mp:Int→Option Int}{i p:Nat}(h:WR A mp i)(hi:i<A.length)(hp:p<A.length)(hne:p≠i):WR (swap A i p) (yN mp (gA A p).id (some (i:Int))) p:=by
 refine⟨h.1.swap hi hp,fun j hj hjp=>?_,fun k v hk=>?_⟩
 ·rw[yV]at hj
  rw[xP hi hp,if_neg (Ne.symm hjp)]
  unfold yN
  by_cases h1:i=j
  ·subst h1;simp
  ·rw[if_neg h1]
   have h2:(gA A p).id≠(gA A j).id:=fun e=>hjp (h.1 p j hp hj e).symm
   rw[if_neg h2]
   exact h.2.1 j hj (Ne.symm h1)
 ·unfold yN at hk
  rw[xP hi hp,if_pos rfl]
  by_cases h1:(gA A p).id=k
  ·rw[if_pos h1]at hk;cases hk
   refine .inr ⟨i,by rw[yV];exact hi,Ne.symm hne,rfl,?_⟩
   rw[xP hi hp,if_neg hne,if_pos rfl];exact h1
  ·rw[if_neg h1]at hk
   rcases h.2.2 k v hk with h2 | ⟨j,h2,h3,h4,h5⟩
   ·exact .inl h2
   ·have hjp:j≠p:=by rintro rfl;exact h1 h5
    refine .inr ⟨j,by rw[yV];exact h2,hjp,h4,?_⟩
    rw[xP hi hp,if_neg (Ne.symm hjp),if_neg (Ne.symm h3)];exact h5
end
section
variable {F:Nat→Option AFn}
def HSl (L:Lg)(h mb:Nat)(its:List It)(sv:AV)(K:Lg):Prop :=
 (its=[]∧sv=.sl none 0 0 0)∨∃b cap sp,sv=.sl (some (b,0)) its.length cap 3∧K b=some (.raw (.cells (yL its++sp)))∧sp.length+its.length * 3=cap * 3∧b≠h∧b≠mb∧L b=none
def xr (L:Lg)(h:Nat)(its:List It)(mp:Int→Option Int)(seq:Int)(K:Lg):Prop :=
 ∃(sv:AV) (mb:Nat) (es:List (AV×AV)),K h=some (.raw (.cells [sv,.m (some mb),.i .i64 seq]))∧K mb=some (.raw (.map es))∧zaE es mp∧mb≠h∧L mb=none∧HSl L h mb its sv K ∧
  ∀r d,r≠h→L r=some d→K r=some d
section
variable {L K:Lg} {h:Nat} {its:List It} {mp:Int→Option Int} {seq:Int}
theorem xr.ne (ho:xr L h its mp seq K){r:Nat}(hr:K r=none):r≠h∧L r=none:=by
 obtain⟨sv,mb,es,h1,h2,h3,h4,h5,h6,h7⟩:=ho
 have n:r≠h:=by rintro rfl;rw[h1]at hr;cases hr
 refine⟨n,?_⟩
 cases e:L r with
 | none=>rfl
 | some d=>rw[h7 r d n e]at hr;cases hr
theorem xr.onto (ho:xr L h its mp seq K){r:Nat}(hr:K r=none)(d:LC):xr (L.put r d) h its mp seq (K.put r d):=by
 obtain⟨sv,mb,es,h1,h2,h3,h4,h5,h6,h7⟩:=ho
 have nb:∀{x:Nat} {k:LC},K x=some k→x≠r:=fun hx hxr=>by rw[hxr,hr]at hx;cases hx
 refine⟨sv,mb,es,by rw[zb _ _ _ (nb h1)];exact h1,by rw[zb _ _ _ (nb h2)];exact h2,h3,h4,by rw[zb _ _ _ (nb h2)];exact h5,?_,?_⟩
 ·rcases h6 with h6 | ⟨b,cap,sp,a1,a2,a3,a4,a5,a6⟩
  ·exact .inl h6
  ·exact .inr ⟨b,cap,sp,a1,by rw[zb _ _ _ (nb a2)];exact a2,a3,a4,a5,by rw[zb _ _ _ (nb a2)];exact a6⟩
 ·intro x k hx hk
  rw[Lg.put_apply]at hk ⊢
  split
  ·rename_i h9;rw[if_pos h9]at hk;exact hk
  ·rename_i h9;rw[if_neg h9]at hk;exact h7 x k hx hk
theorem xr.weak {r:Nat}{d:LC}(ho:xr (L.put r d) h its mp seq K)(hr:L r=none):xr L h its mp seq K:=by
 obtain⟨sv,mb,es,h1,h2,h3,h4,h5,h6,h7⟩:=ho
 have n1:mb≠r:=by rintro rfl;simp at h5
 rw[zb _ _ _ n1]at h5
 refine⟨sv,mb,es,h1,h2,h3,h4,h5,?_,?_⟩
 ·rcases h6 with h6 | ⟨b,cap,sp,a1,a2,a3,a4,a5,a6⟩
  ·exact .inl h6
  ·have n2:b≠r:=by rintro rfl;simp at a6
   rw[zb _ _ _ n2]at a6
   exact .inr ⟨b,cap,sp,a1,a2,a3,a4,a5,a6⟩
 ·intro x k hx hk
  have:x≠r:=by rintro rfl;rw[hr]at hk;cases hk
  exact h7 x k hx (by rw[zb _ _ _ this];exact hk)
theorem xr.old (ho:xr L h its mp seq K){r:Nat}{d:LC}(hr:r≠h)(hd:L r=some d):K r=some d:=by
 obtain⟨sv,mb,es,h1,h2,h3,h4,h5,h6,h7⟩:=ho
 exact h7 r d hr hd
theorem Zb (hf:H_f26 F)(ho:xr L h its mp seq K)(i:Nat)(hi:i<its.length)(x:It) :
  zd F k_f26 [.p (some (h,0)),.i .i64 i,x.av] K fun v K'=>v=.tup []∧xr L h (its.set i x) (yN mp x.id (some (i:Int))) seq K':=by
 apply r_f26 hf.code
 obtain⟨sv,mb,es,h1,h2,h3,h4,h5,h6,h7⟩:=ho
 rcases h6 with⟨rfl,_⟩ | ⟨b,cap,sp,rfl,a2,a3,a4,a5,a6⟩
 ·simp at hi
 obtain⟨es',hs,hM⟩:=h3.set x.id i
 unfold D_f26_1 It.av
 simp
 rw[zN _ _ _ (by simp[It.cells])]
 intro r hr
 have nb:∀{y:Nat} {k:LC},K y=some k→y≠r:=fun hx hxr=>by rw[hxr,hr]at hx;cases hx
 have n1:=nb h1
 have n2:=nb h2
 have n3:=nb a2
 have e1:(i:Int)<(its.length:Int):=by omega
 have eb:((K.put r (.raw (.cells x.cells))) b)=some (.raw (.cells (yL its++sp))):=by rw[zb _ _ _ n3];exact a2
 have hlen:i * 3+3≤(yL its++sp).length:=by simp[xD];omega
 have er:(K.put r (.raw (.cells x.cells))) r=some (.raw (.cells x.cells)):=ze _ _ _
 simp[rdL,AB.read,zO,Lg.put_apply,n1,Ne.symm n1,h1,cut,zq]
 have el:3≤x.cells.length:=by simp[It.cells]
 have et:List.take 3 x.cells=x.cells:=by simp[It.cells]
 simp[el,et,yF _ _ _ 3 b 0 its.length cap 3 .i64 (i:Int) (Int.natCast_nonneg _) e1]
 rw[zw eb (by simp[It.cells]) (by simp[It.cells]) hlen]
 rw[Vn its i x sp hi]
 simp[rdL,AB.read,zO,Lg.put_apply,n1,Ne.symm n1,h1,a4,Ne.symm a4,Ne.symm n3,It.cells,VY,n2,Ne.symm n2,a5,Ne.symm a5,h2,hs]
 refine⟨_,zu.refl _,.sl (some (b,0)) its.length cap 3,mb,es',?_,ze _ _ _,hM,h4,h5,.inr ⟨b,cap,sp,by simp,?_,by simpa using a3,a4,a5,a6⟩,?_⟩
 ·simp[Lg.put_apply,Ne.symm h4,Ne.symm a4,n1,h1]
 ·simp[Lg.put_apply,a5]
 ·intro y d hy hd
  have c1:y≠r:=by rintro rfl;rw[h7 y d hy hd]at hr;cases hr
  have c2:y≠b:=by rintro rfl;rw[a6]at hd;cases hd
  have c3:y≠mb:=by rintro rfl;rw[h5]at hd;cases hd
  simp[Lg.put_apply,c1,c2,c3,h7 y d hy hd]
theorem xR (A:List It)(i:Nat)(y x:It):(A.set i y).set i x=A.set i x:=by simp
theorem zbQ {A:List It}{i:Nat}(hi:i<A.length):A.set i (gA A i)=A:=by
 apply List.ext_getElem?
 intro j
 rw[List.getElem?_set]
 by_cases hj:i=j
 ·subst hj;simp[hi,gA]
 ·simp[hj]
theorem zcr (hf:H_f31 F){A:List It}(ho:xr L h A mp seq K)(i:Nat)(hi:i<A.length)(hn:A.length≤1000000)(hc:WR A mp i)(he:Exx A i) :
  zd F k_f31 [.p (some (h,0)),.i .i64 i] K fun v K'=>v=.tup []∧∃A' mp',A'.Perm A∧xr L h A' mp' seq K'∧Wz A' mp'∧(Up A i→vO A')∧∃i',i'<A'.length∧gA A' i'=gA A i∧Dn A' i':=by
 apply r_f31 hf.code
 generalize hQ:(fun (v:AV) (K':Lg)=>v=.tup []∧∃A' mp',A'.Perm A∧xr L h A' mp' seq K'∧Wz A' mp'∧(Up A i→vO A')∧∃i',i'<A'.length∧gA A' i'=gA A i∧Dn A' i')=Q
 unfold D_f31_1
 have ho':=ho
 obtain⟨sv,mb,es,h1,h2,h3,h4,h5,h6,h7⟩:=ho'
 rcases h6 with⟨rfl,_⟩ | ⟨b,cap,sp,rfl,a2,a3,a4,a5,a6⟩
 ·simp at hi
 have e1:(i:Int)<(A.length:Int):=by omega
 have hat:=wo A i (gA A i) sp (X0 hi)
 have hat2:=hat.2
 rw[List.length_append]at hat2
 simp[rdL,AB.read,zO,h1,yF _ _ _ 3 b 0 A.length cap 3 .i64 (i:Int) (Int.natCast_nonneg _) e1,a2,cut,zq,hat.1,hat2]
 intro x4 hx4
 rw[zw (ze _ _ _) (by simp[It.cells]) (by simp[It.cells]) (by simp),zA,show zo [AV.i .i64 0,.i .i64 0,.i .i64 0] 0 (gA A i).cells=(gA A i).cells by simp[zo,It.cells]]
 have hne:=ho.ne hx4
 obtain⟨I,hI⟩:∃I:Nat→Env→Lg→Prop,I=fun n l' K'=>∃A' i' mp' y,A'.Perm A∧gA A' i'=gA A i∧i'<A'.length∧n=i'∧WR A' mp' i'∧(Up A' i'∨(A'=A∧i'=i))∧(Up A i→Up A' i') ∧
  xr (L.put x4 (.raw (.cells (gA A i).cells))) h (A'.set i' y) mp' seq K'∧l' 0=.p (some (h,0))∧l' 1=.i .i64 i'∧l' 4=.p (some (x4,0)):=⟨_,rfl⟩
 unfold D_f31_5
 refine zQ I i ?_ ?_
 ·rw[hI]
  refine⟨A,i,mp,gA A i,List.Perm.refl _,rfl,hi,rfl,hc,.inr ⟨rfl,rfl⟩,id,?_,by simp,by simp,by simp⟩
  rw[zbQ hi]
  exact ho.onto hx4 _
 ·intro n l' t K' hinv
  rw[hI]at hinv
  obtain⟨A',i',mp',y,p1,p2,p3,rfl,p5,p6,p7,p8,l0,l1,l4⟩:=hinv
  have plen:=p1.length_eq
  unfold D_f31_6
  rw[l0,l1,l4]
  have k4:K' x4=some (.raw (.cells (gA A i).cells)):=p8.old hne.1 (ze _ _ _)
  have hexx:Exx A' n:=by
   rcases p6 with h8 | ⟨rfl,rfl⟩
   ·exact⟨fun j a b c d=>h8.1 j a b c,h8.2⟩
   ·exact he
  have fin:(n=0∨¬(gA A' n).lt (gA A' (par n)))→∀K2:Lg,K2=K'→D_f31_3 F Q (.p (some (h,0))) (.i .i64 n) (.p (some (x4,0))) K2:=by
   rintro hcond K2 rfl
   unfold D_f31_3
   simp[yj k4 (show 0+3≤(gA A i).cells.length by simp[It.cells])]
   have:AV.agg (List.take 3 (gA A i).cells)=(gA A i).av:=by simp[It.cells,It.av]
   rw[this]
   refine (Zb hf.f26 p8 n (by simpa using p3) (gA A i)).mono ?_
   rintro _ K3 ⟨rfl,ho3⟩
   rw[xR,←p2,zbQ p3]at ho3
   simp
   refine⟨K3,zu.refl _,?_⟩
   subst hQ
   refine⟨rfl,A',_,p1,ho3.weak hne.2,p5.fill p3,fun hu=>(p7 hu).heap hcond,n,p3,p2,hexx.dn hcond⟩
  by_cases h0:n=0
  ·subst h0
   simp
   exact fin (.inl rfl) _ rfl
  ·have hpos:(0:Int)<(n:Int):=by omega
   have hpos':0<n:=by omega
   obtain⟨k,hk⟩:∃k,k=n-1:=⟨_,rfl⟩
   have w1:wr .i64 ((n:Int)-1)=(k:Int):=by rw[zS (by omega) (by omega)];omega
   obtain⟨p,hp⟩:∃p,p=par n:=⟨_,rfl⟩
   have hpk:p<n:=by rw[hp];exact vc (by omega)
   have w2:wr .i64 ((k:Int).tdiv 4)=(p:Int):=by
    have e1:(k:Int).tdiv 4=((k / 4:Nat):Int):=by rw[Int.ofNat_tdiv];rfl
    have e2:k / 4=p:=by rw[hp,hk];rfl
    rw[e1,e2]
    exact zS (by omega) (by omega)
   have w3:wr .i64 ((k:Int) / 4)=(p:Int):=by
    have e1:(k:Int) / 4=((k / 4:Nat):Int):=rfl
    have e2:k / 4=p:=by rw[hp,hk];rfl
    rw[e1,e2]
    exact zS (by omega) (by omega)
   have hpl:p<A'.length:=by omega
   have h40:(4:Int)≠0:=by omega
   have p8':=p8
   obtain⟨sv,mb,es,h1,h2,h3,h4,h5,h6,h7⟩:=p8'
   rcases h6 with⟨h6,_⟩ | ⟨b,cap,sp,rfl,a2,a3,a4,a5,a6⟩
   ·exfalso;have:=congrArg List.length h6;rw[List.length_set,List.length_nil]at this;omega
   have e2:(p:Int)<((A'.set n y).length:Int):=by simp;omega
   have hat:=wo (A'.set n y) p (gA A' p) sp (by rw[List.getElem?_set_ne (by omega)];exact X0 hpl)
   have hat2:=hat.2
   rw[List.length_append]at hat2
   rw[List.length_set]at h1 e2
   have et:AV.agg (List.take 3 (gA A i).cells)=(gA A i).av:=by simp[It.cells,It.av]
   have et2:AV.agg (gA A' p).cells=(gA A' p).av:=rfl
   have el:3≤(gA A i).cells.length:=by simp[It.cells]
   simp[hpos,hpos',rdL,AB.read,zO,k4,h1,Uv _ _ _ _ _ _ h40,w2,w3,w1,yF _ _ _ 3 b 0 A'.length cap 3 .i64 (p:Int) (Int.natCast_nonneg _) e2,a2,cut,zq,hat.1,hat2,et,et2,el]
   refine (YM hf.f30 (gA A i) (gA A' p)).mono ?_
   rintro _ K1 ⟨rfl,rfl⟩
   simp[hpos,hpos',YP]
   refine⟨fun hlt=>?_,fun hlt=>?_⟩
   ·simp[rdL,AB.read,zO,h1,Uv _ _ _ _ _ _ h40,w2,w3,w1,yF _ _ _ 3 b 0 A'.length cap 3 .i64 (p:Int) (Int.natCast_nonneg _) e2,a2,cut,zq,hat.1,hat2,et2]
    refine (Zb hf.f26 p8 n (by simpa using p3) (gA A' p)).mono ?_
    rintro _ K3 ⟨rfl,ho3⟩
    rw[xR]at ho3
    simp[Uv _ _ _ _ _ _ h40,w2,w3,w1]
    refine⟨p,hpk,?_⟩
    rw[hI]
    have hltp:(gA A' n).lt (gA A' (par n)):=by rw[p2,←hp];exact hlt
    have hup:Up A' n:=by
     rcases p6 with h8 | ⟨rfl,rfl⟩
     ·exact h8
     ·exact he.up hpos' hltp
    have hst:=hup.step hpos' p3 hltp
    rw[←hp]at hst
    refine⟨swap A' n p,p,_,gA A' p,(UK p3 hpl).trans p1,?_,by rw[yV];exact hpl,rfl,p5.step p3 hpl (by omega),.inl hst,fun _=>hst,?_,by simp[l0],by simp,by simp[l4]⟩
    ·rw[xP p3 hpl,if_pos rfl,p2]
    ·have:(swap A' n p).set p (gA A' p)=A'.set n (gA A' p):=by
      unfold swap
      rw[xR]
      apply List.ext_getElem?
      intro j
      rw[List.getElem?_set]
      by_cases hj:p=j
      ·subst hj
       simp[hpl,List.getElem?_set,gA]
       rw[List.getElem_set_ne (by omega)]
      ·simp[hj]
     rw[this]
     exact ho3
   ·refine fin (.inr ?_) _ rfl
    rw[p2,←hp];exact hlt
theorem zde (hf:H_f32 F){A:List It}(ho:xr L h A mp seq K)(i:Nat)(hi:i<A.length)(hn:A.length≤1000000)(hc:Wz A mp)(he:Dn A i) :
  zd F k_f32 [.p (some (h,0)),.i .i64 i] K fun v K'=>v=.tup []∧∃A' mp',A'.Perm A∧xr L h A' mp' seq K'∧Wz A' mp'∧vO A':=by
 apply r_f32 hf.code
 generalize hQ:(fun (v:AV) (K':Lg)=>v=.tup []∧∃A' mp',A'.Perm A∧xr L h A' mp' seq K'∧Wz A' mp'∧vO A')=Q
 unfold D_f32_1
 have ho':=ho
 obtain⟨sv,mb,es,h1,h2,h3,h4,h5,h6,h7⟩:=ho'
 rcases h6 with⟨rfl,_⟩ | ⟨b,cap,sp,rfl,a2,a3,a4,a5,a6⟩
 ·simp at hi
 have e1:(i:Int)<(A.length:Int):=by omega
 have hat:=wo A i (gA A i) sp (X0 hi)
 have hat2:=hat.2
 rw[List.length_append]at hat2
 simp[rdL,AB.read,zO,h1,yF _ _ _ 3 b 0 A.length cap 3 .i64 (i:Int) (Int.natCast_nonneg _) e1,a2,cut,zq,hat.1,hat2]
 intro x4 hx4
 rw[zw (ze _ _ _) (by simp[It.cells]) (by simp[It.cells]) (by simp),zA,show zo [AV.i .i64 0,.i .i64 0,.i .i64 0] 0 (gA A i).cells=(gA A i).cells by simp[zo,It.cells]]
 have hne:=ho.ne hx4
 obtain⟨I,hI⟩:∃I:Nat→Env→Lg→Prop,I=fun n l' K'=>∃A' i' mp' y,A'.Perm A∧gA A' i'=gA A i∧i'<A'.length∧n=A'.length-i'∧WR A' mp' i'∧Dn A' i' ∧
  xr (L.put x4 (.raw (.cells (gA A i).cells))) h (A'.set i' y) mp' seq K'∧l' 0=.p (some (h,0))∧l' 1=.i .i64 i'∧l' 4=.p (some (x4,0)):=⟨_,rfl⟩
 unfold D_f32_5
 clear h1 h2 h3 h4 h5 h7 a2 a3 a4 a5 a6 hat hat2 e1
 refine zQ I (A.length-i) ?_ ?_
 ·rw[hI]
  refine⟨A,i,mp,gA A i,List.Perm.refl _,rfl,hi,rfl,hc.hole i,he,?_,by simp,by simp,by simp⟩
  rw[zbQ hi]
  exact ho.onto hx4 _
 ·intro n l' t K' hinv
  rw[hI]at hinv
  obtain⟨A',i',mp',y,p1,p2,p3,hn',p5,p6,p8,l0,l1,l4⟩:=hinv
  have plen:=p1.length_eq
  have k4:K' x4=some (.raw (.cells (gA A i).cells)):=p8.old hne.1 (ze _ _ _)
  have fin:(∀j,0<j→j<A'.length→par j=i'→¬(gA A' j).lt (gA A' i'))→D_f32_3 F Q (.p (some (h,0))) (.i .i64 i') (.p (some (x4,0))) K':=by
   intro hcond
   unfold D_f32_3
   simp[yj k4 (show 0+3≤(gA A i).cells.length by simp[It.cells])]
   have:AV.agg (List.take 3 (gA A i).cells)=(gA A i).av:=by simp[It.cells,It.av]
   rw[this]
   refine (Zb hf.f26 p8 i' (by simpa using p3) (gA A i)).mono ?_
   rintro _ K3 ⟨rfl,ho3⟩
   rw[xR,←p2,zbQ p3]at ho3
   simp
   refine⟨K3,zu.refl _,?_⟩
   subst hQ
   exact⟨rfl,A',_,p1,ho3.weak hne.2,p5.fill p3,p6.heap hcond⟩
  have p8':=p8
  obtain⟨sv,mb,es,h1,h2,h3,h4,h5,h6,h7⟩:=p8'
  rcases h6 with⟨h6,_⟩ | ⟨b,cap,sp,rfl,a2,a3,a4,a5,a6⟩
  ·exfalso;have:=congrArg List.length h6;rw[List.length_set,List.length_nil]at this;omega
  rw[List.length_set]at h1 a3
  obtain⟨fst,hfst⟩:∃fst,fst=4 * i'+1:=⟨_,rfl⟩
  have w1:wr .i64 (4 * (i':Int))=4 * (i':Int):=zS (by omega) (by omega)
  have w2:wr .i64 (4 * (i':Int)+1)=(fst:Int):=by rw[zS (by omega) (by omega)];omega
  have rdel:∀j,j<A'.length→j≠i'→List.take 3 (List.drop (j * 3) (yL (A'.set i' y)++sp))=(gA A' j).cells∧j * 3+3≤(yL (A'.set i' y)).length+sp.length:=by
   intro j hj hji
   have:=wo (A'.set i' y) j (gA A' j) sp (by rw[List.getElem?_set_ne (Ne.symm hji)];exact X0 hj)
   rw[List.length_append]at this
   exact this
  have kids:∀j,0<j→(par j=i'↔fst≤j∧j<fst+4):=by intro j hj;unfold par;omega
  unfold D_f32_7 D_f32_8
  rw[l1]
  simp[w1,w2,l0,l1,l4,rdL,AB.read,zO,h1]
  refine⟨fun hge=>?_,fun hlt=>?_⟩
  ·refine fin fun j h0 hj hpj=>?_
   have:=(kids j h0).1 hpj
   omega
  ·have hlt':fst<A'.length:=by omega
   unfold D_f32_9 D_f32_12
   have w3:wr .i64 ((fst:Int)+1)=((fst+1:Nat):Int):=by rw[zS (by omega) (by omega)];omega
   simp
   rw[w3]
   unfold D_f32_14
   obtain⟨J,hJ⟩:∃J:Nat→Env→Lg→Prop,J=fun m l'' K''=>∃ls k:Nat,fst≤ls∧ls<k∧k≤fst+4∧k≤A'.length∧m=fst+4-k∧(∀j,fst≤j→j<k→¬(gA A' j).lt (gA A' ls))∧K''=K' ∧
    l'' 0=.p (some (h,0))∧l'' 1=.i .i64 i'∧l'' 4=.p (some (x4,0))∧l'' 5=.i .i64 fst∧l'' 6=.i .i64 ls∧l'' 7=.i .i64 k:=⟨_,rfl⟩
   refine zQ J 3 ?_ ?_
   ·rw[hJ]
    refine⟨fst,fst+1,by omega,by omega,by omega,by omega,by omega,?_,rfl,by simp[l0],by simp[l1],by simp[l4],by simp,by simp,by simp⟩
    intro j h1 h2
    have:j=fst:=by omega
    subst this;exact It.lt_irrefl _
   ·intro m l'' t'' K'' hj
    rw[hJ]at hj
    obtain⟨ls,k,c1,c2,c3,c4,rfl,c6,rfl,d0,d1,d4,d5,d6,d7⟩:=hj
    have w4:wr .i64 ((fst:Int)+4)=(fst:Int)+4:=zS (by omega) (by omega)
    have hlsl:ls<A'.length:=by omega
    have els:(ls:Int)<(A'.length:Int):=by omega
    have rls:=rdel ls hlsl (by omega)
    have etl:AV.agg (gA A' ls).cells=(gA A' ls).av:=rfl
    unfold D_f32_15
    rw[d0,d5,d6,d7]
    have w5:wr .i64 ((k:Int)+1)=((k+1:Nat):Int):=by rw[zS (by omega) (by omega)];omega
    by_cases hk:k<fst+4∧k<A'.length
    ·have hk1:(k:Int)<(fst:Int)+4∧(k:Int)<(A'.length:Int):=by omega
     have hk2:(k:Int)<min ((fst:Int)+4) (A'.length:Int):=by omega
     have rk:=rdel k hk.2 (by omega)
     have etk:AV.agg (gA A' k).cells=(gA A' k).av:=rfl
     simp[w4,rdL,AB.read,zO,h1,hk1,hk.2,yF _ _ _ 3 b 0 A'.length cap 3 .i64 (k:Int) (Int.natCast_nonneg _) hk1.2,yF _ _ _ 3 b 0 A'.length cap 3 .i64 (ls:Int) (Int.natCast_nonneg _) els,a2,cut,zq,rk.1,rk.2,rls.1,rls.2,etk,etl]
     refine⟨fun _=>?_,fun hx=>by omega⟩
     refine (YM hf.f30 (gA A' k) (gA A' ls)).mono ?_
     rintro _ K1 ⟨rfl,rfl⟩
     simp[YP]
     refine⟨fun hl=>?_,fun hl=>?_⟩
     ·refine⟨fst+4-(k+1),by omega,?_⟩
      rw[hJ]
      refine⟨k,k+1,by omega,by omega,by omega,by omega,rfl,?_,rfl,by simp[d0],by simp[d1],by simp[d4],by simp[d5],by simp,by simp[w5]⟩
      intro j j1 j2
      by_cases hjk:j=k
      ·subst hjk;exact It.lt_irrefl _
      ·exact fun h9=>c6 j j1 (by omega) (wW h9 hl)
     ·refine⟨fst+4-(k+1),by omega,?_⟩
      rw[hJ]
      refine⟨ls,k+1,by omega,by omega,by omega,by omega,rfl,?_,rfl,by simp[d0],by simp[d1],by simp[d4],by simp[d5],by simp[d6],by simp[w5]⟩
      intro j j1 j2
      by_cases hjk:j=k
      ·subst hjk;exact hl
      ·exact c6 j j1 (by omega)
    ·have hk2:¬((k:Int)<min ((fst:Int)+4) (A'.length:Int)):=by omega
     have hmin:∀j,0<j→j<A'.length→par j=i'→¬(gA A' j).lt (gA A' ls):=by
      intro j h0 hj hpj
      have:=(kids j h0).1 hpj
      exact c6 j this.1 (by omega)
     have etx:AV.agg (List.take 3 (gA A i).cells)=(gA A i).av:=by simp[It.cells,It.av]
     have elx:3≤(gA A i).cells.length:=by simp[It.cells]
     have hk3:(k:Int)<(fst:Int)+4→(A'.length:Int)≤(k:Int):=by omega
     have hk4:¬((k:Int)<(fst:Int)+4∧(k:Int)<(A'.length:Int)):=by omega
     simp[w4,rdL,AB.read,zO,h1]
     refine⟨fun hx1=>by omega,fun _=>?_⟩
     unfold D_f32_11
     rw[d0,d1,d4,d6]
     simp[rdL,AB.read,zO,h1,k4,yF _ _ _ 3 b 0 A'.length cap 3 .i64 (ls:Int) (Int.natCast_nonneg _) els,a2,cut,zq,rls.1,rls.2,etl,etx,elx]
     refine (YM hf.f30 (gA A i) (gA A' ls)).mono ?_
     rintro _ K1 ⟨rfl,rfl⟩
     simp[YP]
     refine⟨fun hl=>?_,fun hl=>?_⟩
     ·refine fin fun j h0 hj hpj=>?_
      have:=hmin j h0 hj hpj
      rw[p2]
      exact fun h9=>this (wW h9 hl)
     ·simp[rdL,AB.read,zO,h1,yF _ _ _ 3 b 0 A'.length cap 3 .i64 (ls:Int) (Int.natCast_nonneg _) els,a2,cut,zq,rls.1,rls.2,etl]
      refine (Zb hf.f26 p8 i' (by simpa using p3) (gA A' ls)).mono ?_
      rintro _ K3 ⟨rfl,ho3⟩
      rw[xR]at ho3
      have hls0:0<ls:=by omega
      have hpls:par ls=i':=(kids ls hls0).2 ⟨c1,by omega⟩
      have hst:=p6.step hls0 hlsl hpls hmin (by rw[p2];exact hl)
      refine⟨A'.length-ls,by omega,?_⟩
      rw[hI]
      refine⟨swap A' i' ls,ls,_,gA A' ls,(UK p3 hlsl).trans p1,?_,by rw[yV];exact hlsl,by rw[yV],p5.step p3 hlsl (by omega),hst,?_,by simp[d0],by simp,by simp[d4]⟩
      ·rw[xP p3 hlsl,if_pos rfl,p2]
      ·have:(swap A' i' ls).set ls (gA A' ls)=A'.set i' (gA A' ls):=by
        unfold swap
        rw[xR]
        apply List.ext_getElem?
        intro j
        rw[List.getElem?_set]
        by_cases hj:ls=j
        ·subst hj
         simp[hlsl,List.getElem?_set,gA]
         rw[List.getElem_set_ne (by omega)]
        ·simp[hj]
       rw[this]
       exact ho3
end
end
end Go.AM
