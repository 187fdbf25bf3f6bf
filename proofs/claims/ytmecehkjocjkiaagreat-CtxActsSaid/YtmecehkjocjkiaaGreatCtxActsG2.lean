/- The texts Print0 of a proof of CtxActs, merged. -/
import Derived.Test.YtmecehkjocjkiaaGreatCtxActsG1
import Derived.Test.YtmecehkjocjkiaaGreatChecked
import Derived.KernelRfl
set_option linter.unusedVariables false
set_option maxRecDepth 100000
namespace Go.AM
section
open Go.Proofs
noncomputable section
def N (k:Nat):Nat:=k
noncomputable def tbl:Nat→Option AFn:=zhc Tryz.prog [(3,61),(4,41724327718767),(5,31),(6,1729382256910270459),(7,2097149),(8,1011),(9,130831),(10,115),(11,3015),(12,115),(13,1991),(14,51),(15,51),(16,243),(17,13),(18,1),(19,13),(20,13),(21,1011),(22,51),(23,32527),(24,51),(25,1991),(26,51),(27,11207),(28,243),(29,115),(30,1011),(31,1011),(32,499),(33,499),(34,51),(35,51),(36,215),(37,87),(38,5),(39,115),(40,115),(41,5),(42,5),(43,19),(44,87),(45,3),(46,455),(47,19),(48,2066035336255469844239),(49,199),(50,19),(51,455),(52,51),(53,115),(54,61),(55,1),(56,1),(57,911),(58,19),(59,19),(60,127039),(61,51),(62,5),(63,455),(64,199),(65,19),(66,5),(67,7667),(68,51),(69,1011),(70,243),(71,5),(72,15),(73,19),(74,19),(75,19),(76,19),(77,59),(78,51),(79,61),(80,5),(81,5),(82,115),(83,19),(84,815),(85,19),(86,435),(87,199),(88,13),(89,1),(90,5),(91,243),(92,115),(93,271),(94,61),(95,199),(96,271),(97,115),(98,19),(99,51),(100,211),(101,455),(102,115),(103,5),(104,5),(105,435),(106,13),(107,13),(108,1),(109,9007199256576117),(110,19),(111,83),(112,5),(113,5),(114,5),(115,271),(116,5),(117,5),(118,61),(119,19),(120,5),(121,71),(122,2035),(123,327),(124,13),(125,243),(126,19),(127,15),(128,13),(129,51),(130,243),(131,39),(132,19),(133,243),(134,115),(135,5),(136,51),(137,435),(138,31),(139,3),(140,493),(141,115),(142,5)]
def k_f217:Nat:=3
def k_f152:Nat:=4
def k_f126:Nat:=5
def k_f212:Nat:=6
def k_f216:Nat:=7
def k_f143:Nat:=8
def k_f144:Nat:=9
def k_f145:Nat:=10
def k_f146:Nat:=11
def k_f147:Nat:=12
def k_f148:Nat:=13
def k_f149:Nat:=14
def k_f150:Nat:=15
def k_f151:Nat:=16
def k_f21:Nat:=18
def k_f122:Nat:=19
def k_f125:Nat:=20
def k_f202:Nat:=21
def k_f203:Nat:=22
def k_f204:Nat:=23
def k_f205:Nat:=24
def k_f206:Nat:=25
def k_f207:Nat:=26
def k_f208:Nat:=27
def k_f209:Nat:=28
def k_f65:Nat:=29
def k_f48:Nat:=30
def k_f87:Nat:=31
def k_f160:Nat:=32
def k_f210:Nat:=33
def k_f157:Nat:=34
def k_f211:Nat:=35
def k_f98:Nat:=36
def k_f100:Nat:=37
def k_f213:Nat:=38
def k_f214:Nat:=39
def k_f215:Nat:=40
def k_f158:Nat:=41
def k_f155:Nat:=42
def k_f128:Nat:=43
def k_f121:Nat:=44
def k_f129:Nat:=45
def k_f142:Nat:=46
def k_f2:Nat:=47
def k_f141:Nat:=48
def k_f55:Nat:=49
def k_f127:Nat:=50
def k_f120:Nat:=51
def k_f140:Nat:=52
def k_f139:Nat:=53
def k_f43:Nat:=54
def k_f20:Nat:=55
def k_f117:Nat:=56
def k_f124:Nat:=57
def k_f194:Nat:=58
def k_f195:Nat:=59
def k_f201:Nat:=60
def k_f88:Nat:=61
def k_f63:Nat:=62
def k_f77:Nat:=63
def k_f123:Nat:=64
def k_f196:Nat:=65
def k_f64:Nat:=66
def k_f45:Nat:=67
def k_f47:Nat:=68
def k_f84:Nat:=69
def k_f86:Nat:=70
def k_f56:Nat:=71
def k_f94:Nat:=72
def k_f57:Nat:=73
def k_f97:Nat:=74
def k_f95:Nat:=75
def k_f58:Nat:=76
def k_f16:Nat:=77
def k_f99:Nat:=78
def k_f22:Nat:=79
def k_f1:Nat:=80
def k_f134:Nat:=81
def k_f51:Nat:=82
def k_f136:Nat:=83
def k_f38:Nat:=84
def k_f119:Nat:=85
def k_f137:Nat:=86
def k_f138:Nat:=87
def k_f42:Nat:=88
def k_f19:Nat:=89
def k_f199:Nat:=90
def k_f80:Nat:=91
def k_f200:Nat:=92
def k_f70:Nat:=93
def k_f44:Nat:=94
def k_f3:Nat:=95
def k_f36:Nat:=96
def k_f46:Nat:=97
def k_f4:Nat:=98
def k_f82:Nat:=99
def k_f68:Nat:=100
def k_f83:Nat:=101
def k_f85:Nat:=102
def k_f6:Nat:=103
def k_f7:Nat:=104
def k_f96:Nat:=105
def k_f15:Nat:=106
def k_f9:Nat:=107
def k_f18:Nat:=108
def k_f133:Nat:=109
def k_f49:Nat:=110
def k_f34:Nat:=111
def k_f50:Nat:=112
def k_f135:Nat:=113
def k_f24:Nat:=114
def k_f37:Nat:=115
def k_f118:Nat:=116
def k_f41:Nat:=117
def k_f198:Nat:=118
def k_f78:Nat:=119
def k_f79:Nat:=120
def k_f69:Nat:=121
def k_f33:Nat:=122
def k_f35:Nat:=123
def k_f14:Nat:=124
def k_f67:Nat:=125
def k_f132:Nat:=126
def k_f130:Nat:=127
def k_f8:Nat:=128
def k_f197:Nat:=129
def k_f25:Nat:=130
def k_f26:Nat:=131
def k_f31:Nat:=132
def k_f32:Nat:=133
def k_f12:Nat:=134
def k_f13:Nat:=135
def k_f66:Nat:=136
def k_f131:Nat:=137
def k_f30:Nat:=138
def k_f11:Nat:=139
def k_f29:Nat:=140
def k_f28:Nat:=141
def k_f27:Nat:=142
noncomputable def c_f1:=zD (tbl k_f1)
noncomputable def c_f2:=zD (tbl k_f2)
noncomputable def c_f3:=zD (tbl k_f3)
noncomputable def c_f4:=zD (tbl k_f4)
noncomputable def c_f6:=zD (tbl k_f6)
noncomputable def c_f7:=zD (tbl k_f7)
noncomputable def c_f8:=zD (tbl k_f8)
noncomputable def c_f9:=zD (tbl k_f9)
noncomputable def c_f11:=zD (tbl k_f11)
noncomputable def c_f12:=zD (tbl k_f12)
noncomputable def c_f13:=zD (tbl k_f13)
noncomputable def c_f14:=zD (tbl k_f14)
noncomputable def c_f15:=zD (tbl k_f15)
noncomputable def c_f16:=zD (tbl k_f16)
noncomputable def c_f18:=zD (tbl k_f18)
noncomputable def c_f19:=zD (tbl k_f19)
noncomputable def c_f20:=zD (tbl k_f20)
noncomputable def c_f21:=zD (tbl k_f21)
noncomputable def c_f22:=zD (tbl k_f22)
noncomputable def c_f24:=zD (tbl k_f24)
noncomputable def c_f25:=zD (tbl k_f25)
noncomputable def c_f26:=zD (tbl k_f26)
noncomputable def c_f27:=zD (tbl k_f27)
noncomputable def c_f28:=zD (tbl k_f28)
noncomputable def c_f29:=zD (tbl k_f29)
noncomputable def c_f30:=zD (tbl k_f30)
noncomputable def c_f31:=zD (tbl k_f31)
noncomputable def c_f32:=zD (tbl k_f32)
noncomputable def c_f33:=zD (tbl k_f33)
noncomputable def c_f34:=zD (tbl k_f34)
noncomputable def c_f35:=zD (tbl k_f35)
noncomputable def c_f36:=zD (tbl k_f36)
noncomputable def c_f37:=zD (tbl k_f37)
noncomputable def c_f38:=zD (tbl k_f38)
noncomputable def c_f41:=zD (tbl k_f41)
noncomputable def c_f42:=zD (tbl k_f42)
noncomputable def c_f43:=zD (tbl k_f43)
noncomputable def c_f44:=zD (tbl k_f44)
noncomputable def c_f45:=zD (tbl k_f45)
noncomputable def c_f46:=zD (tbl k_f46)
noncomputable def c_f47:=zD (tbl k_f47)
noncomputable def c_f48:=zD (tbl k_f48)
noncomputable def c_f49:=zD (tbl k_f49)
noncomputable def c_f50:=zD (tbl k_f50)
noncomputable def c_f51:=zD (tbl k_f51)
noncomputable def c_f55:=zD (tbl k_f55)
noncomputable def c_f56:=zD (tbl k_f56)
noncomputable def c_f57:=zD (tbl k_f57)
noncomputable def c_f58:=zD (tbl k_f58)
noncomputable def c_f63:=zD (tbl k_f63)
noncomputable def c_f64:=zD (tbl k_f64)
noncomputable def c_f65:=zD (tbl k_f65)
noncomputable def c_f66:=zD (tbl k_f66)
noncomputable def c_f67:=zD (tbl k_f67)
noncomputable def c_f68:=zD (tbl k_f68)
noncomputable def c_f69:=zD (tbl k_f69)
noncomputable def c_f70:=zD (tbl k_f70)
noncomputable def c_f77:=zD (tbl k_f77)
noncomputable def c_f78:=zD (tbl k_f78)
noncomputable def c_f79:=zD (tbl k_f79)
noncomputable def c_f80:=zD (tbl k_f80)
noncomputable def c_f82:=zD (tbl k_f82)
noncomputable def c_f83:=zD (tbl k_f83)
noncomputable def c_f84:=zD (tbl k_f84)
noncomputable def c_f85:=zD (tbl k_f85)
noncomputable def c_f86:=zD (tbl k_f86)
noncomputable def c_f87:=zD (tbl k_f87)
noncomputable def c_f88:=zD (tbl k_f88)
noncomputable def c_f94:=zD (tbl k_f94)
noncomputable def c_f95:=zD (tbl k_f95)
noncomputable def c_f96:=zD (tbl k_f96)
noncomputable def c_f97:=zD (tbl k_f97)
noncomputable def c_f98:=zD (tbl k_f98)
noncomputable def c_f99:=zD (tbl k_f99)
noncomputable def c_f100:=zD (tbl k_f100)
noncomputable def c_f117:=zD (tbl k_f117)
noncomputable def c_f118:=zD (tbl k_f118)
noncomputable def c_f119:=zD (tbl k_f119)
noncomputable def c_f120:=zD (tbl k_f120)
noncomputable def c_f121:=zD (tbl k_f121)
noncomputable def c_f122:=zD (tbl k_f122)
noncomputable def c_f123:=zD (tbl k_f123)
noncomputable def c_f124:=zD (tbl k_f124)
noncomputable def c_f125:=zD (tbl k_f125)
noncomputable def c_f126:=zD (tbl k_f126)
noncomputable def c_f127:=zD (tbl k_f127)
noncomputable def c_f128:=zD (tbl k_f128)
noncomputable def c_f129:=zD (tbl k_f129)
noncomputable def c_f130:=zD (tbl k_f130)
noncomputable def c_f131:=zD (tbl k_f131)
noncomputable def c_f132:=zD (tbl k_f132)
noncomputable def c_f133:=zD (tbl k_f133)
noncomputable def c_f134:=zD (tbl k_f134)
noncomputable def c_f135:=zD (tbl k_f135)
noncomputable def c_f136:=zD (tbl k_f136)
noncomputable def c_f137:=zD (tbl k_f137)
noncomputable def c_f138:=zD (tbl k_f138)
noncomputable def c_f139:=zD (tbl k_f139)
noncomputable def c_f140:=zD (tbl k_f140)
noncomputable def c_f141:=zD (tbl k_f141)
noncomputable def c_f142:=zD (tbl k_f142)
noncomputable def c_f143:=zD (tbl k_f143)
noncomputable def c_f144:=zD (tbl k_f144)
noncomputable def c_f145:=zD (tbl k_f145)
noncomputable def c_f146:=zD (tbl k_f146)
noncomputable def c_f147:=zD (tbl k_f147)
noncomputable def c_f148:=zD (tbl k_f148)
noncomputable def c_f149:=zD (tbl k_f149)
noncomputable def c_f150:=zD (tbl k_f150)
noncomputable def c_f151:=zD (tbl k_f151)
noncomputable def c_f155:=zD (tbl k_f155)
noncomputable def c_f157:=zD (tbl k_f157)
noncomputable def c_f158:=zD (tbl k_f158)
noncomputable def c_f160:=zD (tbl k_f160)
noncomputable def c_f194:=zD (tbl k_f194)
noncomputable def c_f195:=zD (tbl k_f195)
noncomputable def c_f196:=zD (tbl k_f196)
noncomputable def c_f197:=zD (tbl k_f197)
noncomputable def c_f198:=zD (tbl k_f198)
noncomputable def c_f199:=zD (tbl k_f199)
noncomputable def c_f200:=zD (tbl k_f200)
noncomputable def c_f201:=zD (tbl k_f201)
noncomputable def c_f202:=zD (tbl k_f202)
noncomputable def c_f203:=zD (tbl k_f203)
noncomputable def c_f204:=zD (tbl k_f204)
noncomputable def c_f205:=zD (tbl k_f205)
noncomputable def c_f206:=zD (tbl k_f206)
noncomputable def c_f207:=zD (tbl k_f207)
noncomputable def c_f208:=zD (tbl k_f208)
noncomputable def c_f209:=zD (tbl k_f209)
noncomputable def c_f210:=zD (tbl k_f210)
noncomputable def c_f211:=zD (tbl k_f211)
noncomputable def c_f212:=zD (tbl k_f212)
noncomputable def c_f213:=zD (tbl k_f213)
noncomputable def c_f214:=zD (tbl k_f214)
noncomputable def c_f215:=zD (tbl k_f215)
noncomputable def c_f216:=zD (tbl k_f216)
noncomputable def c_f217:=zD (tbl k_f217)
def D_f1_1 (F:TF)(Q:TQ)(x0:AV)(L:Lg):Prop :=za F .max [x0,(.i .i64 (-4611686018427387904))] L fun v1 L1=>za F .min [v1,(.i .i64 4611686018427387904)] L1 fun v2 L2=>zl (some v2) Q L2
structure H_f1 (F:TF):Prop where
 code:F k_f1=some c_f1
theorem r_f1 {F:TF}(h:F k_f1=some c_f1){Q:TQ}{a0:AV}{L:Lg}(e:D_f1_1 F Q a0 L):zd F k_f1 [a0] L Q :=
 cw h (fun l t L=>lf (D_f1_1 F Q (l 0) L)) e
def D_f2_1 (F:TF)(Q:TQ)(x0 x1:AV)(L:Lg):Prop :=zd F k_f1 [x0] L fun v1 L1=>zd F k_f1 [x1] L1 fun v2 L2=>za F (.bin .gtr) [v2,(.i .i64 0)] L2 fun v3 L3=>zi F v3 true .mv [v1] L3 fun v4 L4=>zi F v3 true .mv [v2] L4 fun v5 L5=>zi F v3 true (.bin .sub) [(.i .i64 4611686018427387904),v5] L5 fun v6 L6=>zi F v3 true (.bin .gtr) [v4,v6] L6 fun v7 L7=>za F .pick [v3,v7,(.b false)] L7 fun v8 L8=>zn v8 (zl (some (.i .i64 4611686018427387904)) Q L8) (za F (.bin .lss) [v2,(.i .i64 0)] L8 fun v9 L9=>zi F v9 true .mv [v1] L9 fun v10 L10=>zi F v9 true .mv [v2] L10 fun v11 L11=>zi F v9 true (.bin .sub) [(.i .i64 (-4611686018427387904)),v11] L11 fun v12 L12=>zi F v9 true (.bin .lss) [v10,v12] L12 fun v13 L13=>za F .pick [v9,v13,(.b false)] L13 fun v14 L14=>zn v14 (zl (some (.i .i64 (-4611686018427387904))) Q L14) (za F (.bin .add) [v1,v2] L14 fun v15 L15=>zl (some v15) Q L15))
structure H_f2 (F:TF):Prop where
 code:F k_f2=some c_f2
 f1:H_f1 F
theorem r_f2 {F:TF}(h:F k_f2=some c_f2){Q:TQ}{a0 a1:AV}{L:Lg}(e:D_f2_1 F Q a0 a1 L):zd F k_f2 [a0,a1] L Q :=
 cw h (fun l t L=>lf (D_f2_1 F Q (l 0) (l 1) L)) e
def D_f3_1 (F:TF)(Q:TQ)(x0 x1 x2:AV)(L:Lg):Prop :=za F (.bin .lss) [x1,(.i .i64 1)] L fun v1 L1=>zi F v1 false .mv [x0] L1 fun v2 L2=>zi F v1 false .mv [x2] L2 fun v3 L3=>zi F v1 false .min [v2,v3] L3 fun v4 L4=>zi F v1 false (.bin .lss) [v4,(.i .i64 0)] L4 fun v5 L5=>za F .pick [v1,(.b true),v5] L5 fun v6 L6=>zi F v6 false .mv [x0] L6 fun v7 L7=>zi F v6 false .mv [x1] L7 fun v8 L8=>zi F v6 false .mv [x2] L8 fun v9 L9=>zi F v6 false .max [v7,v8,v9] L9 fun v10 L10=>zi F v6 false (.bin .gtr) [v10,(.i .i64 4611686018427387904)] L10 fun v11 L11=>za F .pick [v6,(.b true),v11] L11 fun v12 L12=>zn v12 (zl (some (.tup [(.i .i64 0),(.i .i64 1)])) Q L12) (za F (.bin .gtr) [x0,x2] L12 fun v13 L13=>zn v13 (zl (some (.tup [x0,(.i .i64 0)])) Q L13) (za F (.bin .sub) [x2,x0] L13 fun v14 L14=>za F (.bin .rem) [v14,x1] L14 fun v15 L15=>za F (.bin .sub) [x1,v15] L15 fun v16 L16=>zd F k_f2 [x2,v16] L16 fun v17 L17=>zl (some (.tup [v17,(.i .i64 0)])) Q L17))
structure H_f3 (F:TF):Prop where
 code:F k_f3=some c_f3
 f2:H_f2 F
theorem r_f3 {F:TF}(h:F k_f3=some c_f3){Q:TQ}{a0 a1 a2:AV}{L:Lg}(e:D_f3_1 F Q a0 a1 a2 L):zd F k_f3 [a0,a1,a2] L Q :=
 cw h (fun l t L=>lf (D_f3_1 F Q (l 0) (l 1) (l 2) L)) e
def D_f4_3 (F:TF)(Q:TQ)(x0 x1:AV)(L:Lg):Prop :=za F .nilchk [x0] L fun v1 L1=>za F (.fad 0) [v1] L1 fun v2 L2=>za F (.ld none) [v2] L2 fun v3 L3=>za F .nilchk [x0] L3 fun v4 L4=>za F (.fad 1) [v4] L4 fun v5 L5=>za F (.ld none) [v5] L5 fun v6 L6=>za F .nilchk [x0] L6 fun v7 L7=>za F (.fad 2) [v7] L7 fun v8 L8=>za F (.ld none) [v8] L8 fun v9 L9=>za F (.bin .add) [v6,v9] L9 fun v10 L10=>za F .nilchk [x0] L10 fun v11 L11=>za F (.fad 0) [v11] L11 fun v12 L12=>za F (.ld none) [v12] L12 fun v13 L13=>za F .lenSl [v13] L13 fun v14 L14=>za F (.bin .rem) [v10,v14] L14 fun v15 L15=>za F (.iad 1) [v3,v15] L15 fun v16 L16=>za F (.st 1) [v16,x1] L16 fun _ L17=>za F .nilchk [x0] L17 fun v18 L18=>za F (.fad 2) [v18] L18 fun v19 L19=>za F (.ld none) [v19] L19 fun v20 L20=>za F (.bin .add) [v20,(.i .i64 1)] L20 fun v21 L21=>za F .nilchk [x0] L21 fun v22 L22=>za F (.fad 2) [v22] L22 fun v23 L23=>za F (.st 1) [v23,v21] L23 fun _ L24=>zl (some (.b true)) Q L24
def D_f4_2 (F:TF)(Q:TQ)(x0 x1:AV)(L:Lg):Prop :=za F (.eq false .ptr) [x0,(.p none)] L fun v1 L1=>zi F v1 false .mv [x0] L1 fun v2 L2=>zi F v1 false .nilchk [v2] L2 fun v3 L3=>zi F v1 false (.fad 2) [v3] L3 fun v4 L4=>zi F v1 false (.ld none) [v4] L4 fun v5 L5=>zi F v1 false .mv [x0] L5 fun v6 L6=>zi F v1 false .nilchk [v6] L6 fun v7 L7=>zi F v1 false (.fad 0) [v7] L7 fun v8 L8=>zi F v1 false (.ld none) [v8] L8 fun v9 L9=>zi F v1 false .lenSl [v9] L9 fun v10 L10=>zi F v1 false (.bin .eql) [v5,v10] L10 fun v11 L11=>za F .pick [v1,(.b true),v11] L11 fun v12 L12=>zn v12 (zl (some (.b false)) Q L12) (D_f4_3 F Q x0 x1 L12)
def D_f4_1 (F:TF)(Q:TQ)(x0 x1:AV)(L:Lg):Prop :=D_f4_2 F Q x0 x1 L
structure H_f4 (F:TF):Prop where
 code:F k_f4=some c_f4
theorem r_f4 {F:TF}(h:F k_f4=some c_f4){Q:TQ}{a0 a1:AV}{L:Lg}(e:D_f4_1 F Q a0 a1 L):zd F k_f4 [a0,a1] L Q :=
 cw h (fun l t L=>wS (fun l t L=>wS (fun l t L=>lf (D_f4_3 F Q (l 0) (l 1) L)) (lf (D_f4_2 F Q (l 0) (l 1) L))) (lf (D_f4_1 F Q (l 0) (l 1) L))) e
def D_f6_1 (F:TF)(Q:TQ)(x0:AV)(L:Lg):Prop :=za F (.eq false .ptr) [x0,(.p none)] L fun v1 L1=>zn v1 (zl (some (.i .i64 0)) Q L1) (za F .nilchk [x0] L1 fun v2 L2=>za F (.fad 2) [v2] L2 fun v3 L3=>za F (.ld none) [v3] L3 fun v4 L4=>zl (some v4) Q L4)
structure H_f6 (F:TF):Prop where
 code:F k_f6=some c_f6
theorem r_f6 {F:TF}(h:F k_f6=some c_f6){Q:TQ}{a0:AV}{L:Lg}(e:D_f6_1 F Q a0 L):zd F k_f6 [a0] L Q :=
 cw h (fun l t L=>lf (D_f6_1 F Q (l 0) L)) e
def D_f7_1 (F:TF)(Q:TQ)(x0:AV)(L:Lg):Prop :=za F (.eq false .ptr) [x0,(.p none)] L fun v1 L1=>zn v1 (zl (some (.i .i64 0)) Q L1) (za F .nilchk [x0] L1 fun v2 L2=>za F (.fad 0) [v2] L2 fun v3 L3=>za F (.ld none) [v3] L3 fun v4 L4=>za F .lenSl [v4] L4 fun v5 L5=>zl (some v5) Q L5)
structure H_f7 (F:TF):Prop where
 code:F k_f7=some c_f7
theorem r_f7 {F:TF}(h:F k_f7=some c_f7){Q:TQ}{a0:AV}{L:Lg}(e:D_f7_1 F Q a0 L):zd F k_f7 [a0] L Q :=
 cw h (fun l t L=>lf (D_f7_1 F Q (l 0) L)) e
def D_f8_1 (F:TF)(Q:TQ)(x0:AV)(L:Lg):Prop :=zd F k_f6 [x0] L fun v1 L1=>za F (.bin .gtr) [v1,(.i .i64 0)] L1 fun v2 L2=>zn v2 (za F .nilchk [x0] L2 fun v3 L3=>za F (.fad 2) [v3] L3 fun v4 L4=>za F (.st 1) [v4,(.i .i64 0)] L4 fun _ L5=>zl (some v1) Q L5) (zl (some v1) Q L2)
structure H_f8 (F:TF):Prop where
 code:F k_f8=some c_f8
 f6:H_f6 F
theorem r_f8 {F:TF}(h:F k_f8=some c_f8){Q:TQ}{a0:AV}{L:Lg}(e:D_f8_1 F Q a0 L):zd F k_f8 [a0] L Q :=
 cw h (fun l t L=>lf (D_f8_1 F Q (l 0) L)) e
def D_f9_1 (F:TF)(Q:TQ)(x0:AV)(L:Lg):Prop :=za F (.bin .lss) [x0,(.i .i64 0)] L fun v1 L1=>zi F v1 false .mv [x0] L1 fun v2 L2=>zi F v1 false (.bin .gtr) [v2,(.i .i64 64)] L2 fun v3 L3=>za F .pick [v1,(.b true),v3] L3 fun v4 L4=>zn v4 (zl (some (.tup [(.p none),(.i .i64 1)])) Q L4) (za F (.mksl [.i .i64 0] 8) [x0,x0] L4 fun v5 L5=>za F (.build [.sl none 0 0 0,.i .i64 0,.i .i64 0] [(0,1)]) [v5] L5 fun v6 L6=>za F .box [v6] L6 fun v7 L7=>zl (some (.tup [v7,(.i .i64 0)])) Q L7)
structure H_f9 (F:TF):Prop where
 code:F k_f9=some c_f9
theorem r_f9 {F:TF}(h:F k_f9=some c_f9){Q:TQ}{a0:AV}{L:Lg}(e:D_f9_1 F Q a0 L):zd F k_f9 [a0] L Q :=
 cw h (fun l t L=>lf (D_f9_1 F Q (l 0) L)) e
def D_f11_2 (F:TF)(Q:TQ)(x0 x1:AV)(L:Lg):Prop :=za F .nilchk [x1] L fun v1 L1=>za F (.fad 4) [v1] L1 fun v2 L2=>za F (.ld none) [v2] L2 fun v3 L3=>za F (.eq false .ptr) [v3,(.p none)] L3 fun v4 L4=>zn v4 (za F .nilchk [x1] L4 fun v5 L5=>za F (.fad 3) [v5] L5 fun v6 L6=>za F (.ld none) [v6] L6 fun v7 L7=>za F .nilchk [x0] L7 fun v8 L8=>za F (.fad 1) [v8] L8 fun v9 L9=>za F (.st 1) [v9,v7] L9 fun _ L10=>za F .nilchk [x0] L10 fun v11 L11=>za F (.fad 2) [v11] L11 fun v12 L12=>za F (.ld none) [v12] L12 fun v13 L13=>za F (.bin .sub) [v13,(.i .i64 1)] L13 fun v14 L14=>za F .nilchk [x0] L14 fun v15 L15=>za F (.fad 2) [v15] L15 fun v16 L16=>za F (.st 1) [v16,v14] L16 fun _ L17=>zl (some (.tup [])) Q L17) (za F .nilchk [x1] L4 fun v18 L18=>za F (.fad 4) [v18] L18 fun v19 L19=>za F (.ld none) [v19] L19 fun v20 L20=>za F .nilchk [x1] L20 fun v21 L21=>za F (.fad 3) [v21] L21 fun v22 L22=>za F (.ld none) [v22] L22 fun v23 L23=>za F .nilchk [v20] L23 fun v24 L24=>za F (.fad 3) [v24] L24 fun v25 L25=>za F (.st 1) [v25,v23] L25 fun _ L26=>za F .nilchk [x0] L26 fun v27 L27=>za F (.fad 2) [v27] L27 fun v28 L28=>za F (.ld none) [v28] L28 fun v29 L29=>za F (.bin .sub) [v29,(.i .i64 1)] L29 fun v30 L30=>za F .nilchk [x0] L30 fun v31 L31=>za F (.fad 2) [v31] L31 fun v32 L32=>za F (.st 1) [v32,v30] L32 fun _ L33=>zl (some (.tup [])) Q L33)
def D_f11_1 (F:TF)(Q:TQ)(x0 x1:AV)(L:Lg):Prop :=za F .nilchk [x1] L fun v1 L1=>za F (.fad 3) [v1] L1 fun v2 L2=>za F (.ld none) [v2] L2 fun v3 L3=>za F (.eq false .ptr) [v3,(.p none)] L3 fun v4 L4=>zn v4 (za F .nilchk [x1] L4 fun v5 L5=>za F (.fad 4) [v5] L5 fun v6 L6=>za F (.ld none) [v6] L6 fun v7 L7=>za F .nilchk [x0] L7 fun v8 L8=>za F (.fad 0) [v8] L8 fun v9 L9=>za F (.st 1) [v9,v7] L9 fun _ L10=>D_f11_2 F Q x0 x1 L10) (za F .nilchk [x1] L4 fun v11 L11=>za F (.fad 3) [v11] L11 fun v12 L12=>za F (.ld none) [v12] L12 fun v13 L13=>za F .nilchk [x1] L13 fun v14 L14=>za F (.fad 4) [v14] L14 fun v15 L15=>za F (.ld none) [v15] L15 fun v16 L16=>za F .nilchk [v13] L16 fun v17 L17=>za F (.fad 4) [v17] L17 fun v18 L18=>za F (.st 1) [v18,v16] L18 fun _ L19=>D_f11_2 F Q x0 x1 L19)
structure H_f11 (F:TF):Prop where
 code:F k_f11=some c_f11
theorem r_f11 {F:TF}(h:F k_f11=some c_f11){Q:TQ}{a0 a1:AV}{L:Lg}(e:D_f11_1 F Q a0 a1 L):zd F k_f11 [a0,a1] L Q :=
 cw h (fun l t L=>wS (fun l t L=>lf (D_f11_2 F Q (l 0) (l 1) L)) (lf (D_f11_1 F Q (l 0) (l 1) L))) e
def D_f12_4 (F:TF)(Q:TQ)(x4:AV)(L:Lg):Prop :=za F (.build [.i .i64 0,.i .i64 0,.i .i64 0] []) [] L fun v1 L1=>za F (.st 3) [x4,v1] L1 fun _ L2=>zl (yz Env.nil Env.nil L2 [.cell (.c x4) (some 3),.tmp (.c (.b false))]) Q L2
def D_f12_8 (F:TF)(Q:TQ)(k1:TK)(l:Env)(L:Lg):Prop :=za F (.eq true .ptr) [(l 6),(.p none)] L fun v1 L1=>zn v1 (za F .nilchk [(l 6)] L1 fun v2 L2=>za F (.fad 0) [v2] L2 fun v3 L3=>za F (.ld (some 3)) [v3] L3 fun v4 L4=>za F .callv [(l 1),v4] L4 fun v5 L5=>zn v5 (zd F k_f11 [(l 0),(l 6)] L5 fun v6 L6=>za F .nilchk [(l 6)] L6 fun v7 L7=>za F (.fad 0) [v7] L7 fun v8 L8=>za F (.ld (some 3)) [v8] L8 fun v9 L9=>za F (.st 3) [(l 4),v9] L9 fun _ L10=>zl (yz Env.nil Env.nil L10 [.cell (.c (l 4)) (some 3),.tmp (.c (.b true))]) Q L10) (za F .nilchk [(l 6)] L5 fun v11 L11=>za F (.fad 4) [v11] L11 fun v12 L12=>za F (.ld none) [v12] L12 fun v13 L13=>k1 (Env.put l 6 v13) L13)) (D_f12_4 F Q (l 4) L1)
def D_f12_7 (F:TF)(Q:TQ)(l:Env)(L:Lg):Prop :=xC (fun l t L k1=>D_f12_8 F Q k1 l L) l L
def D_f12_5 (F:TF)(Q:TQ)(l:Env)(L:Lg):Prop :=za F .nilchk [(l 0)] L fun v1 L1=>za F (.fad 0) [v1] L1 fun v2 L2=>za F (.ld none) [v2] L2 fun v3 L3=>D_f12_7 F Q (Env.put l 6 v3) L3
def D_f12_2 (F:TF)(Q:TQ)(l:Env)(L:Lg):Prop :=za F (.eq false .ptr) [(l 0),(.p none)] L fun v1 L1=>zn v1 (za F (.build [.i .i64 0,.i .i64 0,.i .i64 0] []) [] L1 fun v2 L2=>za F (.st 3) [(l 4),v2] L2 fun _ L3=>zl (yz Env.nil Env.nil L3 [.cell (.c (l 4)) (some 3),.tmp (.c (.b false))]) Q L3) (D_f12_5 F Q l L1)
def D_f12_1 (F:TF)(Q:TQ)(l:Env)(L:Lg):Prop :=za F (.alloc [.i .i64 0,.i .i64 0,.i .i64 0]) [] L fun v1 L1=>D_f12_2 F Q (Env.put (Env.put l 4 v1) 5 (.b false)) L1
structure H_f12 (F:TF):Prop where
 code:F k_f12=some c_f12
 f11:H_f11 F
theorem r_f12 {F:TF}(h:F k_f12=some c_f12){Q:TQ}{a0 a1:AV}{L:Lg}(e:D_f12_1 F Q (zJ [a0,a1] 0) L):zd F k_f12 [a0,a1] L Q :=
 cw h (fun l t L=>wS (fun l t L=>wS (fun l t L=>wS (fun l t L=>lf (D_f12_4 F Q (l 4) L)) (wS (fun l t L=>wB (wL (fun l t L k1=>lf (D_f12_8 F Q k1 l L)) (lf (D_f12_7 F Q l L)))) (lf (D_f12_5 F Q l L)))) (lf (D_f12_2 F Q l L))) (lf (D_f12_1 F Q l L))) e
def D_f13_1 (F:TF)(Q:TQ)(x0:AV)(L:Lg):Prop :=za F .box [x0] L fun v1 L1=>zl (some (.b true)) Q L1
structure H_f13 (F:TF):Prop where
 code:F k_f13=some c_f13
theorem r_f13 {F:TF}(h:F k_f13=some c_f13){Q:TQ}{a0:AV}{L:Lg}(e:D_f13_1 F Q a0 L):zd F k_f13 [a0] L Q :=
 cw h (fun l t L=>lf (D_f13_1 F Q (l 0) L)) e
def D_f13 (F:TF)(Q:TQ)(x0:AV)(L:Lg):Prop :=za F (.alloc [.i .i64 0,.i .i64 0,.i .i64 0]) [] L fun v1 L1=>zd F k_f12 [x0,(.fn k_f13 [] [])] L1 fun v2 L2=>za F (.ext 0) [v2] L2 fun v3 L3=>za F (.ext 1) [v2] L3 fun v4 L4=>za F (.st 3) [v1,v3] L4 fun _ L5=>zl (yz Env.nil Env.nil L5 [.cell (.c v1) (some 3),.tmp (.c v4)]) Q L5
structure H_f14 (F:TF):Prop where
 code:F k_f14=some c_f14
 f12:H_f12 F
 f13:H_f13 F
theorem r_f14 {F:TF}(h:F k_f14=some c_f14){Q:TQ}{a0:AV}{L:Lg}(e:D_f13 F Q a0 L):zd F k_f14 [a0] L Q :=
 cw h (fun l t L=>lf (D_f13 F Q (l 0) L)) e
def D_f15_4 (F:TF)(Q:TQ)(x2:AV)(L:Lg):Prop :=zl (some x2) Q L
def D_f15_8 (F:TF)(Q:TQ)(k1:TK)(l:Env)(L:Lg):Prop :=za F (.eq true .ptr) [(l 3),(.p none)] L fun v1 L1=>zn v1 (za F .nilchk [(l 3)] L1 fun v2 L2=>za F (.fad 0) [v2] L2 fun v3 L3=>za F (.ld (some 3)) [v3] L3 fun v4 L4=>za F (.bslice [.i .i64 0,.i .i64 0,.i .i64 0] 1 3 [0]) [v4] L4 fun v5 L5=>za F (.app 3 24) [(l 2),v5] L5 fun v6 L6=>za F .nilchk [(l 3)] L6 fun v7 L7=>za F (.fad 4) [v7] L7 fun v8 L8=>za F (.ld none) [v8] L8 fun v9 L9=>k1 (Env.put (Env.put l 2 v6) 3 v9) L9) (D_f15_4 F Q (l 2) L1)
def D_f15_7 (F:TF)(Q:TQ)(l:Env)(L:Lg):Prop :=xC (fun l t L k1=>D_f15_8 F Q k1 l L) l L
def D_f15_5 (F:TF)(Q:TQ)(l:Env)(L:Lg):Prop :=za F .nilchk [(l 0)] L fun v1 L1=>za F (.fad 0) [v1] L1 fun v2 L2=>za F (.ld none) [v2] L2 fun v3 L3=>D_f15_7 F Q (Env.put l 3 v3) L3
def D_f15_2 (F:TF)(Q:TQ)(l:Env)(L:Lg):Prop :=za F (.eq false .ptr) [(l 0),(.p none)] L fun v1 L1=>zn v1 (zl (some (.sl none 0 0 0)) Q L1) (D_f15_5 F Q l L1)
def D_f15_1 (F:TF)(Q:TQ)(l:Env)(L:Lg):Prop :=D_f15_2 F Q (Env.put l 2 (.sl none 0 0 0)) L
structure H_f15 (F:TF):Prop where
 code:F k_f15=some c_f15
theorem r_f15 {F:TF}(h:F k_f15=some c_f15){Q:TQ}{a0:AV}{L:Lg}(e:D_f15_1 F Q (zJ [a0] 0) L):zd F k_f15 [a0] L Q :=
 cw h (fun l t L=>wS (fun l t L=>wS (fun l t L=>wS (fun l t L=>lf (D_f15_4 F Q (l 2) L)) (wS (fun l t L=>wB (wL (fun l t L k1=>lf (D_f15_8 F Q k1 l L)) (lf (D_f15_7 F Q l L)))) (lf (D_f15_5 F Q l L)))) (lf (D_f15_2 F Q l L))) (lf (D_f15_1 F Q l L))) e
def D_f16_5 (F:TF)(Q:TQ)(x0 x5:AV)(L:Lg):Prop :=za F .nilchk [x0] L fun v1 L1=>za F (.fad 1) [v1] L1 fun v2 L2=>za F (.st 1) [v2,x5] L2 fun _ L3=>za F .nilchk [x0] L3 fun v4 L4=>za F (.fad 2) [v4] L4 fun v5 L5=>za F (.ld none) [v5] L5 fun v6 L6=>za F (.bin .add) [v6,(.i .i64 1)] L6 fun v7 L7=>za F .nilchk [x0] L7 fun v8 L8=>za F (.fad 2) [v8] L8 fun v9 L9=>za F (.st 1) [v9,v7] L9 fun _ L10=>za F .nilchk [x0] L10 fun v11 L11=>za F (.fad 2) [v11] L11 fun v12 L12=>za F (.ld none) [v12] L12 fun v13 L13=>zl (some v13) Q L13
def D_f16_4 (F:TF)(Q:TQ)(x0 x5:AV)(L:Lg):Prop :=za F .nilchk [x0] L fun v1 L1=>za F (.fad 1) [v1] L1 fun v2 L2=>za F (.ld none) [v2] L2 fun v3 L3=>za F (.eq false .ptr) [v3,(.p none)] L3 fun v4 L4=>zn v4 (za F .nilchk [x0] L4 fun v5 L5=>za F (.fad 0) [v5] L5 fun v6 L6=>za F (.st 1) [v6,x5] L6 fun _ L7=>D_f16_5 F Q x0 x5 L7) (za F .nilchk [x0] L4 fun v8 L8=>za F (.fad 1) [v8] L8 fun v9 L9=>za F (.ld none) [v9] L9 fun v10 L10=>za F .nilchk [v10] L10 fun v11 L11=>za F (.fad 4) [v11] L11 fun v12 L12=>za F (.st 1) [v12,x5] L12 fun _ L13=>D_f16_5 F Q x0 x5 L13)
def D_f16_3 (F:TF)(Q:TQ)(x0 x3:AV)(L:Lg):Prop :=za F (.ld (some 3)) [x3] L fun v1 L1=>za F .nilchk [x0] L1 fun v2 L2=>za F (.fad 1) [v2] L2 fun v3 L3=>za F (.ld none) [v3] L3 fun v4 L4=>za F (.build [.i .i64 0,.i .i64 0,.i .i64 0,.p none,.p none] [(0,3),(3,1)]) [v1,v4] L4 fun v5 L5=>za F .box [v5] L5 fun v6 L6=>D_f16_4 F Q x0 v6 L6
def D_f16_2 (F:TF)(Q:TQ)(x0 x3:AV)(L:Lg):Prop :=za F (.eq false .ptr) [x0,(.p none)] L fun v1 L1=>zn v1 (zl (some (.i .i64 0)) Q L1) (D_f16_3 F Q x0 x3 L1)
def D_f16_1 (F:TF)(Q:TQ)(x0 x1:AV)(L:Lg):Prop :=za F .box [x1] L fun v1 L1=>D_f16_2 F Q x0 v1 L1
structure H_f16 (F:TF):Prop where
 code:F k_f16=some c_f16
theorem r_f16 {F:TF}(h:F k_f16=some c_f16){Q:TQ}{a0 a1:AV}{L:Lg}(e:D_f16_1 F Q a0 a1 L):zd F k_f16 [a0,a1] L Q :=
 cw h (fun l t L=>wS (fun l t L=>wS (fun l t L=>wS (fun l t L=>wS (fun l t L=>lf (D_f16_5 F Q (l 0) (l 5) L)) (lf (D_f16_4 F Q (l 0) (l 5) L))) (lf (D_f16_3 F Q (l 0) (l 3) L))) (lf (D_f16_2 F Q (l 0) (l 3) L))) (lf (D_f16_1 F Q (l 0) (l 1) L))) e
def D_f18_1 (F:TF)(Q:TQ)(L:Lg):Prop :=za F (.build [.p none,.p none,.i .i64 0] []) [] L fun v1 L1=>za F .box [v1] L1 fun v2 L2=>zl (some v2) Q L2
structure H_f18 (F:TF):Prop where
 code:F k_f18=some c_f18
theorem r_f18 {F:TF}(h:F k_f18=some c_f18){Q:TQ}{L:Lg}(e:D_f18_1 F Q L):zd F k_f18 [] L Q :=
 cw h (fun l t L=>lf (D_f18_1 F Q L)) e
def D_f19_1 (F:TF)(Q:TQ)(L:Lg):Prop :=za F .mkmap [] L fun v1 L1=>za F (.build [.sl none 0 0 0,.m none,.i .i64 0] [(1,1)]) [v1] L1 fun v2 L2=>za F .box [v2] L2 fun v3 L3=>zl (some v3) Q L3
structure H_f19 (F:TF):Prop where
 code:F k_f19=some c_f19
theorem r_f19 {F:TF}(h:F k_f19=some c_f19){Q:TQ}{L:Lg}(e:D_f19_1 F Q L):zd F k_f19 [] L Q :=
 cw h (fun l t L=>lf (D_f19_1 F Q L)) e
def D_f20_1 (F:TF)(Q:TQ)(L:Lg):Prop :=zd F k_f19 [] L fun v1 L1=>za F .mkmap [] L1 fun v2 L2=>za F (.build [.p none,.m none] [(0,1),(1,1)]) [v1,v2] L2 fun v3 L3=>za F .box [v3] L3 fun v4 L4=>zl (some v4) Q L4
structure H_f20 (F:TF):Prop where
 code:F k_f20=some c_f20
 f19:H_f19 F
theorem r_f20 {F:TF}(h:F k_f20=some c_f20){Q:TQ}{L:Lg}(e:D_f20_1 F Q L):zd F k_f20 [] L Q :=
 cw h (fun l t L=>lf (D_f20_1 F Q L)) e
def D_f21_1 (F:TF)(Q:TQ)(L:Lg):Prop :=zd F k_f20 [] L fun v1 L1=>za F (.build [.sl none 0 0 0,.p none,.i .i64 0] [(1,1)]) [v1] L1 fun v2 L2=>za F .box [v2] L2 fun v3 L3=>zl (some v3) Q L3
structure H_f21 (F:TF):Prop where
 code:F k_f21=some c_f21
 f20:H_f20 F
theorem r_f21 {F:TF}(h:F k_f21=some c_f21){Q:TQ}{L:Lg}(e:D_f21_1 F Q L):zd F k_f21 [] L Q :=
 cw h (fun l t L=>lf (D_f21_1 F Q L)) e
def D_f22_1 (F:TF)(Q:TQ)(x0:AV)(L:Lg):Prop :=zd F k_f9 [x0] L fun v1 L1=>za F (.ext 0) [v1] L1 fun v2 L2=>za F (.ext 1) [v1] L2 fun v3 L3=>za F (.bin .neq) [v3,(.i .i64 0)] L3 fun v4 L4=>zn v4 (zl (some (.tup [(.p none),v3])) Q L4) (zd F k_f18 [] L4 fun v5 L5=>zd F k_f18 [] L5 fun v6 L6=>za F (.build [.p none,.p none,.p none,.b false,.b false,.b false] [(0,1),(1,1),(2,1)]) [v2,v5,v6] L6 fun v7 L7=>za F .box [v7] L7 fun v8 L8=>zl (some (.tup [v8,(.i .i64 0)])) Q L8)
structure H_f22 (F:TF):Prop where
 code:F k_f22=some c_f22
 f9:H_f9 F
 f18:H_f18 F
theorem r_f22 {F:TF}(h:F k_f22=some c_f22){Q:TQ}{a0:AV}{L:Lg}(e:D_f22_1 F Q a0 L):zd F k_f22 [a0] L Q :=
 cw h (fun l t L=>lf (D_f22_1 F Q (l 0) L)) e
def D_f24_1 (F:TF)(Q:TQ)(x0:AV)(L:Lg):Prop :=za F (.bin .lss) [x0,(.i .i64 0)] L fun v1 L1=>zi F v1 false .mv [x0] L1 fun v2 L2=>zi F v1 false (.bin .gtr) [v2,(.i .i64 4611686018427387904)] L2 fun v3 L3=>za F .pick [v1,(.b true),v3] L3 fun v4 L4=>zl (some v4) Q L4
structure H_f24 (F:TF):Prop where
 code:F k_f24=some c_f24
theorem r_f24 {F:TF}(h:F k_f24=some c_f24){Q:TQ}{a0:AV}{L:Lg}(e:D_f24_1 F Q a0 L):zd F k_f24 [a0] L Q :=
 cw h (fun l t L=>lf (D_f24_1 F Q (l 0) L)) e
def D_f25_1 (F:TF)(Q:TQ)(x0 x1:AV)(L:Lg):Prop :=za F (.alloc [.i .i64 0,.i .i64 0,.i .i64 0]) [] L fun v1 L1=>za F (.eq false .ptr) [x0,(.p none)] L1 fun v2 L2=>zn v2 (za F (.build [.i .i64 0,.i .i64 0,.i .i64 0] []) [] L2 fun v3 L3=>za F (.st 3) [v1,v3] L3 fun _ L4=>zl (yz Env.nil Env.nil L4 [.cell (.c v1) (some 3),.tmp (.c (.b false))]) Q L4) (za F .nilchk [x0] L2 fun v5 L5=>za F (.fad 1) [v5] L5 fun v6 L6=>za F (.ld none) [v6] L6 fun v7 L7=>za F (.lkup (.i .i64 0) true) [v7,x1] L7 fun v8 L8=>za F (.ext 0) [v8] L8 fun v9 L9=>za F (.ext 1) [v8] L9 fun v10 L10=>za F (.un .not) [v10] L10 fun v11 L11=>zn v11 (za F (.build [.i .i64 0,.i .i64 0,.i .i64 0] []) [] L11 fun v12 L12=>za F (.st 3) [v1,v12] L12 fun _ L13=>zl (yz Env.nil Env.nil L13 [.cell (.c v1) (some 3),.tmp (.c (.b false))]) Q L13) (za F .nilchk [x0] L11 fun v14 L14=>za F (.fad 0) [v14] L14 fun v15 L15=>za F (.ld none) [v15] L15 fun v16 L16=>za F (.iad 3) [v16,v9] L16 fun v17 L17=>za F (.ld (some 3)) [v17] L17 fun v18 L18=>za F (.st 3) [v1,v18] L18 fun _ L19=>zl (yz Env.nil Env.nil L19 [.cell (.c v1) (some 3),.tmp (.c (.b true))]) Q L19))
structure H_f25 (F:TF):Prop where
 code:F k_f25=some c_f25
theorem r_f25 {F:TF}(h:F k_f25=some c_f25){Q:TQ}{a0 a1:AV}{L:Lg}(e:D_f25_1 F Q a0 a1 L):zd F k_f25 [a0,a1] L Q :=
 cw h (fun l t L=>lf (D_f25_1 F Q (l 0) (l 1) L)) e
def D_f26_1 (F:TF)(Q:TQ)(x0 x1 x2:AV)(L:Lg):Prop :=za F .box [x2] L fun v1 L1=>za F .nilchk [x0] L1 fun v2 L2=>za F (.fad 0) [v2] L2 fun v3 L3=>za F (.ld none) [v3] L3 fun v4 L4=>za F (.ld (some 3)) [v1] L4 fun v5 L5=>za F (.iad 3) [v4,x1] L5 fun v6 L6=>za F (.st 3) [v6,v5] L6 fun _ L7=>za F .nilchk [x0] L7 fun v8 L8=>za F (.fad 1) [v8] L8 fun v9 L9=>za F (.ld none) [v9] L9 fun v10 L10=>za F (.fad 0) [v1] L10 fun v11 L11=>za F (.ld none) [v11] L11 fun v12 L12=>za F .mset [v10,v12,x1] L12 fun _ L13=>zl (some (.tup [])) Q L13
structure H_f26 (F:TF):Prop where
 code:F k_f26=some c_f26
theorem r_f26 {F:TF}(h:F k_f26=some c_f26){Q:TQ}{a0 a1 a2:AV}{L:Lg}(e:D_f26_1 F Q a0 a1 a2 L):zd F k_f26 [a0,a1,a2] L Q :=
 cw h (fun l t L=>lf (D_f26_1 F Q (l 0) (l 1) (l 2) L)) e
def D_f27_1 (F:TF)(Q:TQ)(x0:AV)(L:Lg):Prop :=za F (.bin .neq) [x0,x0] L fun v1 L1=>zl (some v1) Q L1
structure H_f27 (F:TF):Prop where
 code:F k_f27=some c_f27
theorem r_f27 {F:TF}(h:F k_f27=some c_f27){Q:TQ}{a0:AV}{L:Lg}(e:D_f27_1 F Q a0 L):zd F k_f27 [a0] L Q :=
 cw h (fun l t L=>lf (D_f27_1 F Q (l 0) L)) e
def D_f28_1 (F:TF)(Q:TQ)(x0 x1:AV)(L:Lg):Prop :=zd F k_f27 [x0] L fun v1 L1=>zd F k_f27 [x1] L1 fun v2 L2=>zn v1 (zn v2 (zl (some (.i .i64 0)) Q L2) (zl (some (.i .i64 (-1))) Q L2)) (zn v2 (zl (some (.i .i64 1)) Q L2) (za F (.bin .lss) [x0,x1] L2 fun v3 L3=>zn v3 (zl (some (.i .i64 (-1))) Q L3) (za F (.bin .gtr) [x0,x1] L3 fun v4 L4=>zn v4 (zl (some (.i .i64 1)) Q L4) (zl (some (.i .i64 0)) Q L4))))
structure H_f28 (F:TF):Prop where
 code:F k_f28=some c_f28
 f27:H_f27 F
theorem r_f28 {F:TF}(h:F k_f28=some c_f28){Q:TQ}{a0 a1:AV}{L:Lg}(e:D_f28_1 F Q a0 a1 L):zd F k_f28 [a0,a1] L Q :=
 cw h (fun l t L=>lf (D_f28_1 F Q (l 0) (l 1) L)) e
def D_f29_4 (F:TF)(Q:TQ)(x3:AV)(L:Lg):Prop :=zl (some x3) Q L
def D_f29_8 (F:TF)(Q:TQ)(k1:TK)(l:Env)(L:Lg):Prop :=za F (.bin .lss) [(l 8),(l 7)] L fun v1 L1=>zn v1 (za F (.iad 1) [(l 6),(l 8)] L1 fun v2 L2=>za F (.ld none) [v2] L2 fun v3 L3=>za F (.bin .neq) [v3,(l 3)] L3 fun v4 L4=>zn v4 (zl (some v3) Q L4) (za F (.bin .add) [(l 8),(.i .i64 1)] L4 fun v5 L5=>k1 (Env.put (Env.put l 5 v3) 8 v5) L5)) (D_f29_4 F Q (l 3) L1)
def D_f29_7 (F:TF)(Q:TQ)(l:Env)(L:Lg):Prop :=xC (fun l t L k1=>D_f29_8 F Q k1 l L) l L
def D_f29_5 (F:TF)(Q:TQ)(l:Env)(L:Lg):Prop :=za F .lenSl [(l 0)] L fun v1 L1=>D_f29_7 F Q (Env.put (Env.put (Env.put l 6 (l 0)) 7 v1) 8 (.i .i64 0)) L1
def D_f29_2 (F:TF)(Q:TQ)(l:Env)(L:Lg):Prop :=D_f29_5 F Q (Env.put l 3 (.i .i64 0)) L
def D_f29_1 (F:TF)(Q:TQ)(l:Env)(L:Lg):Prop :=D_f29_2 F Q (Env.put l 2 (.i .i64 0)) L
structure H_f29 (F:TF):Prop where
 code:F k_f29=some c_f29
theorem r_f29 {F:TF}(h:F k_f29=some c_f29){Q:TQ}{a0:AV}{L:Lg}(e:D_f29_1 F Q (zJ [a0] 0) L):zd F k_f29 [a0] L Q :=
 cw h (fun l t L=>wS (fun l t L=>wS (fun l t L=>wS (fun l t L=>lf (D_f29_4 F Q (l 3) L)) (wS (fun l t L=>wB (wL (fun l t L k1=>lf (D_f29_8 F Q k1 l L)) (lf (D_f29_7 F Q l L)))) (lf (D_f29_5 F Q l L)))) (lf (D_f29_2 F Q l L))) (lf (D_f29_1 F Q l L))) e
def D_f30_1 (F:TF)(Q:TQ)(x0 x1:AV)(L:Lg):Prop :=za F .box [x0] L fun v1 L1=>za F .box [x1] L1 fun v2 L2=>za F (.fad 1) [v1] L2 fun v3 L3=>za F (.ld none) [v3] L3 fun v4 L4=>za F (.fad 1) [v2] L4 fun v5 L5=>za F (.ld none) [v5] L5 fun v6 L6=>zd F k_f28 [v4,v6] L6 fun v7 L7=>za F (.fad 2) [v1] L7 fun v8 L8=>za F (.ld none) [v8] L8 fun v9 L9=>za F (.fad 2) [v2] L9 fun v10 L10=>za F (.ld none) [v10] L10 fun v11 L11=>zd F k_f28 [v9,v11] L11 fun v12 L12=>za F (.bslice [.i .i64 0] 2 1 [0,1]) [v7,v12] L12 fun v13 L13=>zd F k_f29 [v13] L13 fun v14 L14=>(z8 (.ld none) [v8] L8 L2∧z8 (.ld none) [v10] L10 L2∧True)∧(zl (some v14) Q L14)
structure H_f30 (F:TF):Prop where
 code:F k_f30=some c_f30
 f28:H_f28 F
 f29:H_f29 F
theorem r_f30 {F:TF}(h:F k_f30=some c_f30){Q:TQ}{a0 a1:AV}{L:Lg}(e:D_f30_1 F Q a0 a1 L):zd F k_f30 [a0,a1] L Q :=
 cw h (fun l t L=>lf (D_f30_1 F Q (l 0) (l 1) L)) e
def D_f31_3 (F:TF)(Q:TQ)(x0 x1 x4:AV)(L:Lg):Prop :=za F (.ld (some 3)) [x4] L fun v1 L1=>zd F k_f26 [x0,x1,v1] L1 fun v2 L2=>zl (some (.tup [])) Q L2
def D_f31_6 (F:TF)(Q:TQ)(k1:TK)(l:Env)(L:Lg):Prop :=za F (.bin .gtr) [(l 1),(.i .i64 0)] L fun v1 L1=>zi F v1 true (.ld (some 3)) [(l 4)] L1 fun v2 L2=>zi F v1 true .mv [(l 0)] L2 fun v3 L3=>zi F v1 true .nilchk [v3] L3 fun v4 L4=>zi F v1 true (.fad 0) [v4] L4 fun v5 L5=>zi F v1 true (.ld none) [v5] L5 fun v6 L6=>zi F v1 true .mv [(l 1)] L6 fun v7 L7=>zi F v1 true (.bin .sub) [v7,(.i .i64 1)] L7 fun v8 L8=>zi F v1 true (.bin .quo) [v8,(.i .i64 4)] L8 fun v9 L9=>zi F v1 true (.iad 3) [v6,v9] L9 fun v10 L10=>zi F v1 true (.ld (some 3)) [v10] L10 fun v11 L11=>zi F v1 true (.call k_f30) [v2,v11] L11 fun v12 L12=>zi F v1 true (.bin .lss) [v12,(.i .i64 0)] L12 fun v13 L13=>za F .pick [v1,v13,(.b false)] L13 fun v14 L14=>zn v14 (za F .nilchk [(l 0)] L14 fun v15 L15=>za F (.fad 0) [v15] L15 fun v16 L16=>za F (.ld none) [v16] L16 fun v17 L17=>za F (.bin .sub) [(l 1),(.i .i64 1)] L17 fun v18 L18=>za F (.bin .quo) [v18,(.i .i64 4)] L18 fun v19 L19=>za F (.iad 3) [v17,v19] L19 fun v20 L20=>za F (.ld (some 3)) [v20] L20 fun v21 L21=>zd F k_f26 [(l 0),(l 1),v21] L21 fun v22 L22=>za F (.bin .sub) [(l 1),(.i .i64 1)] L22 fun v23 L23=>za F (.bin .quo) [v23,(.i .i64 4)] L23 fun v24 L24=>k1 (Env.put l 1 v24) L24) (D_f31_3 F Q (l 0) (l 1) (l 4) L14)
def D_f31_5 (F:TF)(Q:TQ)(l:Env)(L:Lg):Prop :=xC (fun l t L k1=>D_f31_6 F Q k1 l L) l L
def D_f31_1 (F:TF)(Q:TQ)(l:Env)(L:Lg):Prop :=za F .nilchk [(l 0)] L fun v1 L1=>za F (.fad 0) [v1] L1 fun v2 L2=>za F (.ld none) [v2] L2 fun v3 L3=>za F (.iad 3) [v3,(l 1)] L3 fun v4 L4=>za F (.ld (some 3)) [v4] L4 fun v5 L5=>za F (.alloc [.i .i64 0,.i .i64 0,.i .i64 0]) [] L5 fun v6 L6=>za F (.st 3) [v6,v5] L6 fun _ L7=>D_f31_5 F Q (Env.put l 4 v6) L7
structure H_f31 (F:TF):Prop where
 code:F k_f31=some c_f31
 f30:H_f30 F
 f26:H_f26 F
theorem r_f31 {F:TF}(h:F k_f31=some c_f31){Q:TQ}{a0 a1:AV}{L:Lg}(e:D_f31_1 F Q (zJ [a0,a1] 0) L):zd F k_f31 [a0,a1] L Q :=
 cw h (fun l t L=>wS (fun l t L=>wS (fun l t L=>lf (D_f31_3 F Q (l 0) (l 1) (l 4) L)) (wB (wL (fun l t L k1=>lf (D_f31_6 F Q k1 l L)) (lf (D_f31_5 F Q l L))))) (lf (D_f31_1 F Q l L))) e
def D_f32_3 (F:TF)(Q:TQ)(x0 x1 x4:AV)(L:Lg):Prop :=za F (.ld (some 3)) [x4] L fun v1 L1=>zd F k_f26 [x0,x1,v1] L1 fun v2 L2=>zl (some (.tup [])) Q L2
def D_f32_11 (F:TF)(Q:TQ)(k1:TK)(l:Env)(L:Lg):Prop :=za F (.ld (some 3)) [(l 4)] L fun v1 L1=>za F .nilchk [(l 0)] L1 fun v2 L2=>za F (.fad 0) [v2] L2 fun v3 L3=>za F (.ld none) [v3] L3 fun v4 L4=>za F (.iad 3) [v4,(l 6)] L4 fun v5 L5=>za F (.ld (some 3)) [v5] L5 fun v6 L6=>zd F k_f30 [v1,v6] L6 fun v7 L7=>za F (.bin .lss) [v7,(.i .i64 0)] L7 fun v8 L8=>zn v8 (D_f32_3 F Q (l 0) (l 1) (l 4) L8) (za F .nilchk [(l 0)] L8 fun v9 L9=>za F (.fad 0) [v9] L9 fun v10 L10=>za F (.ld none) [v10] L10 fun v11 L11=>za F (.iad 3) [v11,(l 6)] L11 fun v12 L12=>za F (.ld (some 3)) [v12] L12 fun v13 L13=>zd F k_f26 [(l 0),(l 1),v13] L13 fun v14 L14=>k1 (Env.put l 1 (l 6)) L14)
def D_f32_15 (F:TF)(Q:TQ)(k1:TK)(k2:TK)(l:Env)(L:Lg):Prop :=za F (.bin .add) [(l 5),(.i .i64 4)] L fun v1 L1=>za F .nilchk [(l 0)] L1 fun v2 L2=>za F (.fad 0) [v2] L2 fun v3 L3=>za F (.ld none) [v3] L3 fun v4 L4=>za F .lenSl [v4] L4 fun v5 L5=>za F .min [v1,v5] L5 fun v6 L6=>za F (.bin .lss) [(l 7),v6] L6 fun v7 L7=>zn v7 (za F .nilchk [(l 0)] L7 fun v8 L8=>za F (.fad 0) [v8] L8 fun v9 L9=>za F (.ld none) [v9] L9 fun v10 L10=>za F (.iad 3) [v10,(l 7)] L10 fun v11 L11=>za F (.ld (some 3)) [v11] L11 fun v12 L12=>za F .nilchk [(l 0)] L12 fun v13 L13=>za F (.fad 0) [v13] L13 fun v14 L14=>za F (.ld none) [v14] L14 fun v15 L15=>za F (.iad 3) [v15,(l 6)] L15 fun v16 L16=>za F (.ld (some 3)) [v16] L16 fun v17 L17=>zd F k_f30 [v12,v17] L17 fun v18 L18=>za F (.bin .lss) [v18,(.i .i64 0)] L18 fun v19 L19=>zn v19 (za F (.bin .add) [(l 7),(.i .i64 1)] L19 fun v20 L20=>k2 (Env.put (Env.put l 6 (l 7)) 7 v20) L20) (za F (.bin .add) [(l 7),(.i .i64 1)] L19 fun v21 L21=>k2 (Env.put l 7 v21) L21)) (D_f32_11 F Q k1 l L7)
def D_f32_14 (F:TF)(Q:TQ)(k1:TK)(l:Env)(L:Lg):Prop :=xC (fun l t L k2=>D_f32_15 F Q k1 k2 l L) l L
def D_f32_12 (F:TF)(Q:TQ)(k1:TK)(l:Env)(L:Lg):Prop :=za F (.bin .add) [(l 5),(.i .i64 1)] L fun v1 L1=>D_f32_14 F Q k1 (Env.put l 7 v1) L1
def D_f32_9 (F:TF)(Q:TQ)(k1:TK)(l:Env)(L:Lg):Prop :=D_f32_12 F Q k1 (Env.put l 6 (l 5)) L
def D_f32_8 (F:TF)(Q:TQ)(k1:TK)(l:Env)(L:Lg):Prop :=za F .nilchk [(l 0)] L fun v1 L1=>za F (.fad 0) [v1] L1 fun v2 L2=>za F (.ld none) [v2] L2 fun v3 L3=>za F .lenSl [v3] L3 fun v4 L4=>za F (.bin .geq) [(l 5),v4] L4 fun v5 L5=>zn v5 (D_f32_3 F Q (l 0) (l 1) (l 4) L5) (D_f32_9 F Q k1 l L5)
def D_f32_7 (F:TF)(Q:TQ)(k1:TK)(l:Env)(L:Lg):Prop :=za F (.bin .mul) [(.i .i64 4),(l 1)] L fun v1 L1=>za F (.bin .add) [v1,(.i .i64 1)] L1 fun v2 L2=>D_f32_8 F Q k1 (Env.put l 5 v2) L2
def D_f32_5 (F:TF)(Q:TQ)(l:Env)(L:Lg):Prop :=xC (fun l t L k1=>D_f32_7 F Q k1 l L) l L
def D_f32_1 (F:TF)(Q:TQ)(l:Env)(L:Lg):Prop :=za F .nilchk [(l 0)] L fun v1 L1=>za F (.fad 0) [v1] L1 fun v2 L2=>za F (.ld none) [v2] L2 fun v3 L3=>za F (.iad 3) [v3,(l 1)] L3 fun v4 L4=>za F (.ld (some 3)) [v4] L4 fun v5 L5=>za F (.alloc [.i .i64 0,.i .i64 0,.i .i64 0]) [] L5 fun v6 L6=>za F (.st 3) [v6,v5] L6 fun _ L7=>D_f32_5 F Q (Env.put l 4 v6) L7
structure H_f32 (F:TF):Prop where
 code:F k_f32=some c_f32
 f30:H_f30 F
 f26:H_f26 F
theorem r_f32 {F:TF}(h:F k_f32=some c_f32){Q:TQ}{a0 a1:AV}{L:Lg}(e:D_f32_1 F Q (zJ [a0,a1] 0) L):zd F k_f32 [a0,a1] L Q :=
 cw h (fun l t L=>wS (fun l t L=>wS (fun l t L=>lf (D_f32_3 F Q (l 0) (l 1) (l 4) L)) (wB (wL (fun l t L k1=>wB (wS (fun l t L=>wS (fun l t L=>wS (fun l t L=>wS (fun l t L=>lf (D_f32_11 F Q k1 l L)) (wS (fun l t L=>wB (wL (fun l t L k2=>lf (D_f32_15 F Q k1 k2 l L)) (lf (D_f32_14 F Q k1 l L)))) (lf (D_f32_12 F Q k1 l L)))) (lf (D_f32_9 F Q k1 l L))) (lf (D_f32_8 F Q k1 l L))) (lf (D_f32_7 F Q k1 l L)))) (lf (D_f32_5 F Q l L))))) (lf (D_f32_1 F Q l L))) e
def D_f33_7 (F:TF)(Q:TQ)(x0 x1 x4 x6 x8 x9 x10:AV)(L:Lg):Prop :=za F .nilchk [x0] L fun v1 L1=>za F (.fad 1) [v1] L1 fun v2 L2=>za F (.ld none) [v2] L2 fun v3 L3=>za F .mdel [v3,x1] L3 fun _ L4=>za F (.bin .lss) [x8,x9] L4 fun v5 L5=>zn v5 (za F (.ld (some 3)) [x10] L5 fun v6 L6=>zd F k_f26 [x0,x8,v6] L6 fun v7 L7=>zd F k_f31 [x0,x8] L7 fun v8 L8=>za F .nilchk [x0] L8 fun v9 L9=>za F (.fad 1) [v9] L9 fun v10 L10=>za F (.ld none) [v10] L10 fun v11 L11=>za F (.fad 0) [x10] L11 fun v12 L12=>za F (.ld none) [v12] L12 fun v13 L13=>za F (.lkup (.i .i64 0) false) [v11,v13] L13 fun v14 L14=>zd F k_f32 [x0,v14] L14 fun v15 L15=>za F (.ld (some 3)) [x6] L15 fun v16 L16=>za F (.st 3) [x4,v16] L16 fun _ L17=>zl (yz Env.nil Env.nil L17 [.cell (.c x4) (some 3),.tmp (.c (.b true))]) Q L17) (za F (.ld (some 3)) [x6] L5 fun v18 L18=>za F (.st 3) [x4,v18] L18 fun _ L19=>zl (yz Env.nil Env.nil L19 [.cell (.c x4) (some 3),.tmp (.c (.b true))]) Q L19)
def D_f33_6 (F:TF)(Q:TQ)(x0 x1 x4 x6 x8 x9 x10:AV)(L:Lg):Prop :=za F .nilchk [x0] L fun v1 L1=>za F (.fad 0) [v1] L1 fun v2 L2=>za F (.ld none) [v2] L2 fun v3 L3=>za F (.slc 3 false true false) [v3,x9] L3 fun v4 L4=>za F .nilchk [x0] L4 fun v5 L5=>za F (.fad 0) [v5] L5 fun v6 L6=>za F (.st 1) [v6,v4] L6 fun _ L7=>D_f33_7 F Q x0 x1 x4 x6 x8 x9 x10 L7
def D_f33_5 (F:TF)(Q:TQ)(x0 x1 x4 x6 x8 x9:AV)(L:Lg):Prop :=za F .nilchk [x0] L fun v1 L1=>za F (.fad 0) [v1] L1 fun v2 L2=>za F (.ld none) [v2] L2 fun v3 L3=>za F (.iad 3) [v3,x9] L3 fun v4 L4=>za F (.ld (some 3)) [v4] L4 fun v5 L5=>za F (.alloc [.i .i64 0,.i .i64 0,.i .i64 0]) [] L5 fun v6 L6=>za F (.st 3) [v6,v5] L6 fun _ L7=>D_f33_6 F Q x0 x1 x4 x6 x8 x9 v6 L7
def D_f33_4 (F:TF)(Q:TQ)(x0 x1 x4 x6:AV)(L:Lg):Prop :=za F .nilchk [x0] L fun v1 L1=>za F (.fad 1) [v1] L1 fun v2 L2=>za F (.ld none) [v2] L2 fun v3 L3=>za F (.lkup (.i .i64 0) false) [v3,x1] L3 fun v4 L4=>za F .nilchk [x0] L4 fun v5 L5=>za F (.fad 0) [v5] L5 fun v6 L6=>za F (.ld none) [v6] L6 fun v7 L7=>za F .lenSl [v7] L7 fun v8 L8=>za F (.bin .sub) [v8,(.i .i64 1)] L8 fun v9 L9=>D_f33_5 F Q x0 x1 x4 x6 v4 v9 L9
def D_f33_3 (F:TF)(Q:TQ)(x0 x1 x4 x6 x7:AV)(L:Lg):Prop :=za F (.un .not) [x7] L fun v1 L1=>zn v1 (za F (.build [.i .i64 0,.i .i64 0,.i .i64 0] []) [] L1 fun v2 L2=>za F (.st 3) [x4,v2] L2 fun _ L3=>zl (yz Env.nil Env.nil L3 [.cell (.c x4) (some 3),.tmp (.c (.b false))]) Q L3) (D_f33_4 F Q x0 x1 x4 x6 L1)
def D_f33_2 (F:TF)(Q:TQ)(x0 x1 x4:AV)(L:Lg):Prop :=zd F k_f25 [x0,x1] L fun v1 L1=>za F (.ext 0) [v1] L1 fun v2 L2=>za F (.ext 1) [v1] L2 fun v3 L3=>za F (.alloc [.i .i64 0,.i .i64 0,.i .i64 0]) [] L3 fun v4 L4=>za F (.st 3) [v4,v2] L4 fun _ L5=>D_f33_3 F Q x0 x1 x4 v4 v3 L5
def D_f33_1 (F:TF)(Q:TQ)(x0 x1:AV)(L:Lg):Prop :=za F (.alloc [.i .i64 0,.i .i64 0,.i .i64 0]) [] L fun v1 L1=>D_f33_2 F Q x0 x1 v1 L1
structure H_f33 (F:TF):Prop where
 code:F k_f33=some c_f33
 f25:H_f25 F
 f26:H_f26 F
 f31:H_f31 F
 f32:H_f32 F
theorem r_f33 {F:TF}(h:F k_f33=some c_f33){Q:TQ}{a0 a1:AV}{L:Lg}(e:D_f33_1 F Q a0 a1 L):zd F k_f33 [a0,a1] L Q :=
 cw h (fun l t L=>wS (fun l t L=>wS (fun l t L=>wS (fun l t L=>wS (fun l t L=>wS (fun l t L=>wS (fun l t L=>lf (D_f33_7 F Q (l 0) (l 1) (l 4) (l 6) (l 8) (l 9) (l 10) L)) (lf (D_f33_6 F Q (l 0) (l 1) (l 4) (l 6) (l 8) (l 9) (l 10) L))) (lf (D_f33_5 F Q (l 0) (l 1) (l 4) (l 6) (l 8) (l 9) L))) (lf (D_f33_4 F Q (l 0) (l 1) (l 4) (l 6) L))) (lf (D_f33_3 F Q (l 0) (l 1) (l 4) (l 6) (l 7) L))) (lf (D_f33_2 F Q (l 0) (l 1) (l 4) L))) (lf (D_f33_1 F Q (l 0) (l 1) L))) e
def D_f34_1 (F:TF)(Q:TQ)(x0 x1:AV)(L:Lg):Prop :=za F (.eq false .ptr) [x0,(.p none)] L fun v1 L1=>zn v1 (zl (some (.b false)) Q L1) (za F .nilchk [x0] L1 fun v2 L2=>za F (.fad 0) [v2] L2 fun v3 L3=>za F (.ld none) [v3] L3 fun v4 L4=>zd F k_f33 [v4,x1] L4 fun v5 L5=>za F (.ext 0) [v5] L5 fun v6 L6=>za F (.ext 1) [v5] L6 fun v7 L7=>za F (.alloc [.i .i64 0,.i .i64 0,.i .i64 0]) [] L7 fun v8 L8=>za F (.st 3) [v8,v6] L8 fun _ L9=>za F .nilchk [x0] L9 fun v10 L10=>za F (.fad 1) [v10] L10 fun v11 L11=>za F (.ld none) [v11] L11 fun v12 L12=>za F .mdel [v12,x1] L12 fun _ L13=>zl (some v7) Q L13)
structure H_f34 (F:TF):Prop where
 code:F k_f34=some c_f34
 f33:H_f33 F
theorem r_f34 {F:TF}(h:F k_f34=some c_f34){Q:TQ}{a0 a1:AV}{L:Lg}(e:D_f34_1 F Q a0 a1 L):zd F k_f34 [a0,a1] L Q :=
 cw h (fun l t L=>lf (D_f34_1 F Q (l 0) (l 1) L)) e
def D_f35_4 (F:TF)(Q:TQ)(x0 x1 x2:AV)(L:Lg):Prop :=za F .nilchk [x0] L fun v1 L1=>za F (.fad 2) [v1] L1 fun v2 L2=>za F (.ld none) [v2] L2 fun v3 L3=>za F (.bin .add) [v3,(.i .i64 1)] L3 fun v4 L4=>za F .nilchk [x0] L4 fun v5 L5=>za F (.fad 2) [v5] L5 fun v6 L6=>za F (.st 1) [v6,v4] L6 fun _ L7=>za F .nilchk [x0] L7 fun v8 L8=>za F (.fad 0) [v8] L8 fun v9 L9=>za F (.ld none) [v9] L9 fun v10 L10=>za F .nilchk [x0] L10 fun v11 L11=>za F (.fad 2) [v11] L11 fun v12 L12=>za F (.ld none) [v12] L12 fun v13 L13=>za F (.build [.i .i64 0,.i .i64 0,.i .i64 0] [(0,1),(1,1),(2,1)]) [x1,x2,v13] L13 fun v14 L14=>za F (.bslice [.i .i64 0,.i .i64 0,.i .i64 0] 1 3 [0]) [v14] L14 fun v15 L15=>za F (.app 3 24) [v10,v15] L15 fun v16 L16=>za F .nilchk [x0] L16 fun v17 L17=>za F (.fad 0) [v17] L17 fun v18 L18=>za F (.st 1) [v18,v16] L18 fun _ L19=>za F .nilchk [x0] L19 fun v20 L20=>za F (.fad 0) [v20] L20 fun v21 L21=>za F (.ld none) [v21] L21 fun v22 L22=>za F .lenSl [v22] L22 fun v23 L23=>za F (.bin .sub) [v23,(.i .i64 1)] L23 fun v24 L24=>zd F k_f31 [x0,v24] L24 fun v25 L25=>zl (some (.i .i64 0)) Q L25
def D_f35_3 (F:TF)(Q:TQ)(x0 x1 x2:AV)(L:Lg):Prop :=za F .nilchk [x0] L fun v1 L1=>za F (.fad 1) [v1] L1 fun v2 L2=>za F (.ld none) [v2] L2 fun v3 L3=>za F (.lkup (.i .i64 0) true) [v3,x1] L3 fun v4 L4=>za F (.ext 0) [v4] L4 fun v5 L5=>za F (.ext 1) [v4] L5 fun v6 L6=>zn v6 (zl (some (.i .i64 1)) Q L6) (D_f35_4 F Q x0 x1 x2 L6)
def D_f35_2 (F:TF)(Q:TQ)(x0 x1 x2:AV)(L:Lg):Prop :=za F (.eq false .ptr) [x0,(.p none)] L fun v1 L1=>zn v1 (zl (some (.i .i64 1)) Q L1) (D_f35_3 F Q x0 x1 x2 L1)
def D_f35_1 (F:TF)(Q:TQ)(x0 x1 x2:AV)(L:Lg):Prop :=D_f35_2 F Q x0 x1 x2 L
structure H_f35 (F:TF):Prop where
 code:F k_f35=some c_f35
 f31:H_f31 F
theorem r_f35 {F:TF}(h:F k_f35=some c_f35){Q:TQ}{a0 a1 a2:AV}{L:Lg}(e:D_f35_1 F Q a0 a1 a2 L):zd F k_f35 [a0,a1,a2] L Q :=
 cw h (fun l t L=>wS (fun l t L=>wS (fun l t L=>wS (fun l t L=>lf (D_f35_4 F Q (l 0) (l 1) (l 2) L)) (lf (D_f35_3 F Q (l 0) (l 1) (l 2) L))) (lf (D_f35_2 F Q (l 0) (l 1) (l 2) L))) (lf (D_f35_1 F Q (l 0) (l 1) (l 2) L))) e
def D_f36_1 (F:TF)(Q:TQ)(x0 x1 x2 x3:AV)(L:Lg):Prop :=za F (.eq false .ptr) [x0,(.p none)] L fun v1 L1=>zi F v1 false .mv [x2] L1 fun v2 L2=>zi F v1 false .mv [x3] L2 fun v3 L3=>zi F v1 false .min [v2,v3] L3 fun v4 L4=>zi F v1 false (.bin .lss) [v4,(.i .i64 0)] L4 fun v5 L5=>za F .pick [v1,(.b true),v5] L5 fun v6 L6=>zi F v6 false .mv [x2] L6 fun v7 L7=>zi F v6 false .mv [x3] L7 fun v8 L8=>zi F v6 false .max [v7,v8] L8 fun v9 L9=>zi F v6 false (.bin .gtr) [v9,(.i .i64 4611686018427387904)] L9 fun v10 L10=>za F .pick [v6,(.b true),v10] L10 fun v11 L11=>zn v11 (zl (some (.i .i64 1)) Q L11) (zd F k_f34 [x0,x1] L11 fun v12 L12=>za F .nilchk [x0] L12 fun v13 L13=>za F (.fad 1) [v13] L13 fun v14 L14=>za F (.ld none) [v14] L14 fun v15 L15=>za F .mset [v15,x1,x3] L15 fun _ L16=>za F .nilchk [x0] L16 fun v17 L17=>za F (.fad 0) [v17] L17 fun v18 L18=>za F (.ld none) [v18] L18 fun v19 L19=>zd F k_f35 [v19,x1,x2] L19 fun v20 L20=>zl (some v20) Q L20)
structure H_f36 (F:TF):Prop where
 code:F k_f36=some c_f36
 f34:H_f34 F
 f35:H_f35 F
theorem r_f36 {F:TF}(h:F k_f36=some c_f36){Q:TQ}{a0 a1 a2 a3:AV}{L:Lg}(e:D_f36_1 F Q a0 a1 a2 a3 L):zd F k_f36 [a0,a1,a2,a3] L Q :=
 cw h (fun l t L=>lf (D_f36_1 F Q (l 0) (l 1) (l 2) (l 3) L)) e
def D_f37_3 (F:TF)(Q:TQ)(x0 x1 x2 x3 x8:AV)(L:Lg):Prop :=za F .nilchk [x0] L fun v1 L1=>za F (.fad 1) [v1] L1 fun v2 L2=>za F (.ld none) [v2] L2 fun v3 L3=>za F .max [x3,(.i .i64 0)] L3 fun v4 L4=>zd F k_f2 [x2,v4] L4 fun v5 L5=>zd F k_f36 [v3,x1,v5,x8] L5 fun v6 L6=>(z8 (.ld none) [v2] L2 L5∧True)∧(za F .nilchk [x0] L6 fun v7 L7=>za F (.fad 0) [v7] L7 fun v8 L8=>za F (.ld none) [v8] L8 fun v9 L9=>za F (.iad 4) [v9,x1] L9 fun v10 L10=>za F (.fad 3) [v10] L10 fun v11 L11=>za F (.ld none) [v11] L11 fun v12 L12=>za F (.bin .add) [v12,(.i .i64 1)] L12 fun v13 L13=>za F (.iad 4) [v9,x1] L13 fun v14 L14=>za F (.fad 3) [v14] L14 fun v15 L15=>za F (.st 1) [v15,v13] L15 fun _ L16=>zl (some (.tup [])) Q L16)
def D_f37_2 (F:TF)(Q:TQ)(x0 x1 x2 x3 x8:AV)(L:Lg):Prop :=za F .nilchk [x0] L fun v1 L1=>za F (.fad 0) [v1] L1 fun v2 L2=>za F (.ld none) [v2] L2 fun v3 L3=>za F (.iad 4) [v3,x1] L3 fun v4 L4=>za F (.fad 0) [v4] L4 fun v5 L5=>za F (.ld none) [v5] L5 fun v6 L6=>za F (.bin .eql) [v6,(.i .i64 2)] L6 fun v7 L7=>zn v7 (za F .min [x3,(.i .i64 4611686018427387904)] L7 fun v8 L8=>D_f37_3 F Q x0 x1 x2 x3 v8 L8) (D_f37_3 F Q x0 x1 x2 x3 x8 L7)
def D_f37_1 (F:TF)(Q:TQ)(x0 x1 x2 x3:AV)(L:Lg):Prop :=D_f37_2 F Q x0 x1 x2 x3 (.i .i64 0) L
structure H_f37 (F:TF):Prop where
 code:F k_f37=some c_f37
 f2:H_f2 F
 f36:H_f36 F
theorem r_f37 {F:TF}(h:F k_f37=some c_f37){Q:TQ}{a0 a1 a2 a3:AV}{L:Lg}(e:D_f37_1 F Q a0 a1 a2 a3 L):zd F k_f37 [a0,a1,a2,a3] L Q :=
 cw h (fun l t L=>wS (fun l t L=>wS (fun l t L=>lf (D_f37_3 F Q (l 0) (l 1) (l 2) (l 3) (l 8) L)) (lf (D_f37_2 F Q (l 0) (l 1) (l 2) (l 3) (l 8) L))) (lf (D_f37_1 F Q (l 0) (l 1) (l 2) (l 3) L))) e
def D_f38_4 (F:TF)(Q:TQ)(x0 x2 x3 x5:AV)(L:Lg):Prop :=za F .nilchk [x0] L fun v1 L1=>za F (.fad 0) [v1] L1 fun v2 L2=>za F (.ld none) [v2] L2 fun v3 L3=>za F (.ld (some 4)) [x5] L3 fun v4 L4=>za F (.bslice [.i .i64 0,.i .i64 0,.p none,.i .i64 0] 1 4 [0]) [v4] L4 fun v5 L5=>za F (.app 4 32) [v3,v5] L5 fun v6 L6=>za F .nilchk [x0] L6 fun v7 L7=>za F (.fad 0) [v7] L7 fun v8 L8=>za F (.st 1) [v8,v6] L8 fun _ L9=>za F .nilchk [x0] L9 fun v10 L10=>za F (.fad 0) [v10] L10 fun v11 L11=>za F (.ld none) [v11] L11 fun v12 L12=>za F .lenSl [v12] L12 fun v13 L13=>za F (.bin .sub) [v13,(.i .i64 1)] L13 fun v14 L14=>zd F k_f37 [x0,v14,x2,x3] L14 fun v15 L15=>za F .nilchk [x0] L15 fun v16 L16=>za F (.fad 0) [v16] L16 fun v17 L17=>za F (.ld none) [v17] L17 fun v18 L18=>za F .lenSl [v18] L18 fun v19 L19=>za F (.bin .sub) [v19,(.i .i64 1)] L19 fun v20 L20=>zl (some (.tup [v20,(.i .i64 0)])) Q L20
def D_f38_3 (F:TF)(Q:TQ)(x0 x2 x3 x5:AV)(L:Lg):Prop :=za F (.fad 0) [x5] L fun v1 L1=>za F (.ld none) [v1] L1 fun v2 L2=>za F (.bin .neq) [v2,(.i .i64 4)] L2 fun v3 L3=>zn v3 (za F .nilchk [x0] L3 fun v4 L4=>za F (.fad 2) [v4] L4 fun v5 L5=>za F (.ld none) [v5] L5 fun v6 L6=>za F (.bin .add) [v6,(.i .i64 1)] L6 fun v7 L7=>za F .nilchk [x0] L7 fun v8 L8=>za F (.fad 2) [v8] L8 fun v9 L9=>za F (.st 1) [v9,v7] L9 fun _ L10=>D_f38_4 F Q x0 x2 x3 x5 L10) (D_f38_4 F Q x0 x2 x3 x5 L3)
def D_f38_2 (F:TF)(Q:TQ)(x0 x2 x3 x5:AV)(L:Lg):Prop :=zd F k_f24 [x2] L fun v1 L1=>zi F v1 false (.fad 1) [x5] L1 fun v2 L2=>zi F v1 false (.ld none) [v2] L2 fun v3 L3=>zi F v1 false (.bin .lss) [v3,(.i .i64 0)] L3 fun v4 L4=>za F .pick [v1,(.b true),v4] L4 fun v5 L5=>zi F v5 false (.fad 0) [x5] L5 fun v6 L6=>zi F v5 false (.ld none) [v6] L6 fun v7 L7=>zi F v5 false (.bin .eql) [v7,(.i .i64 2)] L7 fun v8 L8=>zi F v5 false .mv [v8] L8 fun v9 L9=>zi F v9 true .mv [x3] L9 fun v10 L10=>zi F v9 true (.bin .lss) [v10,(.i .i64 1)] L10 fun v11 L11=>zi F v5 false .pick [v9,v11,(.b false)] L11 fun v12 L12=>za F .pick [v5,(.b true),v12] L12 fun v13 L13=>zn v13 (zl (some (.tup [(.i .i64 0),(.i .i64 1)])) Q L13) (za F (.eq false .ptr) [x0,(.p none)] L13 fun v14 L14=>zn v14 (zn v14 (zl (some (.tup [(.i .i64 0),(.i .i64 3)])) Q L14) (D_f38_3 F Q x0 x2 x3 x5 L14)) (za F (.fad 0) [x5] L14 fun v15 L15=>za F (.ld none) [v15] L15 fun v16 L16=>za F (.bin .neq) [v16,(.i .i64 4)] L16 fun v17 L17=>zi F v17 true .mv [x0] L17 fun v18 L18=>zi F v17 true .nilchk [v18] L18 fun v19 L19=>zi F v17 true (.fad 2) [v19] L19 fun v20 L20=>zi F v17 true (.ld none) [v20] L20 fun v21 L21=>zi F v17 true (.bin .geq) [v21,(.i .i64 64)] L21 fun v22 L22=>za F .pick [v17,v22,(.b false)] L22 fun v23 L23=>zn v23 (zl (some (.tup [(.i .i64 0),(.i .i64 3)])) Q L23) (D_f38_3 F Q x0 x2 x3 x5 L23)))
def D_f38_1 (F:TF)(Q:TQ)(x0 x1 x2 x3:AV)(L:Lg):Prop :=za F .box [x1] L fun v1 L1=>D_f38_2 F Q x0 x2 x3 v1 L1
structure H_f38 (F:TF):Prop where
 code:F k_f38=some c_f38
 f24:H_f24 F
 f37:H_f37 F
theorem r_f38 {F:TF}(h:F k_f38=some c_f38){Q:TQ}{a0 a1 a2 a3:AV}{L:Lg}(e:D_f38_1 F Q a0 a1 a2 a3 L):zd F k_f38 [a0,a1,a2,a3] L Q :=
 cw h (fun l t L=>wS (fun l t L=>wS (fun l t L=>wS (fun l t L=>lf (D_f38_4 F Q (l 0) (l 2) (l 3) (l 5) L)) (lf (D_f38_3 F Q (l 0) (l 2) (l 3) (l 5) L))) (lf (D_f38_2 F Q (l 0) (l 2) (l 3) (l 5) L))) (lf (D_f38_1 F Q (l 0) (l 1) (l 2) (l 3) L))) e
def D_f41_1 (F:TF)(Q:TQ)(x0:AV)(L:Lg):Prop :=za F (.eq false .ptr) [x0,(.p none)] L fun v1 L1=>zn v1 (zl (some (.i .i64 0)) Q L1) (za F .nilchk [x0] L1 fun v2 L2=>za F (.fad 0) [v2] L2 fun v3 L3=>za F (.ld none) [v3] L3 fun v4 L4=>za F .lenSl [v4] L4 fun v5 L5=>zl (some v5) Q L5)
structure H_f41 (F:TF):Prop where
 code:F k_f41=some c_f41
theorem r_f41 {F:TF}(h:F k_f41=some c_f41){Q:TQ}{a0:AV}{L:Lg}(e:D_f41_1 F Q a0 L):zd F k_f41 [a0] L Q :=
 cw h (fun l t L=>lf (D_f41_1 F Q (l 0) L)) e
def D_f42_1 (F:TF)(Q:TQ)(x0:AV)(L:Lg):Prop :=za F (.alloc [.i .i64 0,.i .i64 0,.i .i64 0]) [] L fun v1 L1=>zd F k_f41 [x0] L1 fun v2 L2=>za F (.bin .eql) [v2,(.i .i64 0)] L2 fun v3 L3=>zn v3 (za F (.build [.i .i64 0,.i .i64 0,.i .i64 0] []) [] L3 fun v4 L4=>za F (.st 3) [v1,v4] L4 fun _ L5=>zl (yz Env.nil Env.nil L5 [.cell (.c v1) (some 3),.tmp (.c (.b false))]) Q L5) (za F .nilchk [x0] L3 fun v6 L6=>za F (.fad 0) [v6] L6 fun v7 L7=>za F (.ld none) [v7] L7 fun v8 L8=>za F (.iad 3) [v8,(.i .i64 0)] L8 fun v9 L9=>za F (.ld (some 3)) [v9] L9 fun v10 L10=>za F (.st 3) [v1,v10] L10 fun _ L11=>zl (yz Env.nil Env.nil L11 [.cell (.c v1) (some 3),.tmp (.c (.b true))]) Q L11)
structure H_f42 (F:TF):Prop where
 code:F k_f42=some c_f42
 f41:H_f41 F
theorem r_f42 {F:TF}(h:F k_f42=some c_f42){Q:TQ}{a0:AV}{L:Lg}(e:D_f42_1 F Q a0 L):zd F k_f42 [a0] L Q :=
 cw h (fun l t L=>lf (D_f42_1 F Q (l 0) L)) e
def D_f43_1 (F:TF)(Q:TQ)(x0:AV)(L:Lg):Prop :=za F (.eq false .ptr) [x0,(.p none)] L fun v1 L1=>zn v1 (zl (some (.tup [(.i .i64 0),(.b false)])) Q L1) (za F .nilchk [x0] L1 fun v2 L2=>za F (.fad 0) [v2] L2 fun v3 L3=>za F (.ld none) [v3] L3 fun v4 L4=>zd F k_f42 [v4] L4 fun v5 L5=>za F (.ext 0) [v5] L5 fun v6 L6=>za F (.ext 1) [v5] L6 fun v7 L7=>za F (.alloc [.i .i64 0,.i .i64 0,.i .i64 0]) [] L7 fun v8 L8=>za F (.st 3) [v8,v6] L8 fun _ L9=>za F (.fad 1) [v8] L9 fun v10 L10=>za F (.ld none) [v10] L10 fun v11 L11=>zl (some (.tup [v11,v7])) Q L11)
structure H_f43 (F:TF):Prop where
 code:F k_f43=some c_f43
 f42:H_f42 F
theorem r_f43 {F:TF}(h:F k_f43=some c_f43){Q:TQ}{a0:AV}{L:Lg}(e:D_f43_1 F Q a0 L):zd F k_f43 [a0] L Q :=
 cw h (fun l t L=>lf (D_f43_1 F Q (l 0) L)) e
def D_f44_1 (F:TF)(Q:TQ)(x0:AV)(L:Lg):Prop :=za F (.alloc [.i .i64 0,.i .i64 0,.i .i64 0]) [] L fun v1 L1=>zd F k_f42 [x0] L1 fun v2 L2=>za F (.ext 0) [v2] L2 fun v3 L3=>za F (.ext 1) [v2] L3 fun v4 L4=>za F (.alloc [.i .i64 0,.i .i64 0,.i .i64 0]) [] L4 fun v5 L5=>za F (.st 3) [v5,v3] L5 fun _ L6=>zn v4 (za F (.fad 0) [v5] L6 fun v7 L7=>za F (.ld none) [v7] L7 fun v8 L8=>zd F k_f33 [x0,v8] L8 fun v9 L9=>za F (.ld (some 3)) [v5] L9 fun v10 L10=>za F (.st 3) [v1,v10] L10 fun _ L11=>zl (yz Env.nil Env.nil L11 [.cell (.c v1) (some 3),.tmp (.c v4)]) Q L11) (za F (.ld (some 3)) [v5] L6 fun v12 L12=>za F (.st 3) [v1,v12] L12 fun _ L13=>zl (yz Env.nil Env.nil L13 [.cell (.c v1) (some 3),.tmp (.c v4)]) Q L13)
structure H_f44 (F:TF):Prop where
 code:F k_f44=some c_f44
 f42:H_f42 F
 f33:H_f33 F
theorem r_f44 {F:TF}(h:F k_f44=some c_f44){Q:TQ}{a0:AV}{L:Lg}(e:D_f44_1 F Q a0 L):zd F k_f44 [a0] L Q :=
 cw h (fun l t L=>lf (D_f44_1 F Q (l 0) L)) e
def D_f45_7 (F:TF)(Q:TQ)(x0 x1 x4 x6 x8 x10:AV)(L:Lg):Prop :=zd F k_f3 [x6,x10,x1] L fun v1 L1=>za F (.ext 0) [v1] L1 fun v2 L2=>za F (.ext 1) [v1] L2 fun v3 L3=>za F (.bin .eql) [v3,(.i .i64 0)] L3 fun v4 L4=>zi F v4 true .mv [v2] L4 fun v5 L5=>zi F v4 true .mv [x1] L5 fun v6 L6=>zi F v4 true (.bin .gtr) [v5,v6] L6 fun v7 L7=>za F .pick [v4,v7,(.b false)] L7 fun v8 L8=>zn v8 (za F (.fad 0) [x8] L8 fun v9 L9=>za F (.ld none) [v9] L9 fun v10 L10=>zd F k_f36 [x0,v10,v2,x10] L10 fun v11 L11=>za F (.fad 0) [x8] L11 fun v12 L12=>za F (.ld none) [v12] L12 fun v13 L13=>za F (.build [.i .i64 0,.i .i64 0,.i .i64 0] [(0,1),(1,1),(2,1)]) [v13,x6,x1] L13 fun v14 L14=>za F (.st 3) [x4,v14] L14 fun _ L15=>zl (yz Env.nil Env.nil L15 [.cell (.c x4) (some 3),.tmp (.c (.b true))]) Q L15) (za F (.fad 0) [x8] L8 fun v16 L16=>za F (.ld none) [v16] L16 fun v17 L17=>za F (.build [.i .i64 0,.i .i64 0,.i .i64 0] [(0,1),(1,1),(2,1)]) [v17,x6,x1] L17 fun v18 L18=>za F (.st 3) [x4,v18] L18 fun _ L19=>zl (yz Env.nil Env.nil L19 [.cell (.c x4) (some 3),.tmp (.c (.b true))]) Q L19)
def D_f45_6 (F:TF)(Q:TQ)(x0 x1 x4 x6 x8 x10:AV)(L:Lg):Prop :=za F .nilchk [x0] L fun v1 L1=>za F (.fad 1) [v1] L1 fun v2 L2=>za F (.ld none) [v2] L2 fun v3 L3=>za F (.fad 0) [x8] L3 fun v4 L4=>za F (.ld none) [v4] L4 fun v5 L5=>za F .mdel [v3,v5] L5 fun _ L6=>D_f45_7 F Q x0 x1 x4 x6 x8 x10 L6
def D_f45_5 (F:TF)(Q:TQ)(x0 x1 x4 x6 x8:AV)(L:Lg):Prop :=za F .nilchk [x0] L fun v1 L1=>za F (.fad 1) [v1] L1 fun v2 L2=>za F (.ld none) [v2] L2 fun v3 L3=>za F (.fad 0) [x8] L3 fun v4 L4=>za F (.ld none) [v4] L4 fun v5 L5=>za F (.lkup (.i .i64 0) false) [v3,v5] L5 fun v6 L6=>D_f45_6 F Q x0 x1 x4 x6 x8 v6 L6
def D_f45_4 (F:TF)(Q:TQ)(x0 x1 x4 x6:AV)(L:Lg):Prop :=za F .nilchk [x0] L fun v1 L1=>za F (.fad 0) [v1] L1 fun v2 L2=>za F (.ld none) [v2] L2 fun v3 L3=>zd F k_f44 [v3] L3 fun v4 L4=>za F (.ext 0) [v4] L4 fun v5 L5=>za F (.ext 1) [v4] L5 fun v6 L6=>za F (.alloc [.i .i64 0,.i .i64 0,.i .i64 0]) [] L6 fun v7 L7=>za F (.st 3) [v7,v5] L7 fun _ L8=>D_f45_5 F Q x0 x1 x4 x6 v7 L8
def D_f45_3 (F:TF)(Q:TQ)(x0 x1 x4 x6 x7:AV)(L:Lg):Prop :=za F (.un .not) [x7] L fun v1 L1=>zi F v1 false .mv [x1] L1 fun v2 L2=>zi F v1 false (.bin .lss) [v2,(.i .i64 0)] L2 fun v3 L3=>za F .pick [v1,(.b true),v3] L3 fun v4 L4=>zi F v4 false .mv [x6] L4 fun v5 L5=>zi F v4 false .mv [x1] L5 fun v6 L6=>zi F v4 false (.bin .gtr) [v5,v6] L6 fun v7 L7=>za F .pick [v4,(.b true),v7] L7 fun v8 L8=>zn v8 (za F (.build [.i .i64 0,.i .i64 0,.i .i64 0] []) [] L8 fun v9 L9=>za F (.st 3) [x4,v9] L9 fun _ L10=>zl (yz Env.nil Env.nil L10 [.cell (.c x4) (some 3),.tmp (.c (.b false))]) Q L10) (D_f45_4 F Q x0 x1 x4 x6 L8)
def D_f45_2 (F:TF)(Q:TQ)(x0 x1 x4:AV)(L:Lg):Prop :=zd F k_f43 [x0] L fun v1 L1=>za F (.ext 0) [v1] L1 fun v2 L2=>za F (.ext 1) [v1] L2 fun v3 L3=>D_f45_3 F Q x0 x1 x4 v2 v3 L3
def D_f45_1 (F:TF)(Q:TQ)(x0 x1:AV)(L:Lg):Prop :=za F (.alloc [.i .i64 0,.i .i64 0,.i .i64 0]) [] L fun v1 L1=>D_f45_2 F Q x0 x1 v1 L1
structure H_f45 (F:TF):Prop where
 code:F k_f45=some c_f45
 f43:H_f43 F
 f44:H_f44 F
 f3:H_f3 F
 f36:H_f36 F
theorem r_f45 {F:TF}(h:F k_f45=some c_f45){Q:TQ}{a0 a1:AV}{L:Lg}(e:D_f45_1 F Q a0 a1 L):zd F k_f45 [a0,a1] L Q :=
 cw h (fun l t L=>wS (fun l t L=>wS (fun l t L=>wS (fun l t L=>wS (fun l t L=>wS (fun l t L=>wS (fun l t L=>lf (D_f45_7 F Q (l 0) (l 1) (l 4) (l 6) (l 8) (l 10) L)) (lf (D_f45_6 F Q (l 0) (l 1) (l 4) (l 6) (l 8) (l 10) L))) (lf (D_f45_5 F Q (l 0) (l 1) (l 4) (l 6) (l 8) L))) (lf (D_f45_4 F Q (l 0) (l 1) (l 4) (l 6) L))) (lf (D_f45_3 F Q (l 0) (l 1) (l 4) (l 6) (l 7) L))) (lf (D_f45_2 F Q (l 0) (l 1) (l 4) L))) (lf (D_f45_1 F Q (l 0) (l 1) L))) e
def D_f46_1 (F:TF)(Q:TQ)(x0 x1:AV)(L:Lg):Prop :=za F .nilchk [x0] L fun v1 L1=>za F (.fad 1) [v1] L1 fun v2 L2=>za F (.ld none) [v2] L2 fun v3 L3=>zd F k_f14 [v3] L3 fun v4 L4=>za F (.ext 0) [v4] L4 fun v5 L5=>za F (.ext 1) [v4] L5 fun v6 L6=>za F (.alloc [.i .i64 0,.i .i64 0,.i .i64 0]) [] L6 fun v7 L7=>za F (.st 3) [v7,v5] L7 fun _ L8=>za F (.un .not) [v6] L8 fun v9 L9=>zn v9 (zl (some (.sl none 0 0 0)) Q L9) (za F (.fad 0) [v7] L9 fun v10 L10=>za F (.ld none) [v10] L10 fun v11 L11=>za F (.fad 1) [v7] L11 fun v12 L12=>za F (.ld none) [v12] L12 fun v13 L13=>za F (.build [.i .i64 0,.i .i64 0,.i .i64 0,.b false,.b false] [(0,1),(1,1),(2,1),(3,1)]) [v11,v13,x1,(.b true)] L13 fun v14 L14=>za F (.bslice [.i .i64 0,.i .i64 0,.i .i64 0,.b false,.b false] 1 5 [0]) [v14] L14 fun v15 L15=>zl (some v15) Q L15)
structure H_f46 (F:TF):Prop where
 code:F k_f46=some c_f46
 f14:H_f14 F
theorem r_f46 {F:TF}(h:F k_f46=some c_f46){Q:TQ}{a0 a1:AV}{L:Lg}(e:D_f46_1 F Q a0 a1 L):zd F k_f46 [a0,a1] L Q :=
 cw h (fun l t L=>lf (D_f46_1 F Q (l 0) (l 1) L)) e
def D_f47_1 (F:TF)(Q:TQ)(x0 x1:AV)(L:Lg):Prop :=za F (.eq false .ptr) [x0,(.p none)] L fun v1 L1=>zi F v1 false .mv [x0] L1 fun v2 L2=>zi F v1 false .nilchk [v2] L2 fun v3 L3=>zi F v1 false (.fad 3) [v3] L3 fun v4 L4=>zi F v1 false (.ld none) [v4] L4 fun v5 L5=>zi F v1 false (.un .not) [v5] L5 fun v6 L6=>za F .pick [v1,(.b true),v6] L6 fun v7 L7=>zn v7 (zl (some (.tup [(.sl none 0 0 0),(.b false)])) Q L7) (zd F k_f46 [x0,x1] L7 fun v8 L8=>za F .lenSl [v8] L8 fun v9 L9=>za F (.bin .gtr) [v9,(.i .i64 0)] L9 fun v10 L10=>zn v10 (zl (some (.tup [v8,(.b true)])) Q L10) (za F .nilchk [x0] L10 fun v11 L11=>za F (.fad 0) [v11] L11 fun v12 L12=>za F (.ld none) [v12] L12 fun v13 L13=>zd F k_f4 [v13,x1] L13 fun v14 L14=>zl (some (.tup [(.sl none 0 0 0),v14])) Q L14))
structure H_f47 (F:TF):Prop where
 code:F k_f47=some c_f47
 f46:H_f46 F
 f4:H_f4 F
theorem r_f47 {F:TF}(h:F k_f47=some c_f47){Q:TQ}{a0 a1:AV}{L:Lg}(e:D_f47_1 F Q a0 a1 L):zd F k_f47 [a0,a1] L Q :=
 cw h (fun l t L=>lf (D_f47_1 F Q (l 0) (l 1) L)) e
def D_f48_5 (F:TF)(Q:TQ)(x0 x1 x4 x6:AV)(L:Lg):Prop :=za F .nilchk [x0] L fun v1 L1=>za F (.fad 0) [v1] L1 fun v2 L2=>za F (.ld none) [v2] L2 fun v3 L3=>za F (.fad 0) [x6] L3 fun v4 L4=>za F (.ld none) [v4] L4 fun v5 L5=>za F (.iad 4) [v3,v5] L5 fun v6 L6=>za F (.ld (some 4)) [v6] L6 fun v7 L7=>za F (.alloc [.i .i64 0,.i .i64 0,.p none,.i .i64 0]) [] L7 fun v8 L8=>za F (.st 4) [v8,v7] L8 fun _ L9=>za F (.fad 0) [x6] L9 fun v10 L10=>za F (.ld none) [v10] L10 fun v11 L11=>za F (.fad 0) [v8] L11 fun v12 L12=>za F (.ld none) [v12] L12 fun v13 L13=>za F (.fad 1) [x6] L13 fun v14 L14=>za F (.ld none) [v14] L14 fun v15 L15=>za F (.fad 2) [x6] L15 fun v16 L16=>za F (.ld none) [v16] L16 fun v17 L17=>za F (.fad 1) [v8] L17 fun v18 L18=>za F (.ld none) [v18] L18 fun v19 L19=>za F (.build [.i .i64 0,.i .i64 0,.i .i64 0,.i .i64 0,.i .i64 0,.sl none 0 0 0,.b false] [(0,1),(1,1),(2,1),(3,1),(4,1)]) [v11,v13,v15,v17,v19] L19 fun v20 L20=>za F (.alloc [.i .i64 0,.i .i64 0,.i .i64 0,.i .i64 0,.i .i64 0,.sl none 0 0 0,.b false]) [] L20 fun v21 L21=>za F (.st 7) [v21,v20] L21 fun _ L22=>za F (.fad 2) [v8] L22 fun v23 L23=>za F (.ld none) [v23] L23 fun v24 L24=>zd F k_f47 [v24,x1] L24 fun v25 L25=>za F (.ext 0) [v25] L25 fun v26 L26=>za F (.ext 1) [v25] L26 fun v27 L27=>za F (.fad 5) [v21] L27 fun v28 L28=>za F (.st 1) [v28,v26] L28 fun _ L29=>za F (.fad 6) [v21] L29 fun v30 L30=>za F (.st 1) [v30,v27] L30 fun _ L31=>za F (.ld (some 7)) [v21] L31 fun v32 L32=>za F (.st 7) [x4,v32] L32 fun _ L33=>zl (yz Env.nil Env.nil L33 [.cell (.c x4) (some 7),.tmp (.c (.b true))]) Q L33
def D_f48_4 (F:TF)(Q:TQ)(x0 x1 x4 x6 x7:AV)(L:Lg):Prop :=za F (.un .not) [x7] L fun v1 L1=>zn v1 (za F (.build [.i .i64 0,.i .i64 0,.i .i64 0,.i .i64 0,.i .i64 0,.sl none 0 0 0,.b false] []) [] L1 fun v2 L2=>za F (.st 7) [x4,v2] L2 fun _ L3=>zl (yz Env.nil Env.nil L3 [.cell (.c x4) (some 7),.tmp (.c (.b false))]) Q L3) (D_f48_5 F Q x0 x1 x4 x6 L1)
def D_f48_3 (F:TF)(Q:TQ)(x0 x1 x4:AV)(L:Lg):Prop :=za F .nilchk [x0] L fun v1 L1=>za F (.fad 1) [v1] L1 fun v2 L2=>za F (.ld none) [v2] L2 fun v3 L3=>zd F k_f45 [v3,x1] L3 fun v4 L4=>za F (.ext 0) [v4] L4 fun v5 L5=>za F (.ext 1) [v4] L5 fun v6 L6=>za F (.alloc [.i .i64 0,.i .i64 0,.i .i64 0]) [] L6 fun v7 L7=>za F (.st 3) [v7,v5] L7 fun _ L8=>D_f48_4 F Q x0 x1 x4 v7 v6 L8
def D_f48_2 (F:TF)(Q:TQ)(x0 x1 x4:AV)(L:Lg):Prop :=za F (.eq false .ptr) [x0,(.p none)] L fun v1 L1=>zn v1 (za F (.build [.i .i64 0,.i .i64 0,.i .i64 0,.i .i64 0,.i .i64 0,.sl none 0 0 0,.b false] []) [] L1 fun v2 L2=>za F (.st 7) [x4,v2] L2 fun _ L3=>zl (yz Env.nil Env.nil L3 [.cell (.c x4) (some 7),.tmp (.c (.b false))]) Q L3) (D_f48_3 F Q x0 x1 x4 L1)
def D_f48_1 (F:TF)(Q:TQ)(x0 x1:AV)(L:Lg):Prop :=za F (.alloc [.i .i64 0,.i .i64 0,.i .i64 0,.i .i64 0,.i .i64 0,.sl none 0 0 0,.b false]) [] L fun v1 L1=>D_f48_2 F Q x0 x1 v1 L1
structure H_f48 (F:TF):Prop where
 code:F k_f48=some c_f48
 f45:H_f45 F
 f47:H_f47 F
theorem r_f48 {F:TF}(h:F k_f48=some c_f48){Q:TQ}{a0 a1:AV}{L:Lg}(e:D_f48_1 F Q a0 a1 L):zd F k_f48 [a0,a1] L Q :=
 cw h (fun l t L=>wS (fun l t L=>wS (fun l t L=>wS (fun l t L=>wS (fun l t L=>lf (D_f48_5 F Q (l 0) (l 1) (l 4) (l 6) L)) (lf (D_f48_4 F Q (l 0) (l 1) (l 4) (l 6) (l 7) L))) (lf (D_f48_3 F Q (l 0) (l 1) (l 4) L))) (lf (D_f48_2 F Q (l 0) (l 1) (l 4) L))) (lf (D_f48_1 F Q (l 0) (l 1) L))) e
def D_f49_1 (F:TF)(Q:TQ)(x0 x1:AV)(L:Lg):Prop :=za F (.eq true .ptr) [x0,(.p none)] L fun v1 L1=>zi F v1 true .mv [x1] L1 fun v2 L2=>zi F v1 true (.bin .geq) [v2,(.i .i64 0)] L2 fun v3 L3=>za F .pick [v1,v3,(.b false)] L3 fun v4 L4=>zi F v4 true .mv [x1] L4 fun v5 L5=>zi F v4 true .mv [x0] L5 fun v6 L6=>zi F v4 true .nilchk [v6] L6 fun v7 L7=>zi F v4 true (.fad 0) [v7] L7 fun v8 L8=>zi F v4 true (.ld none) [v8] L8 fun v9 L9=>zi F v4 true .lenSl [v9] L9 fun v10 L10=>zi F v4 true (.bin .lss) [v5,v10] L10 fun v11 L11=>za F .pick [v4,v11,(.b false)] L11 fun v12 L12=>zl (some v12) Q L12
structure H_f49 (F:TF):Prop where
 code:F k_f49=some c_f49
theorem r_f49 {F:TF}(h:F k_f49=some c_f49){Q:TQ}{a0 a1:AV}{L:Lg}(e:D_f49_1 F Q a0 a1 L):zd F k_f49 [a0,a1] L Q :=
 cw h (fun l t L=>lf (D_f49_1 F Q (l 0) (l 1) L)) e
def D_f50_1 (F:TF)(Q:TQ)(x0:AV)(L:Lg):Prop :=za F (.eq true .ptr) [x0,(.p none)] L fun v1 L1=>zi F v1 true .mv [x0] L1 fun v2 L2=>zi F v1 true .nilchk [v2] L2 fun v3 L3=>zi F v1 true (.fad 3) [v3] L3 fun v4 L4=>zi F v1 true (.ld none) [v4] L4 fun v5 L5=>za F .pick [v1,v5,(.b false)] L5 fun v6 L6=>zi F v6 true .mv [x0] L6 fun v7 L7=>zi F v6 true .nilchk [v7] L7 fun v8 L8=>zi F v6 true (.fad 0) [v8] L8 fun v9 L9=>zi F v6 true (.ld none) [v9] L9 fun v10 L10=>zi F v6 true (.call k_f8) [v10] L10 fun v11 L11=>zi F v6 true (.bin .gtr) [v11,(.i .i64 0)] L11 fun v12 L12=>za F .pick [v6,v12,(.b false)] L12 fun v13 L13=>zl (some v13) Q L13
structure H_f50 (F:TF):Prop where
 code:F k_f50=some c_f50
 f8:H_f8 F
theorem r_f50 {F:TF}(h:F k_f50=some c_f50){Q:TQ}{a0:AV}{L:Lg}(e:D_f50_1 F Q a0 L):zd F k_f50 [a0] L Q :=
 cw h (fun l t L=>lf (D_f50_1 F Q (l 0) L)) e
def D_f51_1 (F:TF)(Q:TQ)(x0 x1:AV)(L:Lg):Prop :=zd F k_f49 [x0,x1] L fun v1 L1=>za F (.un .not) [v1] L1 fun v2 L2=>zn v2 (zl (some (.tup [(.b false),(.i .i64 4)])) Q L2) (za F .nilchk [x0] L2 fun v3 L3=>za F (.fad 1) [v3] L3 fun v4 L4=>za F (.ld none) [v4] L4 fun v5 L5=>zd F k_f34 [v5,x1] L5 fun v6 L6=>za F .nilchk [x0] L6 fun v7 L7=>za F (.fad 0) [v7] L7 fun v8 L8=>za F (.ld none) [v8] L8 fun v9 L9=>za F (.iad 4) [v9,x1] L9 fun v10 L10=>za F (.fad 2) [v10] L10 fun v11 L11=>za F (.ld none) [v11] L11 fun v12 L12=>zd F k_f50 [v12] L12 fun v13 L13=>zi F v13 false .mv [v6] L13 fun v14 L14=>za F .pick [v13,(.b true),v14] L14 fun v15 L15=>zl (some (.tup [v15,(.i .i64 0)])) Q L15)
structure H_f51 (F:TF):Prop where
 code:F k_f51=some c_f51
 f49:H_f49 F
 f34:H_f34 F
 f50:H_f50 F
theorem r_f51 {F:TF}(h:F k_f51=some c_f51){Q:TQ}{a0 a1:AV}{L:Lg}(e:D_f51_1 F Q a0 a1 L):zd F k_f51 [a0,a1] L Q :=
 cw h (fun l t L=>lf (D_f51_1 F Q (l 0) (l 1) L)) e
def D_f55_1 (F:TF)(Q:TQ)(x0 x1 x2:AV)(L:Lg):Prop :=za F (.build [.i .i64 0,.i .i64 0,.p none,.i .i64 0] [(0,1),(1,1)]) [(.i .i64 4),x2] L fun v1 L1=>zd F k_f38 [x0,v1,(.i .i64 0),x1] L1 fun v2 L2=>za F (.ext 0) [v2] L2 fun v3 L3=>za F (.ext 1) [v2] L3 fun v4 L4=>zl (some (.tup [v3,v4])) Q L4
structure H_f55 (F:TF):Prop where
 code:F k_f55=some c_f55
 f38:H_f38 F
theorem r_f55 {F:TF}(h:F k_f55=some c_f55){Q:TQ}{a0 a1 a2:AV}{L:Lg}(e:D_f55_1 F Q a0 a1 a2 L):zd F k_f55 [a0,a1,a2] L Q :=
 cw h (fun l t L=>lf (D_f55_1 F Q (l 0) (l 1) (l 2) L)) e
def D_f56_1 (F:TF)(Q:TQ)(x0:AV)(L:Lg):Prop :=za F (.eq true .ptr) [x0,(.p none)] L fun v1 L1=>zi F v1 true .mv [x0] L1 fun v2 L2=>zi F v1 true .nilchk [v2] L2 fun v3 L3=>zi F v1 true (.fad 3) [v3] L3 fun v4 L4=>zi F v1 true (.ld none) [v4] L4 fun v5 L5=>zi F v1 true .mv [v5] L5 fun v6 L6=>zi F v6 false .mv [x0] L6 fun v7 L7=>zi F v6 false .nilchk [v7] L7 fun v8 L8=>zi F v6 false (.fad 4) [v8] L8 fun v9 L9=>zi F v6 false (.ld none) [v9] L9 fun v10 L10=>zi F v1 true .pick [v6,(.b true),v10] L10 fun v11 L11=>za F .pick [v1,v11,(.b false)] L11 fun v12 L12=>zl (some v12) Q L12
structure H_f56 (F:TF):Prop where
 code:F k_f56=some c_f56
theorem r_f56 {F:TF}(h:F k_f56=some c_f56){Q:TQ}{a0:AV}{L:Lg}(e:D_f56_1 F Q a0 L):zd F k_f56 [a0] L Q :=
 cw h (fun l t L=>lf (D_f56_1 F Q (l 0) L)) e
def D_f57_1 (F:TF)(Q:TQ)(x0 x1:AV)(L:Lg):Prop :=zn x1 (za F .nilchk [x0] L fun v1 L1=>za F (.fad 0) [v1] L1 fun v2 L2=>za F (.ld none) [v2] L2 fun v3 L3=>zd F k_f6 [v3] L3 fun v4 L4=>za F .nilchk [x0] L4 fun v5 L5=>za F (.fad 0) [v5] L5 fun v6 L6=>za F (.ld none) [v6] L6 fun v7 L7=>zd F k_f7 [v7] L7 fun v8 L8=>za F (.bin .lss) [v4,v8] L8 fun v9 L9=>(z8 (.ld none) [v6] L6 L∧True)∧(zl (some v9) Q L9)) (za F .nilchk [x0] L fun v10 L10=>za F (.fad 0) [v10] L10 fun v11 L11=>za F (.ld none) [v11] L11 fun v12 L12=>zd F k_f6 [v12] L12 fun v13 L13=>za F (.bin .gtr) [v13,(.i .i64 0)] L13 fun v14 L14=>zl (some v14) Q L14)
structure H_f57 (F:TF):Prop where
 code:F k_f57=some c_f57
 f6:H_f6 F
 f7:H_f7 F
theorem r_f57 {F:TF}(h:F k_f57=some c_f57){Q:TQ}{a0 a1:AV}{L:Lg}(e:D_f57_1 F Q a0 a1 L):zd F k_f57 [a0,a1] L Q :=
 cw h (fun l t L=>lf (D_f57_1 F Q (l 0) (l 1) L)) e
def D_f58_1 (F:TF)(Q:TQ)(x0 x1:AV)(L:Lg):Prop :=za F (.eq false .ptr) [x0,(.p none)] L fun v1 L1=>zn v1 (zl (some (.p none)) Q L1) (zn x1 (za F .nilchk [x0] L1 fun v2 L2=>za F (.fad 2) [v2] L2 fun v3 L3=>za F (.ld none) [v3] L3 fun v4 L4=>zl (some v4) Q L4) (za F .nilchk [x0] L1 fun v5 L5=>za F (.fad 1) [v5] L5 fun v6 L6=>za F (.ld none) [v6] L6 fun v7 L7=>zl (some v7) Q L7))
structure H_f58 (F:TF):Prop where
 code:F k_f58=some c_f58
theorem r_f58 {F:TF}(h:F k_f58=some c_f58){Q:TQ}{a0 a1:AV}{L:Lg}(e:D_f58_1 F Q a0 a1 L):zd F k_f58 [a0,a1] L Q :=
 cw h (fun l t L=>lf (D_f58_1 F Q (l 0) (l 1) L)) e
def D_f63_1 (F:TF)(Q:TQ)(x0:AV)(L:Lg):Prop :=za F .min [x0,(.i .i64 4611686018427387904)] L fun v1 L1=>za F .max [v1,(.i .i64 0)] L1 fun v2 L2=>zl (some v2) Q L2
structure H_f63 (F:TF):Prop where
 code:F k_f63=some c_f63
theorem r_f63 {F:TF}(h:F k_f63=some c_f63){Q:TQ}{a0:AV}{L:Lg}(e:D_f63_1 F Q a0 L):zd F k_f63 [a0] L Q :=
 cw h (fun l t L=>lf (D_f63_1 F Q (l 0) L)) e
def D_f64_1 (F:TF)(Q:TQ)(x0:AV)(L:Lg):Prop :=za F .min [x0,(.i .i64 4611686018427387904)] L fun v1 L1=>za F .max [v1,(.i .i64 (-4611686018427387904))] L1 fun v2 L2=>zl (some v2) Q L2
structure H_f64 (F:TF):Prop where
 code:F k_f64=some c_f64
theorem r_f64 {F:TF}(h:F k_f64=some c_f64){Q:TQ}{a0:AV}{L:Lg}(e:D_f64_1 F Q a0 L):zd F k_f64 [a0] L Q :=
 cw h (fun l t L=>lf (D_f64_1 F Q (l 0) L)) e
def D_f65_1 (F:TF)(Q:TQ)(x0 x1:AV)(L:Lg):Prop :=zd F k_f64 [x0] L fun v1 L1=>zd F k_f64 [x1] L1 fun v2 L2=>za F (.bin .gtr) [v2,(.i .i64 0)] L2 fun v3 L3=>zi F v3 true .mv [v1] L3 fun v4 L4=>zi F v3 true .mv [v2] L4 fun v5 L5=>zi F v3 true (.bin .sub) [(.i .i64 4611686018427387904),v5] L5 fun v6 L6=>zi F v3 true (.bin .gtr) [v4,v6] L6 fun v7 L7=>za F .pick [v3,v7,(.b false)] L7 fun v8 L8=>zn v8 (zl (some (.i .i64 4611686018427387904)) Q L8) (za F (.bin .lss) [v2,(.i .i64 0)] L8 fun v9 L9=>zi F v9 true .mv [v1] L9 fun v10 L10=>zi F v9 true .mv [v2] L10 fun v11 L11=>zi F v9 true (.bin .sub) [(.i .i64 (-4611686018427387904)),v11] L11 fun v12 L12=>zi F v9 true (.bin .lss) [v10,v12] L12 fun v13 L13=>za F .pick [v9,v13,(.b false)] L13 fun v14 L14=>zn v14 (zl (some (.i .i64 (-4611686018427387904))) Q L14) (za F (.bin .add) [v1,v2] L14 fun v15 L15=>zl (some v15) Q L15))
structure H_f65 (F:TF):Prop where
 code:F k_f65=some c_f65
 f64:H_f64 F
theorem r_f65 {F:TF}(h:F k_f65=some c_f65){Q:TQ}{a0 a1:AV}{L:Lg}(e:D_f65_1 F Q a0 a1 L):zd F k_f65 [a0,a1] L Q :=
 cw h (fun l t L=>lf (D_f65_1 F Q (l 0) (l 1) L)) e
def D_f66_3 (F:TF)(Q:TQ)(L:Lg):Prop :=zl (some (.i .i64 (-1))) Q L
def D_f66_7 (F:TF)(Q:TQ)(k1:TK)(l:Env)(L:Lg):Prop :=za F .nilchk [(l 0)] L fun v1 L1=>za F (.fad 0) [v1] L1 fun v2 L2=>za F (.ld none) [v2] L2 fun v3 L3=>za F .lenSl [v3] L3 fun v4 L4=>za F (.bin .lss) [(l 5),v4] L4 fun v5 L5=>zn v5 (za F .nilchk [(l 0)] L5 fun v6 L6=>za F (.fad 0) [v6] L6 fun v7 L7=>za F (.ld none) [v7] L7 fun v8 L8=>za F (.iad 3) [v8,(l 5)] L8 fun v9 L9=>za F (.fad 0) [v9] L9 fun v10 L10=>za F (.ld none) [v10] L10 fun v11 L11=>za F (.bin .eql) [v11,(l 1)] L11 fun v12 L12=>zn v12 (zl (some (l 5)) Q L12) (za F (.bin .add) [(l 5),(.i .i64 1)] L12 fun v13 L13=>k1 (Env.put l 5 v13) L13)) (D_f66_3 F Q L5)
def D_f66_6 (F:TF)(Q:TQ)(l:Env)(L:Lg):Prop :=xC (fun l t L k1=>D_f66_7 F Q k1 l L) l L
def D_f66_4 (F:TF)(Q:TQ)(l:Env)(L:Lg):Prop :=D_f66_6 F Q (Env.put l 5 (.i .i64 0)) L
def D_f66_1 (F:TF)(Q:TQ)(l:Env)(L:Lg):Prop :=D_f66_4 F Q (Env.put l 4 (.i .i64 0)) L
structure H_f66 (F:TF):Prop where
 code:F k_f66=some c_f66
theorem r_f66 {F:TF}(h:F k_f66=some c_f66){Q:TQ}{a0 a1:AV}{L:Lg}(e:D_f66_1 F Q (zJ [a0,a1] 0) L):zd F k_f66 [a0,a1] L Q :=
 cw h (fun l t L=>wS (fun l t L=>wS (fun l t L=>lf (D_f66_3 F Q L)) (wS (fun l t L=>wB (wL (fun l t L k1=>lf (D_f66_7 F Q k1 l L)) (lf (D_f66_6 F Q l L)))) (lf (D_f66_4 F Q l L)))) (lf (D_f66_1 F Q l L))) e
def D_f67_3 (F:TF)(Q:TQ)(x0 x4 x6:AV)(L:Lg):Prop :=za F (.bin .lss) [x6,(.i .i64 0)] L fun v1 L1=>zn v1 (za F (.build [.i .i64 0,.i .i64 0,.i .i64 0] []) [] L1 fun v2 L2=>za F (.st 3) [x4,v2] L2 fun _ L3=>zl (yz Env.nil Env.nil L3 [.cell (.c x4) (some 3),.tmp (.c (.b false))]) Q L3) (za F .nilchk [x0] L1 fun v4 L4=>za F (.fad 0) [v4] L4 fun v5 L5=>za F (.ld none) [v5] L5 fun v6 L6=>za F (.iad 3) [v6,x6] L6 fun v7 L7=>za F (.ld (some 3)) [v7] L7 fun v8 L8=>za F (.alloc [.i .i64 0,.i .i64 0,.i .i64 0]) [] L8 fun v9 L9=>za F (.st 3) [v9,v8] L9 fun _ L10=>za F (.bslice [.i .i64 0,.i .i64 0,.i .i64 0] 0 3 []) [] L10 fun v11 L11=>za F .nilchk [x0] L11 fun v12 L12=>za F (.fad 0) [v12] L12 fun v13 L13=>za F (.ld none) [v13] L13 fun v14 L14=>za F (.slc 3 false true false) [v14,x6] L14 fun v15 L15=>za F (.app 3 24) [v11,v15] L15 fun v16 L16=>za F .nilchk [x0] L16 fun v17 L17=>za F (.fad 0) [v17] L17 fun v18 L18=>za F (.ld none) [v18] L18 fun v19 L19=>za F (.bin .add) [x6,(.i .i64 1)] L19 fun v20 L20=>za F (.slc 3 true false false) [v19,v20] L20 fun v21 L21=>za F (.app 3 24) [v16,v21] L21 fun v22 L22=>za F .nilchk [x0] L22 fun v23 L23=>za F (.fad 0) [v23] L23 fun v24 L24=>za F (.st 1) [v24,v22] L24 fun _ L25=>(z8 (.ld none) [v18] L18 L10∧True)∧(za F (.ld (some 3)) [v9] L25 fun v26 L26=>za F (.st 3) [x4,v26] L26 fun _ L27=>zl (yz Env.nil Env.nil L27 [.cell (.c x4) (some 3),.tmp (.c (.b true))]) Q L27))
def D_f67_2 (F:TF)(Q:TQ)(x0 x1 x4:AV)(L:Lg):Prop :=zd F k_f66 [x0,x1] L fun v1 L1=>D_f67_3 F Q x0 x4 v1 L1
def D_f67_1 (F:TF)(Q:TQ)(x0 x1:AV)(L:Lg):Prop :=za F (.alloc [.i .i64 0,.i .i64 0,.i .i64 0]) [] L fun v1 L1=>D_f67_2 F Q x0 x1 v1 L1
structure H_f67 (F:TF):Prop where
 code:F k_f67=some c_f67
 f66:H_f66 F
theorem r_f67 {F:TF}(h:F k_f67=some c_f67){Q:TQ}{a0 a1:AV}{L:Lg}(e:D_f67_1 F Q a0 a1 L):zd F k_f67 [a0,a1] L Q :=
 cw h (fun l t L=>wS (fun l t L=>wS (fun l t L=>lf (D_f67_3 F Q (l 0) (l 4) (l 6) L)) (lf (D_f67_2 F Q (l 0) (l 1) (l 4) L))) (lf (D_f67_1 F Q (l 0) (l 1) L))) e
def D_f68_4 (F:TF)(Q:TQ)(x6:AV)(L:Lg):Prop :=zl (some x6) Q L
def D_f68_8 (F:TF)(Q:TQ)(k1:TK)(l:Env)(L:Lg):Prop :=za F .nilchk [(l 0)] L fun v1 L1=>za F (.fad 2) [v1] L1 fun v2 L2=>za F (.ld none) [v2] L2 fun v3 L3=>za F .lenSl [v3] L3 fun v4 L4=>za F (.bin .lss) [(l 7),v4] L4 fun v5 L5=>zn v5 (za F .nilchk [(l 0)] L5 fun v6 L6=>za F (.fad 2) [v6] L6 fun v7 L7=>za F (.ld none) [v7] L7 fun v8 L8=>za F (.iad 3) [v8,(l 7)] L8 fun v9 L9=>za F (.fad 0) [v9] L9 fun v10 L10=>za F (.ld none) [v10] L10 fun v11 L11=>za F (.bin .eql) [v11,(l 1)] L11 fun v12 L12=>zn v12 (za F (.bslice [.i .i64 0,.i .i64 0,.i .i64 0] 0 3 []) [] L12 fun v13 L13=>za F .nilchk [(l 0)] L13 fun v14 L14=>za F (.fad 2) [v14] L14 fun v15 L15=>za F (.ld none) [v15] L15 fun v16 L16=>za F (.slc 3 false true false) [v16,(l 7)] L16 fun v17 L17=>za F (.app 3 24) [v13,v17] L17 fun v18 L18=>za F .nilchk [(l 0)] L18 fun v19 L19=>za F (.fad 2) [v19] L19 fun v20 L20=>za F (.ld none) [v20] L20 fun v21 L21=>za F (.bin .add) [(l 7),(.i .i64 1)] L21 fun v22 L22=>za F (.slc 3 true false false) [v21,v22] L22 fun v23 L23=>za F (.app 3 24) [v18,v23] L23 fun v24 L24=>za F .nilchk [(l 0)] L24 fun v25 L25=>za F (.fad 2) [v25] L25 fun v26 L26=>za F (.st 1) [v26,v24] L26 fun _ L27=>(z8 (.ld none) [v20] L20 L12∧True)∧(D_f68_4 F Q (l 6) L27)) (za F (.bin .add) [(l 7),(.i .i64 1)] L12 fun v28 L28=>k1 (Env.put l 7 v28) L28)) (D_f68_4 F Q (l 6) L5)
def D_f68_7 (F:TF)(Q:TQ)(l:Env)(L:Lg):Prop :=xC (fun l t L k1=>D_f68_8 F Q k1 l L) l L
def D_f68_5 (F:TF)(Q:TQ)(l:Env)(L:Lg):Prop :=D_f68_7 F Q (Env.put l 7 (.i .i64 0)) L
def D_f68_2 (F:TF)(Q:TQ)(l:Env)(L:Lg):Prop :=za F .nilchk [(l 0)] L fun v1 L1=>za F (.fad 0) [v1] L1 fun v2 L2=>zd F k_f67 [v2,(l 1)] L2 fun v3 L3=>za F (.ext 0) [v3] L3 fun v4 L4=>za F (.ext 1) [v3] L4 fun v5 L5=>za F (.alloc [.i .i64 0,.i .i64 0,.i .i64 0]) [] L5 fun v6 L6=>za F (.st 3) [v6,v4] L6 fun _ L7=>D_f68_5 F Q (Env.put l 6 v5) L7
def D_f68_1 (F:TF)(Q:TQ)(l:Env)(L:Lg):Prop :=D_f68_2 F Q (Env.put l 4 (.b false)) L
structure H_f68 (F:TF):Prop where
 code:F k_f68=some c_f68
 f67:H_f67 F
theorem r_f68 {F:TF}(h:F k_f68=some c_f68){Q:TQ}{a0 a1:AV}{L:Lg}(e:D_f68_1 F Q (zJ [a0,a1] 0) L):zd F k_f68 [a0,a1] L Q :=
 cw h (fun l t L=>wS (fun l t L=>wS (fun l t L=>wS (fun l t L=>lf (D_f68_4 F Q (l 6) L)) (wS (fun l t L=>wB (wL (fun l t L k1=>lf (D_f68_8 F Q k1 l L)) (lf (D_f68_7 F Q l L)))) (lf (D_f68_5 F Q l L)))) (lf (D_f68_2 F Q l L))) (lf (D_f68_1 F Q l L))) e
def D_f69_4 (F:TF)(Q:TQ)(x0 x1 x2 x6:AV)(L:Lg):Prop :=za F (.bslice [.i .i64 0,.i .i64 0,.i .i64 0] 0 3 []) [] L fun v1 L1=>za F .nilchk [x0] L1 fun v2 L2=>za F (.fad 0) [v2] L2 fun v3 L3=>za F (.ld none) [v3] L3 fun v4 L4=>za F (.slc 3 false true false) [v4,x6] L4 fun v5 L5=>za F (.app 3 24) [v1,v5] L5 fun v6 L6=>za F .nilchk [x0] L6 fun v7 L7=>za F (.fad 1) [v7] L7 fun v8 L8=>za F (.ld none) [v8] L8 fun v9 L9=>za F (.build [.i .i64 0,.i .i64 0,.i .i64 0] [(0,1),(1,1),(2,1)]) [x1,x2,v9] L9 fun v10 L10=>za F (.bslice [.i .i64 0,.i .i64 0,.i .i64 0] 1 3 [0]) [v10] L10 fun v11 L11=>za F (.app 3 24) [v6,v11] L11 fun v12 L12=>za F .nilchk [x0] L12 fun v13 L13=>za F (.fad 0) [v13] L13 fun v14 L14=>za F (.ld none) [v14] L14 fun v15 L15=>za F (.slc 3 true false false) [v15,x6] L15 fun v16 L16=>za F (.app 3 24) [v12,v16] L16 fun v17 L17=>za F .nilchk [x0] L17 fun v18 L18=>za F (.fad 0) [v18] L18 fun v19 L19=>za F (.st 1) [v19,v17] L19 fun _ L20=>(z8 (.ld none) [v8] L8 L∧z8 (.ld none) [v14] L14 L∧z8 (.ld none) [v14] L14 L6∧True)∧(zl (some (.tup [])) Q L20)
def D_f69_7 (F:TF)(Q:TQ)(k1:TK)(l:Env)(L:Lg):Prop :=za F (.bin .gtr) [(l 6),(.i .i64 0)] L fun v1 L1=>zi F v1 true .mv [(l 0)] L1 fun v2 L2=>zi F v1 true .nilchk [v2] L2 fun v3 L3=>zi F v1 true (.fad 0) [v3] L3 fun v4 L4=>zi F v1 true (.ld none) [v4] L4 fun v5 L5=>zi F v1 true .mv [(l 6)] L5 fun v6 L6=>zi F v1 true (.bin .sub) [v6,(.i .i64 1)] L6 fun v7 L7=>zi F v1 true (.iad 3) [v5,v7] L7 fun v8 L8=>zi F v1 true (.fad 1) [v8] L8 fun v9 L9=>zi F v1 true (.ld none) [v9] L9 fun v10 L10=>zi F v1 true .mv [(l 2)] L10 fun v11 L11=>zi F v1 true (.bin .gtr) [v10,v11] L11 fun v12 L12=>za F .pick [v1,v12,(.b false)] L12 fun v13 L13=>zn v13 (za F (.bin .sub) [(l 6),(.i .i64 1)] L13 fun v14 L14=>k1 (Env.put l 6 v14) L14) (D_f69_4 F Q (l 0) (l 1) (l 2) (l 6) L13)
def D_f69_6 (F:TF)(Q:TQ)(l:Env)(L:Lg):Prop :=xC (fun l t L k1=>D_f69_7 F Q k1 l L) l L
def D_f69_2 (F:TF)(Q:TQ)(l:Env)(L:Lg):Prop :=za F .nilchk [(l 0)] L fun v1 L1=>za F (.fad 0) [v1] L1 fun v2 L2=>za F (.ld none) [v2] L2 fun v3 L3=>za F .lenSl [v3] L3 fun v4 L4=>D_f69_6 F Q (Env.put l 6 v4) L4
def D_f69_1 (F:TF)(Q:TQ)(l:Env)(L:Lg):Prop :=za F .nilchk [(l 0)] L fun v1 L1=>za F (.fad 1) [v1] L1 fun v2 L2=>za F (.ld none) [v2] L2 fun v3 L3=>za F (.bin .add) [v3,(.i .i64 1)] L3 fun v4 L4=>za F .nilchk [(l 0)] L4 fun v5 L5=>za F (.fad 1) [v5] L5 fun v6 L6=>za F (.st 1) [v6,v4] L6 fun _ L7=>D_f69_2 F Q l L7
structure H_f69 (F:TF):Prop where
 code:F k_f69=some c_f69
theorem r_f69 {F:TF}(h:F k_f69=some c_f69){Q:TQ}{a0 a1 a2:AV}{L:Lg}(e:D_f69_1 F Q (zJ [a0,a1,a2] 0) L):zd F k_f69 [a0,a1,a2] L Q :=
 cw h (fun l t L=>wS (fun l t L=>wS (fun l t L=>wS (fun l t L=>lf (D_f69_4 F Q (l 0) (l 1) (l 2) (l 6) L)) (wB (wL (fun l t L k1=>lf (D_f69_7 F Q k1 l L)) (lf (D_f69_6 F Q l L))))) (lf (D_f69_2 F Q l L))) (lf (D_f69_1 F Q l L))) e
def D_f70_1 (F:TF)(Q:TQ)(x0 x1 x2 x3:AV)(L:Lg):Prop :=za F (.bin .lss) [x2,(.i .i64 0)] L fun v1 L1=>zi F v1 false .mv [x2] L1 fun v2 L2=>zi F v1 false (.bin .gtr) [v2,(.i .i64 4611686018427387904)] L2 fun v3 L3=>za F .pick [v1,(.b true),v3] L3 fun v4 L4=>zi F v4 false .mv [x3] L4 fun v5 L5=>zi F v4 false (.bin .lss) [v5,(.i .i64 0)] L5 fun v6 L6=>za F .pick [v4,(.b true),v6] L6 fun v7 L7=>zi F v7 false .mv [x3] L7 fun v8 L8=>zi F v7 false (.bin .gtr) [v8,(.i .i64 4611686018427387904)] L8 fun v9 L9=>za F .pick [v7,(.b true),v9] L9 fun v10 L10=>zn v10 (zl (some (.i .i64 1)) Q L10) (zd F k_f68 [x0,x1] L10 fun v11 L11=>za F .nilchk [x0] L11 fun v12 L12=>za F (.fad 0) [v12] L12 fun v13 L13=>zd F k_f69 [v13,x1,x2] L13 fun v14 L14=>za F .nilchk [x0] L14 fun v15 L15=>za F (.fad 2) [v15] L15 fun v16 L16=>za F (.ld none) [v16] L16 fun v17 L17=>za F (.build [.i .i64 0,.i .i64 0,.i .i64 0] [(0,1),(1,1)]) [x1,x3] L17 fun v18 L18=>za F (.bslice [.i .i64 0,.i .i64 0,.i .i64 0] 1 3 [0]) [v18] L18 fun v19 L19=>za F (.app 3 24) [v17,v19] L19 fun v20 L20=>za F .nilchk [x0] L20 fun v21 L21=>za F (.fad 2) [v21] L21 fun v22 L22=>za F (.st 1) [v22,v20] L22 fun _ L23=>zl (some (.i .i64 0)) Q L23)
structure H_f70 (F:TF):Prop where
 code:F k_f70=some c_f70
 f68:H_f68 F
 f69:H_f69 F
theorem r_f70 {F:TF}(h:F k_f70=some c_f70){Q:TQ}{a0 a1 a2 a3:AV}{L:Lg}(e:D_f70_1 F Q a0 a1 a2 a3 L):zd F k_f70 [a0,a1,a2,a3] L Q :=
 cw h (fun l t L=>lf (D_f70_1 F Q (l 0) (l 1) (l 2) (l 3) L)) e
def D_f77_1 (F:TF)(Q:TQ)(x0 x1 x2:AV)(L:Lg):Prop :=za F (.bin .lss) [x2,(.i .i64 0)] L fun v1 L1=>zn v1 (zl (some (.tup [(.i .i64 0),(.i .i64 1)])) Q L1) (za F .nilchk [x0] L1 fun v2 L2=>za F (.fad 3) [v2] L2 fun v3 L3=>za F (.ld none) [v3] L3 fun v4 L4=>za F (.build [.i .i64 0,.i .i64 0,.p none,.i .i64 0] [(0,1),(1,1),(3,1)]) [(.i .i64 4),x2,(.i .i64 1)] L4 fun v5 L5=>za F (.bslice [.i .i64 0,.i .i64 0,.p none,.i .i64 0] 1 4 [0]) [v5] L5 fun v6 L6=>za F (.app 4 32) [v4,v6] L6 fun v7 L7=>za F .nilchk [x0] L7 fun v8 L8=>za F (.fad 3) [v8] L8 fun v9 L9=>za F (.st 1) [v9,v7] L9 fun _ L10=>za F .nilchk [x0] L10 fun v11 L11=>za F (.fad 3) [v11] L11 fun v12 L12=>za F (.ld none) [v12] L12 fun v13 L13=>za F .lenSl [v13] L13 fun v14 L14=>za F (.bin .sub) [v14,(.i .i64 1)] L14 fun v15 L15=>za F .nilchk [x0] L15 fun v16 L16=>za F (.fad 0) [v16] L16 fun v17 L17=>zd F k_f63 [x1] L17 fun v18 L18=>zd F k_f70 [v17,v15,v18,(.i .i64 0)] L18 fun v19 L19=>zl (some (.tup [v15,(.i .i64 0)])) Q L19)
structure H_f77 (F:TF):Prop where
 code:F k_f77=some c_f77
 f63:H_f63 F
 f70:H_f70 F
theorem r_f77 {F:TF}(h:F k_f77=some c_f77){Q:TQ}{a0 a1 a2:AV}{L:Lg}(e:D_f77_1 F Q a0 a1 a2 L):zd F k_f77 [a0,a1,a2] L Q :=
 cw h (fun l t L=>lf (D_f77_1 F Q (l 0) (l 1) (l 2) L)) e
def D_f78_1 (F:TF)(Q:TQ)(x0 x1:AV)(L:Lg):Prop :=za F (.bin .geq) [x1,(.i .i64 0)] L fun v1 L1=>zi F v1 true .mv [x1] L1 fun v2 L2=>zi F v1 true .mv [x0] L2 fun v3 L3=>zi F v1 true .nilchk [v3] L3 fun v4 L4=>zi F v1 true (.fad 3) [v4] L4 fun v5 L5=>zi F v1 true (.ld none) [v5] L5 fun v6 L6=>zi F v1 true .lenSl [v6] L6 fun v7 L7=>zi F v1 true (.bin .lss) [v2,v7] L7 fun v8 L8=>za F .pick [v1,v8,(.b false)] L8 fun v9 L9=>zl (some v9) Q L9
structure H_f78 (F:TF):Prop where
 code:F k_f78=some c_f78
theorem r_f78 {F:TF}(h:F k_f78=some c_f78){Q:TQ}{a0 a1:AV}{L:Lg}(e:D_f78_1 F Q a0 a1 L):zd F k_f78 [a0,a1] L Q :=
 cw h (fun l t L=>lf (D_f78_1 F Q (l 0) (l 1) L)) e
def D_f79_1 (F:TF)(Q:TQ)(x0:AV)(L:Lg):Prop :=za F (.eq false .ptr) [x0,(.p none)] L fun v1 L1=>zi F v1 false .mv [x0] L1 fun v2 L2=>zi F v1 false .nilchk [v2] L2 fun v3 L3=>zi F v1 false (.fad 1) [v3] L3 fun v4 L4=>zi F v1 false (.ld none) [v4] L4 fun v5 L5=>zi F v1 false (.un .not) [v5] L5 fun v6 L6=>za F .pick [v1,(.b true),v6] L6 fun v7 L7=>zi F v7 false .mv [x0] L7 fun v8 L8=>zi F v7 false .nilchk [v8] L8 fun v9 L9=>zi F v7 false (.fad 4) [v9] L9 fun v10 L10=>zi F v7 false (.ld none) [v10] L10 fun v11 L11=>zi F v7 false .lenSl [v11] L11 fun v12 L12=>zi F v7 false (.bin .eql) [v12,(.i .i64 0)] L12 fun v13 L13=>za F .pick [v7,(.b true),v13] L13 fun v14 L14=>zn v14 (zl (some (.b false)) Q L14) (za F .nilchk [x0] L14 fun v15 L15=>za F (.fad 4) [v15] L15 fun v16 L16=>za F (.st 1) [v16,(.sl none 0 0 0)] L16 fun _ L17=>zl (some (.b true)) Q L17)
structure H_f79 (F:TF):Prop where
 code:F k_f79=some c_f79
theorem r_f79 {F:TF}(h:F k_f79=some c_f79){Q:TQ}{a0:AV}{L:Lg}(e:D_f79_1 F Q a0 L):zd F k_f79 [a0] L Q :=
 cw h (fun l t L=>lf (D_f79_1 F Q (l 0) L)) e
def D_f80_1 (F:TF)(Q:TQ)(x0 x1:AV)(L:Lg):Prop :=zd F k_f78 [x0,x1] L fun v1 L1=>za F (.un .not) [v1] L1 fun v2 L2=>zn v2 (zl (some (.tup [(.b false),(.i .i64 4)])) Q L2) (za F .nilchk [x0] L2 fun v3 L3=>za F (.fad 0) [v3] L3 fun v4 L4=>zd F k_f68 [v4,x1] L4 fun v5 L5=>za F .nilchk [x0] L5 fun v6 L6=>za F (.fad 3) [v6] L6 fun v7 L7=>za F (.ld none) [v7] L7 fun v8 L8=>za F (.iad 4) [v8,x1] L8 fun v9 L9=>za F (.fad 2) [v9] L9 fun v10 L10=>za F (.ld none) [v10] L10 fun v11 L11=>zd F k_f79 [v11] L11 fun v12 L12=>zi F v5 false .mv [v12] L12 fun v13 L13=>za F .pick [v5,(.b true),v13] L13 fun v14 L14=>zl (some (.tup [v14,(.i .i64 0)])) Q L14)
structure H_f80 (F:TF):Prop where
 code:F k_f80=some c_f80
 f78:H_f78 F
 f68:H_f68 F
 f79:H_f79 F
theorem r_f80 {F:TF}(h:F k_f80=some c_f80){Q:TQ}{a0 a1:AV}{L:Lg}(e:D_f80_1 F Q a0 a1 L):zd F k_f80 [a0,a1] L Q :=
 cw h (fun l t L=>lf (D_f80_1 F Q (l 0) (l 1) L)) e
def D_f82_3 (F:TF)(Q:TQ)(L:Lg):Prop :=zl (some (.i .i64 (-1))) Q L
def D_f82_7 (F:TF)(Q:TQ)(k1:TK)(l:Env)(L:Lg):Prop :=za F .nilchk [(l 0)] L fun v1 L1=>za F (.fad 2) [v1] L1 fun v2 L2=>za F (.ld none) [v2] L2 fun v3 L3=>za F .lenSl [v3] L3 fun v4 L4=>za F (.bin .lss) [(l 5),v4] L4 fun v5 L5=>zn v5 (za F .nilchk [(l 0)] L5 fun v6 L6=>za F (.fad 2) [v6] L6 fun v7 L7=>za F (.ld none) [v7] L7 fun v8 L8=>za F (.iad 3) [v8,(l 5)] L8 fun v9 L9=>za F (.fad 0) [v9] L9 fun v10 L10=>za F (.ld none) [v10] L10 fun v11 L11=>za F (.bin .eql) [v11,(l 1)] L11 fun v12 L12=>zn v12 (za F .nilchk [(l 0)] L12 fun v13 L13=>za F (.fad 2) [v13] L13 fun v14 L14=>za F (.ld none) [v14] L14 fun v15 L15=>za F (.iad 3) [v15,(l 5)] L15 fun v16 L16=>za F (.fad 1) [v16] L16 fun v17 L17=>za F (.ld none) [v17] L17 fun v18 L18=>zl (some v18) Q L18) (za F (.bin .add) [(l 5),(.i .i64 1)] L12 fun v19 L19=>k1 (Env.put l 5 v19) L19)) (D_f82_3 F Q L5)
def D_f82_6 (F:TF)(Q:TQ)(l:Env)(L:Lg):Prop :=xC (fun l t L k1=>D_f82_7 F Q k1 l L) l L
def D_f82_4 (F:TF)(Q:TQ)(l:Env)(L:Lg):Prop :=D_f82_6 F Q (Env.put l 5 (.i .i64 0)) L
def D_f82_1 (F:TF)(Q:TQ)(l:Env)(L:Lg):Prop :=D_f82_4 F Q (Env.put l 4 (.i .i64 0)) L
structure H_f82 (F:TF):Prop where
 code:F k_f82=some c_f82
theorem r_f82 {F:TF}(h:F k_f82=some c_f82){Q:TQ}{a0 a1:AV}{L:Lg}(e:D_f82_1 F Q (zJ [a0,a1] 0) L):zd F k_f82 [a0,a1] L Q :=
 cw h (fun l t L=>wS (fun l t L=>wS (fun l t L=>lf (D_f82_3 F Q L)) (wS (fun l t L=>wB (wL (fun l t L k1=>lf (D_f82_7 F Q k1 l L)) (lf (D_f82_6 F Q l L)))) (lf (D_f82_4 F Q l L)))) (lf (D_f82_1 F Q l L))) e
def D_f83_3 (F:TF)(Q:TQ)(x0 x1 x2:AV)(L:Lg):Prop :=za F (.bin .gtr) [x0,x2] L fun v1 L1=>zn v1 (zl (some (.tup [x0,(.i .i64 0)])) Q L1) (za F (.bin .sub) [x2,x0] L1 fun v2 L2=>za F (.bin .quo) [v2,x1] L2 fun v3 L3=>za F (.bin .add) [v3,(.i .i64 1)] L3 fun v4 L4=>za F (.bin .sub) [(.i .i64 4611686018427387904),x0] L4 fun v5 L5=>za F (.bin .quo) [v5,v4] L5 fun v6 L6=>za F (.bin .gtr) [x1,v6] L6 fun v7 L7=>zn v7 (zl (some (.tup [(.i .i64 4611686018427387904),(.i .i64 0)])) Q L7) (za F (.bin .mul) [v4,x1] L7 fun v8 L8=>za F (.bin .add) [x0,v8] L8 fun v9 L9=>zl (some (.tup [v9,(.i .i64 0)])) Q L9))
def D_f83_2 (F:TF)(Q:TQ)(x0 x1 x2:AV)(L:Lg):Prop :=za F (.bin .lss) [x1,(.i .i64 1)] L fun v1 L1=>zi F v1 false .mv [x0] L1 fun v2 L2=>zi F v1 false (.bin .lss) [v2,(.i .i64 0)] L2 fun v3 L3=>za F .pick [v1,(.b true),v3] L3 fun v4 L4=>zi F v4 false .mv [x2] L4 fun v5 L5=>zi F v4 false (.bin .lss) [v5,(.i .i64 0)] L5 fun v6 L6=>za F .pick [v4,(.b true),v6] L6 fun v7 L7=>zi F v7 false .mv [x1] L7 fun v8 L8=>zi F v7 false (.bin .gtr) [v8,(.i .i64 4611686018427387904)] L8 fun v9 L9=>za F .pick [v7,(.b true),v9] L9 fun v10 L10=>zi F v10 false .mv [x0] L10 fun v11 L11=>zi F v10 false (.bin .gtr) [v11,(.i .i64 4611686018427387904)] L11 fun v12 L12=>za F .pick [v10,(.b true),v12] L12 fun v13 L13=>zi F v13 false .mv [x2] L13 fun v14 L14=>zi F v13 false (.bin .gtr) [v14,(.i .i64 4611686018427387904)] L14 fun v15 L15=>za F .pick [v13,(.b true),v15] L15 fun v16 L16=>zn v16 (zl (some (.tup [(.i .i64 0),(.i .i64 1)])) Q L16) (D_f83_3 F Q x0 x1 x2 L16)
def D_f83_1 (F:TF)(Q:TQ)(x0 x1 x2:AV)(L:Lg):Prop :=D_f83_2 F Q x0 x1 x2 L
structure H_f83 (F:TF):Prop where
 code:F k_f83=some c_f83
theorem r_f83 {F:TF}(h:F k_f83=some c_f83){Q:TQ}{a0 a1 a2:AV}{L:Lg}(e:D_f83_1 F Q a0 a1 a2 L):zd F k_f83 [a0,a1,a2] L Q :=
 cw h (fun l t L=>wS (fun l t L=>wS (fun l t L=>lf (D_f83_3 F Q (l 0) (l 1) (l 2) L)) (lf (D_f83_2 F Q (l 0) (l 1) (l 2) L))) (lf (D_f83_1 F Q (l 0) (l 1) (l 2) L))) e
def D_f84_7 (F:TF)(Q:TQ)(x1 x4 x6:AV)(L:Lg):Prop :=za F (.fad 0) [x6] L fun v1 L1=>za F (.ld none) [v1] L1 fun v2 L2=>za F (.fad 1) [x6] L2 fun v3 L3=>za F (.ld none) [v3] L3 fun v4 L4=>za F (.build [.i .i64 0,.i .i64 0,.i .i64 0] [(0,1),(1,1),(2,1)]) [v2,v4,x1] L4 fun v5 L5=>za F (.st 3) [x4,v5] L5 fun _ L6=>zl (yz Env.nil Env.nil L6 [.cell (.c x4) (some 3),.tmp (.c (.b true))]) Q L6
def D_f84_6 (F:TF)(Q:TQ)(x0 x1 x4 x6 x7:AV)(L:Lg):Prop :=za F (.bin .gtr) [x7,(.i .i64 0)] L fun v1 L1=>zn v1 (za F (.fad 1) [x6] L1 fun v2 L2=>za F (.ld none) [v2] L2 fun v3 L3=>za F .min [x1,(.i .i64 4611686018427387904)] L3 fun v4 L4=>zd F k_f83 [v3,x7,v4] L4 fun v5 L5=>za F (.ext 0) [v5] L5 fun v6 L6=>za F (.ext 1) [v5] L6 fun v7 L7=>za F (.bin .eql) [v7,(.i .i64 0)] L7 fun v8 L8=>zi F v8 true .mv [v6] L8 fun v9 L9=>zi F v8 true .mv [x1] L9 fun v10 L10=>zi F v8 true (.bin .gtr) [v9,v10] L10 fun v11 L11=>za F .pick [v8,v11,(.b false)] L11 fun v12 L12=>zn v12 (za F (.fad 0) [x6] L12 fun v13 L13=>za F (.ld none) [v13] L13 fun v14 L14=>zd F k_f70 [x0,v14,v6,x7] L14 fun v15 L15=>D_f84_7 F Q x1 x4 x6 L15) (D_f84_7 F Q x1 x4 x6 L12)) (D_f84_7 F Q x1 x4 x6 L1)
def D_f84_5 (F:TF)(Q:TQ)(x0 x1 x4 x6 x7:AV)(L:Lg):Prop :=za F (.fad 0) [x6] L fun v1 L1=>za F (.ld none) [v1] L1 fun v2 L2=>zd F k_f68 [x0,v2] L2 fun v3 L3=>D_f84_6 F Q x0 x1 x4 x6 x7 L3
def D_f84_4 (F:TF)(Q:TQ)(x0 x1 x4 x6:AV)(L:Lg):Prop :=za F (.fad 0) [x6] L fun v1 L1=>za F (.ld none) [v1] L1 fun v2 L2=>zd F k_f82 [x0,v2] L2 fun v3 L3=>D_f84_5 F Q x0 x1 x4 x6 v3 L3
def D_f84_3 (F:TF)(Q:TQ)(x0 x1 x4:AV)(L:Lg):Prop :=za F .nilchk [x0] L fun v1 L1=>za F (.fad 0) [v1] L1 fun v2 L2=>za F (.fad 0) [v2] L2 fun v3 L3=>za F (.ld none) [v3] L3 fun v4 L4=>za F (.iad 3) [v4,(.i .i64 0)] L4 fun v5 L5=>za F (.ld (some 3)) [v5] L5 fun v6 L6=>za F (.alloc [.i .i64 0,.i .i64 0,.i .i64 0]) [] L6 fun v7 L7=>za F (.st 3) [v7,v6] L7 fun _ L8=>D_f84_4 F Q x0 x1 x4 v7 L8
def D_f84_2 (F:TF)(Q:TQ)(x0 x1 x4:AV)(L:Lg):Prop :=za F (.bin .lss) [x1,(.i .i64 0)] L fun v1 L1=>zi F v1 false .mv [x0] L1 fun v2 L2=>zi F v1 false .nilchk [v2] L2 fun v3 L3=>zi F v1 false (.fad 0) [v3] L3 fun v4 L4=>zi F v1 false (.fad 0) [v4] L4 fun v5 L5=>zi F v1 false (.ld none) [v5] L5 fun v6 L6=>zi F v1 false .lenSl [v6] L6 fun v7 L7=>zi F v1 false (.bin .eql) [v7,(.i .i64 0)] L7 fun v8 L8=>za F .pick [v1,(.b true),v8] L8 fun v9 L9=>zi F v9 false .mv [x0] L9 fun v10 L10=>zi F v9 false .nilchk [v10] L10 fun v11 L11=>zi F v9 false (.fad 0) [v11] L11 fun v12 L12=>zi F v9 false (.fad 0) [v12] L12 fun v13 L13=>zi F v9 false (.ld none) [v13] L13 fun v14 L14=>zi F v9 false (.iad 3) [v14,(.i .i64 0)] L14 fun v15 L15=>zi F v9 false (.fad 1) [v15] L15 fun v16 L16=>zi F v9 false (.ld none) [v16] L16 fun v17 L17=>zi F v9 false .mv [x1] L17 fun v18 L18=>zi F v9 false (.bin .gtr) [v17,v18] L18 fun v19 L19=>za F .pick [v9,(.b true),v19] L19 fun v20 L20=>zn v20 (za F (.build [.i .i64 0,.i .i64 0,.i .i64 0] []) [] L20 fun v21 L21=>za F (.st 3) [x4,v21] L21 fun _ L22=>zl (yz Env.nil Env.nil L22 [.cell (.c x4) (some 3),.tmp (.c (.b false))]) Q L22) (D_f84_3 F Q x0 x1 x4 L20)
def D_f84_1 (F:TF)(Q:TQ)(x0 x1:AV)(L:Lg):Prop :=za F (.alloc [.i .i64 0,.i .i64 0,.i .i64 0]) [] L fun v1 L1=>D_f84_2 F Q x0 x1 v1 L1
structure H_f84 (F:TF):Prop where
 code:F k_f84=some c_f84
 f82:H_f82 F
 f68:H_f68 F
 f83:H_f83 F
 f70:H_f70 F
theorem r_f84 {F:TF}(h:F k_f84=some c_f84){Q:TQ}{a0 a1:AV}{L:Lg}(e:D_f84_1 F Q a0 a1 L):zd F k_f84 [a0,a1] L Q :=
 cw h (fun l t L=>wS (fun l t L=>wS (fun l t L=>wS (fun l t L=>wS (fun l t L=>wS (fun l t L=>wS (fun l t L=>lf (D_f84_7 F Q (l 1) (l 4) (l 6) L)) (lf (D_f84_6 F Q (l 0) (l 1) (l 4) (l 6) (l 7) L))) (lf (D_f84_5 F Q (l 0) (l 1) (l 4) (l 6) (l 7) L))) (lf (D_f84_4 F Q (l 0) (l 1) (l 4) (l 6) L))) (lf (D_f84_3 F Q (l 0) (l 1) (l 4) L))) (lf (D_f84_2 F Q (l 0) (l 1) (l 4) L))) (lf (D_f84_1 F Q (l 0) (l 1) L))) e
def D_f85_3 (F:TF)(Q:TQ)(x0 x1:AV)(L:Lg):Prop :=za F .nilchk [x0] L fun v1 L1=>za F (.fad 4) [v1] L1 fun v2 L2=>za F (.ld none) [v2] L2 fun v3 L3=>za F .lenSl [v3] L3 fun v4 L4=>za F .nilchk [x0] L4 fun v5 L5=>za F (.fad 0) [v5] L5 fun v6 L6=>za F (.ld none) [v6] L6 fun v7 L7=>za F (.bin .lss) [v4,v7] L7 fun v8 L8=>zn v8 (za F (.bslice [.i .i64 0] 0 1 []) [] L8 fun v9 L9=>za F .nilchk [x0] L9 fun v10 L10=>za F (.fad 4) [v10] L10 fun v11 L11=>za F (.ld none) [v11] L11 fun v12 L12=>za F (.app 1 8) [v9,v12] L12 fun v13 L13=>za F (.bslice [.i .i64 0] 1 1 [0]) [x1] L13 fun v14 L14=>za F (.app 1 8) [v13,v14] L14 fun v15 L15=>za F .nilchk [x0] L15 fun v16 L16=>za F (.fad 4) [v16] L16 fun v17 L17=>za F (.st 1) [v17,v15] L17 fun _ L18=>zl (some (.tup [(.b true),(.sl none 0 0 0)])) Q L18) (zl (some (.tup [(.b false),(.sl none 0 0 0)])) Q L8)
def D_f85_2 (F:TF)(Q:TQ)(x0 x1:AV)(L:Lg):Prop :=za F .nilchk [x0] L fun v1 L1=>za F (.fad 6) [v1] L1 fun v2 L2=>za F (.ld none) [v2] L2 fun v3 L3=>za F .lenSl [v3] L3 fun v4 L4=>za F (.bin .gtr) [v4,(.i .i64 0)] L4 fun v5 L5=>zn v5 (za F .nilchk [x0] L5 fun v6 L6=>za F (.fad 6) [v6] L6 fun v7 L7=>za F (.ld none) [v7] L7 fun v8 L8=>za F (.iad 3) [v8,(.i .i64 0)] L8 fun v9 L9=>za F (.ld (some 3)) [v9] L9 fun v10 L10=>za F (.alloc [.i .i64 0,.i .i64 0,.i .i64 0]) [] L10 fun v11 L11=>za F (.st 3) [v11,v10] L11 fun _ L12=>za F (.bslice [.i .i64 0,.i .i64 0,.i .i64 0] 0 3 []) [] L12 fun v13 L13=>za F .nilchk [x0] L13 fun v14 L14=>za F (.fad 6) [v14] L14 fun v15 L15=>za F (.ld none) [v15] L15 fun v16 L16=>za F (.slc 3 true false false) [v16,(.i .i64 1)] L16 fun v17 L17=>za F (.app 3 24) [v13,v17] L17 fun v18 L18=>za F .nilchk [x0] L18 fun v19 L19=>za F (.fad 6) [v19] L19 fun v20 L20=>za F (.st 1) [v20,v18] L20 fun _ L21=>za F (.fad 0) [v11] L21 fun v22 L22=>za F (.ld none) [v22] L22 fun v23 L23=>za F (.fad 1) [v11] L23 fun v24 L24=>za F (.ld none) [v24] L24 fun v25 L25=>za F (.build [.i .i64 0,.i .i64 0,.i .i64 0,.b false,.b false] [(0,1),(1,1),(2,1),(3,1)]) [v23,v25,x1,(.b true)] L25 fun v26 L26=>za F (.bslice [.i .i64 0,.i .i64 0,.i .i64 0,.b false,.b false] 1 5 [0]) [v26] L26 fun v27 L27=>zl (some (.tup [(.b true),v27])) Q L27) (D_f85_3 F Q x0 x1 L5)
def D_f85_1 (F:TF)(Q:TQ)(x0 x1:AV)(L:Lg):Prop :=D_f85_2 F Q x0 x1 L
structure H_f85 (F:TF):Prop where
 code:F k_f85=some c_f85
theorem r_f85 {F:TF}(h:F k_f85=some c_f85){Q:TQ}{a0 a1:AV}{L:Lg}(e:D_f85_1 F Q a0 a1 L):zd F k_f85 [a0,a1] L Q :=
 cw h (fun l t L=>wS (fun l t L=>wS (fun l t L=>lf (D_f85_3 F Q (l 0) (l 1) L)) (lf (D_f85_2 F Q (l 0) (l 1) L))) (lf (D_f85_1 F Q (l 0) (l 1) L))) e
def D_f86_1 (F:TF)(Q:TQ)(x0 x1:AV)(L:Lg):Prop :=za F (.eq false .ptr) [x0,(.p none)] L fun v1 L1=>zi F v1 false .mv [x0] L1 fun v2 L2=>zi F v1 false .nilchk [v2] L2 fun v3 L3=>zi F v1 false (.fad 1) [v3] L3 fun v4 L4=>zi F v1 false (.ld none) [v4] L4 fun v5 L5=>zi F v1 false (.un .not) [v5] L5 fun v6 L6=>za F .pick [v1,(.b true),v6] L6 fun v7 L7=>zn v7 (zl (some (.tup [(.sl none 0 0 0),(.b false)])) Q L7) (zd F k_f85 [x0,x1] L7 fun v8 L8=>za F (.ext 0) [v8] L8 fun v9 L9=>za F (.ext 1) [v8] L9 fun v10 L10=>zl (some (.tup [v10,v9])) Q L10)
structure H_f86 (F:TF):Prop where
 code:F k_f86=some c_f86
 f85:H_f85 F
theorem r_f86 {F:TF}(h:F k_f86=some c_f86){Q:TQ}{a0 a1:AV}{L:Lg}(e:D_f86_1 F Q a0 a1 L):zd F k_f86 [a0,a1] L Q :=
 cw h (fun l t L=>lf (D_f86_1 F Q (l 0) (l 1) L)) e
def D_f87_5 (F:TF)(Q:TQ)(x1 x4 x6 x8:AV)(L:Lg):Prop :=za F (.fad 0) [x6] L fun v1 L1=>za F (.ld none) [v1] L1 fun v2 L2=>za F (.fad 0) [x8] L2 fun v3 L3=>za F (.ld none) [v3] L3 fun v4 L4=>za F (.fad 1) [x6] L4 fun v5 L5=>za F (.ld none) [v5] L5 fun v6 L6=>za F (.fad 1) [x8] L6 fun v7 L7=>za F (.ld none) [v7] L7 fun v8 L8=>za F (.build [.i .i64 0,.i .i64 0,.i .i64 0,.i .i64 0,.i .i64 0,.sl none 0 0 0,.b false] [(0,1),(1,1),(2,1),(3,1),(4,1)]) [v2,v4,v6,x1,v8] L8 fun v9 L9=>za F (.alloc [.i .i64 0,.i .i64 0,.i .i64 0,.i .i64 0,.i .i64 0,.sl none 0 0 0,.b false]) [] L9 fun v10 L10=>za F (.st 7) [v10,v9] L10 fun _ L11=>za F (.fad 2) [x8] L11 fun v12 L12=>za F (.ld none) [v12] L12 fun v13 L13=>za F (.eq true .ptr) [v13,(.p none)] L13 fun v14 L14=>zn v14 (za F (.fad 2) [x8] L14 fun v15 L15=>za F (.ld none) [v15] L15 fun v16 L16=>zd F k_f86 [v16,x1] L16 fun v17 L17=>za F (.ext 0) [v17] L17 fun v18 L18=>za F (.ext 1) [v17] L18 fun v19 L19=>za F (.fad 5) [v10] L19 fun v20 L20=>za F (.st 1) [v20,v18] L20 fun _ L21=>za F (.fad 6) [v10] L21 fun v22 L22=>za F (.st 1) [v22,v19] L22 fun _ L23=>za F (.ld (some 7)) [v10] L23 fun v24 L24=>za F (.st 7) [x4,v24] L24 fun _ L25=>zl (yz Env.nil Env.nil L25 [.cell (.c x4) (some 7),.tmp (.c (.b true))]) Q L25) (za F (.ld (some 7)) [v10] L14 fun v26 L26=>za F (.st 7) [x4,v26] L26 fun _ L27=>zl (yz Env.nil Env.nil L27 [.cell (.c x4) (some 7),.tmp (.c (.b true))]) Q L27)
def D_f87_4 (F:TF)(Q:TQ)(x0 x1 x4 x6:AV)(L:Lg):Prop :=za F .nilchk [x0] L fun v1 L1=>za F (.fad 3) [v1] L1 fun v2 L2=>za F (.ld none) [v2] L2 fun v3 L3=>za F (.fad 0) [x6] L3 fun v4 L4=>za F (.ld none) [v4] L4 fun v5 L5=>za F (.iad 4) [v3,v5] L5 fun v6 L6=>za F (.ld (some 4)) [v6] L6 fun v7 L7=>za F (.alloc [.i .i64 0,.i .i64 0,.p none,.i .i64 0]) [] L7 fun v8 L8=>za F (.st 4) [v8,v7] L8 fun _ L9=>D_f87_5 F Q x1 x4 x6 v8 L9
def D_f87_3 (F:TF)(Q:TQ)(x0 x1 x4 x6 x7:AV)(L:Lg):Prop :=za F (.un .not) [x7] L fun v1 L1=>zn v1 (za F (.build [.i .i64 0,.i .i64 0,.i .i64 0,.i .i64 0,.i .i64 0,.sl none 0 0 0,.b false] []) [] L1 fun v2 L2=>za F (.st 7) [x4,v2] L2 fun _ L3=>zl (yz Env.nil Env.nil L3 [.cell (.c x4) (some 7),.tmp (.c (.b false))]) Q L3) (D_f87_4 F Q x0 x1 x4 x6 L1)
def D_f87_2 (F:TF)(Q:TQ)(x0 x1 x4:AV)(L:Lg):Prop :=za F .nilchk [x0] L fun v1 L1=>za F (.fad 0) [v1] L1 fun v2 L2=>zd F k_f84 [v2,x1] L2 fun v3 L3=>za F (.ext 0) [v3] L3 fun v4 L4=>za F (.ext 1) [v3] L4 fun v5 L5=>za F (.alloc [.i .i64 0,.i .i64 0,.i .i64 0]) [] L5 fun v6 L6=>za F (.st 3) [v6,v4] L6 fun _ L7=>D_f87_3 F Q x0 x1 x4 v6 v5 L7
def D_f87_1 (F:TF)(Q:TQ)(x0 x1:AV)(L:Lg):Prop :=za F (.alloc [.i .i64 0,.i .i64 0,.i .i64 0,.i .i64 0,.i .i64 0,.sl none 0 0 0,.b false]) [] L fun v1 L1=>D_f87_2 F Q x0 x1 v1 L1
structure H_f87 (F:TF):Prop where
 code:F k_f87=some c_f87
 f84:H_f84 F
 f86:H_f86 F
theorem r_f87 {F:TF}(h:F k_f87=some c_f87){Q:TQ}{a0 a1:AV}{L:Lg}(e:D_f87_1 F Q a0 a1 L):zd F k_f87 [a0,a1] L Q :=
 cw h (fun l t L=>wS (fun l t L=>wS (fun l t L=>wS (fun l t L=>wS (fun l t L=>lf (D_f87_5 F Q (l 1) (l 4) (l 6) (l 8) L)) (lf (D_f87_4 F Q (l 0) (l 1) (l 4) (l 6) L))) (lf (D_f87_3 F Q (l 0) (l 1) (l 4) (l 6) (l 7) L))) (lf (D_f87_2 F Q (l 0) (l 1) (l 4) L))) (lf (D_f87_1 F Q (l 0) (l 1) L))) e
def D_f88_4 (F:TF)(Q:TQ)(L:Lg):Prop :=zl (some (.b true)) Q L
def D_f88_8 (F:TF)(Q:TQ)(k1:TK)(l:Env)(L:Lg):Prop :=za F .lenSl [(l 0)] L fun v1 L1=>za F (.bin .lss) [(l 5),v1] L1 fun v2 L2=>zn v2 (za F (.iad 5) [(l 0),(l 5)] L2 fun v3 L3=>za F (.ld (some 5)) [v3] L3 fun v4 L4=>za F (.iad 5) [(l 1),(l 5)] L4 fun v5 L5=>za F (.ld (some 5)) [v5] L5 fun v6 L6=>za F (.eq true (.agg [(0,1),(1,1),(2,1),(3,0),(4,0)])) [v4,v6] L6 fun v7 L7=>zn v7 (zl (some (.b false)) Q L7) (za F (.bin .add) [(l 5),(.i .i64 1)] L7 fun v8 L8=>k1 (Env.put l 5 v8) L8)) (D_f88_4 F Q L2)
def D_f88_7 (F:TF)(Q:TQ)(l:Env)(L:Lg):Prop :=xC (fun l t L k1=>D_f88_8 F Q k1 l L) l L
def D_f88_5 (F:TF)(Q:TQ)(l:Env)(L:Lg):Prop :=D_f88_7 F Q (Env.put l 5 (.i .i64 0)) L
def D_f88_2 (F:TF)(Q:TQ)(l:Env)(L:Lg):Prop :=za F .lenSl [(l 0)] L fun v1 L1=>za F .lenSl [(l 1)] L1 fun v2 L2=>za F (.bin .neq) [v1,v2] L2 fun v3 L3=>zn v3 (zl (some (.b false)) Q L3) (D_f88_5 F Q l L3)
def D_f88_1 (F:TF)(Q:TQ)(l:Env)(L:Lg):Prop :=D_f88_2 F Q (Env.put l 4 (.b false)) L
structure H_f88 (F:TF):Prop where
 code:F k_f88=some c_f88
theorem r_f88 {F:TF}(h:F k_f88=some c_f88){Q:TQ}{a0 a1:AV}{L:Lg}(e:D_f88_1 F Q (zJ [a0,a1] 0) L):zd F k_f88 [a0,a1] L Q :=
 cw h (fun l t L=>wS (fun l t L=>wS (fun l t L=>wS (fun l t L=>lf (D_f88_4 F Q L)) (wS (fun l t L=>wB (wL (fun l t L k1=>lf (D_f88_8 F Q k1 l L)) (lf (D_f88_7 F Q l L)))) (lf (D_f88_5 F Q l L)))) (lf (D_f88_2 F Q l L))) (lf (D_f88_1 F Q l L))) e
def D_f94_1 (F:TF)(Q:TQ)(x0 x1:AV)(L:Lg):Prop :=za F .box [x0] L fun v1 L1=>za F (.fad 0) [v1] L1 fun v2 L2=>za F (.ld none) [v2] L2 fun v3 L3=>za F (.fad 0) [x1] L3 fun v4 L4=>za F (.ld none) [v4] L4 fun v5 L5=>za F (.bin .neq) [v3,v5] L5 fun v6 L6=>zl (some v6) Q L6
structure H_f94 (F:TF):Prop where
 code:F k_f94=some c_f94
theorem r_f94 {F:TF}(h:F k_f94=some c_f94){Q:TQ}{a0 a1:AV}{L:Lg}(e:D_f94_1 F Q a0 a1 L):zd F k_f94 [a0,a1] L Q :=
 cw h (fun l t L=>lf (D_f94_1 F Q (l 0) (l 1) L)) e
def D_f95_1 (F:TF)(Q:TQ)(x0 x1:AV)(L:Lg):Prop :=zd F k_f58 [x0,x1] L fun v1 L1=>zd F k_f15 [v1] L1 fun v2 L2=>zl (some v2) Q L2
structure H_f95 (F:TF):Prop where
 code:F k_f95=some c_f95
 f58:H_f58 F
 f15:H_f15 F
theorem r_f95 {F:TF}(h:F k_f95=some c_f95){Q:TQ}{a0 a1:AV}{L:Lg}(e:D_f95_1 F Q a0 a1 L):zd F k_f95 [a0,a1] L Q :=
 cw h (fun l t L=>lf (D_f95_1 F Q (l 0) (l 1) L)) e
def D_f96_3 (F:TF)(Q:TQ)(L:Lg):Prop :=zl (some (.i .i64 (-1))) Q L
def D_f96_7 (F:TF)(Q:TQ)(k1:TK)(l:Env)(L:Lg):Prop :=za F (.bin .lss) [(l 8),(l 7)] L fun v1 L1=>zn v1 (za F (.iad 3) [(l 0),(l 8)] L1 fun v2 L2=>za F (.ld (some 3)) [v2] L2 fun v3 L3=>za F .callv [(l 1),v3] L3 fun v4 L4=>zn v4 (zl (some (l 8)) Q L4) (za F (.bin .add) [(l 8),(.i .i64 1)] L4 fun v5 L5=>k1 (Env.put (Env.put l 5 (l 8)) 8 v5) L5)) (D_f96_3 F Q L1)
def D_f96_6 (F:TF)(Q:TQ)(l:Env)(L:Lg):Prop :=xC (fun l t L k1=>D_f96_7 F Q k1 l L) l L
def D_f96_4 (F:TF)(Q:TQ)(l:Env)(L:Lg):Prop :=za F .lenSl [(l 0)] L fun v1 L1=>D_f96_6 F Q (Env.put (Env.put l 7 v1) 8 (.i .i64 0)) L1
def D_f96_1 (F:TF)(Q:TQ)(l:Env)(L:Lg):Prop :=D_f96_4 F Q (Env.put l 4 (.i .i64 0)) L
structure H_f96 (F:TF):Prop where
 code:F k_f96=some c_f96
theorem r_f96 {F:TF}(h:F k_f96=some c_f96){Q:TQ}{a0 a1:AV}{L:Lg}(e:D_f96_1 F Q (zJ [a0,a1] 0) L):zd F k_f96 [a0,a1] L Q :=
 cw h (fun l t L=>wS (fun l t L=>wS (fun l t L=>lf (D_f96_3 F Q L)) (wS (fun l t L=>wB (wL (fun l t L k1=>lf (D_f96_7 F Q k1 l L)) (lf (D_f96_6 F Q l L)))) (lf (D_f96_4 F Q l L)))) (lf (D_f96_1 F Q l L))) e
def D_f97_1 (F:TF)(Q:TQ)(x0 x1:AV)(L:Lg):Prop :=zd F k_f96 [x0,x1] L fun v1 L1=>za F (.bin .geq) [v1,(.i .i64 0)] L1 fun v2 L2=>zl (some v2) Q L2
structure H_f97 (F:TF):Prop where
 code:F k_f97=some c_f97
 f96:H_f96 F
theorem r_f97 {F:TF}(h:F k_f97=some c_f97){Q:TQ}{a0 a1:AV}{L:Lg}(e:D_f97_1 F Q a0 a1 L):zd F k_f97 [a0,a1] L Q :=
 cw h (fun l t L=>lf (D_f97_1 F Q (l 0) (l 1) L)) e
def D_f94 (F:TF)(Q:TQ)(x0 x1 x2:AV)(L:Lg):Prop :=za F .box [x1] L fun v1 L1=>za F (.eq false .ptr) [x0,(.p none)] L1 fun v2 L2=>zn v2 (zl (some (.i .i64 6)) Q L2) (zd F k_f56 [x0] L2 fun v3 L3=>zi F v3 true .mv [x2] L3 fun v4 L4=>za F .pick [v3,v4,(.b false)] L4 fun v5 L5=>zn v5 (zl (some (.i .i64 7)) Q L5) (za F .nilchk [x0] L5 fun v6 L6=>za F (.fad 5) [v6] L6 fun v7 L7=>za F (.ld none) [v7] L7 fun v8 L8=>zn v8 (zl (some (.i .i64 5)) Q L8) (za F (.mkfn k_f94 0) [v1] L8 fun v9 L9=>zd F k_f57 [x0,x2] L9 fun v10 L10=>zi F v10 false .mv [x0] L10 fun v11 L11=>zi F v10 false .mv [x2] L11 fun v12 L12=>zi F v10 false (.un .not) [v12] L12 fun v13 L13=>zi F v10 false (.call k_f95) [v11,v13] L13 fun v14 L14=>zi F v10 false .mv [v9] L14 fun v15 L15=>zi F v10 false (.call k_f97) [v14,v15] L15 fun v16 L16=>za F .pick [v10,(.b true),v16] L16 fun v17 L17=>zn v17 (zl (some (.i .i64 1)) Q L17) (zd F k_f58 [x0,x2] L17 fun v18 L18=>za F (.ld (some 3)) [v1] L18 fun v19 L19=>zd F k_f16 [v18,v19] L19 fun v20 L20=>(z8 (.ld (some 3)) [v1] L18 L17∧True)∧(zl (some (.i .i64 0)) Q L20)))))
structure H_f98 (F:TF):Prop where
 code:F k_f98=some c_f98
 f56:H_f56 F
 f94:H_f94 F
 f57:H_f57 F
 f95:H_f95 F
 f97:H_f97 F
 f58:H_f58 F
 f16:H_f16 F
theorem r_f98 {F:TF}(h:F k_f98=some c_f98){Q:TQ}{a0 a1 a2:AV}{L:Lg}(e:D_f94 F Q a0 a1 a2 L):zd F k_f98 [a0,a1,a2] L Q :=
 cw h (fun l t L=>lf (D_f94 F Q (l 0) (l 1) (l 2) L)) e
def D_f99_3 (F:TF)(Q:TQ)(L:Lg):Prop :=zl (some (.b false)) Q L
def D_f99_7 (F:TF)(Q:TQ)(k1:TK)(l:Env)(L:Lg):Prop :=za F .lenSl [(l 0)] L fun v1 L1=>za F (.bin .lss) [(l 5),v1] L1 fun v2 L2=>zn v2 (za F (.iad 3) [(l 0),(l 5)] L2 fun v3 L3=>za F (.fad 0) [v3] L3 fun v4 L4=>za F (.ld none) [v4] L4 fun v5 L5=>za F (.bin .neq) [v5,(l 1)] L5 fun v6 L6=>zn v6 (zl (some (.b true)) Q L6) (za F (.bin .add) [(l 5),(.i .i64 1)] L6 fun v7 L7=>k1 (Env.put l 5 v7) L7)) (D_f99_3 F Q L2)
def D_f99_6 (F:TF)(Q:TQ)(l:Env)(L:Lg):Prop :=xC (fun l t L k1=>D_f99_7 F Q k1 l L) l L
def D_f99_4 (F:TF)(Q:TQ)(l:Env)(L:Lg):Prop :=D_f99_6 F Q (Env.put l 5 (.i .i64 0)) L
def D_f99_1 (F:TF)(Q:TQ)(l:Env)(L:Lg):Prop :=D_f99_4 F Q (Env.put l 4 (.b false)) L
structure H_f99 (F:TF):Prop where
 code:F k_f99=some c_f99
theorem r_f99 {F:TF}(h:F k_f99=some c_f99){Q:TQ}{a0 a1:AV}{L:Lg}(e:D_f99_1 F Q (zJ [a0,a1] 0) L):zd F k_f99 [a0,a1] L Q :=
 cw h (fun l t L=>wS (fun l t L=>wS (fun l t L=>lf (D_f99_3 F Q L)) (wS (fun l t L=>wB (wL (fun l t L k1=>lf (D_f99_7 F Q k1 l L)) (lf (D_f99_6 F Q l L)))) (lf (D_f99_4 F Q l L)))) (lf (D_f99_1 F Q l L))) e
def D_f100_3 (F:TF)(Q:TQ)(L:Lg):Prop :=zl (some (.i .i64 0)) Q L
def D_f100_7 (F:TF)(Q:TQ)(L:Lg):Prop :=zl (some (.i .i64 6)) Q L
def D_f100_10 (F:TF)(Q:TQ)(L:Lg):Prop :=zl (some (.i .i64 7)) Q L
def D_f100_13 (F:TF)(Q:TQ)(L:Lg):Prop :=zl (some (.i .i64 5)) Q L
def D_f100_15 (F:TF)(Q:TQ)(x0 x2 x4 t41:AV)(L:Lg):Prop :=zn t41 (zl (some (.i .i64 1)) Q L) (zn x2 (za F (.bslice [.i .i64 0,.i .i64 0,.i .i64 0] 0 3 []) [] L fun v1 L1=>za F .nilchk [x0] L1 fun v2 L2=>za F (.fad 5) [v2] L2 fun v3 L3=>za F (.ld none) [v3] L3 fun v4 L4=>za F (.app 3 24) [v1,v4] L4 fun v5 L5=>za F (.ld (some 3)) [x4] L5 fun v6 L6=>za F (.bslice [.i .i64 0,.i .i64 0,.i .i64 0] 1 3 [0]) [v6] L6 fun v7 L7=>za F (.app 3 24) [v5,v7] L7 fun v8 L8=>za F .nilchk [x0] L8 fun v9 L9=>za F (.fad 5) [v9] L9 fun v10 L10=>za F (.st 1) [v10,v8] L10 fun _ L11=>(z8 (.ld (some 3)) [x4] L5 L∧True)∧(D_f100_3 F Q L11)) (za F (.bslice [.i .i64 0,.i .i64 0,.i .i64 0] 0 3 []) [] L fun v12 L12=>za F .nilchk [x0] L12 fun v13 L13=>za F (.fad 6) [v13] L13 fun v14 L14=>za F (.ld none) [v14] L14 fun v15 L15=>za F (.app 3 24) [v12,v15] L15 fun v16 L16=>za F (.ld (some 3)) [x4] L16 fun v17 L17=>za F (.bslice [.i .i64 0,.i .i64 0,.i .i64 0] 1 3 [0]) [v17] L17 fun v18 L18=>za F (.app 3 24) [v16,v18] L18 fun v19 L19=>za F .nilchk [x0] L19 fun v20 L20=>za F (.fad 6) [v20] L20 fun v21 L21=>za F (.st 1) [v21,v19] L21 fun _ L22=>(z8 (.ld (some 3)) [x4] L16 L∧True)∧(D_f100_3 F Q L22)))
def D_f100_17 (F:TF)(Q:TQ)(x0 x2 x4 t41:AV)(L:Lg):Prop :=zn t41 (D_f100_15 F Q x0 x2 x4 t41 L) (za F (.un .not) [x2] L fun v1 L1=>zi F v1 true .mv [x0] L1 fun v2 L2=>zi F v1 true .nilchk [v2] L2 fun v3 L3=>zi F v1 true (.fad 4) [v3] L3 fun v4 L4=>zi F v1 true (.ld none) [v4] L4 fun v5 L5=>zi F v1 true .lenSl [v5] L5 fun v6 L6=>zi F v1 true (.bin .gtr) [v6,(.i .i64 0)] L6 fun v7 L7=>zi F v1 true .mv [v7] L7 fun v8 L8=>zi F v8 false .mv [x0] L8 fun v9 L9=>zi F v8 false .nilchk [v9] L9 fun v10 L10=>zi F v8 false (.fad 5) [v10] L10 fun v11 L11=>zi F v8 false (.ld none) [v11] L11 fun v12 L12=>zi F v8 false (.fad 0) [x4] L12 fun v13 L13=>zi F v8 false (.ld none) [v13] L13 fun v14 L14=>zi F v8 false (.call k_f99) [v12,v14] L14 fun v15 L15=>zi F v1 true .pick [v8,(.b true),v15] L15 fun v16 L16=>za F .pick [v1,v16,(.b false)] L16 fun v17 L17=>D_f100_15 F Q x0 x2 x4 v17 L17)
def D_f100_16 (F:TF)(Q:TQ)(x0 x2 x4:AV)(L:Lg):Prop :=zi F x2 true .mv [x0] L fun v1 L1=>zi F x2 true .nilchk [v1] L1 fun v2 L2=>zi F x2 true (.fad 4) [v2] L2 fun v3 L3=>zi F x2 true (.ld none) [v3] L3 fun v4 L4=>zi F x2 true .lenSl [v4] L4 fun v5 L5=>zi F x2 true .mv [x0] L5 fun v6 L6=>zi F x2 true .nilchk [v6] L6 fun v7 L7=>zi F x2 true (.fad 0) [v7] L7 fun v8 L8=>zi F x2 true (.ld none) [v8] L8 fun v9 L9=>zi F x2 true (.bin .lss) [v5,v9] L9 fun v10 L10=>zi F x2 true .mv [v10] L10 fun v11 L11=>zi F v11 false .mv [x0] L11 fun v12 L12=>zi F v11 false .nilchk [v12] L12 fun v13 L13=>zi F v11 false (.fad 6) [v13] L13 fun v14 L14=>zi F v11 false (.ld none) [v14] L14 fun v15 L15=>zi F v11 false (.fad 0) [x4] L15 fun v16 L16=>zi F v11 false (.ld none) [v16] L16 fun v17 L17=>zi F v11 false (.call k_f99) [v15,v17] L17 fun v18 L18=>zi F x2 true .pick [v11,(.b true),v18] L18 fun v19 L19=>za F .pick [x2,v19,(.b false)] L19 fun v20 L20=>D_f100_17 F Q x0 x2 x4 v20 L20
def D_f100_12 (F:TF)(Q:TQ)(x0 x2 x4 t36:AV)(L:Lg):Prop :=zn t36 (D_f100_13 F Q L) (D_f100_16 F Q x0 x2 x4 L)
def D_f100_11 (F:TF)(Q:TQ)(x0 x2 x4:AV)(L:Lg):Prop :=za F .nilchk [x0] L fun v1 L1=>za F (.fad 3) [v1] L1 fun v2 L2=>za F (.ld none) [v2] L2 fun v3 L3=>D_f100_12 F Q x0 x2 x4 v3 L3
def D_f100_9 (F:TF)(Q:TQ)(x0 x2 x4 t22:AV)(L:Lg):Prop :=zn t22 (D_f100_10 F Q L) (D_f100_11 F Q x0 x2 x4 L)
def D_f100_8 (F:TF)(Q:TQ)(x0 x2 x4:AV)(L:Lg):Prop :=zi F x2 true .mv [x0] L fun v1 L1=>zi F x2 true .nilchk [v1] L1 fun v2 L2=>zi F x2 true (.fad 1) [v2] L2 fun v3 L3=>zi F x2 true (.ld none) [v3] L3 fun v4 L4=>zi F x2 true .mv [v4] L4 fun v5 L5=>zi F v5 false .mv [x0] L5 fun v6 L6=>zi F v5 false .nilchk [v6] L6 fun v7 L7=>zi F v5 false (.fad 2) [v7] L7 fun v8 L8=>zi F v5 false (.ld none) [v8] L8 fun v9 L9=>zi F x2 true .pick [v5,(.b true),v9] L9 fun v10 L10=>za F .pick [x2,v10,(.b false)] L10 fun v11 L11=>D_f100_9 F Q x0 x2 x4 v11 L11
def D_f100_6 (F:TF)(Q:TQ)(x0 x2 x4 t19:AV)(L:Lg):Prop :=zn t19 (D_f100_7 F Q L) (D_f100_8 F Q x0 x2 x4 L)
def D_f100_5 (F:TF)(Q:TQ)(x0 x2 x4:AV)(L:Lg):Prop :=za F (.eq false .ptr) [x0,(.p none)] L fun v1 L1=>D_f100_6 F Q x0 x2 x4 v1 L1
def D_f100_1 (F:TF)(Q:TQ)(x0 x1 x2:AV)(L:Lg):Prop :=za F .box [x1] L fun v1 L1=>D_f100_5 F Q x0 x2 v1 L1
structure H_f100 (F:TF):Prop where
 code:F k_f100=some c_f100
 f99:H_f99 F
theorem r_f100 {F:TF}(h:F k_f100=some c_f100){Q:TQ}{a0 a1 a2:AV}{L:Lg}(e:D_f100_1 F Q a0 a1 a2 L):zd F k_f100 [a0,a1,a2] L Q :=
 cw h (fun l t L=>wS (fun l t L=>wS (fun l t L=>lf (D_f100_3 F Q L)) (wB (wS (fun l t L=>wC (lf (D_f100_7 F Q L)) (wS (fun l t L=>wC (lf (D_f100_10 F Q L)) (wS (fun l t L=>wC (lf (D_f100_13 F Q L)) (wS (fun l t L=>lf (D_f100_15 F Q (l 0) (l 2) (l 4) (t 41) L)) (wS (fun l t L=>lf (D_f100_17 F Q (l 0) (l 2) (l 4) (t 41) L)) (lf (D_f100_16 F Q (l 0) (l 2) (l 4) L)))) (lf (D_f100_12 F Q (l 0) (l 2) (l 4) (t 36) L))) (lf (D_f100_11 F Q (l 0) (l 2) (l 4) L))) (lf (D_f100_9 F Q (l 0) (l 2) (l 4) (t 22) L))) (lf (D_f100_8 F Q (l 0) (l 2) (l 4) L))) (lf (D_f100_6 F Q (l 0) (l 2) (l 4) (t 19) L))) (lf (D_f100_5 F Q (l 0) (l 2) (l 4) L))))) (lf (D_f100_1 F Q (l 0) (l 1) (l 2) L))) e
def D_f117_1 (F:TF)(Q:TQ)(L:Lg):Prop :=za F (.build [.sl none 0 0 0] []) [] L fun v1 L1=>za F .box [v1] L1 fun v2 L2=>zl (some v2) Q L2
structure H_f117 (F:TF):Prop where
 code:F k_f117=some c_f117
theorem r_f117 {F:TF}(h:F k_f117=some c_f117){Q:TQ}{L:Lg}(e:D_f117_1 F Q L):zd F k_f117 [] L Q :=
 cw h (fun l t L=>lf (D_f117_1 F Q L)) e
def D_f118_1 (F:TF)(Q:TQ)(x0:AV)(L:Lg):Prop :=za F (.eq false .ptr) [x0,(.p none)] L fun v1 L1=>zn v1 (zl (some (.i .i64 0)) Q L1) (za F .nilchk [x0] L1 fun v2 L2=>za F (.fad 0) [v2] L2 fun v3 L3=>za F (.ld none) [v3] L3 fun v4 L4=>za F .lenSl [v4] L4 fun v5 L5=>zl (some v5) Q L5)
structure H_f118 (F:TF):Prop where
 code:F k_f118=some c_f118
theorem r_f118 {F:TF}(h:F k_f118=some c_f118){Q:TQ}{a0:AV}{L:Lg}(e:D_f118_1 F Q a0 L):zd F k_f118 [a0] L Q :=
 cw h (fun l t L=>lf (D_f118_1 F Q (l 0) L)) e
def D_f119_1 (F:TF)(Q:TQ)(x0 x1:AV)(L:Lg):Prop :=za F (.bin .geq) [x1,(.i .i64 0)] L fun v1 L1=>zi F v1 true .mv [x1] L1 fun v2 L2=>zi F v1 true .mv [x0] L2 fun v3 L3=>zi F v1 true (.call k_f118) [v3] L3 fun v4 L4=>zi F v1 true (.bin .lss) [v2,v4] L4 fun v5 L5=>za F .pick [v1,v5,(.b false)] L5 fun v6 L6=>zl (some v6) Q L6
structure H_f119 (F:TF):Prop where
 code:F k_f119=some c_f119
 f118:H_f118 F
theorem r_f119 {F:TF}(h:F k_f119=some c_f119){Q:TQ}{a0 a1:AV}{L:Lg}(e:D_f119_1 F Q a0 a1 L):zd F k_f119 [a0,a1] L Q :=
 cw h (fun l t L=>lf (D_f119_1 F Q (l 0) (l 1) L)) e
def D_f120_6 (F:TF)(Q:TQ)(x0 x1 x2 x8:AV)(L:Lg):Prop :=za F .nilchk [x0] L fun v1 L1=>za F (.fad 0) [v1] L1 fun v2 L2=>za F (.ld none) [v2] L2 fun v3 L3=>za F (.build [.i .i64 0,.b false,.sl none 0 0 0] [(0,1),(1,1)]) [x1,x2] L3 fun v4 L4=>za F (.bslice [.i .i64 0,.b false,.sl none 0 0 0] 1 3 [0]) [v4] L4 fun v5 L5=>za F (.app 3 40) [v3,v5] L5 fun v6 L6=>za F .nilchk [x0] L6 fun v7 L7=>za F (.fad 0) [v7] L7 fun v8 L8=>za F (.st 1) [v8,v6] L8 fun _ L9=>zl (some (.tup [x8,(.i .i64 0)])) Q L9
def D_f120_5 (F:TF)(Q:TQ)(x0 x1 x2 x8:AV)(L:Lg):Prop :=zn x2 (za F .nilchk [x0] L fun v1 L1=>za F (.fad 0) [v1] L1 fun v2 L2=>za F (.ld none) [v2] L2 fun v3 L3=>za F .nilchk [x0] L3 fun v4 L4=>za F (.fad 0) [v4] L4 fun v5 L5=>za F (.ld none) [v5] L5 fun v6 L6=>za F (.iad 3) [v6,x1] L6 fun v7 L7=>za F (.fad 2) [v7] L7 fun v8 L8=>za F (.ld none) [v8] L8 fun v9 L9=>za F (.bslice [.i .i64 0] 1 1 [0]) [x8] L9 fun v10 L10=>za F (.app 1 8) [v9,v10] L10 fun v11 L11=>za F (.iad 3) [v3,x1] L11 fun v12 L12=>za F (.fad 2) [v12] L12 fun v13 L13=>za F (.st 1) [v13,v11] L13 fun _ L14=>(z8 (.ld none) [v2] L2 L11∧True)∧(D_f120_6 F Q x0 x1 x2 x8 L14)) (D_f120_6 F Q x0 x1 x2 x8 L)
def D_f120_4 (F:TF)(Q:TQ)(x0 x1 x2 x8:AV)(L:Lg):Prop :=zi F x2 true .mv [x1] L fun v1 L1=>zi F x2 true (.bin .neq) [v1,(.i .i64 (-1))] L1 fun v2 L2=>za F .pick [x2,v2,(.b false)] L2 fun v3 L3=>D_f120_5 F Q x0 x1 v3 x8 L3
def D_f120_3 (F:TF)(Q:TQ)(x0 x1 x2:AV)(L:Lg):Prop :=za F .nilchk [x0] L fun v1 L1=>za F (.fad 0) [v1] L1 fun v2 L2=>za F (.ld none) [v2] L2 fun v3 L3=>za F .lenSl [v3] L3 fun v4 L4=>D_f120_4 F Q x0 x1 x2 v4 L4
def D_f120_2 (F:TF)(Q:TQ)(x0 x1 x2:AV)(L:Lg):Prop :=za F (.eq false .ptr) [x0,(.p none)] L fun v1 L1=>zn v1 (zn v1 (zl (some (.tup [(.i .i64 0),(.i .i64 1)])) Q L1) (za F .nilchk [x0] L1 fun v2 L2=>za F (.fad 0) [v2] L2 fun v3 L3=>za F (.ld none) [v3] L3 fun v4 L4=>za F .lenSl [v4] L4 fun v5 L5=>za F (.bin .geq) [v5,(.i .i64 1000)] L5 fun v6 L6=>zn v6 (zl (some (.tup [(.i .i64 0),(.i .i64 3)])) Q L6) (D_f120_3 F Q x0 x1 x2 L6))) (za F (.bin .neq) [x1,(.i .i64 (-1))] L1 fun v7 L7=>zi F v7 true .mv [x0] L7 fun v8 L8=>zi F v7 true .mv [x1] L8 fun v9 L9=>zi F v7 true (.call k_f119) [v8,v9] L9 fun v10 L10=>zi F v7 true (.un .not) [v10] L10 fun v11 L11=>za F .pick [v7,v11,(.b false)] L11 fun v12 L12=>zn v12 (zl (some (.tup [(.i .i64 0),(.i .i64 1)])) Q L12) (za F .nilchk [x0] L12 fun v13 L13=>za F (.fad 0) [v13] L13 fun v14 L14=>za F (.ld none) [v14] L14 fun v15 L15=>za F .lenSl [v15] L15 fun v16 L16=>za F (.bin .geq) [v16,(.i .i64 1000)] L16 fun v17 L17=>zn v17 (zl (some (.tup [(.i .i64 0),(.i .i64 3)])) Q L17) (D_f120_3 F Q x0 x1 x2 L17)))
def D_f120_1 (F:TF)(Q:TQ)(x0 x1 x2:AV)(L:Lg):Prop :=D_f120_2 F Q x0 x1 x2 L
structure H_f120 (F:TF):Prop where
 code:F k_f120=some c_f120
 f119:H_f119 F
theorem r_f120 {F:TF}(h:F k_f120=some c_f120){Q:TQ}{a0 a1 a2:AV}{L:Lg}(e:D_f120_1 F Q a0 a1 a2 L):zd F k_f120 [a0,a1,a2] L Q :=
 cw h (fun l t L=>wS (fun l t L=>wS (fun l t L=>wS (fun l t L=>wS (fun l t L=>wS (fun l t L=>lf (D_f120_6 F Q (l 0) (l 1) (l 2) (l 8) L)) (lf (D_f120_5 F Q (l 0) (l 1) (l 2) (l 8) L))) (lf (D_f120_4 F Q (l 0) (l 1) (l 2) (l 8) L))) (lf (D_f120_3 F Q (l 0) (l 1) (l 2) L))) (lf (D_f120_2 F Q (l 0) (l 1) (l 2) L))) (lf (D_f120_1 F Q (l 0) (l 1) (l 2) L))) e
def D_f121_3 (F:TF)(Q:TQ)(x0 x4:AV)(L:Lg):Prop :=za F (.fad 8) [x4] L fun v1 L1=>za F (.st 1) [v1,(.i .i64 (-1))] L1 fun _ L2=>za F .nilchk [x0] L2 fun v3 L3=>za F (.fad 4) [v3] L3 fun v4 L4=>za F (.ld none) [v4] L4 fun v5 L5=>za F (.fad 0) [x4] L5 fun v6 L6=>za F (.ld none) [v6] L6 fun v7 L7=>za F .nilchk [x0] L7 fun v8 L8=>za F (.fad 2) [v8] L8 fun v9 L9=>za F (.ld none) [v9] L9 fun v10 L10=>za F .lenSl [v10] L10 fun v11 L11=>za F .mset [v5,v7,v11] L11 fun _ L12=>za F .nilchk [x0] L12 fun v13 L13=>za F (.fad 2) [v13] L13 fun v14 L14=>za F (.ld none) [v14] L14 fun v15 L15=>za F (.ld (some 9)) [x4] L15 fun v16 L16=>za F (.bslice [.i .i64 0,.b false,.p none,.i .i64 0,.i .i64 0,.i .i64 0,.b false,.b false,.i .i64 0] 1 9 [0]) [v16] L16 fun v17 L17=>za F (.app 9 64) [v15,v17] L17 fun v18 L18=>za F .nilchk [x0] L18 fun v19 L19=>za F (.fad 2) [v19] L19 fun v20 L20=>za F (.st 1) [v20,v18] L20 fun _ L21=>za F .nilchk [x0] L21 fun v22 L22=>za F (.fad 2) [v22] L22 fun v23 L23=>za F (.ld none) [v23] L23 fun v24 L24=>za F .lenSl [v24] L24 fun v25 L25=>za F (.bin .sub) [v25,(.i .i64 1)] L25 fun v26 L26=>zl (some v26) Q L26
def D_f121_2 (F:TF)(Q:TQ)(x0 x2 x4:AV)(L:Lg):Prop :=za F .nilchk [x0] L fun v1 L1=>za F (.fad 1) [v1] L1 fun v2 L2=>za F (.ld none) [v2] L2 fun v3 L3=>za F (.fad 1) [x4] L3 fun v4 L4=>za F (.ld none) [v4] L4 fun v5 L5=>za F (.un .not) [v5] L5 fun v6 L6=>zd F k_f120 [v3,x2,v6] L6 fun v7 L7=>za F (.ext 0) [v7] L7 fun v8 L8=>za F (.ext 1) [v7] L8 fun v9 L9=>za F (.fad 0) [x4] L9 fun v10 L10=>za F (.st 1) [v10,v8] L10 fun _ L11=>D_f121_3 F Q x0 x4 L11
def D_f121_1 (F:TF)(Q:TQ)(x0 x1 x2:AV)(L:Lg):Prop :=za F .box [x1] L fun v1 L1=>D_f121_2 F Q x0 x2 v1 L1
structure H_f121 (F:TF):Prop where
 code:F k_f121=some c_f121
 f120:H_f120 F
theorem r_f121 {F:TF}(h:F k_f121=some c_f121){Q:TQ}{a0 a1 a2:AV}{L:Lg}(e:D_f121_1 F Q a0 a1 a2 L):zd F k_f121 [a0,a1,a2] L Q :=
 cw h (fun l t L=>wS (fun l t L=>wS (fun l t L=>lf (D_f121_3 F Q (l 0) (l 4) L)) (lf (D_f121_2 F Q (l 0) (l 2) (l 4) L))) (lf (D_f121_1 F Q (l 0) (l 1) (l 2) L))) e
def D_f122_1 (F:TF)(Q:TQ)(x0:AV)(L:Lg):Prop :=zd F k_f117 [] L fun v1 L1=>za F .mkmap [] L1 fun v2 L2=>za F (.build [.p none,.p none,.sl none 0 0 0,.sl none 0 0 0,.m none] [(0,1),(1,1),(4,1)]) [x0,v1,v2] L2 fun v3 L3=>za F .box [v3] L3 fun v4 L4=>za F (.build [.i .i64 0,.b false,.p none,.i .i64 0,.i .i64 0,.i .i64 0,.b false,.b false,.i .i64 0] [(1,1)]) [(.b true)] L4 fun v5 L5=>zd F k_f121 [v4,v5,(.i .i64 (-1))] L5 fun v6 L6=>zl (some v4) Q L6
structure H_f122 (F:TF):Prop where
 code:F k_f122=some c_f122
 f117:H_f117 F
 f121:H_f121 F
theorem r_f122 {F:TF}(h:F k_f122=some c_f122){Q:TQ}{a0:AV}{L:Lg}(e:D_f122_1 F Q a0 L):zd F k_f122 [a0] L Q :=
 cw h (fun l t L=>lf (D_f122_1 F Q (l 0) L)) e
def D_f123_3 (F:TF)(Q:TQ)(x0 x1 x2:AV)(L:Lg):Prop :=za F .nilchk [x0] L fun v1 L1=>za F (.fad 0) [v1] L1 fun v2 L2=>za F (.ld none) [v2] L2 fun v3 L3=>za F .lenSl [v3] L3 fun v4 L4=>za F (.bin .geq) [v4,(.i .i64 1000)] L4 fun v5 L5=>zn v5 (zl (some (.tup [(.i .i64 0),(.i .i64 3)])) Q L5) (za F .nilchk [x0] L5 fun v6 L6=>za F (.fad 0) [v6] L6 fun v7 L7=>za F (.ld none) [v7] L7 fun v8 L8=>zi F x2 true .mv [x1] L8 fun v9 L9=>zi F x2 true (.bin .geq) [v9,(.i .i64 0)] L9 fun v10 L10=>za F .pick [x2,v10,(.b false)] L10 fun v11 L11=>za F (.build [.i .i64 0,.b false] [(0,1),(1,1)]) [x1,v11] L11 fun v12 L12=>za F (.bslice [.i .i64 0,.b false] 1 2 [0]) [v12] L12 fun v13 L13=>za F (.app 2 16) [v8,v13] L13 fun v14 L14=>za F .nilchk [x0] L14 fun v15 L15=>za F (.fad 0) [v15] L15 fun v16 L16=>za F (.st 1) [v16,v14] L16 fun _ L17=>za F .nilchk [x0] L17 fun v18 L18=>za F (.fad 0) [v18] L18 fun v19 L19=>za F (.ld none) [v19] L19 fun v20 L20=>za F .lenSl [v20] L20 fun v21 L21=>za F (.bin .sub) [v21,(.i .i64 1)] L21 fun v22 L22=>zl (some (.tup [v22,(.i .i64 0)])) Q L22)
def D_f123_2 (F:TF)(Q:TQ)(x0 x1 x2:AV)(L:Lg):Prop :=za F (.bin .lss) [x1,(.i .i64 (-1))] L fun v1 L1=>zi F v1 false .mv [x1] L1 fun v2 L2=>zi F v1 false .mv [x0] L2 fun v3 L3=>zi F v1 false .nilchk [v3] L3 fun v4 L4=>zi F v1 false (.fad 0) [v4] L4 fun v5 L5=>zi F v1 false (.ld none) [v5] L5 fun v6 L6=>zi F v1 false .lenSl [v6] L6 fun v7 L7=>zi F v1 false (.bin .geq) [v2,v7] L7 fun v8 L8=>za F .pick [v1,(.b true),v8] L8 fun v9 L9=>zn v9 (zl (some (.tup [(.i .i64 0),(.i .i64 1)])) Q L9) (D_f123_3 F Q x0 x1 x2 L9)
def D_f123_1 (F:TF)(Q:TQ)(x0 x1 x2:AV)(L:Lg):Prop :=D_f123_2 F Q x0 x1 x2 L
structure H_f123 (F:TF):Prop where
 code:F k_f123=some c_f123
theorem r_f123 {F:TF}(h:F k_f123=some c_f123){Q:TQ}{a0 a1 a2:AV}{L:Lg}(e:D_f123_1 F Q a0 a1 a2 L):zd F k_f123 [a0,a1,a2] L Q :=
 cw h (fun l t L=>wS (fun l t L=>wS (fun l t L=>lf (D_f123_3 F Q (l 0) (l 1) (l 2) L)) (lf (D_f123_2 F Q (l 0) (l 1) (l 2) L))) (lf (D_f123_1 F Q (l 0) (l 1) (l 2) L))) e
def D_f124_3 (F:TF)(Q:TQ)(x0 x7 x9:AV)(L:Lg):Prop :=za F .nilchk [x0] L fun v1 L1=>za F (.fad 3) [v1] L1 fun v2 L2=>za F (.ld none) [v2] L2 fun v3 L3=>za F .lenSl [v3] L3 fun v4 L4=>za F (.fad 1) [x7] L4 fun v5 L5=>za F (.st 1) [v5,v4] L5 fun _ L6=>za F .nilchk [x0] L6 fun v7 L7=>za F (.fad 2) [v7] L7 fun v8 L8=>za F (.ld none) [v8] L8 fun v9 L9=>za F (.ld (some 12)) [x7] L9 fun v10 L10=>za F (.bslice [.b false,.i .i64 0,.i .i64 0,.b false,.b false,.i .i64 0,.i .i64 0,.i .i64 0,.b false,.b false,.i .i64 0,.p none] 1 12 [0]) [v10] L10 fun v11 L11=>za F (.app 12 80) [v9,v11] L11 fun v12 L12=>za F .nilchk [x0] L12 fun v13 L13=>za F (.fad 2) [v13] L13 fun v14 L14=>za F (.st 1) [v14,v12] L14 fun _ L15=>za F .nilchk [x0] L15 fun v16 L16=>za F (.fad 3) [v16] L16 fun v17 L17=>za F (.ld none) [v17] L17 fun v18 L18=>za F (.bslice [.i .i64 0] 1 1 [0]) [x9] L18 fun v19 L19=>za F (.app 1 8) [v18,v19] L19 fun v20 L20=>za F .nilchk [x0] L20 fun v21 L21=>za F (.fad 3) [v21] L21 fun v22 L22=>za F (.st 1) [v22,v20] L22 fun _ L23=>za F (.fad 1) [x7] L23 fun v24 L24=>za F (.ld none) [v24] L24 fun v25 L25=>zl (some v25) Q L25
def D_f124_2 (F:TF)(Q:TQ)(x0 x1 x2 x7:AV)(L:Lg):Prop :=za F .nilchk [x0] L fun v1 L1=>za F (.fad 1) [v1] L1 fun v2 L2=>zd F k_f123 [v2,x1,x2] L2 fun v3 L3=>za F (.ext 0) [v3] L3 fun v4 L4=>za F (.ext 1) [v3] L4 fun v5 L5=>D_f124_3 F Q x0 x7 v4 L5
def D_f124_1 (F:TF)(Q:TQ)(x0 x1 x2 x3:AV)(L:Lg):Prop :=za F .box [x3] L fun v1 L1=>D_f124_2 F Q x0 x1 x2 v1 L1
structure H_f124 (F:TF):Prop where
 code:F k_f124=some c_f124
 f123:H_f123 F
theorem r_f124 {F:TF}(h:F k_f124=some c_f124){Q:TQ}{a0 a1 a2 a3:AV}{L:Lg}(e:D_f124_1 F Q a0 a1 a2 a3 L):zd F k_f124 [a0,a1,a2,a3] L Q :=
 cw h (fun l t L=>wS (fun l t L=>wS (fun l t L=>lf (D_f124_3 F Q (l 0) (l 7) (l 9) L)) (lf (D_f124_2 F Q (l 0) (l 1) (l 2) (l 7) L))) (lf (D_f124_1 F Q (l 0) (l 1) (l 2) (l 3) L))) e
def D_f125_1 (F:TF)(Q:TQ)(x0:AV)(L:Lg):Prop :=za F (.build [.p none,.sl none 0 0 0,.sl none 0 0 0,.sl none 0 0 0,.sl none 0 0 0] [(0,1)]) [x0] L fun v1 L1=>za F .box [v1] L1 fun v2 L2=>za F (.build [.b false,.i .i64 0,.i .i64 0,.b false,.b false,.i .i64 0,.i .i64 0,.i .i64 0,.b false,.b false,.i .i64 0,.p none] [(4,1),(10,1)]) [(.b true),(.i .i64 (-1))] L2 fun v3 L3=>zd F k_f124 [v2,(.i .i64 (-1)),(.b false),v3] L3 fun v4 L4=>zl (some v2) Q L4
structure H_f125 (F:TF):Prop where
 code:F k_f125=some c_f125
 f124:H_f124 F
theorem r_f125 {F:TF}(h:F k_f125=some c_f125){Q:TQ}{a0:AV}{L:Lg}(e:D_f125_1 F Q a0 L):zd F k_f125 [a0] L Q :=
 cw h (fun l t L=>lf (D_f125_1 F Q (l 0) L)) e
def D_f126_1 (F:TF)(Q:TQ)(L:Lg):Prop :=zd F k_f21 [] L fun v1 L1=>za F (.build [.sl none 0 0 0,.i .i64 0,.sl none 0 0 0,.sl none 0 0 0,.i .i64 0] []) [] L1 fun v2 L2=>za F .box [v2] L2 fun v3 L3=>zd F k_f122 [v1] L3 fun v4 L4=>zd F k_f125 [v3] L4 fun v5 L5=>za F (.build [.p none,.p none,.p none,.p none,.i .i64 0] [(0,1),(1,1),(2,1),(3,1)]) [v1,v4,v3,v5] L5 fun v6 L6=>za F .box [v6] L6 fun v7 L7=>za F .nilchk [v7] L7 fun v8 L8=>za F (.fad 0) [v8] L8 fun v9 L9=>za F (.ld none) [v9] L9 fun v10 L10=>za F (.eq true .ptr) [v10,(.p none)] L10 fun v11 L11=>zi F v11 true .mv [v7] L11 fun v12 L12=>zi F v11 true .nilchk [v12] L12 fun v13 L13=>zi F v11 true (.fad 1) [v13] L13 fun v14 L14=>zi F v11 true (.ld none) [v14] L14 fun v15 L15=>zi F v11 true (.eq true .ptr) [v15,(.p none)] L15 fun v16 L16=>za F .pick [v11,v16,(.b false)] L16 fun v17 L17=>zl (some (.tup [v7,v17])) Q L17
structure H_f126 (F:TF):Prop where
 code:F k_f126=some c_f126
 f21:H_f21 F
 f122:H_f122 F
 f125:H_f125 F
theorem r_f126 {F:TF}(h:F k_f126=some c_f126){Q:TQ}{L:Lg}(e:D_f126_1 F Q L):zd F k_f126 [] L Q :=
 cw h (fun l t L=>lf (D_f126_1 F Q L)) e
def D_f127_1 (F:TF)(Q:TQ)(x0 x1:AV)(L:Lg):Prop :=za F (.eq true .ptr) [x0,(.p none)] L fun v1 L1=>zi F v1 true .mv [x1] L1 fun v2 L2=>zi F v1 true (.bin .geq) [v2,(.i .i64 0)] L2 fun v3 L3=>za F .pick [v1,v3,(.b false)] L3 fun v4 L4=>zi F v4 true .mv [x1] L4 fun v5 L5=>zi F v4 true .mv [x0] L5 fun v6 L6=>zi F v4 true .nilchk [v6] L6 fun v7 L7=>zi F v4 true (.fad 2) [v7] L7 fun v8 L8=>zi F v4 true (.ld none) [v8] L8 fun v9 L9=>zi F v4 true .lenSl [v9] L9 fun v10 L10=>zi F v4 true (.bin .lss) [v5,v10] L10 fun v11 L11=>za F .pick [v4,v11,(.b false)] L11 fun v12 L12=>zl (some v12) Q L12
structure H_f127 (F:TF):Prop where
 code:F k_f127=some c_f127
theorem r_f127 {F:TF}(h:F k_f127=some c_f127){Q:TQ}{a0 a1:AV}{L:Lg}(e:D_f127_1 F Q a0 a1 L):zd F k_f127 [a0,a1] L Q :=
 cw h (fun l t L=>lf (D_f127_1 F Q (l 0) (l 1) L)) e
def D_f128_1 (F:TF)(Q:TQ)(x0 x1:AV)(L:Lg):Prop :=zd F k_f127 [x0,x1] L fun v1 L1=>za F (.un .not) [v1] L1 fun v2 L2=>zn v2 (zl (some (.i .i64 4)) Q L2) (za F .nilchk [x0] L2 fun v3 L3=>za F (.fad 2) [v3] L3 fun v4 L4=>za F (.ld none) [v4] L4 fun v5 L5=>za F .lenSl [v5] L5 fun v6 L6=>za F (.bin .geq) [v6,(.i .i64 64)] L6 fun v7 L7=>zn v7 (zl (some (.i .i64 3)) Q L7) (zl (some (.i .i64 0)) Q L7))
structure H_f128 (F:TF):Prop where
 code:F k_f128=some c_f128
 f127:H_f127 F
theorem r_f128 {F:TF}(h:F k_f128=some c_f128){Q:TQ}{a0 a1:AV}{L:Lg}(e:D_f128_1 F Q a0 a1 L):zd F k_f128 [a0,a1] L Q :=
 cw h (fun l t L=>lf (D_f128_1 F Q (l 0) (l 1) L)) e
def D_f129_1 (F:TF)(Q:TQ)(L:Lg):Prop :=zd F k_f22 [(.i .i64 0)] L fun v1 L1=>za F (.ext 0) [v1] L1 fun v2 L2=>za F (.ext 1) [v1] L2 fun v3 L3=>za F .nilchk [v2] L3 fun v4 L4=>za F (.fad 4) [v4] L4 fun v5 L5=>za F (.st 1) [v5,(.b true)] L5 fun _ L6=>zl (some v2) Q L6
structure H_f129 (F:TF):Prop where
 code:F k_f129=some c_f129
 f22:H_f22 F
theorem r_f129 {F:TF}(h:F k_f129=some c_f129){Q:TQ}{L:Lg}(e:D_f129_1 F Q L):zd F k_f129 [] L Q :=
 cw h (fun l t L=>lf (D_f129_1 F Q L)) e
def D_f130_1 (F:TF)(Q:TQ)(x0 x1:AV)(L:Lg):Prop :=za F .box [x0] L fun v1 L1=>za F (.fad 0) [v1] L1 fun v2 L2=>za F (.ld none) [v2] L2 fun v3 L3=>za F (.fad 0) [x1] L3 fun v4 L4=>za F (.ld none) [v4] L4 fun v5 L5=>za F (.bin .eql) [v3,v5] L5 fun v6 L6=>zl (some v6) Q L6
structure H_f130 (F:TF):Prop where
 code:F k_f130=some c_f130
theorem r_f130 {F:TF}(h:F k_f130=some c_f130){Q:TQ}{a0 a1:AV}{L:Lg}(e:D_f130_1 F Q a0 a1 L):zd F k_f130 [a0,a1] L Q :=
 cw h (fun l t L=>lf (D_f130_1 F Q (l 0) (l 1) L)) e
def D_f131_3 (F:TF)(Q:TQ)(L:Lg):Prop :=zl (some (.i .i64 (-1))) Q L
def D_f131_7 (F:TF)(Q:TQ)(k1:TK)(l:Env)(L:Lg):Prop :=za F (.bin .lss) [(l 8),(l 7)] L fun v1 L1=>zn v1 (za F (.iad 5) [(l 0),(l 8)] L1 fun v2 L2=>za F (.ld (some 5)) [v2] L2 fun v3 L3=>za F .callv [(l 1),v3] L3 fun v4 L4=>zn v4 (zl (some (l 8)) Q L4) (za F (.bin .add) [(l 8),(.i .i64 1)] L4 fun v5 L5=>k1 (Env.put (Env.put l 5 (l 8)) 8 v5) L5)) (D_f131_3 F Q L1)
def D_f131_6 (F:TF)(Q:TQ)(l:Env)(L:Lg):Prop :=xC (fun l t L k1=>D_f131_7 F Q k1 l L) l L
def D_f131_4 (F:TF)(Q:TQ)(l:Env)(L:Lg):Prop :=za F .lenSl [(l 0)] L fun v1 L1=>D_f131_6 F Q (Env.put (Env.put l 7 v1) 8 (.i .i64 0)) L1
def D_f131_1 (F:TF)(Q:TQ)(l:Env)(L:Lg):Prop :=D_f131_4 F Q (Env.put l 4 (.i .i64 0)) L
structure H_f131 (F:TF):Prop where
 code:F k_f131=some c_f131
theorem r_f131 {F:TF}(h:F k_f131=some c_f131){Q:TQ}{a0 a1:AV}{L:Lg}(e:D_f131_1 F Q (zJ [a0,a1] 0) L):zd F k_f131 [a0,a1] L Q :=
 cw h (fun l t L=>wS (fun l t L=>wS (fun l t L=>lf (D_f131_3 F Q L)) (wS (fun l t L=>wB (wL (fun l t L k1=>lf (D_f131_7 F Q k1 l L)) (lf (D_f131_6 F Q l L)))) (lf (D_f131_4 F Q l L)))) (lf (D_f131_1 F Q l L))) e
def D_f132_1 (F:TF)(Q:TQ)(x0 x1:AV)(L:Lg):Prop :=zd F k_f131 [x0,x1] L fun v1 L1=>za F (.bin .geq) [v1,(.i .i64 0)] L1 fun v2 L2=>zl (some v2) Q L2
structure H_f132 (F:TF):Prop where
 code:F k_f132=some c_f132
 f131:H_f131 F
theorem r_f132 {F:TF}(h:F k_f132=some c_f132){Q:TQ}{a0 a1:AV}{L:Lg}(e:D_f132_1 F Q a0 a1 L):zd F k_f132 [a0,a1] L Q :=
 cw h (fun l t L=>lf (D_f132_1 F Q (l 0) (l 1) L)) e
def D_f133_4 (F:TF)(Q:TQ)(x2:AV)(L:Lg):Prop :=zl (some x2) Q L
def D_f1301 (F:TF)(Q:TQ)(k1:TK)(l:Env)(L:Lg):Prop :=za F (.bin .add) [(l 20),(.i .i64 1)] L fun v1 L1=>k1 (Env.put l 20 v1) L1
def D_f1307 (F:TF)(Q:TQ)(k1:TK)(k2:TK)(l:Env)(L:Lg):Prop :=zn (l 6) (za F (.mkfn k_f130 0) [(l 5)] L fun v1 L1=>zd F k_f132 [(l 2),v1] L1 fun v2 L2=>za F (.un .not) [v2] L2 fun v3 L3=>zn v3 (za F (.fad 0) [(l 5)] L3 fun v4 L4=>za F (.ld none) [v4] L4 fun v5 L5=>za F (.fad 1) [(l 5)] L5 fun v6 L6=>za F (.ld none) [v6] L6 fun v7 L7=>za F .nilchk [(l 0)] L7 fun v8 L8=>za F (.fad 2) [v8] L8 fun v9 L9=>za F (.ld none) [v9] L9 fun v10 L10=>za F (.eq false .ptr) [(l 4),v10] L10 fun v11 L11=>za F (.build [.i .i64 0,.i .i64 0,.i .i64 0,.b false,.b false] [(0,1),(1,1),(4,1)]) [v5,v7,v11] L11 fun v12 L12=>za F (.bslice [.i .i64 0,.i .i64 0,.i .i64 0,.b false,.b false] 1 5 [0]) [v12] L12 fun v13 L13=>za F (.app 5 32) [(l 2),v13] L13 fun v14 L14=>za F (.ld (some 3)) [(l 5)] L14 fun v15 L15=>za F (.alloc [.i .i64 0,.i .i64 0,.i .i64 0]) [] L15 fun v16 L16=>za F (.st 3) [v16,v15] L16 fun _ L17=>zd F k_f14 [(l 4)] L17 fun v18 L18=>za F (.ext 0) [v18] L18 fun v19 L19=>za F (.ext 1) [v18] L19 fun v20 L20=>za F (.st 3) [v16,v19] L20 fun _ L21=>k2 (Env.put (Env.put (Env.put (Env.put l 2 v14) 53 v15) 5 v16) 6 v20) L21) (za F (.ld (some 3)) [(l 5)] L3 fun v22 L22=>za F (.alloc [.i .i64 0,.i .i64 0,.i .i64 0]) [] L22 fun v23 L23=>za F (.st 3) [v23,v22] L23 fun _ L24=>zd F k_f14 [(l 4)] L24 fun v25 L25=>za F (.ext 0) [v25] L25 fun v26 L26=>za F (.ext 1) [v25] L26 fun v27 L27=>za F (.st 3) [v23,v26] L27 fun _ L28=>k2 (Env.put (Env.put (Env.put l 53 v22) 5 v23) 6 v27) L28)) (D_f1301 F Q k1 l L)
def D_f1306 (F:TF)(Q:TQ)(k1:TK)(l:Env)(L:Lg):Prop :=xC (fun l t L k2=>D_f1307 F Q k1 k2 l L) l L
def D_f1304 (F:TF)(Q:TQ)(k1:TK)(l:Env)(L:Lg):Prop :=zd F k_f14 [(l 4)] L fun v1 L1=>za F (.ext 0) [v1] L1 fun v2 L2=>za F (.ext 1) [v1] L2 fun v3 L3=>za F (.alloc [.i .i64 0,.i .i64 0,.i .i64 0]) [] L3 fun v4 L4=>za F (.st 3) [v4,v2] L4 fun _ L5=>D_f1306 F Q k1 (Env.put (Env.put l 5 v4) 6 v3) L5
def D_f1303 (F:TF)(Q:TQ)(k1:TK)(l:Env)(L:Lg):Prop :=za F (.iad 1) [(l 18),(l 20)] L fun v1 L1=>za F (.ld none) [v1] L1 fun v2 L2=>D_f1304 F Q k1 (Env.put l 4 v2) L2
def D_f133_9 (F:TF)(Q:TQ)(k1:TK)(l:Env)(t21:AV)(L:Lg):Prop :=zn t21 (D_f1303 F Q k1 l L) (D_f133_4 F Q (l 2) L)
def D_f133_8 (F:TF)(Q:TQ)(k1:TK)(l:Env)(L:Lg):Prop :=za F (.bin .lss) [(l 20),(l 19)] L fun v1 L1=>D_f133_9 F Q k1 l v1 L1
def D_f133_7 (F:TF)(Q:TQ)(l:Env)(L:Lg):Prop :=xC (fun l t L k1=>D_f133_8 F Q k1 l L) l L
def D_f133_5 (F:TF)(Q:TQ)(l:Env)(L:Lg):Prop :=za F .nilchk [(l 0)] L fun v1 L1=>za F (.fad 1) [v1] L1 fun v2 L2=>za F (.ld none) [v2] L2 fun v3 L3=>za F .nilchk [(l 0)] L3 fun v4 L4=>za F (.fad 2) [v4] L4 fun v5 L5=>za F (.ld none) [v5] L5 fun v6 L6=>za F (.bslice [.p none] 2 1 [0,1]) [v3,v6] L6 fun v7 L7=>za F .lenSl [v7] L7 fun v8 L8=>D_f133_7 F Q (Env.put (Env.put (Env.put l 18 v7) 19 v8) 20 (.i .i64 0)) L8
def D_f133_2 (F:TF)(Q:TQ)(l:Env)(L:Lg):Prop :=za F .nilchk [(l 0)] L fun v1 L1=>za F (.fad 5) [v1] L1 fun v2 L2=>za F (.st 1) [v2,(.b true)] L2 fun _ L3=>D_f133_5 F Q l L3
def D_f130 (F:TF)(Q:TQ)(l:Env)(L:Lg):Prop :=D_f133_2 F Q (Env.put l 2 (.sl none 0 0 0)) L
structure H_f133 (F:TF):Prop where
 code:F k_f133=some c_f133
 f14:H_f14 F
 f130:H_f130 F
 f132:H_f132 F
theorem r_f133 {F:TF}(h:F k_f133=some c_f133){Q:TQ}{a0:AV}{L:Lg}(e:D_f130 F Q (zJ [a0] 0) L):zd F k_f133 [a0] L Q :=
 cw h (fun l t L=>wS (fun l t L=>wS (fun l t L=>wS (fun l t L=>lf (D_f133_4 F Q (l 2) L)) (wS (fun l t L=>wB (wL (fun l t L k1=>wS (fun l t L=>wS (fun l t L=>wS (fun l t L=>lf (D_f1301 F Q k1 l L)) (wB (wS (fun l t L=>wS (fun l t L=>wB (wL (fun l t L k2=>lf (D_f1307 F Q k1 k2 l L)) (lf (D_f1306 F Q k1 l L)))) (lf (D_f1304 F Q k1 l L))) (lf (D_f1303 F Q k1 l L))))) (lf (D_f133_9 F Q k1 l (t 21) L))) (lf (D_f133_8 F Q k1 l L))) (lf (D_f133_7 F Q l L)))) (lf (D_f133_5 F Q l L)))) (lf (D_f133_2 F Q l L))) (lf (D_f130 F Q l L))) e
def D_f134_1 (F:TF)(Q:TQ)(x0:AV)(L:Lg):Prop :=za F (.eq false .ptr) [x0,(.p none)] L fun v1 L1=>zi F v1 false .mv [x0] L1 fun v2 L2=>zi F v1 false .nilchk [v2] L2 fun v3 L3=>zi F v1 false (.fad 4) [v3] L3 fun v4 L4=>zi F v1 false (.ld none) [v4] L4 fun v5 L5=>zi F v1 false (.un .not) [v5] L5 fun v6 L6=>za F .pick [v1,(.b true),v6] L6 fun v7 L7=>zi F v7 false .mv [x0] L7 fun v8 L8=>zi F v7 false .nilchk [v8] L8 fun v9 L9=>zi F v7 false (.fad 5) [v9] L9 fun v10 L10=>zi F v7 false (.ld none) [v10] L10 fun v11 L11=>za F .pick [v7,(.b true),v11] L11 fun v12 L12=>zn v12 (zl (some (.sl none 0 0 0)) Q L12) (zd F k_f133 [x0] L12 fun v13 L13=>zl (some v13) Q L13)
structure H_f134 (F:TF):Prop where
 code:F k_f134=some c_f134
 f133:H_f133 F
theorem r_f134 {F:TF}(h:F k_f134=some c_f134){Q:TQ}{a0:AV}{L:Lg}(e:D_f134_1 F Q a0 L):zd F k_f134 [a0] L Q :=
 cw h (fun l t L=>lf (D_f134_1 F Q (l 0) L)) e
def D_f135_1 (F:TF)(Q:TQ)(x0:AV)(L:Lg):Prop :=za F (.eq false .slnil) [x0,(.sl none 0 0 0)] L fun v1 L1=>zn v1 (zl (some (.sl none 0 0 0)) Q L1) (za F (.bslice [.i .i64 0] 0 1 []) [] L1 fun v2 L2=>za F (.app 1 8) [v2,x0] L2 fun v3 L3=>zl (some v3) Q L3)
structure H_f135 (F:TF):Prop where
 code:F k_f135=some c_f135
theorem r_f135 {F:TF}(h:F k_f135=some c_f135){Q:TQ}{a0:AV}{L:Lg}(e:D_f135_1 F Q a0 L):zd F k_f135 [a0] L Q :=
 cw h (fun l t L=>lf (D_f135_1 F Q (l 0) L)) e
def D_f136_1 (F:TF)(Q:TQ)(x0 x1:AV)(L:Lg):Prop :=zd F k_f119 [x0,x1] L fun v1 L1=>za F (.un .not) [v1] L1 fun v2 L2=>zn v2 (zl (some (.sl none 0 0 0)) Q L2) (za F .nilchk [x0] L2 fun v3 L3=>za F (.fad 0) [v3] L3 fun v4 L4=>za F (.ld none) [v4] L4 fun v5 L5=>za F (.iad 3) [v5,x1] L5 fun v6 L6=>za F (.fad 2) [v6] L6 fun v7 L7=>za F (.ld none) [v7] L7 fun v8 L8=>zd F k_f135 [v8] L8 fun v9 L9=>zl (some v9) Q L9)
structure H_f136 (F:TF):Prop where
 code:F k_f136=some c_f136
 f119:H_f119 F
 f135:H_f135 F
theorem r_f136 {F:TF}(h:F k_f136=some c_f136){Q:TQ}{a0 a1:AV}{L:Lg}(e:D_f136_1 F Q a0 a1 L):zd F k_f136 [a0,a1] L Q :=
 cw h (fun l t L=>lf (D_f136_1 F Q (l 0) (l 1) L)) e
def D_f137_3 (F:TF)(Q:TQ)(L:Lg):Prop :=zl (some (.i .i64 (-1))) Q L
def D_f137_7 (F:TF)(Q:TQ)(k1:TK)(l:Env)(L:Lg):Prop :=za F (.bin .lss) [(l 8),(l 7)] L fun v1 L1=>zn v1 (za F (.iad 1) [(l 0),(l 8)] L1 fun v2 L2=>za F (.ld none) [v2] L2 fun v3 L3=>za F (.bin .eql) [(l 1),v3] L3 fun v4 L4=>zn v4 (zl (some (l 8)) Q L4) (za F (.bin .add) [(l 8),(.i .i64 1)] L4 fun v5 L5=>k1 (Env.put (Env.put l 5 (l 8)) 8 v5) L5)) (D_f137_3 F Q L1)
def D_f137_6 (F:TF)(Q:TQ)(l:Env)(L:Lg):Prop :=xC (fun l t L k1=>D_f137_7 F Q k1 l L) l L
def D_f137_4 (F:TF)(Q:TQ)(l:Env)(L:Lg):Prop :=za F .lenSl [(l 0)] L fun v1 L1=>D_f137_6 F Q (Env.put (Env.put l 7 v1) 8 (.i .i64 0)) L1
def D_f137_1 (F:TF)(Q:TQ)(l:Env)(L:Lg):Prop :=D_f137_4 F Q (Env.put l 4 (.i .i64 0)) L
structure H_f137 (F:TF):Prop where
 code:F k_f137=some c_f137
theorem r_f137 {F:TF}(h:F k_f137=some c_f137){Q:TQ}{a0 a1:AV}{L:Lg}(e:D_f137_1 F Q (zJ [a0,a1] 0) L):zd F k_f137 [a0,a1] L Q :=
 cw h (fun l t L=>wS (fun l t L=>wS (fun l t L=>lf (D_f137_3 F Q L)) (wS (fun l t L=>wB (wL (fun l t L k1=>lf (D_f137_7 F Q k1 l L)) (lf (D_f137_6 F Q l L)))) (lf (D_f137_4 F Q l L)))) (lf (D_f137_1 F Q l L))) e
def D_f138_1 (F:TF)(Q:TQ)(x0 x1 x2:AV)(L:Lg):Prop :=za F .lenSl [x0] L fun v1 L1=>za F (.slc 1 true true true) [x0,x1,x2,v1] L1 fun v2 L2=>za F (.bin .eql) [x1,x2] L2 fun v3 L3=>zn v3 (zl (some x0) Q L3) (za F .lenSl [x0] L3 fun v4 L4=>za F (.slc 1 false true false) [x0,x1] L4 fun v5 L5=>za F (.slc 1 true false false) [x0,x2] L5 fun v6 L6=>za F (.app 1 8) [v5,v6] L6 fun v7 L7=>za F .lenSl [v7] L7 fun v8 L8=>za F (.slc 1 true true false) [v7,v8,v4] L8 fun v9 L9=>za F (.clr [.i .i64 0]) [v9] L9 fun _ L10=>zl (some v7) Q L10)
structure H_f138 (F:TF):Prop where
 code:F k_f138=some c_f138
theorem r_f138 {F:TF}(h:F k_f138=some c_f138){Q:TQ}{a0 a1 a2:AV}{L:Lg}(e:D_f138_1 F Q a0 a1 a2 L):zd F k_f138 [a0,a1,a2] L Q :=
 cw h (fun l t L=>lf (D_f138_1 F Q (l 0) (l 1) (l 2) L)) e
def D_f139_4 (F:TF)(Q:TQ)(x0 x1:AV)(L:Lg):Prop :=za F .nilchk [x0] L fun v1 L1=>za F (.fad 0) [v1] L1 fun v2 L2=>za F (.ld none) [v2] L2 fun v3 L3=>za F .nilchk [x0] L3 fun v4 L4=>za F (.fad 0) [v4] L4 fun v5 L5=>za F (.ld none) [v5] L5 fun v6 L6=>za F (.iad 3) [v6,x1] L6 fun v7 L7=>za F (.fad 0) [v7] L7 fun v8 L8=>za F (.ld none) [v8] L8 fun v9 L9=>za F (.iad 3) [v3,v9] L9 fun v10 L10=>za F .nilchk [v10] L10 fun v11 L11=>za F (.fad 2) [v11] L11 fun v12 L12=>za F (.ld none) [v12] L12 fun v13 L13=>zd F k_f137 [v13,x1] L13 fun v14 L14=>za F .nilchk [v10] L14 fun v15 L15=>za F (.fad 2) [v15] L15 fun v16 L16=>za F (.ld none) [v16] L16 fun v17 L17=>za F (.bin .add) [v14,(.i .i64 1)] L17 fun v18 L18=>zd F k_f138 [v17,v14,v18] L18 fun v19 L19=>za F .nilchk [v10] L19 fun v20 L20=>za F (.fad 2) [v20] L20 fun v21 L21=>za F (.st 1) [v21,v19] L21 fun _ L22=>zl (some (.b true)) Q L22
def D_f139_3 (F:TF)(Q:TQ)(x0 x1:AV)(L:Lg):Prop :=za F .nilchk [x0] L fun v1 L1=>za F (.fad 0) [v1] L1 fun v2 L2=>za F (.ld none) [v2] L2 fun v3 L3=>za F (.iad 3) [v3,x1] L3 fun v4 L4=>za F (.fad 1) [v4] L4 fun v5 L5=>za F (.st 1) [v5,(.b false)] L5 fun _ L6=>D_f139_4 F Q x0 x1 L6
def D_f139_2 (F:TF)(Q:TQ)(x0 x1:AV)(L:Lg):Prop :=zd F k_f119 [x0,x1] L fun v1 L1=>za F (.un .not) [v1] L1 fun v2 L2=>zi F v2 false .mv [x0] L2 fun v3 L3=>zi F v2 false .nilchk [v3] L3 fun v4 L4=>zi F v2 false (.fad 0) [v4] L4 fun v5 L5=>zi F v2 false (.ld none) [v5] L5 fun v6 L6=>zi F v2 false .mv [x1] L6 fun v7 L7=>zi F v2 false (.iad 3) [v6,v7] L7 fun v8 L8=>zi F v2 false (.fad 1) [v8] L8 fun v9 L9=>zi F v2 false (.ld none) [v9] L9 fun v10 L10=>zi F v2 false (.un .not) [v10] L10 fun v11 L11=>za F .pick [v2,(.b true),v11] L11 fun v12 L12=>zn v12 (zl (some (.b false)) Q L12) (D_f139_3 F Q x0 x1 L12)
def D_f139_1 (F:TF)(Q:TQ)(x0 x1:AV)(L:Lg):Prop :=D_f139_2 F Q x0 x1 L
structure H_f139 (F:TF):Prop where
 code:F k_f139=some c_f139
 f119:H_f119 F
 f137:H_f137 F
 f138:H_f138 F
theorem r_f139 {F:TF}(h:F k_f139=some c_f139){Q:TQ}{a0 a1:AV}{L:Lg}(e:D_f139_1 F Q a0 a1 L):zd F k_f139 [a0,a1] L Q :=
 cw h (fun l t L=>wS (fun l t L=>wS (fun l t L=>wS (fun l t L=>lf (D_f139_4 F Q (l 0) (l 1) L)) (lf (D_f139_3 F Q (l 0) (l 1) L))) (lf (D_f139_2 F Q (l 0) (l 1) L))) (lf (D_f139_1 F Q (l 0) (l 1) L))) e
def D_f140_1 (F:TF)(Q:TQ)(x0 x1:AV)(L:Lg):Prop :=za F (.alloc [.i .i64 0,.i .i64 0]) [] L fun v1 L1=>za F .nilchk [x0] L1 fun v2 L2=>za F (.fad 3) [v2] L2 fun v3 L3=>za F (.ld none) [v3] L3 fun v4 L4=>za F (.iad 3) [v4,x1] L4 fun v5 L5=>za F .nilchk [v5] L5 fun v6 L6=>za F (.fad 2) [v6] L6 fun v7 L7=>za F (.st 1) [v7,(.b true)] L7 fun _ L8=>za F .nilchk [x0] L8 fun v9 L9=>za F (.fad 1) [v9] L9 fun v10 L10=>za F (.ld none) [v10] L10 fun v11 L11=>za F .nilchk [v5] L11 fun v12 L12=>za F (.fad 0) [v12] L12 fun v13 L13=>za F (.ld none) [v13] L13 fun v14 L14=>zd F k_f139 [v11,v14] L14 fun v15 L15=>za F .nilchk [v5] L15 fun v16 L16=>za F (.fad 1) [v16] L16 fun v17 L17=>za F (.ld none) [v17] L17 fun v18 L18=>za F (.build [.i .i64 0,.i .i64 0] [(0,1),(1,1)]) [x1,v18] L18 fun v19 L19=>za F (.st 2) [v1,v19] L19 fun _ L20=>zl (yz Env.nil Env.nil L20 [.cell (.c v1) (some 2)]) Q L20
structure H_f140 (F:TF):Prop where
 code:F k_f140=some c_f140
 f139:H_f139 F
theorem r_f140 {F:TF}(h:F k_f140=some c_f140){Q:TQ}{a0 a1:AV}{L:Lg}(e:D_f140_1 F Q a0 a1 L):zd F k_f140 [a0,a1] L Q :=
 cw h (fun l t L=>lf (D_f140_1 F Q (l 0) (l 1) L)) e
def D_f141_8 (F:TF)(Q:TQ)(x0 x8 x9 x10:AV)(L:Lg):Prop :=za F .nilchk [x0] L fun v1 L1=>za F (.fad 1) [v1] L1 fun v2 L2=>za F (.ld none) [v2] L2 fun v3 L3=>za F .nilchk [x10] L3 fun v4 L4=>za F (.fad 0) [v4] L4 fun v5 L5=>za F (.ld none) [v5] L5 fun v6 L6=>zd F k_f139 [v3,v6] L6 fun v7 L7=>zl (some (.tup [x8,x9])) Q L7
def D_f141_15 (F:TF)(Q:TQ)(k1:TK)(l:Env)(L:Lg):Prop :=za F (.bin .add) [(l 70),(.i .i64 1)] L fun v1 L1=>k1 (Env.put l 70 v1) L1
def D_f141_14 (F:TF)(Q:TQ)(k1:TK)(l:Env)(L:Lg):Prop :=za F (.iad 1) [(l 68),(l 70)] L fun v1 L1=>za F (.ld none) [v1] L1 fun v2 L2=>za F .nilchk [(l 0)] L2 fun v3 L3=>za F (.fad 4) [v3] L3 fun v4 L4=>za F (.ld none) [v4] L4 fun v5 L5=>za F (.lkup (.i .i64 0) false) [v5,v2] L5 fun v6 L6=>za F (.bin .lss) [v6,(.i .i64 0)] L6 fun v7 L7=>zn v7 (za F (.un .neg) [v6] L7 fun v8 L8=>za F (.bin .sub) [v8,(.i .i64 1)] L8 fun v9 L9=>zd F k_f140 [(l 0),v9] L9 fun v10 L10=>za F (.bslice [.i .i64 0,.i .i64 0] 1 2 [0]) [v10] L10 fun v11 L11=>za F (.app 2 16) [(l 9),v11] L11 fun v12 L12=>D_f141_15 F Q k1 (Env.put (Env.put (Env.put l 12 v2) 13 v6) 9 v12) L12) (zd F k_f141 [(l 0),v6,(l 2),(l 3)] L7 fun v13 L13=>za F (.ext 0) [v13] L13 fun v14 L14=>za F (.ext 1) [v13] L14 fun v15 L15=>za F (.app 4 48) [(l 8),v14] L15 fun v16 L16=>za F (.app 2 16) [(l 9),v15] L16 fun v17 L17=>D_f141_15 F Q k1 (Env.put (Env.put (Env.put (Env.put (Env.put (Env.put l 12 v2) 13 v6) 14 v14) 15 v15) 8 v16) 9 v17) L17)
def D_f141_13 (F:TF)(Q:TQ)(k1:TK)(l:Env)(t71:AV)(L:Lg):Prop :=zn t71 (D_f141_14 F Q k1 l L) (D_f141_8 F Q (l 0) (l 8) (l 9) (l 10) L)
def D_f141_12 (F:TF)(Q:TQ)(k1:TK)(l:Env)(L:Lg):Prop :=za F (.bin .lss) [(l 70),(l 69)] L fun v1 L1=>D_f141_13 F Q k1 l v1 L1
def D_f141_11 (F:TF)(Q:TQ)(l:Env)(L:Lg):Prop :=xC (fun l t L k1=>D_f141_12 F Q k1 l L) l L
def D_f141_9 (F:TF)(Q:TQ)(l:Env)(L:Lg):Prop :=za F .nilchk [(l 0)] L fun v1 L1=>za F (.fad 1) [v1] L1 fun v2 L2=>za F (.ld none) [v2] L2 fun v3 L3=>za F .nilchk [(l 10)] L3 fun v4 L4=>za F (.fad 0) [v4] L4 fun v5 L5=>za F (.ld none) [v5] L5 fun v6 L6=>zd F k_f136 [v3,v6] L6 fun v7 L7=>za F .lenSl [v7] L7 fun v8 L8=>D_f141_11 F Q (Env.put (Env.put (Env.put l 68 v7) 69 v8) 70 (.i .i64 0)) L8
def D_f141_6 (F:TF)(Q:TQ)(l:Env)(L:Lg):Prop :=za F .nilchk [(l 0)] L fun v1 L1=>za F (.fad 0) [v1] L1 fun v2 L2=>za F (.ld none) [v2] L2 fun v3 L3=>za F .nilchk [(l 10)] L3 fun v4 L4=>za F (.fad 8) [v4] L4 fun v5 L5=>za F (.ld none) [v5] L5 fun v6 L6=>zd F k_f51 [v3,v6] L6 fun v7 L7=>D_f141_9 F Q l L7
def D_f141_5 (F:TF)(Q:TQ)(l:Env)(L:Lg):Prop :=za F .nilchk [(l 10)] L fun v1 L1=>za F (.fad 2) [v1] L1 fun v2 L2=>za F (.ld none) [v2] L2 fun v3 L3=>zd F k_f134 [v3] L3 fun v4 L4=>za F (.build [.i .i64 0,.i .i64 0,.i .i64 0,.sl none 0 0 0] [(0,1),(1,1),(2,1),(3,1)]) [(l 1),(l 2),(l 3),v4] L4 fun v5 L5=>za F (.bslice [.i .i64 0,.i .i64 0,.i .i64 0,.sl none 0 0 0] 1 4 [0]) [v5] L5 fun v6 L6=>D_f141_6 F Q (Env.put l 8 v6) L6
def D_f141_4 (F:TF)(Q:TQ)(l:Env)(L:Lg):Prop :=za F .nilchk [(l 10)] L fun v1 L1=>za F (.fad 3) [v1] L1 fun v2 L2=>za F (.st 1) [v2,(l 2)] L2 fun _ L3=>za F .nilchk [(l 10)] L3 fun v4 L4=>za F (.fad 4) [v4] L4 fun v5 L5=>za F (.st 1) [v5,(l 3)] L5 fun _ L6=>D_f141_5 F Q l L6
def D_f141_3 (F:TF)(Q:TQ)(l:Env)(L:Lg):Prop :=za F .nilchk [(l 10)] L fun v1 L1=>za F (.fad 1) [v1] L1 fun v2 L2=>za F (.ld none) [v2] L2 fun v3 L3=>zi F v3 false .mv [(l 10)] L3 fun v4 L4=>zi F v3 false .nilchk [v4] L4 fun v5 L5=>zi F v3 false (.fad 3) [v5] L5 fun v6 L6=>zi F v3 false (.ld none) [v6] L6 fun v7 L7=>zi F v3 false (.bin .neq) [v7,(.i .i64 0)] L7 fun v8 L8=>za F .pick [v3,(.b true),v8] L8 fun v9 L9=>zn v9 (zl (some (.tup [(.sl none 0 0 0),(.sl none 0 0 0)])) Q L9) (D_f141_4 F Q l L9)
def D_f141_2 (F:TF)(Q:TQ)(l:Env)(L:Lg):Prop :=za F .nilchk [(l 0)] L fun v1 L1=>za F (.fad 2) [v1] L1 fun v2 L2=>za F (.ld none) [v2] L2 fun v3 L3=>za F (.iad 9) [v3,(l 1)] L3 fun v4 L4=>D_f141_3 F Q (Env.put l 10 v4) L4
def D_f141_1 (F:TF)(Q:TQ)(l:Env)(L:Lg):Prop :=D_f141_2 F Q (Env.put (Env.put l 8 (.sl none 0 0 0)) 9 (.sl none 0 0 0)) L
structure H_f141 (F:TF):Prop where
 code:F k_f141=some c_f141
 f134:H_f134 F
 f51:H_f51 F
 f136:H_f136 F
 f140:H_f140 F
 f139:H_f139 F
theorem r_f141 {F:TF}(h:F k_f141=some c_f141){Q:TQ}{a0 a1 a2 a3:AV}{L:Lg}(e:D_f141_1 F Q (zJ [a0,a1,a2,a3] 0) L):zd F k_f141 [a0,a1,a2,a3] L Q :=
 cw h (fun l t L=>wS (fun l t L=>wS (fun l t L=>wS (fun l t L=>wS (fun l t L=>wS (fun l t L=>wS (fun l t L=>wS (fun l t L=>lf (D_f141_8 F Q (l 0) (l 8) (l 9) (l 10) L)) (wS (fun l t L=>wB (wL (fun l t L k1=>wS (fun l t L=>wS (fun l t L=>wS (fun l t L=>lf (D_f141_15 F Q k1 l L)) (lf (D_f141_14 F Q k1 l L))) (lf (D_f141_13 F Q k1 l (t 71) L))) (lf (D_f141_12 F Q k1 l L))) (lf (D_f141_11 F Q l L)))) (lf (D_f141_9 F Q l L)))) (lf (D_f141_6 F Q l L))) (lf (D_f141_5 F Q l L))) (lf (D_f141_4 F Q l L))) (lf (D_f141_3 F Q l L))) (lf (D_f141_2 F Q l L))) (lf (D_f141_1 F Q l L))) e
def D_f142_1 (F:TF)(Q:TQ)(x0 x1 x2:AV)(L:Lg):Prop :=za F .nilchk [x0] L fun v1 L1=>za F (.fad 2) [v1] L1 fun v2 L2=>za F (.ld none) [v2] L2 fun v3 L3=>za F (.iad 9) [v3,x2] L3 fun v4 L4=>za F (.ld (some 9)) [v4] L4 fun v5 L5=>za F (.alloc [.i .i64 0,.b false,.p none,.i .i64 0,.i .i64 0,.i .i64 0,.b false,.b false,.i .i64 0]) [] L5 fun v6 L6=>za F (.st 9) [v6,v5] L6 fun _ L7=>za F (.fad 3) [v6] L7 fun v8 L8=>za F (.ld none) [v8] L8 fun v9 L9=>za F (.bin .eql) [v9,(.i .i64 0)] L9 fun v10 L10=>zn v10 (zl (some (.sl none 0 0 0)) Q L10) (za F (.fad 3) [v6] L10 fun v11 L11=>za F (.ld none) [v11] L11 fun v12 L12=>za F (.fad 4) [v6] L12 fun v13 L13=>za F (.ld none) [v13] L13 fun v14 L14=>zd F k_f141 [x0,x1,v12,v14] L14 fun v15 L15=>za F (.ext 0) [v15] L15 fun v16 L16=>za F (.ext 1) [v15] L16 fun v17 L17=>zl (some v16) Q L17)
structure H_f142 (F:TF):Prop where
 code:F k_f142=some c_f142
 f141:H_f141 F
theorem r_f142 {F:TF}(h:F k_f142=some c_f142){Q:TQ}{a0 a1 a2:AV}{L:Lg}(e:D_f142_1 F Q a0 a1 a2 L):zd F k_f142 [a0,a1,a2] L Q :=
 cw h (fun l t L=>lf (D_f142_1 F Q (l 0) (l 1) (l 2) L)) e
def D_f143_2 (F:TF)(Q:TQ)(x0 x1:AV)(L:Lg):Prop :=zd F k_f128 [x0,x1] L fun v1 L1=>za F (.bin .neq) [v1,(.i .i64 0)] L1 fun v2 L2=>zn v2 (zl (some (.tup [(.i .i64 0),(.sl none 0 0 0),v1])) Q L2) (za F .nilchk [x0] L2 fun v3 L3=>za F (.fad 2) [v3] L3 fun v4 L4=>za F (.ld none) [v4] L4 fun v5 L5=>za F (.iad 9) [v5,x1] L5 fun v6 L6=>za F (.ld (some 9)) [v6] L6 fun v7 L7=>za F (.alloc [.i .i64 0,.b false,.p none,.i .i64 0,.i .i64 0,.i .i64 0,.b false,.b false,.i .i64 0]) [] L7 fun v8 L8=>za F (.st 9) [v8,v7] L8 fun _ L9=>zd F k_f129 [] L9 fun v10 L10=>za F (.fad 5) [v8] L10 fun v11 L11=>za F (.ld none) [v11] L11 fun v12 L12=>za F (.fad 6) [v8] L12 fun v13 L13=>za F (.ld none) [v13] L13 fun v14 L14=>za F (.build [.i .i64 0,.b false,.p none,.i .i64 0,.i .i64 0,.i .i64 0,.b false,.b false,.i .i64 0] [(2,1),(5,1),(6,1)]) [v10,v12,v14] L14 fun v15 L15=>za F (.fad 0) [v8] L15 fun v16 L16=>za F (.ld none) [v16] L16 fun v17 L17=>zd F k_f121 [x0,v15,v17] L17 fun v18 L18=>(z8 (.ld none) [v11] L11 L9∧z8 (.ld none) [v13] L13 L9∧z8 (.ld none) [v16] L16 L9∧True)∧(zd F k_f142 [x0,v18,x1] L18 fun v19 L19=>zl (some (.tup [v18,v19,(.i .i64 0)])) Q L19))
def D_f143_1 (F:TF)(Q:TQ)(x0 x1:AV)(L:Lg):Prop :=D_f143_2 F Q x0 x1 L
structure H_f143 (F:TF):Prop where
 code:F k_f143=some c_f143
 f128:H_f128 F
 f129:H_f129 F
 f121:H_f121 F
 f142:H_f142 F
theorem r_f143 {F:TF}(h:F k_f143=some c_f143){Q:TQ}{a0 a1:AV}{L:Lg}(e:D_f143_1 F Q a0 a1 L):zd F k_f143 [a0,a1] L Q :=
 cw h (fun l t L=>wS (fun l t L=>lf (D_f143_2 F Q (l 0) (l 1) L)) (lf (D_f143_1 F Q (l 0) (l 1) L))) e
def D_f144_8 (F:TF)(Q:TQ)(x0 x2 x13:AV)(L:Lg):Prop :=za F .nilchk [x0] L fun v1 L1=>za F (.fad 0) [v1] L1 fun v2 L2=>za F (.ld none) [v2] L2 fun v3 L3=>zd F k_f55 [v3,x2,x13] L3 fun v4 L4=>za F (.ext 0) [v4] L4 fun v5 L5=>za F (.ext 1) [v4] L5 fun v6 L6=>za F (.bin .eql) [v6,(.i .i64 0)] L6 fun v7 L7=>zn v7 (za F .nilchk [x0] L7 fun v8 L8=>za F (.fad 2) [v8] L8 fun v9 L9=>za F (.ld none) [v9] L9 fun v10 L10=>za F (.iad 9) [v10,x13] L10 fun v11 L11=>za F (.fad 8) [v11] L11 fun v12 L12=>za F (.st 1) [v12,v5] L12 fun _ L13=>zl (some (.tup [x13,(.sl none 0 0 0),(.i .i64 0)])) Q L13) (zl (some (.tup [x13,(.sl none 0 0 0),(.i .i64 0)])) Q L7)
end
end
end Go.AM
