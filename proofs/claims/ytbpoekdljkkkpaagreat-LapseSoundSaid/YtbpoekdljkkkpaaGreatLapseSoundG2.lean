/- The texts Print0 of a proof of LapseSound, merged. -/
import Derived.Test.YtbpoekdljkkkpaaGreatLapseSoundG1
import Derived.Test.YtbpoekdljkkkpaaGreatChecked
import Derived.KernelRfl
set_option linter.unusedVariables false
set_option maxRecDepth 100000
namespace Go.AM
section
open Go.Proofs
noncomputable section
variable {F:TF} {Q:TQ} {L:Lg} {a0 a1 a2 a3 a4 a5 a6 a7 a8:AV}
def N (k:Nat):Nat:=k
noncomputable def aO:Nat→Option aT:=zhx Tryz.prog [(3,114685),(4,1839),(5,31),(6,5),(7,1729382256910270459),(8,3527),(9,2035),(10,115),(11,115),(12,1011),(13,1991),(14,839),(15,1),(16,13),(17,13),(18,1011),(19,51),(20,130831),(21,32527),(22,115),(23,51),(24,1991),(25,51),(26,3015),(27,11207),(28,243),(29,243),(30,115),(31,1011),(32,1011),(33,499),(34,499),(35,51),(36,51),(37,215),(38,87),(39,5),(40,51),(41,51),(42,115),(43,23),(44,31),(45,199),(46,19),(47,19),(48,19),(49,87),(50,3),(51,455),(52,19),(53,2066035336255469844239),(54,1),(55,1),(56,911),(57,127039),(58,51),(59,19),(60,199),(61,5),(62,455),(63,455),(64,51),(65,199),(66,115),(67,19),(68,5),(69,7667),(70,51),(71,1011),(72,243),(73,5),(74,15),(75,19),(76,19),(77,19),(78,19),(79,59),(80,51),(81,61),(82,5),(83,115),(84,19),(85,1),(86,5),(87,243),(88,115),(89,5),(90,815),(91,271),(92,19),(93,435),(94,199),(95,61),(96,61),(97,199),(98,271),(99,115),(100,19),(101,51),(102,211),(103,455),(104,115),(105,5),(106,5),(107,435),(108,13),(109,13),(110,1),(111,9007199256576117),(112,19),(113,83),(114,5),(115,5),(116,61),(117,19),(118,5),(119,5),(120,271),(121,71),(122,5),(123,13),(124,2035),(125,327),(126,13),(127,243),(128,19),(129,15),(130,13),(131,51),(132,5),(133,243),(134,39),(135,19),(136,243),(137,115),(138,5),(139,51),(140,435),(141,31),(142,3),(143,493),(144,115),(145,5)]
def oM:Nat:=3
def Bp:Nat:=4
def jM:Nat:=5
def fk:Nat:=6
def jz:Nat:=7
def jL:Nat:=8
def jH:Nat:=9
def gM:Nat:=10
def gL:Nat:=11
def eM:Nat:=12
def gU:Nat:=13
def AT:Nat:=15
def jX:Nat:=16
def jW:Nat:=17
def dX:Nat:=18
def dW:Nat:=19
def gY:Nat:=20
def jE:Nat:=21
def gX:Nat:=22
def jD:Nat:=23
def jC:Nat:=24
def eK:Nat:=25
def gW:Nat:=26
def jB:Nat:=27
def gR:Nat:=28
def jA:Nat:=29
def AD:Nat:=30
def iL:Nat:=31
def gB:Nat:=32
def fm:Nat:=33
def gO:Nat:=34
def gQ:Nat:=35
def gN:Nat:=36
def ox:Nat:=37
def ic:Nat:=38
def jN:Nat:=39
def gT:Nat:=40
def gS:Nat:=41
def gV:Nat:=42
def jK:Nat:=43
def jJ:Nat:=44
def jI:Nat:=45
def cS:Nat:=46
def cz:Nat:=47
def fy:Nat:=48
def eO:Nat:=49
def hU:Nat:=50
def gZ:Nat:=51
def cX:Nat:=52
def dL:Nat:=53
def AU:Nat:=54
def jZ:Nat:=55
def fz:Nat:=56
def cW:Nat:=57
def Ao:Nat:=58
def Ew:Nat:=59
def oF:Nat:=60
def oD:Nat:=61
def Ax:Nat:=62
def ia:Nat:=63
def hH:Nat:=64
def hY:Nat:=65
def eN:Nat:=66
def eL:Nat:=67
def oC:Nat:=68
def oH:Nat:=69
def mM:Nat:=70
def Ar:Nat:=71
def Ap:Nat:=72
def AE:Nat:=73
def oA:Nat:=74
def oE:Nat:=75
def oy:Nat:=76
def oz:Nat:=77
def iJ:Nat:=78
def mR:Nat:=79
def ou:Nat:=80
def AS:Nat:=81
def fu:Nat:=82
def iK:Nat:=83
def jQ:Nat:=84
def AW:Nat:=85
def fl:Nat:=86
def iI:Nat:=87
def jF:Nat:=88
def FB:Nat:=89
def mN:Nat:=90
def oB:Nat:=91
def fA:Nat:=92
def jP:Nat:=93
def jO:Nat:=94
def AH:Nat:=95
def AG:Nat:=96
def HJ:Nat:=97
def mO:Nat:=98
def AF:Nat:=99
def HI:Nat:=100
def Au:Nat:=101
def mK:Nat:=102
def As:Nat:=103
def Aq:Nat:=104
def Bo:Nat:=105
def HH:Nat:=106
def An:Nat:=107
def AX:Nat:=108
def HF:Nat:=109
def oO:Nat:=110
def jS:Nat:=111
def oG:Nat:=112
def mP:Nat:=113
def mL:Nat:=114
def jR:Nat:=115
def jG:Nat:=116
def Aw:Nat:=117
def Av:Nat:=118
def AQ:Nat:=119
def AJ:Nat:=120
def Ay:Nat:=121
def jY:Nat:=122
def oI:Nat:=123
def oJ:Nat:=124
def AK:Nat:=125
def fq:Nat:=126
def Az:Nat:=127
def jT:Nat:=128
def jV:Nat:=129
def HG:Nat:=130
def gP:Nat:=131
def AI:Nat:=132
def AP:Nat:=133
def gC:Nat:=134
def iM:Nat:=135
def AL:Nat:=136
def AZ:Nat:=137
def AY:Nat:=138
def AA:Nat:=139
def jU:Nat:=140
def mQ:Nat:=141
def A0:Nat:=142
def AN:Nat:=143
def oK:Nat:=144
def oL:Nat:=145
def znt:=zG (aO FB)
def zns:=zG (aO Ew)
def znr:=zG (aO HJ)
def znq:=zG (aO HI)
def znp:=zG (aO Bo)
def zno:=zG (aO HH)
def znn:=zG (aO HG)
def znm:=zG (aO HF)
def PT:=zG (aO A0)
def PS:=zG (aO AZ)
def PR:=zG (aO AY)
def PO:=zG (aO fq)
def PL:=zG (aO AX)
def PK:=zG (aO mR)
def PJ:=zG (aO oO)
def PI:=zG (aO AW)
def PG:=zG (aO AU)
def PF:=zG (aO AT)
def PE:=zG (aO AS)
def PD:=zG (aO AQ)
def PC:=zG (aO AP)
def PB:=zG (aO gC)
def PA:=zG (aO oL)
def Pz:=zG (aO oK)
def Py:=zG (aO AN)
def Px:=zG (aO mQ)
def Pw:=zG (aO iM)
def Pv:=zG (aO AL)
def Pu:=zG (aO oJ)
def Pt:=zG (aO mP)
def Pr:=zG (aO AK)
def Pq:=zG (aO mO)
def Pp:=zG (aO AJ)
def Po:=zG (aO mN)
def Pn:=zG (aO AI)
def Pm:=zG (aO oI)
def Pk:=zG (aO AH)
def Pj:=zG (aO AG)
def Ph:=zG (aO oH)
def Pg:=zG (aO AF)
def Pf:=zG (aO mM)
def Pe:=zG (aO iL)
def Pd:=zG (aO oG)
def Pc:=zG (aO mL)
def Pb:=zG (aO iK)
def Pa:=zG (aO oF)
def O9:=zG (aO AE)
def O8:=zG (aO oE)
def O7:=zG (aO iJ)
def O6:=zG (aO oD)
def O5:=zG (aO oC)
def O4:=zG (aO AD)
def O3:=zG (aO AA)
def O2:=zG (aO Az)
def O0:=zG (aO mK)
def OZ:=zG (aO Ay)
def OY:=zG (aO oB)
def OX:=zG (aO Ax)
def OW:=zG (aO Aw)
def OV:=zG (aO Av)
def OU:=zG (aO iI)
def OT:=zG (aO Au)
def OS:=zG (aO As)
def OR:=zG (aO Ar)
def OQ:=zG (aO Aq)
def OP:=zG (aO Ap)
def OO:=zG (aO gB)
def ON:=zG (aO Ao)
def OM:=zG (aO oA)
def OL:=zG (aO oz)
def OK:=zG (aO An)
def OJ:=zG (aO oy)
def OI:=zG (aO ox)
def OH:=zG (aO ou)
def KI:=zG (aO ic)
def KH:=zG (aO jZ)
def KG:=zG (aO jY)
def KF:=zG (aO fA)
def KE:=zG (aO ia)
def KD:=zG (aO eO)
def KC:=zG (aO jX)
def KB:=zG (aO hY)
def KA:=zG (aO fz)
def Kz:=zG (aO jW)
def Ky:=zG (aO cX)
def Kx:=zG (aO fy)
def Kw:=zG (aO hU)
def Kv:=zG (aO jV)
def Ku:=zG (aO jU)
def Kt:=zG (aO jT)
def Ks:=zG (aO jS)
def Kr:=zG (aO fu)
def Kq:=zG (aO jR)
def Kp:=zG (aO jQ)
def Ko:=zG (aO jP)
def Km:=zG (aO jO)
def Kl:=zG (aO eN)
def Kk:=zG (aO hH)
def Kj:=zG (aO dL)
def Ki:=zG (aO gZ)
def Kh:=zG (aO eM)
def Kg:=zG (aO gY)
def Kf:=zG (aO gX)
def Ke:=zG (aO gW)
def Kd:=zG (aO gV)
def Kc:=zG (aO gU)
def Ka:=zG (aO gT)
def J9:=zG (aO gS)
def J8:=zG (aO gR)
def J7:=zG (aO jN)
def J6:=zG (aO gQ)
def J5:=zG (aO fm)
def J4:=zG (aO jM)
def J3:=zG (aO jL)
def J2:=zG (aO jK)
def J1:=zG (aO jJ)
def J0:=zG (aO jI)
def JZ:=zG (aO jH)
def JY:=zG (aO cS)
def JX:=zG (aO cz)
def JW:=zG (aO eL)
def JV:=zG (aO gP)
def JU:=zG (aO jG)
def JT:=zG (aO fl)
def JS:=zG (aO jF)
def JR:=zG (aO cW)
def JQ:=zG (aO dX)
def JP:=zG (aO jE)
def JO:=zG (aO jD)
def JN:=zG (aO jC)
def JM:=zG (aO jB)
def JL:=zG (aO jA)
def JK:=zG (aO gO)
def JJ:=zG (aO gN)
def JI:=zG (aO fk)
def JH:=zG (aO gM)
def JG:=zG (aO gL)
def JF:=zG (aO dW)
def JE:=zG (aO eK)
def JD:=zG (aO jz)
def JC:=zG (aO oM)
def Gx (F:TF)(Q:TQ)(x0:AV)(L:Lg):Prop :=za F .max [x0,(.i .i64 (-4611686018427387904))] L fun a L=>za F .min [a,(.i .i64 4611686018427387904)] L fun b L=>zm (some b) Q L
structure T9 (F:TF):Prop where
 code:F FB=some znt
theorem zov (h:F FB=some znt)(e:Gx F Q a0 L):zd F FB [a0] L Q :=
 cw h (fun l t L=>lf (Gx F Q (l 0) L)) e
def Gw (F:TF)(Q:TQ)(x0 x1:AV)(L:Lg):Prop :=zd F FB [x0] L fun a L=>zd F FB [x1] L fun b L=>za F (.bin .gtr) [b,(.i .i64 0)] L fun c L=>zi F c true .mv [a] L fun d L=>zi F c true .mv [b] L fun e L=>zi F c true (.bin .sub) [(.i .i64 4611686018427387904),e] L fun f L=>zi F c true (.bin .gtr) [d,f] L fun g L=>za F .pick [c,g,(.b false)] L fun h L=>zn h (zm (some (.i .i64 4611686018427387904)) Q L) (za F (.bin .lss) [b,(.i .i64 0)] L fun i L=>zi F i true .mv [a] L fun j L=>zi F i true .mv [b] L fun k L=>zi F i true (.bin .sub) [(.i .i64 (-4611686018427387904)),k] L fun m L=>zi F i true (.bin .lss) [j,m] L fun n L=>za F .pick [i,n,(.b false)] L fun o L=>zn o (zm (some (.i .i64 (-4611686018427387904))) Q L) (za F (.bin .add) [a,b] L fun p L=>zm (some p) Q L))
structure LA (F:TF):Prop where
 code:F Ew=some zns
 f1:T9 F
theorem zou (h:F Ew=some zns)(e:Gw F Q a0 a1 L):zd F Ew [a0,a1] L Q :=
 cw h (fun l t L=>lf (Gw F Q (l 0) (l 1) L)) e
def Gv (F:TF)(Q:TQ)(x0 x1 x2:AV)(L:Lg):Prop :=za F (.bin .lss) [x1,(.i .i64 1)] L fun a L=>zi F a false .mv [x0] L fun b L=>zi F a false .mv [x2] L fun c L=>zi F a false .min [b,c] L fun d L=>zi F a false (.bin .lss) [d,(.i .i64 0)] L fun e L=>za F .pick [a,(.b true),e] L fun f L=>zi F f false .mv [x0] L fun g L=>zi F f false .mv [x1] L fun h L=>zi F f false .mv [x2] L fun i L=>zi F f false .max [g,h,i] L fun j L=>zi F f false (.bin .gtr) [j,(.i .i64 4611686018427387904)] L fun k L=>za F .pick [f,(.b true),k] L fun m L=>zn m (zm (some (.ay [(.i .i64 0),(.i .i64 1)])) Q L) (za F (.bin .gtr) [x0,x2] L fun n L=>zn n (zm (some (.ay [x0,(.i .i64 0)])) Q L) (za F (.bin .sub) [x2,x0] L fun o L=>za F (.bin .rem) [o,x1] L fun p L=>za F (.bin .sub) [x1,p] L fun q L=>zd F Ew [x2,q] L fun r L=>zm (some (.ay [r,(.i .i64 0)])) Q L))
structure T8 (F:TF):Prop where
 code:F HJ=some znr
 f2:LA F
theorem zot (h:F HJ=some znr)(e:Gv F Q a0 a1 a2 L):zd F HJ [a0,a1,a2] L Q :=
 cw h (fun l t L=>lf (Gv F Q (l 0) (l 1) (l 2) L)) e
def Gs (F:TF)(Q:TQ)(x0 x1:AV)(L:Lg):Prop :=za F .aa [x0] L fun a L=>za F (.aj 0) [a] L fun b L=>za F (.ld none) [b] L fun c L=>za F .aa [x0] L fun d L=>za F (.aj 1) [d] L fun e L=>za F (.ld none) [e] L fun f L=>za F .aa [x0] L fun g L=>za F (.aj 2) [g] L fun h L=>za F (.ld none) [h] L fun i L=>za F (.bin .add) [f,i] L fun j L=>za F .aa [x0] L fun k L=>za F (.aj 0) [k] L fun m L=>za F (.ld none) [m] L fun n L=>za F .ax [n] L fun o L=>za F (.bin .rem) [j,o] L fun p L=>za F (.aX 1) [c,p] L fun q L=>za F (.st 1) [q,x1] L fun _ L=>za F .aa [x0] L fun r L=>za F (.aj 2) [r] L fun s L=>za F (.ld none) [s] L fun t L=>za F (.bin .add) [t,(.i .i64 1)] L fun u L=>za F .aa [x0] L fun v L=>za F (.aj 2) [v] L fun w L=>za F (.st 1) [w,u] L fun _ L=>zm (some (.b true)) Q L
def Gt (F:TF)(Q:TQ)(x0 x1:AV)(L:Lg):Prop :=za F (.eq false .ptr) [x0,(.p none)] L fun a L=>zi F a false .mv [x0] L fun b L=>zi F a false .aa [b] L fun c L=>zi F a false (.aj 2) [c] L fun d L=>zi F a false (.ld none) [d] L fun e L=>zi F a false .mv [x0] L fun f L=>zi F a false .aa [f] L fun g L=>zi F a false (.aj 0) [g] L fun h L=>zi F a false (.ld none) [h] L fun i L=>zi F a false .ax [i] L fun j L=>zi F a false (.bin .eql) [e,j] L fun k L=>za F .pick [a,(.b true),k] L fun m L=>zn m (zm (some (.b false)) Q L) (Gs F Q x0 x1 L)
def Gu (F:TF)(Q:TQ)(x0 x1:AV)(L:Lg):Prop :=Gt F Q x0 x1 L
structure T7 (F:TF):Prop where
 code:F HI=some znq
theorem zos (h:F HI=some znq)(e:Gu F Q a0 a1 L):zd F HI [a0,a1] L Q :=
 cw h (fun l t L=>wS (fun l t L=>wS (fun l t L=>lf (Gs F Q (l 0) (l 1) L)) (lf (Gt F Q (l 0) (l 1) L))) (lf (Gu F Q (l 0) (l 1) L))) e
def Gq (F:TF)(Q:TQ)(x0:AV)(L:Lg):Prop :=za F (.eq false .ptr) [x0,(.p none)] L fun a L=>zn a (zm (some (.i .i64 0)) Q L) (za F .aa [x0] L fun b L=>za F (.aj 2) [b] L fun c L=>za F (.ld none) [c] L fun d L=>zm (some d) Q L)
structure Li (F:TF):Prop where
 code:F Bo=some znp
theorem zor (h:F Bo=some znp)(e:Gq F Q a0 L):zd F Bo [a0] L Q :=
 cw h (fun l t L=>lf (Gq F Q (l 0) L)) e
def Gp (F:TF)(Q:TQ)(x0:AV)(L:Lg):Prop :=za F (.eq false .ptr) [x0,(.p none)] L fun a L=>zn a (zm (some (.i .i64 0)) Q L) (za F .aa [x0] L fun b L=>za F (.aj 0) [b] L fun c L=>za F (.ld none) [c] L fun d L=>za F .ax [d] L fun e L=>zm (some e) Q L)
structure T6 (F:TF):Prop where
 code:F HH=some zno
theorem zoq (h:F HH=some zno)(e:Gp F Q a0 L):zd F HH [a0] L Q :=
 cw h (fun l t L=>lf (Gp F Q (l 0) L)) e
def Gn (F:TF)(Q:TQ)(x0:AV)(L:Lg):Prop :=zd F Bo [x0] L fun a L=>za F (.bin .gtr) [a,(.i .i64 0)] L fun b L=>zn b (za F .aa [x0] L fun c L=>za F (.aj 2) [c] L fun d L=>za F (.st 1) [d,(.i .i64 0)] L fun _ L=>zm (some a) Q L) (zm (some a) Q L)
structure T5 (F:TF):Prop where
 code:F HG=some znn
 f6:Li F
theorem zop (h:F HG=some znn)(e:Gn F Q a0 L):zd F HG [a0] L Q :=
 cw h (fun l t L=>lf (Gn F Q (l 0) L)) e
def Gm (F:TF)(Q:TQ)(x0:AV)(L:Lg):Prop :=za F (.bin .lss) [x0,(.i .i64 0)] L fun a L=>zi F a false .mv [x0] L fun b L=>zi F a false (.bin .gtr) [b,(.i .i64 64)] L fun c L=>za F .pick [a,(.b true),c] L fun d L=>zn d (zm (some (.ay [(.p none),(.i .i64 1)])) Q L) (za F (.FA [.i .i64 0] 8) [x0,x0] L fun e L=>za F (.build [.sl none 0 0 0,.i .i64 0,.i .i64 0] [(0,1)]) [e] L fun f L=>za F .box [f] L fun g L=>zm (some (.ay [g,(.i .i64 0)])) Q L)
structure T4 (F:TF):Prop where
 code:F HF=some znm
theorem zoo (h:F HF=some znm)(e:Gm F Q a0 L):zd F HF [a0] L Q :=
 cw h (fun l t L=>lf (Gm F Q (l 0) L)) e
def nX (F:TF)(Q:TQ)(x0 x1:AV)(L:Lg):Prop :=za F .aa [x1] L fun a L=>za F (.aj 4) [a] L fun b L=>za F (.ld none) [b] L fun c L=>za F (.eq false .ptr) [c,(.p none)] L fun d L=>zn d (za F .aa [x1] L fun e L=>za F (.aj 3) [e] L fun f L=>za F (.ld none) [f] L fun g L=>za F .aa [x0] L fun h L=>za F (.aj 1) [h] L fun i L=>za F (.st 1) [i,g] L fun _ L=>za F .aa [x0] L fun j L=>za F (.aj 2) [j] L fun k L=>za F (.ld none) [k] L fun m L=>za F (.bin .sub) [m,(.i .i64 1)] L fun n L=>za F .aa [x0] L fun o L=>za F (.aj 2) [o] L fun p L=>za F (.st 1) [p,n] L fun _ L=>zm (some (.ay [])) Q L) (za F .aa [x1] L fun q L=>za F (.aj 4) [q] L fun r L=>za F (.ld none) [r] L fun s L=>za F .aa [x1] L fun t L=>za F (.aj 3) [t] L fun u L=>za F (.ld none) [u] L fun v L=>za F .aa [s] L fun w L=>za F (.aj 3) [w] L fun x L=>za F (.st 1) [x,v] L fun _ L=>za F .aa [x0] L fun y L=>za F (.aj 2) [y] L fun z L=>za F (.ld none) [z] L fun A L=>za F (.bin .sub) [A,(.i .i64 1)] L fun B L=>za F .aa [x0] L fun C L=>za F (.aj 2) [C] L fun D L=>za F (.st 1) [D,B] L fun _ L=>zm (some (.ay [])) Q L)
def Ej (F:TF)(Q:TQ)(x0 x1:AV)(L:Lg):Prop :=za F .aa [x1] L fun a L=>za F (.aj 3) [a] L fun b L=>za F (.ld none) [b] L fun c L=>za F (.eq false .ptr) [c,(.p none)] L fun d L=>zn d (za F .aa [x1] L fun e L=>za F (.aj 4) [e] L fun f L=>za F (.ld none) [f] L fun g L=>za F .aa [x0] L fun h L=>za F (.aj 0) [h] L fun i L=>za F (.st 1) [i,g] L fun _ L=>nX F Q x0 x1 L) (za F .aa [x1] L fun j L=>za F (.aj 3) [j] L fun k L=>za F (.ld none) [k] L fun m L=>za F .aa [x1] L fun n L=>za F (.aj 4) [n] L fun o L=>za F (.ld none) [o] L fun p L=>za F .aa [m] L fun q L=>za F (.aj 4) [q] L fun r L=>za F (.st 1) [r,p] L fun _ L=>nX F Q x0 x1 L)
structure LJ (F:TF):Prop where
 code:F A0=some PT
theorem zk2 (h:F A0=some PT)(e:Ej F Q a0 a1 L):zd F A0 [a0,a1] L Q :=
 cw h (fun l t L=>wS (fun l t L=>lf (nX F Q (l 0) (l 1) L)) (lf (Ej F Q (l 0) (l 1) L))) e
def Eg (F:TF)(Q:TQ)(x4:AV)(L:Lg):Prop :=za F (.build [.i .i64 0,.i .i64 0,.i .i64 0] []) [] L fun a L=>za F (.st 3) [x4,a] L fun _ L=>zm (yz Env.nil Env.nil L [.cell (.c x4) (some 3),.tmp (.c (.b false))]) Q L
def Ed (F:TF)(Q:TQ)(k1:TK)(l:Env)(L:Lg):Prop :=za F (.eq true .ptr) [(l 6),(.p none)] L fun a L=>zn a (za F .aa [(l 6)] L fun b L=>za F (.aj 0) [b] L fun c L=>za F (.ld (some 3)) [c] L fun d L=>za F .eX [(l 1),d] L fun e L=>zn e (zd F A0 [(l 0),(l 6)] L fun f L=>za F .aa [(l 6)] L fun g L=>za F (.aj 0) [g] L fun h L=>za F (.ld (some 3)) [h] L fun i L=>za F (.st 3) [(l 4),i] L fun _ L=>zm (yz Env.nil Env.nil L [.cell (.c (l 4)) (some 3),.tmp (.c (.b true))]) Q L) (za F .aa [(l 6)] L fun j L=>za F (.aj 4) [j] L fun k L=>za F (.ld none) [k] L fun m L=>k1 (Env.put l 6 m) L)) (Eg F Q (l 4) L)
def Ee (F:TF)(Q:TQ)(l:Env)(L:Lg):Prop :=xA (fun l t L k1=>Ed F Q k1 l L) l L
def Ef (F:TF)(Q:TQ)(l:Env)(L:Lg):Prop :=za F .aa [(l 0)] L fun a L=>za F (.aj 0) [a] L fun b L=>za F (.ld none) [b] L fun c L=>Ee F Q (Env.put l 6 c) L
def Eh (F:TF)(Q:TQ)(l:Env)(L:Lg):Prop :=za F (.eq false .ptr) [(l 0),(.p none)] L fun a L=>zn a (za F (.build [.i .i64 0,.i .i64 0,.i .i64 0] []) [] L fun b L=>za F (.st 3) [(l 4),b] L fun _ L=>zm (yz Env.nil Env.nil L [.cell (.c (l 4)) (some 3),.tmp (.c (.b false))]) Q L) (Ef F Q l L)
def Ei (F:TF)(Q:TQ)(l:Env)(L:Lg):Prop :=za F (.alloc [.i .i64 0,.i .i64 0,.i .i64 0]) [] L fun a L=>Eh F Q (Env.put (Env.put l 4 a) 5 (.b false)) L
structure LI (F:TF):Prop where
 code:F AZ=some PS
 f11:LJ F
theorem zk1 (h:F AZ=some PS)(e:Ei F Q (zI [a0,a1] 0) L):zd F AZ [a0,a1] L Q :=
 cw h (fun l t L=>wS (fun l t L=>wS (fun l t L=>wS (fun l t L=>lf (Eg F Q (l 4) L)) (wS (fun l t L=>wB (wL (fun l t L k1=>lf (Ed F Q k1 l L)) (lf (Ee F Q l L)))) (lf (Ef F Q l L)))) (lf (Eh F Q l L))) (lf (Ei F Q l L))) e
def D9 (F:TF)(Q:TQ)(x0:AV)(L:Lg):Prop :=za F .box [x0] L fun a L=>zm (some (.b true)) Q L
structure PY (F:TF):Prop where
 code:F AY=some PR
theorem zk0 (h:F AY=some PR)(e:D9 F Q a0 L):zd F AY [a0] L Q :=
 cw h (fun l t L=>lf (D9 F Q (l 0) L)) e
def LK (F:TF)(Q:TQ)(x0:AV)(L:Lg):Prop :=za F (.alloc [.i .i64 0,.i .i64 0,.i .i64 0]) [] L fun a L=>zd F AZ [x0,(.fn AY [] [])] L fun b L=>za F (.ext 0) [b] L fun c L=>za F (.ext 1) [b] L fun d L=>za F (.st 3) [a,c] L fun _ L=>zm (yz Env.nil Env.nil L [.cell (.c a) (some 3),.tmp (.c d)]) Q L
structure E9 (F:TF):Prop where
 code:F fq=some PO
 f12:LI F
 f13:PY F
theorem zkZ (h:F fq=some PO)(e:LK F Q a0 L):zd F fq [a0] L Q :=
 cw h (fun l t L=>lf (LK F Q (l 0) L)) e
def D6 (F:TF)(Q:TQ)(x2:AV)(L:Lg):Prop :=zm (some x2) Q L
def D3 (F:TF)(Q:TQ)(k1:TK)(l:Env)(L:Lg):Prop :=za F (.eq true .ptr) [(l 3),(.p none)] L fun a L=>zn a (za F .aa [(l 3)] L fun b L=>za F (.aj 0) [b] L fun c L=>za F (.ld (some 3)) [c] L fun d L=>za F (.aC [.i .i64 0,.i .i64 0,.i .i64 0] 1 3 [0]) [d] L fun e L=>za F (.app 3 24) [(l 2),e] L fun f L=>za F .aa [(l 3)] L fun g L=>za F (.aj 4) [g] L fun h L=>za F (.ld none) [h] L fun i L=>k1 (Env.put (Env.put l 2 f) 3 i) L) (D6 F Q (l 2) L)
def D4 (F:TF)(Q:TQ)(l:Env)(L:Lg):Prop :=xA (fun l t L k1=>D3 F Q k1 l L) l L
def D5 (F:TF)(Q:TQ)(l:Env)(L:Lg):Prop :=za F .aa [(l 0)] L fun a L=>za F (.aj 0) [a] L fun b L=>za F (.ld none) [b] L fun c L=>D4 F Q (Env.put l 3 c) L
def D7 (F:TF)(Q:TQ)(l:Env)(L:Lg):Prop :=za F (.eq false .ptr) [(l 0),(.p none)] L fun a L=>zn a (zm (some (.sl none 0 0 0)) Q L) (D5 F Q l L)
def D8 (F:TF)(Q:TQ)(l:Env)(L:Lg):Prop :=D7 F Q (Env.put l 2 (.sl none 0 0 0)) L
structure LG (F:TF):Prop where
 code:F AX=some PL
theorem zkY (h:F AX=some PL)(e:D8 F Q (zI [a0] 0) L):zd F AX [a0] L Q :=
 cw h (fun l t L=>wS (fun l t L=>wS (fun l t L=>wS (fun l t L=>lf (D6 F Q (l 2) L)) (wS (fun l t L=>wB (wL (fun l t L k1=>lf (D3 F Q k1 l L)) (lf (D4 F Q l L)))) (lf (D5 F Q l L)))) (lf (D7 F Q l L))) (lf (D8 F Q l L))) e
def nT (F:TF)(Q:TQ)(x0 x5:AV)(L:Lg):Prop :=za F .aa [x0] L fun a L=>za F (.aj 1) [a] L fun b L=>za F (.st 1) [b,x5] L fun _ L=>za F .aa [x0] L fun c L=>za F (.aj 2) [c] L fun d L=>za F (.ld none) [d] L fun e L=>za F (.bin .add) [e,(.i .i64 1)] L fun f L=>za F .aa [x0] L fun g L=>za F (.aj 2) [g] L fun h L=>za F (.st 1) [h,f] L fun _ L=>za F .aa [x0] L fun i L=>za F (.aj 2) [i] L fun j L=>za F (.ld none) [j] L fun k L=>zm (some k) Q L
def DZ (F:TF)(Q:TQ)(x0 x5:AV)(L:Lg):Prop :=za F .aa [x0] L fun a L=>za F (.aj 1) [a] L fun b L=>za F (.ld none) [b] L fun c L=>za F (.eq false .ptr) [c,(.p none)] L fun d L=>zn d (za F .aa [x0] L fun e L=>za F (.aj 0) [e] L fun f L=>za F (.st 1) [f,x5] L fun _ L=>nT F Q x0 x5 L) (za F .aa [x0] L fun g L=>za F (.aj 1) [g] L fun h L=>za F (.ld none) [h] L fun i L=>za F .aa [i] L fun j L=>za F (.aj 4) [j] L fun k L=>za F (.st 1) [k,x5] L fun _ L=>nT F Q x0 x5 L)
def D0 (F:TF)(Q:TQ)(x0 x3:AV)(L:Lg):Prop :=za F (.ld (some 3)) [x3] L fun a L=>za F .aa [x0] L fun b L=>za F (.aj 1) [b] L fun c L=>za F (.ld none) [c] L fun d L=>za F (.build [.i .i64 0,.i .i64 0,.i .i64 0,.p none,.p none] [(0,3),(3,1)]) [a,d] L fun e L=>za F .box [e] L fun f L=>DZ F Q x0 f L
def D1 (F:TF)(Q:TQ)(x0 x3:AV)(L:Lg):Prop :=za F (.eq false .ptr) [x0,(.p none)] L fun a L=>zn a (zm (some (.i .i64 0)) Q L) (D0 F Q x0 x3 L)
def D2 (F:TF)(Q:TQ)(x0 x1:AV)(L:Lg):Prop :=za F .box [x1] L fun a L=>D1 F Q x0 a L
structure LF (F:TF):Prop where
 code:F mR=some PK
theorem zkX (h:F mR=some PK)(e:D2 F Q a0 a1 L):zd F mR [a0,a1] L Q :=
 cw h (fun l t L=>wS (fun l t L=>wS (fun l t L=>wS (fun l t L=>wS (fun l t L=>lf (nT F Q (l 0) (l 5) L)) (lf (DZ F Q (l 0) (l 5) L))) (lf (D0 F Q (l 0) (l 3) L))) (lf (D1 F Q (l 0) (l 3) L))) (lf (D2 F Q (l 0) (l 1) L))) e
def DY (F:TF)(Q:TQ)(L:Lg):Prop :=za F (.build [.p none,.p none,.i .i64 0] []) [] L fun a L=>za F .box [a] L fun b L=>zm (some b) Q L
structure LD (F:TF):Prop where
 code:F oO=some PJ
theorem zkW (h:F oO=some PJ)(e:DY F Q L):zd F oO [] L Q :=
 cw h (fun l t L=>lf (DY F Q L)) e
def DX (F:TF)(Q:TQ)(L:Lg):Prop :=za F .iH [] L fun a L=>za F (.build [.sl none 0 0 0,.m none,.i .i64 0] [(1,1)]) [a] L fun b L=>za F .box [b] L fun c L=>zm (some c) Q L
structure LB (F:TF):Prop where
 code:F AW=some PI
theorem zkV (h:F AW=some PI)(e:DX F Q L):zd F AW [] L Q :=
 cw h (fun l t L=>lf (DX F Q L)) e
def DW (F:TF)(Q:TQ)(L:Lg):Prop :=zd F AW [] L fun a L=>za F .iH [] L fun b L=>za F (.build [.p none,.m none] [(0,1),(1,1)]) [a,b] L fun c L=>za F .box [c] L fun d L=>zm (some d) Q L
structure Lz (F:TF):Prop where
 code:F AU=some PG
 f19:LB F
theorem zkU (h:F AU=some PG)(e:DW F Q L):zd F AU [] L Q :=
 cw h (fun l t L=>lf (DW F Q L)) e
def DV (F:TF)(Q:TQ)(L:Lg):Prop :=zd F AU [] L fun a L=>za F (.build [.sl none 0 0 0,.p none,.i .i64 0] [(1,1)]) [a] L fun b L=>za F .box [b] L fun c L=>zm (some c) Q L
structure Ly (F:TF):Prop where
 code:F AT=some PF
 f20:Lz F
theorem zkT (h:F AT=some PF)(e:DV F Q L):zd F AT [] L Q :=
 cw h (fun l t L=>lf (DV F Q L)) e
def DU (F:TF)(Q:TQ)(x0:AV)(L:Lg):Prop :=zd F HF [x0] L fun a L=>za F (.ext 0) [a] L fun b L=>za F (.ext 1) [a] L fun c L=>za F (.bin .neq) [c,(.i .i64 0)] L fun d L=>zn d (zm (some (.ay [(.p none),c])) Q L) (zd F oO [] L fun e L=>zd F oO [] L fun f L=>za F (.build [.p none,.p none,.p none,.b false,.b false,.b false] [(0,1),(1,1),(2,1)]) [b,e,f] L fun g L=>za F .box [g] L fun h L=>zm (some (.ay [h,(.i .i64 0)])) Q L)
structure Lx (F:TF):Prop where
 code:F AS=some PE
 f9:T4 F
 f18:LD F
theorem zkS (h:F AS=some PE)(e:DU F Q a0 L):zd F AS [a0] L Q :=
 cw h (fun l t L=>lf (DU F Q (l 0) L)) e
def DT (F:TF)(Q:TQ)(x0:AV)(L:Lg):Prop :=za F (.bin .lss) [x0,(.i .i64 0)] L fun a L=>zi F a false .mv [x0] L fun b L=>zi F a false (.bin .gtr) [b,(.i .i64 4611686018427387904)] L fun c L=>za F .pick [a,(.b true),c] L fun d L=>zm (some d) Q L
structure Lw (F:TF):Prop where
 code:F AQ=some PD
theorem zkR (h:F AQ=some PD)(e:DT F Q a0 L):zd F AQ [a0] L Q :=
 cw h (fun l t L=>lf (DT F Q (l 0) L)) e
def DS (F:TF)(Q:TQ)(x0 x1:AV)(L:Lg):Prop :=za F (.alloc [.i .i64 0,.i .i64 0,.i .i64 0]) [] L fun a L=>za F (.eq false .ptr) [x0,(.p none)] L fun b L=>zn b (za F (.build [.i .i64 0,.i .i64 0,.i .i64 0] []) [] L fun c L=>za F (.st 3) [a,c] L fun _ L=>zm (yz Env.nil Env.nil L [.cell (.c a) (some 3),.tmp (.c (.b false))]) Q L) (za F .aa [x0] L fun d L=>za F (.aj 1) [d] L fun e L=>za F (.ld none) [e] L fun f L=>za F (.mY (.i .i64 0) true) [f,x1] L fun g L=>za F (.ext 0) [g] L fun h L=>za F (.ext 1) [g] L fun i L=>za F (.un .not) [i] L fun j L=>zn j (za F (.build [.i .i64 0,.i .i64 0,.i .i64 0] []) [] L fun k L=>za F (.st 3) [a,k] L fun _ L=>zm (yz Env.nil Env.nil L [.cell (.c a) (some 3),.tmp (.c (.b false))]) Q L) (za F .aa [x0] L fun m L=>za F (.aj 0) [m] L fun n L=>za F (.ld none) [n] L fun o L=>za F (.aX 3) [o,h] L fun p L=>za F (.ld (some 3)) [p] L fun q L=>za F (.st 3) [a,q] L fun _ L=>zm (yz Env.nil Env.nil L [.cell (.c a) (some 3),.tmp (.c (.b true))]) Q L))
structure Lv (F:TF):Prop where
 code:F AP=some PC
theorem zkQ (h:F AP=some PC)(e:DS F Q a0 a1 L):zd F AP [a0,a1] L Q :=
 cw h (fun l t L=>lf (DS F Q (l 0) (l 1) L)) e
def DR (F:TF)(Q:TQ)(x0 x1 x2:AV)(L:Lg):Prop :=za F .box [x2] L fun a L=>za F .aa [x0] L fun b L=>za F (.aj 0) [b] L fun c L=>za F (.ld none) [c] L fun d L=>za F (.ld (some 3)) [a] L fun e L=>za F (.aX 3) [d,x1] L fun f L=>za F (.st 3) [f,e] L fun _ L=>za F .aa [x0] L fun g L=>za F (.aj 1) [g] L fun h L=>za F (.ld none) [h] L fun i L=>za F (.aj 0) [a] L fun j L=>za F (.ld none) [j] L fun k L=>za F .oh [i,k,x1] L fun _ L=>zm (some (.ay [])) Q L
structure E8 (F:TF):Prop where
 code:F gC=some PB
theorem zkP (h:F gC=some PB)(e:DR F Q a0 a1 a2 L):zd F gC [a0,a1,a2] L Q :=
 cw h (fun l t L=>lf (DR F Q (l 0) (l 1) (l 2) L)) e
def DQ (F:TF)(Q:TQ)(x0:AV)(L:Lg):Prop :=za F (.bin .neq) [x0,x0] L fun a L=>zm (some a) Q L
structure PX (F:TF):Prop where
 code:F oL=some PA
theorem zkO (h:F oL=some PA)(e:DQ F Q a0 L):zd F oL [a0] L Q :=
 cw h (fun l t L=>lf (DQ F Q (l 0) L)) e
def DP (F:TF)(Q:TQ)(x0 x1:AV)(L:Lg):Prop :=zd F oL [x0] L fun a L=>zd F oL [x1] L fun b L=>zn a (zn b (zm (some (.i .i64 0)) Q L) (zm (some (.i .i64 (-1))) Q L)) (zn b (zm (some (.i .i64 1)) Q L) (za F (.bin .lss) [x0,x1] L fun c L=>zn c (zm (some (.i .i64 (-1))) Q L) (za F (.bin .gtr) [x0,x1] L fun d L=>zn d (zm (some (.i .i64 1)) Q L) (zm (some (.i .i64 0)) Q L))))
structure Lu (F:TF):Prop where
 code:F oK=some Pz
 f27:PX F
theorem zkN (h:F oK=some Pz)(e:DP F Q a0 a1 L):zd F oK [a0,a1] L Q :=
 cw h (fun l t L=>lf (DP F Q (l 0) (l 1) L)) e
def DM (F:TF)(Q:TQ)(x3:AV)(L:Lg):Prop :=zm (some x3) Q L
def DJ (F:TF)(Q:TQ)(k1:TK)(l:Env)(L:Lg):Prop :=za F (.bin .lss) [(l 8),(l 7)] L fun a L=>zn a (za F (.aX 1) [(l 6),(l 8)] L fun b L=>za F (.ld none) [b] L fun c L=>za F (.bin .neq) [c,(l 3)] L fun d L=>zn d (zm (some c) Q L) (za F (.bin .add) [(l 8),(.i .i64 1)] L fun e L=>k1 (Env.put (Env.put l 5 c) 8 e) L)) (DM F Q (l 3) L)
def DK (F:TF)(Q:TQ)(l:Env)(L:Lg):Prop :=xA (fun l t L k1=>DJ F Q k1 l L) l L
def DL (F:TF)(Q:TQ)(l:Env)(L:Lg):Prop :=za F .ax [(l 0)] L fun a L=>DK F Q (Env.put (Env.put (Env.put l 6 (l 0)) 7 a) 8 (.i .i64 0)) L
def DN (F:TF)(Q:TQ)(l:Env)(L:Lg):Prop :=DL F Q (Env.put l 3 (.i .i64 0)) L
def DO (F:TF)(Q:TQ)(l:Env)(L:Lg):Prop :=DN F Q (Env.put l 2 (.i .i64 0)) L
structure Lt (F:TF):Prop where
 code:F AN=some Py
theorem zkM (h:F AN=some Py)(e:DO F Q (zI [a0] 0) L):zd F AN [a0] L Q :=
 cw h (fun l t L=>wS (fun l t L=>wS (fun l t L=>wS (fun l t L=>lf (DM F Q (l 3) L)) (wS (fun l t L=>wB (wL (fun l t L k1=>lf (DJ F Q k1 l L)) (lf (DK F Q l L)))) (lf (DL F Q l L)))) (lf (DN F Q l L))) (lf (DO F Q l L))) e
def DI (F:TF)(Q:TQ)(x0 x1:AV)(L:Lg):Prop :=za F .box [x0] L fun a L1=>za F .box [x1] L1 fun b L2=>za F (.aj 1) [a] L2 fun c L3=>za F (.ld none) [c] L3 fun d L4=>za F (.aj 1) [b] L4 fun e L5=>za F (.ld none) [e] L5 fun f L6=>zd F oK [d,f] L6 fun g L7=>za F (.aj 2) [a] L7 fun h L8=>za F (.ld none) [h] L8 fun i L9=>za F (.aj 2) [b] L9 fun j dG=>za F (.ld none) [j] dG fun k gz=>zd F oK [i,k] gz fun m iV=>za F (.aC [.i .i64 0] 2 1 [0,1]) [g,m] iV fun n iU=>zd F AN [n] iU fun o jx=>(yb (.ld none) [h] L8 L2∧yb (.ld none) [j] dG L2∧True)∧(zm (some o) Q jx)
structure Ho (F:TF):Prop where
 code:F mQ=some Px
 f28:Lu F
 f29:Lt F
theorem zkL (h:F mQ=some Px)(e:DI F Q a0 a1 L):zd F mQ [a0,a1] L Q :=
 cw h (fun l t L=>lf (DI F Q (l 0) (l 1) L)) e
def nS (F:TF)(Q:TQ)(x0 x1 x4:AV)(L:Lg):Prop :=za F (.ld (some 3)) [x4] L fun a L=>zd F gC [x0,x1,a] L fun b L=>zm (some (.ay [])) Q L
def DF (F:TF)(Q:TQ)(k1:TK)(l:Env)(L:Lg):Prop :=za F (.bin .gtr) [(l 1),(.i .i64 0)] L fun a L=>zi F a true (.ld (some 3)) [(l 4)] L fun b L=>zi F a true .mv [(l 0)] L fun c L=>zi F a true .aa [c] L fun d L=>zi F a true (.aj 0) [d] L fun e L=>zi F a true (.ld none) [e] L fun f L=>zi F a true .mv [(l 1)] L fun g L=>zi F a true (.bin .sub) [g,(.i .i64 1)] L fun h L=>zi F a true (.bin .quo) [h,(.i .i64 4)] L fun i L=>zi F a true (.aX 3) [f,i] L fun j L=>zi F a true (.ld (some 3)) [j] L fun k L=>zi F a true (.call mQ) [b,k] L fun m L=>zi F a true (.bin .lss) [m,(.i .i64 0)] L fun n L=>za F .pick [a,n,(.b false)] L fun o L=>zn o (za F .aa [(l 0)] L fun p L=>za F (.aj 0) [p] L fun q L=>za F (.ld none) [q] L fun r L=>za F (.bin .sub) [(l 1),(.i .i64 1)] L fun s L=>za F (.bin .quo) [s,(.i .i64 4)] L fun t L=>za F (.aX 3) [r,t] L fun u L=>za F (.ld (some 3)) [u] L fun v L=>zd F gC [(l 0),(l 1),v] L fun w L=>za F (.bin .sub) [(l 1),(.i .i64 1)] L fun x L=>za F (.bin .quo) [x,(.i .i64 4)] L fun y L=>k1 (Env.put l 1 y) L) (nS F Q (l 0) (l 1) (l 4) L)
def DG (F:TF)(Q:TQ)(l:Env)(L:Lg):Prop :=xA (fun l t L k1=>DF F Q k1 l L) l L
def DH (F:TF)(Q:TQ)(l:Env)(L:Lg):Prop :=za F .aa [(l 0)] L fun a L=>za F (.aj 0) [a] L fun b L=>za F (.ld none) [b] L fun c L=>za F (.aX 3) [c,(l 1)] L fun d L=>za F (.ld (some 3)) [d] L fun e L=>za F (.alloc [.i .i64 0,.i .i64 0,.i .i64 0]) [] L fun f L=>za F (.st 3) [f,e] L fun _ L=>DG F Q (Env.put l 4 f) L
structure Hl (F:TF):Prop where
 code:F iM=some Pw
 f30:Ho F
 f26:E8 F
theorem zkK (h:F iM=some Pw)(e:DH F Q (zI [a0,a1] 0) L):zd F iM [a0,a1] L Q :=
 cw h (fun l t L=>wS (fun l t L=>wS (fun l t L=>lf (nS F Q (l 0) (l 1) (l 4) L)) (wB (wL (fun l t L k1=>lf (DF F Q k1 l L)) (lf (DG F Q l L))))) (lf (DH F Q l L))) e
def ja (F:TF)(Q:TQ)(x0 x1 x4:AV)(L:Lg):Prop :=za F (.ld (some 3)) [x4] L fun a L=>zd F gC [x0,x1,a] L fun b L=>zm (some (.ay [])) Q L
def pY (F:TF)(Q:TQ)(k1:TK)(l:Env)(L:Lg):Prop :=za F (.ld (some 3)) [(l 4)] L fun a L=>za F .aa [(l 0)] L fun b L=>za F (.aj 0) [b] L fun c L=>za F (.ld none) [c] L fun d L=>za F (.aX 3) [d,(l 6)] L fun e L=>za F (.ld (some 3)) [e] L fun f L=>zd F mQ [a,f] L fun g L=>za F (.bin .lss) [g,(.i .i64 0)] L fun h L=>zn h (ja F Q (l 0) (l 1) (l 4) L) (za F .aa [(l 0)] L fun i L=>za F (.aj 0) [i] L fun j L=>za F (.ld none) [j] L fun k L=>za F (.aX 3) [k,(l 6)] L fun m L=>za F (.ld (some 3)) [m] L fun n L=>zd F gC [(l 0),(l 1),n] L fun o L=>k1 (Env.put l 1 (l 6)) L)
def pV (F:TF)(Q:TQ)(k1:TK)(k2:TK)(l:Env)(L:Lg):Prop :=za F (.bin .add) [(l 5),(.i .i64 4)] L fun a L=>za F .aa [(l 0)] L fun b L=>za F (.aj 0) [b] L fun c L=>za F (.ld none) [c] L fun d L=>za F .ax [d] L fun e L=>za F .min [a,e] L fun f L=>za F (.bin .lss) [(l 7),f] L fun g L=>zn g (za F .aa [(l 0)] L fun h L=>za F (.aj 0) [h] L fun i L=>za F (.ld none) [i] L fun j L=>za F (.aX 3) [j,(l 7)] L fun k L=>za F (.ld (some 3)) [k] L fun m L=>za F .aa [(l 0)] L fun n L=>za F (.aj 0) [n] L fun o L=>za F (.ld none) [o] L fun p L=>za F (.aX 3) [p,(l 6)] L fun q L=>za F (.ld (some 3)) [q] L fun r L=>zd F mQ [m,r] L fun s L=>za F (.bin .lss) [s,(.i .i64 0)] L fun t L=>zn t (za F (.bin .add) [(l 7),(.i .i64 1)] L fun u L=>k2 (Env.put (Env.put l 6 (l 7)) 7 u) L) (za F (.bin .add) [(l 7),(.i .i64 1)] L fun v L=>k2 (Env.put l 7 v) L)) (pY F Q k1 l L)
def pW (F:TF)(Q:TQ)(k1:TK)(l:Env)(L:Lg):Prop :=xA (fun l t L k2=>pV F Q k1 k2 l L) l L
def pX (F:TF)(Q:TQ)(k1:TK)(l:Env)(L:Lg):Prop :=za F (.bin .add) [(l 5),(.i .i64 1)] L fun a L=>pW F Q k1 (Env.put l 7 a) L
def DA (F:TF)(Q:TQ)(k1:TK)(l:Env)(L:Lg):Prop :=pX F Q k1 (Env.put l 6 (l 5)) L
def DB (F:TF)(Q:TQ)(k1:TK)(l:Env)(L:Lg):Prop :=za F .aa [(l 0)] L fun a L=>za F (.aj 0) [a] L fun b L=>za F (.ld none) [b] L fun c L=>za F .ax [c] L fun d L=>za F (.bin .geq) [(l 5),d] L fun e L=>zn e (ja F Q (l 0) (l 1) (l 4) L) (DA F Q k1 l L)
def DC (F:TF)(Q:TQ)(k1:TK)(l:Env)(L:Lg):Prop :=za F (.bin .mul) [(.i .i64 4),(l 1)] L fun a L=>za F (.bin .add) [a,(.i .i64 1)] L fun b L=>DB F Q k1 (Env.put l 5 b) L
def DD (F:TF)(Q:TQ)(l:Env)(L:Lg):Prop :=xA (fun l t L k1=>DC F Q k1 l L) l L
def DE (F:TF)(Q:TQ)(l:Env)(L:Lg):Prop :=za F .aa [(l 0)] L fun a L=>za F (.aj 0) [a] L fun b L=>za F (.ld none) [b] L fun c L=>za F (.aX 3) [c,(l 1)] L fun d L=>za F (.ld (some 3)) [d] L fun e L=>za F (.alloc [.i .i64 0,.i .i64 0,.i .i64 0]) [] L fun f L=>za F (.st 3) [f,e] L fun _ L=>DD F Q (Env.put l 4 f) L
structure Ls (F:TF):Prop where
 code:F AL=some Pv
 f30:Ho F
 f26:E8 F
theorem zkJ (h:F AL=some Pv)(e:DE F Q (zI [a0,a1] 0) L):zd F AL [a0,a1] L Q :=
 cw h (fun l t L=>wS (fun l t L=>wS (fun l t L=>lf (ja F Q (l 0) (l 1) (l 4) L)) (wB (wL (fun l t L k1=>wB (wS (fun l t L=>wS (fun l t L=>wS (fun l t L=>wS (fun l t L=>lf (pY F Q k1 l L)) (wS (fun l t L=>wB (wL (fun l t L k2=>lf (pV F Q k1 k2 l L)) (lf (pW F Q k1 l L)))) (lf (pX F Q k1 l L)))) (lf (DA F Q k1 l L))) (lf (DB F Q k1 l L))) (lf (DC F Q k1 l L)))) (lf (DD F Q l L))))) (lf (DE F Q l L))) e
def Du (F:TF)(Q:TQ)(x0 x1 x4 x6 x8 x9 dO:AV)(L:Lg):Prop :=za F .aa [x0] L fun a L=>za F (.aj 1) [a] L fun b L=>za F (.ld none) [b] L fun c L=>za F .om [c,x1] L fun _ L=>za F (.bin .lss) [x8,x9] L fun d L=>zn d (za F (.ld (some 3)) [dO] L fun e L=>zd F gC [x0,x8,e] L fun f L=>zd F iM [x0,x8] L fun g L=>za F .aa [x0] L fun h L=>za F (.aj 1) [h] L fun i L=>za F (.ld none) [i] L fun j L=>za F (.aj 0) [dO] L fun k L=>za F (.ld none) [k] L fun m L=>za F (.mY (.i .i64 0) false) [j,m] L fun n L=>zd F AL [x0,n] L fun o L=>za F (.ld (some 3)) [x6] L fun p L=>za F (.st 3) [x4,p] L fun _ L=>zm (yz Env.nil Env.nil L [.cell (.c x4) (some 3),.tmp (.c (.b true))]) Q L) (za F (.ld (some 3)) [x6] L fun q L=>za F (.st 3) [x4,q] L fun _ L=>zm (yz Env.nil Env.nil L [.cell (.c x4) (some 3),.tmp (.c (.b true))]) Q L)
def Dv (F:TF)(Q:TQ)(x0 x1 x4 x6 x8 x9 dO:AV)(L:Lg):Prop :=za F .aa [x0] L fun a L=>za F (.aj 0) [a] L fun b L=>za F (.ld none) [b] L fun c L=>za F (.slc 3 false true false) [c,x9] L fun d L=>za F .aa [x0] L fun e L=>za F (.aj 0) [e] L fun f L=>za F (.st 1) [f,d] L fun _ L=>Du F Q x0 x1 x4 x6 x8 x9 dO L
def Dw (F:TF)(Q:TQ)(x0 x1 x4 x6 x8 x9:AV)(L:Lg):Prop :=za F .aa [x0] L fun a L=>za F (.aj 0) [a] L fun b L=>za F (.ld none) [b] L fun c L=>za F (.aX 3) [c,x9] L fun d L=>za F (.ld (some 3)) [d] L fun e L=>za F (.alloc [.i .i64 0,.i .i64 0,.i .i64 0]) [] L fun f L=>za F (.st 3) [f,e] L fun _ L=>Dv F Q x0 x1 x4 x6 x8 x9 f L
def Dx (F:TF)(Q:TQ)(x0 x1 x4 x6:AV)(L:Lg):Prop :=za F .aa [x0] L fun a L=>za F (.aj 1) [a] L fun b L=>za F (.ld none) [b] L fun c L=>za F (.mY (.i .i64 0) false) [c,x1] L fun d L=>za F .aa [x0] L fun e L=>za F (.aj 0) [e] L fun f L=>za F (.ld none) [f] L fun g L=>za F .ax [g] L fun h L=>za F (.bin .sub) [h,(.i .i64 1)] L fun i L=>Dw F Q x0 x1 x4 x6 d i L
def nQ (F:TF)(Q:TQ)(x0 x1 x4 x6 x7:AV)(L:Lg):Prop :=za F (.un .not) [x7] L fun a L=>zn a (za F (.build [.i .i64 0,.i .i64 0,.i .i64 0] []) [] L fun b L=>za F (.st 3) [x4,b] L fun _ L=>zm (yz Env.nil Env.nil L [.cell (.c x4) (some 3),.tmp (.c (.b false))]) Q L) (Dx F Q x0 x1 x4 x6 L)
def Dy (F:TF)(Q:TQ)(x0 x1 x4:AV)(L:Lg):Prop :=zd F AP [x0,x1] L fun a L=>za F (.ext 0) [a] L fun b L=>za F (.ext 1) [a] L fun c L=>za F (.alloc [.i .i64 0,.i .i64 0,.i .i64 0]) [] L fun d L=>za F (.st 3) [d,b] L fun _ L=>nQ F Q x0 x1 x4 d c L
def Dz (F:TF)(Q:TQ)(x0 x1:AV)(L:Lg):Prop :=za F (.alloc [.i .i64 0,.i .i64 0,.i .i64 0]) [] L fun a L=>Dy F Q x0 x1 a L
structure Hj (F:TF):Prop where
 code:F oJ=some Pu
 f25:Lv F
 f26:E8 F
 f31:Hl F
 f32:Ls F
theorem zkI (h:F oJ=some Pu)(e:Dz F Q a0 a1 L):zd F oJ [a0,a1] L Q :=
 cw h (fun l t L=>wS (fun l t L=>wS (fun l t L=>wS (fun l t L=>wS (fun l t L=>wS (fun l t L=>wS (fun l t L=>lf (Du F Q (l 0) (l 1) (l 4) (l 6) (l 8) (l 9) (l 10) L)) (lf (Dv F Q (l 0) (l 1) (l 4) (l 6) (l 8) (l 9) (l 10) L))) (lf (Dw F Q (l 0) (l 1) (l 4) (l 6) (l 8) (l 9) L))) (lf (Dx F Q (l 0) (l 1) (l 4) (l 6) L))) (lf (nQ F Q (l 0) (l 1) (l 4) (l 6) (l 7) L))) (lf (Dy F Q (l 0) (l 1) (l 4) L))) (lf (Dz F Q (l 0) (l 1) L))) e
def Dt (F:TF)(Q:TQ)(x0 x1:AV)(L:Lg):Prop :=za F (.eq false .ptr) [x0,(.p none)] L fun a L=>zn a (zm (some (.b false)) Q L) (za F .aa [x0] L fun b L=>za F (.aj 0) [b] L fun c L=>za F (.ld none) [c] L fun d L=>zd F oJ [d,x1] L fun e L=>za F (.ext 0) [e] L fun f L=>za F (.ext 1) [e] L fun g L=>za F (.alloc [.i .i64 0,.i .i64 0,.i .i64 0]) [] L fun h L=>za F (.st 3) [h,f] L fun _ L=>za F .aa [x0] L fun i L=>za F (.aj 1) [i] L fun j L=>za F (.ld none) [j] L fun k L=>za F .om [k,x1] L fun _ L=>zm (some g) Q L)
structure EZ (F:TF):Prop where
 code:F mP=some Pt
 f33:Hj F
theorem zkH (h:F mP=some Pt)(e:Dt F Q a0 a1 L):zd F mP [a0,a1] L Q :=
 cw h (fun l t L=>lf (Dt F Q (l 0) (l 1) L)) e
def Dp (F:TF)(Q:TQ)(x0 x1 x2:AV)(L:Lg):Prop :=za F .aa [x0] L fun a L=>za F (.aj 2) [a] L fun b L=>za F (.ld none) [b] L fun c L=>za F (.bin .add) [c,(.i .i64 1)] L fun d L=>za F .aa [x0] L fun e L=>za F (.aj 2) [e] L fun f L=>za F (.st 1) [f,d] L fun _ L=>za F .aa [x0] L fun g L=>za F (.aj 0) [g] L fun h L=>za F (.ld none) [h] L fun i L=>za F .aa [x0] L fun j L=>za F (.aj 2) [j] L fun k L=>za F (.ld none) [k] L fun m L=>za F (.build [.i .i64 0,.i .i64 0,.i .i64 0] [(0,1),(1,1),(2,1)]) [x1,x2,m] L fun n L=>za F (.aC [.i .i64 0,.i .i64 0,.i .i64 0] 1 3 [0]) [n] L fun o L=>za F (.app 3 24) [i,o] L fun p L=>za F .aa [x0] L fun q L=>za F (.aj 0) [q] L fun r L=>za F (.st 1) [r,p] L fun _ L=>za F .aa [x0] L fun s L=>za F (.aj 0) [s] L fun t L=>za F (.ld none) [t] L fun u L=>za F .ax [u] L fun v L=>za F (.bin .sub) [v,(.i .i64 1)] L fun w L=>zd F iM [x0,w] L fun x L=>zm (some (.i .i64 0)) Q L
def Dq (F:TF)(Q:TQ)(x0 x1 x2:AV)(L:Lg):Prop :=za F .aa [x0] L fun a L=>za F (.aj 1) [a] L fun b L=>za F (.ld none) [b] L fun c L=>za F (.mY (.i .i64 0) true) [c,x1] L fun d L=>za F (.ext 0) [d] L fun e L=>za F (.ext 1) [d] L fun f L=>zn f (zm (some (.i .i64 1)) Q L) (Dp F Q x0 x1 x2 L)
def Dr (F:TF)(Q:TQ)(x0 x1 x2:AV)(L:Lg):Prop :=za F (.eq false .ptr) [x0,(.p none)] L fun a L=>zn a (zm (some (.i .i64 1)) Q L) (Dq F Q x0 x1 x2 L)
def Ds (F:TF)(Q:TQ)(x0 x1 x2:AV)(L:Lg):Prop :=Dr F Q x0 x1 x2 L
structure Lr (F:TF):Prop where
 code:F AK=some Pr
 f31:Hl F
theorem zkG (h:F AK=some Pr)(e:Ds F Q a0 a1 a2 L):zd F AK [a0,a1,a2] L Q :=
 cw h (fun l t L=>wS (fun l t L=>wS (fun l t L=>wS (fun l t L=>lf (Dp F Q (l 0) (l 1) (l 2) L)) (lf (Dq F Q (l 0) (l 1) (l 2) L))) (lf (Dr F Q (l 0) (l 1) (l 2) L))) (lf (Ds F Q (l 0) (l 1) (l 2) L))) e
def Dm (F:TF)(Q:TQ)(x0 x1 x2 x3:AV)(L:Lg):Prop :=za F (.eq false .ptr) [x0,(.p none)] L fun a L=>zi F a false .mv [x2] L fun b L=>zi F a false .mv [x3] L fun c L=>zi F a false .min [b,c] L fun d L=>zi F a false (.bin .lss) [d,(.i .i64 0)] L fun e L=>za F .pick [a,(.b true),e] L fun f L=>zi F f false .mv [x2] L fun g L=>zi F f false .mv [x3] L fun h L=>zi F f false .max [g,h] L fun i L=>zi F f false (.bin .gtr) [i,(.i .i64 4611686018427387904)] L fun j L=>za F .pick [f,(.b true),j] L fun k L=>zn k (zm (some (.i .i64 1)) Q L) (zd F mP [x0,x1] L fun m L=>za F .aa [x0] L fun n L=>za F (.aj 1) [n] L fun o L=>za F (.ld none) [o] L fun p L=>za F .oh [p,x1,x3] L fun _ L=>za F .aa [x0] L fun q L=>za F (.aj 0) [q] L fun r L=>za F (.ld none) [r] L fun s L=>zd F AK [s,x1,x2] L fun t L=>zm (some t) Q L)
structure EY (F:TF):Prop where
 code:F mO=some Pq
 f34:EZ F
 f35:Lr F
theorem zkF (h:F mO=some Pq)(e:Dm F Q a0 a1 a2 a3 L):zd F mO [a0,a1,a2,a3] L Q :=
 cw h (fun l t L=>lf (Dm F Q (l 0) (l 1) (l 2) (l 3) L)) e
def iZ (F:TF)(Q:TQ)(x0 x1 x2 x3 x8:AV)(L:Lg):Prop :=za F .aa [x0] L fun a L1=>za F (.aj 1) [a] L1 fun b L2=>za F (.ld none) [b] L2 fun c L3=>za F .max [x3,(.i .i64 0)] L3 fun d L4=>zd F Ew [x2,d] L4 fun e L5=>zd F mO [c,x1,e,x8] L5 fun f L6=>(yb (.ld none) [b] L2 L5∧True)∧(za F .aa [x0] L6 fun g L7=>za F (.aj 0) [g] L7 fun h L8=>za F (.ld none) [h] L8 fun i L9=>za F (.aX 4) [i,x1] L9 fun j dG=>za F (.aj 3) [j] dG fun k gz=>za F (.ld none) [k] gz fun m iV=>za F (.bin .add) [m,(.i .i64 1)] iV fun n iU=>za F (.aX 4) [i,x1] iU fun o jx=>za F (.aj 3) [o] jx fun p A7=>za F (.st 1) [p,n] A7 fun _ Aj=>zm (some (.ay [])) Q Aj)
def Dk (F:TF)(Q:TQ)(x0 x1 x2 x3 x8:AV)(L:Lg):Prop :=za F .aa [x0] L fun a L=>za F (.aj 0) [a] L fun b L=>za F (.ld none) [b] L fun c L=>za F (.aX 4) [c,x1] L fun d L=>za F (.aj 0) [d] L fun e L=>za F (.ld none) [e] L fun f L=>za F (.bin .eql) [f,(.i .i64 2)] L fun g L=>zn g (za F .min [x3,(.i .i64 4611686018427387904)] L fun h L=>iZ F Q x0 x1 x2 x3 h L) (iZ F Q x0 x1 x2 x3 x8 L)
def Dl (F:TF)(Q:TQ)(x0 x1 x2 x3:AV)(L:Lg):Prop :=Dk F Q x0 x1 x2 x3 (.i .i64 0) L
structure Hi (F:TF):Prop where
 code:F AJ=some Pp
 f2:LA F
 f36:EY F
theorem zkE (h:F AJ=some Pp)(e:Dl F Q a0 a1 a2 a3 L):zd F AJ [a0,a1,a2,a3] L Q :=
 cw h (fun l t L=>wS (fun l t L=>wS (fun l t L=>lf (iZ F Q (l 0) (l 1) (l 2) (l 3) (l 8) L)) (lf (Dk F Q (l 0) (l 1) (l 2) (l 3) (l 8) L))) (lf (Dl F Q (l 0) (l 1) (l 2) (l 3) L))) e
def iX (F:TF)(Q:TQ)(x0 x2 x3 x5:AV)(L:Lg):Prop :=za F .aa [x0] L fun a L=>za F (.aj 0) [a] L fun b L=>za F (.ld none) [b] L fun c L=>za F (.ld (some 4)) [x5] L fun d L=>za F (.aC [.i .i64 0,.i .i64 0,.p none,.i .i64 0] 1 4 [0]) [d] L fun e L=>za F (.app 4 32) [c,e] L fun f L=>za F .aa [x0] L fun g L=>za F (.aj 0) [g] L fun h L=>za F (.st 1) [h,f] L fun _ L=>za F .aa [x0] L fun i L=>za F (.aj 0) [i] L fun j L=>za F (.ld none) [j] L fun k L=>za F .ax [k] L fun m L=>za F (.bin .sub) [m,(.i .i64 1)] L fun n L=>zd F AJ [x0,n,x2,x3] L fun o L=>za F .aa [x0] L fun p L=>za F (.aj 0) [p] L fun q L=>za F (.ld none) [q] L fun r L=>za F .ax [r] L fun s L=>za F (.bin .sub) [s,(.i .i64 1)] L fun t L=>zm (some (.ay [t,(.i .i64 0)])) Q L
def iY (F:TF)(Q:TQ)(x0 x2 x3 x5:AV)(L:Lg):Prop :=za F (.aj 0) [x5] L fun a L=>za F (.ld none) [a] L fun b L=>za F (.bin .neq) [b,(.i .i64 4)] L fun c L=>zn c (za F .aa [x0] L fun d L=>za F (.aj 2) [d] L fun e L=>za F (.ld none) [e] L fun f L=>za F (.bin .add) [f,(.i .i64 1)] L fun g L=>za F .aa [x0] L fun h L=>za F (.aj 2) [h] L fun i L=>za F (.st 1) [i,g] L fun _ L=>iX F Q x0 x2 x3 x5 L) (iX F Q x0 x2 x3 x5 L)
def nO (F:TF)(Q:TQ)(x0 x2 x3 x5:AV)(L:Lg):Prop :=zd F AQ [x2] L fun a L=>zi F a false (.aj 1) [x5] L fun b L=>zi F a false (.ld none) [b] L fun c L=>zi F a false (.bin .lss) [c,(.i .i64 0)] L fun d L=>za F .pick [a,(.b true),d] L fun e L=>zi F e false (.aj 0) [x5] L fun f L=>zi F e false (.ld none) [f] L fun g L=>zi F e false (.bin .eql) [g,(.i .i64 2)] L fun h L=>zi F e false .mv [h] L fun i L=>zi F i true .mv [x3] L fun j L=>zi F i true (.bin .lss) [j,(.i .i64 1)] L fun k L=>zi F e false .pick [i,k,(.b false)] L fun m L=>za F .pick [e,(.b true),m] L fun n L=>zn n (zm (some (.ay [(.i .i64 0),(.i .i64 1)])) Q L) (za F (.eq false .ptr) [x0,(.p none)] L fun o L=>zn o (zn o (zm (some (.ay [(.i .i64 0),(.i .i64 3)])) Q L) (iY F Q x0 x2 x3 x5 L)) (za F (.aj 0) [x5] L fun p L=>za F (.ld none) [p] L fun q L=>za F (.bin .neq) [q,(.i .i64 4)] L fun r L=>zi F r true .mv [x0] L fun s L=>zi F r true .aa [s] L fun t L=>zi F r true (.aj 2) [t] L fun u L=>zi F r true (.ld none) [u] L fun v L=>zi F r true (.bin .geq) [v,(.i .i64 64)] L fun w L=>za F .pick [r,w,(.b false)] L fun x L=>zn x (zm (some (.ay [(.i .i64 0),(.i .i64 3)])) Q L) (iY F Q x0 x2 x3 x5 L)))
def nP (F:TF)(Q:TQ)(x0 x1 x2 x3:AV)(L:Lg):Prop :=za F .box [x1] L fun a L=>nO F Q x0 x2 x3 a L
structure Hh (F:TF):Prop where
 code:F mN=some Po
 f24:Lw F
 f37:Hi F
theorem NX (h:F mN=some Po)(e:nP F Q a0 a1 a2 a3 L):zd F mN [a0,a1,a2,a3] L Q :=
 cw h (fun l t L=>wS (fun l t L=>wS (fun l t L=>wS (fun l t L=>lf (iX F Q (l 0) (l 2) (l 3) (l 5) L)) (lf (iY F Q (l 0) (l 2) (l 3) (l 5) L))) (lf (nO F Q (l 0) (l 2) (l 3) (l 5) L))) (lf (nP F Q (l 0) (l 1) (l 2) (l 3) L))) e
def Dj (F:TF)(Q:TQ)(x0:AV)(L:Lg):Prop :=za F (.eq false .ptr) [x0,(.p none)] L fun a L=>zn a (zm (some (.i .i64 0)) Q L) (za F .aa [x0] L fun b L=>za F (.aj 0) [b] L fun c L=>za F (.ld none) [c] L fun d L=>za F .ax [d] L fun e L=>zm (some e) Q L)
structure Lq (F:TF):Prop where
 code:F AI=some Pn
theorem zkD (h:F AI=some Pn)(e:Dj F Q a0 L):zd F AI [a0] L Q :=
 cw h (fun l t L=>lf (Dj F Q (l 0) L)) e
def Di (F:TF)(Q:TQ)(x0:AV)(L:Lg):Prop :=za F (.alloc [.i .i64 0,.i .i64 0,.i .i64 0]) [] L fun a L=>zd F AI [x0] L fun b L=>za F (.bin .eql) [b,(.i .i64 0)] L fun c L=>zn c (za F (.build [.i .i64 0,.i .i64 0,.i .i64 0] []) [] L fun d L=>za F (.st 3) [a,d] L fun _ L=>zm (yz Env.nil Env.nil L [.cell (.c a) (some 3),.tmp (.c (.b false))]) Q L) (za F .aa [x0] L fun e L=>za F (.aj 0) [e] L fun f L=>za F (.ld none) [f] L fun g L=>za F (.aX 3) [g,(.i .i64 0)] L fun h L=>za F (.ld (some 3)) [h] L fun i L=>za F (.st 3) [a,i] L fun _ L=>zm (yz Env.nil Env.nil L [.cell (.c a) (some 3),.tmp (.c (.b true))]) Q L)
structure Hg (F:TF):Prop where
 code:F oI=some Pm
 f41:Lq F
theorem zkC (h:F oI=some Pm)(e:Di F Q a0 L):zd F oI [a0] L Q :=
 cw h (fun l t L=>lf (Di F Q (l 0) L)) e
def Dh (F:TF)(Q:TQ)(x0:AV)(L:Lg):Prop :=za F (.eq false .ptr) [x0,(.p none)] L fun a L=>zn a (zm (some (.ay [(.i .i64 0),(.b false)])) Q L) (za F .aa [x0] L fun b L=>za F (.aj 0) [b] L fun c L=>za F (.ld none) [c] L fun d L=>zd F oI [d] L fun e L=>za F (.ext 0) [e] L fun f L=>za F (.ext 1) [e] L fun g L=>za F (.alloc [.i .i64 0,.i .i64 0,.i .i64 0]) [] L fun h L=>za F (.st 3) [h,f] L fun _ L=>za F (.aj 1) [h] L fun i L=>za F (.ld none) [i] L fun j L=>zm (some (.ay [j,g])) Q L)
structure Lp (F:TF):Prop where
 code:F AH=some Pk
 f42:Hg F
theorem zkB (h:F AH=some Pk)(e:Dh F Q a0 L):zd F AH [a0] L Q :=
 cw h (fun l t L=>lf (Dh F Q (l 0) L)) e
def Dg (F:TF)(Q:TQ)(x0:AV)(L:Lg):Prop :=za F (.alloc [.i .i64 0,.i .i64 0,.i .i64 0]) [] L fun a L=>zd F oI [x0] L fun b L=>za F (.ext 0) [b] L fun c L=>za F (.ext 1) [b] L fun d L=>za F (.alloc [.i .i64 0,.i .i64 0,.i .i64 0]) [] L fun e L=>za F (.st 3) [e,c] L fun _ L=>zn d (za F (.aj 0) [e] L fun f L=>za F (.ld none) [f] L fun g L=>zd F oJ [x0,g] L fun h L=>za F (.ld (some 3)) [e] L fun i L=>za F (.st 3) [a,i] L fun _ L=>zm (yz Env.nil Env.nil L [.cell (.c a) (some 3),.tmp (.c d)]) Q L) (za F (.ld (some 3)) [e] L fun j L=>za F (.st 3) [a,j] L fun _ L=>zm (yz Env.nil Env.nil L [.cell (.c a) (some 3),.tmp (.c d)]) Q L)
structure Lo (F:TF):Prop where
 code:F AG=some Pj
 f42:Hg F
 f33:Hj F
theorem zkA (h:F AG=some Pj)(e:Dg F Q a0 L):zd F AG [a0] L Q :=
 cw h (fun l t L=>lf (Dg F Q (l 0) L)) e
def C9 (F:TF)(Q:TQ)(x0 x1 x4 x6 x8 dO:AV)(L:Lg):Prop :=zd F HJ [x6,dO,x1] L fun a L=>za F (.ext 0) [a] L fun b L=>za F (.ext 1) [a] L fun c L=>za F (.bin .eql) [c,(.i .i64 0)] L fun d L=>zi F d true .mv [b] L fun e L=>zi F d true .mv [x1] L fun f L=>zi F d true (.bin .gtr) [e,f] L fun g L=>za F .pick [d,g,(.b false)] L fun h L=>zn h (za F (.aj 0) [x8] L fun i L=>za F (.ld none) [i] L fun j L=>zd F mO [x0,j,b,dO] L fun k L=>za F (.aj 0) [x8] L fun m L=>za F (.ld none) [m] L fun n L=>za F (.build [.i .i64 0,.i .i64 0,.i .i64 0] [(0,1),(1,1),(2,1)]) [n,x6,x1] L fun o L=>za F (.st 3) [x4,o] L fun _ L=>zm (yz Env.nil Env.nil L [.cell (.c x4) (some 3),.tmp (.c (.b true))]) Q L) (za F (.aj 0) [x8] L fun p L=>za F (.ld none) [p] L fun q L=>za F (.build [.i .i64 0,.i .i64 0,.i .i64 0] [(0,1),(1,1),(2,1)]) [q,x6,x1] L fun r L=>za F (.st 3) [x4,r] L fun _ L=>zm (yz Env.nil Env.nil L [.cell (.c x4) (some 3),.tmp (.c (.b true))]) Q L)
def Da (F:TF)(Q:TQ)(x0 x1 x4 x6 x8 dO:AV)(L:Lg):Prop :=za F .aa [x0] L fun a L=>za F (.aj 1) [a] L fun b L=>za F (.ld none) [b] L fun c L=>za F (.aj 0) [x8] L fun d L=>za F (.ld none) [d] L fun e L=>za F .om [c,e] L fun _ L=>C9 F Q x0 x1 x4 x6 x8 dO L
def Db (F:TF)(Q:TQ)(x0 x1 x4 x6 x8:AV)(L:Lg):Prop :=za F .aa [x0] L fun a L=>za F (.aj 1) [a] L fun b L=>za F (.ld none) [b] L fun c L=>za F (.aj 0) [x8] L fun d L=>za F (.ld none) [d] L fun e L=>za F (.mY (.i .i64 0) false) [c,e] L fun f L=>Da F Q x0 x1 x4 x6 x8 f L
def Dc (F:TF)(Q:TQ)(x0 x1 x4 x6:AV)(L:Lg):Prop :=za F .aa [x0] L fun a L=>za F (.aj 0) [a] L fun b L=>za F (.ld none) [b] L fun c L=>zd F AG [c] L fun d L=>za F (.ext 0) [d] L fun e L=>za F (.ext 1) [d] L fun f L=>za F (.alloc [.i .i64 0,.i .i64 0,.i .i64 0]) [] L fun g L=>za F (.st 3) [g,e] L fun _ L=>Db F Q x0 x1 x4 x6 g L
def Dd (F:TF)(Q:TQ)(x0 x1 x4 x6 x7:AV)(L:Lg):Prop :=za F (.un .not) [x7] L fun a L=>zi F a false .mv [x1] L fun b L=>zi F a false (.bin .lss) [b,(.i .i64 0)] L fun c L=>za F .pick [a,(.b true),c] L fun d L=>zi F d false .mv [x6] L fun e L=>zi F d false .mv [x1] L fun f L=>zi F d false (.bin .gtr) [e,f] L fun g L=>za F .pick [d,(.b true),g] L fun h L=>zn h (za F (.build [.i .i64 0,.i .i64 0,.i .i64 0] []) [] L fun i L=>za F (.st 3) [x4,i] L fun _ L=>zm (yz Env.nil Env.nil L [.cell (.c x4) (some 3),.tmp (.c (.b false))]) Q L) (Dc F Q x0 x1 x4 x6 L)
def De (F:TF)(Q:TQ)(x0 x1 x4:AV)(L:Lg):Prop :=zd F AH [x0] L fun a L=>za F (.ext 0) [a] L fun b L=>za F (.ext 1) [a] L fun c L=>Dd F Q x0 x1 x4 b c L
def Df (F:TF)(Q:TQ)(x0 x1:AV)(L:Lg):Prop :=za F (.alloc [.i .i64 0,.i .i64 0,.i .i64 0]) [] L fun a L=>De F Q x0 x1 a L
structure Hf (F:TF):Prop where
 code:F oH=some Ph
 f43:Lp F
 f44:Lo F
 f3:T8 F
 f36:EY F
theorem zkz (h:F oH=some Ph)(e:Df F Q a0 a1 L):zd F oH [a0,a1] L Q :=
 cw h (fun l t L=>wS (fun l t L=>wS (fun l t L=>wS (fun l t L=>wS (fun l t L=>wS (fun l t L=>wS (fun l t L=>lf (C9 F Q (l 0) (l 1) (l 4) (l 6) (l 8) (l 10) L)) (lf (Da F Q (l 0) (l 1) (l 4) (l 6) (l 8) (l 10) L))) (lf (Db F Q (l 0) (l 1) (l 4) (l 6) (l 8) L))) (lf (Dc F Q (l 0) (l 1) (l 4) (l 6) L))) (lf (Dd F Q (l 0) (l 1) (l 4) (l 6) (l 7) L))) (lf (De F Q (l 0) (l 1) (l 4) L))) (lf (Df F Q (l 0) (l 1) L))) e
def C8 (F:TF)(Q:TQ)(x0 x1:AV)(L:Lg):Prop :=za F .aa [x0] L fun a L=>za F (.aj 1) [a] L fun b L=>za F (.ld none) [b] L fun c L=>zd F fq [c] L fun d L=>za F (.ext 0) [d] L fun e L=>za F (.ext 1) [d] L fun f L=>za F (.alloc [.i .i64 0,.i .i64 0,.i .i64 0]) [] L fun g L=>za F (.st 3) [g,e] L fun _ L=>za F (.un .not) [f] L fun h L=>zn h (zm (some (.sl none 0 0 0)) Q L) (za F (.aj 0) [g] L fun i L=>za F (.ld none) [i] L fun j L=>za F (.aj 1) [g] L fun k L=>za F (.ld none) [k] L fun m L=>za F (.build [.i .i64 0,.i .i64 0,.i .i64 0,.b false,.b false] [(0,1),(1,1),(2,1),(3,1)]) [j,m,x1,(.b true)] L fun n L=>za F (.aC [.i .i64 0,.i .i64 0,.i .i64 0,.b false,.b false] 1 5 [0]) [n] L fun o L=>zm (some o) Q L)
structure Lm (F:TF):Prop where
 code:F AF=some Pg
 f14:E9 F
theorem zky (h:F AF=some Pg)(e:C8 F Q a0 a1 L):zd F AF [a0,a1] L Q :=
 cw h (fun l t L=>lf (C8 F Q (l 0) (l 1) L)) e
def nN (F:TF)(Q:TQ)(x0 x1:AV)(L:Lg):Prop :=za F (.eq false .ptr) [x0,(.p none)] L fun a L=>zi F a false .mv [x0] L fun b L=>zi F a false .aa [b] L fun c L=>zi F a false (.aj 3) [c] L fun d L=>zi F a false (.ld none) [d] L fun e L=>zi F a false (.un .not) [e] L fun f L=>za F .pick [a,(.b true),f] L fun g L=>zn g (zm (some (.ay [(.sl none 0 0 0),(.b false)])) Q L) (zd F AF [x0,x1] L fun h L=>za F .ax [h] L fun i L=>za F (.bin .gtr) [i,(.i .i64 0)] L fun j L=>zn j (zm (some (.ay [h,(.b true)])) Q L) (za F .aa [x0] L fun k L=>za F (.aj 0) [k] L fun m L=>za F (.ld none) [m] L fun n L=>zd F HI [n,x1] L fun o L=>zm (some (.ay [(.sl none 0 0 0),o])) Q L))
structure EX (F:TF):Prop where
 code:F mM=some Pf
 f46:Lm F
 f4:T7 F
theorem NW (h:F mM=some Pf)(e:nN F Q a0 a1 L):zd F mM [a0,a1] L Q :=
 cw h (fun l t L=>lf (nN F Q (l 0) (l 1) L)) e
def C7 (F:TF)(Q:TQ)(x0 x1 x4 x6:AV)(L:Lg):Prop :=za F .aa [x0] L fun a L=>za F (.aj 0) [a] L fun b L=>za F (.ld none) [b] L fun c L=>za F (.aj 0) [x6] L fun d L=>za F (.ld none) [d] L fun e L=>za F (.aX 4) [c,e] L fun f L=>za F (.ld (some 4)) [f] L fun g L=>za F (.alloc [.i .i64 0,.i .i64 0,.p none,.i .i64 0]) [] L fun h L=>za F (.st 4) [h,g] L fun _ L=>za F (.aj 0) [x6] L fun i L=>za F (.ld none) [i] L fun j L=>za F (.aj 0) [h] L fun k L=>za F (.ld none) [k] L fun m L=>za F (.aj 1) [x6] L fun n L=>za F (.ld none) [n] L fun o L=>za F (.aj 2) [x6] L fun p L=>za F (.ld none) [p] L fun q L=>za F (.aj 1) [h] L fun r L=>za F (.ld none) [r] L fun s L=>za F (.build [.i .i64 0,.i .i64 0,.i .i64 0,.i .i64 0,.i .i64 0,.sl none 0 0 0,.b false] [(0,1),(1,1),(2,1),(3,1),(4,1)]) [j,m,o,q,s] L fun t L=>za F (.alloc [.i .i64 0,.i .i64 0,.i .i64 0,.i .i64 0,.i .i64 0,.sl none 0 0 0,.b false]) [] L fun u L=>za F (.st 7) [u,t] L fun _ L=>za F (.aj 2) [h] L fun v L=>za F (.ld none) [v] L fun w L=>zd F mM [w,x1] L fun x L=>za F (.ext 0) [x] L fun y L=>za F (.ext 1) [x] L fun z L=>za F (.aj 5) [u] L fun A L=>za F (.st 1) [A,y] L fun _ L=>za F (.aj 6) [u] L fun B L=>za F (.st 1) [B,z] L fun _ L=>za F (.ld (some 7)) [u] L fun C L=>za F (.st 7) [x4,C] L fun _ L=>zm (yz Env.nil Env.nil L [.cell (.c x4) (some 7),.tmp (.c (.b true))]) Q L
def nJ (F:TF)(Q:TQ)(x0 x1 x4 x6 x7:AV)(L:Lg):Prop :=za F (.un .not) [x7] L fun a L=>zn a (za F (.build [.i .i64 0,.i .i64 0,.i .i64 0,.i .i64 0,.i .i64 0,.sl none 0 0 0,.b false] []) [] L fun b L=>za F (.st 7) [x4,b] L fun _ L=>zm (yz Env.nil Env.nil L [.cell (.c x4) (some 7),.tmp (.c (.b false))]) Q L) (C7 F Q x0 x1 x4 x6 L)
def nK (F:TF)(Q:TQ)(x0 x1 x4:AV)(L:Lg):Prop :=za F .aa [x0] L fun a L=>za F (.aj 1) [a] L fun b L=>za F (.ld none) [b] L fun c L=>zd F oH [c,x1] L fun d L=>za F (.ext 0) [d] L fun e L=>za F (.ext 1) [d] L fun f L=>za F (.alloc [.i .i64 0,.i .i64 0,.i .i64 0]) [] L fun g L=>za F (.st 3) [g,e] L fun _ L=>nJ F Q x0 x1 x4 g f L
def nL (F:TF)(Q:TQ)(x0 x1 x4:AV)(L:Lg):Prop :=za F (.eq false .ptr) [x0,(.p none)] L fun a L=>zn a (za F (.build [.i .i64 0,.i .i64 0,.i .i64 0,.i .i64 0,.i .i64 0,.sl none 0 0 0,.b false] []) [] L fun b L=>za F (.st 7) [x4,b] L fun _ L=>zm (yz Env.nil Env.nil L [.cell (.c x4) (some 7),.tmp (.c (.b false))]) Q L) (nK F Q x0 x1 x4 L)
def nM (F:TF)(Q:TQ)(x0 x1:AV)(L:Lg):Prop :=za F (.alloc [.i .i64 0,.i .i64 0,.i .i64 0,.i .i64 0,.i .i64 0,.sl none 0 0 0,.b false]) [] L fun a L=>nL F Q x0 x1 a L
structure Bc (F:TF):Prop where
 code:F iL=some Pe
 f45:Hf F
 f47:EX F
theorem NV (h:F iL=some Pe)(e:nM F Q a0 a1 L):zd F iL [a0,a1] L Q :=
 cw h (fun l t L=>wS (fun l t L=>wS (fun l t L=>wS (fun l t L=>wS (fun l t L=>lf (C7 F Q (l 0) (l 1) (l 4) (l 6) L)) (lf (nJ F Q (l 0) (l 1) (l 4) (l 6) (l 7) L))) (lf (nK F Q (l 0) (l 1) (l 4) L))) (lf (nL F Q (l 0) (l 1) (l 4) L))) (lf (nM F Q (l 0) (l 1) L))) e
def nI (F:TF)(Q:TQ)(x0 x1:AV)(L:Lg):Prop :=za F (.eq true .ptr) [x0,(.p none)] L fun a L=>zi F a true .mv [x1] L fun b L=>zi F a true (.bin .geq) [b,(.i .i64 0)] L fun c L=>za F .pick [a,c,(.b false)] L fun d L=>zi F d true .mv [x1] L fun e L=>zi F d true .mv [x0] L fun f L=>zi F d true .aa [f] L fun g L=>zi F d true (.aj 0) [g] L fun h L=>zi F d true (.ld none) [h] L fun i L=>zi F d true .ax [i] L fun j L=>zi F d true (.bin .lss) [e,j] L fun k L=>za F .pick [d,k,(.b false)] L fun m L=>zm (some m) Q L
structure Ll (F:TF):Prop where
 code:F oG=some Pd
theorem NU (h:F oG=some Pd)(e:nI F Q a0 a1 L):zd F oG [a0,a1] L Q :=
 cw h (fun l t L=>lf (nI F Q (l 0) (l 1) L)) e
def nH (F:TF)(Q:TQ)(x0:AV)(L:Lg):Prop :=za F (.eq true .ptr) [x0,(.p none)] L fun a L=>zi F a true .mv [x0] L fun b L=>zi F a true .aa [b] L fun c L=>zi F a true (.aj 3) [c] L fun d L=>zi F a true (.ld none) [d] L fun e L=>za F .pick [a,e,(.b false)] L fun f L=>zi F f true .mv [x0] L fun g L=>zi F f true .aa [g] L fun h L=>zi F f true (.aj 0) [h] L fun i L=>zi F f true (.ld none) [i] L fun j L=>zi F f true (.call HG) [j] L fun k L=>zi F f true (.bin .gtr) [k,(.i .i64 0)] L fun m L=>za F .pick [f,m,(.b false)] L fun n L=>zm (some n) Q L
structure EW (F:TF):Prop where
 code:F mL=some Pc
 f8:T5 F
theorem NT (h:F mL=some Pc)(e:nH F Q a0 L):zd F mL [a0] L Q :=
 cw h (fun l t L=>lf (nH F Q (l 0) L)) e
def iW (F:TF)(Q:TQ)(x0 x1:AV)(L:Lg):Prop :=zd F oG [x0,x1] L fun a L=>za F (.un .not) [a] L fun b L=>zn b (zm (some (.ay [(.b false),(.i .i64 4)])) Q L) (za F .aa [x0] L fun c L=>za F (.aj 1) [c] L fun d L=>za F (.ld none) [d] L fun e L=>zd F mP [e,x1] L fun f L=>za F .aa [x0] L fun g L=>za F (.aj 0) [g] L fun h L=>za F (.ld none) [h] L fun i L=>za F (.aX 4) [i,x1] L fun j L=>za F (.aj 2) [j] L fun k L=>za F (.ld none) [k] L fun m L=>zd F mL [m] L fun n L=>zi F n false .mv [f] L fun o L=>za F .pick [n,(.b true),o] L fun p L=>zm (some (.ay [p,(.i .i64 0)])) Q L)
structure Bb (F:TF):Prop where
 code:F iK=some Pb
 f49:Ll F
 f34:EZ F
 f50:EW F
theorem II (h:F iK=some Pb)(e:iW F Q a0 a1 L):zd F iK [a0,a1] L Q :=
 cw h (fun l t L=>lf (iW F Q (l 0) (l 1) L)) e
def nG (F:TF)(Q:TQ)(x0 x1 x2:AV)(L:Lg):Prop :=za F (.build [.i .i64 0,.i .i64 0,.p none,.i .i64 0] [(0,1),(1,1)]) [(.i .i64 4),x2] L fun a L=>zd F mN [x0,a,(.i .i64 0),x1] L fun b L=>za F (.ext 0) [b] L fun c L=>za F (.ext 1) [b] L fun d L=>zm (some (.ay [c,d])) Q L
structure EV (F:TF):Prop where
 code:F oF=some Pa
 f38:Hh F
theorem NS (h:F oF=some Pa)(e:nG F Q a0 a1 a2 L):zd F oF [a0,a1,a2] L Q :=
 cw h (fun l t L=>lf (nG F Q (l 0) (l 1) (l 2) L)) e
def C6 (F:TF)(Q:TQ)(x0:AV)(L:Lg):Prop :=za F (.eq true .ptr) [x0,(.p none)] L fun a L=>zi F a true .mv [x0] L fun b L=>zi F a true .aa [b] L fun c L=>zi F a true (.aj 3) [c] L fun d L=>zi F a true (.ld none) [d] L fun e L=>zi F a true .mv [e] L fun f L=>zi F f false .mv [x0] L fun g L=>zi F f false .aa [g] L fun h L=>zi F f false (.aj 4) [h] L fun i L=>zi F f false (.ld none) [i] L fun j L=>zi F a true .pick [f,(.b true),j] L fun k L=>za F .pick [a,k,(.b false)] L fun m L=>zm (some m) Q L
structure Lk (F:TF):Prop where
 code:F AE=some O9
theorem zkx (h:F AE=some O9)(e:C6 F Q a0 L):zd F AE [a0] L Q :=
 cw h (fun l t L=>lf (C6 F Q (l 0) L)) e
def nF (F:TF)(Q:TQ)(x0 x1:AV)(L:Lg):Prop :=zn x1 (za F .aa [x0] L fun a L1=>za F (.aj 0) [a] L1 fun b L2=>za F (.ld none) [b] L2 fun c L3=>zd F Bo [c] L3 fun d L4=>za F .aa [x0] L4 fun e L5=>za F (.aj 0) [e] L5 fun f L6=>za F (.ld none) [f] L6 fun g L7=>zd F HH [g] L7 fun h L8=>za F (.bin .lss) [d,h] L8 fun i L9=>(yb (.ld none) [f] L6 L∧True)∧(zm (some i) Q L9)) (za F .aa [x0] L fun j dG=>za F (.aj 0) [j] dG fun k gz=>za F (.ld none) [k] gz fun m iV=>zd F Bo [m] iV fun n iU=>za F (.bin .gtr) [n,(.i .i64 0)] iU fun o jx=>zm (some o) Q jx)
structure Lj (F:TF):Prop where
 code:F oE=some O8
 f6:Li F
 f7:T6 F
theorem zkw (h:F oE=some O8)(e:nF F Q a0 a1 L):zd F oE [a0,a1] L Q :=
 cw h (fun l t L=>lf (nF F Q (l 0) (l 1) L)) e
def C5 (F:TF)(Q:TQ)(x0 x1:AV)(L:Lg):Prop :=za F (.eq false .ptr) [x0,(.p none)] L fun a L=>zn a (zm (some (.p none)) Q L) (zn x1 (za F .aa [x0] L fun b L=>za F (.aj 2) [b] L fun c L=>za F (.ld none) [c] L fun d L=>zm (some d) Q L) (za F .aa [x0] L fun e L=>za F (.aj 1) [e] L fun f L=>za F (.ld none) [f] L fun g L=>zm (some g) Q L))
structure He (F:TF):Prop where
 code:F iJ=some O7
theorem zkv (h:F iJ=some O7)(e:C5 F Q a0 a1 L):zd F iJ [a0,a1] L Q :=
 cw h (fun l t L=>lf (C5 F Q (l 0) (l 1) L)) e
def C4 (F:TF)(Q:TQ)(x0:AV)(L:Lg):Prop :=za F .min [x0,(.i .i64 4611686018427387904)] L fun a L=>za F .max [a,(.i .i64 0)] L fun b L=>zm (some b) Q L
structure G9 (F:TF):Prop where
 code:F oD=some O6
theorem zku (h:F oD=some O6)(e:C4 F Q a0 L):zd F oD [a0] L Q :=
 cw h (fun l t L=>lf (C4 F Q (l 0) L)) e
def C3 (F:TF)(Q:TQ)(x0:AV)(L:Lg):Prop :=za F .min [x0,(.i .i64 4611686018427387904)] L fun a L=>za F .max [a,(.i .i64 (-4611686018427387904))] L fun b L=>zm (some b) Q L
structure Lh (F:TF):Prop where
 code:F oC=some O5
theorem zkt (h:F oC=some O5)(e:C3 F Q a0 L):zd F oC [a0] L Q :=
 cw h (fun l t L=>lf (C3 F Q (l 0) L)) e
def C2 (F:TF)(Q:TQ)(x0 x1:AV)(L:Lg):Prop :=zd F oC [x0] L fun a L=>zd F oC [x1] L fun b L=>za F (.bin .gtr) [b,(.i .i64 0)] L fun c L=>zi F c true .mv [a] L fun d L=>zi F c true .mv [b] L fun e L=>zi F c true (.bin .sub) [(.i .i64 4611686018427387904),e] L fun f L=>zi F c true (.bin .gtr) [d,f] L fun g L=>za F .pick [c,g,(.b false)] L fun h L=>zn h (zm (some (.i .i64 4611686018427387904)) Q L) (za F (.bin .lss) [b,(.i .i64 0)] L fun i L=>zi F i true .mv [a] L fun j L=>zi F i true .mv [b] L fun k L=>zi F i true (.bin .sub) [(.i .i64 (-4611686018427387904)),k] L fun m L=>zi F i true (.bin .lss) [j,m] L fun n L=>za F .pick [i,n,(.b false)] L fun o L=>zn o (zm (some (.i .i64 (-4611686018427387904))) Q L) (za F (.bin .add) [a,b] L fun p L=>zm (some p) Q L))
structure G8 (F:TF):Prop where
 code:F AD=some O4
 f64:Lh F
theorem zks (h:F AD=some O4)(e:C2 F Q a0 a1 L):zd F AD [a0,a1] L Q :=
 cw h (fun l t L=>lf (C2 F Q (l 0) (l 1) L)) e
def C0 (F:TF)(Q:TQ)(L:Lg):Prop :=zm (some (.i .i64 (-1))) Q L
def CW (F:TF)(Q:TQ)(k1:TK)(l:Env)(L:Lg):Prop :=za F .aa [(l 0)] L fun a L=>za F (.aj 0) [a] L fun b L=>za F (.ld none) [b] L fun c L=>za F .ax [c] L fun d L=>za F (.bin .lss) [(l 5),d] L fun e L=>zn e (za F .aa [(l 0)] L fun f L=>za F (.aj 0) [f] L fun g L=>za F (.ld none) [g] L fun h L=>za F (.aX 3) [h,(l 5)] L fun i L=>za F (.aj 0) [i] L fun j L=>za F (.ld none) [j] L fun k L=>za F (.bin .eql) [k,(l 1)] L fun m L=>zn m (zm (some (l 5)) Q L) (za F (.bin .add) [(l 5),(.i .i64 1)] L fun n L=>k1 (Env.put l 5 n) L)) (C0 F Q L)
def CY (F:TF)(Q:TQ)(l:Env)(L:Lg):Prop :=xA (fun l t L k1=>CW F Q k1 l L) l L
def CZ (F:TF)(Q:TQ)(l:Env)(L:Lg):Prop :=CY F Q (Env.put l 5 (.i .i64 0)) L
def C1 (F:TF)(Q:TQ)(l:Env)(L:Lg):Prop :=CZ F Q (Env.put l 4 (.i .i64 0)) L
structure KZ (F:TF):Prop where
 code:F AA=some O3
theorem zkr (h:F AA=some O3)(e:C1 F Q (zI [a0,a1] 0) L):zd F AA [a0,a1] L Q :=
 cw h (fun l t L=>wS (fun l t L=>wS (fun l t L=>lf (C0 F Q L)) (wS (fun l t L=>wB (wL (fun l t L k1=>lf (CW F Q k1 l L)) (lf (CY F Q l L)))) (lf (CZ F Q l L)))) (lf (C1 F Q l L))) e
def CT (F:TF)(Q:TQ)(x0 x4 x6:AV)(L:Lg):Prop :=za F (.bin .lss) [x6,(.i .i64 0)] L fun a L1=>zn a (za F (.build [.i .i64 0,.i .i64 0,.i .i64 0] []) [] L1 fun b L2=>za F (.st 3) [x4,b] L2 fun _ L3=>zm (yz Env.nil Env.nil L3 [.cell (.c x4) (some 3),.tmp (.c (.b false))]) Q L3) (za F .aa [x0] L1 fun c L4=>za F (.aj 0) [c] L4 fun d L5=>za F (.ld none) [d] L5 fun e L6=>za F (.aX 3) [e,x6] L6 fun f L7=>za F (.ld (some 3)) [f] L7 fun g L8=>za F (.alloc [.i .i64 0,.i .i64 0,.i .i64 0]) [] L8 fun h L9=>za F (.st 3) [h,g] L9 fun _ dG=>za F (.aC [.i .i64 0,.i .i64 0,.i .i64 0] 0 3 []) [] dG fun i gz=>za F .aa [x0] gz fun j iV=>za F (.aj 0) [j] iV fun k iU=>za F (.ld none) [k] iU fun m jx=>za F (.slc 3 false true false) [m,x6] jx fun n A7=>za F (.app 3 24) [i,n] A7 fun o Aj=>za F .aa [x0] Aj fun p ku=>za F (.aj 0) [p] ku fun q iu=>za F (.ld none) [q] iu fun r ir=>za F (.bin .add) [x6,(.i .i64 1)] ir fun s ni=>za F (.slc 3 true false false) [r,s] ni fun t F5=>za F (.app 3 24) [o,t] F5 fun u G6=>za F .aa [x0] G6 fun v Nu=>za F (.aj 0) [v] Nu fun w Mi=>za F (.st 1) [w,u] Mi fun _ Im=>(yb (.ld none) [q] iu dG∧True)∧(za F (.ld (some 3)) [h] Im fun x Nt=>za F (.st 3) [x4,x] Nt fun _ KK=>zm (yz Env.nil Env.nil KK [.cell (.c x4) (some 3),.tmp (.c (.b true))]) Q KK))
def CU (F:TF)(Q:TQ)(x0 x1 x4:AV)(L:Lg):Prop :=zd F AA [x0,x1] L fun a L=>CT F Q x0 x4 a L
def CV (F:TF)(Q:TQ)(x0 x1:AV)(L:Lg):Prop :=za F (.alloc [.i .i64 0,.i .i64 0,.i .i64 0]) [] L fun a L=>CU F Q x0 x1 a L
structure KY (F:TF):Prop where
 code:F Az=some O2
 f66:KZ F
theorem zkq (h:F Az=some O2)(e:CV F Q a0 a1 L):zd F Az [a0,a1] L Q :=
 cw h (fun l t L=>wS (fun l t L=>wS (fun l t L=>lf (CT F Q (l 0) (l 4) (l 6) L)) (lf (CU F Q (l 0) (l 1) (l 4) L))) (lf (CV F Q (l 0) (l 1) L))) e
def nD (F:TF)(Q:TQ)(x6:AV)(L:Lg):Prop :=zm (some x6) Q L
def CN (F:TF)(Q:TQ)(k1:TK)(l:Env)(L:Lg):Prop :=za F .aa [(l 0)] L fun a L1=>za F (.aj 2) [a] L1 fun b L2=>za F (.ld none) [b] L2 fun c L3=>za F .ax [c] L3 fun d L4=>za F (.bin .lss) [(l 7),d] L4 fun e L5=>zn e (za F .aa [(l 0)] L5 fun f L6=>za F (.aj 2) [f] L6 fun g L7=>za F (.ld none) [g] L7 fun h L8=>za F (.aX 3) [h,(l 7)] L8 fun i L9=>za F (.aj 0) [i] L9 fun j dG=>za F (.ld none) [j] dG fun k gz=>za F (.bin .eql) [k,(l 1)] gz fun m iV=>zn m (za F (.aC [.i .i64 0,.i .i64 0,.i .i64 0] 0 3 []) [] iV fun n iU=>za F .aa [(l 0)] iU fun o jx=>za F (.aj 2) [o] jx fun p A7=>za F (.ld none) [p] A7 fun q Aj=>za F (.slc 3 false true false) [q,(l 7)] Aj fun r ku=>za F (.app 3 24) [n,r] ku fun s iu=>za F .aa [(l 0)] iu fun t ir=>za F (.aj 2) [t] ir fun u ni=>za F (.ld none) [u] ni fun v F5=>za F (.bin .add) [(l 7),(.i .i64 1)] F5 fun w G6=>za F (.slc 3 true false false) [v,w] G6 fun x Nu=>za F (.app 3 24) [s,x] Nu fun y Mi=>za F .aa [(l 0)] Mi fun z Im=>za F (.aj 2) [z] Im fun A Nt=>za F (.st 1) [A,y] Nt fun _ KK=>(yb (.ld none) [u] ni iV∧True)∧(nD F Q (l 6) KK)) (za F (.bin .add) [(l 7),(.i .i64 1)] iV fun B L28=>k1 (Env.put l 7 B) L28)) (nD F Q (l 6) L5)
def CP (F:TF)(Q:TQ)(l:Env)(L:Lg):Prop :=xA (fun l t L k1=>CN F Q k1 l L) l L
def CQ (F:TF)(Q:TQ)(l:Env)(L:Lg):Prop :=CP F Q (Env.put l 7 (.i .i64 0)) L
def CR (F:TF)(Q:TQ)(l:Env)(L:Lg):Prop :=za F .aa [(l 0)] L fun a L=>za F (.aj 0) [a] L fun b L=>zd F Az [b,(l 1)] L fun c L=>za F (.ext 0) [c] L fun d L=>za F (.ext 1) [c] L fun e L=>za F (.alloc [.i .i64 0,.i .i64 0,.i .i64 0]) [] L fun f L=>za F (.st 3) [f,d] L fun _ L=>CQ F Q (Env.put l 6 e) L
def CS (F:TF)(Q:TQ)(l:Env)(L:Lg):Prop :=CR F Q (Env.put l 4 (.b false)) L
structure EU (F:TF):Prop where
 code:F mK=some O0
 f67:KY F
theorem zkp (h:F mK=some O0)(e:CS F Q (zI [a0,a1] 0) L):zd F mK [a0,a1] L Q :=
 cw h (fun l t L=>wS (fun l t L=>wS (fun l t L=>wS (fun l t L=>lf (nD F Q (l 6) L)) (wS (fun l t L=>wB (wL (fun l t L k1=>lf (CN F Q k1 l L)) (lf (CP F Q l L)))) (lf (CQ F Q l L)))) (lf (CR F Q l L))) (lf (CS F Q l L))) e
def nC (F:TF)(Q:TQ)(x0 x1 x2 x6:AV)(L:Lg):Prop :=za F (.aC [.i .i64 0,.i .i64 0,.i .i64 0] 0 3 []) [] L fun a L1=>za F .aa [x0] L1 fun b L2=>za F (.aj 0) [b] L2 fun c L3=>za F (.ld none) [c] L3 fun d L4=>za F (.slc 3 false true false) [d,x6] L4 fun e L5=>za F (.app 3 24) [a,e] L5 fun f L6=>za F .aa [x0] L6 fun g L7=>za F (.aj 1) [g] L7 fun h L8=>za F (.ld none) [h] L8 fun i L9=>za F (.build [.i .i64 0,.i .i64 0,.i .i64 0] [(0,1),(1,1),(2,1)]) [x1,x2,i] L9 fun j dG=>za F (.aC [.i .i64 0,.i .i64 0,.i .i64 0] 1 3 [0]) [j] dG fun k gz=>za F (.app 3 24) [f,k] gz fun m iV=>za F .aa [x0] iV fun n iU=>za F (.aj 0) [n] iU fun o jx=>za F (.ld none) [o] jx fun p A7=>za F (.slc 3 true false false) [p,x6] A7 fun q Aj=>za F (.app 3 24) [m,q] Aj fun r ku=>za F .aa [x0] ku fun s iu=>za F (.aj 0) [s] iu fun t ir=>za F (.st 1) [t,r] ir fun _ ni=>(yb (.ld none) [h] L8 L∧yb (.ld none) [o] jx L∧yb (.ld none) [o] jx L6∧True)∧(zm (some (.ay [])) Q ni)
def CH (F:TF)(Q:TQ)(k1:TK)(l:Env)(L:Lg):Prop :=za F (.bin .gtr) [(l 6),(.i .i64 0)] L fun a L=>zi F a true .mv [(l 0)] L fun b L=>zi F a true .aa [b] L fun c L=>zi F a true (.aj 0) [c] L fun d L=>zi F a true (.ld none) [d] L fun e L=>zi F a true .mv [(l 6)] L fun f L=>zi F a true (.bin .sub) [f,(.i .i64 1)] L fun g L=>zi F a true (.aX 3) [e,g] L fun h L=>zi F a true (.aj 1) [h] L fun i L=>zi F a true (.ld none) [i] L fun j L=>zi F a true .mv [(l 2)] L fun k L=>zi F a true (.bin .gtr) [j,k] L fun m L=>za F .pick [a,m,(.b false)] L fun n L=>zn n (za F (.bin .sub) [(l 6),(.i .i64 1)] L fun o L=>k1 (Env.put l 6 o) L) (nC F Q (l 0) (l 1) (l 2) (l 6) L)
def CJ (F:TF)(Q:TQ)(l:Env)(L:Lg):Prop :=xA (fun l t L k1=>CH F Q k1 l L) l L
def CK (F:TF)(Q:TQ)(l:Env)(L:Lg):Prop :=za F .aa [(l 0)] L fun a L=>za F (.aj 0) [a] L fun b L=>za F (.ld none) [b] L fun c L=>za F .ax [c] L fun d L=>CJ F Q (Env.put l 6 d) L
def CM (F:TF)(Q:TQ)(l:Env)(L:Lg):Prop :=za F .aa [(l 0)] L fun a L=>za F (.aj 1) [a] L fun b L=>za F (.ld none) [b] L fun c L=>za F (.bin .add) [c,(.i .i64 1)] L fun d L=>za F .aa [(l 0)] L fun e L=>za F (.aj 1) [e] L fun f L=>za F (.st 1) [f,d] L fun _ L=>CK F Q l L
structure KX (F:TF):Prop where
 code:F Ay=some OZ
theorem zko (h:F Ay=some OZ)(e:CM F Q (zI [a0,a1,a2] 0) L):zd F Ay [a0,a1,a2] L Q :=
 cw h (fun l t L=>wS (fun l t L=>wS (fun l t L=>wS (fun l t L=>lf (nC F Q (l 0) (l 1) (l 2) (l 6) L)) (wB (wL (fun l t L k1=>lf (CH F Q k1 l L)) (lf (CJ F Q l L))))) (lf (CK F Q l L))) (lf (CM F Q l L))) e
def CG (F:TF)(Q:TQ)(x0 x1 x2 x3:AV)(L:Lg):Prop :=za F (.bin .lss) [x2,(.i .i64 0)] L fun a L=>zi F a false .mv [x2] L fun b L=>zi F a false (.bin .gtr) [b,(.i .i64 4611686018427387904)] L fun c L=>za F .pick [a,(.b true),c] L fun d L=>zi F d false .mv [x3] L fun e L=>zi F d false (.bin .lss) [e,(.i .i64 0)] L fun f L=>za F .pick [d,(.b true),f] L fun g L=>zi F g false .mv [x3] L fun h L=>zi F g false (.bin .gtr) [h,(.i .i64 4611686018427387904)] L fun i L=>za F .pick [g,(.b true),i] L fun j L=>zn j (zm (some (.i .i64 1)) Q L) (zd F mK [x0,x1] L fun k L=>za F .aa [x0] L fun m L=>za F (.aj 0) [m] L fun n L=>zd F Ay [n,x1,x2] L fun o L=>za F .aa [x0] L fun p L=>za F (.aj 2) [p] L fun q L=>za F (.ld none) [q] L fun r L=>za F (.build [.i .i64 0,.i .i64 0,.i .i64 0] [(0,1),(1,1)]) [x1,x3] L fun s L=>za F (.aC [.i .i64 0,.i .i64 0,.i .i64 0] 1 3 [0]) [s] L fun t L=>za F (.app 3 24) [r,t] L fun u L=>za F .aa [x0] L fun v L=>za F (.aj 2) [v] L fun w L=>za F (.st 1) [w,u] L fun _ L=>zm (some (.i .i64 0)) Q L)
structure G7 (F:TF):Prop where
 code:F oB=some OY
 f68:EU F
 f69:KX F
theorem zkn (h:F oB=some OY)(e:CG F Q a0 a1 a2 a3 L):zd F oB [a0,a1,a2,a3] L Q :=
 cw h (fun l t L=>lf (CG F Q (l 0) (l 1) (l 2) (l 3) L)) e
def CF (F:TF)(Q:TQ)(x0 x1 x2:AV)(L:Lg):Prop :=za F (.bin .lss) [x2,(.i .i64 0)] L fun a L=>zn a (zm (some (.ay [(.i .i64 0),(.i .i64 1)])) Q L) (za F .aa [x0] L fun b L=>za F (.aj 3) [b] L fun c L=>za F (.ld none) [c] L fun d L=>za F (.build [.i .i64 0,.i .i64 0,.p none,.i .i64 0] [(0,1),(1,1),(3,1)]) [(.i .i64 4),x2,(.i .i64 1)] L fun e L=>za F (.aC [.i .i64 0,.i .i64 0,.p none,.i .i64 0] 1 4 [0]) [e] L fun f L=>za F (.app 4 32) [d,f] L fun g L=>za F .aa [x0] L fun h L=>za F (.aj 3) [h] L fun i L=>za F (.st 1) [i,g] L fun _ L=>za F .aa [x0] L fun j L=>za F (.aj 3) [j] L fun k L=>za F (.ld none) [k] L fun m L=>za F .ax [m] L fun n L=>za F (.bin .sub) [n,(.i .i64 1)] L fun o L=>za F .aa [x0] L fun p L=>za F (.aj 0) [p] L fun q L=>zd F oD [x1] L fun r L=>zd F oB [q,o,r,(.i .i64 0)] L fun s L=>zm (some (.ay [o,(.i .i64 0)])) Q L)
structure KW (F:TF):Prop where
 code:F Ax=some OX
 f63:G9 F
 f70:G7 F
theorem zkm (h:F Ax=some OX)(e:CF F Q a0 a1 a2 L):zd F Ax [a0,a1,a2] L Q :=
 cw h (fun l t L=>lf (CF F Q (l 0) (l 1) (l 2) L)) e
def CE (F:TF)(Q:TQ)(x0 x1:AV)(L:Lg):Prop :=za F (.bin .geq) [x1,(.i .i64 0)] L fun a L=>zi F a true .mv [x1] L fun b L=>zi F a true .mv [x0] L fun c L=>zi F a true .aa [c] L fun d L=>zi F a true (.aj 3) [d] L fun e L=>zi F a true (.ld none) [e] L fun f L=>zi F a true .ax [f] L fun g L=>zi F a true (.bin .lss) [b,g] L fun h L=>za F .pick [a,h,(.b false)] L fun i L=>zm (some i) Q L
structure KV (F:TF):Prop where
 code:F Aw=some OW
theorem zkl (h:F Aw=some OW)(e:CE F Q a0 a1 L):zd F Aw [a0,a1] L Q :=
 cw h (fun l t L=>lf (CE F Q (l 0) (l 1) L)) e
def nB (F:TF)(Q:TQ)(x0:AV)(L:Lg):Prop :=za F (.eq false .ptr) [x0,(.p none)] L fun a L=>zi F a false .mv [x0] L fun b L=>zi F a false .aa [b] L fun c L=>zi F a false (.aj 1) [c] L fun d L=>zi F a false (.ld none) [d] L fun e L=>zi F a false (.un .not) [e] L fun f L=>za F .pick [a,(.b true),f] L fun g L=>zi F g false .mv [x0] L fun h L=>zi F g false .aa [h] L fun i L=>zi F g false (.aj 4) [i] L fun j L=>zi F g false (.ld none) [j] L fun k L=>zi F g false .ax [k] L fun m L=>zi F g false (.bin .eql) [m,(.i .i64 0)] L fun n L=>za F .pick [g,(.b true),n] L fun o L=>zn o (zm (some (.b false)) Q L) (za F .aa [x0] L fun p L=>za F (.aj 4) [p] L fun q L=>za F (.st 1) [q,(.sl none 0 0 0)] L fun _ L=>zm (some (.b true)) Q L)
structure KU (F:TF):Prop where
 code:F Av=some OV
theorem NR (h:F Av=some OV)(e:nB F Q a0 L):zd F Av [a0] L Q :=
 cw h (fun l t L=>lf (nB F Q (l 0) L)) e
def nA (F:TF)(Q:TQ)(x0 x1:AV)(L:Lg):Prop :=zd F Aw [x0,x1] L fun a L=>za F (.un .not) [a] L fun b L=>zn b (zm (some (.ay [(.b false),(.i .i64 4)])) Q L) (za F .aa [x0] L fun c L=>za F (.aj 0) [c] L fun d L=>zd F mK [d,x1] L fun e L=>za F .aa [x0] L fun f L=>za F (.aj 3) [f] L fun g L=>za F (.ld none) [g] L fun h L=>za F (.aX 4) [h,x1] L fun i L=>za F (.aj 2) [i] L fun j L=>za F (.ld none) [j] L fun k L=>zd F Av [k] L fun m L=>zi F e false .mv [m] L fun n L=>za F .pick [e,(.b true),n] L fun o L=>zm (some (.ay [o,(.i .i64 0)])) Q L)
structure Ba (F:TF):Prop where
 code:F iI=some OU
 f78:KV F
 f68:EU F
 f79:KU F
theorem NQ (h:F iI=some OU)(e:nA F Q a0 a1 L):zd F iI [a0,a1] L Q :=
 cw h (fun l t L=>lf (nA F Q (l 0) (l 1) L)) e
def CC (F:TF)(Q:TQ)(L:Lg):Prop :=zm (some (.i .i64 (-1))) Q L
def Cy (F:TF)(Q:TQ)(k1:TK)(l:Env)(L:Lg):Prop :=za F .aa [(l 0)] L fun a L=>za F (.aj 2) [a] L fun b L=>za F (.ld none) [b] L fun c L=>za F .ax [c] L fun d L=>za F (.bin .lss) [(l 5),d] L fun e L=>zn e (za F .aa [(l 0)] L fun f L=>za F (.aj 2) [f] L fun g L=>za F (.ld none) [g] L fun h L=>za F (.aX 3) [h,(l 5)] L fun i L=>za F (.aj 0) [i] L fun j L=>za F (.ld none) [j] L fun k L=>za F (.bin .eql) [k,(l 1)] L fun m L=>zn m (za F .aa [(l 0)] L fun n L=>za F (.aj 2) [n] L fun o L=>za F (.ld none) [o] L fun p L=>za F (.aX 3) [p,(l 5)] L fun q L=>za F (.aj 1) [q] L fun r L=>za F (.ld none) [r] L fun s L=>zm (some s) Q L) (za F (.bin .add) [(l 5),(.i .i64 1)] L fun t L=>k1 (Env.put l 5 t) L)) (CC F Q L)
def Cz (F:TF)(Q:TQ)(l:Env)(L:Lg):Prop :=xA (fun l t L k1=>Cy F Q k1 l L) l L
def CA (F:TF)(Q:TQ)(l:Env)(L:Lg):Prop :=Cz F Q (Env.put l 5 (.i .i64 0)) L
def CD (F:TF)(Q:TQ)(l:Env)(L:Lg):Prop :=CA F Q (Env.put l 4 (.i .i64 0)) L
structure KT (F:TF):Prop where
 code:F Au=some OT
theorem zkk (h:F Au=some OT)(e:CD F Q (zI [a0,a1] 0) L):zd F Au [a0,a1] L Q :=
 cw h (fun l t L=>wS (fun l t L=>wS (fun l t L=>lf (CC F Q L)) (wS (fun l t L=>wB (wL (fun l t L k1=>lf (Cy F Q k1 l L)) (lf (Cz F Q l L)))) (lf (CA F Q l L)))) (lf (CD F Q l L))) e
def Cv (F:TF)(Q:TQ)(x0 x1 x2:AV)(L:Lg):Prop :=za F (.bin .gtr) [x0,x2] L fun a L=>zn a (zm (some (.ay [x0,(.i .i64 0)])) Q L) (za F (.bin .sub) [x2,x0] L fun b L=>za F (.bin .quo) [b,x1] L fun c L=>za F (.bin .add) [c,(.i .i64 1)] L fun d L=>za F (.bin .sub) [(.i .i64 4611686018427387904),x0] L fun e L=>za F (.bin .quo) [e,d] L fun f L=>za F (.bin .gtr) [x1,f] L fun g L=>zn g (zm (some (.ay [(.i .i64 4611686018427387904),(.i .i64 0)])) Q L) (za F (.bin .mul) [d,x1] L fun h L=>za F (.bin .add) [x0,h] L fun i L=>zm (some (.ay [i,(.i .i64 0)])) Q L))
def Cw (F:TF)(Q:TQ)(x0 x1 x2:AV)(L:Lg):Prop :=za F (.bin .lss) [x1,(.i .i64 1)] L fun a L=>zi F a false .mv [x0] L fun b L=>zi F a false (.bin .lss) [b,(.i .i64 0)] L fun c L=>za F .pick [a,(.b true),c] L fun d L=>zi F d false .mv [x2] L fun e L=>zi F d false (.bin .lss) [e,(.i .i64 0)] L fun f L=>za F .pick [d,(.b true),f] L fun g L=>zi F g false .mv [x1] L fun h L=>zi F g false (.bin .gtr) [h,(.i .i64 4611686018427387904)] L fun i L=>za F .pick [g,(.b true),i] L fun j L=>zi F j false .mv [x0] L fun k L=>zi F j false (.bin .gtr) [k,(.i .i64 4611686018427387904)] L fun m L=>za F .pick [j,(.b true),m] L fun n L=>zi F n false .mv [x2] L fun o L=>zi F n false (.bin .gtr) [o,(.i .i64 4611686018427387904)] L fun p L=>za F .pick [n,(.b true),p] L fun q L=>zn q (zm (some (.ay [(.i .i64 0),(.i .i64 1)])) Q L) (Cv F Q x0 x1 x2 L)
def Cx (F:TF)(Q:TQ)(x0 x1 x2:AV)(L:Lg):Prop :=Cw F Q x0 x1 x2 L
structure KS (F:TF):Prop where
 code:F As=some OS
theorem zkj (h:F As=some OS)(e:Cx F Q a0 a1 a2 L):zd F As [a0,a1,a2] L Q :=
 cw h (fun l t L=>wS (fun l t L=>wS (fun l t L=>lf (Cv F Q (l 0) (l 1) (l 2) L)) (lf (Cw F Q (l 0) (l 1) (l 2) L))) (lf (Cx F Q (l 0) (l 1) (l 2) L))) e
def fU (F:TF)(Q:TQ)(x1 x4 x6:AV)(L:Lg):Prop :=za F (.aj 0) [x6] L fun a L=>za F (.ld none) [a] L fun b L=>za F (.aj 1) [x6] L fun c L=>za F (.ld none) [c] L fun d L=>za F (.build [.i .i64 0,.i .i64 0,.i .i64 0] [(0,1),(1,1),(2,1)]) [b,d,x1] L fun e L=>za F (.st 3) [x4,e] L fun _ L=>zm (yz Env.nil Env.nil L [.cell (.c x4) (some 3),.tmp (.c (.b true))]) Q L
def Co (F:TF)(Q:TQ)(x0 x1 x4 x6 x7:AV)(L:Lg):Prop :=za F (.bin .gtr) [x7,(.i .i64 0)] L fun a L=>zn a (za F (.aj 1) [x6] L fun b L=>za F (.ld none) [b] L fun c L=>za F .min [x1,(.i .i64 4611686018427387904)] L fun d L=>zd F As [c,x7,d] L fun e L=>za F (.ext 0) [e] L fun f L=>za F (.ext 1) [e] L fun g L=>za F (.bin .eql) [g,(.i .i64 0)] L fun h L=>zi F h true .mv [f] L fun i L=>zi F h true .mv [x1] L fun j L=>zi F h true (.bin .gtr) [i,j] L fun k L=>za F .pick [h,k,(.b false)] L fun m L=>zn m (za F (.aj 0) [x6] L fun n L=>za F (.ld none) [n] L fun o L=>zd F oB [x0,o,f,x7] L fun p L=>fU F Q x1 x4 x6 L) (fU F Q x1 x4 x6 L)) (fU F Q x1 x4 x6 L)
def Cp (F:TF)(Q:TQ)(x0 x1 x4 x6 x7:AV)(L:Lg):Prop :=za F (.aj 0) [x6] L fun a L=>za F (.ld none) [a] L fun b L=>zd F mK [x0,b] L fun c L=>Co F Q x0 x1 x4 x6 x7 L
def Cq (F:TF)(Q:TQ)(x0 x1 x4 x6:AV)(L:Lg):Prop :=za F (.aj 0) [x6] L fun a L=>za F (.ld none) [a] L fun b L=>zd F Au [x0,b] L fun c L=>Cp F Q x0 x1 x4 x6 c L
def Cr (F:TF)(Q:TQ)(x0 x1 x4:AV)(L:Lg):Prop :=za F .aa [x0] L fun a L=>za F (.aj 0) [a] L fun b L=>za F (.aj 0) [b] L fun c L=>za F (.ld none) [c] L fun d L=>za F (.aX 3) [d,(.i .i64 0)] L fun e L=>za F (.ld (some 3)) [e] L fun f L=>za F (.alloc [.i .i64 0,.i .i64 0,.i .i64 0]) [] L fun g L=>za F (.st 3) [g,f] L fun _ L=>Cq F Q x0 x1 x4 g L
def Ct (F:TF)(Q:TQ)(x0 x1 x4:AV)(L:Lg):Prop :=za F (.bin .lss) [x1,(.i .i64 0)] L fun a L=>zi F a false .mv [x0] L fun b L=>zi F a false .aa [b] L fun c L=>zi F a false (.aj 0) [c] L fun d L=>zi F a false (.aj 0) [d] L fun e L=>zi F a false (.ld none) [e] L fun f L=>zi F a false .ax [f] L fun g L=>zi F a false (.bin .eql) [g,(.i .i64 0)] L fun h L=>za F .pick [a,(.b true),h] L fun i L=>zi F i false .mv [x0] L fun j L=>zi F i false .aa [j] L fun k L=>zi F i false (.aj 0) [k] L fun m L=>zi F i false (.aj 0) [m] L fun n L=>zi F i false (.ld none) [n] L fun o L=>zi F i false (.aX 3) [o,(.i .i64 0)] L fun p L=>zi F i false (.aj 1) [p] L fun q L=>zi F i false (.ld none) [q] L fun r L=>zi F i false .mv [x1] L fun s L=>zi F i false (.bin .gtr) [r,s] L fun t L=>za F .pick [i,(.b true),t] L fun u L=>zn u (za F (.build [.i .i64 0,.i .i64 0,.i .i64 0] []) [] L fun v L=>za F (.st 3) [x4,v] L fun _ L=>zm (yz Env.nil Env.nil L [.cell (.c x4) (some 3),.tmp (.c (.b false))]) Q L) (Cr F Q x0 x1 x4 L)
def Cu (F:TF)(Q:TQ)(x0 x1:AV)(L:Lg):Prop :=za F (.alloc [.i .i64 0,.i .i64 0,.i .i64 0]) [] L fun a L=>Ct F Q x0 x1 a L
structure KR (F:TF):Prop where
 code:F Ar=some OR
 f82:KT F
 f68:EU F
 f83:KS F
 f70:G7 F
theorem zki (h:F Ar=some OR)(e:Cu F Q a0 a1 L):zd F Ar [a0,a1] L Q :=
 cw h (fun l t L=>wS (fun l t L=>wS (fun l t L=>wS (fun l t L=>wS (fun l t L=>wS (fun l t L=>wS (fun l t L=>lf (fU F Q (l 1) (l 4) (l 6) L)) (lf (Co F Q (l 0) (l 1) (l 4) (l 6) (l 7) L))) (lf (Cp F Q (l 0) (l 1) (l 4) (l 6) (l 7) L))) (lf (Cq F Q (l 0) (l 1) (l 4) (l 6) L))) (lf (Cr F Q (l 0) (l 1) (l 4) L))) (lf (Ct F Q (l 0) (l 1) (l 4) L))) (lf (Cu F Q (l 0) (l 1) L))) e
def Ck (F:TF)(Q:TQ)(x0 x1:AV)(L:Lg):Prop :=za F .aa [x0] L fun a L=>za F (.aj 4) [a] L fun b L=>za F (.ld none) [b] L fun c L=>za F .ax [c] L fun d L=>za F .aa [x0] L fun e L=>za F (.aj 0) [e] L fun f L=>za F (.ld none) [f] L fun g L=>za F (.bin .lss) [d,g] L fun h L=>zn h (za F (.aC [.i .i64 0] 0 1 []) [] L fun i L=>za F .aa [x0] L fun j L=>za F (.aj 4) [j] L fun k L=>za F (.ld none) [k] L fun m L=>za F (.app 1 8) [i,m] L fun n L=>za F (.aC [.i .i64 0] 1 1 [0]) [x1] L fun o L=>za F (.app 1 8) [n,o] L fun p L=>za F .aa [x0] L fun q L=>za F (.aj 4) [q] L fun r L=>za F (.st 1) [r,p] L fun _ L=>zm (some (.ay [(.b true),(.sl none 0 0 0)])) Q L) (zm (some (.ay [(.b false),(.sl none 0 0 0)])) Q L)
def Cm (F:TF)(Q:TQ)(x0 x1:AV)(L:Lg):Prop :=za F .aa [x0] L fun a L=>za F (.aj 6) [a] L fun b L=>za F (.ld none) [b] L fun c L=>za F .ax [c] L fun d L=>za F (.bin .gtr) [d,(.i .i64 0)] L fun e L=>zn e (za F .aa [x0] L fun f L=>za F (.aj 6) [f] L fun g L=>za F (.ld none) [g] L fun h L=>za F (.aX 3) [h,(.i .i64 0)] L fun i L=>za F (.ld (some 3)) [i] L fun j L=>za F (.alloc [.i .i64 0,.i .i64 0,.i .i64 0]) [] L fun k L=>za F (.st 3) [k,j] L fun _ L=>za F (.aC [.i .i64 0,.i .i64 0,.i .i64 0] 0 3 []) [] L fun m L=>za F .aa [x0] L fun n L=>za F (.aj 6) [n] L fun o L=>za F (.ld none) [o] L fun p L=>za F (.slc 3 true false false) [p,(.i .i64 1)] L fun q L=>za F (.app 3 24) [m,q] L fun r L=>za F .aa [x0] L fun s L=>za F (.aj 6) [s] L fun t L=>za F (.st 1) [t,r] L fun _ L=>za F (.aj 0) [k] L fun u L=>za F (.ld none) [u] L fun v L=>za F (.aj 1) [k] L fun w L=>za F (.ld none) [w] L fun x L=>za F (.build [.i .i64 0,.i .i64 0,.i .i64 0,.b false,.b false] [(0,1),(1,1),(2,1),(3,1)]) [v,x,x1,(.b true)] L fun y L=>za F (.aC [.i .i64 0,.i .i64 0,.i .i64 0,.b false,.b false] 1 5 [0]) [y] L fun z L=>zm (some (.ay [(.b true),z])) Q L) (Ck F Q x0 x1 L)
def Cn (F:TF)(Q:TQ)(x0 x1:AV)(L:Lg):Prop :=Cm F Q x0 x1 L
structure KQ (F:TF):Prop where
 code:F Aq=some OQ
theorem zkh (h:F Aq=some OQ)(e:Cn F Q a0 a1 L):zd F Aq [a0,a1] L Q :=
 cw h (fun l t L=>wS (fun l t L=>wS (fun l t L=>lf (Ck F Q (l 0) (l 1) L)) (lf (Cm F Q (l 0) (l 1) L))) (lf (Cn F Q (l 0) (l 1) L))) e
def ny (F:TF)(Q:TQ)(x0 x1:AV)(L:Lg):Prop :=za F (.eq false .ptr) [x0,(.p none)] L fun a L=>zi F a false .mv [x0] L fun b L=>zi F a false .aa [b] L fun c L=>zi F a false (.aj 1) [c] L fun d L=>zi F a false (.ld none) [d] L fun e L=>zi F a false (.un .not) [e] L fun f L=>za F .pick [a,(.b true),f] L fun g L=>zn g (zm (some (.ay [(.sl none 0 0 0),(.b false)])) Q L) (zd F Aq [x0,x1] L fun h L=>za F (.ext 0) [h] L fun i L=>za F (.ext 1) [h] L fun j L=>zm (some (.ay [j,i])) Q L)
structure KP (F:TF):Prop where
 code:F Ap=some OP
 f85:KQ F
theorem NP (h:F Ap=some OP)(e:ny F Q a0 a1 L):zd F Ap [a0,a1] L Q :=
 cw h (fun l t L=>lf (ny F Q (l 0) (l 1) L)) e
def Ci (F:TF)(Q:TQ)(x1 x4 x6 x8:AV)(L:Lg):Prop :=za F (.aj 0) [x6] L fun a L=>za F (.ld none) [a] L fun b L=>za F (.aj 0) [x8] L fun c L=>za F (.ld none) [c] L fun d L=>za F (.aj 1) [x6] L fun e L=>za F (.ld none) [e] L fun f L=>za F (.aj 1) [x8] L fun g L=>za F (.ld none) [g] L fun h L=>za F (.build [.i .i64 0,.i .i64 0,.i .i64 0,.i .i64 0,.i .i64 0,.sl none 0 0 0,.b false] [(0,1),(1,1),(2,1),(3,1),(4,1)]) [b,d,f,x1,h] L fun i L=>za F (.alloc [.i .i64 0,.i .i64 0,.i .i64 0,.i .i64 0,.i .i64 0,.sl none 0 0 0,.b false]) [] L fun j L=>za F (.st 7) [j,i] L fun _ L=>za F (.aj 2) [x8] L fun k L=>za F (.ld none) [k] L fun m L=>za F (.eq true .ptr) [m,(.p none)] L fun n L=>zn n (za F (.aj 2) [x8] L fun o L=>za F (.ld none) [o] L fun p L=>zd F Ap [p,x1] L fun q L=>za F (.ext 0) [q] L fun r L=>za F (.ext 1) [q] L fun s L=>za F (.aj 5) [j] L fun t L=>za F (.st 1) [t,r] L fun _ L=>za F (.aj 6) [j] L fun u L=>za F (.st 1) [u,s] L fun _ L=>za F (.ld (some 7)) [j] L fun v L=>za F (.st 7) [x4,v] L fun _ L=>zm (yz Env.nil Env.nil L [.cell (.c x4) (some 7),.tmp (.c (.b true))]) Q L) (za F (.ld (some 7)) [j] L fun w L=>za F (.st 7) [x4,w] L fun _ L=>zm (yz Env.nil Env.nil L [.cell (.c x4) (some 7),.tmp (.c (.b true))]) Q L)
def Cj (F:TF)(Q:TQ)(x0 x1 x4 x6:AV)(L:Lg):Prop :=za F .aa [x0] L fun a L=>za F (.aj 3) [a] L fun b L=>za F (.ld none) [b] L fun c L=>za F (.aj 0) [x6] L fun d L=>za F (.ld none) [d] L fun e L=>za F (.aX 4) [c,e] L fun f L=>za F (.ld (some 4)) [f] L fun g L=>za F (.alloc [.i .i64 0,.i .i64 0,.p none,.i .i64 0]) [] L fun h L=>za F (.st 4) [h,g] L fun _ L=>Ci F Q x1 x4 x6 h L
def nj (F:TF)(Q:TQ)(x0 x1 x4 x6 x7:AV)(L:Lg):Prop :=za F (.un .not) [x7] L fun a L=>zn a (za F (.build [.i .i64 0,.i .i64 0,.i .i64 0,.i .i64 0,.i .i64 0,.sl none 0 0 0,.b false] []) [] L fun b L=>za F (.st 7) [x4,b] L fun _ L=>zm (yz Env.nil Env.nil L [.cell (.c x4) (some 7),.tmp (.c (.b false))]) Q L) (Cj F Q x0 x1 x4 x6 L)
def nq (F:TF)(Q:TQ)(x0 x1 x4:AV)(L:Lg):Prop :=za F .aa [x0] L fun a L=>za F (.aj 0) [a] L fun b L=>zd F Ar [b,x1] L fun c L=>za F (.ext 0) [c] L fun d L=>za F (.ext 1) [c] L fun e L=>za F (.alloc [.i .i64 0,.i .i64 0,.i .i64 0]) [] L fun f L=>za F (.st 3) [f,d] L fun _ L=>nj F Q x0 x1 x4 f e L
def nu (F:TF)(Q:TQ)(x0 x1:AV)(L:Lg):Prop :=za F (.alloc [.i .i64 0,.i .i64 0,.i .i64 0,.i .i64 0,.i .i64 0,.sl none 0 0 0,.b false]) [] L fun a L=>nq F Q x0 x1 a L
structure A9 (F:TF):Prop where
 code:F gB=some OO
 f84:KR F
 f86:KP F
theorem NO (h:F gB=some OO)(e:nu F Q a0 a1 L):zd F gB [a0,a1] L Q :=
 cw h (fun l t L=>wS (fun l t L=>wS (fun l t L=>wS (fun l t L=>wS (fun l t L=>lf (Ci F Q (l 1) (l 4) (l 6) (l 8) L)) (lf (Cj F Q (l 0) (l 1) (l 4) (l 6) L))) (lf (nj F Q (l 0) (l 1) (l 4) (l 6) (l 7) L))) (lf (nq F Q (l 0) (l 1) (l 4) L))) (lf (nu F Q (l 0) (l 1) L))) e
def Ce (F:TF)(Q:TQ)(L:Lg):Prop :=zm (some (.b true)) Q L
def Cb (F:TF)(Q:TQ)(k1:TK)(l:Env)(L:Lg):Prop :=za F .ax [(l 0)] L fun a L=>za F (.bin .lss) [(l 5),a] L fun b L=>zn b (za F (.aX 5) [(l 0),(l 5)] L fun c L=>za F (.ld (some 5)) [c] L fun d L=>za F (.aX 5) [(l 1),(l 5)] L fun e L=>za F (.ld (some 5)) [e] L fun f L=>za F (.eq true (.agg [(0,1),(1,1),(2,1),(3,0),(4,0)])) [d,f] L fun g L=>zn g (zm (some (.b false)) Q L) (za F (.bin .add) [(l 5),(.i .i64 1)] L fun h L=>k1 (Env.put l 5 h) L)) (Ce F Q L)
def Cc (F:TF)(Q:TQ)(l:Env)(L:Lg):Prop :=xA (fun l t L k1=>Cb F Q k1 l L) l L
def Cd (F:TF)(Q:TQ)(l:Env)(L:Lg):Prop :=Cc F Q (Env.put l 5 (.i .i64 0)) L
def Cf (F:TF)(Q:TQ)(l:Env)(L:Lg):Prop :=za F .ax [(l 0)] L fun a L=>za F .ax [(l 1)] L fun b L=>za F (.bin .neq) [a,b] L fun c L=>zn c (zm (some (.b false)) Q L) (Cd F Q l L)
def Cg (F:TF)(Q:TQ)(l:Env)(L:Lg):Prop :=Cf F Q (Env.put l 4 (.b false)) L
structure KO (F:TF):Prop where
 code:F Ao=some ON
theorem zkg (h:F Ao=some ON)(e:Cg F Q (zI [a0,a1] 0) L):zd F Ao [a0,a1] L Q :=
 cw h (fun l t L=>wS (fun l t L=>wS (fun l t L=>wS (fun l t L=>lf (Ce F Q L)) (wS (fun l t L=>wB (wL (fun l t L k1=>lf (Cb F Q k1 l L)) (lf (Cc F Q l L)))) (lf (Cd F Q l L)))) (lf (Cf F Q l L))) (lf (Cg F Q l L))) e
def Ca (F:TF)(Q:TQ)(x0 x1:AV)(L:Lg):Prop :=za F .box [x0] L fun a L=>za F (.aj 0) [a] L fun b L=>za F (.ld none) [b] L fun c L=>za F (.aj 0) [x1] L fun d L=>za F (.ld none) [d] L fun e L=>za F (.bin .neq) [c,e] L fun f L=>zm (some f) Q L
structure PW (F:TF):Prop where
 code:F oA=some OM
theorem zkf (h:F oA=some OM)(e:Ca F Q a0 a1 L):zd F oA [a0,a1] L Q :=
 cw h (fun l t L=>lf (Ca F Q (l 0) (l 1) L)) e
def B9 (F:TF)(Q:TQ)(x0 x1:AV)(L:Lg):Prop :=zd F iJ [x0,x1] L fun a L=>zd F AX [a] L fun b L=>zm (some b) Q L
structure KN (F:TF):Prop where
 code:F oz=some OL
 f58:He F
 f15:LG F
theorem zke (h:F oz=some OL)(e:B9 F Q a0 a1 L):zd F oz [a0,a1] L Q :=
 cw h (fun l t L=>lf (B9 F Q (l 0) (l 1) L)) e
def B7 (F:TF)(Q:TQ)(L:Lg):Prop :=zm (some (.i .i64 (-1))) Q L
def B4 (F:TF)(Q:TQ)(k1:TK)(l:Env)(L:Lg):Prop :=za F (.bin .lss) [(l 8),(l 7)] L fun a L=>zn a (za F (.aX 3) [(l 0),(l 8)] L fun b L=>za F (.ld (some 3)) [b] L fun c L=>za F .eX [(l 1),c] L fun d L=>zn d (zm (some (l 8)) Q L) (za F (.bin .add) [(l 8),(.i .i64 1)] L fun e L=>k1 (Env.put (Env.put l 5 (l 8)) 8 e) L)) (B7 F Q L)
def B5 (F:TF)(Q:TQ)(l:Env)(L:Lg):Prop :=xA (fun l t L k1=>B4 F Q k1 l L) l L
def B6 (F:TF)(Q:TQ)(l:Env)(L:Lg):Prop :=za F .ax [(l 0)] L fun a L=>B5 F Q (Env.put (Env.put l 7 a) 8 (.i .i64 0)) L
def B8 (F:TF)(Q:TQ)(l:Env)(L:Lg):Prop :=B6 F Q (Env.put l 4 (.i .i64 0)) L
structure PV (F:TF):Prop where
 code:F An=some OK
theorem zkd (h:F An=some OK)(e:B8 F Q (zI [a0,a1] 0) L):zd F An [a0,a1] L Q :=
 cw h (fun l t L=>wS (fun l t L=>wS (fun l t L=>lf (B7 F Q L)) (wS (fun l t L=>wB (wL (fun l t L k1=>lf (B4 F Q k1 l L)) (lf (B5 F Q l L)))) (lf (B6 F Q l L)))) (lf (B8 F Q l L))) e
def B3 (F:TF)(Q:TQ)(x0 x1:AV)(L:Lg):Prop :=zd F An [x0,x1] L fun a L=>za F (.bin .geq) [a,(.i .i64 0)] L fun b L=>zm (some b) Q L
structure KM (F:TF):Prop where
 code:F oy=some OJ
 f96:PV F
theorem zkc (h:F oy=some OJ)(e:B3 F Q a0 a1 L):zd F oy [a0,a1] L Q :=
 cw h (fun l t L=>lf (B3 F Q (l 0) (l 1) L)) e
def Hq (F:TF)(Q:TQ)(x0 x1 x2:AV)(L:Lg):Prop :=za F .box [x1] L fun a L1=>za F (.eq false .ptr) [x0,(.p none)] L1 fun b L2=>zn b (zm (some (.i .i64 6)) Q L2) (zd F AE [x0] L2 fun c L3=>zi F c true .mv [x2] L3 fun d L4=>za F .pick [c,d,(.b false)] L4 fun e L5=>zn e (zm (some (.i .i64 7)) Q L5) (za F .aa [x0] L5 fun f L6=>za F (.aj 5) [f] L6 fun g L7=>za F (.ld none) [g] L7 fun h L8=>zn h (zm (some (.i .i64 5)) Q L8) (za F (.HD oA 0) [a] L8 fun i L9=>zd F oE [x0,x2] L9 fun j dG=>zi F j false .mv [x0] dG fun k gz=>zi F j false .mv [x2] gz fun m iV=>zi F j false (.un .not) [m] iV fun n iU=>zi F j false (.call oz) [k,n] iU fun o jx=>zi F j false .mv [i] jx fun p A7=>zi F j false (.call oy) [o,p] A7 fun q Aj=>za F .pick [j,(.b true),q] Aj fun r ku=>zn r (zm (some (.i .i64 1)) Q ku) (zd F iJ [x0,x2] ku fun s iu=>za F (.ld (some 3)) [a] iu fun t ir=>zd F mR [s,t] ir fun u ni=>(yb (.ld (some 3)) [a] iu ku∧True)∧(zm (some (.i .i64 0)) Q ni)))))
structure A8 (F:TF):Prop where
 code:F ox=some OI
 f56:Lk F
 f94:PW F
 f57:Lj F
 f95:KN F
 f97:KM F
 f58:He F
 f16:LF F
theorem NN (h:F ox=some OI)(e:Hq F Q a0 a1 a2 L):zd F ox [a0,a1,a2] L Q :=
 cw h (fun l t L=>lf (Hq F Q (l 0) (l 1) (l 2) L)) e
def B1 (F:TF)(Q:TQ)(L:Lg):Prop :=zm (some (.b false)) Q L
def BX (F:TF)(Q:TQ)(k1:TK)(l:Env)(L:Lg):Prop :=za F .ax [(l 0)] L fun a L=>za F (.bin .lss) [(l 5),a] L fun b L=>zn b (za F (.aX 3) [(l 0),(l 5)] L fun c L=>za F (.aj 0) [c] L fun d L=>za F (.ld none) [d] L fun e L=>za F (.bin .neq) [e,(l 1)] L fun f L=>zn f (zm (some (.b true)) Q L) (za F (.bin .add) [(l 5),(.i .i64 1)] L fun g L=>k1 (Env.put l 5 g) L)) (B1 F Q L)
def BY (F:TF)(Q:TQ)(l:Env)(L:Lg):Prop :=xA (fun l t L k1=>BX F Q k1 l L) l L
def BZ (F:TF)(Q:TQ)(l:Env)(L:Lg):Prop :=BY F Q (Env.put l 5 (.i .i64 0)) L
def B2 (F:TF)(Q:TQ)(l:Env)(L:Lg):Prop :=BZ F Q (Env.put l 4 (.b false)) L
structure KL (F:TF):Prop where
 code:F ou=some OH
theorem zkb (h:F ou=some OH)(e:B2 F Q (zI [a0,a1] 0) L):zd F ou [a0,a1] L Q :=
 cw h (fun l t L=>wS (fun l t L=>wS (fun l t L=>lf (B1 F Q L)) (wS (fun l t L=>wB (wL (fun l t L k1=>lf (BX F Q k1 l L)) (lf (BY F Q l L)))) (lf (BZ F Q l L)))) (lf (B2 F Q l L))) e
def jq (F:TF)(Q:TQ)(L:Lg):Prop :=zm (some (.i .i64 0)) Q L
def uX (F:TF)(Q:TQ)(L:Lg):Prop :=zm (some (.i .i64 6)) Q L
def Bg (F:TF)(Q:TQ)(L:Lg):Prop :=zm (some (.i .i64 7)) Q L
def mE (F:TF)(Q:TQ)(L:Lg):Prop :=zm (some (.i .i64 5)) Q L
def eH (F:TF)(Q:TQ)(x0 x2 x4 t41:AV)(L:Lg):Prop :=zn t41 (zm (some (.i .i64 1)) Q L) (zn x2 (za F (.aC [.i .i64 0,.i .i64 0,.i .i64 0] 0 3 []) [] L fun a L1=>za F .aa [x0] L1 fun b L2=>za F (.aj 5) [b] L2 fun c L3=>za F (.ld none) [c] L3 fun d L4=>za F (.app 3 24) [a,d] L4 fun e L5=>za F (.ld (some 3)) [x4] L5 fun f L6=>za F (.aC [.i .i64 0,.i .i64 0,.i .i64 0] 1 3 [0]) [f] L6 fun g L7=>za F (.app 3 24) [e,g] L7 fun h L8=>za F .aa [x0] L8 fun i L9=>za F (.aj 5) [i] L9 fun j dG=>za F (.st 1) [j,h] dG fun _ gz=>(yb (.ld (some 3)) [x4] L5 L∧True)∧(jq F Q gz)) (za F (.aC [.i .i64 0,.i .i64 0,.i .i64 0] 0 3 []) [] L fun k iV=>za F .aa [x0] iV fun m iU=>za F (.aj 6) [m] iU fun n jx=>za F (.ld none) [n] jx fun o A7=>za F (.app 3 24) [k,o] A7 fun p Aj=>za F (.ld (some 3)) [x4] Aj fun q ku=>za F (.aC [.i .i64 0,.i .i64 0,.i .i64 0] 1 3 [0]) [q] ku fun r iu=>za F (.app 3 24) [p,r] iu fun s ir=>za F .aa [x0] ir fun t ni=>za F (.aj 6) [t] ni fun u F5=>za F (.st 1) [u,s] F5 fun _ G6=>(yb (.ld (some 3)) [x4] Aj L∧True)∧(jq F Q G6)))
def mC (F:TF)(Q:TQ)(x0 x2 x4 t41:AV)(L:Lg):Prop :=zn t41 (eH F Q x0 x2 x4 t41 L) (za F (.un .not) [x2] L fun a L=>zi F a true .mv [x0] L fun b L=>zi F a true .aa [b] L fun c L=>zi F a true (.aj 4) [c] L fun d L=>zi F a true (.ld none) [d] L fun e L=>zi F a true .ax [e] L fun f L=>zi F a true (.bin .gtr) [f,(.i .i64 0)] L fun g L=>zi F a true .mv [g] L fun h L=>zi F h false .mv [x0] L fun i L=>zi F h false .aa [i] L fun j L=>zi F h false (.aj 5) [j] L fun k L=>zi F h false (.ld none) [k] L fun m L=>zi F h false (.aj 0) [x4] L fun n L=>zi F h false (.ld none) [n] L fun o L=>zi F h false (.call ou) [m,o] L fun p L=>zi F a true .pick [h,(.b true),p] L fun q L=>za F .pick [a,q,(.b false)] L fun r L=>eH F Q x0 x2 x4 r L)
def mD (F:TF)(Q:TQ)(x0 x2 x4:AV)(L:Lg):Prop :=zi F x2 true .mv [x0] L fun a L=>zi F x2 true .aa [a] L fun b L=>zi F x2 true (.aj 4) [b] L fun c L=>zi F x2 true (.ld none) [c] L fun d L=>zi F x2 true .ax [d] L fun e L=>zi F x2 true .mv [x0] L fun f L=>zi F x2 true .aa [f] L fun g L=>zi F x2 true (.aj 0) [g] L fun h L=>zi F x2 true (.ld none) [h] L fun i L=>zi F x2 true (.bin .lss) [e,i] L fun j L=>zi F x2 true .mv [j] L fun k L=>zi F k false .mv [x0] L fun m L=>zi F k false .aa [m] L fun n L=>zi F k false (.aj 6) [n] L fun o L=>zi F k false (.ld none) [o] L fun p L=>zi F k false (.aj 0) [x4] L fun q L=>zi F k false (.ld none) [q] L fun r L=>zi F k false (.call ou) [p,r] L fun s L=>zi F x2 true .pick [k,(.b true),s] L fun t L=>za F .pick [x2,t,(.b false)] L fun u L=>mC F Q x0 x2 x4 u L
def mF (F:TF)(Q:TQ)(x0 x2 x4 t36:AV)(L:Lg):Prop :=zn t36 (mE F Q L) (mD F Q x0 x2 x4 L)
def mG (F:TF)(Q:TQ)(x0 x2 x4:AV)(L:Lg):Prop :=za F .aa [x0] L fun a L=>za F (.aj 3) [a] L fun b L=>za F (.ld none) [b] L fun c L=>mF F Q x0 x2 x4 c L
def uV (F:TF)(Q:TQ)(x0 x2 x4 t22:AV)(L:Lg):Prop :=zn t22 (Bg F Q L) (mG F Q x0 x2 x4 L)
def uW (F:TF)(Q:TQ)(x0 x2 x4:AV)(L:Lg):Prop :=zi F x2 true .mv [x0] L fun a L=>zi F x2 true .aa [a] L fun b L=>zi F x2 true (.aj 1) [b] L fun c L=>zi F x2 true (.ld none) [c] L fun d L=>zi F x2 true .mv [d] L fun e L=>zi F e false .mv [x0] L fun f L=>zi F e false .aa [f] L fun g L=>zi F e false (.aj 2) [g] L fun h L=>zi F e false (.ld none) [h] L fun i L=>zi F x2 true .pick [e,(.b true),i] L fun j L=>za F .pick [x2,j,(.b false)] L fun k L=>uV F Q x0 x2 x4 k L
def jn (F:TF)(Q:TQ)(x0 x2 x4 t19:AV)(L:Lg):Prop :=zn t19 (uX F Q L) (uW F Q x0 x2 x4 L)
def jo (F:TF)(Q:TQ)(x0 x2 x4:AV)(L:Lg):Prop :=za F (.eq false .ptr) [x0,(.p none)] L fun a L=>jn F Q x0 x2 x4 a L
def jr (F:TF)(Q:TQ)(x0 x1 x2:AV)(L:Lg):Prop :=za F .box [x1] L fun a L=>jo F Q x0 x2 a L
structure pU (F:TF):Prop where
 code:F ic=some KI
 f99:KL F
theorem IM (h:F ic=some KI)(e:jr F Q a0 a1 a2 L):zd F ic [a0,a1,a2] L Q :=
 cw h (fun l t L=>wS (fun l t L=>wS (fun l t L=>lf (jq F Q L)) (wB (wS (fun l t L=>wC (lf (uX F Q L)) (wS (fun l t L=>wC (lf (Bg F Q L)) (wS (fun l t L=>wC (lf (mE F Q L)) (wS (fun l t L=>lf (eH F Q (l 0) (l 2) (l 4) (t 41) L)) (wS (fun l t L=>lf (mC F Q (l 0) (l 2) (l 4) (t 41) L)) (lf (mD F Q (l 0) (l 2) (l 4) L)))) (lf (mF F Q (l 0) (l 2) (l 4) (t 36) L))) (lf (mG F Q (l 0) (l 2) (l 4) L))) (lf (uV F Q (l 0) (l 2) (l 4) (t 22) L))) (lf (uW F Q (l 0) (l 2) (l 4) L))) (lf (jn F Q (l 0) (l 2) (l 4) (t 19) L))) (lf (jo F Q (l 0) (l 2) (l 4) L))))) (lf (jr F Q (l 0) (l 1) (l 2) L))) e
def uU (F:TF)(Q:TQ)(L:Lg):Prop :=za F (.build [.sl none 0 0 0] []) [] L fun a L=>za F .box [a] L fun b L=>zm (some b) Q L
structure Gl (F:TF):Prop where
 code:F jZ=some KH
theorem Rr (h:F jZ=some KH)(e:uU F Q L):zd F jZ [] L Q :=
 cw h (fun l t L=>lf (uU F Q L)) e
def uT (F:TF)(Q:TQ)(x0:AV)(L:Lg):Prop :=za F (.eq false .ptr) [x0,(.p none)] L fun a L=>zn a (zm (some (.i .i64 0)) Q L) (za F .aa [x0] L fun b L=>za F (.aj 0) [b] L fun c L=>za F (.ld none) [c] L fun d L=>za F .ax [d] L fun e L=>zm (some e) Q L)
structure Gk (F:TF):Prop where
 code:F jY=some KG
theorem Rq (h:F jY=some KG)(e:uT F Q a0 L):zd F jY [a0] L Q :=
 cw h (fun l t L=>lf (uT F Q (l 0) L)) e
def uS (F:TF)(Q:TQ)(x0 x1:AV)(L:Lg):Prop :=za F (.bin .geq) [x1,(.i .i64 0)] L fun a L=>zi F a true .mv [x1] L fun b L=>zi F a true .mv [x0] L fun c L=>zi F a true (.call jY) [c] L fun d L=>zi F a true (.bin .lss) [b,d] L fun e L=>za F .pick [a,e,(.b false)] L fun f L=>zm (some f) Q L
structure pT (F:TF):Prop where
 code:F fA=some KF
 f118:Gk F
theorem Rp (h:F fA=some KF)(e:uS F Q a0 a1 L):zd F fA [a0,a1] L Q :=
 cw h (fun l t L=>lf (uS F Q (l 0) (l 1) L)) e
def fN (F:TF)(Q:TQ)(x0 x1 x2 x8:AV)(L:Lg):Prop :=za F .aa [x0] L fun a L=>za F (.aj 0) [a] L fun b L=>za F (.ld none) [b] L fun c L=>za F (.build [.i .i64 0,.b false,.sl none 0 0 0] [(0,1),(1,1)]) [x1,x2] L fun d L=>za F (.aC [.i .i64 0,.b false,.sl none 0 0 0] 1 3 [0]) [d] L fun e L=>za F (.app 3 40) [c,e] L fun f L=>za F .aa [x0] L fun g L=>za F (.aj 0) [g] L fun h L=>za F (.st 1) [h,f] L fun _ L=>zm (some (.ay [x8,(.i .i64 0)])) Q L
def jm (F:TF)(Q:TQ)(x0 x1 x2 x8:AV)(L:Lg):Prop :=zn x2 (za F .aa [x0] L fun a L1=>za F (.aj 0) [a] L1 fun b L2=>za F (.ld none) [b] L2 fun c L3=>za F .aa [x0] L3 fun d L4=>za F (.aj 0) [d] L4 fun e L5=>za F (.ld none) [e] L5 fun f L6=>za F (.aX 3) [f,x1] L6 fun g L7=>za F (.aj 2) [g] L7 fun h L8=>za F (.ld none) [h] L8 fun i L9=>za F (.aC [.i .i64 0] 1 1 [0]) [x8] L9 fun j dG=>za F (.app 1 8) [i,j] dG fun k gz=>za F (.aX 3) [c,x1] gz fun m iV=>za F (.aj 2) [m] iV fun n iU=>za F (.st 1) [n,k] iU fun _ jx=>(yb (.ld none) [b] L2 gz∧True)∧(fN F Q x0 x1 x2 x8 jx)) (fN F Q x0 x1 x2 x8 L)
def uP (F:TF)(Q:TQ)(x0 x1 x2 x8:AV)(L:Lg):Prop :=zi F x2 true .mv [x1] L fun a L=>zi F x2 true (.bin .neq) [a,(.i .i64 (-1))] L fun b L=>za F .pick [x2,b,(.b false)] L fun c L=>jm F Q x0 x1 c x8 L
def fO (F:TF)(Q:TQ)(x0 x1 x2:AV)(L:Lg):Prop :=za F .aa [x0] L fun a L=>za F (.aj 0) [a] L fun b L=>za F (.ld none) [b] L fun c L=>za F .ax [c] L fun d L=>uP F Q x0 x1 x2 d L
def uQ (F:TF)(Q:TQ)(x0 x1 x2:AV)(L:Lg):Prop :=za F (.eq false .ptr) [x0,(.p none)] L fun a L=>zn a (zn a (zm (some (.ay [(.i .i64 0),(.i .i64 1)])) Q L) (za F .aa [x0] L fun b L=>za F (.aj 0) [b] L fun c L=>za F (.ld none) [c] L fun d L=>za F .ax [d] L fun e L=>za F (.bin .geq) [e,(.i .i64 1000)] L fun f L=>zn f (zm (some (.ay [(.i .i64 0),(.i .i64 3)])) Q L) (fO F Q x0 x1 x2 L))) (za F (.bin .neq) [x1,(.i .i64 (-1))] L fun g L=>zi F g true .mv [x0] L fun h L=>zi F g true .mv [x1] L fun i L=>zi F g true (.call fA) [h,i] L fun j L=>zi F g true (.un .not) [j] L fun k L=>za F .pick [g,k,(.b false)] L fun m L=>zn m (zm (some (.ay [(.i .i64 0),(.i .i64 1)])) Q L) (za F .aa [x0] L fun n L=>za F (.aj 0) [n] L fun o L=>za F (.ld none) [o] L fun p L=>za F .ax [p] L fun q L=>za F (.bin .geq) [q,(.i .i64 1000)] L fun r L=>zn r (zm (some (.ay [(.i .i64 0),(.i .i64 3)])) Q L) (fO F Q x0 x1 x2 L)))
def uR (F:TF)(Q:TQ)(x0 x1 x2:AV)(L:Lg):Prop :=uQ F Q x0 x1 x2 L
structure BW (F:TF):Prop where
 code:F ia=some KE
 f119:pT F
theorem Ro (h:F ia=some KE)(e:uR F Q a0 a1 a2 L):zd F ia [a0,a1,a2] L Q :=
 cw h (fun l t L=>wS (fun l t L=>wS (fun l t L=>wS (fun l t L=>wS (fun l t L=>wS (fun l t L=>lf (fN F Q (l 0) (l 1) (l 2) (l 8) L)) (lf (jm F Q (l 0) (l 1) (l 2) (l 8) L))) (lf (uP F Q (l 0) (l 1) (l 2) (l 8) L))) (lf (fO F Q (l 0) (l 1) (l 2) L))) (lf (uQ F Q (l 0) (l 1) (l 2) L))) (lf (uR F Q (l 0) (l 1) (l 2) L))) e
def uM (F:TF)(Q:TQ)(x0 x4:AV)(L:Lg):Prop :=za F (.aj 8) [x4] L fun a L=>za F (.st 1) [a,(.i .i64 (-1))] L fun _ L=>za F .aa [x0] L fun b L=>za F (.aj 4) [b] L fun c L=>za F (.ld none) [c] L fun d L=>za F (.aj 0) [x4] L fun e L=>za F (.ld none) [e] L fun f L=>za F .aa [x0] L fun g L=>za F (.aj 2) [g] L fun h L=>za F (.ld none) [h] L fun i L=>za F .ax [i] L fun j L=>za F .oh [d,f,j] L fun _ L=>za F .aa [x0] L fun k L=>za F (.aj 2) [k] L fun m L=>za F (.ld none) [m] L fun n L=>za F (.ld (some 9)) [x4] L fun o L=>za F (.aC [.i .i64 0,.b false,.p none,.i .i64 0,.i .i64 0,.i .i64 0,.b false,.b false,.i .i64 0] 1 9 [0]) [o] L fun p L=>za F (.app 9 64) [n,p] L fun q L=>za F .aa [x0] L fun r L=>za F (.aj 2) [r] L fun s L=>za F (.st 1) [s,q] L fun _ L=>za F .aa [x0] L fun t L=>za F (.aj 2) [t] L fun u L=>za F (.ld none) [u] L fun v L=>za F .ax [v] L fun w L=>za F (.bin .sub) [w,(.i .i64 1)] L fun x L=>zm (some x) Q L
def uN (F:TF)(Q:TQ)(x0 x2 x4:AV)(L:Lg):Prop :=za F .aa [x0] L fun a L=>za F (.aj 1) [a] L fun b L=>za F (.ld none) [b] L fun c L=>za F (.aj 1) [x4] L fun d L=>za F (.ld none) [d] L fun e L=>za F (.un .not) [e] L fun f L=>zd F ia [c,x2,f] L fun g L=>za F (.ext 0) [g] L fun h L=>za F (.ext 1) [g] L fun i L=>za F (.aj 0) [x4] L fun j L=>za F (.st 1) [j,h] L fun _ L=>uM F Q x0 x4 L
def uO (F:TF)(Q:TQ)(x0 x1 x2:AV)(L:Lg):Prop :=za F .box [x1] L fun a L=>uN F Q x0 x2 a L
structure kD (F:TF):Prop where
 code:F eO=some KD
 f120:BW F
theorem Rn (h:F eO=some KD)(e:uO F Q a0 a1 a2 L):zd F eO [a0,a1,a2] L Q :=
 cw h (fun l t L=>wS (fun l t L=>wS (fun l t L=>lf (uM F Q (l 0) (l 4) L)) (lf (uN F Q (l 0) (l 2) (l 4) L))) (lf (uO F Q (l 0) (l 1) (l 2) L))) e
def uL (F:TF)(Q:TQ)(x0:AV)(L:Lg):Prop :=zd F jZ [] L fun a L=>za F .iH [] L fun b L=>za F (.build [.p none,.p none,.sl none 0 0 0,.sl none 0 0 0,.m none] [(0,1),(1,1),(4,1)]) [x0,a,b] L fun c L=>za F .box [c] L fun d L=>za F (.build [.i .i64 0,.b false,.p none,.i .i64 0,.i .i64 0,.i .i64 0,.b false,.b false,.i .i64 0] [(1,1)]) [(.b true)] L fun e L=>zd F eO [d,e,(.i .i64 (-1))] L fun f L=>zm (some d) Q L
structure Gj (F:TF):Prop where
 code:F jX=some KC
 f117:Gl F
 f121:kD F
theorem Rm (h:F jX=some KC)(e:uL F Q a0 L):zd F jX [a0] L Q :=
 cw h (fun l t L=>lf (uL F Q (l 0) L)) e
def uI (F:TF)(Q:TQ)(x0 x1 x2:AV)(L:Lg):Prop :=za F .aa [x0] L fun a L=>za F (.aj 0) [a] L fun b L=>za F (.ld none) [b] L fun c L=>za F .ax [c] L fun d L=>za F (.bin .geq) [d,(.i .i64 1000)] L fun e L=>zn e (zm (some (.ay [(.i .i64 0),(.i .i64 3)])) Q L) (za F .aa [x0] L fun f L=>za F (.aj 0) [f] L fun g L=>za F (.ld none) [g] L fun h L=>zi F x2 true .mv [x1] L fun i L=>zi F x2 true (.bin .geq) [i,(.i .i64 0)] L fun j L=>za F .pick [x2,j,(.b false)] L fun k L=>za F (.build [.i .i64 0,.b false] [(0,1),(1,1)]) [x1,k] L fun m L=>za F (.aC [.i .i64 0,.b false] 1 2 [0]) [m] L fun n L=>za F (.app 2 16) [h,n] L fun o L=>za F .aa [x0] L fun p L=>za F (.aj 0) [p] L fun q L=>za F (.st 1) [q,o] L fun _ L=>za F .aa [x0] L fun r L=>za F (.aj 0) [r] L fun s L=>za F (.ld none) [s] L fun t L=>za F .ax [t] L fun u L=>za F (.bin .sub) [u,(.i .i64 1)] L fun v L=>zm (some (.ay [v,(.i .i64 0)])) Q L)
def uJ (F:TF)(Q:TQ)(x0 x1 x2:AV)(L:Lg):Prop :=za F (.bin .lss) [x1,(.i .i64 (-1))] L fun a L=>zi F a false .mv [x1] L fun b L=>zi F a false .mv [x0] L fun c L=>zi F a false .aa [c] L fun d L=>zi F a false (.aj 0) [d] L fun e L=>zi F a false (.ld none) [e] L fun f L=>zi F a false .ax [f] L fun g L=>zi F a false (.bin .geq) [b,g] L fun h L=>za F .pick [a,(.b true),h] L fun i L=>zn i (zm (some (.ay [(.i .i64 0),(.i .i64 1)])) Q L) (uI F Q x0 x1 x2 L)
def uK (F:TF)(Q:TQ)(x0 x1 x2:AV)(L:Lg):Prop :=uJ F Q x0 x1 x2 L
structure BV (F:TF):Prop where
 code:F hY=some KB
theorem Rl (h:F hY=some KB)(e:uK F Q a0 a1 a2 L):zd F hY [a0,a1,a2] L Q :=
 cw h (fun l t L=>wS (fun l t L=>wS (fun l t L=>lf (uI F Q (l 0) (l 1) (l 2) L)) (lf (uJ F Q (l 0) (l 1) (l 2) L))) (lf (uK F Q (l 0) (l 1) (l 2) L))) e
def uF (F:TF)(Q:TQ)(x0 x7 x9:AV)(L:Lg):Prop :=za F .aa [x0] L fun a L=>za F (.aj 3) [a] L fun b L=>za F (.ld none) [b] L fun c L=>za F .ax [c] L fun d L=>za F (.aj 1) [x7] L fun e L=>za F (.st 1) [e,d] L fun _ L=>za F .aa [x0] L fun f L=>za F (.aj 2) [f] L fun g L=>za F (.ld none) [g] L fun h L=>za F (.ld (some 12)) [x7] L fun i L=>za F (.aC [.b false,.i .i64 0,.i .i64 0,.b false,.b false,.i .i64 0,.i .i64 0,.i .i64 0,.b false,.b false,.i .i64 0,.p none] 1 12 [0]) [i] L fun j L=>za F (.app 12 80) [h,j] L fun k L=>za F .aa [x0] L fun m L=>za F (.aj 2) [m] L fun n L=>za F (.st 1) [n,k] L fun _ L=>za F .aa [x0] L fun o L=>za F (.aj 3) [o] L fun p L=>za F (.ld none) [p] L fun q L=>za F (.aC [.i .i64 0] 1 1 [0]) [x9] L fun r L=>za F (.app 1 8) [q,r] L fun s L=>za F .aa [x0] L fun t L=>za F (.aj 3) [t] L fun u L=>za F (.st 1) [u,s] L fun _ L=>za F (.aj 1) [x7] L fun v L=>za F (.ld none) [v] L fun w L=>zm (some w) Q L
def uG (F:TF)(Q:TQ)(x0 x1 x2 x7:AV)(L:Lg):Prop :=za F .aa [x0] L fun a L=>za F (.aj 1) [a] L fun b L=>zd F hY [b,x1,x2] L fun c L=>za F (.ext 0) [c] L fun d L=>za F (.ext 1) [c] L fun e L=>uF F Q x0 x7 d L
def uH (F:TF)(Q:TQ)(x0 x1 x2 x3:AV)(L:Lg):Prop :=za F .box [x3] L fun a L=>uG F Q x0 x1 x2 a L
structure pS (F:TF):Prop where
 code:F fz=some KA
 f123:BV F
theorem Rk (h:F fz=some KA)(e:uH F Q a0 a1 a2 a3 L):zd F fz [a0,a1,a2,a3] L Q :=
 cw h (fun l t L=>wS (fun l t L=>wS (fun l t L=>lf (uF F Q (l 0) (l 7) (l 9) L)) (lf (uG F Q (l 0) (l 1) (l 2) (l 7) L))) (lf (uH F Q (l 0) (l 1) (l 2) (l 3) L))) e
def uE (F:TF)(Q:TQ)(x0:AV)(L:Lg):Prop :=za F (.build [.p none,.sl none 0 0 0,.sl none 0 0 0,.sl none 0 0 0,.sl none 0 0 0] [(0,1)]) [x0] L fun a L=>za F .box [a] L fun b L=>za F (.build [.b false,.i .i64 0,.i .i64 0,.b false,.b false,.i .i64 0,.i .i64 0,.i .i64 0,.b false,.b false,.i .i64 0,.p none] [(4,1),(10,1)]) [(.b true),(.i .i64 (-1))] L fun c L=>zd F fz [b,(.i .i64 (-1)),(.b false),c] L fun d L=>zm (some b) Q L
structure Gi (F:TF):Prop where
 code:F jW=some Kz
 f124:pS F
theorem Rj (h:F jW=some Kz)(e:uE F Q a0 L):zd F jW [a0] L Q :=
 cw h (fun l t L=>lf (uE F Q (l 0) L)) e
def uD (F:TF)(Q:TQ)(x0 x1:AV)(L:Lg):Prop :=za F (.eq true .ptr) [x0,(.p none)] L fun a L=>zi F a true .mv [x1] L fun b L=>zi F a true (.bin .geq) [b,(.i .i64 0)] L fun c L=>za F .pick [a,c,(.b false)] L fun d L=>zi F d true .mv [x1] L fun e L=>zi F d true .mv [x0] L fun f L=>zi F d true .aa [f] L fun g L=>zi F d true (.aj 2) [g] L fun h L=>zi F d true (.ld none) [h] L fun i L=>zi F d true .ax [i] L fun j L=>zi F d true (.bin .lss) [e,j] L fun k L=>za F .pick [d,k,(.b false)] L fun m L=>zm (some m) Q L
structure eu (F:TF):Prop where
 code:F cX=some Ky
theorem Ri (h:F cX=some Ky)(e:uD F Q a0 a1 L):zd F cX [a0,a1] L Q :=
 cw h (fun l t L=>lf (uD F Q (l 0) (l 1) L)) e
def uC (F:TF)(Q:TQ)(x0 x1:AV)(L:Lg):Prop :=zd F cX [x0,x1] L fun a L=>za F (.un .not) [a] L fun b L=>zn b (zm (some (.i .i64 4)) Q L) (za F .aa [x0] L fun c L=>za F (.aj 2) [c] L fun d L=>za F (.ld none) [d] L fun e L=>za F .ax [e] L fun f L=>za F (.bin .geq) [f,(.i .i64 64)] L fun g L=>zn g (zm (some (.i .i64 3)) Q L) (zm (some (.i .i64 0)) Q L))
structure pR (F:TF):Prop where
 code:F fy=some Kx
 f127:eu F
theorem Rh (h:F fy=some Kx)(e:uC F Q a0 a1 L):zd F fy [a0,a1] L Q :=
 cw h (fun l t L=>lf (uC F Q (l 0) (l 1) L)) e
def uB (F:TF)(Q:TQ)(L:Lg):Prop :=zd F AS [(.i .i64 0)] L fun a L=>za F (.ext 0) [a] L fun b L=>za F (.ext 1) [a] L fun c L=>za F .aa [b] L fun d L=>za F (.aj 4) [d] L fun e L=>za F (.st 1) [e,(.b true)] L fun _ L=>zm (some b) Q L
structure BU (F:TF):Prop where
 code:F hU=some Kw
 f22:Lx F
theorem Rg (h:F hU=some Kw)(e:uB F Q L):zd F hU [] L Q :=
 cw h (fun l t L=>lf (uB F Q L)) e
def uA (F:TF)(Q:TQ)(x0 x1:AV)(L:Lg):Prop :=za F .box [x0] L fun a L=>za F (.aj 0) [a] L fun b L=>za F (.ld none) [b] L fun c L=>za F (.aj 0) [x1] L fun d L=>za F (.ld none) [d] L fun e L=>za F (.bin .eql) [c,e] L fun f L=>zm (some f) Q L
structure Gh (F:TF):Prop where
 code:F jV=some Kv
theorem Rf (h:F jV=some Kv)(e:uA F Q a0 a1 L):zd F jV [a0,a1] L Q :=
 cw h (fun l t L=>lf (uA F Q (l 0) (l 1) L)) e
def uy (F:TF)(Q:TQ)(L:Lg):Prop :=zm (some (.i .i64 (-1))) Q L
def uv (F:TF)(Q:TQ)(k1:TK)(l:Env)(L:Lg):Prop :=za F (.bin .lss) [(l 8),(l 7)] L fun a L=>zn a (za F (.aX 5) [(l 0),(l 8)] L fun b L=>za F (.ld (some 5)) [b] L fun c L=>za F .eX [(l 1),c] L fun d L=>zn d (zm (some (l 8)) Q L) (za F (.bin .add) [(l 8),(.i .i64 1)] L fun e L=>k1 (Env.put (Env.put l 5 (l 8)) 8 e) L)) (uy F Q L)
def uw (F:TF)(Q:TQ)(l:Env)(L:Lg):Prop :=xA (fun l t L k1=>uv F Q k1 l L) l L
def ux (F:TF)(Q:TQ)(l:Env)(L:Lg):Prop :=za F .ax [(l 0)] L fun a L=>uw F Q (Env.put (Env.put l 7 a) 8 (.i .i64 0)) L
def uz (F:TF)(Q:TQ)(l:Env)(L:Lg):Prop :=ux F Q (Env.put l 4 (.i .i64 0)) L
structure LH (F:TF):Prop where
 code:F jU=some Ku
theorem Re (h:F jU=some Ku)(e:uz F Q (zI [a0,a1] 0) L):zd F jU [a0,a1] L Q :=
 cw h (fun l t L=>wS (fun l t L=>wS (fun l t L=>lf (uy F Q L)) (wS (fun l t L=>wB (wL (fun l t L k1=>lf (uv F Q k1 l L)) (lf (uw F Q l L)))) (lf (ux F Q l L)))) (lf (uz F Q l L))) e
def uu (F:TF)(Q:TQ)(x0 x1:AV)(L:Lg):Prop :=zd F jU [x0,x1] L fun a L=>za F (.bin .geq) [a,(.i .i64 0)] L fun b L=>zm (some b) Q L
structure Gg (F:TF):Prop where
 code:F jT=some Kt
 f131:LH F
theorem Rd (h:F jT=some Kt)(e:uu F Q a0 a1 L):zd F jT [a0,a1] L Q :=
 cw h (fun l t L=>lf (uu F Q (l 0) (l 1) L)) e
def uq (F:TF)(Q:TQ)(x2:AV)(L:Lg):Prop :=zm (some x2) Q L
def nW (F:TF)(Q:TQ)(k1:TK)(l:Env)(L:Lg):Prop :=za F (.bin .add) [(l 20),(.i .i64 1)] L fun a L=>k1 (Env.put l 20 a) L
def nU (F:TF)(Q:TQ)(k1:TK)(k2:TK)(l:Env)(L:Lg):Prop :=zn (l 6) (za F (.HD jV 0) [(l 5)] L fun a L=>zd F jT [(l 2),a] L fun b L=>za F (.un .not) [b] L fun c L=>zn c (za F (.aj 0) [(l 5)] L fun d L=>za F (.ld none) [d] L fun e L=>za F (.aj 1) [(l 5)] L fun f L=>za F (.ld none) [f] L fun g L=>za F .aa [(l 0)] L fun h L=>za F (.aj 2) [h] L fun i L=>za F (.ld none) [i] L fun j L=>za F (.eq false .ptr) [(l 4),j] L fun k L=>za F (.build [.i .i64 0,.i .i64 0,.i .i64 0,.b false,.b false] [(0,1),(1,1),(4,1)]) [e,g,k] L fun m L=>za F (.aC [.i .i64 0,.i .i64 0,.i .i64 0,.b false,.b false] 1 5 [0]) [m] L fun n L=>za F (.app 5 32) [(l 2),n] L fun o L=>za F (.ld (some 3)) [(l 5)] L fun p L=>za F (.alloc [.i .i64 0,.i .i64 0,.i .i64 0]) [] L fun q L=>za F (.st 3) [q,p] L fun _ L=>zd F fq [(l 4)] L fun r L=>za F (.ext 0) [r] L fun s L=>za F (.ext 1) [r] L fun t L=>za F (.st 3) [q,s] L fun _ L=>k2 (Env.put (Env.put (Env.put (Env.put l 2 o) 53 p) 5 q) 6 t) L) (za F (.ld (some 3)) [(l 5)] L fun u L=>za F (.alloc [.i .i64 0,.i .i64 0,.i .i64 0]) [] L fun v L=>za F (.st 3) [v,u] L fun _ L=>zd F fq [(l 4)] L fun w L=>za F (.ext 0) [w] L fun x L=>za F (.ext 1) [w] L fun y L=>za F (.st 3) [v,x] L fun _ L=>k2 (Env.put (Env.put (Env.put l 53 u) 5 v) 6 y) L)) (nW F Q k1 l L)
def nV (F:TF)(Q:TQ)(k1:TK)(l:Env)(L:Lg):Prop :=xA (fun l t L k2=>nU F Q k1 k2 l L) l L
def Ea (F:TF)(Q:TQ)(k1:TK)(l:Env)(L:Lg):Prop :=zd F fq [(l 4)] L fun a L=>za F (.ext 0) [a] L fun b L=>za F (.ext 1) [a] L fun c L=>za F (.alloc [.i .i64 0,.i .i64 0,.i .i64 0]) [] L fun d L=>za F (.st 3) [d,b] L fun _ L=>nV F Q k1 (Env.put (Env.put l 5 d) 6 c) L
def Eb (F:TF)(Q:TQ)(k1:TK)(l:Env)(L:Lg):Prop :=za F (.aX 1) [(l 18),(l 20)] L fun a L=>za F (.ld none) [a] L fun b L=>Ea F Q k1 (Env.put l 4 b) L
def jl (F:TF)(Q:TQ)(k1:TK)(l:Env)(t21:AV)(L:Lg):Prop :=zn t21 (Eb F Q k1 l L) (uq F Q (l 2) L)
def fL (F:TF)(Q:TQ)(k1:TK)(l:Env)(L:Lg):Prop :=za F (.bin .lss) [(l 20),(l 19)] L fun a L=>jl F Q k1 l a L
def uk (F:TF)(Q:TQ)(l:Env)(L:Lg):Prop :=xA (fun l t L k1=>fL F Q k1 l L) l L
def um (F:TF)(Q:TQ)(l:Env)(L:Lg):Prop :=za F .aa [(l 0)] L fun a L=>za F (.aj 1) [a] L fun b L=>za F (.ld none) [b] L fun c L=>za F .aa [(l 0)] L fun d L=>za F (.aj 2) [d] L fun e L=>za F (.ld none) [e] L fun f L=>za F (.aC [.p none] 2 1 [0,1]) [c,f] L fun g L=>za F .ax [g] L fun h L=>uk F Q (Env.put (Env.put (Env.put l 18 g) 19 h) 20 (.i .i64 0)) L
def ur (F:TF)(Q:TQ)(l:Env)(L:Lg):Prop :=za F .aa [(l 0)] L fun a L=>za F (.aj 5) [a] L fun b L=>za F (.st 1) [b,(.b true)] L fun _ L=>um F Q l L
def Gy (F:TF)(Q:TQ)(l:Env)(L:Lg):Prop :=ur F Q (Env.put l 2 (.sl none 0 0 0)) L
structure pQ (F:TF):Prop where
 code:F jS=some Ks
 f14:E9 F
 f130:Gh F
 f132:Gg F
theorem Rc (h:F jS=some Ks)(e:Gy F Q (zI [a0] 0) L):zd F jS [a0] L Q :=
 cw h (fun l t L=>wS (fun l t L=>wS (fun l t L=>wS (fun l t L=>lf (uq F Q (l 2) L)) (wS (fun l t L=>wB (wL (fun l t L k1=>wS (fun l t L=>wS (fun l t L=>wS (fun l t L=>lf (nW F Q k1 l L)) (wB (wS (fun l t L=>wS (fun l t L=>wB (wL (fun l t L k2=>lf (nU F Q k1 k2 l L)) (lf (nV F Q k1 l L)))) (lf (Ea F Q k1 l L))) (lf (Eb F Q k1 l L))))) (lf (jl F Q k1 l (t 21) L))) (lf (fL F Q k1 l L))) (lf (uk F Q l L)))) (lf (um F Q l L)))) (lf (ur F Q l L))) (lf (Gy F Q l L))) e
def jk (F:TF)(Q:TQ)(x0:AV)(L:Lg):Prop :=za F (.eq false .ptr) [x0,(.p none)] L fun a L=>zi F a false .mv [x0] L fun b L=>zi F a false .aa [b] L fun c L=>zi F a false (.aj 4) [c] L fun d L=>zi F a false (.ld none) [d] L fun e L=>zi F a false (.un .not) [e] L fun f L=>za F .pick [a,(.b true),f] L fun g L=>zi F g false .mv [x0] L fun h L=>zi F g false .aa [h] L fun i L=>zi F g false (.aj 5) [i] L fun j L=>zi F g false (.ld none) [j] L fun k L=>za F .pick [g,(.b true),k] L fun m L=>zn m (zm (some (.sl none 0 0 0)) Q L) (zd F jS [x0] L fun n L=>zm (some n) Q L)
structure pP (F:TF):Prop where
 code:F fu=some Kr
 f133:pQ F
theorem IL (h:F fu=some Kr)(e:jk F Q a0 L):zd F fu [a0] L Q :=
 cw h (fun l t L=>lf (jk F Q (l 0) L)) e
def uj (F:TF)(Q:TQ)(x0:AV)(L:Lg):Prop :=za F (.eq false .slnil) [x0,(.sl none 0 0 0)] L fun a L=>zn a (zm (some (.sl none 0 0 0)) Q L) (za F (.aC [.i .i64 0] 0 1 []) [] L fun b L=>za F (.app 1 8) [b,x0] L fun c L=>zm (some c) Q L)
structure Gf (F:TF):Prop where
 code:F jR=some Kq
theorem Rb (h:F jR=some Kq)(e:uj F Q a0 L):zd F jR [a0] L Q :=
 cw h (fun l t L=>lf (uj F Q (l 0) L)) e
def uh (F:TF)(Q:TQ)(x0 x1:AV)(L:Lg):Prop :=zd F fA [x0,x1] L fun a L=>za F (.un .not) [a] L fun b L=>zn b (zm (some (.sl none 0 0 0)) Q L) (za F .aa [x0] L fun c L=>za F (.aj 0) [c] L fun d L=>za F (.ld none) [d] L fun e L=>za F (.aX 3) [e,x1] L fun f L=>za F (.aj 2) [f] L fun g L=>za F (.ld none) [g] L fun h L=>zd F jR [h] L fun i L=>zm (some i) Q L)
structure Ge (F:TF):Prop where
 code:F jQ=some Kp
 f119:pT F
 f135:Gf F
theorem Ra (h:F jQ=some Kp)(e:uh F Q a0 a1 L):zd F jQ [a0,a1] L Q :=
 cw h (fun l t L=>lf (uh F Q (l 0) (l 1) L)) e
def uf (F:TF)(Q:TQ)(L:Lg):Prop :=zm (some (.i .i64 (-1))) Q L
def uc (F:TF)(Q:TQ)(k1:TK)(l:Env)(L:Lg):Prop :=za F (.bin .lss) [(l 8),(l 7)] L fun a L=>zn a (za F (.aX 1) [(l 0),(l 8)] L fun b L=>za F (.ld none) [b] L fun c L=>za F (.bin .eql) [(l 1),c] L fun d L=>zn d (zm (some (l 8)) Q L) (za F (.bin .add) [(l 8),(.i .i64 1)] L fun e L=>k1 (Env.put (Env.put l 5 (l 8)) 8 e) L)) (uf F Q L)
def ud (F:TF)(Q:TQ)(l:Env)(L:Lg):Prop :=xA (fun l t L k1=>uc F Q k1 l L) l L
def ue (F:TF)(Q:TQ)(l:Env)(L:Lg):Prop :=za F .ax [(l 0)] L fun a L=>ud F Q (Env.put (Env.put l 7 a) 8 (.i .i64 0)) L
def ug (F:TF)(Q:TQ)(l:Env)(L:Lg):Prop :=ue F Q (Env.put l 4 (.i .i64 0)) L
structure BT (F:TF):Prop where
 code:F jP=some Ko
theorem Q9 (h:F jP=some Ko)(e:ug F Q (zI [a0,a1] 0) L):zd F jP [a0,a1] L Q :=
 cw h (fun l t L=>wS (fun l t L=>wS (fun l t L=>lf (uf F Q L)) (wS (fun l t L=>wB (wL (fun l t L k1=>lf (uc F Q k1 l L)) (lf (ud F Q l L)))) (lf (ue F Q l L)))) (lf (ug F Q l L))) e
def tZ (F:TF)(Q:TQ)(x0 x1 x2:AV)(L:Lg):Prop :=za F .ax [x0] L fun a L=>za F (.slc 1 true true true) [x0,x1,x2,a] L fun b L=>za F (.bin .eql) [x1,x2] L fun c L=>zn c (zm (some x0) Q L) (za F .ax [x0] L fun d L=>za F (.slc 1 false true false) [x0,x1] L fun e L=>za F (.slc 1 true false false) [x0,x2] L fun f L=>za F (.app 1 8) [e,f] L fun g L=>za F .ax [g] L fun h L=>za F (.slc 1 true true false) [g,h,d] L fun i L=>za F (.Nn [.i .i64 0]) [i] L fun _ L=>zm (some g) Q L)
structure BS (F:TF):Prop where
 code:F jO=some Km
theorem Q8 (h:F jO=some Km)(e:tZ F Q a0 a1 a2 L):zd F jO [a0,a1,a2] L Q :=
 cw h (fun l t L=>lf (tZ F Q (l 0) (l 1) (l 2) L)) e
def jj (F:TF)(Q:TQ)(x0 x1:AV)(L:Lg):Prop :=za F .aa [x0] L fun a L=>za F (.aj 0) [a] L fun b L=>za F (.ld none) [b] L fun c L=>za F .aa [x0] L fun d L=>za F (.aj 0) [d] L fun e L=>za F (.ld none) [e] L fun f L=>za F (.aX 3) [f,x1] L fun g L=>za F (.aj 0) [g] L fun h L=>za F (.ld none) [h] L fun i L=>za F (.aX 3) [c,i] L fun j L=>za F .aa [j] L fun k L=>za F (.aj 2) [k] L fun m L=>za F (.ld none) [m] L fun n L=>zd F jP [n,x1] L fun o L=>za F .aa [j] L fun p L=>za F (.aj 2) [p] L fun q L=>za F (.ld none) [q] L fun r L=>za F (.bin .add) [o,(.i .i64 1)] L fun s L=>zd F jO [r,o,s] L fun t L=>za F .aa [j] L fun u L=>za F (.aj 2) [u] L fun v L=>za F (.st 1) [v,t] L fun _ L=>zm (some (.b true)) Q L
def tW (F:TF)(Q:TQ)(x0 x1:AV)(L:Lg):Prop :=za F .aa [x0] L fun a L=>za F (.aj 0) [a] L fun b L=>za F (.ld none) [b] L fun c L=>za F (.aX 3) [c,x1] L fun d L=>za F (.aj 1) [d] L fun e L=>za F (.st 1) [e,(.b false)] L fun _ L=>jj F Q x0 x1 L
def tX (F:TF)(Q:TQ)(x0 x1:AV)(L:Lg):Prop :=zd F fA [x0,x1] L fun a L=>za F (.un .not) [a] L fun b L=>zi F b false .mv [x0] L fun c L=>zi F b false .aa [c] L fun d L=>zi F b false (.aj 0) [d] L fun e L=>zi F b false (.ld none) [e] L fun f L=>zi F b false .mv [x1] L fun g L=>zi F b false (.aX 3) [f,g] L fun h L=>zi F b false (.aj 1) [h] L fun i L=>zi F b false (.ld none) [i] L fun j L=>zi F b false (.un .not) [j] L fun k L=>za F .pick [b,(.b true),k] L fun m L=>zn m (zm (some (.b false)) Q L) (tW F Q x0 x1 L)
def tY (F:TF)(Q:TQ)(x0 x1:AV)(L:Lg):Prop :=tX F Q x0 x1 L
structure kC (F:TF):Prop where
 code:F eN=some Kl
 f119:pT F
 f137:BT F
 f138:BS F
theorem Q7 (h:F eN=some Kl)(e:tY F Q a0 a1 L):zd F eN [a0,a1] L Q :=
 cw h (fun l t L=>wS (fun l t L=>wS (fun l t L=>wS (fun l t L=>lf (jj F Q (l 0) (l 1) L)) (lf (tW F Q (l 0) (l 1) L))) (lf (tX F Q (l 0) (l 1) L))) (lf (tY F Q (l 0) (l 1) L))) e
def tV (F:TF)(Q:TQ)(x0 x1:AV)(L:Lg):Prop :=za F (.alloc [.i .i64 0,.i .i64 0]) [] L fun a L=>za F .aa [x0] L fun b L=>za F (.aj 3) [b] L fun c L=>za F (.ld none) [c] L fun d L=>za F (.aX 3) [d,x1] L fun e L=>za F .aa [e] L fun f L=>za F (.aj 2) [f] L fun g L=>za F (.st 1) [g,(.b true)] L fun _ L=>za F .aa [x0] L fun h L=>za F (.aj 1) [h] L fun i L=>za F (.ld none) [i] L fun j L=>za F .aa [e] L fun k L=>za F (.aj 0) [k] L fun m L=>za F (.ld none) [m] L fun n L=>zd F eN [j,n] L fun o L=>za F .aa [e] L fun p L=>za F (.aj 1) [p] L fun q L=>za F (.ld none) [q] L fun r L=>za F (.build [.i .i64 0,.i .i64 0] [(0,1),(1,1)]) [x1,r] L fun s L=>za F (.st 2) [a,s] L fun _ L=>zm (yz Env.nil Env.nil L [.cell (.c a) (some 2)]) Q L
structure pO (F:TF):Prop where
 code:F hH=some Kk
 f139:kC F
theorem Q6 (h:F hH=some Kk)(e:tV F Q a0 a1 L):zd F hH [a0,a1] L Q :=
 cw h (fun l t L=>lf (tV F Q (l 0) (l 1) L)) e
def tN (F:TF)(Q:TQ)(x0 x8 x9 dO:AV)(L:Lg):Prop :=za F .aa [x0] L fun a L=>za F (.aj 1) [a] L fun b L=>za F (.ld none) [b] L fun c L=>za F .aa [dO] L fun d L=>za F (.aj 0) [d] L fun e L=>za F (.ld none) [e] L fun f L=>zd F eN [c,f] L fun g L=>zm (some (.ay [x8,x9])) Q L
def cY (F:TF)(Q:TQ)(k1:TK)(l:Env)(L:Lg):Prop :=za F (.bin .add) [(l 70),(.i .i64 1)] L fun a L=>k1 (Env.put l 70 a) L
def gn (F:TF)(Q:TQ)(k1:TK)(l:Env)(L:Lg):Prop :=za F (.aX 1) [(l 68),(l 70)] L fun a L=>za F (.ld none) [a] L fun b L=>za F .aa [(l 0)] L fun c L=>za F (.aj 4) [c] L fun d L=>za F (.ld none) [d] L fun e L=>za F (.mY (.i .i64 0) false) [e,b] L fun f L=>za F (.bin .lss) [f,(.i .i64 0)] L fun g L=>zn g (za F (.un .neg) [f] L fun h L=>za F (.bin .sub) [h,(.i .i64 1)] L fun i L=>zd F hH [(l 0),i] L fun j L=>za F (.aC [.i .i64 0,.i .i64 0] 1 2 [0]) [j] L fun k L=>za F (.app 2 16) [(l 9),k] L fun m L=>cY F Q k1 (Env.put (Env.put (Env.put l 12 b) 13 f) 9 m) L) (zd F dL [(l 0),f,(l 2),(l 3)] L fun n L=>za F (.ext 0) [n] L fun o L=>za F (.ext 1) [n] L fun p L=>za F (.app 4 48) [(l 8),o] L fun q L=>za F (.app 2 16) [(l 9),p] L fun r L=>cY F Q k1 (Env.put (Env.put (Env.put (Env.put (Env.put (Env.put l 12 b) 13 f) 14 o) 15 p) 8 q) 9 r) L)
def mA (F:TF)(Q:TQ)(k1:TK)(l:Env)(t71:AV)(L:Lg):Prop :=zn t71 (gn F Q k1 l L) (tN F Q (l 0) (l 8) (l 9) (l 10) L)
def mB (F:TF)(Q:TQ)(k1:TK)(l:Env)(L:Lg):Prop :=za F (.bin .lss) [(l 70),(l 69)] L fun a L=>mA F Q k1 l a L
def gp (F:TF)(Q:TQ)(l:Env)(L:Lg):Prop :=xA (fun l t L k1=>mB F Q k1 l L) l L
def tM (F:TF)(Q:TQ)(l:Env)(L:Lg):Prop :=za F .aa [(l 0)] L fun a L=>za F (.aj 1) [a] L fun b L=>za F (.ld none) [b] L fun c L=>za F .aa [(l 10)] L fun d L=>za F (.aj 0) [d] L fun e L=>za F (.ld none) [e] L fun f L=>zd F jQ [c,f] L fun g L=>za F .ax [g] L fun h L=>gp F Q (Env.put (Env.put (Env.put l 68 g) 69 h) 70 (.i .i64 0)) L
def tO (F:TF)(Q:TQ)(l:Env)(L:Lg):Prop :=za F .aa [(l 0)] L fun a L=>za F (.aj 0) [a] L fun b L=>za F (.ld none) [b] L fun c L=>za F .aa [(l 10)] L fun d L=>za F (.aj 8) [d] L fun e L=>za F (.ld none) [e] L fun f L=>zd F iK [c,f] L fun g L=>tM F Q l L
def tP (F:TF)(Q:TQ)(l:Env)(L:Lg):Prop :=za F .aa [(l 10)] L fun a L=>za F (.aj 2) [a] L fun b L=>za F (.ld none) [b] L fun c L=>zd F fu [c] L fun d L=>za F (.build [.i .i64 0,.i .i64 0,.i .i64 0,.sl none 0 0 0] [(0,1),(1,1),(2,1),(3,1)]) [(l 1),(l 2),(l 3),d] L fun e L=>za F (.aC [.i .i64 0,.i .i64 0,.i .i64 0,.sl none 0 0 0] 1 4 [0]) [e] L fun f L=>tO F Q (Env.put l 8 f) L
def tQ (F:TF)(Q:TQ)(l:Env)(L:Lg):Prop :=za F .aa [(l 10)] L fun a L=>za F (.aj 3) [a] L fun b L=>za F (.st 1) [b,(l 2)] L fun _ L=>za F .aa [(l 10)] L fun c L=>za F (.aj 4) [c] L fun d L=>za F (.st 1) [d,(l 3)] L fun _ L=>tP F Q l L
def tS (F:TF)(Q:TQ)(l:Env)(L:Lg):Prop :=za F .aa [(l 10)] L fun a L=>za F (.aj 1) [a] L fun b L=>za F (.ld none) [b] L fun c L=>zi F c false .mv [(l 10)] L fun d L=>zi F c false .aa [d] L fun e L=>zi F c false (.aj 3) [e] L fun f L=>zi F c false (.ld none) [f] L fun g L=>zi F c false (.bin .neq) [g,(.i .i64 0)] L fun h L=>za F .pick [c,(.b true),h] L fun i L=>zn i (zm (some (.ay [(.sl none 0 0 0),(.sl none 0 0 0)])) Q L) (tQ F Q l L)
def tT (F:TF)(Q:TQ)(l:Env)(L:Lg):Prop :=za F .aa [(l 0)] L fun a L=>za F (.aj 2) [a] L fun b L=>za F (.ld none) [b] L fun c L=>za F (.aX 9) [c,(l 1)] L fun d L=>tS F Q (Env.put l 10 d) L
def tU (F:TF)(Q:TQ)(l:Env)(L:Lg):Prop :=tT F Q (Env.put (Env.put l 8 (.sl none 0 0 0)) 9 (.sl none 0 0 0)) L
structure iA (F:TF):Prop where
 code:F dL=some Kj
 f134:pP F
 f51:Bb F
 f136:Ge F
 f140:pO F
 f139:kC F
theorem Q5 (h:F dL=some Kj)(e:tU F Q (zI [a0,a1,a2,a3] 0) L):zd F dL [a0,a1,a2,a3] L Q :=
 cw h (fun l t L=>wS (fun l t L=>wS (fun l t L=>wS (fun l t L=>wS (fun l t L=>wS (fun l t L=>wS (fun l t L=>wS (fun l t L=>lf (tN F Q (l 0) (l 8) (l 9) (l 10) L)) (wS (fun l t L=>wB (wL (fun l t L k1=>wS (fun l t L=>wS (fun l t L=>wS (fun l t L=>lf (cY F Q k1 l L)) (lf (gn F Q k1 l L))) (lf (mA F Q k1 l (t 71) L))) (lf (mB F Q k1 l L))) (lf (gp F Q l L)))) (lf (tM F Q l L)))) (lf (tO F Q l L))) (lf (tP F Q l L))) (lf (tQ F Q l L))) (lf (tS F Q l L))) (lf (tT F Q l L))) (lf (tU F Q l L))) e
def tL (F:TF)(Q:TQ)(x0 x1 x2:AV)(L:Lg):Prop :=za F .aa [x0] L fun a L=>za F (.aj 2) [a] L fun b L=>za F (.ld none) [b] L fun c L=>za F (.aX 9) [c,x2] L fun d L=>za F (.ld (some 9)) [d] L fun e L=>za F (.alloc [.i .i64 0,.b false,.p none,.i .i64 0,.i .i64 0,.i .i64 0,.b false,.b false,.i .i64 0]) [] L fun f L=>za F (.st 9) [f,e] L fun _ L=>za F (.aj 3) [f] L fun g L=>za F (.ld none) [g] L fun h L=>za F (.bin .eql) [h,(.i .i64 0)] L fun i L=>zn i (zm (some (.sl none 0 0 0)) Q L) (za F (.aj 3) [f] L fun j L=>za F (.ld none) [j] L fun k L=>za F (.aj 4) [f] L fun m L=>za F (.ld none) [m] L fun n L=>zd F dL [x0,x1,k,n] L fun o L=>za F (.ext 0) [o] L fun p L=>za F (.ext 1) [o] L fun q L=>zm (some p) Q L)
structure BQ (F:TF):Prop where
 code:F gZ=some Ki
 f141:iA F
theorem Q4 (h:F gZ=some Ki)(e:tL F Q a0 a1 a2 L):zd F gZ [a0,a1,a2] L Q :=
 cw h (fun l t L=>lf (tL F Q (l 0) (l 1) (l 2) L)) e
def tJ (F:TF)(Q:TQ)(x0 x1:AV)(L:Lg):Prop :=zd F fy [x0,x1] L fun a L1=>za F (.bin .neq) [a,(.i .i64 0)] L1 fun b L2=>zn b (zm (some (.ay [(.i .i64 0),(.sl none 0 0 0),a])) Q L2) (za F .aa [x0] L2 fun c L3=>za F (.aj 2) [c] L3 fun d L4=>za F (.ld none) [d] L4 fun e L5=>za F (.aX 9) [e,x1] L5 fun f L6=>za F (.ld (some 9)) [f] L6 fun g L7=>za F (.alloc [.i .i64 0,.b false,.p none,.i .i64 0,.i .i64 0,.i .i64 0,.b false,.b false,.i .i64 0]) [] L7 fun h L8=>za F (.st 9) [h,g] L8 fun _ L9=>zd F hU [] L9 fun i dG=>za F (.aj 5) [h] dG fun j gz=>za F (.ld none) [j] gz fun k iV=>za F (.aj 6) [h] iV fun m iU=>za F (.ld none) [m] iU fun n jx=>za F (.build [.i .i64 0,.b false,.p none,.i .i64 0,.i .i64 0,.i .i64 0,.b false,.b false,.i .i64 0] [(2,1),(5,1),(6,1)]) [i,k,n] jx fun o A7=>za F (.aj 0) [h] A7 fun p Aj=>za F (.ld none) [p] Aj fun q ku=>zd F eO [x0,o,q] ku fun r iu=>(yb (.ld none) [j] gz L9∧yb (.ld none) [m] iU L9∧yb (.ld none) [p] Aj L9∧True)∧(zd F gZ [x0,r,x1] iu fun s ir=>zm (some (.ay [r,s,(.i .i64 0)])) Q ir))
def tK (F:TF)(Q:TQ)(x0 x1:AV)(L:Lg):Prop :=tJ F Q x0 x1 L
structure kB (F:TF):Prop where
 code:F eM=some Kh
 f128:pR F
 f129:BU F
 f121:kD F
 f142:BQ F
theorem Q3 (h:F eM=some Kh)(e:tK F Q a0 a1 L):zd F eM [a0,a1] L Q :=
 cw h (fun l t L=>wS (fun l t L=>lf (tJ F Q (l 0) (l 1) L)) (lf (tK F Q (l 0) (l 1) L))) e
def jh (F:TF)(Q:TQ)(x0 x2 Fo:AV)(L:Lg):Prop :=za F .aa [x0] L fun a L=>za F (.aj 0) [a] L fun b L=>za F (.ld none) [b] L fun c L=>zd F oF [c,x2,Fo] L fun d L=>za F (.ext 0) [d] L fun e L=>za F (.ext 1) [d] L fun f L=>za F (.bin .eql) [f,(.i .i64 0)] L fun g L=>zn g (za F .aa [x0] L fun h L=>za F (.aj 2) [h] L fun i L=>za F (.ld none) [i] L fun j L=>za F (.aX 9) [j,Fo] L fun k L=>za F (.aj 8) [k] L fun m L=>za F (.st 1) [m,e] L fun _ L=>zm (some (.ay [Fo,(.sl none 0 0 0),(.i .i64 0)])) Q L) (zm (some (.ay [Fo,(.sl none 0 0 0),(.i .i64 0)])) Q L)
def tD (F:TF)(Q:TQ)(x0 x1 x2 x3 Fo:AV)(L:Lg):Prop :=zd F gZ [x0,Fo,x1] L fun a L=>za F .ax [a] L fun b L=>za F (.bin .gtr) [b,(.i .i64 0)] L fun c L=>zn c (zm (some (.ay [Fo,a,(.i .i64 0)])) Q L) (za F (.bin .leq) [x2,x3] L fun d L=>zn d (zd F dL [x0,Fo,(.i .i64 2),(.i .i64 2)] L fun e L=>za F (.ext 0) [e] L fun f L=>za F (.ext 1) [e] L fun g L=>zm (some (.ay [Fo,f,(.i .i64 0)])) Q L) (jh F Q x0 x2 Fo L))
def ji (F:TF)(Q:TQ)(x0 x1 x2 x3 Fp:AV)(L:Lg):Prop :=zd F hU [] L fun a L1=>za F (.build [.i .i64 0,.b false,.p none,.i .i64 0,.i .i64 0,.i .i64 0,.b false,.b false,.i .i64 0] [(2,1),(5,1),(6,1),(7,1)]) [a,x2,(.b true),(.b true)] L1 fun b L2=>za F (.aj 0) [Fp] L2 fun c L3=>za F (.ld none) [c] L3 fun d L4=>zd F eO [x0,b,d] L4 fun e L5=>(yb (.ld none) [c] L3 L∧True)∧(tD F Q x0 x1 x2 x3 e L5)
def tE (F:TF)(Q:TQ)(x0 x1 x2 x3 Fp:AV)(L:Lg):Prop :=za F (.aj 6) [Fp] L fun a L=>za F (.ld none) [a] L fun b L=>zi F b true (.aj 5) [Fp] L fun c L=>zi F b true (.ld none) [c] L fun d L=>zi F b true .mv [x2] L fun e L=>zi F b true (.bin .leq) [d,e] L fun f L=>za F .pick [b,f,(.b false)] L fun g L=>zn g (zd F eM [x0,x1] L fun h L=>za F (.ext 0) [h] L fun i L=>za F (.ext 1) [h] L fun j L=>za F (.ext 2) [h] L fun k L=>zm (some (.ay [i,j,k])) Q L) (ji F Q x0 x1 x2 x3 Fp L)
def tF (F:TF)(Q:TQ)(x0 x1 x2 x3:AV)(L:Lg):Prop :=za F .aa [x0] L fun a L=>za F (.aj 2) [a] L fun b L=>za F (.ld none) [b] L fun c L=>za F (.aX 9) [c,x1] L fun d L=>za F (.ld (some 9)) [d] L fun e L=>za F (.alloc [.i .i64 0,.b false,.p none,.i .i64 0,.i .i64 0,.i .i64 0,.b false,.b false,.i .i64 0]) [] L fun f L=>za F (.st 9) [f,e] L fun _ L=>tE F Q x0 x1 x2 x3 f L
def tG (F:TF)(Q:TQ)(x0 x1 x2 x3:AV)(L:Lg):Prop :=zd F Ew [x2,(.i .i64 0)] L fun a L=>za F .max [a,(.i .i64 0)] L fun b L=>tF F Q x0 x1 b x3 L
def tH (F:TF)(Q:TQ)(x0 x1 x2 x3:AV)(L:Lg):Prop :=zd F fy [x0,x1] L fun a L=>za F (.bin .neq) [a,(.i .i64 0)] L fun b L=>zn b (zm (some (.ay [(.i .i64 0),(.sl none 0 0 0),a])) Q L) (tG F Q x0 x1 x2 x3 L)
def tI (F:TF)(Q:TQ)(x0 x1 x2 x3:AV)(L:Lg):Prop :=tH F Q x0 x1 x2 x3 L
structure pN (F:TF):Prop where
 code:F gY=some Kg
 f128:pR F
 f2:LA F
 f143:kB F
 f129:BU F
 f121:kD F
 f142:BQ F
 f141:iA F
 f55:EV F
theorem Q2 (h:F gY=some Kg)(e:tI F Q a0 a1 a2 a3 L):zd F gY [a0,a1,a2,a3] L Q :=
 cw h (fun l t L=>wS (fun l t L=>wS (fun l t L=>wS (fun l t L=>wS (fun l t L=>wS (fun l t L=>wS (fun l t L=>wS (fun l t L=>lf (jh F Q (l 0) (l 2) (l 13) L)) (lf (tD F Q (l 0) (l 1) (l 2) (l 3) (l 13) L))) (lf (ji F Q (l 0) (l 1) (l 2) (l 3) (l 12) L))) (lf (tE F Q (l 0) (l 1) (l 2) (l 3) (l 12) L))) (lf (tF F Q (l 0) (l 1) (l 2) (l 3) L))) (lf (tG F Q (l 0) (l 1) (l 2) (l 3) L))) (lf (tH F Q (l 0) (l 1) (l 2) (l 3) L))) (lf (tI F Q (l 0) (l 1) (l 2) (l 3) L))) e
def tC (F:TF)(Q:TQ)(x0 x1:AV)(L:Lg):Prop :=zd F fy [x0,x1] L fun a L=>za F (.bin .neq) [a,(.i .i64 0)] L fun b L=>zn b (zm (some (.ay [(.i .i64 0),a])) Q L) (za F (.build [.i .i64 0,.b false,.p none,.i .i64 0,.i .i64 0,.i .i64 0,.b false,.b false,.i .i64 0] [(1,1)]) [(.b true)] L fun c L=>za F .aa [x0] L fun d L=>za F (.aj 2) [d] L fun e L=>za F (.ld none) [e] L fun f L=>za F (.aX 9) [f,x1] L fun g L=>za F (.aj 0) [g] L fun h L=>za F (.ld none) [h] L fun i L=>zd F eO [x0,c,i] L fun j L=>zm (some (.ay [j,(.i .i64 0)])) Q L)
structure pM (F:TF):Prop where
 code:F gX=some Kf
 f128:pR F
 f121:kD F
theorem Q1 (h:F gX=some Kf)(e:tC F Q a0 a1 L):zd F gX [a0,a1] L Q :=
 cw h (fun l t L=>lf (tC F Q (l 0) (l 1) L)) e
def tn (F:TF)(Q:TQ)(x0 x1 x2 x9 ez:AV)(L:Lg):Prop :=za F .aa [x0] L fun a L=>za F (.aj 3) [a] L fun b L=>za F (.ld none) [b] L fun c L=>za F (.build [.i .i64 0,.i .i64 0,.b false] [(0,1),(1,1)]) [x9,x2] L fun d L=>za F (.aC [.i .i64 0,.i .i64 0,.b false] 1 3 [0]) [d] L fun e L=>za F (.app 3 24) [c,e] L fun f L=>za F .aa [x0] L fun g L=>za F (.aj 3) [g] L fun h L=>za F (.st 1) [h,f] L fun _ L=>za F .aa [x0] L fun i L=>za F (.aj 2) [i] L fun j L=>za F (.ld none) [j] L fun k L=>za F (.aX 9) [k,x1] L fun m L=>za F (.aj 3) [m] L fun n L=>za F (.ld none) [n] L fun o L=>za F (.bin .neq) [o,(.i .i64 0)] L fun p L=>zn p (zd F hH [x0,ez] L fun q L=>za F (.aC [.i .i64 0,.i .i64 0] 1 2 [0]) [q] L fun r L=>zm (some (.ay [ez,r,(.i .i64 0)])) Q L) (zm (some (.ay [ez,(.sl none 0 0 0),(.i .i64 0)])) Q L)
def tq (F:TF)(Q:TQ)(x0 x1 x2 x9 ez:AV)(L:Lg):Prop :=za F .aa [x0] L fun a L=>za F (.aj 4) [a] L fun b L=>za F (.ld none) [b] L fun c L=>za F (.un .neg) [ez] L fun d L=>za F (.bin .sub) [d,(.i .i64 1)] L fun e L=>za F .oh [c,x9,e] L fun _ L=>tn F Q x0 x1 x2 x9 ez L
def tu (F:TF)(Q:TQ)(x0 x1 x2 x9:AV)(L:Lg):Prop :=za F .aa [x0] L fun a L=>za F (.aj 3) [a] L fun b L=>za F (.ld none) [b] L fun c L=>za F .ax [c] L fun d L=>tq F Q x0 x1 x2 x9 d L
end
end
end Go.AM
