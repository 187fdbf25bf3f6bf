/- The texts Print1, LibClock, LibRing, LibWait, LibChan, LibMap, LibHeapA, LibHeapP of a proof of LapseSound, merged. -/
import Derived.Test.YtbpoekdljkkkpaaGreatLapseSoundG2
import Derived.KernelRfl
set_option linter.unusedVariables false
set_option maxRecDepth 100000
namespace Go.AM
section
open Go.Proofs
noncomputable section
variable {F:TF} {Q:TQ} {L:Lg} {a0 a1 a2 a3 a4 a5 a6 a7 a8:AV}
def tw (F:TF)(Q:TQ)(x0 x1 x2:AV)(L:Lg):Prop :=za F .aa [x0] L fun a L=>za F (.aj 1) [a] L fun b L=>za F (.ld none) [b] L fun c L=>za F .aa [x0] L fun d L=>za F (.aj 2) [d] L fun e L=>za F (.ld none) [e] L fun f L=>za F (.aX 9) [f,x1] L fun g L=>za F (.aj 0) [g] L fun h L=>za F (.ld none) [h] L fun i L=>zd F ia [c,i,(.b true)] L fun j L=>za F (.ext 0) [j] L fun k L=>za F (.ext 1) [j] L fun m L=>tu F Q x0 x1 x2 k L
def tA (F:TF)(Q:TQ)(x0 x1 x2:AV)(L:Lg):Prop :=zd F cX [x0,x1] L fun a L=>za F (.un .not) [a] L fun b L=>zn b (zm (some (.ay [(.i .i64 0),(.sl none 0 0 0),(.i .i64 4)])) Q L) (za F (.bin .lss) [x2,(.i .i64 0)] L fun c L=>zn c (zm (some (.ay [(.i .i64 0),(.sl none 0 0 0),(.i .i64 1)])) Q L) (za F .aa [x0] L fun d L=>za F (.aj 3) [d] L fun e L=>za F (.ld none) [e] L fun f L=>za F .ax [f] L fun g L=>za F (.bin .geq) [g,(.i .i64 64)] L fun h L=>zn h (zm (some (.ay [(.i .i64 0),(.sl none 0 0 0),(.i .i64 3)])) Q L) (tw F Q x0 x1 x2 L)))
def tB (F:TF)(Q:TQ)(x0 x1 x2:AV)(L:Lg):Prop :=tA F Q x0 x1 x2 L
structure pL (F:TF):Prop where
 code:F gW=some Ke
 f127:eu F
 f120:BW F
 f140:pO F
theorem QZ (h:F gW=some Ke)(e:tB F Q a0 a1 a2 L):zd F gW [a0,a1,a2] L Q :=
 cw h (fun l t L=>wS (fun l t L=>wS (fun l t L=>wS (fun l t L=>wS (fun l t L=>wS (fun l t L=>lf (tn F Q (l 0) (l 1) (l 2) (l 9) (l 11) L)) (lf (tq F Q (l 0) (l 1) (l 2) (l 9) (l 11) L))) (lf (tu F Q (l 0) (l 1) (l 2) (l 9) L))) (lf (tw F Q (l 0) (l 1) (l 2) L))) (lf (tA F Q (l 0) (l 1) (l 2) L))) (lf (tB F Q (l 0) (l 1) (l 2) L))) e
def tj (F:TF)(Q:TQ)(x0 x1:AV)(L:Lg):Prop :=zd F cX [x0,x1] L fun a L=>za F (.un .not) [a] L fun b L=>zn b (zm (some (.ay [(.i .i64 0),(.b false),(.i .i64 4)])) Q L) (za F .aa [x0] L fun c L=>za F (.aj 2) [c] L fun d L=>za F (.ld none) [d] L fun e L=>za F (.aX 9) [e,x1] L fun f L=>za F (.aj 5) [f] L fun g L=>za F (.ld none) [g] L fun h L=>za F .aa [x0] L fun i L=>za F (.aj 2) [i] L fun j L=>za F (.ld none) [j] L fun k L=>za F (.aX 9) [k,x1] L fun m L=>za F (.aj 6) [m] L fun n L=>za F (.ld none) [n] L fun o L=>zm (some (.ay [h,o,(.i .i64 0)])) Q L)
structure BP (F:TF):Prop where
 code:F gV=some Kd
 f127:eu F
theorem QY (h:F gV=some Kd)(e:tj F Q a0 a1 L):zd F gV [a0,a1] L Q :=
 cw h (fun l t L=>lf (tj F Q (l 0) (l 1) L)) e
def fK (F:TF)(Q:TQ)(x0 x1 x2:AV)(L:Lg):Prop :=zd F dL [x0,x1,(.i .i64 1),x2] L fun a L=>za F (.ext 0) [a] L fun b L=>za F (.ext 1) [a] L fun c L=>zm (some (.ay [b,c,(.i .i64 0)])) Q L
def td (F:TF)(Q:TQ)(x0 x1 x2:AV)(L:Lg):Prop :=zd F cX [x0,x1] L fun a L=>za F (.un .not) [a] L fun b L=>zn b (zm (some (.ay [(.sl none 0 0 0),(.sl none 0 0 0),(.i .i64 4)])) Q L) (za F .aa [x0] L fun c L=>za F (.aj 2) [c] L fun d L=>za F (.ld none) [d] L fun e L=>za F (.aX 9) [e,x1] L fun f L=>za F (.aj 1) [f] L fun g L=>za F (.ld none) [g] L fun h L=>zn h (zm (some (.ay [(.sl none 0 0 0),(.sl none 0 0 0),(.i .i64 1)])) Q L) (za F (.bin .lss) [x2,(.i .i64 1)] L fun i L=>zn i (fK F Q x0 x1 (.i .i64 1) L) (fK F Q x0 x1 x2 L)))
def th (F:TF)(Q:TQ)(x0 x1 x2:AV)(L:Lg):Prop :=td F Q x0 x1 x2 L
structure pK (F:TF):Prop where
 code:F gU=some Kc
 f127:eu F
 f141:iA F
theorem QX (h:F gU=some Kc)(e:th F Q a0 a1 a2 L):zd F gU [a0,a1,a2] L Q :=
 cw h (fun l t L=>wS (fun l t L=>wS (fun l t L=>lf (fK F Q (l 0) (l 1) (l 2) L)) (lf (td F Q (l 0) (l 1) (l 2) L))) (lf (th F Q (l 0) (l 1) (l 2) L))) e
def tc (F:TF)(Q:TQ)(x0 x1:AV)(L:Lg):Prop :=zd F cX [x0,x1] L fun a L=>za F (.un .not) [a] L fun b L=>zn b (zm (some (.ay [(.i .i64 0),(.i .i64 4)])) Q L) (za F .aa [x0] L fun c L=>za F (.aj 2) [c] L fun d L=>za F (.ld none) [d] L fun e L=>za F (.aX 9) [e,x1] L fun f L=>za F (.aj 3) [f] L fun g L=>za F (.ld none) [g] L fun h L=>zm (some (.ay [h,(.i .i64 0)])) Q L)
structure BO (F:TF):Prop where
 code:F gT=some Ka
 f127:eu F
theorem QW (h:F gT=some Ka)(e:tc F Q a0 a1 L):zd F gT [a0,a1] L Q :=
 cw h (fun l t L=>lf (tc F Q (l 0) (l 1) L)) e
def s9 (F:TF)(Q:TQ)(x0 x1:AV)(L:Lg):Prop :=zd F cX [x0,x1] L fun a L=>za F (.un .not) [a] L fun b L=>zn b (zm (some (.ay [(.i .i64 0),(.i .i64 4)])) Q L) (za F .aa [x0] L fun c L=>za F (.aj 2) [c] L fun d L=>za F (.ld none) [d] L fun e L=>za F (.aX 9) [e,x1] L fun f L=>za F (.aj 4) [f] L fun g L=>za F (.ld none) [g] L fun h L=>zm (some (.ay [h,(.i .i64 0)])) Q L)
structure BN (F:TF):Prop where
 code:F gS=some J9
 f127:eu F
theorem QV (h:F gS=some J9)(e:s9 F Q a0 a1 L):zd F gS [a0,a1] L Q :=
 cw h (fun l t L=>lf (s9 F Q (l 0) (l 1) L)) e
def sW (F:TF)(Q:TQ)(x0 x1:AV)(L:Lg):Prop :=za F .aa [x0] L fun a L=>za F (.aj 3) [a] L fun b L=>za F (.ld none) [b] L fun c L=>za F (.aX 3) [c,x1] L fun d L=>za F .aa [d] L fun e L=>za F (.aj 2) [e] L fun f L=>za F (.ld none) [f] L fun g L=>za F (.un .not) [g] L fun h L=>za F .aa [d] L fun i L=>za F (.aj 2) [i] L fun j L=>za F (.st 1) [j,(.b true)] L fun _ L=>za F .aa [x0] L fun k L=>za F (.aj 1) [k] L fun m L=>za F (.ld none) [m] L fun n L=>za F .aa [d] L fun o L=>za F (.aj 0) [o] L fun p L=>za F (.ld none) [p] L fun q L=>zd F eN [n,q] L fun r L=>zm (some (.ay [h,(.i .i64 0)])) Q L
def sZ (F:TF)(Q:TQ)(x0 x1:AV)(L:Lg):Prop :=za F (.eq false .ptr) [x0,(.p none)] L fun a L=>zi F a false .mv [x1] L fun b L=>zi F a false (.bin .lss) [b,(.i .i64 0)] L fun c L=>za F .pick [a,(.b true),c] L fun d L=>zi F d false .mv [x1] L fun e L=>zi F d false .mv [x0] L fun f L=>zi F d false .aa [f] L fun g L=>zi F d false (.aj 3) [g] L fun h L=>zi F d false (.ld none) [h] L fun i L=>zi F d false .ax [i] L fun j L=>zi F d false (.bin .geq) [e,j] L fun k L=>za F .pick [d,(.b true),k] L fun m L=>zn m (zm (some (.ay [(.b false),(.i .i64 4)])) Q L) (sW F Q x0 x1 L)
def s6 (F:TF)(Q:TQ)(x0 x1:AV)(L:Lg):Prop :=sZ F Q x0 x1 L
structure pJ (F:TF):Prop where
 code:F gR=some J8
 f139:kC F
theorem QU (h:F gR=some J8)(e:s6 F Q a0 a1 L):zd F gR [a0,a1] L Q :=
 cw h (fun l t L=>wS (fun l t L=>wS (fun l t L=>lf (sW F Q (l 0) (l 1) L)) (lf (sZ F Q (l 0) (l 1) L))) (lf (s6 F Q (l 0) (l 1) L))) e
def sV (F:TF)(Q:TQ)(x0:AV)(L:Lg):Prop :=za F (.eq false .ptr) [x0,(.p none)] L fun a L=>zn a (zm (some (.i .i64 0)) Q L) (za F .aa [x0] L fun b L=>za F (.aj 2) [b] L fun c L=>za F (.ld none) [c] L fun d L=>za F .ax [d] L fun e L=>zm (some e) Q L)
structure Gd (F:TF):Prop where
 code:F jN=some J7
theorem QT (h:F jN=some J7)(e:sV F Q a0 L):zd F jN [a0] L Q :=
 cw h (fun l t L=>lf (sV F Q (l 0) L)) e
def sU (F:TF)(Q:TQ)(x0 x1:AV)(L:Lg):Prop :=zd F cX [x0,x1] L fun a L=>za F (.un .not) [a] L fun b L=>zn b (zm (some (.ay [(.p none),(.i .i64 4)])) Q L) (za F .aa [x0] L fun c L=>za F (.aj 2) [c] L fun d L=>za F (.ld none) [d] L fun e L=>za F (.aX 9) [e,x1] L fun f L=>za F (.aj 2) [f] L fun g L=>za F (.ld none) [g] L fun h L=>zm (some (.ay [h,(.i .i64 0)])) Q L)
structure pI (F:TF):Prop where
 code:F gQ=some J6
 f127:eu F
theorem QS (h:F gQ=some J6)(e:sU F Q a0 a1 L):zd F gQ [a0,a1] L Q :=
 cw h (fun l t L=>lf (sU F Q (l 0) (l 1) L)) e
def sQ (F:TF)(Q:TQ)(x0 x1:AV)(L:Lg):Prop :=zd F cX [x0,x1] L fun a L=>za F (.un .not) [a] L fun b L=>zn b (zm (some (.ay [(.sl none 0 0 0),(.sl none 0 0 0),(.i .i64 4)])) Q L) (za F .aa [x0] L fun c L=>za F (.aj 2) [c] L fun d L=>za F (.ld none) [d] L fun e L=>za F (.aX 9) [e,x1] L fun f L=>za F (.aj 7) [f] L fun g L=>za F (.ld none) [g] L fun h L=>za F (.un .not) [h] L fun i L=>zn i (zm (some (.ay [(.sl none 0 0 0),(.sl none 0 0 0),(.i .i64 1)])) Q L) (zd F dL [x0,x1,(.i .i64 2),(.i .i64 2)] L fun j L=>za F (.ext 0) [j] L fun k L=>za F (.ext 1) [j] L fun m L=>zm (some (.ay [k,m,(.i .i64 0)])) Q L))
structure pH (F:TF):Prop where
 code:F fm=some J5
 f127:eu F
 f141:iA F
theorem QO (h:F fm=some J5)(e:sQ F Q a0 a1 L):zd F fm [a0,a1] L Q :=
 cw h (fun l t L=>lf (sQ F Q (l 0) (l 1) L)) e
def sP (F:TF)(Q:TQ)(L:Lg):Prop :=zd F AT [] L fun a L=>za F (.build [.sl none 0 0 0,.i .i64 0,.sl none 0 0 0,.sl none 0 0 0,.i .i64 0] []) [] L fun b L=>za F .box [b] L fun c L=>zd F jX [a] L fun d L=>zd F jW [c] L fun e L=>za F (.build [.p none,.p none,.p none,.p none,.i .i64 0] [(0,1),(1,1),(2,1),(3,1)]) [a,d,c,e] L fun f L=>za F .box [f] L fun g L=>za F .aa [g] L fun h L=>za F (.aj 0) [h] L fun i L=>za F (.ld none) [i] L fun j L=>za F (.eq true .ptr) [j,(.p none)] L fun k L=>zi F k true .mv [g] L fun m L=>zi F k true .aa [m] L fun n L=>zi F k true (.aj 1) [n] L fun o L=>zi F k true (.ld none) [o] L fun p L=>zi F k true (.eq true .ptr) [p,(.p none)] L fun q L=>za F .pick [k,q,(.b false)] L fun r L=>zm (some (.ay [g,r])) Q L
structure Gc (F:TF):Prop where
 code:F jM=some J4
 f21:Ly F
 f122:Gj F
 f125:Gi F
theorem QN (h:F jM=some J4)(e:sP F Q L):zd F jM [] L Q :=
 cw h (fun l t L=>lf (sP F Q L)) e
def sN (F:TF)(Q:TQ)(x6:AV)(L:Lg):Prop :=zm (some x6) Q L
def mz (F:TF)(Q:TQ)(k1:TK)(l:Env)(L:Lg):Prop :=za F (.bin .add) [(l 11),(.i .i64 1)] L fun a L=>k1 (Env.put l 11 a) L
def gm (F:TF)(Q:TQ)(k1:TK)(l:Env)(L:Lg):Prop :=zd F gT [(l 0),(l 7)] L fun a L=>za F (.ext 0) [a] L fun b L=>za F (.ext 1) [a] L fun c L=>za F (.aj 2) [(l 8)] L fun d L=>za F (.st 1) [d,b] L fun _ L=>zd F gS [(l 0),(l 7)] L fun e L=>za F (.ext 0) [e] L fun f L=>za F (.ext 1) [e] L fun g L=>za F (.aj 3) [(l 8)] L fun h L=>za F (.st 1) [h,f] L fun _ L=>zd F gV [(l 0),(l 7)] L fun i L=>za F (.ext 0) [i] L fun j L=>za F (.ext 1) [i] L fun k L=>za F (.ext 2) [i] L fun m L=>za F (.aj 4) [(l 8)] L fun n L=>za F (.st 1) [n,j] L fun _ L=>za F (.aj 5) [(l 8)] L fun o L=>za F (.st 1) [o,k] L fun _ L=>za F (.ld (some 6)) [(l 8)] L fun p L=>za F (.aC [.i .i64 0,.b false,.i .i64 0,.i .i64 0,.i .i64 0,.b false] 1 6 [0]) [p] L fun q L=>za F (.app 6 48) [(l 6),q] L fun r L=>mz F Q k1 (Env.put l 6 r) L
def eG (F:TF)(Q:TQ)(k1:TK)(l:Env)(L:Lg):Prop :=za F .ax [(l 2)] L fun a L=>za F (.bin .lss) [(l 7),a] L fun b L=>zi F b true .mv [(l 2)] L fun c L=>zi F b true .mv [(l 7)] L fun d L=>zi F b true (.aX 1) [c,d] L fun e L=>zi F b true (.ld none) [e] L fun f L=>za F .pick [b,f,(.b false)] L fun g L=>za F (.aj 1) [(l 8)] L fun h L=>za F (.st 1) [h,g] L fun _ L=>gm F Q k1 l L
def mq (F:TF)(Q:TQ)(k1:TK)(l:Env)(L:Lg):Prop :=za F .ax [(l 1)] L fun a L=>za F (.bin .lss) [(l 7),a] L fun b L=>zn b (za F (.aX 1) [(l 1),(l 7)] L fun c L=>za F (.ld none) [c] L fun d L=>za F (.aj 0) [(l 8)] L fun e L=>za F (.st 1) [e,d] L fun _ L=>eG F Q k1 l L) (eG F Q k1 l L)
def mu (F:TF)(Q:TQ)(k1:TK)(l:Env)(L:Lg):Prop :=za F (.build [.i .i64 0,.b false,.i .i64 0,.i .i64 0,.i .i64 0,.b false] [(0,1)]) [(.i .i64 (-1))] L fun a L=>za F (.alloc [.i .i64 0,.b false,.i .i64 0,.i .i64 0,.i .i64 0,.b false]) [] L fun b L=>za F (.st 6) [b,a] L fun _ L=>mq F Q k1 (Env.put l 8 b) L
def mw (F:TF)(Q:TQ)(k1:TK)(l:Env)(L:Lg):Prop :=mu F Q k1 (Env.put l 7 (l 11)) L
def sH (F:TF)(Q:TQ)(k1:TK)(l:Env)(t12:AV)(L:Lg):Prop :=zn t12 (mw F Q k1 l L) (sN F Q (l 6) L)
def sJ (F:TF)(Q:TQ)(k1:TK)(l:Env)(L:Lg):Prop :=za F (.bin .lss) [(l 11),(l 10)] L fun a L=>sH F Q k1 l a L
def sK (F:TF)(Q:TQ)(l:Env)(L:Lg):Prop :=xA (fun l t L k1=>sJ F Q k1 l L) l L
def sM (F:TF)(Q:TQ)(l:Env)(L:Lg):Prop :=zd F jN [(l 0)] L fun a L=>sK F Q (Env.put (Env.put l 10 a) 11 (.i .i64 0)) L
def sO (F:TF)(Q:TQ)(l:Env)(L:Lg):Prop :=sM F Q (Env.put l 6 (.sl none 0 0 0)) L
structure pG (F:TF):Prop where
 code:F jL=some J3
 f155:Gd F
 f149:BO F
 f150:BN F
 f147:BP F
theorem QM (h:F jL=some J3)(e:sO F Q (zI [a0,a1,a2] 0) L):zd F jL [a0,a1,a2] L Q :=
 cw h (fun l t L=>wS (fun l t L=>wS (fun l t L=>lf (sN F Q (l 6) L)) (wS (fun l t L=>wB (wL (fun l t L k1=>wS (fun l t L=>wS (fun l t L=>wS (fun l t L=>lf (mz F Q k1 l L)) (wB (wS (fun l t L=>wS (fun l t L=>wS (fun l t L=>wS (fun l t L=>lf (gm F Q k1 l L)) (lf (eG F Q k1 l L))) (lf (mq F Q k1 l L))) (lf (mu F Q k1 l L))) (lf (mw F Q k1 l L))))) (lf (sH F Q k1 l (t 12) L))) (lf (sJ F Q k1 l L))) (lf (sK F Q l L)))) (lf (sM F Q l L)))) (lf (sO F Q l L))) e
def sG (F:TF)(Q:TQ)(x0:AV)(L:Lg):Prop :=za F .box [x0] L fun a L=>za F (.aj 2) [a] L fun b L=>za F (.ld none) [b] L fun c L=>za F (.bin .eql) [c,(.i .i64 0)] L fun d L=>zn d (za F (.aj 3) [a] L fun e L=>za F (.ld none) [e] L fun f L=>za F (.bin .eql) [f,(.i .i64 0)] L fun g L=>zm (some g) Q L) (za F (.bin .eql) [c,(.i .i64 1)] L fun h L=>zn h (zn h (za F (.aj 3) [a] L fun i L=>za F (.ld none) [i] L fun j L=>za F (.bin .geq) [j,(.i .i64 1)] L fun k L=>zm (some k) Q L) (zm (some (.b false)) Q L)) (za F (.bin .eql) [c,(.i .i64 2)] L fun m L=>zn m (za F (.aj 3) [a] L fun n L=>za F (.ld none) [n] L fun o L=>za F (.bin .geq) [o,(.i .i64 1)] L fun p L=>zm (some p) Q L) (zm (some (.b false)) Q L)))
structure Gb (F:TF):Prop where
 code:F jK=some J2
theorem QL (h:F jK=some J2)(e:sG F Q a0 L):zd F jK [a0] L Q :=
 cw h (fun l t L=>lf (sG F Q (l 0) L)) e
def sF (F:TF)(Q:TQ)(x0 x1:AV)(L:Lg):Prop :=za F .box [x0] L fun a L=>za F .box [x1] L fun b L=>za F (.aj 2) [b] L fun c L=>za F (.ld none) [c] L fun d L=>za F (.bin .eql) [d,(.i .i64 0)] L fun e L=>zi F e false (.aj 2) [a] L fun f L=>zi F e false (.ld none) [f] L fun g L=>zi F e false (.bin .neq) [g,(.i .i64 0)] L fun h L=>za F .pick [e,(.b true),h] L fun i L=>zi F i true (.aj 5) [b] L fun j L=>zi F i true (.ld none) [j] L fun k L=>zi F i true (.un .not) [k] L fun m L=>zi F i true .mv [m] L fun n L=>zi F n false (.aj 5) [a] L fun o L=>zi F n false (.ld none) [o] L fun p L=>zi F n false .mv [p] L fun q L=>zi F q true (.aj 4) [a] L fun r L=>zi F q true (.ld none) [r] L fun s L=>zi F q true (.aj 4) [b] L fun t L=>zi F q true (.ld none) [t] L fun u L=>zi F q true (.bin .leq) [s,u] L fun v L=>zi F n false .pick [q,v,(.b false)] L fun w L=>zi F i true .pick [n,(.b true),w] L fun x L=>za F .pick [i,x,(.b false)] L fun y L=>zm (some y) Q L
structure Ga (F:TF):Prop where
 code:F jJ=some J1
theorem QK (h:F jJ=some J1)(e:sF F Q a0 a1 L):zd F jJ [a0,a1] L Q :=
 cw h (fun l t L=>lf (sF F Q (l 0) (l 1) L)) e
def sx (F:TF)(Q:TQ)(k1:TK)(l:Env)(L:Lg):Prop :=za F (.aX 6) [(l 0),(l 1)] L fun a L=>za F (.ld (some 6)) [a] L fun b L=>za F (.alloc [.i .i64 0,.b false,.i .i64 0,.i .i64 0,.i .i64 0,.b false]) [] L fun c L=>za F (.st 6) [c,b] L fun _ L=>za F (.aj 5) [c] L fun d L=>za F (.ld none) [d] L fun e L=>zi F e true (.aj 4) [c] L fun f L=>zi F e true (.ld none) [f] L fun g L=>zi F e true .mv [(l 2)] L fun h L=>zi F e true (.bin .leq) [g,h] L fun i L=>za F .pick [e,i,(.b false)] L fun j L=>zn j (zm (some (.b true)) Q L) (za F (.aj 1) [c] L fun k L=>za F (.ld none) [k] L fun m L=>za F (.un .not) [m] L fun n L=>zi F n false (.aj 0) [c] L fun o L=>zi F n false (.ld none) [o] L fun p L=>zi F n false (.bin .lss) [p,(.i .i64 0)] L fun q L=>za F .pick [n,(.b true),q] L fun r L=>zi F r false (.aj 0) [c] L fun s L=>zi F r false (.ld none) [s] L fun t L=>zi F r false .mv [(l 1)] L fun u L=>zi F r false (.bin .geq) [t,u] L fun v L=>za F .pick [r,(.b true),v] L fun w L=>zn w (zm (some (.b false)) Q L) (za F (.aj 0) [c] L fun x L=>za F (.ld none) [x] L fun y L=>k1 (Env.put (Env.put l 7 c) 1 y) L))
def sy (F:TF)(Q:TQ)(l:Env)(L:Lg):Prop :=xA (fun l t L k1=>sx F Q k1 l L) l L
def sE (F:TF)(Q:TQ)(l:Env)(L:Lg):Prop :=sy F Q (Env.put l 6 (.b false)) L
structure F9 (F:TF):Prop where
 code:F jI=some J0
theorem QJ (h:F jI=some J0)(e:sE F Q (zI [a0,a1,a2] 0) L):zd F jI [a0,a1,a2] L Q :=
 cw h (fun l t L=>wS (fun l t L=>wB (wL (fun l t L k1=>lf (sx F Q k1 l L)) (lf (sy F Q l L)))) (lf (sE F Q l L))) e
def so (F:TF)(Q:TQ)(L:Lg):Prop :=zm (some (.b true)) Q L
def gl (F:TF)(Q:TQ)(k1:TK)(l:Env)(L:Lg):Prop :=za F (.bin .add) [(l 10),(.i .i64 1)] L fun a L=>k1 (Env.put l 10 a) L
def mh (F:TF)(Q:TQ)(k1:TK)(l:Env)(L:Lg):Prop :=zi F (l 7) true (.ld (some 6)) [(l 6)] L fun a L=>zi F (l 7) true .mv [(l 0)] L fun b L=>zi F (l 7) true (.aj 0) [(l 6)] L fun c L=>zi F (l 7) true (.ld none) [c] L fun d L=>zi F (l 7) true (.aX 6) [b,d] L fun e L=>zi F (l 7) true (.ld (some 6)) [e] L fun f L=>zi F (l 7) true (.call jJ) [a,f] L fun g L=>zi F (l 7) true (.un .not) [g] L fun h L=>za F .pick [(l 7),h,(.b false)] L fun i L=>zn i (zm (some (.b false)) Q L) (za F (.aj 2) [(l 6)] L fun j L=>za F (.ld none) [j] L fun k L=>za F (.bin .eql) [k,(.i .i64 2)] L fun m L=>zi F m true .mv [(l 0)] L fun n L=>zi F m true .mv [(l 5)] L fun o L=>zi F m true .mv [(l 1)] L fun p L=>zi F m true (.call jI) [n,o,p] L fun q L=>zi F m true (.un .not) [q] L fun r L=>za F .pick [m,r,(.b false)] L fun s L=>zi F s true .mv [(l 7)] L fun t L=>zi F s true .mv [t] L fun u L=>zi F u true .mv [(l 0)] L fun v L=>zi F u true (.aj 0) [(l 6)] L fun w L=>zi F u true (.ld none) [w] L fun x L=>zi F u true (.aX 6) [v,x] L fun y L=>zi F u true (.aj 2) [y] L fun z L=>zi F u true (.ld none) [z] L fun A L=>zi F u true (.bin .eql) [A,(.i .i64 2)] L fun B L=>zi F s true .pick [u,B,(.b false)] L fun C L=>zi F s true (.un .not) [C] L fun D L=>za F .pick [s,D,(.b false)] L fun E L=>zn E (zm (some (.b false)) Q L) (gl F Q k1 l L))
def mj (F:TF)(Q:TQ)(k1:TK)(l:Env)(L:Lg):Prop :=za F (.aj 1) [(l 6)] L fun a L=>za F (.ld none) [a] L fun b L=>zi F b true (.aj 0) [(l 6)] L fun c L=>zi F b true (.ld none) [c] L fun d L=>zi F b true (.bin .geq) [d,(.i .i64 0)] L fun e L=>za F .pick [b,e,(.b false)] L fun f L=>mh F Q k1 (Env.put l 7 f) L
def mm (F:TF)(Q:TQ)(k1:TK)(l:Env)(L:Lg):Prop :=za F (.aj 0) [(l 6)] L fun a L=>za F (.ld none) [a] L fun b L=>za F (.bin .lss) [b,(.i .i64 (-1))] L fun c L=>zi F c false (.aj 0) [(l 6)] L fun d L=>zi F c false (.ld none) [d] L fun e L=>zi F c false .mv [(l 5)] L fun f L=>zi F c false (.bin .geq) [e,f] L fun g L=>za F .pick [c,(.b true),g] L fun h L=>zi F h false (.ld (some 6)) [(l 6)] L fun i L=>zi F h false (.call jK) [i] L fun j L=>zi F h false (.un .not) [j] L fun k L=>za F .pick [h,(.b true),k] L fun m L=>zn m (zm (some (.b false)) Q L) (mj F Q k1 l L)
def mo (F:TF)(Q:TQ)(k1:TK)(l:Env)(L:Lg):Prop :=za F (.aX 6) [(l 8),(l 10)] L fun a L=>za F (.ld (some 6)) [a] L fun b L=>za F (.alloc [.i .i64 0,.b false,.i .i64 0,.i .i64 0,.i .i64 0,.b false]) [] L fun c L=>za F (.st 6) [c,b] L fun _ L=>mm F Q k1 (Env.put (Env.put l 6 c) 5 (l 10)) L
def si (F:TF)(Q:TQ)(k1:TK)(l:Env)(t11:AV)(L:Lg):Prop :=zn t11 (mo F Q k1 l L) (so F Q L)
def sj (F:TF)(Q:TQ)(k1:TK)(l:Env)(L:Lg):Prop :=za F (.bin .lss) [(l 10),(l 9)] L fun a L=>si F Q k1 l a L
def sk (F:TF)(Q:TQ)(l:Env)(L:Lg):Prop :=xA (fun l t L k1=>sj F Q k1 l L) l L
def sn (F:TF)(Q:TQ)(l:Env)(L:Lg):Prop :=za F .ax [(l 0)] L fun a L=>sk F Q (Env.put (Env.put (Env.put l 8 (l 0)) 9 a) 10 (.i .i64 0)) L
def su (F:TF)(Q:TQ)(l:Env)(L:Lg):Prop :=sn F Q (Env.put l 4 (.b false)) L
structure pF (F:TF):Prop where
 code:F jH=some JZ
 f165:Gb F
 f166:Ga F
 f167:F9 F
theorem QI (h:F jH=some JZ)(e:su F Q (zI [a0,a1] 0) L):zd F jH [a0,a1] L Q :=
 cw h (fun l t L=>wS (fun l t L=>wS (fun l t L=>lf (so F Q L)) (wS (fun l t L=>wB (wL (fun l t L k1=>wS (fun l t L=>wS (fun l t L=>wS (fun l t L=>lf (gl F Q k1 l L)) (wB (wS (fun l t L=>wS (fun l t L=>wS (fun l t L=>lf (mh F Q k1 l L)) (lf (mj F Q k1 l L))) (lf (mm F Q k1 l L))) (lf (mo F Q k1 l L))))) (lf (si F Q k1 l (t 11) L))) (lf (sj F Q k1 l L))) (lf (sk F Q l L)))) (lf (sn F Q l L)))) (lf (su F Q l L))) e
def rZ (F:TF)(Q:TQ)(x0 x1:AV)(L:Lg):Prop :=za F (.bin .geq) [x1,(.i .i64 0)] L fun a L=>zi F a true .mv [x1] L fun b L=>zi F a true .mv [x0] L fun c L=>zi F a true .aa [c] L fun d L=>zi F a true (.aj 3) [d] L fun e L=>zi F a true (.ld none) [e] L fun f L=>zi F a true .ax [f] L fun g L=>zi F a true (.bin .lss) [b,g] L fun h L=>za F .pick [a,h,(.b false)] L fun i L=>zm (some i) Q L
structure dM (F:TF):Prop where
 code:F cS=some JY
theorem QH (h:F cS=some JY)(e:rZ F Q a0 a1 L):zd F cS [a0,a1] L Q :=
 cw h (fun l t L=>lf (rZ F Q (l 0) (l 1) L)) e
def rY (F:TF)(Q:TQ)(x0 x1:AV)(L:Lg):Prop :=za F .aa [x0] L fun a L=>za F (.aj 2) [a] L fun b L=>za F (.ld none) [b] L fun c L=>za F .aa [x0] L fun d L=>za F (.aj 3) [d] L fun e L=>za F (.ld none) [e] L fun f L=>za F (.aX 1) [f,x1] L fun g L=>za F (.ld none) [g] L fun h L=>za F (.aX 12) [c,h] L fun i L=>zm (some i) Q L
structure eg (F:TF):Prop where
 code:F cz=some JX
theorem QG (h:F cz=some JX)(e:rY F Q a0 a1 L):zd F cz [a0,a1] L Q :=
 cw h (fun l t L=>lf (rY F Q (l 0) (l 1) L)) e
def rX (F:TF)(Q:TQ)(x0 x1:AV)(L:Lg):Prop :=za F (.bin .lss) [x1,(.i .i64 0)] L fun a L=>zi F a false .mv [x1] L fun b L=>zi F a false .mv [x0] L fun c L=>zi F a false .aa [c] L fun d L=>zi F a false (.aj 0) [d] L fun e L=>zi F a false (.ld none) [e] L fun f L=>zi F a false .ax [f] L fun g L=>zi F a false (.bin .geq) [b,g] L fun h L=>za F .pick [a,(.b true),h] L fun i L=>zi F i false .mv [x0] L fun j L=>zi F i false .aa [j] L fun k L=>zi F i false (.aj 0) [k] L fun m L=>zi F i false (.ld none) [m] L fun n L=>zi F i false .mv [x1] L fun o L=>zi F i false (.aX 2) [n,o] L fun p L=>zi F i false (.aj 1) [p] L fun q L=>zi F i false (.ld none) [q] L fun r L=>zi F i false (.un .not) [r] L fun s L=>za F .pick [i,(.b true),s] L fun t L=>zn t (zm (some (.b false)) Q L) (za F .aa [x0] L fun u L=>za F (.aj 0) [u] L fun v L=>za F (.ld none) [v] L fun w L=>za F (.aX 2) [w,x1] L fun x L=>za F (.aj 1) [x] L fun y L=>za F (.st 1) [y,(.b false)] L fun _ L=>zm (some (.b true)) Q L)
structure pE (F:TF):Prop where
 code:F eL=some JW
theorem QF (h:F eL=some JW)(e:rX F Q a0 a1 L):zd F eL [a0,a1] L Q :=
 cw h (fun l t L=>lf (rX F Q (l 0) (l 1) L)) e
def rV (F:TF)(Q:TQ)(L:Lg):Prop :=zm (some (.b false)) Q L
def rS (F:TF)(Q:TQ)(k1:TK)(l:Env)(L:Lg):Prop :=za F .ax [(l 0)] L fun a L=>za F (.bin .lss) [(l 5),a] L fun b L=>zn b (za F (.aX 5) [(l 0),(l 5)] L fun c L=>za F (.aj 0) [c] L fun d L=>za F (.ld none) [d] L fun e L=>za F (.bin .eql) [e,(l 1)] L fun f L=>zn f (zm (some (.b true)) Q L) (za F (.bin .add) [(l 5),(.i .i64 1)] L fun g L=>k1 (Env.put l 5 g) L)) (rV F Q L)
def rT (F:TF)(Q:TQ)(l:Env)(L:Lg):Prop :=xA (fun l t L k1=>rS F Q k1 l L) l L
def rU (F:TF)(Q:TQ)(l:Env)(L:Lg):Prop :=rT F Q (Env.put l 5 (.i .i64 0)) L
def rW (F:TF)(Q:TQ)(l:Env)(L:Lg):Prop :=rU F Q (Env.put l 4 (.b false)) L
structure F8 (F:TF):Prop where
 code:F gP=some JV
theorem QE (h:F gP=some JV)(e:rW F Q (zI [a0,a1] 0) L):zd F gP [a0,a1] L Q :=
 cw h (fun l t L=>wS (fun l t L=>wS (fun l t L=>lf (rV F Q L)) (wS (fun l t L=>wB (wL (fun l t L k1=>lf (rS F Q k1 l L)) (lf (rT F Q l L)))) (lf (rU F Q l L)))) (lf (rW F Q l L))) e
def rP (F:TF)(Q:TQ)(x0 x3:AV)(L:Lg):Prop :=za F .aa [x0] L fun a L=>za F (.aj 6) [a] L fun b L=>za F (.st 1) [b,(.sl none 0 0 0)] L fun _ L=>za F .aa [x0] L fun c L=>za F (.aj 5) [c] L fun d L=>za F (.st 1) [d,(.sl none 0 0 0)] L fun _ L=>za F .aa [x0] L fun e L=>za F (.aj 3) [e] L fun f L=>za F (.st 1) [f,(.b true)] L fun _ L=>zm (some x3) Q L
def mg (F:TF)(Q:TQ)(k1:TK)(l:Env)(L:Lg):Prop :=za F .aa [(l 0)] L fun a L=>za F (.aj 5) [a] L fun b L=>za F (.ld none) [b] L fun c L=>za F (.aX 3) [c,(l 5)] L fun d L=>za F (.aj 0) [d] L fun e L=>za F (.ld none) [e] L fun f L=>zd F gP [(l 3),f] L fun g L=>za F (.un .not) [g] L fun h L=>zn h (za F .aa [(l 0)] L fun i L=>za F (.aj 5) [i] L fun j L=>za F (.ld none) [j] L fun k L=>za F (.aX 3) [k,(l 5)] L fun m L=>za F (.aj 0) [m] L fun n L=>za F (.ld none) [n] L fun o L=>za F .aa [(l 0)] L fun p L=>za F (.aj 5) [p] L fun q L=>za F (.ld none) [q] L fun r L=>za F (.aX 3) [r,(l 5)] L fun s L=>za F (.aj 1) [s] L fun t L=>za F (.ld none) [t] L fun u L=>za F (.build [.i .i64 0,.i .i64 0,.i .i64 0,.b false,.b false] [(0,1),(1,1),(4,1)]) [o,u,(.b true)] L fun v L=>za F (.aC [.i .i64 0,.i .i64 0,.i .i64 0,.b false,.b false] 1 5 [0]) [v] L fun w L=>za F (.app 5 32) [(l 3),w] L fun x L=>za F (.bin .add) [(l 5),(.i .i64 1)] L fun y L=>k1 (Env.put (Env.put l 3 x) 5 y) L) (za F (.bin .add) [(l 5),(.i .i64 1)] L fun z L=>k1 (Env.put l 5 z) L)
def rM (F:TF)(Q:TQ)(k1:TK)(l:Env)(L:Lg):Prop :=za F .aa [(l 0)] L fun a L=>za F (.aj 5) [a] L fun b L=>za F (.ld none) [b] L fun c L=>za F .ax [c] L fun d L=>za F (.bin .lss) [(l 5),d] L fun e L=>zn e (mg F Q k1 l L) (rP F Q (l 0) (l 3) L)
def rN (F:TF)(Q:TQ)(l:Env)(L:Lg):Prop :=xA (fun l t L k1=>rM F Q k1 l L) l L
def rO (F:TF)(Q:TQ)(l:Env)(L:Lg):Prop :=rN F Q (Env.put l 5 (.i .i64 0)) L
def lZ (F:TF)(Q:TQ)(k1:TK)(l:Env)(L:Lg):Prop :=za F .aa [(l 0)] L fun a L=>za F (.aj 6) [a] L fun b L=>za F (.ld none) [b] L fun c L=>za F (.aX 3) [c,(l 4)] L fun d L=>za F (.aj 0) [d] L fun e L=>za F (.ld none) [e] L fun f L=>zd F gP [(l 3),f] L fun g L=>za F (.un .not) [g] L fun h L=>zn h (za F .aa [(l 0)] L fun i L=>za F (.aj 6) [i] L fun j L=>za F (.ld none) [j] L fun k L=>za F (.aX 3) [k,(l 4)] L fun m L=>za F (.aj 0) [m] L fun n L=>za F (.ld none) [n] L fun o L=>za F .aa [(l 0)] L fun p L=>za F (.aj 6) [p] L fun q L=>za F (.ld none) [q] L fun r L=>za F (.aX 3) [r,(l 4)] L fun s L=>za F (.aj 1) [s] L fun t L=>za F (.ld none) [t] L fun u L=>za F (.build [.i .i64 0,.i .i64 0,.i .i64 0,.b false,.b false] [(0,1),(1,1)]) [o,u] L fun v L=>za F (.aC [.i .i64 0,.i .i64 0,.i .i64 0,.b false,.b false] 1 5 [0]) [v] L fun w L=>za F (.app 5 32) [(l 3),w] L fun x L=>za F (.bin .add) [(l 4),(.i .i64 1)] L fun y L=>k1 (Env.put (Env.put l 3 x) 4 y) L) (za F (.bin .add) [(l 4),(.i .i64 1)] L fun z L=>k1 (Env.put l 4 z) L)
def l9 (F:TF)(Q:TQ)(k1:TK)(l:Env)(L:Lg):Prop :=za F .aa [(l 0)] L fun a L=>za F (.aj 6) [a] L fun b L=>za F (.ld none) [b] L fun c L=>za F .ax [c] L fun d L=>za F (.bin .lss) [(l 4),d] L fun e L=>zn e (lZ F Q k1 l L) (rO F Q l L)
def mc (F:TF)(Q:TQ)(l:Env)(L:Lg):Prop :=xA (fun l t L k1=>l9 F Q k1 l L) l L
def me (F:TF)(Q:TQ)(l:Env)(L:Lg):Prop :=mc F Q (Env.put l 4 (.i .i64 0)) L
def rQ (F:TF)(Q:TQ)(l:Env)(L:Lg):Prop :=me F Q (Env.put l 3 (.sl none 0 0 0)) L
def rR (F:TF)(Q:TQ)(l:Env)(L:Lg):Prop :=rQ F Q (Env.put l 2 (.sl none 0 0 0)) L
structure F7 (F:TF):Prop where
 code:F jG=some JU
 zne:F8 F
theorem QD (h:F jG=some JU)(e:rR F Q (zI [a0] 0) L):zd F jG [a0] L Q :=
 cw h (fun l t L=>wS (fun l t L=>wS (fun l t L=>wS (fun l t L=>wS (fun l t L=>lf (rP F Q (l 0) (l 3) L)) (wS (fun l t L=>wB (wL (fun l t L k1=>wS (fun l t L=>lf (mg F Q k1 l L)) (lf (rM F Q k1 l L))) (lf (rN F Q l L)))) (lf (rO F Q l L)))) (wS (fun l t L=>wB (wL (fun l t L k1=>wS (fun l t L=>lf (lZ F Q k1 l L)) (lf (l9 F Q k1 l L))) (lf (mc F Q l L)))) (lf (me F Q l L)))) (lf (rQ F Q l L))) (lf (rR F Q l L))) e
def jg (F:TF)(Q:TQ)(x0:AV)(L:Lg):Prop :=za F (.eq false .ptr) [x0,(.p none)] L fun a L=>zi F a false .mv [x0] L fun b L=>zi F a false .aa [b] L fun c L=>zi F a false (.aj 2) [c] L fun d L=>zi F a false (.ld none) [d] L fun e L=>zi F a false (.un .not) [e] L fun f L=>za F .pick [a,(.b true),f] L fun g L=>zi F g false .mv [x0] L fun h L=>zi F g false .aa [h] L fun i L=>zi F g false (.aj 3) [i] L fun j L=>zi F g false (.ld none) [j] L fun k L=>za F .pick [g,(.b true),k] L fun m L=>zn m (zm (some (.sl none 0 0 0)) Q L) (zd F jG [x0] L fun n L=>zm (some n) Q L)
structure pz (F:TF):Prop where
 code:F fl=some JT
 zqj:F7 F
theorem IK (h:F fl=some JT)(e:jg F Q a0 L):zd F fl [a0] L Q :=
 cw h (fun l t L=>lf (jg F Q (l 0) L)) e
def rJ (F:TF)(Q:TQ)(x5:AV)(L:Lg):Prop :=zm (some x5) Q L
def rG (F:TF)(Q:TQ)(k1:TK)(l:Env)(L:Lg):Prop :=za F .aa [(l 0)] L fun a L=>za F (.aj 0) [a] L fun b L=>za F (.ld none) [b] L fun c L=>za F .ax [c] L fun d L=>za F (.bin .lss) [(l 6),d] L fun e L=>zn e (za F .aa [(l 0)] L fun f L=>za F (.aj 0) [f] L fun g L=>za F (.ld none) [g] L fun h L=>za F (.aX 2) [h,(l 6)] L fun i L=>za F (.aj 1) [i] L fun j L=>za F (.ld none) [j] L fun k L=>zi F k true .mv [(l 0)] L fun m L=>zi F k true .aa [m] L fun n L=>zi F k true (.aj 0) [n] L fun o L=>zi F k true (.ld none) [o] L fun p L=>zi F k true .mv [(l 6)] L fun q L=>zi F k true (.aX 2) [p,q] L fun r L=>zi F k true (.aj 0) [r] L fun s L=>zi F k true (.ld none) [s] L fun t L=>zi F k true .mv [(l 1)] L fun u L=>zi F k true (.bin .eql) [t,u] L fun v L=>za F .pick [k,v,(.b false)] L fun w L=>zn w (za F (.aC [.i .i64 0] 1 1 [0]) [(l 6)] L fun x L=>za F (.app 1 8) [(l 5),x] L fun y L=>za F (.bin .add) [(l 6),(.i .i64 1)] L fun z L=>k1 (Env.put (Env.put l 5 y) 6 z) L) (za F (.bin .add) [(l 6),(.i .i64 1)] L fun A L=>k1 (Env.put l 6 A) L)) (rJ F Q (l 5) L)
def rH (F:TF)(Q:TQ)(l:Env)(L:Lg):Prop :=xA (fun l t L k1=>rG F Q k1 l L) l L
def rI (F:TF)(Q:TQ)(l:Env)(L:Lg):Prop :=rH F Q (Env.put l 6 (.i .i64 0)) L
def rK (F:TF)(Q:TQ)(l:Env)(L:Lg):Prop :=rI F Q (Env.put l 5 (.sl none 0 0 0)) L
def rL (F:TF)(Q:TQ)(l:Env)(L:Lg):Prop :=rK F Q (Env.put l 4 (.sl none 0 0 0)) L
structure F6 (F:TF):Prop where
 code:F jF=some JS
theorem QC (h:F jF=some JS)(e:rL F Q (zI [a0,a1] 0) L):zd F jF [a0,a1] L Q :=
 cw h (fun l t L=>wS (fun l t L=>wS (fun l t L=>wS (fun l t L=>lf (rJ F Q (l 5) L)) (wS (fun l t L=>wB (wL (fun l t L k1=>lf (rG F Q k1 l L)) (lf (rH F Q l L)))) (lf (rI F Q l L)))) (lf (rK F Q l L))) (lf (rL F Q l L))) e
def lY (F:TF)(Q:TQ)(x0 x1 x4 x5:AV)(L:Lg):Prop :=za F .aa [x0] L fun a L=>za F (.aj 1) [a] L fun b L=>zd F eL [b,x1] L fun c L=>zm (some (.ay [x4,x5])) Q L
def lW (F:TF)(Q:TQ)(k1:TK)(l:Env)(L:Lg):Prop :=za F .ax [(l 15)] L fun a L=>za F (.bin .lss) [(l 16),a] L fun b L=>zn b (za F (.aX 1) [(l 15),(l 16)] L fun c L=>za F (.ld none) [c] L fun d L=>zd F cW [(l 0),d,(l 2),(l 3),(l 4),(l 5)] L fun e L=>za F (.ext 0) [e] L fun f L=>za F (.ext 1) [e] L fun g L=>za F (.bin .add) [(l 16),(.i .i64 1)] L fun h L=>k1 (Env.put (Env.put (Env.put l 4 f) 5 g) 16 h) L) (lY F Q (l 0) (l 1) (l 4) (l 5) L)
def lX (F:TF)(Q:TQ)(l:Env)(L:Lg):Prop :=xA (fun l t L k1=>lW F Q k1 l L) l L
def gk (F:TF)(Q:TQ)(l:Env)(L:Lg):Prop :=lX F Q (Env.put l 16 (.i .i64 0)) L
def eF (F:TF)(Q:TQ)(l:Env)(L:Lg):Prop :=za F .aa [(l 0)] L fun a L=>za F (.aj 1) [a] L fun b L=>zd F jF [b,(l 1)] L fun c L=>gk F Q (Env.put l 15 c) L
def rD (F:TF)(Q:TQ)(l:Env)(L:Lg):Prop :=za F .aa [(l 14)] L fun a L=>za F (.aj 10) [a] L fun b L=>za F (.ld none) [b] L fun c L=>za F (.bin .geq) [c,(.i .i64 0)] L fun d L=>zi F d true .mv [(l 0)] L fun e L=>zi F d true .aa [e] L fun f L=>zi F d true (.aj 0) [f] L fun g L=>zi F d true (.ld none) [g] L fun h L=>zi F d true (.eq true .ptr) [h,(.p none)] L fun i L=>za F .pick [d,i,(.b false)] L fun j L=>zn j (za F .aa [(l 0)] L fun k L=>za F (.aj 0) [k] L fun m L=>za F (.ld none) [m] L fun n L=>za F .aa [(l 14)] L fun o L=>za F (.aj 10) [o] L fun p L=>za F (.ld none) [p] L fun q L=>zd F iI [n,q] L fun r L=>eF F Q l L) (eF F Q l L)
def rE (F:TF)(Q:TQ)(l:Env)(L:Lg):Prop :=za F .aa [(l 14)] L fun a L1=>za F (.aj 1) [a] L1 fun b L2=>za F (.ld none) [b] L2 fun c L3=>za F .aa [(l 14)] L3 fun d L4=>za F (.aj 11) [d] L4 fun e L5=>za F (.ld none) [e] L5 fun f L6=>zd F fl [f] L6 fun g L7=>za F (.build [.i .i64 0,.i .i64 0,.i .i64 0,.sl none 0 0 0] [(0,1),(1,1),(2,1),(3,1)]) [c,(l 2),(l 3),g] L7 fun h L8=>za F (.aC [.i .i64 0,.i .i64 0,.i .i64 0,.sl none 0 0 0] 1 4 [0]) [h] L8 fun i L9=>za F (.app 4 48) [(l 4),i] L9 fun j dG=>(yb (.ld none) [b] L2 L7∧True)∧(rD F Q (Env.put l 4 j) dG)
def rF (F:TF)(Q:TQ)(l:Env)(L:Lg):Prop :=za F .aa [(l 14)] L fun a L=>za F (.aj 5) [a] L fun b L=>za F (.st 1) [b,(l 2)] L fun _ L=>za F .aa [(l 14)] L fun c L=>za F (.aj 6) [c] L fun d L=>za F (.st 1) [d,(l 3)] L fun _ L=>rE F Q l L
def jd (F:TF)(Q:TQ)(l:Env)(L:Lg):Prop :=za F .aa [(l 14)] L fun a L=>za F (.aj 5) [a] L fun b L=>za F (.ld none) [b] L fun c L=>za F (.bin .neq) [c,(.i .i64 0)] L fun d L=>zi F d false .mv [(l 14)] L fun e L=>zi F d false .aa [e] L fun f L=>zi F d false (.aj 4) [f] L fun g L=>zi F d false (.ld none) [g] L fun h L=>za F .pick [d,(.b true),h] L fun i L=>zn i (zm (some (.ay [(l 4),(l 5)])) Q L) (rF F Q l L)
def dI (F:TF)(Q:TQ)(l:Env)(t26:AV)(L:Lg):Prop :=zn t26 (za F .aa [(l 14)] L fun a L=>za F (.aj 3) [a] L fun b L=>za F (.ld none) [b] L fun c L=>za F (.un .not) [c] L fun d L=>zn d (za F .aa [(l 14)] L fun e L=>za F (.aj 3) [e] L fun f L=>za F (.st 1) [f,(.b true)] L fun _ L=>za F .aa [(l 14)] L fun g L=>za F (.aj 1) [g] L fun h L=>za F (.ld none) [h] L fun i L=>za F .aa [(l 14)] L fun j L=>za F (.aj 2) [j] L fun k L=>za F (.ld none) [k] L fun m L=>za F (.build [.i .i64 0,.i .i64 0] [(0,1),(1,1)]) [i,m] L fun n L=>za F (.aC [.i .i64 0,.i .i64 0] 1 2 [0]) [n] L fun o L=>za F (.app 2 16) [(l 5),o] L fun p L=>za F .aa [(l 0)] L fun q L=>za F (.aj 1) [q] L fun r L=>zd F eL [r,(l 1)] L fun s L=>zm (some (.ay [(l 4),p])) Q L) (za F .aa [(l 0)] L fun t L=>za F (.aj 1) [t] L fun u L=>zd F eL [u,(l 1)] L fun v L=>zm (some (.ay [(l 4),(l 5)])) Q L)) (jd F Q l L)
def gj (F:TF)(Q:TQ)(l:Env)(L:Lg):Prop :=za F .aa [(l 14)] L fun a L=>za F (.aj 0) [a] L fun b L=>za F (.ld none) [b] L fun c L=>dI F Q l c L
def je (F:TF)(Q:TQ)(l:Env)(L:Lg):Prop :=za F .aa [(l 0)] L fun a L=>za F (.aj 2) [a] L fun b L=>za F (.ld none) [b] L fun c L=>za F (.aX 12) [c,(l 1)] L fun d L=>gj F Q (Env.put l 14 d) L
def jf (F:TF)(Q:TQ)(l:Env)(L:Lg):Prop :=je F Q (Env.put (Env.put l 12 (.sl none 0 0 0)) 13 (.sl none 0 0 0)) L
structure ef (F:TF):Prop where
 code:F cW=some JR
 Nm:pE F
 zqi:pz F
 f80:Ba F
 zqh:F6 F
theorem IJ (h:F cW=some JR)(e:jf F Q (zI [a0,a1,a2,a3,a4,a5] 0) L):zd F cW [a0,a1,a2,a3,a4,a5] L Q :=
 cw h (fun l t L=>wS (fun l t L=>wS (fun l t L=>wS (fun l t L=>wS (fun l t L=>wS (fun l t L=>wS (fun l t L=>wS (fun l t L=>wS (fun l t L=>wS (fun l t L=>lf (lY F Q (l 0) (l 1) (l 4) (l 5) L)) (wS (fun l t L=>wB (wL (fun l t L k1=>lf (lW F Q k1 l L)) (lf (lX F Q l L)))) (lf (gk F Q l L)))) (lf (eF F Q l L))) (lf (rD F Q l L))) (lf (rE F Q l L))) (lf (rF F Q l L))) (lf (jd F Q l L))) (wS (fun l t L=>lf (dI F Q l (t 26) L)) (lf (gj F Q l L)))) (lf (je F Q l L))) (lf (jf F Q l L))) e
def ru (F:TF)(Q:TQ)(x0 x7 x8:AV)(L:Lg):Prop :=za F (.aj 5) [x7] L fun a L=>za F (.ld none) [a] L fun b L=>za F (.bin .eql) [b,(.i .i64 0)] L fun c L=>zn c (zm (some (.ay [x8,(.sl none 0 0 0),(.i .i64 0)])) Q L) (za F .aa [x0] L fun d L=>za F (.aj 3) [d] L fun e L=>za F (.ld none) [e] L fun f L=>za F (.aX 1) [f,x8] L fun g L=>za F (.ld none) [g] L fun h L=>za F (.aj 5) [x7] L fun i L=>za F (.ld none) [i] L fun j L=>za F (.aj 6) [x7] L fun k L=>za F (.ld none) [k] L fun m L=>zd F cW [x0,h,j,m,(.sl none 0 0 0),(.sl none 0 0 0)] L fun n L=>za F (.ext 0) [n] L fun o L=>za F (.ext 1) [n] L fun p L=>zm (some (.ay [x8,o,(.i .i64 0)])) Q L)
def ry (F:TF)(Q:TQ)(x0 x1 x7:AV)(L:Lg):Prop :=za F .aa [x0] L fun a L=>za F (.aj 3) [a] L fun b L=>za F (.ld none) [b] L fun c L=>za F (.aX 1) [c,x1] L fun d L=>za F (.ld none) [d] L fun e L=>za F (.build [.i .i64 0,.b false,.b false,.b false,.sl none 0 0 0,.sl none 0 0 0,.sl none 0 0 0] [(2,1)]) [(.b true)] L fun f L=>za F .box [f] L fun g L=>za F (.aj 7) [x7] L fun h L=>za F (.ld none) [h] L fun i L=>za F (.aj 8) [x7] L fun j L=>za F (.ld none) [j] L fun k L=>za F (.build [.b false,.i .i64 0,.i .i64 0,.b false,.b false,.i .i64 0,.i .i64 0,.i .i64 0,.b false,.b false,.i .i64 0,.p none] [(11,1),(7,1),(8,1),(10,1)]) [g,i,k,(.i .i64 (-1))] L fun m L=>zd F fz [x0,e,(.b true),m] L fun n L=>ru F Q x0 x7 n L
def rz (F:TF)(Q:TQ)(x0 x1:AV)(L:Lg):Prop :=zd F cz [x0,x1] L fun a L=>za F .aa [a] L fun b L=>za F (.ld (some 12)) [b] L fun c L=>za F (.alloc [.b false,.i .i64 0,.i .i64 0,.b false,.b false,.i .i64 0,.i .i64 0,.i .i64 0,.b false,.b false,.i .i64 0,.p none]) [] L fun d L=>za F (.st 12) [d,c] L fun _ L=>ry F Q x0 x1 d L
def rA (F:TF)(Q:TQ)(x0 x1:AV)(L:Lg):Prop :=za F .aa [x0] L fun a L=>za F (.aj 3) [a] L fun b L=>za F (.ld none) [b] L fun c L=>za F .ax [c] L fun d L=>za F (.bin .geq) [d,(.i .i64 64)] L fun e L=>zn e (zm (some (.ay [(.i .i64 0),(.sl none 0 0 0),(.i .i64 3)])) Q L) (rz F Q x0 x1 L)
def rB (F:TF)(Q:TQ)(x0 x1:AV)(L:Lg):Prop :=zd F cS [x0,x1] L fun a L=>za F (.un .not) [a] L fun b L=>zn b (zm (some (.ay [(.i .i64 0),(.sl none 0 0 0),(.i .i64 4)])) Q L) (rA F Q x0 x1 L)
def rC (F:TF)(Q:TQ)(x0 x1:AV)(L:Lg):Prop :=rB F Q x0 x1 L
structure kA (F:TF):Prop where
 code:F dX=some JQ
 fG:dM F
 eT:eg F
 f124:pS F
 BD:ef F
theorem QB (h:F dX=some JQ)(e:rC F Q a0 a1 L):zd F dX [a0,a1] L Q :=
 cw h (fun l t L=>wS (fun l t L=>wS (fun l t L=>wS (fun l t L=>wS (fun l t L=>wS (fun l t L=>lf (ru F Q (l 0) (l 7) (l 8) L)) (lf (ry F Q (l 0) (l 1) (l 7) L))) (lf (rz F Q (l 0) (l 1) L))) (lf (rA F Q (l 0) (l 1) L))) (lf (rB F Q (l 0) (l 1) L))) (lf (rC F Q (l 0) (l 1) L))) e
def lV (F:TF)(Q:TQ)(x0 x2 ez Iw:AV)(L:Lg):Prop :=za F .aa [x0] L fun a L=>za F (.aj 0) [a] L fun b L=>za F (.ld none) [b] L fun c L=>za F (.eq true .ptr) [c,(.p none)] L fun d L=>zn d (za F .aa [x0] L fun e L=>za F (.aj 0) [e] L fun f L=>za F (.ld none) [f] L fun g L=>zd F Ax [g,x2,ez] L fun h L=>za F (.ext 0) [h] L fun i L=>za F (.ext 1) [h] L fun j L=>za F .aa [Iw] L fun k L=>za F (.aj 10) [k] L fun m L=>za F (.st 1) [m,i] L fun _ L=>zm (some (.ay [ez,(.sl none 0 0 0),(.i .i64 0)])) Q L) (zm (some (.ay [ez,(.sl none 0 0 0),(.i .i64 0)])) Q L)
def qX (F:TF)(Q:TQ)(x0 x2 x3 ez Iw:AV)(L:Lg):Prop :=za F (.bin .leq) [x2,x3] L fun a L=>zn a (za F .aa [x0] L fun b L=>za F (.aj 3) [b] L fun c L=>za F (.ld none) [c] L fun d L=>za F (.aX 1) [d,ez] L fun e L=>za F (.ld none) [e] L fun f L=>zd F cW [x0,f,(.i .i64 2),(.i .i64 2),(.sl none 0 0 0),(.sl none 0 0 0)] L fun g L=>za F (.ext 0) [g] L fun h L=>za F (.ext 1) [g] L fun i L=>zm (some (.ay [ez,h,(.i .i64 0)])) Q L) (lV F Q x0 x2 ez Iw L)
def qY (F:TF)(Q:TQ)(x0 x2 x3 ez Fp Iw:AV)(L:Lg):Prop :=za F .aa [Iw] L fun a L=>za F (.aj 5) [a] L fun b L=>za F (.ld none) [b] L fun c L=>za F (.bin .neq) [c,(.i .i64 0)] L fun d L=>zn d (zm (some (.ay [ez,Fp,(.i .i64 0)])) Q L) (qX F Q x0 x2 x3 ez Iw L)
def qZ (F:TF)(Q:TQ)(x0 x2 x3 ez Fp Iw:AV)(L:Lg):Prop :=za F .aa [Iw] L fun a L=>za F (.aj 7) [a] L fun b L=>za F (.st 1) [b,x2] L fun _ L=>za F .aa [Iw] L fun c L=>za F (.aj 8) [c] L fun d L=>za F (.st 1) [d,(.b true)] L fun _ L=>za F .aa [Iw] L fun e L=>za F (.aj 9) [e] L fun f L=>za F (.st 1) [f,(.b true)] L fun _ L=>qY F Q x0 x2 x3 ez Fp Iw L
def q8 (F:TF)(Q:TQ)(x0 x2 x3 ez Fp:AV)(L:Lg):Prop :=zd F cz [x0,ez] L fun a L=>qZ F Q x0 x2 x3 ez Fp a L
def q9 (F:TF)(Q:TQ)(x0 x2 x3 ez Fp Fo:AV)(L:Lg):Prop :=za F (.bin .neq) [Fo,(.i .i64 0)] L fun a L=>zn a (zm (some (.ay [(.i .i64 0),(.sl none 0 0 0),Fo])) Q L) (q8 F Q x0 x2 x3 ez Fp L)
def jc (F:TF)(Q:TQ)(x0 x1 x2 x3:AV)(L:Lg):Prop :=zd F dX [x0,x1] L fun a L=>za F (.ext 0) [a] L fun b L=>za F (.ext 1) [a] L fun c L=>za F (.ext 2) [a] L fun d L=>q9 F Q x0 x2 x3 b c d L
def ri (F:TF)(Q:TQ)(x0 x1 x2 x3:AV)(L:Lg):Prop :=zd F cS [x0,x1] L fun a L=>zi F a true .mv [x0] L fun b L=>zi F a true .mv [x1] L fun c L=>zi F a true (.call cz) [b,c] L fun d L=>zi F a true .aa [d] L fun e L=>zi F a true (.aj 8) [e] L fun f L=>zi F a true (.ld none) [f] L fun g L=>za F .pick [a,g,(.b false)] L fun h L=>zi F h true .mv [x0] L fun i L=>zi F h true .mv [x1] L fun j L=>zi F h true (.call cz) [i,j] L fun k L=>zi F h true .aa [k] L fun m L=>zi F h true (.aj 7) [m] L fun n L=>zi F h true (.ld none) [n] L fun o L=>zi F h true .mv [x2] L fun p L=>zi F h true (.bin .leq) [o,p] L fun q L=>za F .pick [h,q,(.b false)] L fun r L=>zn r (zd F dX [x0,x1] L fun s L=>za F (.ext 0) [s] L fun t L=>za F (.ext 1) [s] L fun u L=>za F (.ext 2) [s] L fun v L=>zm (some (.ay [t,u,v])) Q L) (jc F Q x0 x1 x2 x3 L)
def rm (F:TF)(Q:TQ)(x0 x1 x2 x3:AV)(L:Lg):Prop :=zd F oD [x2] L fun a L=>ri F Q x0 x1 a x3 L
def rq (F:TF)(Q:TQ)(x0 x1 x2 x3:AV)(L:Lg):Prop :=rm F Q x0 x1 x2 x3 L
structure BM (F:TF):Prop where
 code:F jE=some JP
 f63:G9 F
 fG:dM F
 eT:eg F
 Nl:kA F
 BD:ef F
 f77:KW F
theorem QA (h:F jE=some JP)(e:rq F Q a0 a1 a2 a3 L):zd F jE [a0,a1,a2,a3] L Q :=
 cw h (fun l t L=>wS (fun l t L=>wS (fun l t L=>wS (fun l t L=>wS (fun l t L=>wS (fun l t L=>wS (fun l t L=>wS (fun l t L=>wS (fun l t L=>wS (fun l t L=>lf (lV F Q (l 0) (l 2) (l 11) (l 14) L)) (lf (qX F Q (l 0) (l 2) (l 3) (l 11) (l 14) L))) (lf (qY F Q (l 0) (l 2) (l 3) (l 11) (l 12) (l 14) L))) (lf (qZ F Q (l 0) (l 2) (l 3) (l 11) (l 12) (l 14) L))) (lf (q8 F Q (l 0) (l 2) (l 3) (l 11) (l 12) L))) (lf (q9 F Q (l 0) (l 2) (l 3) (l 11) (l 12) (l 13) L))) (lf (jc F Q (l 0) (l 1) (l 2) (l 3) L))) (lf (ri F Q (l 0) (l 1) (l 2) (l 3) L))) (lf (rm F Q (l 0) (l 1) (l 2) (l 3) L))) (lf (rq F Q (l 0) (l 1) (l 2) (l 3) L))) e
def qW (F:TF)(Q:TQ)(x0 x1:AV)(L:Lg):Prop :=zd F cS [x0,x1] L fun a L=>za F (.un .not) [a] L fun b L=>zn b (zm (some (.ay [(.i .i64 0),(.i .i64 4)])) Q L) (za F .aa [x0] L fun c L=>za F (.aj 3) [c] L fun d L=>za F (.ld none) [d] L fun e L=>za F .ax [e] L fun f L=>za F (.bin .geq) [f,(.i .i64 64)] L fun g L=>zn g (zm (some (.ay [(.i .i64 0),(.i .i64 3)])) Q L) (za F .aa [x0] L fun h L=>za F (.aj 3) [h] L fun i L=>za F (.ld none) [i] L fun j L=>za F (.aX 1) [j,x1] L fun k L=>za F (.ld none) [k] L fun m L=>za F (.build [.b false,.i .i64 0,.i .i64 0,.b false,.b false,.i .i64 0,.i .i64 0,.i .i64 0,.b false,.b false,.i .i64 0,.p none] [(4,1),(10,1)]) [(.b true),(.i .i64 (-1))] L fun n L=>zd F fz [x0,m,(.b false),n] L fun o L=>zm (some (.ay [o,(.i .i64 0)])) Q L))
structure BL (F:TF):Prop where
 code:F jD=some JO
 fG:dM F
 f124:pS F
theorem Qz (h:F jD=some JO)(e:qW F Q a0 a1 L):zd F jD [a0,a1] L Q :=
 cw h (fun l t L=>lf (qW F Q (l 0) (l 1) L)) e
def fJ (F:TF)(Q:TQ)(x0 x1 x2:AV)(L:Lg):Prop :=za F .aa [x0] L fun a L=>za F (.aj 3) [a] L fun b L=>za F (.ld none) [b] L fun c L=>za F (.aX 1) [c,x1] L fun d L=>za F (.ld none) [d] L fun e L=>zd F cW [x0,e,(.i .i64 1),x2,(.sl none 0 0 0),(.sl none 0 0 0)] L fun f L=>za F (.ext 0) [f] L fun g L=>za F (.ext 1) [f] L fun h L=>zm (some (.ay [g,h,(.i .i64 0)])) Q L
def qS (F:TF)(Q:TQ)(x0 x1 x2:AV)(L:Lg):Prop :=za F (.bin .lss) [x2,(.i .i64 1)] L fun a L=>zn a (fJ F Q x0 x1 (.i .i64 1) L) (fJ F Q x0 x1 x2 L)
def qT (F:TF)(Q:TQ)(x0 x1 x2:AV)(L:Lg):Prop :=zd F cz [x0,x1] L fun a L=>za F .aa [a] L fun b L=>za F (.aj 4) [b] L fun c L=>za F (.ld none) [c] L fun d L=>zn d (zm (some (.ay [(.sl none 0 0 0),(.sl none 0 0 0),(.i .i64 1)])) Q L) (qS F Q x0 x1 x2 L)
def qU (F:TF)(Q:TQ)(x0 x1 x2:AV)(L:Lg):Prop :=zd F cS [x0,x1] L fun a L=>za F (.un .not) [a] L fun b L=>zn b (zm (some (.ay [(.sl none 0 0 0),(.sl none 0 0 0),(.i .i64 4)])) Q L) (qT F Q x0 x1 x2 L)
def qV (F:TF)(Q:TQ)(x0 x1 x2:AV)(L:Lg):Prop :=qU F Q x0 x1 x2 L
structure BK (F:TF):Prop where
 code:F jC=some JN
 fG:dM F
 eT:eg F
 BD:ef F
theorem Qy (h:F jC=some JN)(e:qV F Q a0 a1 a2 L):zd F jC [a0,a1,a2] L Q :=
 cw h (fun l t L=>wS (fun l t L=>wS (fun l t L=>wS (fun l t L=>wS (fun l t L=>lf (fJ F Q (l 0) (l 1) (l 2) L)) (lf (qS F Q (l 0) (l 1) (l 2) L))) (lf (qT F Q (l 0) (l 1) (l 2) L))) (lf (qU F Q (l 0) (l 1) (l 2) L))) (lf (qV F Q (l 0) (l 1) (l 2) L))) e
def qK (F:TF)(Q:TQ)(x0 x1 x9 ez:AV)(L:Lg):Prop :=za F .aa [x0] L fun a L=>za F (.aj 4) [a] L fun b L=>za F (.ld none) [b] L fun c L=>za F (.aC [.i .i64 0] 1 1 [0]) [x9] L fun d L=>za F (.app 1 8) [c,d] L fun e L=>za F .aa [x0] L fun f L=>za F (.aj 4) [f] L fun g L=>za F (.st 1) [g,e] L fun _ L=>zd F cz [x0,x1] L fun h L=>za F .aa [h] L fun i L=>za F (.aj 5) [i] L fun j L=>za F (.ld none) [j] L fun k L=>za F (.bin .eql) [k,(.i .i64 0)] L fun m L=>zn m (za F (.aj 1) [ez] L fun n L=>za F (.ld none) [n] L fun o L=>zm (some (.ay [o,(.sl none 0 0 0),(.i .i64 0)])) Q L) (zd F cW [x0,x9,(.i .i64 0),(.i .i64 0),(.sl none 0 0 0),(.sl none 0 0 0)] L fun p L=>za F (.ext 0) [p] L fun q L=>za F (.ext 1) [p] L fun r L=>za F (.aj 1) [ez] L fun s L=>za F (.ld none) [s] L fun t L=>zm (some (.ay [t,r,(.i .i64 0)])) Q L)
def qL (F:TF)(Q:TQ)(x0 x1 x9 ez:AV)(L:Lg):Prop :=za F .aa [x0] L fun a L=>za F (.aj 2) [a] L fun b L=>za F (.ld none) [b] L fun c L=>za F (.ld (some 12)) [ez] L fun d L=>za F (.aC [.b false,.i .i64 0,.i .i64 0,.b false,.b false,.i .i64 0,.i .i64 0,.i .i64 0,.b false,.b false,.i .i64 0,.p none] 1 12 [0]) [d] L fun e L=>za F (.app 12 80) [c,e] L fun f L=>za F .aa [x0] L fun g L=>za F (.aj 2) [g] L fun h L=>za F (.st 1) [h,f] L fun _ L=>qK F Q x0 x1 x9 ez L
def qM (F:TF)(Q:TQ)(x0 x1 x2 x9:AV)(L:Lg):Prop :=za F .aa [x0] L fun a L=>za F (.aj 4) [a] L fun b L=>za F (.ld none) [b] L fun c L=>za F .ax [c] L fun d L=>za F (.build [.b false,.i .i64 0,.i .i64 0,.b false,.b false,.i .i64 0,.i .i64 0,.i .i64 0,.b false,.b false,.i .i64 0,.p none] [(0,1),(1,1),(2,1),(10,1)]) [(.b true),d,x2,(.i .i64 (-1))] L fun e L=>za F (.alloc [.b false,.i .i64 0,.i .i64 0,.b false,.b false,.i .i64 0,.i .i64 0,.i .i64 0,.b false,.b false,.i .i64 0,.p none]) [] L fun f L=>za F (.st 12) [f,e] L fun _ L=>qL F Q x0 x1 x9 f L
def qO (F:TF)(Q:TQ)(x0 x1 x2:AV)(L:Lg):Prop :=za F .aa [x0] L fun a L=>za F (.aj 1) [a] L fun b L=>za F .aa [x0] L fun c L=>za F (.aj 3) [c] L fun d L=>za F (.ld none) [d] L fun e L=>za F (.aX 1) [e,x1] L fun f L=>za F (.ld none) [f] L fun g L=>zd F hY [b,g,(.b true)] L fun h L=>za F (.ext 0) [h] L fun i L=>za F (.ext 1) [h] L fun j L=>qM F Q x0 x1 x2 i L
def qQ (F:TF)(Q:TQ)(x0 x1 x2:AV)(L:Lg):Prop :=zd F cS [x0,x1] L fun a L=>za F (.un .not) [a] L fun b L=>zn b (zm (some (.ay [(.i .i64 0),(.sl none 0 0 0),(.i .i64 4)])) Q L) (za F (.bin .lss) [x2,(.i .i64 0)] L fun c L=>zn c (zm (some (.ay [(.i .i64 0),(.sl none 0 0 0),(.i .i64 1)])) Q L) (za F .aa [x0] L fun d L=>za F (.aj 4) [d] L fun e L=>za F (.ld none) [e] L fun f L=>za F .ax [f] L fun g L=>za F (.bin .geq) [g,(.i .i64 64)] L fun h L=>zn h (zm (some (.ay [(.i .i64 0),(.sl none 0 0 0),(.i .i64 3)])) Q L) (qO F Q x0 x1 x2 L)))
def qR (F:TF)(Q:TQ)(x0 x1 x2:AV)(L:Lg):Prop :=qQ F Q x0 x1 x2 L
structure BJ (F:TF):Prop where
 code:F jB=some JM
 fG:dM F
 f123:BV F
 eT:eg F
 BD:ef F
theorem Qx (h:F jB=some JM)(e:qR F Q a0 a1 a2 L):zd F jB [a0,a1,a2] L Q :=
 cw h (fun l t L=>wS (fun l t L=>wS (fun l t L=>wS (fun l t L=>wS (fun l t L=>wS (fun l t L=>lf (qK F Q (l 0) (l 1) (l 9) (l 11) L)) (lf (qL F Q (l 0) (l 1) (l 9) (l 11) L))) (lf (qM F Q (l 0) (l 1) (l 2) (l 9) L))) (lf (qO F Q (l 0) (l 1) (l 2) L))) (lf (qQ F Q (l 0) (l 1) (l 2) L))) (lf (qR F Q (l 0) (l 1) (l 2) L))) e
def qH (F:TF)(Q:TQ)(x0 x1:AV)(L:Lg):Prop :=za F .aa [x0] L fun a L=>za F (.aj 2) [a] L fun b L=>za F (.ld none) [b] L fun c L=>za F .aa [x0] L fun d L=>za F (.aj 4) [d] L fun e L=>za F (.ld none) [e] L fun f L=>za F (.aX 1) [f,x1] L fun g L=>za F (.ld none) [g] L fun h L=>za F (.aX 12) [c,h] L fun i L=>za F .aa [i] L fun j L=>za F (.aj 3) [j] L fun k L=>za F (.ld none) [k] L fun m L=>za F (.un .not) [m] L fun n L=>za F .aa [i] L fun o L=>za F (.aj 3) [o] L fun p L=>za F (.st 1) [p,(.b true)] L fun _ L=>za F .aa [x0] L fun q L=>za F (.aj 1) [q] L fun r L=>za F .aa [x0] L fun s L=>za F (.aj 4) [s] L fun t L=>za F (.ld none) [t] L fun u L=>za F (.aX 1) [u,x1] L fun v L=>za F (.ld none) [v] L fun w L=>zd F eL [r,w] L fun x L=>zm (some (.ay [n,(.i .i64 0)])) Q L
def qI (F:TF)(Q:TQ)(x0 x1:AV)(L:Lg):Prop :=za F (.bin .lss) [x1,(.i .i64 0)] L fun a L=>zi F a false .mv [x1] L fun b L=>zi F a false .mv [x0] L fun c L=>zi F a false .aa [c] L fun d L=>zi F a false (.aj 4) [d] L fun e L=>zi F a false (.ld none) [e] L fun f L=>zi F a false .ax [f] L fun g L=>zi F a false (.bin .geq) [b,g] L fun h L=>za F .pick [a,(.b true),h] L fun i L=>zn i (zm (some (.ay [(.b false),(.i .i64 4)])) Q L) (qH F Q x0 x1 L)
def qJ (F:TF)(Q:TQ)(x0 x1:AV)(L:Lg):Prop :=qI F Q x0 x1 L
structure BI (F:TF):Prop where
 code:F jA=some JL
 Nm:pE F
theorem Qw (h:F jA=some JL)(e:qJ F Q a0 a1 L):zd F jA [a0,a1] L Q :=
 cw h (fun l t L=>wS (fun l t L=>wS (fun l t L=>lf (qH F Q (l 0) (l 1) L)) (lf (qI F Q (l 0) (l 1) L))) (lf (qJ F Q (l 0) (l 1) L))) e
def qG (F:TF)(Q:TQ)(x0 x1:AV)(L:Lg):Prop :=zd F cS [x0,x1] L fun a L=>za F (.un .not) [a] L fun b L=>zn b (zm (some (.ay [(.sl none 0 0 0),(.sl none 0 0 0),(.i .i64 4)])) Q L) (zd F cz [x0,x1] L fun c L=>za F .aa [c] L fun d L=>za F (.aj 9) [d] L fun e L=>za F (.ld none) [e] L fun f L=>za F (.un .not) [f] L fun g L=>zn g (zm (some (.ay [(.sl none 0 0 0),(.sl none 0 0 0),(.i .i64 1)])) Q L) (za F .aa [x0] L fun h L=>za F (.aj 3) [h] L fun i L=>za F (.ld none) [i] L fun j L=>za F (.aX 1) [j,x1] L fun k L=>za F (.ld none) [k] L fun m L=>zd F cW [x0,m,(.i .i64 2),(.i .i64 2),(.sl none 0 0 0),(.sl none 0 0 0)] L fun n L=>za F (.ext 0) [n] L fun o L=>za F (.ext 1) [n] L fun p L=>zm (some (.ay [o,p,(.i .i64 0)])) Q L))
structure BH (F:TF):Prop where
 code:F gO=some JK
 fG:dM F
 eT:eg F
 BD:ef F
theorem Qv (h:F gO=some JK)(e:qG F Q a0 a1 L):zd F gO [a0,a1] L Q :=
 cw h (fun l t L=>lf (qG F Q (l 0) (l 1) L)) e
def qF (F:TF)(Q:TQ)(x0 x1:AV)(L:Lg):Prop :=zd F cS [x0,x1] L fun a L=>za F (.un .not) [a] L fun b L=>zn b (zm (some (.ay [(.p none),(.i .i64 4)])) Q L) (zd F cz [x0,x1] L fun c L=>za F .aa [c] L fun d L=>za F (.aj 11) [d] L fun e L=>za F (.ld none) [e] L fun f L=>zm (some (.ay [f,(.i .i64 0)])) Q L)
structure pq (F:TF):Prop where
 code:F gN=some JJ
 fG:dM F
 eT:eg F
theorem Qu (h:F gN=some JJ)(e:qF F Q a0 a1 L):zd F gN [a0,a1] L Q :=
 cw h (fun l t L=>lf (qF F Q (l 0) (l 1) L)) e
def qD (F:TF)(Q:TQ)(x0:AV)(L:Lg):Prop :=za F .aa [x0] L fun a L=>za F (.aj 3) [a] L fun b L=>za F (.ld none) [b] L fun c L=>za F .ax [c] L fun d L=>zm (some d) Q L
structure pg (F:TF):Prop where
 code:F fk=some JI
theorem Qt (h:F fk=some JI)(e:qD F Q a0 L):zd F fk [a0] L Q :=
 cw h (fun l t L=>lf (qD F Q (l 0) L)) e
def qC (F:TF)(Q:TQ)(x0 x1:AV)(L:Lg):Prop :=zd F cS [x0,x1] L fun a L1=>za F (.un .not) [a] L1 fun b L2=>zn b (zm (some (.ay [(.i .i64 0),(.i .i64 0),(.i .i64 4)])) Q L2) (zd F cz [x0,x1] L2 fun c L3=>za F .aa [c] L3 fun d L4=>za F (.aj 5) [d] L4 fun e L5=>za F (.ld none) [e] L5 fun f L6=>zd F cz [x0,x1] L6 fun g L7=>za F .aa [g] L7 fun h L8=>za F (.aj 6) [h] L8 fun i L9=>za F (.ld none) [i] L9 fun j dG=>(yb (.ld none) [e] L5 L7∧True)∧(zm (some (.ay [f,j,(.i .i64 0)])) Q dG))
structure iz (F:TF):Prop where
 code:F gM=some JH
 fG:dM F
 eT:eg F
theorem Qs (h:F gM=some JH)(e:qC F Q a0 a1 L):zd F gM [a0,a1] L Q :=
 cw h (fun l t L=>lf (qC F Q (l 0) (l 1) L)) e
def qB (F:TF)(Q:TQ)(x0 x1:AV)(L:Lg):Prop :=zd F cS [x0,x1] L fun a L1=>za F (.un .not) [a] L1 fun b L2=>zn b (zm (some (.ay [(.i .i64 0),(.b false),(.i .i64 4)])) Q L2) (zd F cz [x0,x1] L2 fun c L3=>za F .aa [c] L3 fun d L4=>za F (.aj 7) [d] L4 fun e L5=>za F (.ld none) [e] L5 fun f L6=>zd F cz [x0,x1] L6 fun g L7=>za F .aa [g] L7 fun h L8=>za F (.aj 8) [h] L8 fun i L9=>za F (.ld none) [i] L9 fun j dG=>(yb (.ld none) [e] L5 L7∧True)∧(zm (some (.ay [f,j,(.i .i64 0)])) Q dG))
structure iy (F:TF):Prop where
 code:F gL=some JG
 fG:dM F
 eT:eg F
theorem Qr (h:F gL=some JG)(e:qB F Q a0 a1 L):zd F gL [a0,a1] L Q :=
 cw h (fun l t L=>lf (qB F Q (l 0) (l 1) L)) e
def qy (F:TF)(Q:TQ)(L:Lg):Prop :=zm (some (.b true)) Q L
def lU (F:TF)(Q:TQ)(k1:TK)(l:Env)(L:Lg):Prop :=za F (.bin .add) [(l 5),(.i .i64 1)] L fun a L=>k1 (Env.put l 5 a) L
def lS (F:TF)(Q:TQ)(k1:TK)(l:Env)(t67:AV)(L:Lg):Prop :=zn t67 (zm (some (.b false)) Q L) (lU F Q k1 l L)
def lT (F:TF)(Q:TQ)(k1:TK)(l:Env)(L:Lg):Prop :=za F (.aX 4) [(l 0),(l 5)] L fun a L=>za F (.aj 0) [a] L fun b L=>za F (.ld none) [b] L fun c L=>za F (.aX 4) [(l 1),(l 5)] L fun d L=>za F (.aj 0) [d] L fun e L=>za F (.ld none) [e] L fun f L=>za F (.bin .neq) [c,f] L fun g L=>zi F g false .mv [(l 0)] L fun h L=>zi F g false .mv [(l 5)] L fun i L=>zi F g false (.aX 4) [h,i] L fun j L=>zi F g false (.aj 1) [j] L fun k L=>zi F g false (.ld none) [k] L fun m L=>zi F g false .mv [(l 1)] L fun n L=>zi F g false .mv [(l 5)] L fun o L=>zi F g false (.aX 4) [n,o] L fun p L=>zi F g false (.aj 1) [p] L fun q L=>zi F g false (.ld none) [q] L fun r L=>zi F g false (.bin .neq) [m,r] L fun s L=>za F .pick [g,(.b true),s] L fun t L=>zi F t false .mv [(l 0)] L fun u L=>zi F t false .mv [(l 5)] L fun v L=>zi F t false (.aX 4) [u,v] L fun w L=>zi F t false (.aj 2) [w] L fun x L=>zi F t false (.ld none) [x] L fun y L=>zi F t false .mv [(l 1)] L fun z L=>zi F t false .mv [(l 5)] L fun A L=>zi F t false (.aX 4) [z,A] L fun B L=>zi F t false (.aj 2) [B] L fun C L=>zi F t false (.ld none) [C] L fun D L=>zi F t false (.bin .neq) [y,D] L fun E L=>za F .pick [t,(.b true),E] L fun G L=>zi F G false .mv [(l 0)] L fun H L=>zi F G false .mv [(l 5)] L fun I L=>zi F G false (.aX 4) [H,I] L fun J L=>zi F G false (.aj 3) [J] L fun K L=>zi F G false (.ld none) [K] L fun M L=>zi F G false .mv [(l 1)] L fun O L=>zi F G false .mv [(l 5)] L fun P L=>zi F G false (.aX 4) [O,P] L fun R L=>zi F G false (.aj 3) [R] L fun S L=>zi F G false (.ld none) [S] L fun T L=>zi F G false (.call Ao) [M,T] L fun U L=>zi F G false (.un .not) [U] L fun V L=>za F .pick [G,(.b true),V] L fun W L=>lS F Q k1 l W L
def qv (F:TF)(Q:TQ)(k1:TK)(l:Env)(L:Lg):Prop :=za F .ax [(l 0)] L fun a L=>za F (.bin .lss) [(l 5),a] L fun b L=>zn b (lT F Q k1 l L) (qy F Q L)
def qw (F:TF)(Q:TQ)(l:Env)(L:Lg):Prop :=xA (fun l t L k1=>qv F Q k1 l L) l L
def qx (F:TF)(Q:TQ)(l:Env)(L:Lg):Prop :=qw F Q (Env.put l 5 (.i .i64 0)) L
def qz (F:TF)(Q:TQ)(l:Env)(L:Lg):Prop :=za F .ax [(l 0)] L fun a L=>za F .ax [(l 1)] L fun b L=>za F (.bin .neq) [a,b] L fun c L=>zn c (zm (some (.b false)) Q L) (qx F Q l L)
def qA (F:TF)(Q:TQ)(l:Env)(L:Lg):Prop :=qz F Q (Env.put l 4 (.b false)) L
structure iw (F:TF):Prop where
 code:F dW=some JF
 f88:KO F
theorem Qq (h:F dW=some JF)(e:qA F Q (zI [a0,a1] 0) L):zd F dW [a0,a1] L Q :=
 cw h (fun l t L=>wS (fun l t L=>wS (fun l t L=>wS (fun l t L=>lf (qy F Q L)) (wS (fun l t L=>wB (wL (fun l t L k1=>wS (fun l t L=>wS (fun l t L=>lf (lU F Q k1 l L)) (wB (wS (fun l t L=>lf (lS F Q k1 l (t 67) L)) (lf (lT F Q k1 l L))))) (lf (qv F Q k1 l L))) (lf (qw F Q l L)))) (lf (qx F Q l L)))) (lf (qz F Q l L))) (lf (qA F Q l L))) e
def qq (F:TF)(Q:TQ)(L:Lg):Prop :=zm (some (.b true)) Q L
def qn (F:TF)(Q:TQ)(k1:TK)(l:Env)(L:Lg):Prop :=za F .ax [(l 0)] L fun a L=>za F (.bin .lss) [(l 5),a] L fun b L=>zn b (za F (.aX 2) [(l 0),(l 5)] L fun c L=>za F (.aj 0) [c] L fun d L=>za F (.ld none) [d] L fun e L=>za F (.aX 2) [(l 1),(l 5)] L fun f L=>za F (.aj 0) [f] L fun g L=>za F (.ld none) [g] L fun h L=>za F (.bin .neq) [e,h] L fun i L=>zi F i false .mv [(l 0)] L fun j L=>zi F i false .mv [(l 5)] L fun k L=>zi F i false (.aX 2) [j,k] L fun m L=>zi F i false (.aj 1) [m] L fun n L=>zi F i false (.ld none) [n] L fun o L=>zi F i false .mv [(l 1)] L fun p L=>zi F i false .mv [(l 5)] L fun q L=>zi F i false (.aX 2) [p,q] L fun r L=>zi F i false (.aj 1) [r] L fun s L=>zi F i false (.ld none) [s] L fun t L=>zi F i false (.bin .neq) [o,t] L fun u L=>za F .pick [i,(.b true),u] L fun v L=>zn v (zm (some (.b false)) Q L) (za F (.bin .add) [(l 5),(.i .i64 1)] L fun w L=>k1 (Env.put l 5 w) L)) (qq F Q L)
def qo (F:TF)(Q:TQ)(l:Env)(L:Lg):Prop :=xA (fun l t L k1=>qn F Q k1 l L) l L
def qp (F:TF)(Q:TQ)(l:Env)(L:Lg):Prop :=qo F Q (Env.put l 5 (.i .i64 0)) L
def qt (F:TF)(Q:TQ)(l:Env)(L:Lg):Prop :=za F .ax [(l 0)] L fun a L=>za F .ax [(l 1)] L fun b L=>za F (.bin .neq) [a,b] L fun c L=>zn c (zm (some (.b false)) Q L) (qp F Q l L)
def qu (F:TF)(Q:TQ)(l:Env)(L:Lg):Prop :=qt F Q (Env.put l 4 (.b false)) L
structure kz (F:TF):Prop where
 code:F eK=some JE
theorem Qp (h:F eK=some JE)(e:qu F Q (zI [a0,a1] 0) L):zd F eK [a0,a1] L Q :=
 cw h (fun l t L=>wS (fun l t L=>wS (fun l t L=>wS (fun l t L=>lf (qq F Q L)) (wS (fun l t L=>wB (wL (fun l t L k1=>lf (qn F Q k1 l L)) (lf (qo F Q l L)))) (lf (qp F Q l L)))) (lf (qt F Q l L))) (lf (qu F Q l L))) e
def ql (F:TF)(Q:TQ)(L:Lg):Prop :=zm (some (.b true)) Q L
def qh (F:TF)(Q:TQ)(x0 x3 x5 x6 x7:AV)(L:Lg):Prop :=za F .aa [x0] L fun a L=>za F (.aj 3) [a] L fun b L=>za F (.ld none) [b] L fun c L=>za F (.aj 1) [x3] L fun d L=>za F (.ld none) [d] L fun e L=>zd F dX [c,e] L fun f L=>za F (.ext 0) [f] L fun g L=>za F (.ext 1) [f] L fun h L=>za F (.ext 2) [f] L fun i L=>za F (.bin .eql) [x5,g] L fun j L=>zi F j true .mv [x6] L fun k L=>zi F j true .mv [h] L fun m L=>zi F j true (.call dW) [k,m] L fun n L=>za F .pick [j,n,(.b false)] L fun o L=>zi F o true .mv [x7] L fun p L=>zi F o true .mv [i] L fun q L=>zi F o true (.bin .eql) [p,q] L fun r L=>za F .pick [o,r,(.b false)] L fun s L=>zm (some s) Q L
def jb (F:TF)(Q:TQ)(x0 x3:AV)(L:Lg):Prop :=za F .aa [x0] L fun a L=>za F (.aj 1) [a] L fun b L=>za F (.ld none) [b] L fun c L=>za F (.aj 1) [x3] L fun d L=>za F (.ld none) [d] L fun e L=>zd F eM [c,e] L fun f L=>za F (.ext 0) [f] L fun g L=>za F (.ext 1) [f] L fun h L=>za F (.ext 2) [f] L fun i L=>qh F Q x0 x3 g h i L
def lP (F:TF)(Q:TQ)(x0 x3 ez Fp Fo:AV)(L:Lg):Prop :=za F .aa [x0] L fun a L=>za F (.aj 3) [a] L fun b L=>za F (.ld none) [b] L fun c L=>za F (.aj 1) [x3] L fun d L=>za F (.ld none) [d] L fun e L=>za F (.aj 2) [x3] L fun f L=>za F (.ld none) [f] L fun g L=>za F .aa [x0] L fun h L=>za F (.aj 4) [h] L fun i L=>za F (.ld none) [i] L fun j L=>zd F jE [c,e,g,j] L fun k L=>za F (.ext 0) [k] L fun m L=>za F (.ext 1) [k] L fun n L=>za F (.ext 2) [k] L fun o L=>za F (.bin .eql) [ez,m] L fun p L=>zi F p true .mv [Fp] L fun q L=>zi F p true .mv [n] L fun r L=>zi F p true (.call dW) [q,r] L fun s L=>za F .pick [p,s,(.b false)] L fun t L=>zi F t true .mv [Fo] L fun u L=>zi F t true .mv [o] L fun v L=>zi F t true (.bin .eql) [u,v] L fun w L=>za F .pick [t,w,(.b false)] L fun x L=>zm (some x) Q L
def gi (F:TF)(Q:TQ)(x0 x3:AV)(L:Lg):Prop :=za F .aa [x0] L fun a L=>za F (.aj 1) [a] L fun b L=>za F (.ld none) [b] L fun c L=>za F (.aj 1) [x3] L fun d L=>za F (.ld none) [d] L fun e L=>za F (.aj 2) [x3] L fun f L=>za F (.ld none) [f] L fun g L=>za F .aa [x0] L fun h L=>za F (.aj 4) [h] L fun i L=>za F (.ld none) [i] L fun j L=>zd F gY [c,e,g,j] L fun k L=>za F (.ext 0) [k] L fun m L=>za F (.ext 1) [k] L fun n L=>za F (.ext 2) [k] L fun o L=>lP F Q x0 x3 m n o L
def gh (F:TF)(Q:TQ)(x0 x3:AV)(L:Lg):Prop :=za F .aa [x0] L fun a L=>za F (.aj 1) [a] L fun b L=>za F (.ld none) [b] L fun c L=>za F (.aj 1) [x3] L fun d L=>za F (.ld none) [d] L fun e L=>zd F gX [c,e] L fun f L=>za F (.ext 0) [f] L fun g L=>za F (.ext 1) [f] L fun h L=>za F .aa [x0] L fun i L=>za F (.aj 3) [i] L fun j L=>za F (.ld none) [j] L fun k L=>za F (.aj 1) [x3] L fun m L=>za F (.ld none) [m] L fun n L=>zd F jD [k,n] L fun o L=>za F (.ext 0) [o] L fun p L=>za F (.ext 1) [o] L fun q L=>za F (.bin .eql) [g,p] L fun r L=>zi F r true .mv [h] L fun s L=>zi F r true .mv [q] L fun t L=>zi F r true (.bin .eql) [s,t] L fun u L=>za F .pick [r,u,(.b false)] L fun v L=>zm (some v) Q L
def lI (F:TF)(Q:TQ)(x0 x3 x21 x22 x23:AV)(L:Lg):Prop :=za F .aa [x0] L fun a L=>za F (.aj 3) [a] L fun b L=>za F (.ld none) [b] L fun c L=>za F (.aj 1) [x3] L fun d L=>za F (.ld none) [d] L fun e L=>za F (.aj 2) [x3] L fun f L=>za F (.ld none) [f] L fun g L=>zd F jC [c,e,g] L fun h L=>za F (.ext 0) [h] L fun i L=>za F (.ext 1) [h] L fun j L=>za F (.ext 2) [h] L fun k L=>zd F dW [x21,i] L fun m L=>zi F m true .mv [x22] L fun n L=>zi F m true .mv [j] L fun o L=>zi F m true (.call eK) [n,o] L fun p L=>za F .pick [m,p,(.b false)] L fun q L=>zi F q true .mv [x23] L fun r L=>zi F q true .mv [k] L fun s L=>zi F q true (.bin .eql) [r,s] L fun t L=>za F .pick [q,t,(.b false)] L fun u L=>zm (some u) Q L
def gf (F:TF)(Q:TQ)(x0 x3:AV)(L:Lg):Prop :=za F .aa [x0] L fun a L=>za F (.aj 1) [a] L fun b L=>za F (.ld none) [b] L fun c L=>za F (.aj 1) [x3] L fun d L=>za F (.ld none) [d] L fun e L=>za F (.aj 2) [x3] L fun f L=>za F (.ld none) [f] L fun g L=>zd F gU [c,e,g] L fun h L=>za F (.ext 0) [h] L fun i L=>za F (.ext 1) [h] L fun j L=>za F (.ext 2) [h] L fun k L=>lI F Q x0 x3 i j k L
def lF (F:TF)(Q:TQ)(x0 x3 x27 x28 x29:AV)(L:Lg):Prop :=za F .aa [x0] L fun a L=>za F (.aj 3) [a] L fun b L=>za F (.ld none) [b] L fun c L=>za F (.aj 1) [x3] L fun d L=>za F (.ld none) [d] L fun e L=>za F (.aj 2) [x3] L fun f L=>za F (.ld none) [f] L fun g L=>zd F jB [c,e,g] L fun h L=>za F (.ext 0) [h] L fun i L=>za F (.ext 1) [h] L fun j L=>za F (.ext 2) [h] L fun k L=>za F (.bin .eql) [x27,i] L fun m L=>zi F m true .mv [x28] L fun n L=>zi F m true .mv [j] L fun o L=>zi F m true (.call eK) [n,o] L fun p L=>za F .pick [m,p,(.b false)] L fun q L=>zi F q true .mv [x29] L fun r L=>zi F q true .mv [k] L fun s L=>zi F q true (.bin .eql) [r,s] L fun t L=>za F .pick [q,t,(.b false)] L fun u L=>zm (some u) Q L
def gb (F:TF)(Q:TQ)(x0 x3:AV)(L:Lg):Prop :=za F .aa [x0] L fun a L=>za F (.aj 1) [a] L fun b L=>za F (.ld none) [b] L fun c L=>za F (.aj 1) [x3] L fun d L=>za F (.ld none) [d] L fun e L=>za F (.aj 2) [x3] L fun f L=>za F (.ld none) [f] L fun g L=>zd F gW [c,e,g] L fun h L=>za F (.ext 0) [h] L fun i L=>za F (.ext 1) [h] L fun j L=>za F (.ext 2) [h] L fun k L=>lF F Q x0 x3 i j k L
def ga (F:TF)(Q:TQ)(x0 x3:AV)(L:Lg):Prop :=za F .aa [x0] L fun a L=>za F (.aj 1) [a] L fun b L=>za F (.ld none) [b] L fun c L=>za F (.aj 1) [x3] L fun d L=>za F (.ld none) [d] L fun e L=>zd F gR [c,e] L fun f L=>za F (.ext 0) [f] L fun g L=>za F (.ext 1) [f] L fun h L=>za F .aa [x0] L fun i L=>za F (.aj 3) [i] L fun j L=>za F (.ld none) [j] L fun k L=>za F (.aj 1) [x3] L fun m L=>za F (.ld none) [m] L fun n L=>zd F jA [k,n] L fun o L=>za F (.ext 0) [o] L fun p L=>za F (.ext 1) [o] L fun q L=>za F (.eq false .bool) [g,p] L fun r L=>zi F r true .mv [h] L fun s L=>zi F r true .mv [q] L fun t L=>zi F r true (.bin .eql) [s,t] L fun u L=>za F .pick [r,u,(.b false)] L fun v L=>zm (some v) Q L
def Bf (F:TF)(Q:TQ)(L:Lg):Prop :=zm (some (.b false)) Q L
def lg (F:TF)(Q:TQ)(k1:TK)(l:Env)(L:Lg):Prop :=za F (.bin .add) [(l 37),(.i .i64 1)] L fun a L=>k1 (Env.put l 37 a) L
def kW (F:TF)(Q:TQ)(k1:TK)(l:Env)(L:Lg):Prop :=za F .aa [(l 0)] L fun a L=>za F (.aj 3) [a] L fun b L=>za F (.ld none) [b] L fun c L=>za F (.aj 4) [(l 40)] L fun d L=>za F (.ld none) [d] L fun e L=>zd F gO [c,e] L fun f L=>za F (.ext 0) [f] L fun g L=>za F (.ext 1) [f] L fun h L=>za F (.ext 2) [f] L fun i L=>zd F dW [(l 42),g] L fun j L=>za F (.un .not) [j] L fun k L=>zi F k false .mv [(l 43)] L fun m L=>zi F k false .mv [h] L fun n L=>zi F k false (.call eK) [m,n] L fun o L=>zi F k false (.un .not) [o] L fun p L=>za F .pick [k,(.b true),p] L fun q L=>zi F q false .mv [(l 44)] L fun r L=>zi F q false .mv [i] L fun s L=>zi F q false (.bin .neq) [r,s] L fun t L=>za F .pick [q,(.b true),t] L fun u L=>zn u (zm (some (.b false)) Q L) (lg F Q k1 (Env.put (Env.put (Env.put l 45 g) 46 h) 47 i) L)
def kX (F:TF)(Q:TQ)(k1:TK)(l:Env)(L:Lg):Prop :=za F .aa [(l 0)] L fun a L=>za F (.aj 1) [a] L fun b L=>za F (.ld none) [b] L fun c L=>za F (.aj 4) [(l 38)] L fun d L=>za F (.ld none) [d] L fun e L=>zd F fm [c,e] L fun f L=>za F (.ext 0) [f] L fun g L=>za F (.ext 1) [f] L fun h L=>za F (.ext 2) [f] L fun i L=>kW F Q k1 (Env.put (Env.put (Env.put l 42 g) 43 h) 44 i) L
def eE (F:TF)(Q:TQ)(k1:TK)(l:Env)(L:Lg):Prop :=za F (.un .not) [(l 39)] L fun a L=>zn a (zm (some (.b true)) Q L) (kX F Q k1 l L)
def kY (F:TF)(Q:TQ)(k1:TK)(l:Env)(L:Lg):Prop :=za F (.eq true .bool) [(l 39),(l 41)] L fun a L=>zi F a false (.aj 0) [(l 38)] L fun b L=>zi F a false (.ld none) [b] L fun c L=>zi F a false (.aj 0) [(l 40)] L fun d L=>zi F a false (.ld none) [d] L fun e L=>zi F a false (.bin .neq) [c,e] L fun f L=>za F .pick [a,(.b true),f] L fun g L=>zi F g false (.aj 1) [(l 38)] L fun h L=>zi F g false (.ld none) [h] L fun i L=>zi F g false (.aj 1) [(l 40)] L fun j L=>zi F g false (.ld none) [j] L fun k L=>zi F g false (.bin .neq) [i,k] L fun m L=>za F .pick [g,(.b true),m] L fun n L=>zi F n false (.aj 4) [(l 38)] L fun o L=>zi F n false (.ld none) [o] L fun p L=>zi F n false (.aj 4) [(l 40)] L fun q L=>zi F n false (.ld none) [q] L fun r L=>zi F n false (.bin .neq) [p,r] L fun s L=>za F .pick [n,(.b true),s] L fun t L=>zi F t false (.aj 2) [(l 38)] L fun u L=>zi F t false (.ld none) [u] L fun v L=>zi F t false (.aj 2) [(l 40)] L fun w L=>zi F t false (.ld none) [w] L fun x L=>zi F t false (.bin .neq) [v,x] L fun y L=>za F .pick [t,(.b true),y] L fun z L=>zn z (zm (some (.b false)) Q L) (eE F Q k1 l L)
def fY (F:TF)(Q:TQ)(k1:TK)(l:Env)(L:Lg):Prop :=za F .aa [(l 0)] L fun a L=>za F (.aj 2) [a] L fun b L=>za F (.ld none) [b] L fun c L=>za F .aa [(l 0)] L fun d L=>za F (.aj 4) [d] L fun e L=>za F (.ld none) [e] L fun f L=>zd F gB [c,f] L fun g L=>za F (.ext 0) [g] L fun h L=>za F (.ext 1) [g] L fun i L=>za F (.alloc [.i .i64 0,.i .i64 0,.i .i64 0,.i .i64 0,.i .i64 0,.sl none 0 0 0,.b false]) [] L fun j L=>za F (.st 7) [j,h] L fun _ L=>kY F Q k1 (Env.put (Env.put l 40 j) 41 i) L
def kZ (F:TF)(Q:TQ)(k1:TK)(l:Env)(L:Lg):Prop :=za F .aa [(l 0)] L fun a L=>za F (.aj 0) [a] L fun b L=>za F (.ld none) [b] L fun c L=>za F .aa [(l 0)] L fun d L=>za F (.aj 4) [d] L fun e L=>za F (.ld none) [e] L fun f L=>zd F iL [c,f] L fun g L=>za F (.ext 0) [g] L fun h L=>za F (.ext 1) [g] L fun i L=>za F (.alloc [.i .i64 0,.i .i64 0,.i .i64 0,.i .i64 0,.i .i64 0,.sl none 0 0 0,.b false]) [] L fun j L=>za F (.st 7) [j,h] L fun _ L=>fY F Q k1 (Env.put (Env.put l 38 j) 39 i) L
def lp (F:TF)(Q:TQ)(k1:TK)(l:Env)(L:Lg):Prop :=za F .aa [(l 0)] L fun a L=>za F (.aj 2) [a] L fun b L=>za F (.ld none) [b] L fun c L=>za F .aa [c] L fun d L=>za F (.aj 3) [d] L fun e L=>za F (.ld none) [e] L fun f L=>za F .ax [f] L fun g L=>za F (.bin .leq) [(l 37),g] L fun h L=>zn h (kZ F Q k1 l L) (Bf F Q L)
def lq (F:TF)(Q:TQ)(l:Env)(L:Lg):Prop :=xA (fun l t L k1=>lp F Q k1 l L) l L
def lu (F:TF)(Q:TQ)(l:Env)(L:Lg):Prop :=lq F Q (Env.put l 37 (.i .i64 0)) L
def fZ (F:TF)(Q:TQ)(l:Env)(L:Lg):Prop :=za F .aa [(l 0)] L fun a L=>za F (.aj 4) [a] L fun b L=>za F (.ld none) [b] L fun c L=>za F (.aj 2) [(l 3)] L fun d L=>za F (.ld none) [d] L fun e L=>za F .max [e,(.i .i64 0)] L fun f L=>zd F AD [c,f] L fun g L=>za F .aa [(l 0)] L fun h L=>za F (.aj 4) [h] L fun i L=>za F (.st 1) [i,g] L fun _ L=>lu F Q l L
def kT (F:TF)(Q:TQ)(x0 x3 x48 x49:AV)(L:Lg):Prop :=za F .aa [x0] L fun a L1=>za F (.aj 3) [a] L1 fun b L2=>za F (.ld none) [b] L2 fun c L3=>za F (.aj 1) [x3] L3 fun d L4=>za F (.ld none) [d] L4 fun e L5=>zd F gN [c,e] L5 fun f L6=>za F (.ext 0) [f] L6 fun g L7=>za F (.ext 1) [f] L7 fun h L8=>za F (.aj 2) [x3] L8 fun i L9=>za F (.ld none) [i] L9 fun j dG=>za F (.build [.i .i64 0,.i .i64 0,.i .i64 0] [(0,1)]) [j] dG fun k gz=>za F (.alloc [.i .i64 0,.i .i64 0,.i .i64 0]) [] gz fun m iV=>za F (.st 3) [m,k] iV fun _ iU=>za F (.bin .eql) [x49,h] iU fun n jx=>zi F n true .mv [x48] jx fun o A7=>zi F n true (.eq false .ptr) [o,(.p none)] A7 fun p Aj=>zi F n true .mv [g] Aj fun q ku=>zi F n true (.eq false .ptr) [q,(.p none)] ku fun r iu=>zi F n true (.eq false .bool) [p,r] iu fun s ir=>za F .pick [n,s,(.b false)] ir fun t ni=>zi F t true .mv [x48] ni fun u F5=>zi F t true (.ld (some 3)) [m] F5 fun v G6=>zi F t true (.call ox) [u,v,(.b false)] G6 fun w Nu=>zi F t true .mv [g] Nu fun x Mi=>zi F t true (.ld (some 3)) [m] Mi fun y Im=>zi F t true (.call ic) [x,y,(.b false)] Im fun z Nt=>zi F t true (.bin .eql) [w,z] Nt fun A KK=>za F .pick [t,A,(.b false)] KK fun B L28=>(zaN t true (yb (.ld (some 3)) [m] Mi iU)∧True)∧(zm (some B) Q L28)
def fX (F:TF)(Q:TQ)(x0 x3:AV)(L:Lg):Prop :=za F .aa [x0] L fun a L=>za F (.aj 1) [a] L fun b L=>za F (.ld none) [b] L fun c L=>za F (.aj 1) [x3] L fun d L=>za F (.ld none) [d] L fun e L=>zd F gQ [c,e] L fun f L=>za F (.ext 0) [f] L fun g L=>za F (.ext 1) [f] L fun h L=>kT F Q x0 x3 g h L
def Bd (F:TF)(Q:TQ)(x0 x3 x53 x54 x55:AV)(L:Lg):Prop :=za F .aa [x0] L fun a L=>za F (.aj 3) [a] L fun b L=>za F (.ld none) [b] L fun c L=>za F (.aj 1) [x3] L fun d L=>za F (.ld none) [d] L fun e L=>zd F gO [c,e] L fun f L=>za F (.ext 0) [f] L fun g L=>za F (.ext 1) [f] L fun h L=>za F (.ext 2) [f] L fun i L=>zd F dW [x53,g] L fun j L=>zi F j true .mv [x54] L fun k L=>zi F j true .mv [h] L fun m L=>zi F j true (.call eK) [k,m] L fun n L=>za F .pick [j,n,(.b false)] L fun o L=>zi F o true .mv [x55] L fun p L=>zi F o true .mv [i] L fun q L=>zi F o true (.bin .eql) [p,q] L fun r L=>za F .pick [o,r,(.b false)] L fun s L=>zm (some s) Q L
def Be (F:TF)(Q:TQ)(x0 x3:AV)(L:Lg):Prop :=za F .aa [x0] L fun a L=>za F (.aj 1) [a] L fun b L=>za F (.ld none) [b] L fun c L=>za F (.aj 1) [x3] L fun d L=>za F (.ld none) [d] L fun e L=>zd F fm [c,e] L fun f L=>za F (.ext 0) [f] L fun g L=>za F (.ext 1) [f] L fun h L=>za F (.ext 2) [f] L fun i L=>Bd F Q x0 x3 g h i L
def kQ (F:TF)(Q:TQ)(L:Lg):Prop :=ql F Q L
def kR (F:TF)(Q:TQ)(x0 x3 zob:AV)(L:Lg):Prop :=zn zob (Be F Q x0 x3 L) (kQ F Q L)
def kS (F:TF)(Q:TQ)(x0 x3 x60:AV)(L:Lg):Prop :=za F (.bin .eql) [x60,(.i .i64 9)] L fun a L=>kR F Q x0 x3 a L
def kU (F:TF)(Q:TQ)(x0 x3 x60 zoc:AV)(L:Lg):Prop :=zn zoc (fX F Q x0 x3 L) (kS F Q x0 x3 x60 L)
def kV (F:TF)(Q:TQ)(x0 x3 x60:AV)(L:Lg):Prop :=za F (.bin .eql) [x60,(.i .i64 8)] L fun a L=>kU F Q x0 x3 x60 a L
def lz (F:TF)(Q:TQ)(l:Env)(zod:AV)(L:Lg):Prop :=zn zod (fZ F Q l L) (kV F Q (l 0) (l 3) (l 60) L)
def lC (F:TF)(Q:TQ)(l:Env)(L:Lg):Prop :=za F (.bin .eql) [(l 60),(.i .i64 7)] L fun a L=>lz F Q l a L
def lD (F:TF)(Q:TQ)(l:Env)(t259:AV)(L:Lg):Prop :=zn t259 (ga F Q (l 0) (l 3) L) (lC F Q l L)
def lE (F:TF)(Q:TQ)(l:Env)(L:Lg):Prop :=za F (.bin .eql) [(l 60),(.i .i64 6)] L fun a L=>lD F Q l a L
def lG (F:TF)(Q:TQ)(l:Env)(t218:AV)(L:Lg):Prop :=zn t218 (gb F Q (l 0) (l 3) L) (lE F Q l L)
def lH (F:TF)(Q:TQ)(l:Env)(L:Lg):Prop :=za F (.bin .eql) [(l 60),(.i .i64 5)] L fun a L=>lG F Q l a L
def lJ (F:TF)(Q:TQ)(l:Env)(t177:AV)(L:Lg):Prop :=zn t177 (gf F Q (l 0) (l 3) L) (lH F Q l L)
def lK (F:TF)(Q:TQ)(l:Env)(L:Lg):Prop :=za F (.bin .eql) [(l 60),(.i .i64 4)] L fun a L=>lJ F Q l a L
def lM (F:TF)(Q:TQ)(l:Env)(t147:AV)(L:Lg):Prop :=zn t147 (gh F Q (l 0) (l 3) L) (lK F Q l L)
def lO (F:TF)(Q:TQ)(l:Env)(L:Lg):Prop :=za F (.bin .eql) [(l 60),(.i .i64 3)] L fun a L=>lM F Q l a L
def lQ (F:TF)(Q:TQ)(l:Env)(t98:AV)(L:Lg):Prop :=zn t98 (gi F Q (l 0) (l 3) L) (lO F Q l L)
def lR (F:TF)(Q:TQ)(l:Env)(L:Lg):Prop :=za F (.bin .eql) [(l 60),(.i .i64 2)] L fun a L=>lQ F Q l a L
def qi (F:TF)(Q:TQ)(l:Env)(t61:AV)(L:Lg):Prop :=zn t61 (jb F Q (l 0) (l 3) L) (lR F Q l L)
def qj (F:TF)(Q:TQ)(l:Env)(L:Lg):Prop :=za F (.bin .eql) [(l 60),(.i .i64 1)] L fun a L=>qi F Q l a L
def qk (F:TF)(Q:TQ)(l:Env)(L:Lg):Prop :=za F (.aj 0) [(l 3)] L fun a L=>za F (.ld none) [a] L fun b L=>qj F Q (Env.put l 60 b) L
def qm (F:TF)(Q:TQ)(l:Env)(L:Lg):Prop :=za F .box [(l 1)] L fun a L=>qk F Q (Env.put (Env.put l 3 a) 4 (.b false)) L
structure BG (F:TF):Prop where
 code:F jz=some JD
 f143:kB F
 Nl:kA F
 Nk:iw F
 f144:pN F
 zqg:BM F
 f145:pM F
 zqf:BL F
 f148:pK F
 zqe:BK F
 TS:kz F
 f146:pL F
 zqd:BJ F
 f151:pJ F
 zqc:BI F
 f65:G8 F
 f48:Bc F
 f87:A9 F
 f160:pH F
 zqb:BH F
 f157:pI F
 zqa:pq F
 f98:A8 F
 f100:pU F
theorem Qo (h:F jz=some JD)(e:qm F Q (zI [a0,a1] 0) L):zd F jz [a0,a1] L Q :=
 cw h (fun l t L=>wS (fun l t L=>wS (fun l t L=>lf (ql F Q L)) (wS (fun l t L=>wB (wS (fun l t L=>wC (wS (fun l t L=>lf (qh F Q (l 0) (l 3) (l 5) (l 6) (l 7) L)) (lf (jb F Q (l 0) (l 3) L))) (wS (fun l t L=>wC (wS (fun l t L=>lf (lP F Q (l 0) (l 3) (l 11) (l 12) (l 13) L)) (lf (gi F Q (l 0) (l 3) L))) (wS (fun l t L=>wC (lf (gh F Q (l 0) (l 3) L)) (wS (fun l t L=>wC (wS (fun l t L=>lf (lI F Q (l 0) (l 3) (l 21) (l 22) (l 23) L)) (lf (gf F Q (l 0) (l 3) L))) (wS (fun l t L=>wC (wS (fun l t L=>lf (lF F Q (l 0) (l 3) (l 27) (l 28) (l 29) L)) (lf (gb F Q (l 0) (l 3) L))) (wS (fun l t L=>wC (lf (ga F Q (l 0) (l 3) L)) (wS (fun l t L=>wC (wS (fun l t L=>wS (fun l t L=>lf (Bf F Q L)) (wS (fun l t L=>wB (wL (fun l t L k1=>wS (fun l t L=>wS (fun l t L=>lf (lg F Q k1 l L)) (wB (wS (fun l t L=>wS (fun l t L=>wS (fun l t L=>wS (fun l t L=>wS (fun l t L=>lf (kW F Q k1 l L)) (lf (kX F Q k1 l L))) (lf (eE F Q k1 l L))) (lf (kY F Q k1 l L))) (lf (fY F Q k1 l L))) (lf (kZ F Q k1 l L))))) (lf (lp F Q k1 l L))) (lf (lq F Q l L)))) (lf (lu F Q l L)))) (lf (fZ F Q l L))) (wS (fun l t L=>wC (wS (fun l t L=>lf (kT F Q (l 0) (l 3) (l 48) (l 49) L)) (lf (fX F Q (l 0) (l 3) L))) (wS (fun l t L=>wC (wS (fun l t L=>lf (Bd F Q (l 0) (l 3) (l 53) (l 54) (l 55) L)) (lf (Be F Q (l 0) (l 3) L))) (lf (kQ F Q L)) (lf (kR F Q (l 0) (l 3) (t 452) L))) (lf (kS F Q (l 0) (l 3) (l 60) L))) (lf (kU F Q (l 0) (l 3) (l 60) (t 408) L))) (lf (kV F Q (l 0) (l 3) (l 60) L))) (lf (lz F Q l (t 289) L))) (lf (lC F Q l L))) (lf (lD F Q l (t 259) L))) (lf (lE F Q l L))) (lf (lG F Q l (t 218) L))) (lf (lH F Q l L))) (lf (lJ F Q l (t 177) L))) (lf (lK F Q l L))) (lf (lM F Q l (t 147) L))) (lf (lO F Q l L))) (lf (lQ F Q l (t 98) L))) (lf (lR F Q l L))) (lf (qi F Q l (t 61) L))) (lf (qj F Q l L)))) (lf (qk F Q l L)))) (lf (qm F Q l L))) e
def qa (F:TF)(Q:TQ)(L:Lg):Prop :=zd F Bp [] L fun a L=>zm (some a) Q L
def cP (F:TF)(Q:TQ)(k1:TK)(l:Env)(L:Lg):Prop :=za F (.bin .add) [(l 7),(.i .i64 1)] L fun a L=>k1 (Env.put l 7 a) L
def kG (F:TF)(Q:TQ)(k1:TK)(k2:TK)(l:Env)(L:Lg):Prop :=za F (.bin .add) [(l 11),(.i .i64 1)] L fun a L=>k2 (Env.put l 11 a) L
def kE (F:TF)(Q:TQ)(k1:TK)(k2:TK)(l:Env)(L:Lg):Prop :=za F .aa [(l 3)] L fun a L=>za F (.aj 3) [a] L fun b L=>za F (.ld none) [b] L fun c L=>zd F gL [c,(l 11)] L fun d L=>za F (.ext 0) [d] L fun e L=>za F (.ext 1) [d] L fun f L=>za F (.ext 2) [d] L fun g L=>za F (.aX 6) [(l 10),(l 11)] L fun h L=>za F (.ld (some 6)) [h] L fun i L=>za F (.aX 1) [(l 5),(l 11)] L fun j L=>za F (.ld none) [j] L fun k L=>za F (.aX 1) [(l 6),(l 11)] L fun m L=>za F (.ld none) [m] L fun n L=>za F (.build [.i .i64 0,.b false,.i .i64 0,.i .i64 0,.i .i64 0,.b false] [(0,1),(1,1),(2,1),(3,1),(4,1),(5,1)]) [k,n,(l 12),(l 13),e,f] L fun o L=>za F (.eq true (.agg [(0,1),(1,0),(2,1),(3,1),(4,1),(5,0)])) [i,o] L fun p L=>zn p (zm (some (.b false)) Q L) (kG F Q k1 k2 (Env.put (Env.put l 15 e) 16 f) L)
def kF (F:TF)(Q:TQ)(k1:TK)(k2:TK)(l:Env)(L:Lg):Prop :=za F .aa [(l 3)] L fun a L=>za F (.aj 3) [a] L fun b L=>za F (.ld none) [b] L fun c L=>zd F gM [c,(l 11)] L fun d L=>za F (.ext 0) [d] L fun e L=>za F (.ext 1) [d] L fun f L=>za F (.ext 2) [d] L fun g L=>kE F Q k1 k2 (Env.put (Env.put l 12 e) 13 f) L
def kH (F:TF)(Q:TQ)(k1:TK)(k2:TK)(l:Env)(L:Lg):Prop :=za F .ax [(l 10)] L fun a L=>za F (.bin .lss) [(l 11),a] L fun b L=>zn b (kF F Q k1 k2 l L) (cP F Q k1 l L)
def kI (F:TF)(Q:TQ)(k1:TK)(l:Env)(L:Lg):Prop :=xA (fun l t L k2=>kH F Q k1 k2 l L) l L
def fV (F:TF)(Q:TQ)(k1:TK)(l:Env)(L:Lg):Prop :=kI F Q k1 (Env.put l 11 (.i .i64 0)) L
def kJ (F:TF)(Q:TQ)(k1:TK)(l:Env)(L:Lg):Prop :=za F .ax [(l 10)] L fun a L=>za F .aa [(l 3)] L fun b L=>za F (.aj 3) [b] L fun c L=>za F (.ld none) [c] L fun d L=>zd F fk [d] L fun e L=>za F (.bin .neq) [a,e] L fun f L=>zi F f false .mv [(l 10)] L fun g L=>zi F f false .mv [(l 3)] L fun h L=>zi F f false .aa [h] L fun i L=>zi F f false (.aj 4) [i] L fun j L=>zi F f false (.ld none) [j] L fun k L=>zi F f false (.call jH) [g,k] L fun m L=>zi F f false (.un .not) [m] L fun n L=>za F .pick [f,(.b true),n] L fun o L=>zn o (zm (some (.b false)) Q L) (fV F Q k1 l L)
def dH (F:TF)(Q:TQ)(k1:TK)(l:Env)(L:Lg):Prop :=za F .aa [(l 3)] L fun a L=>za F (.aj 1) [a] L fun b L=>za F (.ld none) [b] L fun c L=>zd F jL [c,(l 5),(l 6)] L fun d L=>kJ F Q k1 (Env.put l 10 d) L
def kK (F:TF)(Q:TQ)(k1:TK)(l:Env)(L:Lg):Prop :=za F .aa [(l 3)] L fun a L1=>za F (.aj 3) [a] L1 fun b L2=>za F (.ld none) [b] L2 fun c L3=>zd F fk [c] L3 fun d L4=>za F (.bin .gtr) [d,(l 9)] L4 fun e L5=>zn e (za F (.aj 1) [(l 8)] L5 fun f L6=>za F (.ld none) [f] L6 fun g L7=>za F (.aC [.i .i64 0] 1 1 [0]) [g] L7 fun h L8=>za F (.app 1 8) [(l 5),h] L8 fun i L9=>za F (.aj 0) [(l 8)] L9 fun j dG=>za F (.ld none) [j] dG fun k gz=>za F (.bin .neq) [k,(.i .i64 3)] gz fun m iV=>za F (.aC [.b false] 1 1 [0]) [m] iV fun n iU=>za F (.app 1 1) [(l 6),n] iU fun o jx=>(yb (.ld none) [j] dG L5∧True)∧(dH F Q k1 (Env.put (Env.put l 5 i) 6 o) jx)) (dH F Q k1 l L5)
def kL (F:TF)(Q:TQ)(k1:TK)(l:Env)(L:Lg):Prop :=za F (.ld (some 3)) [(l 8)] L fun a L=>zd F jz [(l 3),a] L fun b L=>za F (.un .not) [b] L fun c L=>zn c (zm (some (.b false)) Q L) (kK F Q k1 l L)
def fW (F:TF)(Q:TQ)(k1:TK)(l:Env)(L:Lg):Prop :=za F .aa [(l 3)] L fun a L=>za F (.aj 3) [a] L fun b L=>za F (.ld none) [b] L fun c L=>zd F fk [c] L fun d L=>kL F Q k1 (Env.put l 9 d) L
def kM (F:TF)(Q:TQ)(k1:TK)(l:Env)(L:Lg):Prop :=za F (.aj 0) [(l 8)] L fun a L=>za F (.ld none) [a] L fun b L=>za F (.bin .eql) [b,(.i .i64 9)] L fun c L=>zn c (cP F Q k1 l L) (fW F Q k1 l L)
def kN (F:TF)(Q:TQ)(k1:TK)(l:Env)(L:Lg):Prop :=za F (.aX 3) [(l 0),(l 7)] L fun a L=>za F (.ld (some 3)) [a] L fun b L=>za F (.alloc [.i .i64 0,.i .i64 0,.i .i64 0]) [] L fun c L=>za F (.st 3) [c,b] L fun _ L=>kM F Q k1 (Env.put l 8 c) L
def kO (F:TF)(Q:TQ)(k1:TK)(l:Env)(L:Lg):Prop :=za F .ax [(l 0)] L fun a L=>za F (.bin .lss) [(l 7),a] L fun b L=>zn b (kN F Q k1 l L) (qa F Q L)
def kP (F:TF)(Q:TQ)(l:Env)(L:Lg):Prop :=xA (fun l t L k1=>kO F Q k1 l L) l L
def pZ (F:TF)(Q:TQ)(l:Env)(L:Lg):Prop :=kP F Q (Env.put l 7 (.i .i64 0)) L
def qb (F:TF)(Q:TQ)(l:Env)(L:Lg):Prop :=za F (.aC [.b false] 1 1 [0]) [(.b false)] L fun a L=>pZ F Q (Env.put l 6 a) L
def qc (F:TF)(Q:TQ)(l:Env)(L:Lg):Prop :=za F (.aC [.i .i64 0] 1 1 [0]) [(.i .i64 (-1))] L fun a L=>qb F Q (Env.put l 5 a) L
def qd (F:TF)(Q:TQ)(l:Env)(L:Lg):Prop :=za F (.un .not) [(l 4)] L fun a L=>zn a (zm (some (.b false)) Q L) (qc F Q l L)
def qe (F:TF)(Q:TQ)(l:Env)(L:Lg):Prop :=zd F jM [] L fun a L=>za F (.ext 0) [a] L fun b L=>za F (.ext 1) [a] L fun c L=>qd F Q (Env.put (Env.put l 3 b) 4 c) L
def qf (F:TF)(Q:TQ)(l:Env)(L:Lg):Prop :=za F .ax [(l 0)] L fun a L=>za F (.bin .gtr) [a,(.i .i64 60)] L fun b L=>zn b (zd F Bp [] L fun c L=>zm (some c) Q L) (qe F Q l L)
def qg (F:TF)(Q:TQ)(l:Env)(L:Lg):Prop :=qf F Q (Env.put l 2 (.b false)) L
theorem Qn (h:F oM=some JC)(e:qg F Q (zI [a0] 0) L):zd F oM [a0] L Q :=
 cw h (fun l t L=>wS (fun l t L=>wS (fun l t L=>wS (fun l t L=>wS (fun l t L=>wS (fun l t L=>wS (fun l t L=>wS (fun l t L=>lf (qa F Q L)) (wS (fun l t L=>wB (wL (fun l t L k1=>wS (fun l t L=>wS (fun l t L=>lf (cP F Q k1 l L)) (wB (wS (fun l t L=>wS (fun l t L=>wS (fun l t L=>wS (fun l t L=>wS (fun l t L=>wS (fun l t L=>wS (fun l t L=>wS (fun l t L=>wB (wL (fun l t L k2=>wS (fun l t L=>wS (fun l t L=>lf (kG F Q k1 k2 l L)) (wB (wS (fun l t L=>lf (kE F Q k1 k2 l L)) (lf (kF F Q k1 k2 l L))))) (lf (kH F Q k1 k2 l L))) (lf (kI F Q k1 l L)))) (lf (fV F Q k1 l L))) (lf (kJ F Q k1 l L))) (lf (dH F Q k1 l L))) (lf (kK F Q k1 l L))) (lf (kL F Q k1 l L))) (lf (fW F Q k1 l L))) (lf (kM F Q k1 l L))) (lf (kN F Q k1 l L))))) (lf (kO F Q k1 l L))) (lf (kP F Q l L)))) (lf (pZ F Q l L)))) (lf (qb F Q l L))) (lf (qc F Q l L))) (lf (qd F Q l L))) (lf (qe F Q l L))) (lf (qf F Q l L))) (lf (qg F Q l L))) e
end
end
set_option linter.unusedSimpArgs false
section
variable {F:Nat→Option aT}
def yx (t:Int):Int:=min (max t (-4611686018427387904)) 4611686018427387904
theorem zas (h:T9 F)(t:Int)(L:Lg):zd F FB [.i .i64 t] L fun v L'=>v=.i .i64 (yx t)∧L'=L:=by
 apply zov h.code
 simp[Gx]
 rfl
def zB (t d:Int):Int:=yx (yx t+yx d)
theorem vH (t:Int):-4611686018427387904≤yx t∧yx t≤4611686018427387904:=by unfold yx;omega
theorem vL (h:LA F)(t d:Int)(L:Lg):zd F Ew [.i .i64 t,.i .i64 d] L fun v L'=>v=.i .i64 (zB t d)∧L'=L:=by
 apply zou h.code
 unfold Gw
 refine (zas h.f1 _ _).mono ?_
 rintro _ _ ⟨rfl,rfl⟩
 refine (zas h.f1 _ _).mono ?_
 rintro _ _ ⟨rfl,rfl⟩
 have h1:=vH t
 have h2:=vH d
 have e4:zB t d=min (max (yx t+yx d) (-4611686018427387904)) 4611686018427387904:=rfl
 by_cases c1:0<yx d
 ·have e2:wr .i64 (4611686018427387904-yx d)=4611686018427387904-yx d:=zT (by omega) (by omega)
  have c2:¬yx d<0:=by omega
  by_cases c3:4611686018427387904-yx d<yx t
  ·simp[c1,e2,c3,e4];omega
  ·have e1:wr .i64 (yx t+yx d)=yx t+yx d:=zT (by omega) (by omega)
   simp[c1,e2,c3,c2,e1,e4];omega
 ·by_cases c2:yx d<0
  ·have e3:wr .i64 (-4611686018427387904-yx d)=-4611686018427387904-yx d:=zT (by omega) (by omega)
   by_cases c3:yx t < -4611686018427387904-yx d
   ·simp[c1,e3,c3,c2,e4];omega
   ·have e1:wr .i64 (yx t+yx d)=yx t+yx d:=zT (by omega) (by omega)
    simp[c1,e3,c3,c2,e1,e4];omega
  ·have e1:wr .i64 (yx t+yx d)=yx t+yx d:=zT (by omega) (by omega)
   simp[c1,c2,e1,e4];omega
def zy (w p n:Int):Int×Int :=
 if p<1∨min w n<0∨4611686018427387904<max w (max p n)then (0,1)
 else if n<w then (w,0)else (zB n (p-(n-w).tmod p),0)
theorem W1 (h:T8 F)(w p n:Int)(L:Lg):zd F HJ [.i .i64 w,.i .i64 p,.i .i64 n] L fun v L'=>v=.ay [.i .i64 (zy w p n).1,.i .i64 (zy w p n).2]∧L'=L:=by
 apply zot h.code
 unfold Gv zy
 by_cases c1:p<1
 ·simp[c1]
 by_cases c2:min w n<0
 ·simp[c1,c2]
 by_cases c3:4611686018427387904<max w (max p n)
 ·simp[c1,c2,c3]
 by_cases c4:n<w
 ·simp[c1,c2,c3,c4]
 have hp:p≠0:=by omega
 have e1:wr .i64 (n-w)=n-w:=zT (by omega) (by omega)
 have h3:0≤(n-w).tmod p∧(n-w).tmod p<p:=⟨Int.tmod_nonneg _ (by omega),Int.tmod_lt_of_pos _ (by omega)⟩
 have e2:wr .i64 (p-(n-w).tmod p)=p-(n-w).tmod p:=zT (by omega) (by omega)
 simp[c1,c2,c3,c4,e1,e2,zgX _ _ _ _ _ _ hp]
 refine (vL h.f2 _ _ _).mono ?_
 rintro _ _ ⟨rfl,rfl⟩
 simp[c1,c2,c3,c4]
end
section
variable {F:Nat→Option aT}
def Iv (zs:List Int):List AV:=zs.map (.i .i64 ·)
@[simp] theorem zh7 (zs:List Int):(Iv zs).length=zs.length:=by simp[Iv]
@[simp] theorem zlf (zs:List Int)(i:Nat):(Iv zs)[i]?=(zs[i]?).map (.i .i64 ·):=by simp[Iv]
theorem zgz (zs:List Int)(i:Nat)(v:Int):(Iv zs).set i (.i .i64 v)=Iv (zs.set i v):=by simp[Iv,List.map_set]
def Z3 (r:Nat)(xs:List Int)(cap:Nat)(h:Hp):Prop:=∃(b fr:Nat) (zs:List Int),b≠r∧zs.length=cap∧xs.length≤cap∧cap≤64∧fr≤cap∧(0<cap→fr<cap)∧(∀i,i<xs.length→zs[(fr+i) % cap]?=xs[i]?) ∧
 Sat (Lg.two r b (.raw (.cells [.sl (some (b,0)) cap cap 0,.i .i64 fr,.i .i64 xs.length])) (.raw (.cells (Iv zs)))) h
section
variable {L:Lg} {r cap:Nat} {xs:List Int}
theorem XN (h:Li F){a b:AV}{n:Int}(e:L r=some (.raw (.cells [a,b,.i .i64 n]))):zd F Bo [.p (some (r,0))] L fun w L'=>w=.i .i64 n∧L'=L:=by
 apply zor h.code
 simp[Gq,aq,AB.read,zR,e]
theorem Y3 (h:Li F)(e:L r=some (.abs (Z3 r xs cap))):zd F Bo [.p (some (r,0))] L fun w L'=>w=.i .i64 xs.length∧L'=L:=by
 apply vS e
 rintro hm ⟨b,fr,zs,hne,h1,h2,h3,h4,h5,h6,hs⟩
 refine⟨b,_,_,hne,hs,fun hb=>?_⟩
 refine (XN h (ze _ _ _)).cj ?_
 rintro _ _ ⟨rfl,rfl⟩
 refine⟨L,?_,rfl,rfl⟩
 have:=wQ (P:=Z3 r xs cap) hne hb (fun h hs=>⟨b,fr,zs,hne,h1,h2,h3,h4,h5,h6,hs⟩)
 rwa [ye L r _ e]at this
theorem V3 (h:T6 F)(e:L r=some (.abs (Z3 r xs cap))):zd F HH [.p (some (r,0))] L fun w L'=>w=.i .i64 cap∧L'=L:=by
 apply vS e
 rintro hm ⟨b,fr,zs,hne,h1,h2,h3,h4,h5,h6,hs⟩
 refine⟨b,_,_,hne,hs,fun hb=>?_⟩
 apply zoq h.code
 simp[Gp,aq,AB.read,zR]
 have:=wQ (P:=Z3 r xs cap) hne hb (fun h hs=>⟨b,fr,zs,hne,h1,h2,h3,h4,h5,h6,hs⟩)
 rwa [ye L r _ e]at this
theorem V4 (h:T7 F)(e:L r=some (.abs (Z3 r xs cap)))(v:Int):zd F HI [.p (some (r,0)),.i .i64 v] L fun w L' =>
  if xs.length=cap then w=.b false∧L'=L else w=.b true∧L'=L.put r (.abs (Z3 r (xs++[v]) cap)):=by
 apply vS e
 rintro hm ⟨b,fr,zs,hne,h1,h2,h3,h4,h5,h6,hs⟩
 refine⟨b,_,_,hne,hs,fun hb=>?_⟩
 apply zos h.code
 unfold Gu Gt
 by_cases hf:xs.length=cap
 ·simp[aq,AB.read,zR,hf]
  have:=wQ (P:=Z3 r xs cap) hne hb (fun h hs=>⟨b,fr,zs,hne,h1,h2,h3,h4,h5,h6,hs⟩)
  rwa [ye L r _ e,hf]at this
 ·have hi:¬((xs.length:Int)=cap):=by omega
  have hc:(cap:Int)≠0:=by omega
  have e1:wr .i64 ((fr:Int)+xs.length)=(fr:Int)+xs.length:=zT (by omega) (by omega)
  obtain⟨m,hm'⟩:∃m,m=(fr+xs.length) % cap:=⟨_,rfl⟩
  have e2:((fr:Int)+xs.length).tmod cap=(m:Int):=by rw[hm',←Int.natCast_add,Int.ofNat_tmod]
  obtain⟨n1,nh⟩:∃n1,n1=xs.length+1:=⟨_,rfl⟩
  have e3:wr .i64 ((xs.length:Int)+1)=(n1:Int):=by rw[zT (by omega) (by omega)];omega
  have hlt:m<cap:=by rw[hm'];exact Nat.mod_lt _ (by omega)
  have e5:(m:Int)<cap:=by omega
  have e6:m+1≤cap:=hlt
  simp[aq,AB.read,zR,hf,hi,Gs,e1,e2,zgX _ _ _ _ _ _ hc,yn _ _ _ 1 b 0 cap cap 0 .i64 (m:Int) (Int.natCast_nonneg _) e5,
   jy,mH,xj,zgz,Lg.ah,hne,Ne.symm hne,h1,hlt,e3,e6,ziB _ hne]
  apply wQ hne hb
  intro h hs
  refine⟨b,fr,zs.set m v,hne,by simpa using h1,by simp;omega,h3,h4,h5,?_,by simpa[nh]using hs⟩
  intro i hi'
  rw[List.length_append,List.length_singleton]at hi'
  rw[List.getElem?_set,List.getElem?_append]
  by_cases h7:i<xs.length
  ·have:m≠(fr+i) % cap:=by
    rw[hm'];intro h8
    have h9:(fr+xs.length) % cap=(fr+i) % cap:=h8
    have:=Nat.mod_lt (fr+i) (show 0<cap by omega)
    have a1:=Nat.div_add_mod (fr+xs.length) cap
    have a2:=Nat.div_add_mod (fr+i) cap
    have a3:(fr+i) / cap≤(fr+xs.length) / cap:=Nat.div_le_div_right (by omega)
    rcases Nat.lt_or_ge ((fr+i) / cap) ((fr+xs.length) / cap)with a4 | a4
    ·have a5:=Nat.mul_le_mul_left cap (show (fr+i) / cap+1≤(fr+xs.length) / cap from a4)
     rw[Nat.mul_add]at a5
     omega
    ·have:(fr+i) / cap=(fr+xs.length) / cap:=by omega
     rw[this]at a2
     omega
   simp only[this,if_false,h7,if_true]
   exact h6 i h7
  ·have:i=xs.length:=by omega
   subst this
   simp[hm']
   rw[←hm']
   simp[h1,hlt]
theorem WM (h:T5 F)(e:L r=some (.abs (Z3 r xs cap))):zd F HG [.p (some (r,0))] L fun w L'=>w=.i .i64 xs.length∧L'=L.put r (.abs (Z3 r [] cap)):=by
 apply vS e
 rintro hm ⟨b,fr,zs,hne,h1,h2,h3,h4,h5,h6,hs⟩
 refine⟨b,_,_,hne,hs,fun hb=>?_⟩
 apply zop h.code
 unfold Gn
 have key:zx ((L.put b (.raw (.cells (Iv zs)))).put r (.raw (.cells [.sl (some (b,0)) cap cap 0,.i .i64 fr,.i .i64 (0:Nat)]))) (L.put r (.abs (Z3 r [] cap))) :=
  wQ hne hb (fun h hs=>⟨b,fr,zs,hne,h1,by simp,h3,h4,h5,by simp,hs⟩)
 refine (XN (r:=r) h.f6 (ze _ _ _)).mono ?_
 rintro _ _ ⟨rfl,rfl⟩
 by_cases h0:xs.length=0
 ·have h0':((0:Nat):Int)=0:=rfl
  rw[h0]at hs ⊢
  simpa[h0']using key
 ·have hp:(0:Int)<xs.length:=by omega
  have GS:0<xs.length:=by omega
  simpa[hp,GS,aq,AB.read,zR,jy,mH,xj]using key
theorem U5 (h:T4 F)(n:Nat)(hn:n≤64):zd F HF [.i .i64 n] L fun w L'=>∃r,L r=none∧w=.ay [.p (some (r,0)),.i .i64 0]∧L'=L.put r (.abs (Z3 r [] n)):=by
 apply zoo h.code
 have h1:¬((n:Int)<0):=by omega
 have h2:¬((64:Int)<n):=by omega
 have h2':¬(64<n):=by omega
 simp[Gm,h1,h2,h2',zhq F _ _ [.i .i64 0] 8 .i64 .i64 n n (Nat.le_refl n) (by omega)]
 intro b hb
 simp[zF,zo,Nat.ble]
 ·intro r hr
  have hrb:r≠b:=by rintro rfl;simp at hr
  rw[zb _ _ _ hrb]at hr
  refine⟨L.put r (.abs (Z3 r [] n)),?_,r,hr,rfl,rfl⟩
  refine wQ (Ne.symm hrb) hb ?_
  intro h hs
  refine⟨b,0,List.replicate n 0,Ne.symm hrb,by simp,by simp,hn,by omega,fun h=>h,by simp,?_⟩
  have:Iv (List.replicate n 0)=y7 [.i .i64 0] n:=by simp[Iv,U6]
  rw[this]
  exact hs
end
end
section
variable {F:Nat→Option aT}
structure Wt where
 t:Int
 c:Int
 v:Int
 deriving DecidableEq
def Wt.cells (w:Wt):List AV:=[.i .i64 w.t,.i .i64 w.c,.i .i64 w.v]
def Wt.av (w:Wt):AV:=.agg w.cells
def Wt.zero:Wt:=⟨0,0,0⟩
def ptr (o:Option Nat):AV:=.p (o.map fun b=>(b,0))
@[simp] theorem Ua:ptr none=.p none:=rfl
@[simp] theorem V9 (b:Nat):ptr (some b)=.p (some (b,0)):=rfl
@[simp] theorem zhR (o:Option Nat):(ptr o).cellsOf=some [ptr o]:=rfl
@[simp] theorem znX (o:Option Nat):(ptr o).one=true:=rfl
def xO (w:Wt)(p n:Option Nat):LC:=.raw (.cells [.i .i64 w.t,.i .i64 w.c,.i .i64 w.v,ptr p,ptr n])
def hd (n:Option Nat):List (Nat×Wt)→Option Nat
 | []=>n
 | x::_=>some x.1
def gK (p:Option Nat):List (Nat×Wt)→Option Nat
 | []=>p
 | x::r=>gK (some x.1) r
def dV (M:Lg)(p:Option Nat):List (Nat×Wt)→Option Nat→Prop
 | [],_=>True
 | (i,w)::r,n=>M i=some (xO w p (hd n r))∧dV M (some i) r n
def zZ (l:List (Nat×Wt)):List Nat:=l.map (·.1)
@[simp] theorem zpK (n:Option Nat):hd n []=n:=rfl
@[simp] theorem zn0 (n:Option Nat)(x:Nat×Wt)(r:List (Nat×Wt)):hd n (x::r)=some x.1:=rfl
@[simp] theorem znZ (n:Option Nat):gK n []=n:=rfl
@[simp] theorem zlc (n:Option Nat)(x:Nat×Wt)(r:List (Nat×Wt)):gK n (x::r)=gK (some x.1) r:=rfl
theorem ww (n:Option Nat):∀(A B:List (Nat×Wt)),hd n (A++B)=hd (hd n B) A
 | [],_=>rfl
 | _::_,_=>rfl
theorem wN:∀(A B:List (Nat×Wt)) (p:Option Nat),gK p (A++B)=gK (gK p A) B
 | [],_,_=>rfl
 | _::A,B,_=>wN A B _
theorem dV.append (M:Lg):∀(A B:List (Nat×Wt)) (p n:Option Nat),dV M p (A++B) n↔dV M p A (hd n B)∧dV M (gK p A) B n
 | [],_,_,_=>by simp[dV,gK]
 | (i,w)::A,B,p,n=>by
  simp only[List.cons_append,dV,gK,ww,dV.append M A B,and_assoc]
theorem dV.congr {M M':Lg}:∀{l:List (Nat×Wt)} {p n:Option Nat},(∀i,i∈zZ l→M' i=M i)→dV M p l n→dV M' p l n
 | [],_,_,_,_=>trivial
 | (i,w)::r,p,n,h,hs=>⟨by rw[h i (by simp[zZ])];exact hs.1,dV.congr (fun j hj=>h j (by simp[zZ]at hj ⊢;exact .inr hj)) hs.2⟩
theorem dV.some {M:Lg}:∀{l:List (Nat×Wt)} {p n:Option Nat},dV M p l n→∀i,i∈zZ l→M i≠none
 | [],_,_,_,i,hi=>by simp[zZ]at hi
 | (j,w)::r,p,n,hs,i,hi=>by
  simp only[zZ,List.map_cons,List.mem_cons]at hi
  rcases hi with rfl | hi
  ·rw[hs.1];simp
  ·exact dV.some hs.2 i hi
def xg (q:Nat)(ws:List Wt)(h:Hp):Prop:=∃(l:List (Nat×Wt)) (M:Lg),l.map (·.2)=ws∧(q::zZ l).Nodup∧ws.length≤1000000 ∧
 M q=some (.raw (.cells [ptr (hd none l),ptr (gK none l),.i .i64 ws.length]))∧dV M none l none∧(∀b,b∉q::zZ l→M b=none)∧Sat M h
section
variable {L:Lg} {q:Nat} {ws:List Wt}
structure cC (L:Lg)(q:Nat)(l:List (Nat×Wt))(L1:Lg):Prop where
 nd:(q::zZ l).Nodup
 root:L1 q=some (.raw (.cells [ptr (hd none l),ptr (gK none l),.i .i64 l.length]))
 seg:dV L1 none l none
 old:∀b c,b∉q::zZ l→L b=some c→L1 b=some c
 new:∀b,b∈zZ l→L b=none
theorem cC.shut {l:List (Nat×Wt)}{L1:Lg}(h:cC L q l L1)(hl:l.length≤1000000):zx L1 (L.put q (.abs (xg q (l.map (·.2))))):=by
 refine yZ (fun b=>b∈q::zZ l) (List.mem_cons_self ..) h.old ?_ (.inl ⟨_,h.root⟩) ?_
 ·intro b hb Oh
  rcases List.mem_cons.1 hb with rfl | hb
  ·exact absurd rfl Oh
  ·exact h.new b hb
 ·intro M hp hM hN hs
  refine⟨l,M,rfl,h.nd,by simpa using hl,?_,?_,hN,hs⟩
  ·rw[hM q (List.mem_cons_self ..),h.root];simp
  ·exact dV.congr (fun i hi=>hM i (List.mem_cons_of_mem _ hi)) h.seg
theorem Z7 {f:Nat}{vs:List AV}{Q:AV→Lg→Prop}(e:L q=some (.abs (xg q ws)))
  (h:∀l L1,l.map (·.2)=ws→l.length≤1000000→cC L q l L1→(∀b,b∉q::zZ l→L1 b=L b)→zd F f vs L1 Q):zd F f vs L Q:=by
 apply y3 e
 rintro hm ⟨l,M,h1,h2,h3,h4,h5,h6,hs⟩
 refine⟨M,hs,by rw[h4];simp,fun hf=>?_⟩
 have cA:∀b c,M b=some c→(M.ak L) b=some c:=fun b c hb=>by simp[Lg.ak,hb]
 have fB:∀{l:List (Nat×Wt)} {p n:Option Nat},dV M p l n→dV (M.ak L) p l n:=by
  intro l
  induction l with
  | nil=>intros;trivial
  | cons x r ih=>intro p n hs;exact⟨cA _ _ hs.1,ih hs.2⟩
 have hin:∀{l:List (Nat×Wt)} {p n:Option Nat},dV M p l n→∀i,i∈zZ l→∃c,M i=some c:=by
  intro l
  induction l with
  | nil=>intro p n hs i hi;simp[zZ]at hi
  | cons x r ih =>
   intro p n hs i hi
   simp only[zZ,List.map_cons,List.mem_cons]at hi
   rcases hi with rfl | hi
   ·exact⟨_,hs.1⟩
   ·exact ih hs.2 i hi
 have hlen:l.length=ws.length:=by rw[←h1];simp
 refine h l (M.ak L) h1 (by omega) ⟨h2,?_,fB h5,?_,?_⟩ ?_
 ·rw[hlen];exact cA q _ h4
 ·intro b c hb hL;simp[Lg.ak,h6 b hb,hL]
 ·intro b hb
  obtain⟨c,hc⟩:=hin h5 b hb
  refine hf b c hc ?_
  rintro rfl
  exact (List.nodup_cons.1 h2).1 hb
 ·intro b hb;simp[Lg.ak,h6 b hb]
theorem Yk (h:LD F):zd F oO [] L fun v L'=>∃q,L q=none∧v=.p (some (q,0))∧L'=L.put q (.abs (xg q [])):=by
 apply zkW h.code
 simp[DY,zF]
 intro b hb
 refine⟨L.put b (.abs (xg b [])),?_,b,hb,rfl,rfl⟩
 have:cC L b [] (L.put b (.raw (.cells [.p none,.p none,.i .i64 0]))) :=
  ⟨by simp[zZ],by simp[hd,gK],trivial,fun c d h1 h2=>by simp[zZ]at h1;rw[zb _ _ _ h1];exact h2,fun c hc=>by simp[zZ]at hc⟩
 exact this.shut (by simp)
theorem WQ (h:LF F)(e:L q=some (.abs (xg q ws)))(w:Wt)(FG:ws.length<1000000):zd F mR [.p (some (q,0)),w.av] L fun v L'=>v=.i .i64 (ws.length+1)∧L'=L.put q (.abs (xg q (ws++[w]))):=by
 apply Z7 e
 intro l L1 h1 h2 hq hn
 apply zkX h.code
 have hlen:l.length=ws.length:=by rw[←h1];simp
 have e1:wr .i64 ((ws.length:Int)+1)=(ws.length:Int)+1:=zT (by omega) (by omega)
 have cH:=hq.root
 unfold D2 D1 D0 DZ nT Wt.av Wt.cells
 simp
 intro x hx
 have hxq:x≠q:=by rintro rfl;rw[cH]at hx;cases hx
 simp[aq,AB.read,zR,Lg.ah,hxq,Ne.symm hxq,cH,cut,zp,zq,zF,zo,wa]
 rw[zL _ _ _ (by simp)]
 intro y hy1
 have hy:y≠x:=by rintro rfl;simp at hy1
 rw[zb _ _ _ hy]at hy1
 have ML:y≠q:=by rintro rfl;rw[cH]at hy1;cases hy1
 have hyL:L y=none:=by
  cases h3:L y with
  | none=>rfl
  | some c =>
   by_cases h4:y∈q::zZ l
   ·rcases List.mem_cons.1 h4 with h4 | h4
    ·exact absurd h4 ML
    ·rw[hq.new y h4]at h3;cases h3
   ·rw[hq.old y c h4 h3]at hy1;cases hy1
 have FE:y∉zZ l:=by
  intro h4
  exact dV.some hq.seg y h4 hy1
 rcases List.eq_nil_or_concat l with rfl | ⟨A,⟨j,u⟩,rfl⟩
 ·simp at hlen
  simp[hd,gK,aq,AB.read,zR,Lg.ah,ML,Ne.symm ML,hxq,Ne.symm hxq,cH,jy,mH,xj,hy]
  have zoZ:ws=[]:=List.length_eq_zero_iff.1 hlen.symm
  subst zoZ
  refine⟨?_,by rw[zT (by omega) (by omega)];simp⟩
  have hf:∀Lf:Lg,Lf q=some (.raw (.cells [.p (some (y,0)),.p (some (y,0)),.i .i64 1]))→Lf y=some (xO w none none)→(∀b,b≠q→b≠y→b≠x→Lf b=L1 b)→cC L q [(y,w)] Lf:=by
   intro Lf f1 f2 f3
   refine⟨by simp[zZ,Ne.symm ML],by simpa[hd,gK]using f1,⟨f2,trivial⟩,?_,by simpa[zZ]using hyL⟩
   intro b c hb hc
   simp[zZ]at hb
   have hbx:b≠x:=by
    rintro rfl
    rw[hq.old b c (by simp[zZ,hb.1]) hc]at hx;cases hx
   rw[f3 b hb.1 hb.2 hbx]
   exact hq.old b c (by simp[zZ,hb.1]) hc
  refine (hf _ ?_ ?_ ?_).shut (by simp)
  ·simp[zT]
  ·simp[Lg.ah,ML,xO]
  ·intro b b1 b2 b3;simp[Lg.ah,b1,b2,b3]
 ·simp only[List.concat_eq_append]at hq cH FE h1 hlen hn h2
  have fB:=(dV.append L1 A [(j,u)] none none).1 hq.seg
  have hj:L1 j=some (xO u (gK none A) none):=fB.2.1
  have fQ:=hq.nd
  simp only[zZ,List.map_append,List.map_cons,List.map_nil]at fQ FE
  have Fh:j≠q:=by
   rintro rfl
   exact (List.nodup_cons.1 fQ).1 (by simp)
  have hjA:j∉zZ A:=by
   have:=(List.nodup_append.1 (List.nodup_cons.1 fQ).2).2.2
   intro hjA
   exact this j hjA j (by simp) rfl
  have hyj:y≠j:=by rintro rfl;exact FE (by simp)
  have hxj:x≠j:=by rintro rfl;rw[hj]at hx;cases hx
  have eI:gK none (A++[(j,u)])=some j:=by simp[wN,gK]
  have hlen':(A.length:Int)+1=ws.length:=by simp at hlen;omega
  simp[eI]at cH
  simp[eI,aq,AB.read,zR,Lg.ah,ML,Ne.symm ML,hxq,Ne.symm hxq,hyj,Ne.symm hyj,Fh,Ne.symm Fh,hxj,Ne.symm hxj,cH,jy,mH,xj,hy,hj,xO,hlen',e1]
  have hf:∀Lf:Lg,Lf q=some (.raw (.cells [ptr (hd none (A++[(j,u)])),.p (some (y,0)),.i .i64 (ws.length+1)]))→Lf y=some (xO w (some j) none)→Lf j=some (xO u (gK none A) (some y)) →
    (∀b,b≠q→b≠y→b≠j→b≠x→Lf b=L1 b)→cC L q (A++[(j,u),(y,w)]) Lf:=by
   intro Lf f1 f2 f3 f4
   have hqA:q∉zZ A:=fun h5=>(List.nodup_cons.1 fQ).1 (by simp[zZ]at h5 ⊢;exact .inl h5)
   have hyA:y∉zZ A:=fun h5=>FE (by simp[zZ]at h5 ⊢;exact .inl h5)
   refine⟨?_,?_,?_,?_,?_⟩
   ·have e3:q::zZ (A++[(j,u),(y,w)])=(q::(List.map (fun x=>x.fst) A++[j]))++[y]:=by simp[zZ]
    rw[e3,List.nodup_append]
    refine⟨fQ,by simp,?_⟩
    intro a ha b hb hab
    simp at hb
    subst hb
    subst hab
    rcases List.mem_cons.1 ha with ha | ha
    ·exact ML ha
    ·exact FE ha
   ·rw[f1]
    have:hd none (A++[(j,u),(y,w)])=hd none (A++[(j,u)]):=by rw[ww,ww];rfl
    rw[this]
    simp[wN,gK]
    omega
   ·rw[dV.append]
    refine⟨dV.congr ?_ fB.1,f3,f2,trivial⟩
    intro i hi
    have:i≠x:=by
     rintro rfl
     have:=hq.new i (by simp[zZ]at hi ⊢;exact .inl hi)
     exact dV.some fB.1 i hi hx
    exact f4 i (fun h5=>hqA (h5▸hi)) (fun h5=>hyA (h5▸hi)) (fun h5=>hjA (h5▸hi)) this
   ·intro b c hb hc
    simp[zZ]at hb
    have hb':b∉q::zZ (A++[(j,u)]):=by
     simp[zZ]
     exact⟨hb.1,fun x=>hb.2.1 x,hb.2.2.1⟩
    have h6:=hq.old b c hb' hc
    have hbx:b≠x:=by rintro rfl;rw[h6]at hx;cases hx
    rw[f4 b hb.1 hb.2.2.2 hb.2.2.1 hbx]
    exact h6
   ·intro b hb
    by_cases h7:b=y
    ·subst h7;exact hyL
    ·exact hq.new b (by simp[zZ]at hb ⊢;rcases hb with hb | hb | hb;exact .inl hb;exact .inr hb;exact absurd hb h7)
  have h8:ws++[w]=(A++[(j,u),(y,w)]).map (·.2):=by rw[←h1];simp
  rw[h8]
  refine (hf _ ?_ ?_ ?_ ?_).shut ?_
  ·simp
  ·simp[Lg.ah,ML,hyj,xO]
  ·simp[Lg.ah,Fh,xO]
  ·intro b b1 b2 b3 b4;simp[Lg.ah,b1,b2,b3,b4]
  ·simp;omega
theorem yq (A B:List (Nat×Wt)):zZ (A++B)=zZ A++zZ B:=by simp[zZ]
theorem xl (x:Nat×Wt)(B:List (Nat×Wt)):zZ (x::B)=x.1::zZ B:=rfl
@[simp] theorem zjn:zZ []=[]:=rfl
theorem cC.dropped {A B:List (Nat×Wt)}{i:Nat}{w:Wt}{L1:Lg}(hq:cC L q (A++(i,w)::B) L1){Lf:Lg}
  (f1:Lf q=some (.raw (.cells [ptr (hd none (A++B)),ptr (gK none (A++B)),.i .i64 (A++B).length])))
  (f2:∀A' j u,A=A'++[(j,u)]→Lf j=some (xO u (gK none A') (hd none B)))
  (f3:∀k z B',B=(k,z)::B'→Lf k=some (xO z (gK none A) (hd none B')))
  (f4:∀b,b≠q→(∀A' j u,A=A'++[(j,u)]→b≠j)→(∀k z B',B=(k,z)::B'→b≠k)→Lf b=L1 b):cC L q (A++B) Lf:=by
 have fB:=(dV.append L1 A ((i,w)::B) none none).1 hq.seg
 have fQ:=hq.nd
 rw[yq,xl]at fQ
 have h1:=(List.nodup_cons.1 fQ).1
 have h2:=List.nodup_append.1 (List.nodup_cons.1 fQ).2
 have h3:=List.nodup_cons.1 h2.2.1
 refine⟨?_,f1,?_,?_,?_⟩
 ·rw[yq,List.nodup_cons,List.nodup_append]
  refine⟨fun h=>h1 ?_,h2.1,h3.2,fun a ha b hb=>h2.2.2 a ha b (List.mem_cons_of_mem _ hb)⟩
  rw[List.mem_append]at h ⊢
  exact h.imp id (List.mem_cons_of_mem _)
 ·rw[dV.append]
  refine⟨?_,?_⟩
  ·rcases List.eq_nil_or_concat A with rfl | ⟨A',⟨j,u⟩,rfl⟩
   ·trivial
   ·simp only[List.concat_eq_append]at *
    have hs:=(dV.append L1 A' [(j,u)] none (some i)).1 fB.1
    rw[dV.append]
    refine⟨dV.congr ?_ hs.1,f2 A' j u rfl,trivial⟩
    intro b hb
    have hnA:=h2.1
    rw[yq,List.nodup_append]at hnA
    refine f4 b ?_ ?_ ?_
    ·rintro rfl;exact h1 (by rw[yq];simp[hb])
    ·intro A'' j' u' e hbj
     have:=(List.append_inj' e rfl).2
     simp at this
     subst hbj
     exact hnA.2.2 b hb j (by simp[zZ]) this.1.symm
    ·intro k z B' e EK
     subst EK
     refine h2.2.2 b (by rw[yq];simp[hb]) b ?_ rfl
     rw[e,xl];simp
  ·cases B with
   | nil=>trivial
   | cons x B' =>
    obtain⟨k,z⟩:=x
    refine⟨f3 k z B' rfl,dV.congr ?_ fB.2.2.2⟩
    intro b hb
    rw[xl]at h3
    have h4:=List.nodup_cons.1 h3.2
    refine f4 b ?_ ?_ ?_
    ·rintro rfl;exact h1 (by rw[xl];simp[hb])
    ·intro A' j u e hbj
     subst hbj
     refine h2.2.2 b (by rw[e,yq];simp[zZ]) b (by rw[xl];simp[hb]) rfl
    ·intro k' z' B'' e EK
     simp at e
     subst EK
     rw[←e.1.1]at hb
     exact h4.1 hb
 ·intro b c hb hc
  rw[yq]at hb
  by_cases hbi:b=i
  ·subst hbi
   have:=hq.new b (by rw[yq,xl];simp)
   rw[this]at hc;cases hc
  ·have hb':b∉q::zZ (A++(i,w)::B):=by
    rw[yq,xl]
    simp at hb ⊢
    exact⟨hb.1,hb.2.1,hbi,hb.2.2⟩
   simp at hb
   rw[f4 b hb.1 ?_ ?_]
   ·exact hq.old b c hb' hc
   ·rintro A' j u rfl rfl;exact hb.2.1 (by simp[zZ])
   ·rintro k z B' rfl rfl;exact hb.2.2 (by simp[zZ])
 ·intro b hb
  refine hq.new b ?_
  rw[yq,xl]
  rw[yq]at hb
  rw[List.mem_append]at hb ⊢
  exact hb.imp id (List.mem_cons_of_mem _)
theorem WR (h:LJ F){A B:List (Nat×Wt)}{i:Nat}{w:Wt}{L1:Lg}(hq:cC L q (A++(i,w)::B) L1)(hl:(A++(i,w)::B).length≤1000000) :
  zd F A0 [.p (some (q,0)),.p (some (i,0))] L1 fun v L'=>v=.ay []∧cC L q (A++B) L'∧L' i=some (xO w (gK none A) (hd none B))∧∀b,b∉q::zZ (A++B)→L' b=L1 b:=by
 apply zk2 h.code
 have fB:=(dV.append L1 A ((i,w)::B) none none).1 hq.seg
 have fQ:=hq.nd
 rw[yq,xl]at fQ
 have h1:=(List.nodup_cons.1 fQ).1
 have h2:=List.nodup_append.1 (List.nodup_cons.1 fQ).2
 have h3:=List.nodup_cons.1 h2.2.1
 have HQ:i≠q:=by rintro rfl;exact h1 (by simp)
 have hi:L1 i=some (xO w (gK none A) (hd none B)):=fB.2.1
 have cH:=hq.root
 unfold Ej nX
 have e1:wr .i64 ((((A++(i,w)::B).length:Nat):Int)-1)=((A++B).length:Nat):=by rw[zT (by simp at hl ⊢;omega) (by omega)];simp;omega
 have iC:hd none (A++(i,w)::B)=hd (some i) A:=by rw[ww];rfl
 have A1:gK none (A++(i,w)::B)=gK (some i) B:=by rw[wN];rfl
 rw[iC,A1]at cH
 obtain⟨n,hn⟩:∃n,n=(A++(i,w)::B).length:=⟨_,rfl⟩
 obtain⟨m,hm⟩:∃m,m=(A++B).length:=⟨_,rfl⟩
 rw[←hn]at e1 cH
 rw[←hm]at e1
 rcases List.eq_nil_or_concat A with rfl | ⟨A',⟨j,u⟩,rfl⟩
 ·cases B with
  | nil =>
   simp[aq,AB.read,zR,hi,xO,cH,jy,mH,xj,Lg.ah,HQ,Ne.symm HQ,e1]
   refine⟨_,zx.refl _,hq.dropped ?_ ?_ ?_ ?_,?_,?_⟩
   ·simp[hm]
   ·intro A' j u e;simp at e
   ·intro k z B' e;simp at e
   ·intro b b1 b2 b3;simp[Lg.ah,b1]
   ·simp[Lg.ah,HQ,hi,xO]
   ·intro b b1;simp[Lg.ah,b1]
  | cons x B' =>
   obtain⟨k,z⟩:=x
   have hk:L1 k=some (xO z (some i) (hd none B')):=fB.2.2.1
   have Sl:k≠q:=by rintro rfl;exact h1 (by simp[zZ])
   have hki:k≠i:=by rintro rfl;exact h3.1 (by simp[zZ])
   simp[aq,AB.read,zR,hi,hk,xO,cH,jy,mH,xj,Lg.ah,HQ,Ne.symm HQ,Sl,Ne.symm Sl,hki,Ne.symm hki,e1]
   refine⟨_,zx.refl _,hq.dropped ?_ ?_ ?_ ?_,?_,?_⟩
   ·simp[hm]
   ·intro A' j u e;simp at e
   ·intro k' z' B'' e
    simp at e
    obtain⟨⟨rfl,rfl⟩,rfl⟩:=e
    simp[Lg.ah,Sl,xO]
   ·intro b b1 b2 b3
    have:b≠k:=b3 k z B' rfl
    simp[Lg.ah,b1,this]
   ·simp[Lg.ah,HQ,Ne.symm hki,hi,xO]
   ·intro b b1 b2
    have b3:b≠k:=by rintro rfl;exact b2 (by simp[zZ])
    simp[Lg.ah,b1,b3]
 ·simp only[List.concat_eq_append]at *
  have hsA:=(dV.append L1 A' [(j,u)] none _).1 fB.1
  have hj:L1 j=some (xO u (gK none A') (some i)):=hsA.2.1
  have Fh:j≠q:=by rintro rfl;exact h1 (by simp[zZ])
  have hji:j≠i:=fun e=>h2.2.2 j (by simp[zZ]) i (by simp) e
  have eI:gK none (A'++[(j,u)])=some j:=by simp[wN]
  have fR:hd (some i) (A'++[(j,u)])=hd (some j) A':=by simp[ww]
  rw[eI]at hi
  rw[fR]at cH
  cases B with
  | nil =>
   simp[aq,AB.read,zR,hi,hj,xO,cH,jy,mH,xj,Lg.ah,HQ,Ne.symm HQ,Fh,Ne.symm Fh,hji,Ne.symm hji,e1]
   refine⟨_,zx.refl _,?_,?_,?_⟩
   rw[←List.append_nil (A'++[(j,u)])]
   refine hq.dropped ?_ ?_ ?_ ?_
   ·have:hd none (A'++[(j,u)])=hd (some j) A':=by simp[ww]
    rw[hm];simp[this,eI]
   ·intro A'' j' u' e
    obtain⟨rfl,e2⟩:=List.append_inj' e rfl
    simp at e2
    obtain⟨rfl,rfl⟩:=e2
    simp[Lg.ah,Fh,xO]
   ·intro k z B' e;simp at e
   ·intro b b1 b2 b3
    have:b≠j:=b2 A' j u rfl
    simp[Lg.ah,b1,this]
   ·simp[Lg.ah,HQ,Ne.symm hji,hi,xO,eI]
   ·intro b b1 b2
    have b3:b≠j:=by rintro rfl;exact b2 (by simp[zZ])
    simp[Lg.ah,b1,b3]
  | cons x B' =>
   obtain⟨k,z⟩:=x
   have hk:L1 k=some (xO z (some i) (hd none B')):=fB.2.2.1
   have Sl:k≠q:=by rintro rfl;exact h1 (by simp[zZ])
   have hki:k≠i:=by rintro rfl;exact h3.1 (by simp[zZ])
   have hkj:k≠j:=fun e=>h2.2.2 j (by simp[zZ]) k (by simp[zZ]) e.symm
   simp[aq,AB.read,zR,hi,hj,hk,xO,cH,jy,mH,xj,Lg.ah,HQ,Ne.symm HQ,Fh,Ne.symm Fh,hji,Ne.symm hji,Sl,Ne.symm Sl,hki,Ne.symm hki,hkj,Ne.symm hkj,e1]
   refine⟨_,zx.refl _,?_,?_,?_⟩
   rw[show A'++(j,u)::(k,z)::B'=A'++[(j,u)]++(k,z)::B' by simp]
   refine hq.dropped ?_ ?_ ?_ ?_
   ·have:hd none (A'++[(j,u)]++(k,z)::B')=hd (some j) A':=by rw[ww,ww];simp
    have h9:gK none (A'++[(j,u)]++(k,z)::B')=gK (some k) B':=by rw[wN];simp
    rw[this,h9,←hm]
    simp[Lg.ah]
   ·intro A'' j' u' e
    obtain⟨rfl,e2⟩:=List.append_inj' e rfl
    simp at e2
    obtain⟨rfl,rfl⟩:=e2
    simp[Lg.ah,Fh,Ne.symm hkj,xO]
   ·intro k' z' B'' e
    simp at e
    obtain⟨⟨rfl,rfl⟩,rfl⟩:=e
    simp[Lg.ah,Sl,hkj,xO,eI]
   ·intro b b1 b2 b3
    have c1:b≠k:=b3 k z B' rfl
    have c2:b≠j:=b2 A' j u rfl
    simp[Lg.ah,b1,c1,c2]
   ·simp[Lg.ah,HQ,Ne.symm hji,Ne.symm hki,hi,xO,eI]
   ·intro b b1 b2
    have b3:b≠j:=by rintro rfl;exact b2 (by simp[zZ])
    have b4:b≠k:=by rintro rfl;exact b2 (by simp[zZ])
    simp[Lg.ah,b1,b3,b4]
theorem cC.other {l:List (Nat×Wt)}{L1:Lg}(h:cC L q l L1){L2:Lg}(h2:∀b c,L1 b=some c→L2 b=some c):cC L q l L2:=by
 refine⟨h.nd,h2 _ _ h.root,?_,fun b c hb hc=>h2 _ _ (h.old b c hb hc),h.new⟩
 have:∀{l:List (Nat×Wt)} {p n:Option Nat},dV L1 p l n→dV L2 p l n:=by
  intro l
  induction l with
  | nil=>intros;trivial
  | cons x r ih=>intro p n hs;exact⟨h2 _ _ hs.1,ih hs.2⟩
 exact this h.seg
theorem cC.put {l:List (Nat×Wt)}{L1:Lg}(h:cC L q l L1){rc:Nat}{c:LC}(h1:rc∉q::zZ l)(h2:L rc=none):cC L q l (L1.put rc c):=by
 have h3:∀b,b∈q::zZ l→(L1.put rc c) b=L1 b:=fun b hb=>zb _ _ _ (fun e=>h1 (e▸hb))
 refine⟨h.nd,?_,dV.congr (fun i hi=>h3 i (List.mem_cons_of_mem _ hi)) h.seg,?_,h.new⟩
 ·rw[h3 q (List.mem_cons_self ..)];exact h.root
 ·intro b d hb hd
  have:b≠rc:=by rintro rfl;rw[h2]at hd;cases hd
  rw[zb _ _ _ this]
  exact h.old b d hb hd
theorem cC.keeps {l:List (Nat×Wt)}{L1:Lg}(h:cC L q l L1){b:Nat}{c:LC}(hb:b≠q)(hc:L b=some c):L1 b=some c:=by
 by_cases hi:b∈zZ l
 ·rw[h.new b hi]at hc;cases hc
 ·exact h.old b c (by simp[hb,hi]) hc
def Xh (p:Wt→Bool):List Wt→Option (Wt×List Wt)
 | []=>none
 | w::r=>if p w=true then some (w,r)else (Xh p r).map fun x=>(x.1,w::x.2)
theorem Vi (p:Wt→Bool)(w:Wt)(B:List Wt):∀(A:List Wt),(∀x,x∈A→p x=false)→p w=true→Xh p (A++w::B)=some (w,A++B)
 | [],_,hw=>by simp[Xh,hw]
 | a::A,hA,hw=>by simp[Xh,hA a (by simp),Vi p w B A (fun x hx=>hA x (by simp[hx])) hw]
theorem Vj (p:Wt→Bool):∀(A:List Wt),(∀x,x∈A→p x=false)→Xh p A=none
 | [],_=>rfl
 | a::A,hA=>by simp[Xh,hA a (by simp),Vj p A (fun x hx=>hA x (by simp[hx]))]
theorem WP (h:LI F)(e:L q=some (.abs (xg q ws))){f:Nat}{fst cap:List AV}{p:Wt→Bool}
  (hso:∀(w:Wt) L',(∀b c,b≠q→L b=some c→L' b=some c)→zd F f (fst++w.av::cap) L' fun v Io=>v=.b (p w)∧Io=L') :
  zd F AZ [.p (some (q,0)),.fn f fst cap] L fun v L'=>match (generalizing:=false) Xh p ws with
   | none=>v=.ay [Wt.zero.av,.b false]∧L'=L
   | some (w,r)=>v=.ay [w.av,.b true]∧L'=L.put q (.abs (xg q r)):=by
 apply Z7 e
 intro l L1 h1 h2 hq hn
 apply zk1 h.code
 unfold Ei Eh Ef
 generalize hQ:(fun (v:AV) (L':Lg)=>match Xh p ws with
   | none=>v=AV.ay [Wt.zero.av,.b false]∧L'=L
   | some (w,r)=>v=AV.ay [w.av,.b true]∧L'=L.put q (.abs (xg q r)))=Q
 simp[zI]
 intro rc hrc
 have N7:rc≠q:=by rintro rfl;rw[hq.root]at hrc;cases hrc
 simp[Env.ah,aq,AB.read,zR,Lg.ah,Ne.symm N7,hq.root,Ee]
 have GQ:cC L q l (L1.put rc (.raw (.cells [.i .i64 0,.i .i64 0,.i .i64 0]))):=hq.other (fun b c hb=>by
  have:b≠rc:=by rintro rfl;rw[hrc]at hb;cases hb
  rw[zb _ _ _ this];exact hb)
 refine zN (fun n l' L'=>∃A B,l=A++B∧(∀x,x∈A→p x.2=false)∧n=B.length∧L'=L1.put rc (.raw (.cells [.i .i64 0,.i .i64 0,.i .i64 0]))∧l' 0=.p (some (q,0))∧l' 1=.fn f fst cap∧l' 4=.p (some (rc,0))∧l' 6=ptr (hd none B))
  l.length ⟨[],l,rfl,by simp,rfl,rfl,by simp[Env.ah],by simp[Env.ah],by simp[Env.ah],by simp[Env.ah]⟩ ?_
 rintro n l' t L' ⟨A,B,rfl,hA,hnB,rfl,l0,l1,l4,l6⟩
 unfold Ed
 rw[l0,l1,l4,l6]
 have h0:∀b c,b≠q→L b=some c→(L1.put rc (.raw (.cells [.i .i64 0,.i .i64 0,.i .i64 0]))) b=some c:=fun b c hb hc=>GQ.keeps hb hc
 cases B with
 | nil =>
  simp[Eg,zF,zu (ze _ _ _),zo,zX _ _ (ze _ _ _)]
  refine⟨L,?_,?_⟩
  ·have:=GQ.shut h2
   rwa [h1,ye L q _ e]at this
  ·subst hQ
   have:Xh p ws=none:=Vj p ws (by rw[←h1];intro x hx;simp at hx;obtain⟨a,hx⟩:=hx;exact hA _ hx)
   simp only[this]
   exact⟨rfl,trivial⟩
 | cons x B =>
  obtain⟨i,w⟩:=x
  have fB:=(dV.append _ A ((i,w)::B) none none).1 GQ.seg
  have hi:=fB.2.1
  simp[aq,AB.read,zR,hi,xO,cut,zp]
  refine (hso w _ h0).mono ?_
  rintro _ _ ⟨rfl,rfl⟩
  rw[xM]
  refine⟨fun hw=>?_,fun hw=>?_⟩
  ·refine (WR h.f11 GQ h2).mono ?_
   rintro _ L3 ⟨rfl,N8,h3i,h3o⟩
   have zpi:L3 rc=some (.raw (.cells [.i .i64 0,.i .i64 0,.i .i64 0])):=by
    rw[h3o rc,ze]
    intro hm
    rw[yq]at hm
    have:rc∈zZ (A++(i,w)::B):=by
     rw[yq,xl]
     simp at hm ⊢
     rcases hm with hm | hm | hm
     ·exact absurd hm N7
     ·exact .inl hm
     ·exact .inr (.inr hm)
    exact dV.some hq.seg rc this hrc
   simp[aq,AB.read,zR,h3i,xO,cut,zp,zu zpi,zo,zX _ _ (ze _ _ _)]
   have zpg:L rc=none:=by
    cases hL:L rc with
    | none=>rfl
    | some c=>rw[hq.keeps N7 hL]at hrc;cases hrc
   have zph:rc∉q::zZ (A++B):=by
    intro hm
    rcases List.mem_cons.1 hm with hm | hm
    ·exact N7 hm
    ·have h7:=dV.some N8.seg rc hm
     have:rc∈zZ (A++(i,w)::B):=by
      rw[yq]at hm
      rw[yq,xl]
      simp at hm ⊢
      rcases hm with hm | hm
      ·exact .inl hm
      ·exact .inr (.inr hm)
     exact dV.some hq.seg rc this hrc
   refine⟨_,(N8.put zph zpg).shut ?_,?_⟩
   ·simp at h2 ⊢;omega
   ·subst hQ
    have:Xh p ws=some (w,(A++B).map (·.2)):=by
     rw[←h1];simpa using Vi p w (B.map (·.2)) (A.map (·.2)) (by intro x hx;simp at hx;obtain⟨a,hx⟩:=hx;exact hA _ hx) hw
    simp only[this]
    exact⟨rfl,trivial⟩
  ·simp[aq,AB.read,zR,hi,xO]
   refine⟨B.length,by simp at hnB;omega,A++[(i,w)],B,by simp,?_,rfl,l0,l1,l4,rfl⟩
   intro a b hx
   rcases List.mem_append.1 hx with hx | hx
   ·exact hA _ hx
   ·simp at hx;obtain⟨_,rfl⟩:=hx;exact hw
theorem vE (h:E9 F)(e:L q=some (.abs (xg q ws))) :
  zd F fq [.p (some (q,0))] L fun v L'=>match (generalizing:=false) ws with
   | []=>v=.ay [Wt.zero.av,.b false]∧L'=L
   | w::r=>v=.ay [w.av,.b true]∧L'=L.put q (.abs (xg q r)):=by
 apply zkZ h.code
 unfold LK
 simp
 intro rc hrc
 have N7:rc≠q:=by rintro rfl;rw[e]at hrc;cases hrc
 have e2:(L.put rc (.raw (.cells [.i .i64 0,.i .i64 0,.i .i64 0]))) q=some (.abs (xg q ws)):=by rw[zb _ _ _ (Ne.symm N7)];exact e
 refine (WP h.f12 e2 (f:=N AY) (fst:=[]) (cap:=[]) (p:=fun _=>true) ?_).mono ?_
 ·intro w L' hL'
  apply zk0 h.f13.code
  simp[D9,Wt.av]
  rw[zL _ _ _ (by simp[Wt.cells])]
  intro b hb
  exact zx.drop fun c d hc=>by
   have:c≠b:=by rintro rfl;rw[hb]at hc;cases hc
   rw[zb _ _ _ this];exact hc
 ·intro v L' hv
  have hs1:zx (L.put rc (.raw (.cells [.i .i64 0,.i .i64 0,.i .i64 0]))) L:=zx.drop fun c d hc=>by
   have:c≠rc:=by rintro rfl;rw[hrc]at hc;cases hc
   rw[zb _ _ _ this];exact hc
  cases ws with
  | nil =>
   simp only[Xh]at hv
   obtain⟨rfl,rfl⟩:=hv
   simp[Wt.av,Wt.cells,Wt.zero,zu (ze _ _ _),zo,zX _ _ (ze _ _ _)]
   simpa using hs1
  | cons w r =>
   simp only[Xh,if_true]at hv
   obtain⟨rfl,rfl⟩:=hv
   have e3:((L.put rc (.raw (.cells [.i .i64 0,.i .i64 0,.i .i64 0]))).put q (.abs (xg q r))) rc=some (.raw (.cells [.i .i64 0,.i .i64 0,.i .i64 0])):=by
    rw[zb _ _ _ N7,ze]
   simp[Wt.av,Wt.cells,zu e3,zo,zX _ _ (ze _ _ _)]
   apply zx.drop
   intro c d hc
   have:c≠rc:=by
    rintro rfl
    rw[zb _ _ _ N7,hrc]at hc;cases hc
   rw[zb _ _ _ this,Lg.ah]
   rw[Lg.ah]at hc
   split
   ·rename_i h9;rw[if_pos h9]at hc;exact hc
   ·rename_i h9;rw[if_neg h9]at hc;rw[zb _ _ _ this];exact hc
def wc:List Wt→List AV
 | []=>[]
 | w::r=>w.cells++wc r
theorem Yd:∀(A B:List Wt),wc (A++B)=wc A++wc B
 | [],_=>rfl
 | w::A,B=>by simp[wc,Yd A B]
theorem cC.bW {l:List (Nat×Wt)}{L1:Lg}(h:cC L q l L1){b:Nat}{c:LC}{L2:Lg}(hb:L1 b=none)(h2:yu L1 L2)(h3:L2 b=some c):cC (L.put b c) q l L2:=by
 have hx:=h.other h2
 refine⟨hx.nd,hx.root,hx.seg,?_,?_⟩
 ·intro d e hd he
  rw[Lg.ah]at he
  split at he
  ·rename_i h4;subst h4;cases he;exact h3
  ·exact hx.old d e hd he
 ·intro d hd
  have:d≠b:=by rintro rfl;exact dV.some h.seg d hd hb
  rw[zb _ _ _ this]
  exact h.new d hd
theorem V8 (h:LG F)(e:L q=some (.abs (xg q ws))) :
  zd F AX [.p (some (q,0))] L fun v L'=>xC L v (wc ws) ws.length 3 L':=by
 apply Z7 e
 intro l L1 h1 h2 hq hn
 apply zkY h.code
 unfold D8 D7 D5
 generalize hQ:(fun (v:AV) (L':Lg)=>xC L v (wc ws) ws.length 3 L')=Q
 have hlen:l.length=ws.length:=by rw[←h1];simp
 simp[aq,AB.read,zR,hq.root,D4]
 refine zN (fun n l' L'=>∃A B v,l=A++B∧n=B.length∧yu L1 L'∧l' 2=v∧ZM L' v (wc (A.map (·.2))) A.length 3∧(∀b,au v=some b→L1 b=none)∧l' 3=ptr (hd none B))
  l.length ⟨[],l,_,rfl,rfl,yu.refl _,rfl,.inl ⟨rfl,rfl,by simp⟩,by simp[au],by simp⟩ ?_
 rintro n l' t L' ⟨A,B,v,rfl,hnB,fC,l2,hown,hfr,l3⟩
 unfold D3
 rw[l3,l2]
 cases B with
 | nil =>
  simp[D6]
  subst hQ
  simp only[List.append_nil]at h1 hlen hq
  rw[h1,hlen]at hown
  rcases hown with⟨h3,h4,rfl⟩ | ⟨b,h0,rfl,hL,hl⟩
  ·refine⟨L,?_,.inl ⟨h3,h4,rfl,rfl⟩⟩
   have:=(hq.other fC).shut (by simp at h2 ⊢;omega)
   rwa [h1,ye L q _ e]at this
  ·have bP:=hfr b rfl
   have Bs:q≠b:=by rintro rfl;rw[hq.root]at bP;cases bP
   have hLb:L b=none:=by
    cases Ju:L b with
    | none=>rfl
    | some c=>rw[hq.keeps (Ne.symm Bs) Ju]at bP;cases bP
   refine⟨L.put b (.raw (.cells (wc ws))),?_,.inr ⟨b,3,hLb,by omega,rfl,hl,rfl⟩⟩
   have:=(hq.bW bP fC hL).shut (by simp at h2 ⊢;omega)
   rwa [h1,ye _ q]at this
   rw[zb _ _ _ Bs];exact e
 | cons x B =>
  obtain⟨i,w⟩:=x
  have fB:=(dV.append _ A ((i,w)::B) none none).1 (hq.other fC).seg
  have hi:=fB.2.1
  simp[aq,AB.read,zR,hi,xO,cut,zp]
  rw[yg (c:=w.cells) _ _ (by simp[y7,zF,wa,zo,Wt.cells,zp,zq]) (by simp[Wt.cells])]
  intro b1 bP
  have LX:ZM (L'.put b1 (.raw (.cells w.cells))) v (wc (A.map (·.2))) A.length 3:=by
   rcases hown with h5 | ⟨b,h0,rfl,hL,hl⟩
   ·exact .inl h5
   ·refine .inr ⟨b,h0,rfl,?_,hl⟩
    have:b≠b1:=by rintro rfl;rw[hL]at bP;cases bP
    rw[zb _ _ _ this];exact hL
  simp
  refine ZM.app LX (by omega) rfl (m:=1) (new:=w.cells) (by omega) (by simp[zH,AB.read,cut,Wt.cells,zp]) rfl (by simp[Wt.cells]) (by simp at h2;omega) ?_
  intro b2 bT
  have zpR:b2≠b1:=by rintro rfl;simp at bT
  rw[zb _ _ _ zpR]at bT
  have Of:yu L1 (((L'.put b1 (.raw (.cells w.cells))).ij (au v)).put b2 (.raw (.cells (wc (A.map (·.2))++w.cells)))) :=
   ((fC.put (fC.none bP) _).ij hfr).put (fC.none bT) _
  have hi2:=((dV.append _ A ((i,w)::B) none none).1 (hq.other Of).seg).2.1
  simp[aq,AB.read,zR,hi2,xO]
  refine⟨B.length,by simp at hnB;omega,A++[(i,w)],B,by simp,rfl,Of,?_,?_,rfl⟩
  ·have:=ZM.IP (b:=b2) LX (new:=w.cells) (m:=1) (by omega) rfl
   simpa[Yd,wc]using this
  ·intro b hb;simp[au]at hb;subst hb;exact fC.none bT
end
end
section
variable {F:Nat→Option aT}
structure Ch where
 vals:List Int
 cap:Nat
 recvs:List Wt
 aF:List Wt
 bH:Bool
 signal:Bool
 closed:Bool
structure Wk where
 t:Int
 c:Int
 v:Int
 ok:Bool
 panic:Bool
 deriving DecidableEq
def Wk.cells (w:Wk):List AV:=[.i .i64 w.t,.i .i64 w.c,.i .i64 w.v,.b w.ok,.b w.panic]
def yr:List Wk→List AV
 | []=>[]
 | w::r=>w.cells++yr r
def vW (rg q1 q2:Nat)(x:Ch):LC:=.raw (.cells [.p (some (rg,0)),.p (some (q1,0)),.p (some (q2,0)),.b x.bH,.b x.signal,.b x.closed])
structure aV (L:Lg)(c:Nat)(x:Ch)(rg q1 q2:Nat)(L1:Lg):Prop where
 n1:rg≠c
 n2:q1≠c
 n3:q2≠c
 n4:rg≠q1
 n5:rg≠q2
 n6:q1≠q2
 root:L1 c=some (vW rg q1 q2 x)
 ring:L1 rg=some (.abs (Z3 rg x.vals x.cap))
 Am:L1 q1=some (.abs (xg q1 x.recvs))
 snd:L1 q2=some (.abs (xg q2 x.aF))
 old:∀b d,b≠c→b≠rg→b≠q1→b≠q2→L b=some d→L1 b=some d
 f1:L rg=none
 f2:L q1=none
 f3:L q2=none
def yy (c:Nat)(x:Ch)(h:Hp):Prop:=∃(rg q1 q2:Nat) (M:Lg),rg≠c∧q1≠c∧q2≠c∧rg≠q1∧rg≠q2∧q1≠q2∧M c=some (vW rg q1 q2 x)∧M rg=some (.abs (Z3 rg x.vals x.cap)) ∧
 M q1=some (.abs (xg q1 x.recvs))∧M q2=some (.abs (xg q2 x.aF))∧(∀b,b≠c→b≠rg→b≠q1→b≠q2→M b=none)∧Sat M h
section
variable {L L1:Lg} {c rg q1 q2:Nat} {x:Ch}
theorem aV.shut (h:aV L c x rg q1 q2 L1):zx L1 (L.put c (.abs (yy c x))):=by
 refine yZ (fun b=>b=c∨b=rg∨b=q1∨b=q2) (.inl rfl) ?_ ?_ (.inl ⟨_,h.root⟩) ?_
 ·intro b d hb hd
  simp only[not_or]at hb
  exact h.old b d hb.1 hb.2.1 hb.2.2.1 hb.2.2.2 hd
 ·rintro b (rfl | rfl | rfl | rfl) hb
  ·exact absurd rfl hb
  ·exact h.f1
  ·exact h.f2
  ·exact h.f3
 ·intro M hp hM hN hs
  refine⟨rg,q1,q2,M,h.n1,h.n2,h.n3,h.n4,h.n5,h.n6,?_,?_,?_,?_,?_,hs⟩
  ·rw[hM c (.inl rfl)];exact h.root
  ·rw[hM rg (.inr (.inl rfl))];exact h.ring
  ·rw[hM q1 (.inr (.inr (.inl rfl)))];exact h.Am
  ·rw[hM q2 (.inr (.inr (.inr rfl)))];exact h.snd
  ·intro b b1 b2 b3 b4;exact hN b (by simp[b1,b2,b3,b4])
theorem vR {f:Nat}{vs:List AV}{Q:AV→Lg→Prop}(e:L c=some (.abs (yy c x)))
  (h:∀rg q1 q2 L1,aV L c x rg q1 q2 L1→zd F f vs L1 Q):zd F f vs L Q:=by
 apply y3 e
 rintro hm ⟨rg,q1,q2,M,n1,n2,n3,n4,n5,n6,m1,m2,m3,m4,m5,hs⟩
 refine⟨M,hs,by rw[m1];simp,fun hf=>?_⟩
 have cA:∀b d,M b=some d→(M.ak L) b=some d:=fun b d hb=>by simp[Lg.ak,hb]
 exact h rg q1 q2 (M.ak L) ⟨n1,n2,n3,n4,n5,n6,cA _ _ m1,cA _ _ m2,cA _ _ m3,cA _ _ m4,
  fun b d b1 b2 b3 b4 hd=>by simp[Lg.ak,m5 b b1 b2 b3 b4,hd],hf _ _ m2 n1,hf _ _ m3 n2,hf _ _ m4 n3⟩
theorem aV.ext (h:aV L c x rg q1 q2 L1){L2:Lg}(h2:yu L1 L2):aV L c x rg q1 q2 L2 :=
 ⟨h.n1,h.n2,h.n3,h.n4,h.n5,h.n6,h2 _ _ h.root,h2 _ _ h.ring,h2 _ _ h.Am,h2 _ _ h.snd,fun b d b1 b2 b3 b4 hd=>h2 _ _ (h.old b d b1 b2 b3 b4 hd),h.f1,h.f2,h.f3⟩
theorem aV.GH (h:aV L c x rg q1 q2 L1)(ys:List Int):aV L c { x with vals:=ys } rg q1 q2 (L1.put rg (.abs (Z3 rg ys x.cap))) :=
 ⟨h.n1,h.n2,h.n3,h.n4,h.n5,h.n6,by rw[zb _ _ _ (Ne.symm h.n1)];exact h.root,ze _ _ _,by rw[zb _ _ _ (Ne.symm h.n4)];exact h.Am,by rw[zb _ _ _ (Ne.symm h.n5)];exact h.snd,
  fun b d b1 b2 b3 b4 hd=>by rw[zb _ _ _ b2];exact h.old b d b1 b2 b3 b4 hd,h.f1,h.f2,h.f3⟩
theorem aV.ob (h:aV L c x rg q1 q2 L1)(ws:List Wt):aV L c { x with recvs:=ws } rg q1 q2 (L1.put q1 (.abs (xg q1 ws))) :=
 ⟨h.n1,h.n2,h.n3,h.n4,h.n5,h.n6,by rw[zb _ _ _ (Ne.symm h.n2)];exact h.root,by rw[zb _ _ _ h.n4];exact h.ring,ze _ _ _,by rw[zb _ _ _ (Ne.symm h.n6)];exact h.snd,
  fun b d b1 b2 b3 b4 hd=>by rw[zb _ _ _ b3];exact h.old b d b1 b2 b3 b4 hd,h.f1,h.f2,h.f3⟩
theorem aV.Bj (h:aV L c x rg q1 q2 L1)(ws:List Wt):aV L c { x with aF:=ws } rg q1 q2 (L1.put q2 (.abs (xg q2 ws))) :=
 ⟨h.n1,h.n2,h.n3,h.n4,h.n5,h.n6,by rw[zb _ _ _ (Ne.symm h.n3)];exact h.root,by rw[zb _ _ _ h.n5];exact h.ring,by rw[zb _ _ _ h.n6];exact h.Am,ze _ _ _,
  fun b d b1 b2 b3 b4 hd=>by rw[zb _ _ _ b4];exact h.old b d b1 b2 b3 b4 hd,h.f1,h.f2,h.f3⟩
theorem aV.GG (h:aV L c x rg q1 q2 L1)(a b d:Bool):aV L c { x with bH:=a,signal:=b,closed:=d } rg q1 q2 (L1.put c (vW rg q1 q2 { x with bH:=a,signal:=b,closed:=d })) :=
 ⟨h.n1,h.n2,h.n3,h.n4,h.n5,h.n6,ze _ _ _,by rw[zb _ _ _ h.n1];exact h.ring,by rw[zb _ _ _ h.n2];exact h.Am,by rw[zb _ _ _ h.n3];exact h.snd,
  fun b d b1 b2 b3 b4 hd=>by rw[zb _ _ _ b1];exact h.old b d b1 b2 b3 b4 hd,h.f1,h.f2,h.f3⟩
theorem aV.back (h:aV L c x rg q1 q2 L1)(e:L c=some (.abs (yy c x))):zx L1 L:=by
 have:=h.shut
 rwa [ye L c _ e]at this
theorem aV.bW (h:aV L c x rg q1 q2 L1){b:Nat}{d:LC}(hb:L1 b=none):aV (L.put b d) c x rg q1 q2 (L1.put b d):=by
 have e:=h.ext ((yu.refl L1).put hb d)
 have nb:∀{r:Nat} {k:LC},L1 r=some k→r≠b:=fun hr hrb=>by rw[hrb,hb]at hr;cases hr
 refine⟨h.n1,h.n2,h.n3,h.n4,h.n5,h.n6,e.root,e.ring,e.Am,e.snd,?_,?_,?_,?_⟩
 ·intro r k b1 b2 b3 b4 hk
  rw[Lg.ah]at hk ⊢
  split
  ·rename_i h9;rw[if_pos h9]at hk;exact hk
  ·rename_i h9;rw[if_neg h9]at hk;exact h.old r k b1 b2 b3 b4 hk
 ·rw[zb _ _ _ (nb h.ring)];exact h.f1
 ·rw[zb _ _ _ (nb h.Am)];exact h.f2
 ·rw[zb _ _ _ (nb h.snd)];exact h.f3
theorem aV.none (h:aV L c x rg q1 q2 L1){b:Nat}(hb:L1 b=none):b≠c∧L b=none:=by
 have nb:∀{r:Nat} {k:LC},L1 r=some k→b≠r:=fun hr hrb=>by rw[←hrb,hb]at hr;cases hr
 refine⟨nb h.root,?_⟩
 cases e:L b with
 | none=>rfl
 | some d=>rw[h.old b d (nb h.root) (nb h.ring) (nb h.Am) (nb h.snd) e]at hb;cases hb
theorem zeU (hf:Lk F)(h:aV L c x rg q1 q2 L1):zd F AE [.p (some (c,0))] L1 fun v L'=>v=.b (x.bH||x.signal)∧L'=L1:=by
 apply zkx hf.code
 cases h1:x.bH<;>simp[C6,aq,AB.read,zR,h.root,vW,h1]
theorem zfd (hf:Lj F)(h:aV L c x rg q1 q2 L1)(send:Bool):zd F oE [.p (some (c,0)),.b send] L1 fun v L'=>v=.b (if send=true then decide (x.vals.length<x.cap)else decide (0<x.vals.length))∧L'=L1:=by
 apply zkw hf.code
 cases send
 ·simp[nF,aq,AB.read,zR,h.root,vW]
  refine (Y3 hf.f6 h.ring).mono ?_
  rintro _ _ ⟨rfl,rfl⟩
  simp
 ·simp[nF,aq,AB.read,zR,h.root,vW]
  refine (Y3 hf.f6 h.ring).mono ?_
  rintro _ _ ⟨rfl,rfl⟩
  simp[aq,AB.read,zR,h.root,vW]
  refine (V3 hf.f7 h.ring).mono ?_
  rintro _ _ ⟨rfl,rfl⟩
  simp[yb,yC,XT,aq,AB.read,zR,h.root,vW,ve,Yg]
theorem Vr (hf:He F)(h:aV L c x rg q1 q2 L1)(send:Bool):zd F iJ [.p (some (c,0)),.b send] L1 fun v L'=>v=.p (some (if send=true then q2 else q1,0))∧L'=L1:=by
 apply zkv hf.code
 cases send<;>simp[C5,aq,AB.read,zR,h.root,vW]
def Ch.wait (x:Ch)(send:Bool):List Wt:=if send=true then x.aF else x.recvs
def Ch.mute (x:Ch):Bool:=x.bH||x.signal
def Ch.free (x:Ch)(send:Bool):Bool:=if send=true then decide (x.vals.length<x.cap)else decide (0<x.vals.length)
theorem UQ (hf:KN F)(h:aV L c x rg q1 q2 L1)(send:Bool):zd F oz [.p (some (c,0)),.b send] L1 fun v L'=>xC L1 v (wc (x.wait send)) (x.wait send).length 3 L':=by
 apply zke hf.code
 unfold B9
 refine (Vr hf.f58 h send).mono ?_
 rintro _ L1 ⟨rfl,rfl⟩
 have e:L1 (if send=true then q2 else q1)=some (.abs (xg (if send=true then q2 else q1) (x.wait send))):=by
  cases send
  ·exact h.Am
  ·exact h.snd
 refine (V8 hf.f15 e).mono ?_
 intro v L' hv
 simp
 exact⟨L',zx.refl _,hv⟩
theorem zfA (hf:EW F)(e:L c=some (.abs (yy c x))):zd F mL [.p (some (c,0))] L fun v L' =>
  if x.bH=true then v=.b (decide (0<x.vals.length))∧L'=L.put c (.abs (yy c { x with vals:=[] }))else v=.b false∧L'=L:=by
 apply vR e
 intro rg q1 q2 L1 h
 apply NT hf.code
 unfold nH
 cases ht:x.bH
 ·simpa[aq,AB.read,zR,h.root,vW,ht]using h.back e
 ·simp[aq,AB.read,zR,h.root,vW,ht]
  refine (WM hf.f8 h.ring).mono ?_
  rintro _ L2 ⟨rfl,rfl⟩
  simpa[ht]using (h.GH []).shut
theorem zax (hf:EW F):zd F mL [.p none] L fun v L'=>v=.b false∧L'=L:=by
 apply NT hf.code
 simp[nH]
theorem za8 (hf:EX F)(v:Int):zd F mM [.p none,.i .i64 v] L fun v L'=>v=.ay [.sl none 0 0 0,.b false]∧L'=L:=by
 apply NW hf.code
 simp[nN]
theorem zaC (hf:Lm F)(h:aV L c x rg q1 q2 L1)(v:Int):zd F AF [.p (some (c,0)),.i .i64 v] L1 fun r L'=>match (generalizing:=false) x.recvs with
  | []=>r=.sl none 0 0 0∧L'=L1
  | w::ws=>xC (L1.put q1 (.abs (xg q1 ws))) r (yr [⟨w.t,w.c,v,true,false⟩]) 1 5 L':=by
 apply zky hf.code
 unfold C8
 simp[aq,AB.read,zR,h.root,vW]
 refine (vE hf.f14 h.Am).mono ?_
 intro r L' hr
 cases hx:x.recvs with
 | nil =>
  simp only[hx]at hr
  obtain⟨rfl,rfl⟩:=hr
  simp[Wt.av]
  intro b hb
  rw[zu (ze _ _ _) (by simp[Wt.cells]) (by simp[Wt.cells]) (by simp)]
  simp
  exact ((yu.refl L').put hb _).cj
 | cons w ws =>
  simp only[hx]at hr
  obtain⟨rfl,rfl⟩:=hr
  simp[Wt.av]
  intro b hb
  rw[zu (ze _ _ _) (by simp[Wt.cells]) (by simp[Wt.cells]) (by simp),zA]
  simp[Wt.cells,zo,aq,AB.read,zR,zF,zq,zp]
  rw[yg (c:=[.i .i64 w.t,.i .i64 w.c,.i .i64 v,.b true,.b false]) _ _ (by simp[y7,zF,wa,zo,zp,zq]) (by simp)]
  intro d hd
  have hdb:d≠b:=by rintro rfl;simp at hd
  rw[zb _ _ _ hdb]at hd
  refine⟨(L1.put q1 (.abs (xg q1 ws))).put d (.raw (.cells [.i .i64 w.t,.i .i64 w.c,.i .i64 v,.b true,.b false])),?_,.inr ⟨d,0,hd,by omega,rfl,rfl,by simp[yr,Wk.cells]⟩⟩
  rw[yJ _ (Ne.symm hdb)]
  apply yu.cj
  refine (yu.refl _).put ?_ _
  rw[zb _ _ _ (Ne.symm hdb)];exact hb
def Ch.put (x:Ch)(v:Int):Ch×List Wk×Bool :=
 if x.bH=true then match x.recvs with
  | w::ws=>({ x with recvs:=ws },[⟨w.t,w.c,v,true,false⟩],true)
  | []=>if x.vals.length=x.cap then (x,[],false)else ({ x with vals:=x.vals++[v] },[],true)
 else (x,[],false)
theorem zgn (hf:EX F)(e:L c=some (.abs (yy c x)))(v:Int):zd F mM [.p (some (c,0)),.i .i64 v] L fun r L'=>∃s,r=.ay [s,.b (x.put v).2.2] ∧
  xC (L.put c (.abs (yy c (x.put v).1))) s (yr (x.put v).2.1) (x.put v).2.1.length 5 L':=by
 apply vR e
 intro rg q1 q2 L1 h
 apply NW hf.code
 unfold nN
 cases ht:x.bH
 ·simp[aq,AB.read,zR,h.root,vW,ht,Ch.put]
  exact⟨L,h.back e,.inl ⟨rfl,rfl,rfl,by simp[e]⟩⟩
 ·simp[aq,AB.read,zR,h.root,vW,ht]
  refine (zaC hf.f46 h v).mono ?_
  intro r L' hr
  cases hx:x.recvs with
  | nil =>
   simp only[hx]at hr
   obtain⟨rfl,rfl⟩:=hr
   simp[aq,AB.read,zR,h.root,vW]
   refine (V4 hf.f4 h.ring v).mono ?_
   intro r L2 hr
   by_cases hc:x.vals.length=x.cap
   ·simp only[hc,if_true]at hr
    obtain⟨rfl,rfl⟩:=hr
    simp[Ch.put,ht,hx,hc]
    exact⟨L,h.back e,.inl ⟨rfl,rfl,rfl,by simp[e]⟩⟩
   ·simp only[hc,if_false]at hr
    obtain⟨rfl,rfl⟩:=hr
    simp[Ch.put,ht,hx,hc]
    exact⟨_,(h.GH (x.vals++[v])).shut,.inl ⟨rfl,rfl,rfl,by simp[ht,hx]⟩⟩
  | cons w ws =>
   simp only[hx]at hr
   rcases hr with⟨h1,_⟩ | ⟨b,ex,hb,h0,rfl,h2,rfl⟩
   ·cases h1
   ·simp[Ch.put,ht,hx]
    have h3:=h.ob ws
    have hn:=h3.none hb
    refine⟨_,(h3.bW hb).shut,.inr ⟨b,ex,?_,by omega,rfl,rfl,?_⟩⟩
    ·rw[zb _ _ _ hn.1];exact hn.2
    ·rw[yJ _ hn.1];simp[ht]
theorem zb7 (a b c:AV)(w:Wt):zo [a,b,c] 0 w.cells=w.cells:=by simp[zo,Wt.cells]
theorem zaF (hf:Lx F)(n:Nat)(hn:n≤64):zd F AS [.i .i64 n] L fun r L'=>∃c rg q1 q2,L c=none∧r=.ay [.p (some (c,0)),.i .i64 0]∧aV L c ⟨[],n,[],[],false,false,false⟩ rg q1 q2 L':=by
 apply zkS hf.code
 unfold DU
 refine (U5 hf.f9 n hn).mono ?_
 rintro _ _ ⟨rg,hrg,rfl,rfl⟩
 simp
 refine (Yk hf.f18).mono ?_
 rintro _ _ ⟨q1,h1,rfl,rfl⟩
 refine (Yk hf.f18).mono ?_
 rintro _ _ ⟨q2,h2,rfl,rfl⟩
 have n1:q1≠rg:=by rintro rfl;simp at h1
 have n2:q2≠q1:=by rintro rfl;simp at h2
 have n3:q2≠rg:=by rintro rfl;rw[zb _ _ _ n2,ze]at h2;cases h2
 rw[zb _ _ _ n1]at h1
 rw[zb _ _ _ n2,zb _ _ _ n3]at h2
 simp[zF,zo,zp,zq]
 rw[zL _ _ _ (by simp)]
 intro c hc
 have n4:c≠q2:=by rintro rfl;simp at hc
 have n5:c≠q1:=by rintro rfl;simp[Lg.ah,Ne.symm n2]at hc
 have n6:c≠rg:=by rintro rfl;simp[Lg.ah,Ne.symm n1,Ne.symm n3]at hc
 rw[zb _ _ _ n4,zb _ _ _ n5,zb _ _ _ n6]at hc
 refine⟨_,zx.refl _,c,rg,q1,q2,hc,rfl,Ne.symm n6,Ne.symm n5,Ne.symm n4,Ne.symm n1,Ne.symm n3,Ne.symm n2,ze _ _ _,?_,?_,?_,?_,hrg,h1,h2⟩
 ·simp[Lg.ah,Ne.symm n6,Ne.symm n1,Ne.symm n3]
 ·simp[Lg.ah,Ne.symm n5,Ne.symm n2]
 ·simp[Lg.ah,Ne.symm n4]
 ·intro b d b1 b2 b3 b4 hd;simp[Lg.ah,b1,b2,b3,b4,hd]
theorem UO:∀(ws:List Wt) (i:Nat) (w:Wt),ws[i]?=some w→((wc ws).drop (i * 3)).take 3=w.cells∧i * 3+3≤(wc ws).length
 | [],i,w,h=>by simp at h
 | a::r,0,w,h=>by simp at h;subst h;simp[wc,Wt.cells]
 | a::r,i+1,w,h=>by
  have:=UO r i w (by simpa using h)
  have e:(i+1) * 3=i * 3+1+1+1:=by omega
  rw[e]
  simp only[wc,Wt.cells,List.cons_append,List.nil_append,List.drop_succ_cons,List.length_cons]
  exact⟨this.1,by omega⟩
def SlW (L:Lg)(s:AV)(ws:List Wt):Prop:=(ws=[]∧s=.sl none 0 0 0)∨∃b ex,s=.sl (some (b,0)) ws.length ws.length ex∧L b=some (.raw (.cells (wc ws)))
theorem WZ (hf:KM F){s:AV}{ws:List Wt}(hs:SlW L s ws)(hl:ws.length≤1000000){f:Nat}{fst cap:List AV}{p:Wt→Bool}
  (hso:∀w:Wt,zd F f (fst++w.av::cap) L fun v L'=>v=.b (p w)∧L'=L):zd F oy [s,.fn f fst cap] L fun v L'=>v=.b (ws.any p)∧L'=L:=by
 apply zkc hf.code
 unfold B3
 have key:zd F An [s,.fn f fst cap] L fun v L'=>(∃i:Int,v=.i .i64 i∧(decide (0≤i)=ws.any p))∧L'=L:=by
  apply zkd hf.f96.code
  unfold B8 B6
  obtain⟨a,cp,ex,En⟩:∃a cp ex,s=.sl a ws.length cp ex:=by
   rcases hs with⟨rfl,rfl⟩ | ⟨b,ex,rfl,_⟩
   ·exact⟨none,0,0,rfl⟩
   ·exact⟨_,_,_,rfl⟩
  simp[En,B5]
  refine zN (fun n l' L'=>∃i:Nat,i≤ws.length∧n=ws.length-i∧(∀x,x∈ws.take i→p x=false)∧L'=L∧l' 0=s∧l' 1=.fn f fst cap∧l' 7=.i .i64 ws.length∧l' 8=.i .i64 i)
   ws.length ⟨0,by omega,by omega,by simp,rfl,by simp[En],by simp,by simp,by simp⟩ ?_
  rintro n l' t L' ⟨i,hi,hn,hA,rfl,l0,l1,l7,l8⟩
  unfold B4
  rw[l0,l1,l7,l8]
  by_cases hlt:i<ws.length
  ·have hne:ws≠[]:=by rintro rfl;simp at hlt
   rcases hs with⟨h1,_⟩ | ⟨b,ex,rfl,hL⟩
   ·exact absurd h1 hne
   have hw:ws[i]?=some ws[i]:=List.getElem?_eq_getElem hlt
   have iD:=UO ws i _ hw
   have e1:((i:Int)<(ws.length:Int)):=by omega
   simp[hlt,yn _ _ _ 3 b 0 ws.length ws.length ex .i64 (i:Int) (Int.natCast_nonneg _) e1,aq,AB.read,zR,hL,cut,zp,iD.2,iD.1]
   refine (hso ws[i]).mono ?_
   rintro _ L2 ⟨rfl,rfl⟩
   rw[xM]
   refine⟨fun hp=>?_,fun hp=>?_⟩
   ·simp
    have:ws.any p=true:=List.any_eq_true.2 ⟨ws[i],List.getElem_mem _,hp⟩
    simpa using this
   ·have e2:wr .i64 ((i:Int)+1)=((i+1:Nat):Int):=by rw[zT (by omega) (by omega)];omega
    simp
    refine⟨ws.length-(i+1),by omega,i+1,by omega,rfl,?_,l0,l1,l7,e2⟩
    intro x hx
    rw[List.take_add_one,hw]at hx
    rcases List.mem_append.1 hx with hx | hx
    ·exact hA x hx
    ·simp at hx;rw[hx];exact hp
  ·have e1:¬((i:Int)<(ws.length:Int)):=by omega
   have e2:i=ws.length:=by omega
   simp[hlt,B7]
   rw[e2,List.take_length]at hA
   simpa using hA
 refine key.mono ?_
 rintro _ _ ⟨⟨i,rfl,hi⟩,rfl⟩
 simp[←hi]
theorem xC.slW {v:AV}{ws:List Wt}{L':Lg}(h:xC L v (wc ws) ws.length 3 L'):SlW L' v ws:=by
 rcases h with⟨h1,h2,rfl,rfl⟩ | ⟨b,ex,h1,h2,rfl,h3,rfl⟩
 ·exact .inl ⟨List.length_eq_zero_iff.1 h1,rfl⟩
 ·exact .inr ⟨b,ex,rfl,ze _ _ _⟩
theorem xC.ext {v:AV}{cs:List AV}{n size:Nat}{L':Lg}(h:xC L v cs n size L'):yu L L':=by
 rcases h with⟨h1,h2,rfl,rfl⟩ | ⟨b,ex,h1,h2,rfl,h3,rfl⟩
 ·exact yu.refl _
 ·exact (yu.refl _).put h1 _
def Ch.waits (x:Ch)(w:Wt)(send:Bool):Ch×Int :=
 if (x.mute&&send)=true then (x,7)else if x.closed=true then (x,5)
 else if (x.free send||(x.wait (!send)).any fun y=>!decide (y.t=w.t))=true then (x,1)
 else (if send=true then { x with aF:=x.aF++[w] }else { x with recvs:=x.recvs++[w] },0)
theorem UR (hf:A8 F){K:Lg}(h1:aV L c x rg q1 q2 K)(w:Wt)(send:Bool)(eI:(x.wait send).length<1000000)(FM:(x.wait (!send)).length≤1000000){b0:Nat}(hb0:K b0=some (.raw (.cells w.cells)))
  (bP:b0≠c∧b0≠rg∧b0≠q1∧b0≠q2) (hm:(x.mute&&send)=false) {Q:AV→Lg→Prop}
  (fin:∀(y:Ch) (k:Int) {K:Lg},x.waits w send=(y,k)→zx K (L.put c (.abs (yy c y)))→zm (some (.i .i64 k)) Q K) (e:L c=some (.abs (yy c x))) :
 za F .aa [.p (some (c,0))] K fun v6 L6 =>
 za F (.aj 5) [v6] L6 fun v7 L7 =>
 za F (.ld none) [v7] L7 fun v8 L8 =>
 zn v8
 (zm (some (.i .i64 5)) Q L8)
 (za F (.HD oA 0) [.p (some (b0,0))] L8 fun v9 L9 =>
 zd F oE [.p (some (c,0)),.b send] L9 fun v10 dG =>
 zi F v10 false .mv [.p (some (c,0))] dG fun v11 gz =>
 zi F v10 false .mv [.b send] gz fun v12 iV =>
 zi F v10 false (.un .not) [v12] iV fun v13 iU =>
 zi F v10 false (.call oz) [v11,v13] iU fun v14 jx =>
 zi F v10 false .mv [v9] jx fun v15 A7 =>
 zi F v10 false (.call oy) [v14,v15] A7 fun v16 Aj =>
 za F .pick [v10,(.b true),v16] Aj fun Ml ku =>
 zn Ml
 (zm (some (.i .i64 1)) Q ku)
 (zd F iJ [.p (some (c,0)),.b send] ku fun nY iu =>
 za F (.ld (some 3)) [.p (some (b0,0))] iu fun Ib ir =>
 zd F mR [nY,Ib] ir fun v20 ni =>
 (yb (.ld (some 3)) [.p (some (b0,0))] iu ku∧True)∧(zm (some (.i .i64 0)) Q ni))):=by
 have same:∀{K:Lg} (h1:aV L c x rg q1 q2 K) (k:Int),x.waits w send=(x,k)→zm (some (.i .i64 k)) Q K:=by
  intro K h1 k hk
  refine fin x k hk ?_
  rw[ye L c _ e]
  exact h1.back e
 simp[aq,AB.read,zR,h1.root,vW]
 cases hc:x.closed
 ·simp
  refine (zfd hf.f57 h1 send).mono ?_
  rintro _ K ⟨rfl,rfl⟩
  have hfr:(if send=true then decide (x.vals.length<x.cap)else decide (0<x.vals.length))=x.free send:=rfl
  rw[hfr]
  have push:∀{K:Lg} (h1:aV L c x rg q1 q2 K),K b0=some (.raw (.cells w.cells))→(x.free send||(x.wait (!send)).any fun y=>!decide (y.t=w.t))=false →
    zd F iJ [.p (some (c,0)),.b send] K fun nY iu=>za F (.ld (some 3)) [.p (some (b0,0))] iu fun Ib ir=>zd F mR [nY,Ib] ir fun v20 ni =>
     (yb (.ld (some 3)) [.p (some (b0,0))] iu K∧True)∧(zm (some (.i .i64 0)) Q ni):=by
   intro K h1 hb0 hn
   refine (Vr hf.f58 h1 send).mono ?_
   rintro _ K ⟨rfl,rfl⟩
   have e4:K (if send=true then q2 else q1)=some (.abs (xg (if send=true then q2 else q1) (x.wait send))):=by
    cases send
    ·exact h1.Am
    ·exact h1.snd
   simp[yc hb0 (show 0+3≤w.cells.length by simp[Wt.cells])]
   refine (WQ hf.f16 e4 w eI).mono ?_
   rintro _ K2 ⟨rfl,rfl⟩
   refine⟨⟨?_,trivial⟩,?_⟩
   ·simp[yb,yC,XT,yc hb0 (show 0+3≤w.cells.length by simp[Wt.cells]),ve,Qe,Yg,Wt.cells,wE,eP]
   ·cases send
    ·exact fin { x with recvs:=x.recvs++[w] } 0 (by simp only[Ch.waits,hm,hc,hn];simp) (h1.ob (x.recvs++[w])).shut
    ·exact fin { x with aF:=x.aF++[w] } 0 (by simp only[Ch.waits,hm,hc,hn];simp) (h1.Bj (x.aF++[w])).shut
  cases hfree:x.free send
  ·simp
   refine (UQ hf.f95 h1 (!send)).mono ?_
   intro v14 jx hv
   have h2:=h1.ext hv.ext
   have bT:=hv.ext b0 _ hb0
   simp
   refine (WZ hf.f97 hv.slW FM (f:=N oA) (fst:=[]) (cap:=[.p (some (b0,0))]) (p:=fun y=>!decide (y.t=w.t)) ?_).mono ?_
   ·intro y
    apply zkf hf.f94.code
    unfold Ca Wt.av
    simp
    rw[zL _ _ _ (by simp[Wt.cells])]
    intro b hb
    have G1:b0≠b:=by rintro rfl;rw[hb]at bT;cases bT
    simp[aq,AB.read,zR,Lg.ah,G1,bT,Wt.cells]
    exact ((yu.refl _).put hb _).cj
   ·rintro _ K2 ⟨rfl,rfl⟩
    simp
    rw[xM]
    refine⟨fun ha=>?_,fun ha=>?_⟩
    ·exact same h2 1 (by simp only[Ch.waits,hm,hc,hfree,ha,Bool.false_or,if_true,Bool.false_eq_true,if_false])
    ·exact push h2 bT (by rw[hfree,ha];rfl)
  ·simp
   exact same h1 1 (by simp only[Ch.waits,hm,hc,hfree];simp)
 ·simp
  exact same h1 5 (by simp only[Ch.waits,hm,hc];simp)
theorem zd9 (hf:A8 F)(e:L c=some (.abs (yy c x)))(w:Wt)(send:Bool)(eI:(x.wait send).length<1000000)(FM:(x.wait (!send)).length≤1000000) :
  zd F ox [.p (some (c,0)),w.av,.b send] L fun v L'=>v=.i .i64 (x.waits w send).2∧L'=L.put c (.abs (yy c (x.waits w send).1)):=by
 apply vR e
 intro rg q1 q2 L1 h
 apply NN hf.code
 unfold Hq Wt.av
 generalize hQ:(fun (v:AV) (L':Lg)=>v=.i .i64 (x.waits w send).2∧L'=L.put c (.abs (yy c (x.waits w send).1)))=Q
 simp
 rw[zL _ _ _ (by simp[Wt.cells])]
 intro b0 hb0
 have h1:=h.ext ((yu.refl _).put hb0 (.raw (.cells w.cells)))
 simp
 refine (zeU hf.f56 h1).mono ?_
 rintro _ K ⟨rfl,rfl⟩
 have zoS:(x.bH||x.signal)=x.mute:=rfl
 rw[zoS]
 have eW:=h1.back e
 have fin:∀(y:Ch) (k:Int) {K:Lg},x.waits w send=(y,k)→zx K (L.put c (.abs (yy c y)))→zm (some (.i .i64 k)) Q K:=by
  intro y k K hy hs
  subst hQ
  refine⟨_,hs,?_⟩
  simp only[hy]
  exact⟨trivial,trivial⟩
 have same:∀(k:Int),x.waits w send=(x,k)→zm (some (.i .i64 k)) Q (L1.put b0 (.raw (.cells w.cells))):=by
  intro k hk
  refine fin x k hk ?_
  rw[ye L c _ e]
  exact eW
 have bT:b0≠c∧b0≠rg∧b0≠q1∧b0≠q2:=by
  refine⟨?_,?_,?_,?_⟩<;>rintro rfl
  ·rw[h.root]at hb0;cases hb0
  ·rw[h.ring]at hb0;cases hb0
  ·rw[h.Am]at hb0;cases hb0
  ·rw[h.snd]at hb0;cases hb0
 cases hmm:x.mute
 ·simp
  exact UR hf h1 w send eI FM (ze _ _ _) bT (by rw[hmm];rfl) fin e
 ·cases send
  ·simp
   exact UR hf h1 w false eI FM (ze _ _ _) bT (by rw[hmm];rfl) fin e
  ·simp
   exact same 7 (by simp[Ch.waits,hmm])
end
end
section
def enc (ks:List (Int×Int)):List (AV×AV):=ks.map fun x=>(.i .i64 x.1,.i .i64 x.2)
def Zj (k:Int):List (Int×Int)→Option Int
 | []=>none
 | (a,v)::r=>if a=k then some v else Zj k r
def NF (k v:Int):List (Int×Int)→List (Int×Int)
 | []=>[(k,v)]
 | (a,u)::r=>if a=k then (a,v)::r else (a,u)::NF k v r
def Nx (k:Int):List (Int×Int)→List (Int×Int)
 | []=>[]
 | (a,u)::r=>if a=k then r else (a,u)::Nx k r
theorem zdq (k a v:Int)(r:List (Int×Int)):Zj k ((a,v)::r)=if a=k then some v else Zj k r:=rfl
theorem XL (k v a u:Int)(r:List (Int×Int)):NF k v ((a,u)::r)=if a=k then (a,v)::r else (a,u)::NF k v r:=rfl
theorem Wr (k a u:Int)(r:List (Int×Int)):Nx k ((a,u)::r)=if a=k then r else (a,u)::Nx k r:=rfl
theorem zh6:eP .i64 .i64=true:=rfl
theorem X9 (a b:Int):Ez a b=decide (a=b):=by rw[wE,Ww]
theorem zah (k:Int):∀ks,Ui .i64 k (enc ks)=some ((Zj k ks).map (.i .i64 ·))
 | []=>rfl
 | (a,v)::r=>by
  show (bif eP .i64 .i64 then (bif Ez k a then some (some (AV.i .i64 v))else Ui .i64 k (enc r))else none)=_
  rw[zh6,cond_true,zah k r,X9]
  rw[zdq]
  by_cases h:a=k
  ·simp[h]
  ·simp[h,Ne.symm h]
theorem zag (k v:Int):∀ks,WS .i64 k (.i .i64 v) (enc ks)=some (enc (NF k v ks))
 | []=>rfl
 | (a,u)::r=>by
  show (bif eP .i64 .i64 then (bif Ez k a then some ((AV.i .i64 a,AV.i .i64 v)::enc r)else (WS .i64 k (.i .i64 v) (enc r)).map ((AV.i .i64 a,AV.i .i64 u)::·))else none)=_
  rw[zh6,cond_true,zag k v r,X9]
  rw[XL]
  by_cases h:a=k
  ·simp[h,enc]
  ·simp[h,Ne.symm h,enc]
theorem zaj (k:Int):∀ks,WT .i64 k (enc ks)=some (enc (Nx k ks))
 | []=>rfl
 | (a,u)::r=>by
  show (bif eP .i64 .i64 then (bif Ez k a then some (enc r)else (WT .i64 k (enc r)).map ((AV.i .i64 a,AV.i .i64 u)::·))else none)=_
  rw[zh6,cond_true,zaj k r,X9]
  rw[Wr]
  by_cases h:a=k
  ·simp[h]
  ·simp[h,Ne.symm h,enc]
theorem Vy (k v j:Int):∀ks,Zj j (NF k v ks)=if k=j then some v else Zj j ks
 | []=>by simp[NF,Zj]
 | (a,u)::r=>by
  rw[XL]
  by_cases h:a=k
  ·subst h;by_cases h2:a=j<;>simp[Zj,h2]
  ·simp only[h,if_false,Zj,Vy k v j r]
   by_cases h2:a=j
   ·subst h2;simp[Ne.symm h]
   ·simp[h2]
theorem Vz (j:Int):∀(ks:List (Int×Int)),j∉ks.map (·.1)→Zj j ks=none
 | [],_=>rfl
 | (a,u)::r,h=>by
  simp at h
  simp[Zj,Ne.symm h.1,Vz j r (by simpa using h.2)]
theorem U2 (k v:Int):∀(ks:List (Int×Int)),(NF k v ks).map (·.1)=if k∈ks.map (·.1)then ks.map (·.1)else ks.map (·.1)++[k]
 | []=>rfl
 | (a,u)::r=>by
  rw[XL]
  by_cases h:a=k
  ·simp[h]
  ·simp only[h,if_false,List.map_cons,U2 k v r,List.mem_cons,Ne.symm h,false_or]
   split<;>simp
theorem zcQ (k:Int):∀(ks:List (Int×Int)),(Nx k ks).map (·.1) |>.Sublist (ks.map (·.1))
 | []=>List.Sublist.refl _
 | (a,u)::r=>by
  rw[Wr]
  by_cases h:a=k
  ·simp[h]
  ·simp only[h,if_false,List.map_cons];exact (zcQ k r).cons_cons _
theorem VA (k j:Int):∀(ks:List (Int×Int)),(ks.map (·.1)).Nodup→Zj j (Nx k ks)=if k=j then none else Zj j ks
 | [],_=>by simp[Nx,Zj]
 | (a,u)::r,h=>by
  simp only[List.map_cons,List.nodup_cons]at h
  rw[Wr]
  by_cases h1:a=k
  ·subst h1
   by_cases h2:a=j
   ·subst h2;simp[Vz a r h.1]
   ·simp[Zj,h2]
  ·simp only[h1,if_false,Zj,VA k j r h.2]
   by_cases h2:a=j
   ·subst h2;simp[Ne.symm h1]
   ·simp[h2]
def Fb (es:List (AV×AV))(f:Int→Option Int):Prop:=∃ks,es=enc ks∧(ks.map (·.1)).Nodup∧∀k,Zj k ks=f k
def yM (f:Int→Option Int)(k:Int)(v:Option Int):Int→Option Int:=fun j=>if k=j then v else f j
theorem Uk:Fb [] fun _=>none:=⟨[],rfl,by simp,fun _=>rfl⟩
theorem Fb.find {es:List (AV×AV)}{f:Int→Option Int}(h:Fb es f)(k:Int):Ui .i64 k es=some ((f k).map (.i .i64 ·)):=by
 obtain⟨ks,rfl,_,h2⟩:=h;rw[zah,h2]
theorem Fb.set {es:List (AV×AV)}{f:Int→Option Int}(h:Fb es f)(k v:Int):∃es',WS .i64 k (.i .i64 v) es=some es'∧Fb es' (yM f k (some v)):=by
 obtain⟨ks,rfl,h1,h2⟩:=h
 refine⟨_,zag k v ks,NF k v ks,rfl,?_,fun j=>by rw[Vy,h2];rfl⟩
 rw[U2]
 split
 ·exact h1
 ·rename_i h3
  rw[List.nodup_append]
  exact⟨h1,by simp,fun a ha b hb hab=>by simp at hb;subst hb;subst hab;exact h3 ha⟩
theorem Fb.del {es:List (AV×AV)}{f:Int→Option Int}(h:Fb es f)(k:Int):∃es',WT .i64 k es=some es'∧Fb es' (yM f k none):=by
 obtain⟨ks,rfl,h1,h2⟩:=h
 exact⟨_,zaj k ks,Nx k ks,rfl,(zcQ k ks).nodup h1,fun j=>by rw[VA k j ks h1,h2];rfl⟩
end
section
variable {F:Nat→Option aT}
structure It where
 id:Int
 w:Int
 s:Int
 deriving DecidableEq
def It.cells (x:It):List AV:=[.i .i64 x.id,.i .i64 x.w,.i .i64 x.s]
def It.av (x:It):AV:=.agg x.cells
def It.zero:It:=⟨0,0,0⟩
def yK:List It→List AV
 | []=>[]
 | x::r=>x.cells++yK r
theorem wK:∀(A B:List It),yK (A++B)=yK A++yK B
 | [],_=>rfl
 | w::A,B=>by simp[yK,wK A B]
theorem xL:∀(A:List It),(yK A).length=A.length * 3
 | []=>rfl
 | w::A=>by simp[yK,xL A,It.cells];omega
theorem wv:∀(ws:List It) (i:Nat) (w:It) (sp:List AV),ws[i]?=some w→((yK ws++sp).drop (i * 3)).take 3=w.cells∧i * 3+3≤(yK ws++sp).length
 | [],i,w,sp,h=>by simp at h
 | a::r,0,w,sp,h=>by simp at h;subst h;simp[yK,It.cells]
 | a::r,i+1,w,sp,h=>by
  have:=wv r i w sp (by simpa using h)
  have e:(i+1) * 3=i * 3+1+1+1:=by omega
  rw[e]
  simp only[yK,It.cells,List.cons_append,List.nil_append,List.drop_succ_cons,List.length_cons]
  exact⟨this.1,by omega⟩
theorem ZU (a:AV)(c:List AV)(n:Nat)(vs:List AV):zo (a::c) (n+1) vs=a::zo c n vs:=by
 have:n+1+vs.length=(n+vs.length)+1:=by omega
 simp[zo,this]
theorem VF:∀(ws:List It) (i:Nat) (w:It) (sp:List AV),i<ws.length→zo (yK ws++sp) (i * 3) w.cells=yK (ws.set i w)++sp
 | [],i,w,sp,h=>by simp at h
 | a::r,0,w,sp,h=>by simp[zo,yK,It.cells]
 | a::r,i+1,w,sp,h=>by
  have e:(i+1) * 3=i * 3+1+1+1:=by omega
  rw[e,List.set_cons_succ]
  simp only[yK,It.cells,List.cons_append,List.nil_append]
  rw[ZU,ZU,ZU]
  have:=VF r i w sp (by simpa using h)
  simp only[It.cells]at this
  rw[this]
def It.lt (a b:It):Prop:=a.w<b.w∨(a.w=b.w∧a.s<b.s)
instance (a b:It):Decidable (a.lt b):=by unfold It.lt;exact inferInstance
theorem It.lt_irrefl (a:It):¬a.lt a:=by unfold It.lt;omega
theorem zbQ {a b:It}(h:a.lt b):¬b.lt a:=by unfold It.lt at *;omega
theorem vc {a b c:It}(h:a.lt b)(k:b.lt c):a.lt c:=by unfold It.lt at *;omega
theorem Z4 {a b c:It}(h:¬a.lt b)(k:¬b.lt c):¬a.lt c:=by unfold It.lt at *;omega
def LM (x y:Int):Int:=if x<y then -1 else if y<x then 1 else 0
def It.cmp (a b:It):Int:=if LM a.w b.w≠0 then LM a.w b.w else LM a.s b.s
theorem YW (a b:It):a.cmp b<0↔a.lt b:=by unfold It.cmp It.lt LM;split<;>split<;>(try split)<;>(try split)<;>omega
section
variable {L:Lg}
theorem Xa (h:Lu F)(x y:Int):zd F oK [.i .i64 x,.i .i64 y] L fun v L'=>v=.i .i64 (LM x y)∧L'=L:=by
 apply zkN h.code
 unfold DP
 have nan:∀(z:Int) (L:Lg),zd F oL [.i .i64 z] L fun v L'=>v=.b false∧L'=L:=by
  intro z L
  apply zkO h.f27.code
  simp[DQ]
 refine (nan x L).mono ?_
 rintro _ _ ⟨rfl,rfl⟩
 refine (nan y _).mono ?_
 rintro _ _ ⟨rfl,rfl⟩
 by_cases h1:x<y
 ·simp[h1,LM]
 ·by_cases h2:y<x<;>simp[h1,h2,LM]
theorem zhT (h:Lt F){b:Nat}{x y:Int}{cp ex:Nat}(hL:L b=some (.raw (.cells [.i .i64 x,.i .i64 y]))):zd F AN [.sl (some (b,0)) 2 cp ex] L fun v L'=>v=.i .i64 (if x≠0 then x else y)∧L'=L:=by
 apply zkM h.code
 unfold DO DN DL
 simp[DK]
 refine zN (fun n l' L'=>∃i:Nat,i≤2∧n=2-i∧(0<i→x=0)∧(1<i→y=0)∧L'=L∧l' 3=.i .i64 0∧l' 6=.sl (some (b,0)) 2 cp ex∧l' 7=.i .i64 2∧l' 8=.i .i64 i)
  2 ⟨0,by omega,by omega,by omega,by omega,rfl,by simp,by simp,by simp,by simp⟩ ?_
 rintro n l' t L' ⟨i,hi,hn,h0,h1,rfl,l3,l6,l7,l8⟩
 unfold DJ
 rw[l3,l6,l7,l8]
 obtain rfl | rfl | rfl:i=0∨i=1∨i=2:=by omega
 ·by_cases hx:x=0
  ·simp[yn _ _ _ 1 b 0 2 cp ex .i64 0 (by omega) (by omega),aq,AB.read,zR,hL,hx]
   refine⟨1,by omega,1,by omega,by omega,?_⟩
   simp[hx,l3,l6,l7,zT]
  ·simp[yn _ _ _ 1 b 0 2 cp ex .i64 0 (by omega) (by omega),aq,AB.read,zR,hL,hx]
 ·have hx:=h0 (by omega)
  have e:((1:Nat):Int)=1:=rfl
  rw[e]
  by_cases hy:y=0
  ·simp[yn _ _ _ 1 b 0 2 cp ex .i64 1 (by omega) (by omega),aq,AB.read,zR,hL,hx,hy]
   refine⟨0,by omega,2,by omega,by omega,?_⟩
   simp[hx,hy,l3,l6,l7,zT]
  ·simp[yn _ _ _ 1 b 0 2 cp ex .i64 1 (by omega) (by omega),aq,AB.read,zR,hL,hx,hy]
 ·have hx:=h0 (by omega)
  have hy:=h1 (by omega)
  simp[DM,hx,hy]
theorem YU (h:Ho F)(x y:It):zd F mQ [x.av,y.av] L fun v L'=>v=.i .i64 (x.cmp y)∧L'=L:=by
 apply zkL h.code
 unfold DI It.av
 simp
 rw[zL _ _ _ (by simp[It.cells])]
 intro b1 h1
 simp
 rw[zL _ _ _ (by simp[It.cells])]
 intro b2 h2
 have n1:b2≠b1:=by rintro rfl;simp at h2
 rw[zb _ _ _ n1]at h2
 simp[aq,AB.read,zR,Lg.ah,n1,Ne.symm n1,It.cells]
 refine (Xa h.f28 _ _).mono ?_
 rintro _ _ ⟨rfl,rfl⟩
 simp[aq,AB.read,zR,Lg.ah,n1,Ne.symm n1,It.cells]
 refine (Xa h.f28 _ _).mono ?_
 rintro _ _ ⟨rfl,rfl⟩
 simp
 rw[yg (c:=[.i .i64 (LM x.w y.w),.i .i64 (LM x.s y.s)]) _ _ (by simp[y7,zF,zo,zp,zq]) (by simp)]
 intro b3 h3
 refine (zhT h.f29 (ze _ _ _)).mono ?_
 rintro _ _ ⟨rfl,rfl⟩
 have n2:b3≠b2:=by rintro rfl;simp at h3
 have n3:b3≠b1:=by rintro rfl;simp[Lg.ah,Ne.symm n1]at h3
 rw[zb _ _ _ n2,zb _ _ _ n3]at h3
 simp[yb,yC,XT,aq,AB.read,zR,Lg.ah,n1,Ne.symm n1,n2,Ne.symm n2,n3,Ne.symm n3,It.cells]
 refine⟨zx.drop ?_,?_⟩
 ·intro c d hd
  have c1:c≠b1:=by rintro rfl;rw[h1]at hd;cases hd
  have c2:c≠b2:=by rintro rfl;rw[h2]at hd;cases hd
  have c3:c≠b3:=by rintro rfl;rw[h3]at hd;cases hd
  simp[Lg.ah,c1,c2,c3,hd]
 ·unfold It.cmp;by_cases h9:LM x.w y.w=0<;>simp[h9]
end
end
section
def par (i:Nat):Nat:=(i-1) / 4
def gA (A:List It)(j:Nat):It:=A.getD j It.zero
theorem vj {j:Nat}(h:0<j):par j<j:=by unfold par;omega
theorem Wb {A:List It}{j:Nat}(h:j<A.length):A[j]?=some (gA A j):=by simp[gA,h]
theorem zat {A:List It}{i j:Nat}{x:It}(h:i<A.length):gA (A.set i x) j=if i=j then x else gA A j:=by
 unfold gA
 simp only[List.getD_eq_getElem?_getD,List.getElem?_set]
 by_cases hij:i=j
 ·subst hij;simp[h]
 ·simp[hij]
def Exx (A:List It)(i:Nat):Prop:=(∀j,0<j→j<A.length→j≠i→par j≠i→¬(gA A j).lt (gA A (par j)))∧∀j,0<j→j<A.length→par j=i→0<i→¬(gA A j).lt (gA A (par i))
def Up (A:List It)(i:Nat):Prop:=(∀j,0<j→j<A.length→j≠i→¬(gA A j).lt (gA A (par j)))∧∀j,0<j→j<A.length→par j=i→0<i→¬(gA A j).lt (gA A (par i))
def Dn (A:List It)(i:Nat):Prop:=(∀j,0<j→j<A.length→par j≠i→¬(gA A j).lt (gA A (par j)))∧∀j,0<j→j<A.length→par j=i→0<i→¬(gA A j).lt (gA A (par i))
def vY (A:List It):Prop:=∀j,0<j→j<A.length→¬(gA A j).lt (gA A (par j))
def swap (A:List It)(i p:Nat):List It:=(A.set i (gA A p)).set p (gA A i)
theorem yX (A:List It)(i p:Nat):(swap A i p).length=A.length:=by simp[swap]
theorem xX {A:List It}{i p:Nat}(hi:i<A.length)(hp:p<A.length)(j:Nat):gA (swap A i p) j=if p=j then gA A i else if i=j then gA A p else gA A j:=by
 unfold swap
 rw[zat (by simpa using hp),zat hi]
theorem Exx.up {A:List It}{i:Nat}(h:Exx A i)(hi:0<i)(hl:(gA A i).lt (gA A (par i))):Up A i:=by
 refine⟨fun j h0 hj hji=>?_,h.2⟩
 by_cases hp:par j=i
 ·rw[hp]
  have:=h.2 j h0 hj hp hi
  exact fun h3=>this (vc h3 hl)
 ·exact h.1 j h0 hj hji hp
theorem Up.step {A:List It}{i:Nat}(h:Up A i)(hi:0<i)(hn:i<A.length)(hl:(gA A i).lt (gA A (par i))):Up (swap A i (par i)) (par i):=by
 have hp:par i<i:=vj hi
 have hpn:par i<A.length:=by omega
 refine⟨fun j h0 hj hji=>?_,fun j h0 hj MS N9=>?_⟩
 ·rw[yX]at hj
  rw[xX hn hpn,xX hn hpn]
  rw[if_neg (Ne.symm hji)]
  by_cases h1:i=j
  ·subst h1
   simp only[if_true]
   exact zbQ hl
  ·rw[if_neg h1]
   by_cases h2:par i=par j
   ·rw[if_pos h2]
    have:=h.1 j h0 hj (Ne.symm h1)
    rw[←h2]at this
    exact fun h3=>this (vc h3 hl)
   ·rw[if_neg h2]
    by_cases h3:i=par j
    ·rw[if_pos h3]
     exact h.2 j h0 hj h3.symm hi
    ·rw[if_neg h3]
     exact h.1 j h0 hj (Ne.symm h1)
 ·rw[yX]at hj
  have hpp:par (par i)<par i:=vj N9
  have Sm:j≠par i:=by rintro rfl;omega
  rw[xX hn hpn,xX hn hpn,if_neg (Ne.symm Sm)]
  rw[if_neg (show par i≠par (par i) by omega),if_neg (show i≠par (par i) by omega)]
  have hb:=h.1 (par i) N9 hpn (by omega)
  by_cases h1:i=j
  ·rw[if_pos h1];exact hb
  ·rw[if_neg h1]
   have:=h.1 j h0 hj (Ne.symm h1)
   rw[MS]at this
   exact Z4 this hb
theorem Up.heap {A:List It}{i:Nat}(h:Up A i)(hi:i=0∨¬(gA A i).lt (gA A (par i))):vY A:=by
 intro j h0 hj
 by_cases h1:j=i
 ·subst h1
  rcases hi with h2 | h2
  ·omega
  ·exact h2
 ·exact h.1 j h0 hj h1
theorem Exx.dn {A:List It}{i:Nat}(h:Exx A i)(hi:i=0∨¬(gA A i).lt (gA A (par i))):Dn A i:=by
 refine⟨fun j h0 hj hp=>?_,h.2⟩
 by_cases h1:j=i
 ·subst h1
  rcases hi with h2 | h2
  ·omega
  ·exact h2
 ·exact h.1 j h0 hj h1 hp
theorem Dn.step {A:List It}{i m:Nat}(h:Dn A i)(hm0:0<m)(hm:m<A.length)(u0:par m=i)(hmin:∀j,0<j→j<A.length→par j=i→¬(gA A j).lt (gA A m))(hx:¬(gA A i).lt (gA A m)):Dn (swap A i m) m:=by
 have him:i<m:=by rw[←u0];exact vj hm0
 have hn:i<A.length:=by omega
 refine⟨fun j h0 hj hp=>?_,fun j h0 hj hp _=>?_⟩
 ·rw[yX]at hj
  rw[xX hn hm,xX hn hm,if_neg (Ne.symm hp)]
  by_cases h1:m=j
  ·subst h1;rw[if_pos rfl,u0,if_pos rfl];exact hx
  ·rw[if_neg h1]
   by_cases h2:i=j
   ·subst h2
    rw[if_pos rfl,if_neg (show i≠par i by have:=vj h0;omega)]
    exact h.2 m hm0 hm u0 h0
   ·rw[if_neg h2]
    by_cases h3:i=par j
    ·rw[if_pos h3];exact hmin j h0 hj h3.symm
    ·rw[if_neg h3];exact h.1 j h0 hj (Ne.symm h3)
 ·rw[yX]at hj
  have hjm:j≠m:=by rintro rfl;have:=vj h0;omega
  have hji:j≠i:=by rintro rfl;have:=vj h0;omega
  rw[xX hn hm,xX hn hm,if_neg (Ne.symm hjm),if_neg (Ne.symm hji),u0,if_neg (show m≠i by omega),if_pos rfl]
  have:=h.1 j h0 hj (by omega)
  rw[hp]at this
  exact this
theorem Dn.heap {A:List It}{i:Nat}(h:Dn A i)(hc:∀j,0<j→j<A.length→par j=i→¬(gA A j).lt (gA A i)):vY A:=by
 intro j h0 hj
 by_cases h1:par j=i
 ·rw[h1];exact hc j h0 hj h1
 ·exact h.1 j h0 hj h1
theorem vY.root {A:List It}(h:vY A):∀j,j<A.length→¬(gA A j).lt (gA A 0):=by
 intro j
 induction j using Nat.strongRecOn with
 | ind j ih =>
  intro hj
  by_cases h0:j=0
  ·subst h0;exact It.lt_irrefl _
  ·have:=vj (show 0<j by omega)
   exact Z4 (h j (by omega) hj) (ih _ this (by omega))
theorem UZ {A:List It}{i p:Nat}(hi:i<A.length)(hp:p<A.length):(swap A i p).Perm A:=by
 by_cases h:i=p
 ·subst h
  have:swap A i i=A:=by
   apply List.ext_getElem?
   intro j
   simp only[swap,List.getElem?_set,List.length_set]
   by_cases hj:i=j
   ·subst hj;simp[hi,gA]
   ·simp[hj]
  rw[this]
 ·unfold swap
  have h1:gA A p=A[p]:=by simp[gA,hp]
  have h2:gA A i=A[i]:=by simp[gA,hi]
  rw[h1,h2]
  exact List.set_set_perm hi hp
def Mj (A:List It):Prop:=∀j k,j<A.length→k<A.length→(gA A j).id=(gA A k).id→j=k
def WJ (A:List It)(mp:Int→Option Int):Prop:=Mj A∧(∀j,j<A.length→mp (gA A j).id=some (j:Int))∧∀k v,mp k=some v→∃j,j<A.length∧v=(j:Int)∧(gA A j).id=k
def W7 (A:List It)(mp:Int→Option Int)(i:Nat):Prop:=Mj A∧(∀j,j<A.length→j≠i→mp (gA A j).id=some (j:Int))∧∀k v,mp k=some v→k=(gA A i).id∨∃j,j<A.length∧j≠i∧v=(j:Int)∧(gA A j).id=k
theorem W7.fill {A:List It}{mp:Int→Option Int}{i:Nat}(h:W7 A mp i)(hi:i<A.length):WJ A (yM mp (gA A i).id (some (i:Int))):=by
 refine⟨h.1,fun j hj=>?_,fun k v hk=>?_⟩
 ·unfold yM
  by_cases h1:(gA A i).id=(gA A j).id
  ·have:=h.1 i j hi hj h1;subst this;simp
  ·rw[if_neg h1];exact h.2.1 j hj (fun e=>h1 (by rw[e]))
 ·unfold yM at hk
  by_cases h1:(gA A i).id=k
  ·rw[if_pos h1]at hk;cases hk;exact⟨i,hi,rfl,h1⟩
  ·rw[if_neg h1]at hk
   rcases h.2.2 k v hk with h2 | ⟨j,h2,_,h3,h4⟩
   ·exact absurd h2.symm h1
   ·exact⟨j,h2,h3,h4⟩
theorem WJ.hole {A:List It}{mp:Int→Option Int}(h:WJ A mp)(i:Nat):W7 A mp i:=by
 refine⟨h.1,fun j hj _=>h.2.1 j hj,fun k v hk=>?_⟩
 obtain⟨j,h2,h3,h4⟩:=h.2.2 k v hk
 by_cases h5:j=i
 ·subst h5;exact .inl h4.symm
 ·exact .inr ⟨j,h2,h5,h3,h4⟩
theorem Mj.swap {A:List It}(h:Mj A){i p:Nat}(hi:i<A.length)(hp:p<A.length):Mj (swap A i p):=by
 have key:∀j,gA (Go.AM.swap A i p) j=gA A (if p=j then i else if i=j then p else j):=by
  intro j
  rw[xX hi hp]
  split
  ·rfl
  ·split<;>rfl
 intro j k hj hk
 rw[yX]at hj hk
 rw[key,key]
 intro e
 have:=h _ _ (by split;exact hi;split;exact hp;exact hj) (by split;exact hi;split;exact hp;exact hk) e
 split at this<;>split at this<;>(try split at this)<;>(try split at this)<;>omega
theorem W7.step {A:List It}{mp:Int→Option Int}{i p:Nat}(h:W7 A mp i)(hi:i<A.length)(hp:p<A.length)(hne:p≠i):W7 (swap A i p) (yM mp (gA A p).id (some (i:Int))) p:=by
 refine⟨h.1.swap hi hp,fun j hj Sm=>?_,fun k v hk=>?_⟩
 ·rw[yX]at hj
  rw[xX hi hp,if_neg (Ne.symm Sm)]
  unfold yM
  by_cases h1:i=j
  ·subst h1;simp
  ·rw[if_neg h1]
   have h2:(gA A p).id≠(gA A j).id:=fun e=>Sm (h.1 p j hp hj e).symm
   rw[if_neg h2]
   exact h.2.1 j hj (Ne.symm h1)
 ·unfold yM at hk
  rw[xX hi hp,if_pos rfl]
  by_cases h1:(gA A p).id=k
  ·rw[if_pos h1]at hk;cases hk
   refine .inr ⟨i,by rw[yX];exact hi,Ne.symm hne,rfl,?_⟩
   rw[xX hi hp,if_neg hne,if_pos rfl];exact h1
  ·rw[if_neg h1]at hk
   rcases h.2.2 k v hk with h2 | ⟨j,h2,h3,h4,h5⟩
   ·exact .inl h2
   ·have Sm:j≠p:=by rintro rfl;exact h1 h5
    refine .inr ⟨j,by rw[yX];exact h2,Sm,h4,?_⟩
    rw[xX hi hp,if_neg (Ne.symm Sm),if_neg (Ne.symm h3)];exact h5
end
end Go.AM
