/- The texts AmA, AmB, AmC, AmF, AmD, AmE, AmG, AmH, AmI, AmJ, AmK, AmL, AmM of a proof of LapseSound, merged. -/
import GoSem.Core.View
import Derived.Below
import Derived.Laws.CopyRow
import Derived.Laws.Append
import Derived.Orders
import GoSem.Core.Layout
import GoSem.Core.Region
import Derived.Laws.Entries
import Derived.Laws.StructEq
import Derived.Laws.Slices
import Derived.Laws.Small
import Derived.Laws.Strings
import Derived.Laws.Rows
import Derived.ChangeKeysEq
import Derived.MapKept
import Derived.Laws.BytesString
import Derived.Laws.MakeOwn
namespace Go.AM
section
mutual
inductive At where
 | v (n:Nat)
 | op (o:BinOp) (k:IntKind) (a b:Ln)
 | wr (k:IntKind) (a:Ln)
inductive Ln where
 | c (n:Int)
 | t (m:Int) (a:At) (r:Ln)
end
instance:Inhabited Ln:=⟨.c 0⟩
inductive AV where
 | b (x:Bool)
 | i (k:IntKind) (n:Int)
 /-- a number Mo is not known (in Bh open machine alone) -/
 | x (k:IntKind) (e:Ln)
 | s (x:List UInt8)
 | p (a:Option (Nat×Nat))
 | sl (a:Option (Nat×Nat)) (len cap ex:Nat)
 | m (r:Option Nat)
 | fn (f:Nat) (fst cap:List AV)
 | iF
 | FC (t:Nat) (v:AV)
 | mX
 | agg (l:List AV)
 | ay (l:List AV)
 /-- znA at all: nothing is known of it -/
 | bad
 deriving Inhabited
inductive PM (α:Type) where
 | nil
 | node (v:Option α) (l r:PM α)
 deriving Inhabited
noncomputable def PM.get {α:Type}(t:PM α):Nat→Option α :=
 PM.rec (motive:=fun _=>Nat→Option α) (fun _=>none) (fun v _ _ l r n=>bif Nat.beq n 0 then v else bif Nat.beq (Nat.mod n 2) 1 then l (Nat.div n 2)else r (Nat.sub (Nat.div n 2) 1)) t
def WD {α:Type}(u:Option α)(l r:PM α):PM α :=
 match l with
 | .nil=>.node u .nil r
 | .node a b c=>.node u (.node a b c) r
def WC {α:Type}(u:Option α)(l r:PM α):PM α :=
 match r with
 | .nil=>.node u l .nil
 | .node a b c=>.node u l (.node a b c)
noncomputable def PM.put {α:Type}(v:Option α)(f:Nat):PM α→Nat→PM α :=
 Nat.rec (motive:=fun _=>PM α→Nat→PM α) (fun t _=>t) (fun _ ih t =>
  PM.rec (motive:=fun _=>Nat→PM α)
   (fun n=>bif Nat.beq n 0 then .node v .nil .nil
    else bif Nat.beq (Nat.mod n 2) 1 then WD none (ih .nil (Nat.div n 2)) .nil else WC none .nil (ih .nil (Nat.sub (Nat.div n 2) 1)))
   (fun u l r _ _ n=>bif Nat.beq n 0 then .node v l r
    else bif Nat.beq (Nat.mod n 2) 1 then WD u (ih l (Nat.div n 2)) r else WC u l (ih r (Nat.sub (Nat.div n 2) 1))) t) f
noncomputable def PM.set {α:Type}(t:PM α)(n:Nat)(v:Option α):PM α:=PM.put v (n+1) t n
inductive AB where
 | cells (c:List AV)
 | ro (c:List AV)
 | map (es:List (AV×AV))
 deriving Inhabited
structure St where
 h:PM AB
 nx:Nat
 deriving Inhabited
inductive fT where
 | l (n:Nat)
 | t (n:Nat)
 | c (v:AV)
 deriving Inhabited
inductive Nw where
 | no
 | l (n:Nat)
 | t (n:Nat)
 deriving Inhabited
inductive Nv where
 | bool | str | ptr | slnil | ot | Nh | FC
 | agg (fs:List (Nat×Nat))
 deriving Inhabited
inductive cV where
 -- no memory
 | mv | pick
 | build (z:List AV) (ps:List (Nat×Nat))
 | aa
 | bin (op:BinOp)
 | Qj (op:BinOp)
 | eq (neg:Bool) (k:Nv)
 | un (op:UnOp)
 | TV (k:IntKind)
 | TU
 | RS (t:Nat)
 | HD (f zqQ:Nat)
 | slc (size:Nat) (lo hi mx:Bool)
 | Qh (lo hi:Bool)
 | aj (off:Nat)
 | fld (off:Nat) (sz:Option Nat)
 | aX (size:Nat)
 | zlg (len size:Nat)
 | ixA (len size:Nat) (agg:Bool)
 | ixS
 | ext (k:Nat)
 | ax | RV | RW (n:Nat) | OG
 | min | max
 -- reads
 | ld (sz:Option Nat)
 | mY (z:AV) (ok:Bool)
 | HC
 | JA
 -- makes a block
 | alloc (z:List AV)
 | box
 | aC (z:List AV) (len size:Nat) (ps:List Nat)
 | FA (z:List AV) (bytes:Nat)
 | iH
 -- G4
 | st (sz:Nat)
 | oh
 | om
 | app (size bytes:Nat)
 | Nn (z:List AV)
 | TW (size:Nat)
 | call (f:Nat)
 | eX
 deriving Inhabited
structure cM where
 dst:Nw
 gd:Option (fT×Bool)
 op:cV
 args:List fT
 deriving Inhabited
inductive br where
 | skip
 | reg (ops:List cM)
 /-- with places Mo are looked at again: operation,and Bh number of RK behind which -/
 | IF (ops:List cM) (Ag:List (Nat×Nat))
 | seq (a b:br)
 | cond (c:fT) (x y:br)
 | block (id:Nat) (c:br)
 | loop (c:br)
 | exit (id:Nat)
 | ret
 deriving Inhabited
inductive iq where
 | tmp (t:fT)
 | cell (t:fT) (sz:Option Nat)
 deriving Inhabited
structure aT where
 body:br
 res:List iq
 deriving Inhabited
inductive Ex where
 | norm
 | ex (id:Nat)
 | ret
 deriving Inhabited
def IW:Int→Int→Bool
 | .ofNat a,.ofNat b=>Nat.blt a b
 | .negSucc a,.negSucc b=>Nat.blt b a
 | .ofNat _,.negSucc _=>false
 | .negSucc _,.ofNat _=>true
def Ez:Int→Int→Bool
 | .ofNat a,.ofNat b=>Nat.beq a b
 | .negSucc a,.negSucc b=>Nat.beq b a
 | _,_=>false
def Ny (n:Int):Bool :=
 match n with
 | .ofNat m=>Nat.blt m 9223372036854775808
 | .negSucc m=>Nat.blt m 9223372036854775808
def wr (k:IntKind)(n:Int):Int :=
 match k with
 | .i64=>bif Ny n then n else IntKind.wrap .i64 n
 | k=>k.wrap n
def GC (op:BinOp)(k:IntKind)(a b:Int):Option AV :=
 match op with
 | .add=>some (.i k (wr k (a+b)))
 | .sub=>some (.i k (wr k (a-b)))
 | .mul=>some (.i k (wr k (a * b)))
 | .quo=>bif Ez b 0 then none else some (.i k (wr k (a.tdiv b)))
 | .rem=>bif Ez b 0 then none else some (.i k (a.tmod b))
 | .and=>some (.i k (wr k (BitVec.toNat (BitVec.ofInt k.bits a &&& BitVec.ofInt k.bits b))))
 | .or=>some (.i k (wr k (BitVec.toNat (BitVec.ofInt k.bits a ||| BitVec.ofInt k.bits b))))
 | .xor=>some (.i k (wr k (BitVec.toNat (BitVec.ofInt k.bits a ^^^ BitVec.ofInt k.bits b))))
 | .andNot=>some (.i k (wr k (BitVec.toNat (BitVec.ofInt k.bits a &&& ~~~ BitVec.ofInt k.bits b))))
 | .eql=>some (.b (Ez a b))
 | .neq=>some (.b (!Ez a b))
 | .lss=>some (.b (IW a b))
 | .leq=>some (.b (!IW b a))
 | .gtr=>some (.b (IW b a))
 | .geq=>some (.b (!IW a b))
 | .shl | .shr=>none
def shI (op:BinOp)(k:IntKind)(a b:Int):Option AV :=
 bif IW b 0 then none else
 match op with
 | .shl=>some (.i k (wr k (a * 2 ^ (Nat.min b.toNat k.bits))))
 | .shr=>some (.i k (a.fdiv (2 ^ (Nat.min b.toNat k.bits))))
 | _=>none
def Fk:BinOp→Bool
 | .shl | .shr=>true
 | _=>false
def eP:IntKind→IntKind→Bool
 | .i8,.i8 | .i16,.i16 | .i32,.i32 | .i64,.i64 | .u8,.u8 | .u16,.u16 | .u32,.u32 | .u64,.u64=>true
 | _,_=>false
def vq:List UInt8→List UInt8→Bool
 | [],[]=>true
 | a::x,b::y=>Nat.beq a.toNat b.toNat&&vq x y
 | _,_=>false
def Z1:List UInt8→List UInt8→Bool
 | _,[]=>false
 | [],_::_=>true
 | a::x,b::y=>Nat.blt a.toNat b.toNat||(Nat.beq a.toNat b.toNat&&Z1 x y)
def Nr (op:BinOp)(x y:List UInt8):Option AV :=
 match op with
 | .add=>bif Nat.blt (x.length+y.length) 9223372036854775808 then some (.s (x++y))else none
 | .eql=>some (.b (vq x y))
 | .neq=>some (.b (!vq x y))
 | .lss=>some (.b (Z1 x y))
 | .leq=>some (.b (Z1 x y||vq x y))
 | .gtr=>some (.b (!(Z1 x y||vq x y)))
 | .geq=>some (.b (!Z1 x y))
 | _=>none
def AV.one:AV→Bool
 | .agg _ | .ay _ | .bad=>false
 | _=>true
def AV.cellsOf:AV→Option (List AV)
 | .agg l=>bif l.all AV.one then some l else none
 | .ay _ | .bad=>none
 | v=>some [v]
def zo (c:List AV)(off:Nat)(vs:List AV):List AV:=c.take off++vs++c.drop (off+vs.length)
def zF:List AV→List (Nat×Nat)→List AV→Option (List AV)
 | c,[],[]=>some c
 | c,(off,sz)::ps,v::vs =>
  match v.cellsOf with
  | some l=>bif Nat.beq l.length sz&&Nat.ble (off+sz) c.length then zF (zo c off l) ps vs else none
  | none=>none
 | _,_,_=>none
def cut (c:List AV)(off sz:Nat):Option (List AV):=bif Nat.ble (off+sz) c.length then some ((c.drop off).take sz)else none
def y7 (z:List AV):Nat→List AV
 | 0=>[]
 | n+1=>z++y7 z n
def one?:List AV→Option AV
 | [v]=>some v
 | _=>none
def zR (c:List AV)(off:Nat):Option Nat→Option AV
 | none=>c[off]?
 | some sz=>(cut c off sz).map .agg
def AB.read:AB→Option (List AV)
 | .cells c=>some c
 | .ro c=>some c
 | .map _=>none
noncomputable def NC (h:PM AB)(a:Nat×Nat)(sz:Option Nat):Option AV :=
 match h.get a.1 with
 | some cr=>match cr.read with
  | some c=>zR c a.2 sz
  | none=>none
 | none=>none
noncomputable def xE (h:PM AB)(a:Option (Nat×Nat))(n:Nat):Option (List AV) :=
 match a with
 | none=>bif Nat.beq n 0 then some []else none
 | some (r,o)=>match h.get r with
  | some cr=>match cr.read with
   | some c=>cut c o n
   | none=>none
  | none=>none
noncomputable def live (h:PM AB)(r:Nat):Bool :=
 match h.get r with
 | some (.cells _)=>true
 | _=>false
noncomputable def wb (h:PM AB)(a:Nat×Nat)(vs:List AV):Option (PM AB) :=
 match h.get a.1 with
 | some (.cells c)=>bif Nat.ble (a.2+vs.length) c.length&&vs.all AV.one then some (h.set a.1 (some (.cells (zo c a.2 vs))))else none
 | _=>none
def Ui (k:IntKind)(n:Int):List (AV×AV)→Option (Option AV)
 | []=>some none
 | (.i j a,v)::es=>bif eP k j then (bif Ez n a then some (some v)else Ui k n es)else none
 | _::_=>none
def WS (k:IntKind)(n:Int)(v:AV):List (AV×AV)→Option (List (AV×AV))
 | []=>some [(.i k n,v)]
 | (.i j a,u)::es=>bif eP k j then (bif Ez n a then some ((.i j a,v)::es)else (WS k n v es).map ((.i j a,u)::·))else none
 | _::_=>none
def WT (k:IntKind)(n:Int):List (AV×AV)→Option (List (AV×AV))
 | []=>some []
 | (.i j a,u)::es=>bif eP k j then (bif Ez n a then some es else (WT k n es).map ((.i j a,u)::·))else none
 | _::_=>none
def P7:Nat→AV→AV→Option Bool
 | 0,.b x,.b y=>some (x==y)
 | 1,.i j x,.i k y=>bif eP j k then some (Ez x y)else none
 | 2,.s x,.s y=>some (vq x y)
 | _,_,_=>none
def LN (xs ys:List AV):List (Nat×Nat)→Option Bool
 | []=>some true
 | (f,g)::fs=>match xs[f]?,ys[f]? with
  | some x,some y=>match P7 g x y with
   | some true=>LN xs ys fs
   | some false=>some false
   | none=>none
  | _,_=>none
noncomputable def eqP (h:PM AB):Option (Nat×Nat)→Option (Nat×Nat)→Option Bool
 | none,none=>some true
 | none,some _ | some _,none=>some false
 | some (a,i),some (b,j) =>
  bif Nat.beq a b then some (Nat.beq i j)
  else bif live h a&&live h b then some false else none
noncomputable def FY (h:PM AB):Nv→AV→AV→Option Bool
 | .bool,.b x,.b y=>some (x==y)
 | .str,.s x,.s y=>some (vq x y)
 | .ptr,.p x,.p y=>eqP h x y
 | .slnil,.sl none _ _ _,.sl y _ _ _=>some y.isNone
 | .slnil,.sl (some _) _ _ _,.sl none _ _ _=>some false
 | .ot,.m none,.m y=>some y.isNone
 | .ot,.m (some _),.m none=>some false
 | .Nh,.iF,.iF=>some true
 | .Nh,.iF,.fn _ _ _ | .Nh,.fn _ _ _,.iF=>some false
 | .FC,.mX,.FC _ _ | .FC,.FC _ _,.mX=>some false
 | .agg fs,.agg xs,.agg ys=>LN xs ys fs
 | _,_,_=>none
def LO (lt:Int→Int→Bool):Int→List AV→IntKind→Option AV
 | x,[],k=>some (.i k x)
 | x,.i j y::rest,k=>bif eP j k then LO lt (bif lt y x then y else x) rest k else none
 | _,_::_,_=>none
def idx (v:AV):Option Nat :=
 match v with
 | .i _ (.ofNat n)=>some n
 | _=>none
def wX:Bool→List AV→Nat→Option (Nat×List AV)
 | true,v::r,_=>(idx v).map fun n=>(n,r)
 | true,[],_=>none
 | false,r,d=>some (d,r)
def Fm (size:Nat)(lo hi mx:Bool):List AV→Option AV
 | .sl a len cap ex::r =>
  match wX lo r 0 with
  | none=>none
  | some (l,r)=>match wX hi r len with
   | none=>none
   | some (h,r)=>match wX mx r cap with
    | some (m,[]) =>
     bif Nat.ble l h&&Nat.ble h m&&Nat.ble m cap&&(Nat.beq ex 0||Nat.beq ex size)then
      some (.sl (a.map fun (n,o)=>(n,o+l * size)) (h-l) (m-l) (bif mx then 0 else ex))
     else none
    | _=>none
 | _=>none
def zhB (lo hi:Bool):List AV→Option AV
 | .s x::r =>
  match wX lo r 0 with
  | none=>none
  | some (l,r)=>match wX hi r x.length with
   | some (h,[])=>bif Nat.ble l h&&Nat.ble h x.length then some (.s ((x.take h).drop l))else none
   | _=>none
 | _=>none
def rMv (_:PM AB):List AV→Option AV
 | [x]=>some x
 | _=>none
def zhI (_:PM AB):List AV→Option AV
 | [.b c,x,y]=>some (bif c then x else y)
 | _=>none
def zeH (z:List AV)(ps:List (Nat×Nat))(_:PM AB)(vs:List AV):Option AV:=(zF z ps vs).map .agg
def Rt (_:PM AB):List AV→Option AV
 | [.p (some a)]=>some (.p (some a))
 | [.fn f a b]=>some (.fn f a b)
 | _=>none
def GA (op:BinOp)(_:PM AB):List AV→Option AV
 | [.i k a,.i j b]=>bif Fk op then shI op k a b else bif eP k j then GC op k a b else none
 | _=>none
def zhH (op:BinOp)(_:PM AB):List AV→Option AV
 | [.s x,.s y]=>Nr op x y
 | _=>none
noncomputable def IN (ng:Bool)(k:Nv)(h:PM AB):List AV→Option AV
 | [x,y]=>(FY h k x y).map fun r=>.b (r != ng)
 | _=>none
def rUn (op:UnOp)(_:PM AB):List AV→Option AV
 | [.b x]=>match op with
  | .not=>some (.b (!x))
  | _=>none
 | [.i k n]=>match op with
  | .neg=>some (.i k (wr k (0-n)))
  | _=>none
 | _=>none
def zhQ (k:IntKind)(_:PM AB):List AV→Option AV
 | [.i _ n]=>some (.i k (wr k n))
 | _=>none
def zhP (_:PM AB):List AV→Option AV
 | [.s x]=>some (.s x)
 | _=>none
def zhK (t:Nat)(_:PM AB):List AV→Option AV
 | [x]=>some (.FC t x)
 | _=>none
def zhL (f n:Nat)(_:PM AB)(vs:List AV):Option AV:=some (.fn f (vs.take n) (vs.drop n))
def Rs (size:Nat)(lo hi mx:Bool)(_:PM AB)(vs:List AV):Option AV:=Fm size lo hi mx vs
def zhG (lo hi:Bool)(_:PM AB)(vs:List AV):Option AV:=zhB lo hi vs
def Ry (off:Nat)(_:PM AB):List AV→Option AV
 | [.p (some (n,o))]=>some (.p (some (n,o+off)))
 | _=>none
def Rx (off:Nat)(sz:Option Nat)(_:PM AB):List AV→Option AV
 | [.agg l]=>zR l off sz
 | _=>none
def Mv (size:Nat)(_:PM AB):List AV→Option AV
 | [.sl (some (n,o)) len _ _,.i _ (.ofNat k)]=>bif Nat.blt k len then some (.p (some (n,o+k * size)))else none
 | _=>none
def zhN (len size:Nat)(_:PM AB):List AV→Option AV
 | [.p (some (n,o)),.i _ (.ofNat k)]=>bif Nat.blt k len then some (.p (some (n,o+k * size)))else none
 | _=>none
def Rv (len size:Nat)(ag:Bool)(_:PM AB):List AV→Option AV
 | [.agg l,.i _ (.ofNat k)]=>bif Nat.blt k len then zR l (k * size) (bif ag then some size else none)else none
 | _=>none
def Ru (_:PM AB):List AV→Option AV
 | [.s x,.i _ (.ofNat k)]=>(x[k]?).map fun c=>.i .u8 (.ofNat c.toNat)
 | _=>none
def Rz (k:Nat)(_:PM AB):List AV→Option AV
 | [.ay l]=>l[k]?
 | _=>none
def U9 (_:PM AB):List AV→Option AV
 | [.sl _ n _ _]=>some (.i .i64 (.ofNat n))
 | _=>none
def zeC (_:PM AB):List AV→Option AV
 | [.s x]=>some (.i .i64 (.ofNat x.length))
 | _=>none
def zeD (n:Nat)(_:PM AB):List AV→Option AV
 | [_]=>some (.i .i64 (.ofNat n))
 | _=>none
def zaa (_:PM AB):List AV→Option AV
 | [.sl _ _ n 0]=>some (.i .i64 (.ofNat n))
 | _=>none
def Mu (_:PM AB):List AV→Option AV
 | .i k x::r=>LO (fun y x=>IW y x) x r k
 | _=>none
def zjd (_:PM AB):List AV→Option AV
 | .i k x::r=>LO (fun y x=>IW x y) x r k
 | _=>none
noncomputable def rLd (sz:Option Nat)(h:PM AB):List AV→Option AV
 | [.p (some a)]=>NC h a sz
 | _=>none
noncomputable def zdk (z:AV)(ok:Bool)(h:PM AB):List AV→Option AV
 | [.m none,.i _ _]=>some (bif ok then .ay [z,.b false]else z)
 | [.m (some r),.i k n]=>match h.get r with
  | some (.map es)=>match Ui k n es with
   | some (some v)=>some (bif ok then .ay [v,.b true]else v)
   | some none=>some (bif ok then .ay [z,.b false]else z)
   | none=>none
  | _=>none
 | _=>none
noncomputable def U8 (h:PM AB):List AV→Option AV
 | [.m none]=>some (.i .i64 0)
 | [.m (some r)]=>match h.get r with
  | some (.map es)=>some (.i .i64 (.ofNat es.length))
  | _=>none
 | _=>none
def u8s:List AV→Option (List UInt8)
 | []=>some []
 | .i .u8 (.ofNat n)::r=>match u8s r with
  | some l=>some (UInt8.ofNat n::l)
  | none=>none
 | _=>none
noncomputable def zdl (h:PM AB):List AV→Option AV
 | [.sl a n _ _]=>bif Nat.beq n 0 then some (.s [])else match xE h a n with
  | some l=>match u8s l with
   | some s=>some (.s s)
   | none=>none
  | none=>none
 | _=>none
def zhJ (_:PM AB)(_:List AV):Option AV:=none
noncomputable def Zd:cV→PM AB→List AV→Option AV
 | .mv=>rMv
 | .pick=>zhI
 | .build z ps=>zeH z ps
 | .aa=>Rt
 | .bin op=>GA op
 | .Qj op=>zhH op
 | .eq ng k=>IN ng k
 | .un op=>rUn op
 | .TV k=>zhQ k
 | .TU=>zhP
 | .RS t=>zhK t
 | .HD f n=>zhL f n
 | .slc size lo hi mx=>Rs size lo hi mx
 | .Qh lo hi=>zhG lo hi
 | .aj off=>Ry off
 | .fld off sz=>Rx off sz
 | .aX size=>Mv size
 | .zlg len size=>zhN len size
 | .ixA len size ag=>Rv len size ag
 | .ixS=>Ru
 | .ext k=>Rz k
 | .ax=>U9
 | .RV=>zeC
 | .RW n=>zeD n
 | .OG=>zaa
 | .min=>Mu
 | .max=>zjd
 | .ld sz=>rLd sz
 | .mY z ok=>zdk z ok
 | .HC=>U8
 | .JA=>zdl
 | _=>zhJ
def zfV (z:List AV)(nx:Nat):List AV→Option (AB×AV)
 | []=>some (.cells z,.p (some (nx,0)))
 | _=>none
def Fl (nx:Nat):List AV→Option (AB×AV)
 | [v]=>match v.cellsOf with
  | some l=>some (.cells l,.p (some (nx,0)))
  | none=>none
 | _=>none
def Zx (z:List AV)(len size:Nat)(ps:List Nat)(nx:Nat)(vs:List AV):Option (AB×AV) :=
 match zF (y7 z len) (ps.map fun i=>(i * size,size)) vs with
 | some c=>bif c.all AV.one then some (.cells c,.sl (some (nx,0)) len len 0)else none
 | none=>none
def zfU (z:List AV)(bytes:Nat)(nx:Nat):List AV→Option (AB×AV)
 | [.i _ (.ofNat l),.i _ (.ofNat c)] =>
  bif Nat.ble l c&&Nat.ble (c * bytes) 70368744177664 then some (.cells (y7 z c),.sl (some (nx,0)) l c 0)else none
 | _=>none
def zhj (nx:Nat)(_:List AV):Option (AB×AV):=some (.map [],.m (some nx))
def zjT (_:Nat)(_:List AV):Option (AB×AV):=none
def H9:cV→Nat→List AV→Option (AB×AV)
 | .alloc z=>zfV z
 | .box=>Fl
 | .aC z len size ps=>Zx z len size ps
 | .FA z bytes=>zfU z bytes
 | .iH=>zhj
 | _=>zjT
noncomputable def gone (h:PM AB)(a:Option (Nat×Nat))(ex size:Nat):Option (PM AB) :=
 bif Nat.beq ex 0 then some h else bif Nat.beq ex size then match a with
  | some (r,_)=>bif live h r then some (h.set r none)else none
  | none=>none
 else none
noncomputable def ziY (size bytes:Nat)(S:St)(a:Option (Nat×Nat))(len cap ex:Nat)(n:Nat)(new:List AV):Option (AV×St) :=
 bif Nat.ble (len+n) cap then
  match a with
  | none=>some (.sl none (len+n) cap ex,S)
  | some (r,o) =>
   bif Nat.beq n 0 then some (.sl (some (r,o)) len cap ex,S)else
   match wb S.h (r,o+len * size) new with
   | some h=>some (.sl (some (r,o)) (len+n) cap ex,{ S with h:=h })
   | none=>none
 else bif Nat.ble ((len+n) * bytes) 70368744177664 then
  match xE S.h a (len * size),gone S.h a ex size with
  | some old,some h=>some (.sl (some (S.nx,0)) (len+n) (len+n) size,{ h:=h.set S.nx (some (.cells (old++new))),nx:=S.nx+1 })
  | _,_=>none
 else none
abbrev cZ:=Nat→List AV→St→Option (AV×St)
noncomputable def eSt (sz:Nat)(_:cZ)(S:St):List AV→Option (AV×St)
 | [.p (some a),v]=>match v.cellsOf with
  | some l =>
   bif Nat.beq l.length sz then match wb S.h a l with
    | some h=>some (.bad,{ S with h:=h })
    | none=>none
   else none
  | none=>none
 | _=>none
noncomputable def zfy (_:cZ)(S:St):List AV→Option (AV×St)
 | [.m (some r),.i k n,v]=>match S.h.get r with
  | some (.map es)=>match WS k n v es with
   | some es=>some (.bad,{ S with h:=S.h.set r (some (.map es)) })
   | none=>none
  | _=>none
 | _=>none
noncomputable def zdF (_:cZ)(S:St):List AV→Option (AV×St)
 | [.m none,.i _ _]=>some (.bad,S)
 | [.m (some r),.i k n]=>match S.h.get r with
  | some (.map es)=>match WT k n es with
   | some es=>some (.bad,{ S with h:=S.h.set r (some (.map es)) })
   | none=>none
  | _=>none
 | _=>none
noncomputable def ziQ (size bytes:Nat)(_:cZ)(S:St):List AV→Option (AV×St)
 | [.sl a len cap ex,.sl b n _ _] =>
  match xE S.h b (n * size)with
  | some new=>bif new.all AV.one then ziY size bytes S a len cap ex n new else none
  | none=>none
 | _=>none
noncomputable def P1 (z:List AV)(_:cZ)(S:St):List AV→Option (AV×St)
 | [.sl a n _ _] =>
  bif Nat.beq n 0 then some (.bad,S)else
  match a with
  | some a=>match wb S.h a (y7 z n)with
   | some h=>some (.bad,{ S with h:=h })
   | none=>none
  | none=>none
 | _=>none
noncomputable def P2 (size:Nat)(_:cZ)(S:St):List AV→Option (AV×St)
 | [.sl a dl _ _,.sl b sl _ _] =>
  match xE S.h b (Nat.min sl dl * size)with
  | some vs=>bif Nat.beq (Nat.min sl dl) 0 then some (.i .i64 0,S)else
   match a with
   | some a=>match wb S.h a vs with
    | some h=>some (.i .i64 (.ofNat (Nat.min sl dl)),{ S with h:=h })
    | none=>none
   | none=>none
  | none=>none
 | _=>none
def znk (f:Nat)(call:cZ)(S:St)(vs:List AV):Option (AV×St):=call f vs S
def zhd (call:cZ)(S:St):List AV→Option (AV×St)
 | .fn f fst cap::vs=>call f (fst++vs++cap) S
 | _=>none
def zjH (_:cZ)(_:St)(_:List AV):Option (AV×St):=none
noncomputable def WI:cV→cZ→St→List AV→Option (AV×St)
 | .st sz=>eSt sz
 | .oh=>zfy
 | .om=>zdF
 | .app size bytes=>ziQ size bytes
 | .Nn z=>P1 z
 | .TW size=>P2 size
 | .call f=>znk f
 | .eX=>zhd
 | _=>zjH
inductive Cl where
 | R | A | E
def cV.cl:cV→Cl
 | .alloc _ | .box | .aC .. | .FA .. | .iH=>.A
 | .st _ | .oh | .om | .app .. | .Nn _ | .TW _ | .call _ | .eX=>.E
 | _=>.R
structure Tm where
 l:List (Nat×AV)
 r:List (Nat×AV)
 deriving Inhabited
noncomputable def yp (l:List (Nat×AV)):Nat→AV :=
 List.rec (motive:=fun _=>Nat→AV) (fun _=>.bad) (fun p _ ih n=>bif Nat.beq p.1 n then p.2 else ih n) l
noncomputable def ziW (n:Nat)(v:AV)(l:List (Nat×AV)):List (Nat×AV) :=
 List.rec (motive:=fun _=>List (Nat×AV)) [(n,v)] (fun p r ih=>bif Nat.beq p.1 n then (p.1,v)::r else p::ih) l
theorem zcU (n:Nat):yp [] n=.bad:=rfl
theorem Zw (k:Nat)(v:AV)(r:List (Nat×AV))(n:Nat):yp ((k,v)::r) n=bif Nat.beq k n then v else yp r n:=rfl
theorem zgP (n:Nat)(v:AV):ziW n v []=[(n,v)]:=rfl
theorem zfN (n:Nat)(v:AV)(k:Nat)(u:AV)(r:List (Nat×AV)):ziW n v ((k,u)::r)=bif Nat.beq k n then (k,v)::r else (k,u)::ziW n v r:=rfl
noncomputable def fT.ev (T:Tm):fT→AV
 | .l n=>yp T.l n
 | .t n=>yp T.r n
 | .c v=>v
noncomputable def G2 (T:Tm)(l:List fT):List AV:=List.rec (motive:=fun _=>List AV) [] (fun x _ ih=>x.ev T::ih) l
theorem zie (T:Tm):G2 T []=[]:=rfl
theorem zgG (T:Tm)(x:fT)(r:List fT):G2 T (x::r)=x.ev T::G2 T r:=rfl
noncomputable def Tm.put (T:Tm)(v:AV):Nw→Tm
 | .no=>T
 | .l n=>{ T with l:=ziW n v T.l }
 | .t n=>{ T with r:=(n,v)::T.r }
def RL (f:PM AB→List AV→Option AV)(_:cZ)(S:St)(vs:List AV):Option (AV×St) :=
 match f S.h vs with
 | some v=>some (v,S)
 | none=>none
noncomputable def opA (f:Nat→List AV→Option (AB×AV))(_:cZ)(S:St)(vs:List AV):Option (AV×St) :=
 match f S.nx vs with
 | some (cr,v)=>some (v,{ h:=S.h.set S.nx (some cr),nx:=S.nx+1 })
 | none=>none
noncomputable def wm (o:cV):cZ→St→List AV→Option (AV×St) :=
 match o.cl with
 | .R=>RL (Zd o)
 | .A=>opA (H9 o)
 | .E=>WI o
noncomputable def ZS (T:Tm):Option (fT×Bool)→Option Bool
 | none=>some true
 | some (t,w)=>match t.ev T with
  | .b x=>some (x==w)
  | .bad=>none
  | _=>some false
noncomputable def wT (call:cZ)(o:cM)(T:Tm)(S:St):Option (Tm×St) :=
 match ZS T o.gd with
 | some true =>
  match wm o.op call S (G2 T o.args)with
  | some (v,S')=>some (T.put v o.dst,S')
  | none=>none
 | some false=>some (T.put (.ay []) o.dst,S)
 | none=>none
noncomputable def Yh (call:cZ)(l:List cM):Tm→St→Option (Tm×St) :=
 List.rec (motive:=fun _=>Tm→St→Option (Tm×St)) (fun T S=>some (T,S)) (fun o _ ih T S=>match wT call o T S with
  | some (T',S')=>ih T' S'
  | none=>none) l
theorem wU (call:cZ)(o:cM)(r:List cM)(T:Tm)(S:St):Yh call (o::r) T S=match wT call o T S with
  | some (T',S')=>Yh call r T' S'
  | none=>none:=rfl
noncomputable def ZJ (call:cZ):List cM→Tm→St→Option (List (Tm×St))
 | [],T,S=>some [(T,S)]
 | o::r,T,S=>match wT call o T S with
  | some (T',S')=>(ZJ call r T' S').map ((T,S)::·)
  | none=>none
def znv:BinOp→BinOp→Bool
 | .add,.add | .sub,.sub | .mul,.mul | .quo,.quo | .rem,.rem | .and,.and | .or,.or | .xor,.xor | .andNot,.andNot | .shl,.shl | .shr,.shr=>true
 | _,_=>false
mutual
def At.beq:At→At→Bool
 | .v n,.v m=>Nat.beq n m
 | .op o k a b,.op p j c d=>znv o p&&eP k j&&Ln.beq a c&&Ln.beq b d
 | .wr k a,.wr j b=>eP k j&&Ln.beq a b
 | _,_=>false
def Ln.beq:Ln→Ln→Bool
 | .c n,.c m=>Ez n m
 | .t m a r,.t n b s=>Ez m n&&At.beq a b&&Ln.beq r s
 | _,_=>false
end
def Yg:AV→AV→Bool
 | .s x,.s y=>vq x y
 | .iF,.iF=>true
 | .mX,.mX=>true
 | .x j e,.x k f=>eP j k&&Ln.beq e f
 | .b x,.b y=>x==y
 | .i j x,.i k y=>eP j k&&Ez x y
 | .p none,.p none=>true
 | .p (some (a,i)),.p (some (b,j))=>Nat.beq a b&&Nat.beq i j
 | .sl none l c e,.sl none m d f=>Nat.beq l m&&Nat.beq c d&&Nat.beq e f
 | .sl (some (a,i)) l c e,.sl (some (b,j)) m d f=>Nat.beq a b&&Nat.beq i j&&Nat.beq l m&&Nat.beq c d&&Nat.beq e f
 | .m none,.m none=>true
 | .m (some a),.m (some b)=>Nat.beq a b
 | _,_=>false
def Qe:List AV→List AV→Bool
 | [],[]=>true
 | x::r,y::q=>Yg x y&&Qe r q
 | _,_=>false
def ve:AV→AV→Bool
 | .agg x,.agg y=>Qe x y
 | x,y=>Yg x y
noncomputable def W3 (ops:List cM)(tr:List (Tm×St))(c:Nat×Nat):Bool :=
 match ops[c.1]?,tr[c.1]?,tr[c.2]? with
 | some o,some (T,S),some (_,S') =>
  match ZS T o.gd with
  | some true =>
   match Zd o.op S.h (G2 T o.args),Zd o.op S'.h (G2 T o.args)with
   | some v,some v'=>ve v v'
   | _,_=>false
  | some false=>true
  | none=>false
 | _,_,_=>false
def ZO:List (Tm×St)→Option (Tm×St)
 | []=>none
 | [x]=>some x
 | _::r=>ZO r
def P8:List AV→Nat→List (Nat×AV)
 | [],_=>[]
 | v::r,n=>(n,v)::P8 r (Nat.succ n)
def zgA (vs:List AV):Tm:=⟨P8 vs 0,[]⟩
noncomputable def Vo (T:Tm)(h:PM AB):iq→Option AV
 | .tmp t=>some (t.ev T)
 | .cell t sz=>match t.ev T with
  | .p (some a)=>NC h a sz
  | _=>none
noncomputable def ND (T:Tm)(h:PM AB):List iq→Option (List AV)
 | []=>some []
 | r::rs=>match Vo T h r with
  | some v=>(ND T h rs).map (v::·)
  | none=>none
noncomputable def Is (T:Tm)(h:PM AB)(rs:List iq):Option AV :=
 match ND T h rs with
 | some [v]=>some v
 | some vs=>some (.ay vs)
 | none=>none
abbrev Ec:=br→Tm→St→Option (Ex×Tm×St)
noncomputable def xp (F:Nat→Option aT)(E:Ec):cZ:=fun f vs S =>
 match F f with
 | none=>none
 | some fn=>match E fn.body (zgA vs) S with
  | some (.norm,T',S') | some (.ret,T',S')=>(Is T' S'.h fn.res).map fun v=>(v,S')
  | _=>none
noncomputable def NA (call:cZ)(ops:List cM)(T:Tm)(S:St):Option (Ex×Tm×St) :=
 match Yh call ops { T with r:=[] } S with
 | some (T',S')=>some (.norm,T',S')
 | none=>none
noncomputable def zc2 (call:cZ)(ops:List cM)(Ag:List (Nat×Nat))(T:Tm)(S:St):Option (Ex×Tm×St) :=
 match ZJ call ops { T with r:=[] } S with
 | some tr=>bif Ag.all (W3 ops tr)then (ZO tr).map fun (T',S')=>(.norm,T',S')else none
 | none=>none
noncomputable def NB (E:Ec)(a b:br)(T:Tm)(S:St):Option (Ex×Tm×St) :=
 match E a T S with
 | some (.norm,T',S')=>E b T' S'
 | r=>r
noncomputable def Qc (E:Ec)(c:fT)(x y:br)(T:Tm)(S:St):Option (Ex×Tm×St) :=
 match c.ev T with
 | .b true=>E x T S
 | .b false=>E y T S
 | _=>none
noncomputable def Yb (E:Ec)(id:Nat)(c:br)(T:Tm)(S:St):Option (Ex×Tm×St) :=
 match E c T S with
 | some (.ex j,T',S')=>bif Nat.beq j id then some (.norm,T',S')else some (.ex j,T',S')
 | r=>r
noncomputable def UJ (E:Ec)(c:br)(T:Tm)(S:St):Option (Ex×Tm×St) :=
 match E c T S with
 | some (.norm,T',S')=>E (.loop c) T' S'
 | r=>r
noncomputable def xQ (F:Nat→Option aT)(E:Ec):Ec
 | .skip=>fun T S=>some (.norm,T,S)
 | .reg ops=>NA (xp F E) ops
 | .IF ops Ag=>zc2 (xp F E) ops Ag
 | .seq a b=>NB E a b
 | .cond c x y=>Qc E c x y
 | .block id c=>Yb E id c
 | .loop c=>UJ E c
 | .exit id=>fun T S=>some (.ex id,T,S)
 | .ret=>fun T S=>some (.ret,T,S)
noncomputable def Z9 (F:Nat→Option aT)(n:Nat):Ec:=Nat.rec (motive:=fun _=>Ec) (fun _ _ _=>none) (fun _ E=>xQ F E) n
noncomputable def zgT (F:Nat→Option aT)(n:Nat):cZ:=xp F (Z9 F n)
end
set_option linter.unusedVariables false
set_option linter.unusedSimpArgs false
section
open Go.RowKit (Below)
theorem VQ {α:Type}(u:Option α)(l r:PM α)(n:Nat):(WD u l r).get n=(PM.node u l r).get n:=by
 cases l<;>rfl
theorem VP {α:Type}(u:Option α)(l r:PM α)(n:Nat):(WC u l r).get n=(PM.node u l r).get n:=by
 cases r<;>rfl
theorem xu {α:Type}(u:Option α)(l r:PM α)(n:Nat) :
  (PM.node u l r).get n=if n=0 then u else if n % 2=1 then l.get (n / 2)else r.get (n / 2-1):=by
 show (bif Nat.beq n 0 then u else bif Nat.beq (n % 2) 1 then l.get (n / 2)else r.get (n / 2-1))=_
 by_cases h:n=0
 ·subst h;rfl
 ·have h0:Nat.beq n 0=false:=by
   cases hb:Nat.beq n 0
   ·rfl
   ·exact absurd (Nat.eq_of_beq_eq_true hb) h
  rw[if_neg h,h0]
  by_cases h1:n % 2=1
  ·rw[if_pos h1,h1];rfl
  ·have:n % 2=0:=by omega
   rw[if_neg h1,this];rfl
theorem YV {α:Type}(n:Nat):(PM.nil:PM α).get n=none:=rfl
theorem zdV {α:Type}(v:Option α):∀(f:Nat) (t:PM α) (n m:Nat),n<f→(PM.put v f t n).get m=if m=n then v else t.get m:=by
 intro f
 induction f with
 | zero=>intro t n m h;omega
 | succ f ih =>
  intro t n m h
  have h2:n % 2<2:=Nat.mod_lt _ (by omega)
  cases t with
  | nil =>
   show (bif Nat.beq n 0 then PM.node v .nil .nil else bif Nat.beq (n % 2) 1 then WD none (PM.put v f .nil (n / 2)) .nil else WC none .nil (PM.put v f .nil (n / 2-1))).get m=_
   by_cases h0:n=0
   ·subst h0
    show (PM.node v .nil .nil).get m=_
    rw[xu]
    by_cases hm:m=0
    ·simp[hm]
    ·simp[hm,YV]
   ·have hb:Nat.beq n 0=false:=by
     cases hb:Nat.beq n 0
     ·rfl
     ·exact absurd (Nat.eq_of_beq_eq_true hb) h0
    rw[hb]
    by_cases h1:n % 2=1
    ·rw[h1]
     show (WD none (PM.put v f .nil (n / 2)) .nil).get m=_
     rw[VQ,xu,ih _ _ _ (by omega)]
     by_cases hm:m=n
     ·subst hm;simp[h0,h1]
     ·simp only[hm,if_false,YV]
      repeat' split
      all_goals first | rfl | (exfalso;omega)
    ·have Mf:n % 2=0:=by omega
     rw[Mf]
     show (WC none .nil (PM.put v f .nil (n / 2-1))).get m=_
     rw[VP,xu,ih _ _ _ (by omega)]
     by_cases hm:m=n
     ·subst hm;simp[h0,h1]
     ·simp only[hm,if_false,YV]
      repeat' split
      all_goals first | rfl | (exfalso;omega)
  | node u l r =>
   show (bif Nat.beq n 0 then PM.node v l r else bif Nat.beq (n % 2) 1 then WD u (PM.put v f l (n / 2)) r else WC u l (PM.put v f r (n / 2-1))).get m=_
   by_cases h0:n=0
   ·subst h0
    show (PM.node v l r).get m=_
    rw[xu,xu]
    by_cases hm:m=0
    ·simp[hm]
    ·simp[hm]
   ·have hb:Nat.beq n 0=false:=by
     cases hb:Nat.beq n 0
     ·rfl
     ·exact absurd (Nat.eq_of_beq_eq_true hb) h0
    rw[hb]
    by_cases h1:n % 2=1
    ·rw[h1]
     show (WD u (PM.put v f l (n / 2)) r).get m=_
     rw[VQ,xu,xu,ih _ _ _ (by omega)]
     by_cases hm:m=n
     ·subst hm;simp[h0,h1]
     ·simp only[hm,if_false]
      repeat' split
      all_goals first | rfl | (exfalso;omega)
    ·have Mf:n % 2=0:=by omega
     rw[Mf]
     show (WC u l (PM.put v f r (n / 2-1))).get m=_
     rw[VP,xu,xu,ih _ _ _ (by omega)]
     by_cases hm:m=n
     ·subst hm;simp[h0,h1]
     ·simp only[hm,if_false]
      repeat' split
      all_goals first | rfl | (exfalso;omega)
theorem zS {α:Type}(t:PM α)(n m:Nat)(v:Option α):(t.set n v).get m=if m=n then v else t.get m :=
 zdV v (n+1) t n m (by omega)
abbrev Bt:=Nat→Option (Nat×Nat×Nat)
mutual
inductive VR (β:Bt):AV→Value→Prop
 | bad (v:Value):VR β .bad v
 | b (x:Bool):VR β (.b x) (.bool x)
 | i (k:IntKind) (n:Int):VR β (.i k n) (.int k n)
 | s (l:List UInt8):VR β (.s l) (.string ⟨l.toArray⟩)
 | pn:VR β (.p none) (.pointer none)
 | p {n k b o z:Nat} (h:β n=some (b,o,z)):VR β (.p (some (n,k))) (.pointer (some ⟨b,o+k,none⟩))
 | m9:VR β (.sl none 0 0 0) (.slice none 0 0)
 | sl {n k b o z len c c' off e:Nat} (h:β n=some (b,o,z)) (hl:len≤c) (hc:c≤c') (he:e=0→c'=c) (hz:e≠0→k+c' * e≤z) (ha:c'=0∨off=o+k) :
   VR β (.sl (some (n,k)) len c e) (.slice (some ⟨b,off,none⟩) len c')
 | mn:VR β (.m none) (.map none)
 | m {n b z:Nat} (h:β n=some (b,0,z)):VR β (.m (some n)) (.map (some b))
 | fn (f:Nat) {fs cs:List AV} {fs' cs':Array Value} (h1:aS β fs fs'.toList) (h2:aS β cs cs'.toList):VR β (.fn f fs cs) (.func (.func f) fs' cs')
 | iF:VR β .iF .nilFunc
 | FC (t:Nat) {v:AV} {v':Value} (h:VR β v v'):VR β (.FC t v) (.iface t v')
 | mX:VR β .mX .nilIface
 | agg {l:List AV} {l':Array Value} (h:aS β l l'.toList):VR β (.agg l) (.agg l')
 | ay {l:List AV} {l':Array Value} (h:aS β l l'.toList):VR β (.ay l) (.tuple l')
inductive aS (β:Bt):List AV→List Value→Prop
 | nil:aS β [] []
 | cons {v:AV} {v':Value} {l:List AV} {l':List Value} (h:VR β v v') (t:aS β l l'):aS β (v::l) (v'::l')
end
def Ext (β γ:Bt):Prop:=∀n x,β n=some x→γ n=some x
theorem Ext.refl (β:Bt):Ext β β:=fun _ _ h=>h
theorem Ext.trans {β γ δ:Bt}(h:Ext β γ)(k:Ext γ δ):Ext β δ:=fun n x e=>k n x (h n x e)
mutual
theorem VR.mono {β γ:Bt}(e:Ext β γ){v:AV}{v':Value}:VR β v v'→VR γ v v'
 | .bad v=>.bad v
 | .b x=>.b x
 | .i k n=>.i k n
 | .s l=>.s l
 | .pn=>.pn
 | .p h=>.p (e _ _ h)
 | .m9=>.m9
 | .sl h hl hc he hz ha=>.sl (e _ _ h) hl hc he hz ha
 | .mn=>.mn
 | .m h=>.m (e _ _ h)
 | .fn f h1 h2=>.fn f (aS.mono e h1) (aS.mono e h2)
 | .iF=>.iF
 | .FC t h=>.FC t (VR.mono e h)
 | .mX=>.mX
 | .agg h=>.agg (aS.mono e h)
 | .ay h=>.ay (aS.mono e h)
theorem aS.mono {β γ:Bt}(e:Ext β γ){l:List AV}{l':List Value}:aS β l l'→aS γ l l'
 | .nil=>.nil
 | .cons h t=>.cons (VR.mono e h) (aS.mono e t)
end
theorem aS.length {β:Bt}:∀{l:List AV} {l':List Value},aS β l l'→l.length=l'.length
 | _,_,.nil=>rfl
 | _,_,.cons _ t=>by simp[aS.length t]
theorem aS.get {β:Bt}:∀{l:List AV} {l':List Value} (_:aS β l l') {i:Nat} {v:AV},l[i]?=some v→∃v',l'[i]?=some v'∧VR β v v'
 | _,_,.nil,i,v,h=>by simp at h
 | _,_,.cons hv t,0,v,h=>by simp at h;subst h;exact⟨_,rfl,hv⟩
 | _,_,.cons _ t,i+1,v,h=>by
  obtain⟨v',h1,h2⟩:=aS.get t (i:=i) (by simpa using h)
  exact⟨v',by simpa using h1,h2⟩
theorem vz {β:Bt}:∀{l:List AV} {l':List Value},l.length=l'.length→(∀(i:Nat) v v',l[i]?=some v→l'[i]?=some v'→VR β v v')→aS β l l'
 | [],[],_,_=>.nil
 | [],_::_,h,_=>by simp at h
 | _::_,[],h,_=>by simp at h
 | v::l,v'::l',h,k=>.cons (k 0 v v' rfl rfl) (vz (by simpa using h) fun i a b ha hb=>k (i+1) a b (by simpa using ha) (by simpa using hb))
theorem aS.append {β:Bt}:∀{l:List AV} {l':List Value} {m:List AV} {m':List Value},aS β l l'→aS β m m'→aS β (l++m) (l'++m')
 | _,_,_,_,.nil,h=>h
 | _,_,_,_,.cons hv t,h=>.cons hv (aS.append t h)
theorem aS.take {β:Bt}:∀(n:Nat) {l:List AV} {l':List Value},aS β l l'→aS β (l.take n) (l'.take n)
 | 0,_,_,_=>by simp;exact .nil
 | n+1,_,_,.nil=>by simp;exact .nil
 | n+1,_,_,.cons hv t=>by simp;exact .cons hv (aS.take n t)
theorem aS.drop {β:Bt}:∀(n:Nat) {l:List AV} {l':List Value},aS β l l'→aS β (l.drop n) (l'.drop n)
 | 0,_,_,h=>by simpa using h
 | n+1,_,_,.nil=>by simp;exact .nil
 | n+1,_,_,.cons hv t=>by simpa using aS.drop n t
theorem VR.one {β:Bt}{v:AV}{v':Value}(h:VR β v v')(h1:v.one=true):v'.oneCell'=true:=by
 cases h<;>first | rfl | (simp[AV.one]at h1)
theorem aS.af {β:Bt}:∀{l:List AV} {l':List Value},aS β l l'→l.all AV.one=true→∀v∈l',v.oneCell'=true
 | _,_,.nil,_,v,hv=>by simp at hv
 | _,_,.cons h t,h1,v,hv=>by
  simp only[List.all_cons,Bool.and_eq_true]at h1
  rcases List.mem_cons.1 hv with rfl | hv
  ·exact h.one h1.1
  ·exact aS.af t h1.2 v hv
theorem VR.cells {β:Bt}{v:AV}{v':Value}{l:List AV}(h:VR β v v')(hc:v.cellsOf=some l):aS β l v'.cells.toList∧l.all AV.one=true:=by
 cases h with
 | agg h =>
  simp only[AV.cellsOf]at hc
  rename_i m m'
  cases hm:m.all AV.one
  ·rw[hm]at hc;simp at hc
  ·rw[hm]at hc;simp at hc;subst hc;exact⟨h,hm⟩
 | ay h=>simp[AV.cellsOf]at hc
 | bad=>simp[AV.cellsOf]at hc
 | _=>simp only[AV.cellsOf,Option.some.injEq]at hc;subst hc;exact⟨.cons (by constructor<;>assumption) .nil,rfl⟩
def vn (β:Bt)(c:List AV)(o:Nat)(cur:Array Value):Prop:=∀(i:Nat) v,c[i]?=some v→∃u,cur[o+i]?=some u∧VR β v u
inductive eD (β:Bt):List (AV×AV)→List MapEntry→Prop
 | nil:eD β [] []
 | cons {k:IntKind} {n:Int} {v:AV} {v':Value} {bn:Nat} {es:List (AV×AV)} {es':List MapEntry} (h:VR β v v') (t:eD β es es'):eD β ((.i k n,v)::es) (⟨.int k n,v',bn⟩::es')
theorem vn.mono {β γ:Bt}(e:Ext β γ){c:List AV}{o:Nat}{cur:Array Value}(h:vn β c o cur):vn γ c o cur :=
 fun i v hv=>let ⟨u,h1,h2⟩:=h i v hv;⟨u,h1,h2.mono e⟩
theorem eD.mono {β γ:Bt}(e:Ext β γ):∀{es:List (AV×AV)} {es':List MapEntry},eD β es es'→eD γ es es'
 | _,_,.nil=>.nil
 | _,_,.cons h t=>.cons (h.mono e) (eD.mono e t)
def AB.own:AB→Bool
 | .ro _=>false
 | _=>true
def BR (β:Bt)(B0:Nat)(heap:Array Obj)(b o z:Nat):AB→Prop
 | .cells c=>B0≤b∧∃cur t,heap[b]?=some (.cells cur t (0,0))∧o+z≤cur.size∧vn β c o cur
 | .ro c=>∃cur t fr,heap[b]?=some (.cells cur t fr)∧vn β c o cur
 | .map es=>B0≤b∧o=0∧∃ES gF,heap[b]?=some (.map ES gF)∧eD β es ES.toList
theorem BR.mono {β γ:Bt}(e:Ext β γ){B0:Nat}{heap:Array Obj}{b o z:Nat}:∀{cr:AB},BR β B0 heap b o z cr→BR γ B0 heap b o z cr
 | .cells _,⟨h0,cur,t,h1,hz,h2⟩=>⟨h0,cur,t,h1,hz,h2.mono e⟩
 | .ro _,⟨cur,t,fr,h1,h2⟩=>⟨cur,t,fr,h1,h2.mono e⟩
 | .map _,⟨h0,ho,ES,gF,h1,h2⟩=>⟨h0,ho,ES,gF,h1,h2.mono e⟩
theorem BR.congr {β:Bt}{B0:Nat}{heap heap':Array Obj}{b o z:Nat}(h:heap'[b]?=heap[b]?):∀{cr:AB},BR β B0 heap b o z cr→BR β B0 heap' b o z cr
 | .cells _,⟨h0,cur,t,h1,hz,h2⟩=>⟨h0,cur,t,h.trans h1,hz,h2⟩
 | .ro _,⟨cur,t,fr,h1,h2⟩=>⟨cur,t,fr,h.trans h1,h2⟩
 | .map _,⟨h0,ho,ES,gF,h1,h2⟩=>⟨h0,ho,ES,gF,h.trans h1,h2⟩
theorem BR.lt {β:Bt}{B0:Nat}{heap:Array Obj}{b o z:Nat}:∀{cr:AB},BR β B0 heap b o z cr→b<heap.size
 | .cells _,⟨_,_,_,h1,_,_⟩=>(Array.getElem?_eq_some_iff.1 h1).1
 | .ro _,⟨_,_,_,h1,_⟩=>(Array.getElem?_eq_some_iff.1 h1).1
 | .map _,⟨_,_,_,_,h1,_⟩=>(Array.getElem?_eq_some_iff.1 h1).1
theorem BR.le {β:Bt}{B0:Nat}{heap:Array Obj}{b o z:Nat}:∀{cr:AB},BR β B0 heap b o z cr→cr.own=true→B0≤b
 | .cells _,h,_=>h.1
 | .map _,h,_=>h.1
 | .ro _,_,h=>by simp[AB.own]at h
structure Rel (β:Bt)(B0:Nat)(h:PM AB)(w:World):Prop where
 cr:∀n bl b o z,h.get n=some bl→β n=some (b,o,z)→BR β B0 w.heap b o z bl
 inj:∀n m bl bm b x y,h.get n=some bl→h.get m=some bm→bl.own=true→β n=some (b,x)→β m=some (b,y)→n=m
 lt:∀n b x,β n=some (b,x)→b<w.heap.size
 le:B0≤w.heap.size
def Own (β:Bt)(h:PM AB)(b:Nat):Prop:=∃n bl x,h.get n=some bl∧bl.own=true∧β n=some (b,x)
structure dB (B0:Nat)(β:Bt)(S:St)(w:World)(γ:Bt)(S':St)(w':World):Prop where
 ext:Ext β γ
 dom:∀n,β n=none→γ n≠none→S.nx≤n∧n<S'.nx
 rel:Rel γ B0 S'.h w'
 ko:Below B0 w w'
 fr:∀b,b<w.heap.size→¬Own β S.h b→w'.heap[b]?=w.heap[b]?
 src:∀b,Own γ S'.h b→w.heap.size≤b∨Own β S.h b
 ph:∀n,n<S.nx→β n=none→S'.h.get n=S.h.get n
 nx:S.nx≤S'.nx
def WG (β:Bt)(n m:Nat):Prop:=∀k,n≤k→k<m→β k=none
theorem dB.refl {B0:Nat}{β:Bt}{S:St}{w:World}(h:Rel β B0 S.h w):dB B0 β S w β S w :=
 ⟨Ext.refl β,fun n h1 h2=>absurd h1 h2,h,Below.refl _ _,fun _ _ _=>rfl,fun b hb=>.inr hb,fun _ _ _=>rfl,Nat.le_refl _⟩
theorem dB.trans {B0:Nat}{β γ δ:Bt}{S S1 S2:St}{w w1 w2:World}(h:dB B0 β S w γ S1 w1)(k:dB B0 γ S1 w1 δ S2 w2):dB B0 β S w δ S2 w2 where
 ext:=h.ext.trans k.ext
 dom:=fun n h1 h2=>by
  cases hg:γ n with
  | none=>have:=k.dom n hg h2;have:=h.nx;exact⟨by omega,by omega⟩
  | some x=>have:=h.dom n h1 (by simp[hg]);have:=k.nx;exact⟨by omega,by omega⟩
 rel:=k.rel
 ko:=h.ko.trans k.ko
 fr:=fun b hb hn=>by
  rw[k.fr b (Nat.lt_of_lt_of_le hb h.ko.size) (fun ho=>(h.src b ho).elim (fun h'=>absurd hb (by omega)) hn),h.fr b hb hn]
 src:=fun b hb=>by
  rcases k.src b hb with h' | h'
  ·exact .inl (Nat.le_trans h.ko.size h')
  ·exact h.src b h'
 ph:=fun n hn hb=>by
  have hg:γ n=none:=by
   cases hg:γ n with
   | none=>rfl
   | some x=>have:=h.dom n hb (by simp[hg]);omega
  rw[k.ph n (Nat.lt_of_lt_of_le hn h.nx) hg,h.ph n hn hb]
 nx:=Nat.le_trans h.nx k.nx
theorem WG.left {β:Bt}{n m k:Nat}(h:WG β n k)(hm:m≤k):WG β n m:=fun j h1 h2=>h j h1 (by omega)
theorem WG.right {B0:Nat}{β γ:Bt}{S S':St}{w w':World}{m:Nat}(h:WG β S.nx m)(hs:dB B0 β S w γ S' w'):WG γ S'.nx m:=fun j h1 h2=>by
 cases hg:γ j with
 | none=>rfl
 | some x =>
  have h0:β j=none:=h j (Nat.le_trans hs.nx h1) h2
  have:=hs.dom j h0 (by simp[hg])
  omega
end
section
open Go.RowKit (Below)
theorem YF (b o j:Nat):(⟨b,o,none⟩:Addr).add j=⟨b,o+j,none⟩:=by unfold Addr.add;split<;>simp_all
theorem BR.reads {β:Bt}{B0:Nat}{w:World}{b o z:Nat}{bl:AB}{c:List AV}(h:BR β B0 w.heap b o z bl)(hr:bl.read=some c) :
  ∃cur t fr,w.heap[b]?=some (.cells cur t fr)∧vn β c o cur:=by
 cases bl with
 | cells c'=>simp[AB.read]at hr;subst hr;obtain⟨_,cur,t,h1,_,h2⟩:=h;exact⟨cur,t,_,h1,h2⟩
 | ro c'=>simp[AB.read]at hr;subst hr;obtain⟨cur,t,fr,h1,h2⟩:=h;exact⟨cur,t,fr,h1,h2⟩
 | map es=>simp[AB.read]at hr
theorem zfJ {w:World}{b i:Nat}{cur:Array Value}{t:TypeId}{fr:Nat×Nat}{u:Value}(h:w.heap[b]?=some (.cells cur t fr))(hu:cur[i]?=some u):w.cell? ⟨b,i,none⟩=some u:=by
 simp[World.cell?,h,hu]
theorem Uv {c l:List AV}{k n:Nat}(h:cut c k n=some l):l.length=n∧k+n≤c.length∧∀j v,l[j]?=some v→c[k+j]?=some v:=by
 unfold cut at h
 cases hb:Nat.ble (k+n) c.length with
 | false=>rw[hb]at h;cases h
 | true =>
  have hle:k+n≤c.length:=Nat.le_of_ble_eq_true hb
  rw[hb]at h
  have h':(c.drop k).take n=l:=by simpa using h
  subst h'
  refine⟨by simp;omega,hle,fun j v hv=>?_⟩
  rw[List.getElem?_take]at hv
  split at hv
  ·simpa using hv
  ·cases hv
theorem Vq {β:Bt}{B0:Nat}{h:PM AB}{w:World}(hR:Rel β B0 h w){n b o z k m:Nat}{bl:AB}{c l:List AV}(hg:h.get n=some bl)(hr:bl.read=some c)
  (hb:β n=some (b,o,z)) (hc:cut c k m=some l):∃l',aS β l l'∧∀j v',l'[j]?=some v'→w.cell? ⟨b,o+k+j,none⟩=some v':=by
 obtain⟨cur,t,fr,h1,h2⟩:=(hR.cr n bl b o z hg hb).reads hr
 obtain⟨hl,hle,ig⟩:=Uv hc
 have key:∀j,∀v,l[j]?=some v→∃u,cur[o+k+j]?=some u∧VR β v u:=fun j v hv=>by
  obtain⟨u,hu,uZ⟩:=h2 _ _ (ig j v hv)
  exact⟨u,by rw[Nat.add_assoc];exact hu,uZ⟩
 rcases Nat.eq_zero_or_pos l.length with h0 | h0
 ·obtain rfl:l=[]:=List.eq_nil_of_length_eq_zero h0
  exact⟨[],.nil,fun j v' hv=>by simp at hv⟩
 have hsz:o+k+l.length≤cur.size:=by
  obtain⟨u,hu,_⟩:=key (l.length-1) (l[l.length-1]'(by omega)) (by simp)
  have:=(Array.getElem?_eq_some_iff.1 hu).1
  omega
 refine⟨(cur.toList.drop (o+k)).take l.length,?_,?_⟩
 ·refine vz (by simp;omega) fun i v v' hv uZ=>?_
  obtain⟨u,hu,hr⟩:=key i v hv
  rw[List.getElem?_take]at uZ
  split at uZ
  ·rw[List.getElem?_drop,Array.getElem?_toList,hu]at uZ
   cases uZ
   exact hr
  ·cases uZ
 ·intro j v' uZ
  rw[List.getElem?_take]at uZ
  split at uZ
  ·rw[List.getElem?_drop,Array.getElem?_toList]at uZ
   exact zfJ h1 uZ
  ·cases uZ
theorem zci {β:Bt}{B0:Nat}{h:PM AB}{w:World}(hR:Rel β B0 h w){a:Nat×Nat}{m:Nat}{l:List AV}(hc:xE h (some a) m=some l){b o z:Nat}(hb:β a.1=some (b,o,z)) :
  l.length=m∧∃l',aS β l l'∧∀j v',l'[j]?=some v'→w.cell? ⟨b,o+a.2+j,none⟩=some v':=by
 unfold xE at hc
 obtain⟨r,k⟩:=a
 simp only at hc hb
 split at hc
 ·rename_i bl hg
  split at hc
  ·rename_i c hr
   exact⟨(Uv hc).1,Vq hR hg hr hb hc⟩
  ·cases hc
 ·cases hc
theorem zka {β:Bt}{B0:Nat}{h:PM AB}{w:World}(hR:Rel β B0 h w){a:Nat×Nat}{v:AV}(hc:NC h a none=some v){b o z:Nat}(hb:β a.1=some (b,o,z)) :
  ∃v',VR β v v'∧w.cell? ⟨b,o+a.2,none⟩=some v':=by
 unfold NC at hc
 obtain⟨r,k⟩:=a
 simp only at hc hb
 split at hc
 ·rename_i bl hg
  split at hc
  ·rename_i c hr
   obtain⟨cur,t,fr,h1,h2⟩:=(hR.cr r bl b o z hg hb).reads hr
   obtain⟨u,hu,hv⟩:=h2 k v hc
   exact⟨u,hv,zfJ h1 hu⟩
  ·cases hc
 ·cases hc
theorem zjc {β:Bt}{B0:Nat}{h:PM AB}{w:World}(hR:Rel β B0 h w){a:Nat×Nat}{sz:Nat}{v:AV}(hc:NC h a (some sz)=some v){b o z:Nat}(hb:β a.1=some (b,o,z)) :
  ∃l l',v=.agg l∧l.length=sz∧aS β l l'∧∀j v',l'[j]?=some v'→w.cell? ⟨b,o+a.2+j,none⟩=some v':=by
 unfold NC at hc
 obtain⟨r,k⟩:=a
 simp only at hc hb
 split at hc
 ·rename_i bl hg
  split at hc
  ·rename_i c hr
   simp only[zR]at hc
   cases hl:cut c k sz with
   | none=>rw[hl]at hc;cases hc
   | some l =>
    rw[hl]at hc
    cases hc
    obtain⟨l',h1,h2⟩:=Vq hR hg hr hb hl
    exact⟨l,l',rfl,(Uv hl).1,h1,h2⟩
  ·cases hc
 ·cases hc
theorem zej {β:Bt}{B0:Nat}{S:St}{w w':World}(hR:Rel β B0 S.h w){n b o z:Nat}{bl bl':AB}(hg:S.h.get n=some bl)(ho:bl.own=true)(ho':bl'.own=true)
  (hb:β n=some (b,o,z)) (hos:w'.os=w.os) (R8:w'.tape=w.tape) (Sf:w'.output=w.output) (hsz:w'.heap.size=w.heap.size)
  (gw:∀k,k≠b→w'.heap[k]?=w.heap[k]?) (Ae:BR β B0 w'.heap b o z bl'):dB B0 β S w β { S with h:=S.h.set n (some bl') } w':=by
 have hlb:B0≤b:=(hR.cr n bl b o z hg hb).le ho
 have Fw:∀m eU x,(S.h.set n (some bl')).get m=some eU→β m=some (b,x)→m=n:=by
  intro m eU x hm bX
  by_cases hmn:m=n
  ·exact hmn
  ·rw[zS,if_neg hmn]at hm
   exact (hR.inj n m bl eU b _ _ hg hm ho hb bX).symm
 refine⟨Ext.refl β,fun _ h1 h2=>absurd h1 h2,⟨?_,?_,?_,?_⟩,?_,?_,?_,?_,Nat.le_refl _⟩
 ·intro m eU b1 o1 z1 hm bX
  by_cases hmn:m=n
  ·subst hmn
   rw[zS,if_pos rfl]at hm
   cases hm
   rw[hb]at bX
   cases bX
   exact Ae
  ·have hm0:=hm
   rw[zS,if_neg hmn]at hm
   have hne:b1≠b:=fun e=>hmn (Fw m eU (o1,z1) hm0 (by rw[bX,e]))
   exact (hR.cr m eU b1 o1 z1 hm bX).congr (gw b1 hne)
 ·intro m k eU cr b1 x y hm hk u7 bX EK
  by_cases bP:b1=b
  ·subst bP
   rw[Fw m eU x hm bX,Fw k cr y hk EK]
  ·have hmn:m≠n:=fun e=>by subst e;rw[hb]at bX;cases bX;exact bP rfl
   have hkn:k≠n:=fun e=>by subst e;rw[hb]at EK;cases EK;exact bP rfl
   rw[zS,if_neg hmn]at hm
   rw[zS,if_neg hkn]at hk
   exact hR.inj m k eU cr b1 x y hm hk u7 bX EK
 ·intro m b1 x bX
  have:=hR.lt m b1 x bX
  omega
 ·have:=hR.le
  show B0≤w'.heap.size
  omega
 ·exact⟨hos,R8,Sf,by omega,fun k hk=>gw k (by omega)⟩
 ·intro k hk hn
  exact gw k fun e=>hn (e▸⟨n,bl,_,hg,ho,hb⟩)
 ·rintro k ⟨m,eU,x,hm,u7,bX⟩
  refine .inr ?_
  by_cases hmn:m=n
  ·subst hmn
   exact⟨m,bl,x,hg,ho,bX⟩
  ·change (S.h.set n (some bl')).get m=some eU at hm
   rw[zS,if_neg hmn]at hm
   exact⟨m,eU,x,hm,u7,bX⟩
 ·intro m hm bX
  have hmn:m≠n:=fun e=>by subst e;rw[hb]at bX;cases bX
  show (S.h.set n (some bl')).get m=_
  rw[zS,if_neg hmn]
theorem zb6 {β:Bt}{B0:Nat}{S:St}{w:World}(hR:Rel β B0 S.h w)(n:Nat)(hn:β n≠none):dB B0 β S w β { S with h:=S.h.set n none } w:=by
 have hge:∀m bl,(S.h.set n none).get m=some bl→S.h.get m=some bl:=by
  intro m bl hm
  rw[zS]at hm
  split at hm
  ·cases hm
  ·exact hm
 refine⟨Ext.refl β,fun _ h1 h2=>absurd h1 h2,⟨?_,?_,hR.lt,hR.le⟩,Below.refl _ _,fun _ _ _=>rfl,?_,?_,Nat.le_refl _⟩
 ·intro m eU b1 o1 z1 hm bX
  exact hR.cr m eU b1 o1 z1 (hge m eU hm) bX
 ·intro m k eU cr b1 x y hm hk u7 bX EK
  exact hR.inj m k eU cr b1 x y (hge m eU hm) (hge k cr hk) u7 bX EK
 ·rintro k ⟨m,eU,x,hm,u7,bX⟩
  exact .inr ⟨m,eU,x,hge m eU hm,u7,bX⟩
 ·intro m hm bX
  have hmn:m≠n:=fun e=>hn (e▸bX)
  show (S.h.set n none).get m=_
  rw[zS,if_neg hmn]
def jt (β:Bt)(n:Nat)(x:Nat×Nat×Nat):Bt:=fun m=>if m=n then some x else β m
theorem ZT {β:Bt}{n:Nat}{x:Nat×Nat×Nat}(h:β n=none):Ext β (jt β n x):=fun m y hy=>by
 unfold jt
 split
 ·rename_i e;subst e;rw[h]at hy;cases hy
 ·exact hy
theorem xq (β:Bt)(n:Nat)(x:Nat×Nat×Nat):jt β n x n=some x:=by simp[jt]
theorem zaf {β:Bt}{B0:Nat}{S:St}{w w':World}(hR:Rel β B0 S.h w){b o z:Nat}{bl:AB}(hfree:β S.nx=none)(ho:bl.own=true)
  (hos:w'.os=w.os) (R8:w'.tape=w.tape) (Sf:w'.output=w.output) (hsz:w.heap.size≤w'.heap.size) (gw:∀k,k≠b→k<w.heap.size→w'.heap[k]?=w.heap[k]?)
  (hno:∀m eU x,S.h.get m=some eU→m≠S.nx→β m≠some (b,x)) (hlb:B0≤b) (Ae:BR (jt β S.nx (b,o,z)) B0 w'.heap b o z bl) :
  Ext β (jt β S.nx (b,o,z))∧Rel (jt β S.nx (b,o,z)) B0 (S.h.set S.nx (some bl)) w'∧Below B0 w w':=by
 have fC:=ZT (x:=(b,o,z)) hfree
 refine⟨fC,⟨?_,?_,?_,?_⟩,⟨hos,R8,Sf,hsz,fun k hk=>gw k (by omega) (Nat.lt_of_lt_of_le hk hR.le)⟩⟩
 ·intro m eU b1 o1 z1 hm bX
  by_cases hmn:m=S.nx
  ·subst hmn
   rw[zS,if_pos rfl]at hm
   cases hm
   rw[xq]at bX
   cases bX
   exact Ae
  ·rw[zS,if_neg hmn]at hm
   simp only[jt,if_neg hmn]at bX
   have hne:b1≠b:=fun e=>hno m eU (o1,z1) hm hmn (by rw[bX,e])
   exact ((hR.cr m eU b1 o1 z1 hm bX).mono fC).congr (gw b1 hne (hR.lt m b1 _ bX))
 ·intro m k eU cr b1 x y hm hk u7 bX EK
  by_cases hmn:m=S.nx<;>by_cases hkn:k=S.nx
  ·rw[hmn,hkn]
  ·subst hmn
   rw[zS,if_neg hkn]at hk
   rw[xq]at bX
   simp only[jt,if_neg hkn]at EK
   cases bX
   exact absurd EK (hno k cr y hk hkn)
  ·subst hkn
   rw[zS,if_neg hmn]at hm
   rw[xq]at EK
   simp only[jt,if_neg hmn]at bX
   cases EK
   exact absurd bX (hno m eU x hm hmn)
  ·rw[zS,if_neg hmn]at hm
   rw[zS,if_neg hkn]at hk
   simp only[jt,if_neg hmn]at bX
   simp only[jt,if_neg hkn]at EK
   exact hR.inj m k eU cr b1 x y hm hk u7 bX EK
 ·intro m b1 x bX
  by_cases hmn:m=S.nx
  ·subst hmn
   rw[xq]at bX
   cases bX
   exact Ae.lt
  ·simp only[jt,if_neg hmn]at bX
   exact Nat.lt_of_lt_of_le (hR.lt m b1 x bX) hsz
 ·exact Nat.le_trans hR.le hsz
theorem zel {β:Bt}{B0:Nat}{S:St}{w w':World}(hR:Rel β B0 S.h w){z:Nat}{bl:AB}{x:Obj}(hfree:β S.nx=none)(ho:bl.own=true)
  (hos:w'.os=w.os) (R8:w'.tape=w.tape) (Sf:w'.output=w.output) (hh:w'.heap=w.heap.push x)
  (Ae:BR (jt β S.nx (w.heap.size,0,z)) B0 w'.heap w.heap.size 0 z bl) :
  dB B0 β S w (jt β S.nx (w.heap.size,0,z)) { h:=S.h.set S.nx (some bl),nx:=S.nx+1 } w':=by
 have gw:∀k,k<w.heap.size→w'.heap[k]?=w.heap[k]?:=fun k hk=>by rw[hh,Array.getElem?_push,if_neg (by omega)]
 have hsz:w'.heap.size=w.heap.size+1:=by rw[hh];simp
 obtain⟨h1,h2,h3⟩:=zaf hR hfree ho hos R8 Sf (by omega) (fun k _ hk=>gw k hk)
  (fun m eU y hm hmn hb=>by have:=hR.lt m _ _ hb;omega) hR.le Ae
 refine⟨h1,?_,h2,h3,fun b hb _=>gw b hb,?_,?_,by simp⟩
 ·intro n hn hg
  by_cases e:n=S.nx
  ·subst e;exact⟨Nat.le_refl _,Nat.lt_succ_self _⟩
  ·simp only[jt,if_neg e]at hg
   exact absurd hn hg
 ·rintro b ⟨m,eU,y,hm,u7,bX⟩
  by_cases e:m=S.nx
  ·subst e
   rw[xq]at bX
   cases bX
   exact .inl (Nat.le_refl _)
  ·change (S.h.set S.nx (some bl)).get m=some eU at hm
   rw[zS,if_neg e]at hm
   simp only[jt,if_neg e]at bX
   exact .inr ⟨m,eU,y,hm,u7,bX⟩
 ·intro n hn hb
  show (S.h.set S.nx (some bl)).get n=_
  rw[zS,if_neg (by omega)]
theorem zek {β:Bt}{B0:Nat}{S:St}{w w':World}(hR:Rel β B0 S.h w){r b o z:Nat}{y:Nat×Nat}{PU bl:AB}(hfree:β S.nx=none)(ho:bl.own=true)
  (hg:S.h.get r=some PU) (MU:PU.own=true) (hb:β r=some (b,y))
  (hos:w'.os=w.os) (R8:w'.tape=w.tape) (Sf:w'.output=w.output) (hsz:w'.heap.size=w.heap.size) (gw:∀k,k≠b→w'.heap[k]?=w.heap[k]?)
  (Ae:BR (jt β S.nx (b,o,z)) B0 w'.heap b o z bl) :
  dB B0 β S w (jt β S.nx (b,o,z)) { h:=(S.h.set r none).set S.nx (some bl),nx:=S.nx+1 } w':=by
 have hs:=zb6 hR r (by rw[hb];simp)
 have hrn:r≠S.nx:=fun e=>by rw[e,hfree]at hb;cases hb
 have hlb:B0≤b:=(hR.cr r PU b _ _ hg hb).le MU
 obtain⟨h1,h2,h3⟩:=zaf (S:={ S with h:=S.h.set r none }) hs.rel hfree ho hos R8 Sf (by omega) (fun k hk _=>gw k hk)
  (fun m eU x hm hmn bX=>by
   change (S.h.set r none).get m=some eU at hm
   rw[zS]at hm
   split at hm
   ·cases hm
   ·rename_i hmr
    exact hmr (hR.inj r m PU eU b _ _ hg hm MU hb bX).symm) hlb Ae
 refine⟨h1,?_,h2,h3,?_,?_,?_,by simp⟩
 ·intro n hn hgn
  by_cases e:n=S.nx
  ·subst e;exact⟨Nat.le_refl _,Nat.lt_succ_self _⟩
  ·simp only[jt,if_neg e]at hgn
   exact absurd hn hgn
 ·intro k hk hn
  exact gw k fun e=>hn (e▸⟨r,PU,_,hg,MU,hb⟩)
 ·rintro k ⟨m,eU,x,hm,u7,bX⟩
  refine .inr ?_
  by_cases e:m=S.nx
  ·subst e
   rw[xq]at bX
   cases bX
   exact⟨r,PU,_,hg,MU,hb⟩
  ·change ((S.h.set r none).set S.nx (some bl)).get m=some eU at hm
   rw[zS,if_neg e,zS]at hm
   split at hm
   ·cases hm
   ·simp only[jt,if_neg e]at bX
    exact⟨m,eU,x,hm,u7,bX⟩
 ·intro n hn gD
  show ((S.h.set r none).set S.nx (some bl)).get n=_
  rw[zS,if_neg (by omega),zS,if_neg (fun e=>by rw[e,hb]at gD;cases gD)]
theorem XJ (w:World)(g:Nat)(c:Array Value):(w.setRow g c).heap.size=w.heap.size:=by simp[World.setRow]
theorem Y2 (w:World)(g:Nat)(c:Array Value)(k:Nat)(h:k≠g):(w.setRow g c).heap[k]?=w.heap[k]?:=by
 simp only[World.setRow,Array.getElem?_modify]
 rw[if_neg (by omega)]
theorem U1 {w:World}{g:Nat}{cur:Array Value}{t:TypeId}(c:Array Value)(h:w.heap[g]?=some (.cells cur t (0,0))):(w.setRow g c).heap[g]?=some (.cells c t (0,0)) :=
 setRow_heap w g cur c t _ h
theorem Vl (c vs:List AV)(k:Nat)(h:k+vs.length≤c.length)(i:Nat) :
  (zo c k vs)[i]?=if i<k then c[i]? else if i<k+vs.length then vs[i-k]? else c[i]?:=by
 unfold zo
 rw[List.append_assoc,List.getElem?_append]
 have h1:(c.take k).length=k:=by simp;omega
 rw[h1]
 split
 ·rw[List.getElem?_take,if_pos (by assumption)]
 ·rw[List.getElem?_append]
  split
  ·rename_i h2 h3
   rw[if_pos (by omega)]
  ·rename_i h2 h3
   rw[if_neg (by omega),List.getElem?_drop]
   congr 1
   omega
theorem Xq {P:Program}{β:Bt}{B0:Nat}{S:St}{w:World}(hR:Rel β B0 S.h w){a:Nat×Nat}{vs:List AV}{vs':List Value}{h':PM AB}(hw:wb S.h a vs=some h')
  {b o z:Nat} (hb:β a.1=some (b,o,z)) (hv:aS β vs vs') :
  ∃w',(storeCells ⟨b,o+a.2,none⟩ vs').run P w=.ok () w'∧dB B0 β S w β { S with h:=h' } w':=by
 obtain⟨r,k⟩:=a
 simp only[wb]at hw
 simp only at hb ⊢
 split at hw
 ·rename_i c hg
  cases hc:(Nat.ble (k+vs.length) c.length&&vs.all AV.one)with
  | false=>rw[hc]at hw;cases hw
  | true =>
   rw[hc]at hw
   simp only[Bool.and_eq_true]at hc
   have hle:k+vs.length≤c.length:=Nat.le_of_ble_eq_true hc.1
   obtain⟨h0,cur,t,hh,hz,EJ⟩:=hR.cr r _ b o z hg hb
   have hlen:=hv.length
   have h1:=hv.af hc.2
   have hsz:o+k+vs'.length≤cur.size:=by
    rcases Nat.eq_zero_or_pos vs.length with hv0 | hv0
    ·by_cases hk:k=0
     ·have:=hR.cr r _ b o z hg hb
      omega
     ·have dA:k-1<c.length:=by omega
      obtain⟨u,hu,_⟩:=EJ (k-1) _ (List.getElem?_eq_getElem dA)
      have:=(Array.getElem?_eq_some_iff.1 hu).1
      omega
    ·have dA:k+vs.length-1<c.length:=by omega
     obtain⟨u,hu,_⟩:=EJ (k+vs.length-1) _ (List.getElem?_eq_getElem dA)
     have:=(Array.getElem?_eq_some_iff.1 hu).1
     omega
   refine⟨_,run_storeCells_at P b (o+k) t vs' 0 cur w hh (by omega) h1,?_⟩
   cases hw
   refine zej hR hg rfl rfl hb rfl rfl rfl (XJ _ _ _) (fun j hj=>Y2 _ _ _ _ hj) ⟨h0,_,t,U1 _ hh,?_,?_⟩
   ·simp only[List.size_toArray,List.length_append,List.length_take,List.length_drop,Array.length_toList]
    omega
   ·intro i v hi
    rw[Vl c vs k hle]at hi
    rw[List.getElem?_toArray,List.append_assoc,List.getElem?_append]
    have eI:(cur.toList.take (o+k+0)).length=o+k:=by simp;omega
    rw[eI]
    by_cases hik:i<k
    ·rw[if_pos hik]at hi
     obtain⟨u,hu,hv⟩:=EJ i v hi
     rw[if_pos (by omega),List.getElem?_take,if_pos (by omega),Array.getElem?_toList]
     exact⟨u,hu,hv⟩
    ·rw[if_neg hik]at hi
     rw[if_neg (by omega),List.getElem?_append]
     by_cases hi2:i<k+vs.length
     ·rw[if_pos hi2]at hi
      rw[if_pos (by omega)]
      obtain⟨u,hu,hv⟩:=hv.get hi
      exact⟨u,by rw[show o+i-(o+k)=i-k by omega];exact hu,hv⟩
     ·rw[if_neg hi2]at hi
      obtain⟨u,hu,hv⟩:=EJ i v hi
      rw[if_neg (by omega),List.getElem?_drop,Array.getElem?_toList]
      exact⟨u,by rw[show o+k+0+vs'.length+(o+i-(o+k)-vs'.length)=o+i by omega];exact hu,hv⟩
 ·cases hw
end
section
def UW:Value→Option AV
 | .bool x=>some (.b x)
 | .int k n=>some (.i k n)
 | .string s=>some (.s s.data.toList)
 | .pointer none=>some (.p none)
 | .slice none 0 0=>some (.sl none 0 0 0)
 | .map none=>some (.m none)
 | .nilFunc=>some .iF
 | .nilIface=>some .mX
 | _=>none
def vZ {α β:Type}(f:α→Option β):List α→Option (List β)
 | []=>some []
 | x::r=>match f x with
  | some y=>(vZ f r).map (y::·)
  | none=>none
def Mn:Value→Option AV
 | .agg cs=>(vZ UW cs.toList).map .agg
 | v=>UW v
def aK (ps:Nat)(t:Nat):Bool:=ps.testBit t
def Et (ps:Nat)(t:Nat):fT:=bif aK ps t then .l t else .t t
def w8 (ps nt:Nat):Operand→Option fT
 | .tmp t=>bif Nat.blt t nt then some (Et ps t)else none
 | .const v=>(Mn v).map .c
 | .global _=>none
 | .func f=>some (.c (.fn f [] []))
section
variable (P:Program)
def vr (t:TypeId):Option (List AV) :=
 match P.info? t with
 | some i=>match i.zero with
  | some z=>match vZ UW z.cells.toList with
   | some l=>bif Nat.beq l.length i.size then some l else none
   | none=>none
  | none=>none
 | none=>none
def P5 (t:TypeId):Option AV :=
 match P.info? t with
 | some i=>match i.zero with
  | some z=>Mn z
  | none=>none
 | none=>none
def yE (t:TypeId):Option Nat:=(P.info? t).map (·.size)
def zb4 (t:TypeId):Option Nat:=(P.info? t).map (·.bytes)
def Nz (t:TypeId):Option Bool :=
 match P.underlying t with
 | some (.struct _)=>some true
 | some (.array _ _)=>some true
 | some _=>some false
 | none=>none
def wD (t:TypeId):Option (Option Nat) :=
 match Nz P t,yE P t with
 | some true,some n=>some (some n)
 | some false,some _=>some none
 | _,_=>none
def Ze (t:TypeId):Option Nat :=
 match P.underlying t with
 | some .bool=>some 0
 | some (.int _)=>some 1
 | some .string=>some 2
 | _=>none
def y5:List Field→Option (List (Nat×Nat))
 | []=>some []
 | f::r=>match Ze P f.type with
  | some g => bif f.name == "_" then none else (y5 r).map ((f.offset, g) :: ·)
  | none=>none
def vJ (fs:List Field):Option (List (Nat×Nat)):=vZ (fun f=>(yE P f.type).map fun s=>(f.offset,s)) fs
def Ub (t:TypeId)(parts:List (Nat×Operand)):Option (List (Nat×Nat)) :=
 match P.underlying t with
 | some (.struct fs)=>match vJ P fs.toList with
  | some pl=>vZ (fun p=>pl[p.1]?) parts
  | none=>none
 | some (.array _ e)=>match yE P e with
  | some s=>some (parts.map fun p=>(p.1 * s,s))
  | none=>none
 | _=>none
def wu (t:TypeId):Bool:=match P.underlying t with | some (.int _)=>true | _=>false
def YC (ng:Bool)(t:TypeId):Option cV :=
 match P.underlying t with
 | some .bool=>some (.eq ng .bool)
 | some (.pointer e)=>match yE P e with
  | some s=>bif Nat.beq s 0 then none else some (.eq ng .ptr)
  | none=>none
 | some (.slice _)=>some (.eq ng .slnil)
 | some (.map _ _)=>some (.eq ng .ot)
 | some (.func _ _ _)=>some (.eq ng .Nh)
 | some (.interface _)=>some (.eq ng .FC)
 | some (.struct fs)=>bif P.stoodInHeld t then none else (y5 P fs.toList).map fun l=>.eq ng (.agg l)
 | _=>none
def Mk:BinOp→Bool
 | .eql | .neq=>true
 | _=>false
def Xk:BinOp→Bool
 | .neq=>true
 | _=>false
def wq (b:Builtin)(argTypes:Array TypeId)(args:Array Operand):Option (cV×List Operand) :=
 match b,argTypes.toList with
 | .len,[t]=>match P.underlying t with
  | some .string=>some (.RV,args.toList)
  | some (.slice _)=>some (.ax,args.toList)
  | some (.map _ _)=>some (.HC,args.toList)
  | some (.array n _)=>some (.RW n,args.toList)
  | _=>none
 | .cap,[t]=>match P.underlying t with
  | some (.slice _)=>some (.OG,args.toList)
  | _=>none
 | .min,_=>some (.min,args.toList)
 | .max,_=>some (.max,args.toList)
 | .append,[t,u]=>match P.underlying t,P.underlying u with
  | some (.slice e),some (.slice _)=>match yE P e,zb4 P e,vr P e with
   | some s,some Nq,some _=>bif Nat.beq s 0||Nat.beq Nq 0 then none else some (.app s Nq,args.toList)
   | _,_,_=>none
  | _,_=>none
 | .clear,[t]=>match P.underlying t with
  | some (.slice e)=>match vr P e with
   | some z=>some (.Nn z,args.toList)
   | none=>none
  | _=>none
 | .copy,[t,u]=>match P.underlying t,P.underlying u with
  | some (.slice e),some (.slice _)=>match yE P e with
   | some s=>some (.TW s,args.toList)
   | none=>none
  | _,_=>none
 | .delete,[t,_]=>match P.underlying t with
  | some (.map k _)=>bif wu P k then some (.om,args.toList)else none
  | _=>none
 | _,_=>none
def ze1:Operand→Bool
 | .tmp _=>true
 | _=>false
def Zv (o:Oper):Option (cV×List Operand) :=
 match o.op with
 | .move x | .assign x=>some (.mv,[x])
 | .pick c a b=>some (.pick,[c,a,b])
 | .alloc e=>(vr P e).map fun z=>(.alloc z,[])
 | .box _ x=>some (.box,[x])
 | .build t parts =>
  match vr P t,Ub P t parts.toList with
  | some z,some ps=>some (.build z ps,parts.toList.map (·.2))
  | _,_=>none
 | .buildSlice t len parts =>
  match P.underlying t with
  | some (.slice e)=>match yE P e,vr P e with
   | some s,some z=>bif Nat.ble (len * s) 16777216 then some (.aC z len s (parts.toList.map (·.1)),parts.toList.map (·.2))else none
   | _,_=>none
  | _=>none
 | .load t a=>(wD P t).map fun s=>(.ld s,[a])
 | .store t a x=>(yE P t).map fun s=>(.st s,[a,x])
 | .nilCheck x=>some (.aa,[x])
 | .binOp op t x y _ =>
  match P.underlying t with
  | some (.int _)=>some (.bin op,[x,y])
  | some .string=>some (.Qj op,[x,y])
  | _=>bif Mk op then (YC P (Xk op) t).map fun a=>(a,[x,y])else none
 | .unOp op _ x=>some (.un op,[x])
 | .convert a b x =>
  match P.underlying a,P.underlying b with
  | some (.int _),some (.int k)=>some (.TV k,[x])
  | some .string,some .string=>some (.TU,[x])
  | some (.slice e),some .string=>match P.underlying e with
   | some (.int .u8)=>some (.JA,[x])
   | _=>none
  | _,_=>none
 | .makeInterface t x=>match P.underlying t with
  | some (.interface _)=>none
  | some _=>some (.RS t,[x])
  | none=>none
 | .makeFunc (.func f) fst cap=>some (.HD f fst.size,fst.toList++cap.toList)
 | .makeMap _ none=>some (.iH,[])
 | .makeSlice t l c=>match P.underlying t with
  | some (.slice e)=>match vr P e,zb4 P e with
   | some z,some n=>bif Nat.beq n 0 then none else some (.FA z n,[l,c])
   | _,_=>none
  | _=>none
 | .slice t x lo hi mx=>match P.underlying t with
  | some (.slice e)=>bif mx.isSome&&hi.isNone then none else (yE P e).map fun s=>(.slc s lo.isSome hi.isSome mx.isSome,[x]++lo.toList++hi.toList++mx.toList)
  | some .string=>bif mx.isNone then some (.Qh lo.isSome hi.isSome,[x]++lo.toList++hi.toList)else none
  | _=>none
 | .fieldAddr t x f=>match P.underlying t with
  | some (.struct fs)=>match fs[f]? with
   | some g=>match yE P g.type with
    | some s=>bif Nat.beq s 0 then none else some (.aj g.offset,[x])
    | none=>none
   | none=>none
  | _=>none
 | .field t x f=>match P.underlying t with
  | some (.struct fs)=>match fs[f]? with
   | some g=>(wD P g.type).map fun s=>(.fld g.offset s,[x])
   | none=>none
  | _=>none
 | .indexAddr t x i=>match P.underlying t with
  | some (.slice e)=>(yE P e).map fun s=>(.aX s,[x,i])
  | some (.array n e)=>(yE P e).map fun s=>(.zlg n s,[x,i])
  | _=>none
 | .index t x i=>match P.underlying t with
  | some (.array n e)=>match wD P e,yE P e with
   | some sh,some s=>some (.ixA n s sh.isSome,[x,i])
   | _,_=>none
  | some .string=>some (.ixS,[x,i])
  | _=>none
 | .lookup t x i ok=>match P.underlying t with
  | some (.map k e)=>bif wu P k then (P5 P e).map fun z=>(.mY z ok,[x,i])else none
  | _=>none
 | .mapUpdate t m k v=>match P.underlying t with
  | some (.map kt _)=>bif wu P kt then some (.oh,[m,k,v])else none
  | _=>none
 | .extract t k=>some (.ext k,[t])
 | .call c=>match c.callee with
  | .builtin b=>wq P b c.argTypes c.args
  | .value (.func f)=>some (.call f,c.args.toList)
  | .value x=>bif ze1 x then some (.eX,x::c.args.toList)else none
  | .invoke _ _=>none
 | _=>none
def vx (ps:Nat)(ops:Array Oper)(nt:Nat):Option (Nat×Bool)→Option (Option (fT×Bool))
 | none=>some none
 | some (j,w)=>match (ops[j]?).bind (·.dst)with
  | some t=>bif Nat.blt t nt then some (some (Et ps t,w))else none
  | none=>none
def Uy (ps:Nat)(ops:Array Oper)(nt:Nat)(o:Oper):Option cM :=
 match Zv P o,vx ps ops nt o.guard with
 | some (op,xs),some gd=>match vZ (w8 ps nt) xs with
  | some args=>match o.dst with
   | none=>some ⟨.no,gd,op,args⟩
   | some d=>bif Nat.blt d nt then some ⟨bif aK ps d then .l d else .t d,gd,op,args⟩else none
  | none=>none
 | _,_=>none
def wG (o:Oper):List Nat:=(o.after.toList.filter fun e=>Region.binds .any e).map (·.on)
def xB:List (List Nat)→List Nat→List Nat
 | [],acc=>acc
 | ds::r,acc=>xB r (acc++[ds.foldl (fun s e=>s ||| 2 ^ e ||| acc.getD e 0) 0])
def HW (b:List Nat)(i j:Nat):Bool:=(b.getD j 0).testBit i
def Nw.tm:Nw→Option Nat
 | .no=>none
 | .l n=>some n
 | .t n=>some n
def fT.tm:fT→Option Nat
 | .l n=>some n
 | .t n=>some n
 | .c _=>none
def Vh (o:cM):List Nat:=o.dst.tm.toList++(o.gd.bind (·.1.tm)).toList++o.args.filterMap fT.tm
def eR (o:cM):Bool:=match o.op.cl with | .E=>true | _=>false
def cV.mem:cV→Bool
 | .ld _ | .mY .. | .HC | .JA=>true
 | .eq _ .ptr=>true
 | _=>false
def YJ (ops:List cM)(b:List Nat):Bool :=
 ops.zipIdx.all fun (o,i)=>match o.dst.tm with
  | none=>true
  | some d=>ops.zipIdx.all fun (p,j)=>Nat.beq i j||!((Vh p).contains d)||(bif Nat.blt i j then HW b i j else HW b j i)
def zfx (ops:List cM)(b:List Nat):Bool :=
 ops.zipIdx.all fun (o,i)=>!eR o||ops.zipIdx.all fun (p,j)=>!eR p||!Nat.blt i j||HW b i j
def Wy (ps:List (List Nat)):Bool:=ps.zipIdx.all fun (ds,j)=>ds.all fun i=>Nat.blt i j
def Ip (ops:List cM):List Nat:=(ops.zipIdx.filter fun (o,_)=>eR o).map (·.2)
def Nj (es:List Nat)(b:List Nat)(r p:Nat):Bool:=es.all fun e=>(!HW b e r||Nat.blt e p)&&(!HW b r e||Nat.ble p e)
def Mw (es:List Nat)(r p:Nat):Bool:=es.all fun e=>Nat.blt e p==Nat.blt e r
def zfH (ops:List cM)(b:List Nat):List (Nat×Nat) :=
 let es:=Ip ops
 (ops.zipIdx.map fun (o,r) =>
  bif o.op.mem then ((0::es.map Nat.succ).filter fun p=>Nj es b r p&&!Mw es r p).map fun p=>(r,p)
  else []).flatten
def zbC (ps nt:Nat)(ops:Array Oper)(draw:Bool):Option br :=
 match vZ (Uy P ps ops nt) ops.toList with
 | none=>none
 | some l =>
  bif draw then
   let ds:=ops.toList.map wG
   let b:=xB ds []
   bif Wy ds&&YJ l b&&zfx l b then
    match zfH l b with
    | []=>some (.reg l)
    | c=>some (.IF l c)
   else none
  else some (.reg l)
def xN (ps nt:Nat):Code→Option br
 | .skip=>some .skip
 | .region _ ops d=>zbC P ps nt ops d
 | .seq a b=>match xN ps nt a,xN ps nt b with
  | some x,some y=>some (.seq x y)
  | _,_=>none
 | .cond c a b=>match w8 ps nt c,xN ps nt a,xN ps nt b with
  | some c,some x,some y=>some (.cond c x y)
  | _,_,_=>none
 | .block id c=>(xN ps nt c).map (.block id)
 | .loop c=>(xN ps nt c).map .loop
 | .exit id=>some (.exit id)
 | .ret=>some .ret
 | _=>none
def YT (ps nt:Nat):ResultVar→Option iq
 | .tmp t=>bif Nat.blt t nt then some (.tmp (Et ps t))else none
 | .cell t ty=>bif Nat.blt t nt then (wD P ty).map (.cell (Et ps t))else none
def Ws (ps:Nat)(f:Func):Option aT :=
 match f.body with
 | none=>none
 | some c => bif !(f.name == "runtime.NumGoroutine") then
   match xN P ps f.ntmps c,vZ (YT P ps f.ntmps) f.results.toList with
   | some b,some r=>some ⟨b,r⟩
   | _,_=>none
  else none
end
end
section
theorem zq (a b:Nat):Nat.beq a b=decide (a=b):=by
 cases h:Nat.beq a b
 ·symm;rw[decide_eq_false_iff_not];intro e;subst e;simp at h
 ·symm;rw[decide_eq_true_eq];exact Nat.eq_of_beq_eq_true h
theorem zp (a b:Nat):Nat.ble a b=decide (a≤b):=by
 cases h:Nat.ble a b
 ·symm;rw[decide_eq_false_iff_not];intro e;have:=Nat.ble_eq_true_of_le e;rw[h]at this;cases this
 ·symm;rw[decide_eq_true_eq];exact Nat.le_of_ble_eq_true h
theorem yV (a b:Nat):Nat.blt a b=decide (a<b):=by
 show Nat.ble (a+1) b=_
 rw[zp];rfl
theorem wE (a b:Int):Ez a b=(a==b):=by
 cases a<;>cases b<;>simp only[Ez,zq]
 ·rename_i x y
  rw[Bool.eq_iff_iff];simp;omega
 ·symm;rw[beq_eq_false_iff_ne];nofun
 ·symm;rw[beq_eq_false_iff_ne];nofun
 ·rename_i x y
  rw[Bool.eq_iff_iff];simp;omega
theorem Zk (a b:Int):IW a b=decide (a<b):=by
 cases a<;>cases b<;>simp only[IW,yV]<;>rw[Bool.eq_iff_iff]<;>simp<;>omega
theorem YP {a b:IntKind}:eP a b=true↔a=b:=by cases a<;>cases b<;>simp[eP]
theorem zd4 {n:Int}(h:Ny n=true):IntKind.i64.wrap n=n:=by
 have h':-9223372036854775808≤n∧n<9223372036854775808:=by
  cases n with
  | ofNat m=>simp only[Ny,yV,decide_eq_true_eq]at h;constructor<;>(simp only[Int.ofNat_eq_natCast];omega)
  | negSucc m=>simp only[Ny,yV,decide_eq_true_eq]at h;constructor<;>omega
 obtain⟨h1,h2⟩:=h'
 have e1:(2:Int) ^ IntKind.i64.bits=18446744073709551616:=by decide
 have e2:(2:Int) ^ (IntKind.i64.bits-1)=9223372036854775808:=by decide
 unfold IntKind.wrap
 simp only[e1,e2]
 by_cases hc:0≤n
 ·rw[if_neg (by simp[IntKind.signed];omega)]
  omega
 ·rw[if_pos (by simp[IntKind.signed];omega)]
  omega
theorem zf5 (k:IntKind)(n:Int):wr k n=k.wrap n:=by
 cases k<;>simp only[wr]
 cases h:Ny n
 ·rfl
 ·exact (zd4 h).symm
theorem zgM {P:Program}{w:World}{op:BinOp}{k:IntKind}{a b:Int}{v:AV}(t:TypeId)(hs:Fk op=false)(h:GC op k a b=some v) :
  ∃v',(binOp op t (.int k a) (.int k b)).run P w=.ok v' w∧∀β,VR β v v':=by
 cases op<;>simp only[Fk]at hs<;>simp only[GC,zf5,wE,Zk,Option.some.injEq]at h
 case add=>subst h;exact⟨_,by simp[binOp,Op.intArith],fun _=>.i _ _⟩
 case sub=>subst h;exact⟨_,by simp[binOp,Op.intArith],fun _=>.i _ _⟩
 case mul=>subst h;exact⟨_,by simp[binOp,Op.intArith],fun _=>.i _ _⟩
 case quo =>
  cases hb:(b==0)
  ·rw[hb]at h;simp at h;subst h
   have hb0:b≠0:=by simpa using hb
   exact⟨_,by simp[binOp,Op.intDiv,hb0],fun _=>.i _ _⟩
  ·rw[hb]at h;cases h
 case rem =>
  cases hb:(b==0)
  ·rw[hb]at h;simp at h;subst h
   have hb0:b≠0:=by simpa using hb
   exact⟨_,by simp[binOp,Op.intDiv,hb0],fun _=>.i _ _⟩
  ·rw[hb]at h;cases h
 case and=>subst h;exact⟨_,by simp[binOp,Op.intBits],fun _=>.i _ _⟩
 case or=>subst h;exact⟨_,by simp[binOp,Op.intBits],fun _=>.i _ _⟩
 case xor=>subst h;exact⟨_,by simp[binOp,Op.intBits],fun _=>.i _ _⟩
 case andNot=>subst h;exact⟨_,by simp[binOp,Op.intBits],fun _=>.i _ _⟩
 case eql=>subst h;exact⟨_,by simp[binOp,Op.intCmp],fun _=>.b _⟩
 case neq=>subst h;exact⟨.bool (a != b),by simp[binOp,Op.intCmp],fun _=>.b _⟩
 case lss=>subst h;exact⟨_,by simp[binOp,Op.intCmp],fun _=>.b _⟩
 case leq=>subst h;exact⟨.bool (decide (a≤b)),by simp[binOp,Op.intCmp],fun _=>by
  have:(!decide (b<a))=decide (a≤b):=by rw[Bool.eq_iff_iff];simp
  rw[this];exact .b _⟩
 case gtr=>subst h;exact⟨.bool (decide (a > b)),by simp[binOp,Op.intCmp],fun _=>.b _⟩
 case geq=>subst h;exact⟨.bool (decide (a≥b)),by simp[binOp,Op.intCmp],fun _=>by
  have:(!decide (a<b))=decide (a≥b):=by rw[Bool.eq_iff_iff];simp
  rw[this];exact .b _⟩
 case shl=>cases hs
 case shr=>cases hs
theorem zhC {P:Program}{w:World}{op:BinOp}{k j:IntKind}{a b:Int}{v:AV}(t:TypeId)(h:shI op k a b=some v) :
  ∃v',(binOp op t (.int k a) (.int j b)).run P w=.ok v' w∧∀β,VR β v v':=by
 unfold shI at h
 rw[Zk]at h
 cases hb:decide (b<0)with
 | true=>rw[hb]at h;cases h
 | false =>
  rw[hb]at h
  have hb':¬b<0:=by simpa using hb
  cases op<;>simp only[cond_false,Option.some.injEq,zf5]at h<;>first | cases h | skip
  ·exact⟨_,by simp only[binOp,Op.shift,if_neg hb'];rfl,fun _=>.i _ _⟩
  ·exact⟨_,by simp only[binOp,Op.shift,if_neg hb'];rfl,fun _=>.i _ _⟩
theorem ZI:∀(x y:List UInt8),vq x y=(x==y)
 | [],[]=>rfl
 | [],_::_=>rfl
 | _::_,[]=>rfl
 | a::x,b::y=>by
  simp only[vq,ZI x y,zq]
  rw[Bool.eq_iff_iff]
  simp[UInt8.toNat_inj]
theorem VM:∀(x y:List UInt8),Z1 x y=Op.bytesLess x y
 | [],[]=>rfl
 | _::_,[]=>rfl
 | [],_::_=>rfl
 | a::x,b::y=>by
  simp only[Z1,Op.bytesLess,VM x y,zq,yV]
  rw[Bool.eq_iff_iff]
  simp[UInt8.lt_iff_toNat_lt,UInt8.toNat_inj]
theorem XB (l:List UInt8):(ByteArray.mk l.toArray).toList=l:=by
 rw[ByteArray.toList_eq]
theorem zfO (x y:List UInt8):ByteArray.mk x.toArray++ByteArray.mk y.toArray=ByteArray.mk (x++y).toArray:=by
 apply ByteArray.ext
 simp[ByteArray.data_append]
theorem V1 (l:List UInt8):(ByteArray.mk l.toArray).size=l.length:=by
 show (l.toArray).size=_
 simp
theorem zgL {P:Program}{w:World}{op:BinOp}{x y:List UInt8}{v:AV}(t:TypeId)(h:Nr op x y=some v) :
  ∃v',(binOp op t (.string ⟨x.toArray⟩) (.string ⟨y.toArray⟩)).run P w=.ok v' w∧∀β,VR β v v':=by
 have hb:binOp op t (.string ⟨x.toArray⟩) (.string ⟨y.toArray⟩)=Op.stringOp op ⟨x.toArray⟩ ⟨y.toArray⟩:=by cases op<;>rfl
 rw[hb]
 cases op<;>simp only[Nr,ZI,VM,yV,Option.some.injEq]at h<;>simp only[Op.stringOp,XB,V1]
 case add =>
  cases hc:decide (x.length+y.length<9223372036854775808)with
  | false=>rw[hc]at h;cases h
  | true =>
   rw[hc]at h
   simp at h hc
   subst h
   refine⟨.string ⟨(x++y).toArray⟩,?_,fun _=>.s _⟩
   rw[if_neg (by simp;omega),zfO];rfl
 all_goals first
  | (subst h;exact⟨_,rfl,fun _=>.b _⟩)
  | cases h
theorem Xo {P:Program}{t:TypeId}{g:Nat}(h:Ze P t=some g)(d:Nat):P.eqGuardType (d+1) t=false:=by
 unfold Ze at h
 split at h<;>first | (cases h;done) | simp[Program.eqGuardType, *]
theorem vp {P : Program} : ∀ {fs : List Field} {l : List (Nat × Nat)}, y5 P fs = some l → ∀ f ∈ fs, (∃ g, Ze P f.type = some g) ∧ f.name ≠ "_"
 | [],_,_,f,hf=>by cases hf
 | f::fs,l,h,g,hg=>by
  unfold y5 at h
  split at h
  ·rename_i tg htg
   cases hb : (f.name == "_") with
   | true=>rw[hb]at h;cases h
   | false =>
    rw[hb]at h
    cases hr:y5 P fs with
    | none=>rw[hr]at h;cases h
    | some r =>
     rcases List.mem_cons.1 hg with rfl | hg
     ·exact⟨⟨tg,htg⟩,by simpa using hb⟩
     ·exact vp hr g hg
  ·cases h
theorem Yy {P:Program}{t:TypeId}{fs:Array Field}{l:List (Nat×Nat)}(hu:P.underlying t=some (.struct fs))(h:y5 P fs.toList=some l):P.eqGuardType P.depth t=false:=by
 obtain⟨d,hd⟩:∃d,P.depth=d+2:=⟨_,rfl⟩
 rw[hd,show d+2=(d+1)+1 from rfl,Program.eqGuardType]
 simp only[hu]
 rw[←Array.any_toList,List.any_eq_false]
 intro f hf
 obtain⟨g,hg⟩:=(vp h f hf).1
 rw[Xo hg d]
 simp
theorem zav {P:Program}{w:World}{β:Bt}{a b:AV}{a' b':Value}{t:TypeId}{g:Nat}(ha:VR β a a')(hb:VR β b b')(hs:Ze P t=some g){r:Bool}(h:P7 g a b=some r)(d:Nat) :
  (Op.equalIn (d+1) t a' b').run P w=.ok r w:=by
 unfold Ze at hs
 split at hs<;>first | (cases hs;done) | skip
 ·rename_i hu
  cases hs
  cases a<;>cases b<;>simp only[P7]at h<;>first | (cases h;done) | skip
  cases ha;cases hb
  cases h
  exact run_equalIn_bool w d t _ _ hu
 ·rename_i k' hu
  cases hs
  cases a<;>cases b<;>simp only[P7]at h<;>first | (cases h;done) | skip
  cases ha;cases hb
  rename_i j n k m
  cases hk:eP j k with
  | false=>rw[hk]at h;cases h
  | true =>
   rw[hk]at h
   have:=YP.1 hk
   subst this
   simp at h
   subst h
   rw[wE]
   exact run_equalIn_int w d t _ _ _ _ hu
 ·rename_i hu
  cases hs
  cases a<;>cases b<;>simp only[P7]at h<;>first | (cases h;done) | skip
  cases ha;cases hb
  simp at h
  subst h
  rw[ZI,run_equalIn_string w d t _ _ hu,XB,XB]
theorem Yu {P:Program}{w:World}{t:TypeId}{x:Bool}(h:Nz P t=some x):(isAgg t).run P w=.ok x w:=by
 unfold Nz at h
 split at h
 ·rename_i fs hu;cases h;simp[isAgg,run_underlying hu]
 ·rename_i n e hu;cases h;simp[isAgg,run_underlying hu]
 ·rename_i d h1 h2 hu
  cases h
  simp only[isAgg,Sem.run_bind,run_underlying hu,Result.andThen_ok]
  cases d<;>first | rfl | (exact absurd rfl (h1 _ )) | (exact absurd rfl (h2 _ _))
 ·cases h
theorem yO {P:Program}{w:World}{t:TypeId}{n:Nat}(h:yE P t=some n):(sizeOf t).run P w=.ok n w:=by
 unfold yE at h
 cases hi:P.info? t with
 | none=>rw[hi]at h;cases h
 | some i=>rw[hi]at h;cases h;simp[sizeOf,run_typeInfo w hi]
theorem zcb {P:Program}{t:TypeId}{g:Nat}(h:Ze P t=some g):Nz P t=some false:=by
 unfold Ze at h
 split at h<;>first | (cases h;done) | simp[Nz, *]
theorem Ue {P:Program}{w:World}{t:TypeId}{cs:Array Value}{off:Nat}{v:Value}(h:Nz P t=some false)(hv:cs[off]?=some v):(part t cs off).run P w=.ok v w:=by
 simp[part,Yu h,hv]
theorem zcP {P:Program}{w:World}{β:Bt}{xs ys:List AV}{xs' ys':Array Value}(hx:aS β xs xs'.toList)(hy:aS β ys ys'.toList)(d:Nat) :
  ∀{fs:List Field} {l:List (Nat×Nat)} {r:Bool},y5 P fs=some l→LN xs ys l=some r→(Op.eqFields (d+1) xs' ys' fs).run P w=.ok r w
 | [],l,r,h,he=>by
  simp only[y5,Option.some.injEq]at h
  subst h
  simp only[LN,Option.some.injEq]at he
  subst he
  simp[Op.eqFields]
 | f::fs,l,r,h,he=>by
  have hall:=vp h f (by simp)
  unfold y5 at h
  split at h
  ·rename_i tg htg
   cases hb : (f.name == "_") with
   | true=>rw[hb]at h;cases h
   | false =>
    rw[hb]at h
    cases hr:y5 P fs with
    | none=>rw[hr]at h;cases h
    | some l' =>
     rw[hr]at h
     simp at h
     subst h
     simp only[LN]at he
     split at he
     ·rename_i x y R5 hye
      obtain⟨x',hx1,FF⟩:=hx.get R5
      obtain⟨y',hy1,gq⟩:=hy.get hye
      have oU:=Ue (P:=P) (w:=w) (zcb htg) (by rw[←Array.getElem?_toList];exact hx1)
      have GS:=Ue (P:=P) (w:=w) (zcb htg) (by rw[←Array.getElem?_toList];exact hy1)
      simp only[Op.eqFields,if_pos hall.2,Sem.run_bind,oU,GS,Result.andThen_ok]
      split at he
      ·rename_i hq
       rw[zav FF gq htg hq d]
       simp only[Result.andThen_ok,Bool.not_true,Bool.false_eq_true,if_false]
       exact zcP hx hy d hr he
      ·rename_i hq
       rw[zav FF gq htg hq d]
       cases he
       simp
      ·cases he
     ·cases he
  ·cases h
theorem U4 {P:Program}{β:Bt}{B0:Nat}{h:PM AB}{w:World}(hR:Rel β B0 h w){n m b c o o' z z' i j:Nat}(hn:β n=some (b,o,z))(hm:β m=some (c,o',z')){r:Bool}
  (he:eqP h (some (n,i)) (some (m,j))=some r):(sameAddr ⟨b,o+i,none⟩ ⟨c,o'+j,none⟩).run P w=.ok r w:=by
 simp only[eqP,zq]at he
 by_cases hnm:n=m
 ·subst hnm
  rw[hn]at hm
  cases hm
  simp at he
  subst he
  have hq:((⟨b,o+i,none⟩:Addr)==⟨b,o+j,none⟩)=decide (i=j):=by
   rw[Bool.eq_iff_iff]
   simp
  simp only[sameAddr,beq_self_eq_true,if_true,hq]
  rfl
 ·simp only[hnm,decide_false,cond_false]at he
  cases hl:(live h n&&live h m)with
  | false=>rw[hl]at he;cases he
  | true =>
   rw[hl]at he
   simp at he
   subst he
   simp only[Bool.and_eq_true,live]at hl
   obtain⟨h1,h2⟩:=hl
   split at h1
   ·rename_i c1 Sq
    split at h2
    ·rename_i c2 hg2
     have hbc:b≠c:=fun e=>by
      subst e
      exact hnm (hR.inj n m _ _ b _ _ Sq hg2 rfl hn hm)
     obtain⟨_,zqn,t1,fR,_,_⟩:=hR.cr n _ b o z Sq hn
     obtain⟨_,zqm,t2,GX,_,_⟩:=hR.cr m _ c o' z' hg2 hm
     have f1:∀k,w.frozen? ⟨b,k,none⟩=false:=fun k=>by simp[World.frozen?,fR]
     have f2:∀k,w.frozen? ⟨c,k,none⟩=false:=fun k=>by simp[World.frozen?,GX]
     have s1:w.shape? b=some (t1,zqn.size):=by simp[World.shape?,fR]
     have s2:w.shape? c=some (t2,zqm.size):=by simp[World.shape?,GX]
     have hbe:(b==c)=false:=by simpa using hbc
     simp[sameAddr,hbe,f1,f2,noView,viewAt,s1,s2,mayBeOne,stringish]
    ·cases h2
   ·cases h1
theorem zdt {op:BinOp}(h:Mk op=true):(op=.eql∧Xk op=false)∨(op=.neq∧Xk op=true):=by
 cases op<;>simp[Mk]at h<;>simp[Xk]
def za9:Value→Value→Bool
 | .int _ _,_ | _,.int _ _ | .float _ _,_ | .complex _ _ _,_ | .string _,_=>false
 | _,_=>true
theorem zaL {t:TypeId}{a b:Value}(h:za9 a b=true) :
  binOp .eql t a b=(do pure (.bool (←Op.equal t a b)))∧binOp .neq t a b=(do pure (.bool (!(←Op.equal t a b)))):=by
 cases a<;>cases b<;>first | (simp[za9]at h;done) | exact⟨rfl,rfl⟩
theorem yw {P:Program}{w:World}{op:BinOp}{t:TypeId}{x y:Operand}{a b:Value}{r:Bool}(hop:Mk op=true)(hp:za9 a b=true)(hg:(eqGuard op t x y a b).run P w=.ok () w)
  (he:∀d,(Op.equalIn (d+2) t a b).run P w=.ok r w):((do eqGuard op t x y a b;binOp op t a b):Sem Value).run P w=.ok (.bool (r != Xk op)) w:=by
 have h1:=zaL (t:=t) hp
 have he:(Op.equalIn Op.maxDepth t a b).run P w=.ok r w:=he 9998
 rcases zdt hop with⟨rfl,hn⟩ | ⟨rfl,hn⟩
 ·rw[h1.1,hn]
  simp[hg,Op.equal,he]
 ·rw[h1.2,hn]
  simp[hg,Op.equal,he]
section
variable {P:Program} {w:World} {t:TypeId} (d:Nat)
theorem Zq {e:TypeId}(hu:P.underlying t=some (.pointer e))(b:Option Addr):(Op.equalIn (d+1) t (.pointer none) (.pointer b)).run P w=.ok b.isNone w:=by
 simp only[Op.equalIn,Sem.run_bind,run_underlying hu,Result.andThen_ok];rfl
theorem Xm {e:TypeId}(hu:P.underlying t=some (.pointer e))(a:Addr):(Op.equalIn (d+1) t (.pointer (some a)) (.pointer none)).run P w=.ok false w:=by
 simp only[Op.equalIn,Sem.run_bind,run_underlying hu,Result.andThen_ok];rfl
theorem zbv {e:TypeId}{s:Nat}(hu:P.underlying t=some (.pointer e))(hs:yE P e=some s)(h0:s≠0){a b:Addr}{r:Bool}(h:(sameAddr a b).run P w=.ok r w) :
  (Op.equalIn (d+1) t (.pointer (some a)) (.pointer (some b))).run P w=.ok r w:=by
 simp only[Op.equalIn,Sem.run_bind,run_underlying hu,Result.andThen_ok,yO hs,if_pos h0,Sem.run_ite,ne_eq,h0,not_false_eq_true,if_true,h]
theorem ZP {e:TypeId}(hu:P.underlying t=some (.slice e))(n m k l:Nat)(b:Option Addr):(Op.equalIn (d+1) t (.slice none n m) (.slice b k l)).run P w=.ok b.isNone w:=by
 simp only[Op.equalIn,Sem.run_bind,run_underlying hu,Result.andThen_ok];rfl
theorem Wj {e:TypeId}(hu:P.underlying t=some (.slice e))(n m k l:Nat)(b:Addr):(Op.equalIn (d+1) t (.slice (some b) n m) (.slice none k l)).run P w=.ok false w:=by
 simp only[Op.equalIn,Sem.run_bind,run_underlying hu,Result.andThen_ok];rfl
theorem Zr {e f:TypeId}(hu:P.underlying t=some (.map e f))(b:Option Nat):(Op.equalIn (d+1) t (.map none) (.map b)).run P w=.ok b.isNone w:=by
 simp only[Op.equalIn,Sem.run_bind,run_underlying hu,Result.andThen_ok];rfl
theorem Xn {e f:TypeId}(hu:P.underlying t=some (.map e f))(b:Nat):(Op.equalIn (d+1) t (.map (some b)) (.map none)).run P w=.ok false w:=by
 simp only[Op.equalIn,Sem.run_bind,run_underlying hu,Result.andThen_ok];rfl
theorem ZQ {ps rs:Array TypeId}{v:Bool}(hu:P.underlying t=some (.func ps rs v)):(Op.equalIn (d+1) t .nilFunc .nilFunc).run P w=.ok true w:=by
 simp only[Op.equalIn,Sem.run_bind,run_underlying hu,Result.andThen_ok];rfl
theorem Zs {ps rs:Array TypeId}{v:Bool}(hu:P.underlying t=some (.func ps rs v))(f:Fn)(a b:Array Value):(Op.equalIn (d+1) t .nilFunc (.func f a b)).run P w=.ok false w:=by
 simp only[Op.equalIn,Sem.run_bind,run_underlying hu,Result.andThen_ok];rfl
theorem Wn {ps rs:Array TypeId}{v:Bool}(hu:P.underlying t=some (.func ps rs v))(f:Fn)(a b:Array Value):(Op.equalIn (d+1) t (.func f a b) .nilFunc).run P w=.ok false w:=by
 simp only[Op.equalIn,Sem.run_bind,run_underlying hu,Result.andThen_ok];rfl
theorem Wm {ms:Array (String×TypeId)}(hu:P.underlying t=some (.interface ms))(x:TypeId)(v:Value):(Op.equalIn (d+1) t .nilIface (.iface x v)).run P w=.ok false w:=by
 simp only[Op.equalIn,Sem.run_bind,run_underlying hu,Result.andThen_ok];rfl
theorem Wl {ms:Array (String×TypeId)}(hu:P.underlying t=some (.interface ms))(x:TypeId)(v:Value):(Op.equalIn (d+1) t (.iface x v) .nilIface).run P w=.ok false w:=by
 simp only[Op.equalIn,Sem.run_bind,run_underlying hu,Result.andThen_ok];rfl
end
theorem zjD {P:Program}{β:Bt}{B0:Nat}{h:PM AB}{w:World}(hR:Rel β B0 h w){op:BinOp}(hop:Mk op=true){t:TypeId}(x y:Operand){ng:Bool}{k:Nv}{a b:AV}{a' b':Value}{r:Bool}
  (hc:YC P (Xk op) t=some (.eq ng k)) (ha:VR β a a') (hb:VR β b b') (hs:FY h k a b=some r) :
  ng=Xk op∧((do eqGuard op t x y a' b';binOp op t a' b'):Sem Value).run P w=.ok (.bool (r != Xk op)) w:=by
 have g0:∀{u v:Value},(∃z,u=.bool z)∨(∃z,u=.pointer z)∨(∃z n m,u=.slice z n m)∨(∃z,u=.map z)∨(∃f c d,u=.func f c d)∨u=.nilFunc→(eqGuard op t x y u v).run P w=.ok () w:=by
  rintro u v (⟨z,rfl⟩ | ⟨z,rfl⟩ | ⟨z,n,m,rfl⟩ | ⟨z,rfl⟩ | ⟨f,c,d,rfl⟩ | rfl)<;>simp[eqGuard_at_bool,eqGuard_at_pointer,eqGuard_at_slice,eqGuard_at_map,eqGuard_at_func,eqGuard_at_nilFunc]
 unfold YC at hc
 split at hc
 ·rename_i hu
  cases hc
  refine⟨rfl,?_⟩
  cases a<;>cases b<;>simp only[FY]at hs<;>first | (cases hs;done) | skip
  cases ha;cases hb;cases hs
  exact yw hop rfl (g0 (.inl ⟨_,rfl⟩)) (fun d=>run_equalIn_bool w _ t _ _ hu)
 ·rename_i e hu
  split at hc
  ·rename_i s hsz
   rw[zq]at hc
   by_cases hs0:s=0
   ·simp[hs0]at hc
   ·simp only[hs0,decide_false,cond_false,Option.some.injEq,cV.eq.injEq]at hc
    obtain⟨rfl,rfl⟩:=hc
    refine⟨rfl,?_⟩
    cases a<;>cases b<;>simp only[FY]at hs<;>first | (cases hs;done) | skip
    cases ha with
    | pn =>
     cases hb with
     | pn=>cases hs;exact yw hop rfl (g0 (.inr (.inl ⟨_,rfl⟩))) (fun d=>Zq _ hu _)
     | p hb=>cases hs;exact yw hop rfl (g0 (.inr (.inl ⟨_,rfl⟩))) (fun d=>Zq _ hu _)
    | p ha =>
     cases hb with
     | pn=>cases hs;exact yw hop rfl (g0 (.inr (.inl ⟨_,rfl⟩))) (fun d=>Xm _ hu _)
     | p hb =>
      have:=U4 (P:=P) hR ha hb hs
      exact yw hop rfl (g0 (.inr (.inl ⟨_,rfl⟩))) (fun d=>zbv _ hu hsz hs0 this)
  ·cases hc
 ·rename_i e hu
  cases hc
  refine⟨rfl,?_⟩
  cases a<;>cases b<;>simp only[FY]at hs<;>first | (cases hs;done) | skip
  cases ha with
  | m9 =>
   cases hb with
   | m9=>cases hs;exact yw hop rfl (g0 (.inr (.inr (.inl ⟨_,_,_,rfl⟩)))) (fun d=>ZP _ hu _ _ _ _ _)
   | sl=>cases hs;exact yw hop rfl (g0 (.inr (.inr (.inl ⟨_,_,_,rfl⟩)))) (fun d=>ZP _ hu _ _ _ _ _)
  | sl =>
   cases hb with
   | m9=>cases hs;exact yw hop rfl (g0 (.inr (.inr (.inl ⟨_,_,_,rfl⟩)))) (fun d=>Wj _ hu _ _ _ _ _)
   | sl=>cases hs
 ·rename_i e1 e2 hu
  cases hc
  refine⟨rfl,?_⟩
  cases a<;>cases b<;>simp only[FY]at hs<;>first | (cases hs;done) | skip
  cases ha with
  | mn =>
   cases hb with
   | mn=>cases hs;exact yw hop rfl (g0 (.inr (.inr (.inr (.inl ⟨_,rfl⟩))))) (fun d=>Zr _ hu _)
   | m=>cases hs;exact yw hop rfl (g0 (.inr (.inr (.inr (.inl ⟨_,rfl⟩))))) (fun d=>Zr _ hu _)
  | m =>
   cases hb with
   | mn=>cases hs;exact yw hop rfl (g0 (.inr (.inr (.inr (.inl ⟨_,rfl⟩))))) (fun d=>Xn _ hu _)
   | m=>cases hs
 ·rename_i e1 e2 e3 hu
  cases hc
  refine⟨rfl,?_⟩
  cases a<;>cases b<;>simp only[FY]at hs<;>first | (cases hs;done) | skip
  ·cases ha;cases hb;cases hs
   exact yw hop rfl (g0 (.inr (.inr (.inr (.inr (.inl ⟨_,_,_,rfl⟩)))))) (fun d=>Wn _ hu _ _ _)
  ·cases ha;cases hb;cases hs
   exact yw hop rfl (g0 (.inr (.inr (.inr (.inr (.inr rfl)))))) (fun d=>by first | exact ZQ _ hu | exact Zs _ hu _ _ _)
  ·cases ha;cases hb;cases hs
   exact yw hop rfl (g0 (.inr (.inr (.inr (.inr (.inr rfl)))))) (fun d=>by first | exact ZQ _ hu | exact Zs _ hu _ _ _)
 ·rename_i e hu
  cases hc
  refine⟨rfl,?_⟩
  cases a<;>cases b<;>simp only[FY]at hs<;>first | (cases hs;done) | skip
  ·cases ha;cases hb;cases hs
   exact yw hop rfl (by rw[eqGuard_at_iface];rfl) (fun d=>Wl _ hu _ _)
  ·cases ha;cases hb;cases hs
   exact yw hop rfl (by rw[eqGuard_nil_iface];rfl) (fun d=>Wm _ hu _ _)
 ·rename_i fs hu
  cases hh:P.stoodInHeld t with
  | true=>rw[hh]at hc;cases hc
  | false =>
   rw[hh]at hc
   cases hf:y5 P fs.toList with
   | none=>rw[hf]at hc;cases hc
   | some l =>
    rw[hf]at hc
    simp at hc
    obtain⟨rfl,rfl⟩:=hc
    refine⟨rfl,?_⟩
    cases a<;>cases b<;>simp only[FY]at hs<;>first | (cases hs;done) | skip
    cases ha with
    | agg ha =>
     cases hb with
     | agg hb =>
      have hfo:P.fieldsOf t=fs:=by simp[Program.fieldsOf,hu]
      have hd:=Yy hu hf
      refine yw hop rfl (run_eqGuard_agg w op t x y _ _ hd) fun d=>?_
      rw[run_equalIn_struct w (d+1) t _ _ (by rw[hfo];exact hu) hh,hfo]
      exact zcP ha hb d hf hs
 ·cases hc
end
section
theorem zb2 {β:Bt}{v:Value}{a:AV}(h:UW v=some a):VR β a v:=by
 unfold UW at h
 split at h<;>first | (cases h;done) | skip
 ·cases h;exact .b _
 ·cases h;exact .i _ _
 ·rename_i s;cases h;exact .s s.data.toList
 ·cases h;exact .pn
 ·cases h;exact .m9
 ·cases h;exact .mn
 ·cases h;exact .iF
 ·cases h;exact .mX
theorem vl {α γ:Type}{f:α→Option γ}:∀{l:List α} {m:List γ},vZ f l=some m→l.length=m.length
 | [],m,h=>by simp[vZ]at h;subst h;rfl
 | x::l,m,h=>by
  unfold vZ at h
  split at h
  ·cases hr:vZ f l with
   | none=>rw[hr]at h;cases h
   | some r=>rw[hr]at h;cases h;simp[vl hr]
  ·cases h
theorem vF {α γ:Type}{f:α→Option γ}:∀{l:List α} {m:List γ},vZ f l=some m→∀(i:Nat) (x:α),l[i]?=some x→∃y,f x=some y∧m[i]?=some y
 | [],m,h,i,x,hx=>by simp at hx
 | z::l,m,h,i,x,hx=>by
  unfold vZ at h
  split at h
  ·rename_i y hy
   cases hr:vZ f l with
   | none=>rw[hr]at h;cases h
   | some r =>
    rw[hr]at h;cases h
    cases i with
    | zero=>simp at hx;subst hx;exact⟨y,hy,rfl⟩
    | succ i=>simpa using vF hr i x (by simpa using hx)
  ·cases h
theorem zcA {β:Bt}{l:List Value}{m:List AV}(h:vZ UW l=some m):aS β m l:=by
 refine vz (vl h).symm fun i a v ha hv=>?_
 obtain⟨y,hy,hm⟩:=vF h i v hv
 rw[ha]at hm
 cases hm
 exact zb2 hy
theorem za2 {β:Bt}{v:Value}{a:AV}(h:Mn v=some a):VR β a v:=by
 unfold Mn at h
 split at h
 ·rename_i cs
  cases hr:vZ UW cs.toList with
  | none=>rw[hr]at h;cases h
  | some l=>rw[hr]at h;cases h;exact .agg (zcA hr)
 ·exact zb2 h
theorem Ya {P:Program}{w:World}{t:TypeId}{i:TypeInfo}{z:Value}(hi:P.info? t=some i)(hz:i.zero=some z):(zeroValue t).run P w=.ok z w:=by
 simp[zeroValue,run_typeInfo w hi,hz]
theorem wk {P:Program}{t:TypeId}{l:List AV}(h:vr P t=some l):∃i z,P.info? t=some i∧i.zero=some z∧(∀β,aS β l z.cells.toList)∧l.length=i.size∧l.all AV.one=true:=by
 unfold vr at h
 split at h
 ·rename_i i hi
  split at h
  ·rename_i z hz
   split at h
   ·rename_i m hm
    rw[zq]at h
    by_cases hl:m.length=i.size
    ·simp[hl]at h
     subst h
     refine⟨i,z,hi,hz,fun β=>zcA hm,hl,?_⟩
     rw[List.all_eq_true]
     intro a ha
     obtain⟨k,hk⟩:=List.mem_iff_getElem?.1 ha
     have hlen:=vl hm
     have dA:k<z.cells.toList.length:=by
      have:=(List.getElem?_eq_some_iff.1 hk).1
      omega
     obtain⟨y,hy,hm2⟩:=vF hm k _ (List.getElem?_eq_getElem dA)
     rw[hk]at hm2
     cases hm2
     unfold UW at hy
     split at hy<;>first | (cases hy;done) | (cases hy;rfl)
    ·simp[hl]at h
   ·cases h
  ·cases h
 ·cases h
theorem zcK (off:Nat):∀(vs:List Value) (k:Nat) (cells:Array Value),off+k+vs.length≤cells.size →
  ((vs.zipIdx k).foldl (fun cs p=>cs.setIfInBounds (off+p.2) p.1) cells).size=cells.size ∧
  ∀i,((vs.zipIdx k).foldl (fun cs p=>cs.setIfInBounds (off+p.2) p.1) cells)[i]?=if off+k≤i∧i<off+k+vs.length then vs[i-(off+k)]? else cells[i]?
 | [],k,cells,h=>by
  refine⟨rfl,fun i=>?_⟩
  rw[if_neg (by simp only[List.length_nil];omega)]
  rfl
 | v::vs,k,cells,h=>by
  simp only[List.length_cons]at h
  obtain⟨h1,h2⟩:=zcK off vs (k+1) (cells.setIfInBounds (off+k) v) (by rw[Array.size_setIfInBounds];omega)
  simp only[List.zipIdx_cons,List.foldl_cons]
  refine⟨by rw[h1];simp,fun i=>?_⟩
  rw[h2 i]
  by_cases hi:i=off+k
  ·subst hi
   have hlt:off+k<cells.size:=by omega
   rw[if_neg (by omega),if_pos (by simp)]
   simp[hlt]
  ·by_cases hc:off+(k+1)≤i∧i<off+(k+1)+vs.length
   ·rw[if_pos hc,if_pos (by simp;omega)]
    rw[show i-(off+k)=(i-(off+(k+1)))+1 by omega]
    simp
   ·rw[if_neg hc,if_neg (by simp;omega),Array.getElem?_setIfInBounds_ne (by omega)]
theorem zfe (off:Nat)(vs cells:Array Value)(h:off+vs.size≤cells.size) :
  (vs.zipIdx.foldl (fun cs (c,j)=>cs.setIfInBounds (off+j) c) cells).size=cells.size ∧
  ∀i,(vs.zipIdx.foldl (fun cs (c,j)=>cs.setIfInBounds (off+j) c) cells)[i]?=if off≤i∧i<off+vs.size then vs[i-off]? else cells[i]?:=by
 rw[←Array.foldl_toList,Array.toList_zipIdx]
 have:=zcK off vs.toList 0 cells (by simpa using h)
 simpa using this
theorem Xx {β:Bt}(place:Nat→Option (Nat×Nat)):∀{ps:List (Nat×Nat)} {vs:List AV} {parts:List (Nat×Value)} {c:List AV} {c':Array Value} {r:List AV},
  aS β c c'.toList→aS β vs (parts.map (·.2))→(∀(i:Nat) (p:Nat×Value),parts[i]?=some p→place p.1=ps[i]?)→zF c ps vs=some r →
  ∃r',Instr.fill place c' parts=some r'∧aS β r r'.toList
 | [],[],[],c,c',r,hc,_,_,h=>by simp[zF]at h;subst h;exact⟨c',rfl,hc⟩
 | [],[],_::_,c,c',r,_,hv,_,_=>by cases hv
 | [],_::_,_,c,c',r,_,_,_,h=>by simp[zF]at h
 | _::_,[],_,c,c',r,_,_,_,h=>by simp[zF]at h
 | _::_,_::_,[],c,c',r,_,hv,_,_=>by cases hv
 | (off,sz)::ps,v::vs,(i,x)::parts,c,c',r,hc,hv,hp,h=>by
  unfold zF at h
  cases hl:v.cellsOf with
  | none=>rw[hl]at h;cases h
  | some l =>
   rw[hl]at h
   simp only at h
   cases hb:(Nat.beq l.length sz&&Nat.ble (off+sz) c.length)with
   | false=>rw[hb]at h;cases h
   | true =>
    rw[hb]at h
    simp only[Bool.and_eq_true,zq,zp,decide_eq_true_eq]at hb
    cases hv with
    | cons hvx MO =>
     obtain⟨cQ,_⟩:=hvx.cells hl
     have hlen:=cQ.length
     have Og:=hc.length
     have hsz:x.cells.size=sz:=by rw[←hb.1,hlen];simp
     have hle:off+x.cells.size≤c'.size:=by rw[hsz];have:=hb.2;simp at Og;omega
     obtain⟨f1,f2⟩:=zfe off x.cells c' hle
     have N9:place i=some (off,sz):=by have:=hp 0 (i,x) rfl;simpa using this
     simp only[Instr.fill,N9]
     rw[if_neg (by simp[hsz];omega)]
     refine Xx place ?_ MO (fun k p hk=>by simpa using hp (k+1) p (by simpa using hk)) h
     refine vz ?_ fun k a b ha bT=>?_
     ·have:(zo c off l).length=c.length:=by unfold zo;simp;omega
      rw[this,Og,Array.length_toList,Array.length_toList];exact f1.symm
     ·rw[Vl c l off (by omega)]at ha
      rw[Array.getElem?_toList,f2 k]at bT
      by_cases h1:k<off
      ·rw[if_pos h1]at ha
       rw[if_neg (by omega)]at bT
       obtain⟨u,hu,MO⟩:=hc.get ha
       rw[Array.getElem?_toList,bT]at hu
       cases hu
       exact MO
      ·rw[if_neg h1]at ha
       by_cases h2:k<off+l.length
       ·rw[if_pos h2]at ha
        rw[if_pos (by omega)]at bT
        obtain⟨u,hu,MO⟩:=cQ.get ha
        rw[Array.getElem?_toList,bT]at hu
        cases hu
        exact MO
       ·rw[if_neg h2]at ha
        rw[if_neg (by omega)]at bT
        obtain⟨u,hu,MO⟩:=hc.get ha
        rw[Array.getElem?_toList,bT]at hu
        cases hu
        exact MO
theorem vD (z:List AV):∀n,(y7 z n).length=n * z.length
 | 0=>by simp[y7]
 | n+1=>by simp[y7,vD z n,Nat.succ_mul];omega
theorem zch (z:List AV)(hz:0<z.length):∀(n i:Nat),i<n * z.length→(y7 z n)[i]?=z[i % z.length]?
 | 0,i,h=>by simp at h
 | n+1,i,h=>by
  simp only[y7]
  rw[List.getElem?_append]
  split
  ·rename_i hi
   rw[Nat.mod_eq_of_lt hi]
  ·rename_i hi
   rw[Nat.succ_mul]at h
   rw[zch z hz n (i-z.length) (by omega)]
   congr 1
   rw[←Nat.mod_eq_sub_mod (by omega)]
theorem Xy {β:Bt}{z:List AV}{z':Array Value}(h:aS β z z'.toList)(n m:Nat)(hm:m=n * z'.size):aS β (y7 z n) ((Array.range m).map fun i=>z'[i % z'.size]!).toList:=by
 have hl:=h.length
 simp at hl
 refine vz (by simp[vD,hl,hm]) fun i a b ha hb=>?_
 have hi:i<n * z.length:=by
  have:=(List.getElem?_eq_some_iff.1 ha).1
  rwa [vD]at this
 have hz:0<z.length:=by
  rcases Nat.eq_zero_or_pos z.length with h0 | h0
  ·rw[h0]at hi;simp at hi
  ·exact h0
 rw[zch z hz n i hi]at ha
 obtain⟨u,hu,hv⟩:=h.get ha
 have hmod:i % z'.size<z'.size:=Nat.mod_lt _ (by omega)
 rw[Array.getElem?_toList]at hu hb
 simp only[Array.getElem?_map,Option.map_eq_some_iff]at hb
 obtain⟨j,hj,hb⟩:=hb
 have hji:j=i:=by
  have:=Array.getElem?_eq_some_iff.1 hj
  obtain⟨h1,h2⟩:=this
  simp at h2
  exact h2.symm
 subst hji
 rw[hl]at hu
 have:z'[j % z'.size]! = u:=by
  rw[getElem!_pos z' _ hmod]
  rw[Array.getElem?_eq_getElem hmod]at hu
  cases hu
  rfl
 rw[←hb,this]
 exact hv
end
section
theorem Vd {β:Bt}{vs:List AV}{x:Value}(h:aS β vs [x]):∃v,vs=[v]∧VR β v x:=by
 cases h with | cons h t=>cases t;exact⟨_,rfl,h⟩
theorem GD {β:Bt}{vs:List AV}{x y:Value}(h:aS β vs [x,y]):∃v u,vs=[v,u]∧VR β v x∧VR β u y:=by
 cases h with | cons h t=>obtain⟨u,rfl,hu⟩:=Vd t;exact⟨_,_,rfl,h,hu⟩
theorem zj2 {β:Bt}{vs:List AV}{x y z:Value}(h:aS β vs [x,y,z]):∃v u t,vs=[v,u,t]∧VR β v x∧VR β u y∧VR β t z:=by
 cases h with | cons h t=>obtain⟨u,q,rfl,hu,hq⟩:=GD t;exact⟨_,_,_,rfl,h,hu,hq⟩
section
variable {P:Program} {β:Bt} {B0:Nat} {h:PM AB} {w:World} (ρ:Operand→Value)
theorem zjq {vs:List AV}{v:AV}{c a b:Value}(hv:aS β vs [c,a,b])(hs:zhI h vs=some v) :
  ∃v',((do pure (.value (if ←asBool c then a else b))):Sem Next).run P w=.ok (.value v') w∧VR β v v':=by
 obtain⟨x,y,z,rfl,hx,hy,hz⟩:=zj2 hv
 cases x<;>simp only[zhI]at hs<;>first | (cases hs;done) | skip
 cases hx
 rename_i q
 cases q<;>cases hs
 ·exact⟨_,by simp[asBool],hz⟩
 ·exact⟨_,by simp[asBool],hy⟩
theorem zm1 {vs:List AV}{v:AV}{x:Value}(o:Oper){y:Operand}(ho:o.op=.nilCheck y)(hy:ρ y=x)(hv:aS β vs [x])(hs:Rt h vs=some v) :
  ∃v',(execOp ρ o).run P w=.ok (.value v') w∧VR β v v':=by
 obtain⟨x,rfl,hx⟩:=Vd hv
 simp only[execOp,ho,hy]
 cases x<;>simp only[Rt]at hs<;>first | (cases hs;done) | skip
 ·rename_i a
  cases a with
  | none=>cases hs
  | some a=>cases hs;cases hx with | p hb=>exact⟨_,rfl,.p hb⟩
 ·cases hs;cases hx with | fn _ h1 h2=>exact⟨_,rfl,.fn _ h1 h2⟩
theorem Wo (op:BinOp)(t:TypeId)(x y:Operand)(k:IntKind)(n:Int)(b:Value):(eqGuard op t x y (.int k n) b).run P w=.ok () w:=by
 rw[eqGuard_at_int];rfl
theorem zbx (op:BinOp)(t:TypeId)(x y:Operand)(s:ByteArray)(b:Value):(eqGuard op t x y (.string s) b).run P w=.ok () w:=by
 rw[eqGuard_at_string];rfl
theorem znb {vs:List AV}{v:AV}{a b:Value}{op:BinOp}(t:TypeId)(x y:Operand)(hv:aS β vs [a,b])(hs:GA op h vs=some v) :
  ∃v',((do eqGuard op t x y a b;binOp op t a b):Sem Value).run P w=.ok v' w∧VR β v v':=by
 obtain⟨p,q,rfl,hp,hq⟩:=GD hv
 cases p<;>simp only[GA]at hs<;>first | (cases hs;done) | skip
 cases q<;>simp only[]at hs<;>first | (cases hs;done) | skip
 cases hp;cases hq
 cases hsh:Fk op with
 | true =>
  rw[hsh]at hs
  rename_i k n j m
  obtain⟨v',h1,h2⟩:=zhC (P:=P) (w:=w) (j:=j) t hs
  exact⟨v',by simp[Wo,h1],h2 β⟩
 | false =>
  rw[hsh]at hs
  rename_i k n j m
  cases hk:eP k j with
  | false=>rw[hk]at hs;cases hs
  | true =>
   rw[hk]at hs
   have:=YP.1 hk
   subst this
   obtain⟨v',h1,h2⟩:=zgM (P:=P) (w:=w) t hsh hs
   exact⟨v',by simp[Wo,h1],h2 β⟩
theorem zjp {vs:List AV}{v:AV}{a b:Value}{op:BinOp}(t:TypeId)(x y:Operand)(hv:aS β vs [a,b])(hs:zhH op h vs=some v) :
  ∃v',((do eqGuard op t x y a b;binOp op t a b):Sem Value).run P w=.ok v' w∧VR β v v':=by
 obtain⟨p,q,rfl,hp,hq⟩:=GD hv
 cases p<;>simp only[zhH]at hs<;>first | (cases hs;done) | skip
 cases q<;>simp only[]at hs<;>first | (cases hs;done) | skip
 cases hp;cases hq
 obtain⟨v',h1,h2⟩:=zgL (P:=P) (w:=w) t hs
 exact⟨v',by simp[zbx,h1],h2 β⟩
theorem zp4 (hR:Rel β B0 h w){vs:List AV}{v:AV}{a b:Value}{op:BinOp}(hop:Mk op=true){t:TypeId}(x y:Operand){ng:Bool}{k:Nv}(hc:YC P (Xk op) t=some (.eq ng k))
  (hv:aS β vs [a,b]) (hs:IN ng k h vs=some v) :
  ∃v',((do eqGuard op t x y a b;binOp op t a b):Sem Value).run P w=.ok v' w∧VR β v v':=by
 obtain⟨p,q,rfl,hp,hq⟩:=GD hv
 simp only[IN]at hs
 cases he:FY h k p q with
 | none=>rw[he]at hs;cases hs
 | some r =>
  rw[he]at hs
  cases hs
  obtain⟨rfl,h1⟩:=zjD hR hop x y hc hp hq he
  exact⟨_,h1,.b _⟩
theorem zp3 {vs:List AV}{v:AV}{a:Value}{op:UnOp}(hv:aS β vs [a])(hs:rUn op h vs=some v) :
  ∃v',(Op.unary op a).run P w=.ok v' w∧VR β v v':=by
 obtain⟨p,rfl,hp⟩:=Vd hv
 cases p<;>simp only[rUn]at hs<;>first | (cases hs;done) | skip
 ·cases op<;>simp only[]at hs<;>first | (cases hs;done) | skip
  cases hs;cases hp
  exact⟨_,rfl,.b _⟩
 ·cases op<;>simp only[]at hs<;>first | (cases hs;done) | skip
  cases hs;cases hp
  rw[zf5]
  exact⟨_,rfl,.i _ _⟩
theorem zjz {vs:List AV}{v:AV}{a:Value}{s d:TypeId}{k k':IntKind}(hsd:P.underlying s=some (.int k'))(hd:P.underlying d=some (.int k))(hv:aS β vs [a])(hs:zhQ k h vs=some v) :
  ∃v',(convert s d a).run P w=.ok v' w∧VR β v v':=by
 obtain⟨p,rfl,hp⟩:=Vd hv
 cases p<;>simp only[zhQ]at hs<;>first | (cases hs;done) | skip
 cases hs;cases hp
 rw[zf5]
 refine⟨_,?_,.i _ _⟩
 simp only[convert,Sem.run_bind,run_underlying hsd,run_underlying hd,Result.andThen_ok]
 rfl
theorem zjy {vs:List AV}{v:AV}{a:Value}{s d:TypeId}(hsd:P.underlying s=some .string)(hd:P.underlying d=some .string)(hv:aS β vs [a])(hs:zhP h vs=some v) :
  ∃v',(convert s d a).run P w=.ok v' w∧VR β v v':=by
 obtain⟨p,rfl,hp⟩:=Vd hv
 cases p<;>simp only[zhP]at hs<;>first | (cases hs;done) | skip
 cases hs;cases hp
 refine⟨_,?_,.s _⟩
 simp only[convert,Sem.run_bind,run_underlying hsd,run_underlying hd,Result.andThen_ok]
 rfl
theorem zjm {v:AV}{v':Value}{n:Nat}(hv:VR β v v')(h:idx v=some n):∃k,v'=.int k (n:Int):=by
 cases v<;>simp only[idx]at h<;>first | (cases h;done) | skip
 rename_i k m
 cases m with
 | ofNat m=>cases h;cases hv;exact⟨k,rfl⟩
 | negSucc m=>cases h
theorem xn (k:IntKind)(i y:Nat)(code:BoundsCode)(h:i≤y):(Instr.sliceBound (.int k (i:Int)) y code).run P w=.ok i w:=by
 have:=run_sliceBound (P:=P) (w:=w) k (i:Int) y code (by omega) (by omega)
 simpa using this
theorem wW {x:Option Operand}{r:List AV}{rest:List Value}{d n:Nat}{r':List AV}(hv:aS β r ((x.toList.map ρ)++rest))(h:wX x.isSome r d=some (n,r')) :
  aS β r' rest∧((x=none∧n=d)∨∃y k,x=some y∧ρ y=.int k (n:Int)):=by
 cases x with
 | none=>simp only[Option.isSome_none,wX,Option.some.injEq,Prod.mk.injEq]at h;obtain⟨rfl,rfl⟩:=h;exact⟨by simpa using hv,.inl ⟨rfl,rfl⟩⟩
 | some y =>
  cases hv with
  | cons hv0 t =>
   simp only[Option.isSome_some,wX]at h
   cases hi:idx _ with
   | none=>rw[hi]at h;cases h
   | some m =>
    rw[hi]at h
    cases h
    obtain⟨k,hk⟩:=zjm hv0 hi
    exact⟨by simpa using t,.inr ⟨y,k,rfl,hk⟩⟩
theorem zm0 {t e:TypeId}{size:Nat}(ht:P.underlying t=some (.slice e))(hsz:yE P e=some size){x:Operand}{lo hi mx:Option Operand}(hmx:mx.isSome=true→hi.isSome=true){vs:List AV}{v:AV}
  (hv:aS β vs (ρ x::((lo.toList.map ρ)++((hi.toList.map ρ)++((mx.toList.map ρ)++[]))))) (hs:Rs size lo.isSome hi.isSome mx.isSome h vs=some v) :
  ∃v',(Instr.sliceAt t (ρ x) (lo.map ρ) (hi.map ρ) (mx.map ρ)).run P w=.ok v' w∧VR β v v':=by
 cases hv with
 | cons hx hv =>
  rename_i a vs
  simp only[Rs]at hs
  cases a<;>simp only[Fm]at hs<;>first | (cases hs;done) | skip
  rename_i A len cap ex
  cases h1:wX lo.isSome vs 0 with
  | none=>rw[h1]at hs;cases hs
  | some p =>
   obtain⟨l,r1⟩:=p
   rw[h1]at hs
   simp only at hs
   obtain⟨LX,hl⟩:=wW ρ hv h1
   cases h2:wX hi.isSome r1 len with
   | none=>rw[h2]at hs;cases hs
   | some p =>
    obtain⟨hh,r2⟩:=p
    rw[h2]at hs
    simp only at hs
    obtain⟨Fe,hhi⟩:=wW ρ LX h2
    cases h3:wX mx.isSome r2 cap with
    | none=>rw[h3]at hs;cases hs
    | some p =>
     obtain⟨m,r3⟩:=p
     rw[h3]at hs
     obtain⟨hv3,hm⟩:=wW ρ Fe h3
     cases hv3
     simp only at hs
     cases hb:(Nat.ble l hh&&Nat.ble hh m&&Nat.ble m cap&&(Nat.beq ex 0||Nat.beq ex size))with
     | false=>rw[hb]at hs;cases hs
     | true =>
      rw[hb]at hs
      simp only[Bool.and_eq_true,Bool.or_eq_true,zp,zq,decide_eq_true_eq]at hb
      obtain⟨⟨⟨bP,bT⟩,hb3⟩,hb4⟩:=hb
      simp only[cond_true,Option.some.injEq]at hs
      subst hs
      obtain⟨A',c',R5⟩:∃A' c',ρ x=.slice A' len c':=by
       generalize ρ x=X at hx
       cases hx with
       | m9=>exact⟨_,_,rfl⟩
       | sl=>exact⟨_,_,rfl⟩
      rw[R5]at hx ⊢
      have HS:cap≤c':=by
       cases hx with
       | m9=>omega
       | sl _ _ hc=>exact hc
      -- Bh bounds,in Bh model
      have hbs:∃m',(Instr.sliceBounds true len c' (lo.map ρ) (hi.map ρ) (mx.map ρ)).run P w=.ok (l,hh,m') w∧hh≤m'∧(mx=none→m'=c')∧(mx≠none→m'=m):=by
       rcases hm with⟨rfl,rfl⟩ | ⟨ym,km,rfl,hym⟩
       ·refine⟨c',?_,by omega,fun _=>rfl,fun hn=>absurd rfl hn⟩
        rcases hhi with⟨rfl,rfl⟩ | ⟨yh,kh,rfl,N2⟩
        ·rcases hl with⟨rfl,rfl⟩ | ⟨yl,kl,rfl,FE⟩
         ·simp[Instr.sliceBounds]
         ·simp[Instr.sliceBounds,FE,xn kl l _ _ bP]
        ·have fR:hh≤c':=by omega
         rcases hl with⟨rfl,rfl⟩ | ⟨yl,kl,rfl,FE⟩
         ·simp[Instr.sliceBounds,N2,xn kh hh _ _ fR]
         ·simp[Instr.sliceBounds,N2,FE,xn kh hh _ _ fR,xn kl l _ _ bP]
       ·rcases hhi with⟨rfl,rfl⟩ | ⟨yh,kh,rfl,N2⟩
        ·simp at hmx
        ·refine⟨m,?_,bT,(fun hn=>by cases hn),fun _=>rfl⟩
         have hm1:m≤c':=by omega
         rcases hl with⟨rfl,rfl⟩ | ⟨yl,kl,rfl,FE⟩
         ·simp[Instr.sliceBounds,hym,N2,xn km m _ _ hm1,xn kh hh _ _ bT]
         ·simp[Instr.sliceBounds,hym,N2,FE,xn km m _ _ hm1,xn kh hh _ _ bT,xn kl l _ _ bP]
      obtain⟨m',hbs,hm1,hm2,MX⟩:=hbs
      refine⟨.slice (if m'=l then A' else A'.map (·.add (l * size))) (hh-l) (m'-l),?_,?_⟩
      ·simp only[Instr.sliceAt,Instr.slice,Sem.run_bind,run_underlying ht,Result.andThen_ok,hbs,yO hsz,Sem.run_pure]
      ·cases hx with
       | m9 =>
        have:m=0:=by omega
        subst this
        have hh0:hh=0:=by omega
        have Sk:l=0:=by omega
        subst hh0;subst Sk
        have hm0:m'=0:=by
         cases hmn:mx with
         | none=>rw[hm2 hmn]
         | some y=>exact MX (by rw[hmn];simp)
        subst hm0
        simp only[if_true,Option.map_none]
        cases mx.isSome<;>exact .m9
       | sl hb hl' hc he hz ha =>
        rename_i n k b o z off
        simp only[Option.map_some]
        have j4:m-l≤m'-l:=by
         cases hmn:mx with
         | none=>rw[hm2 hmn];omega
         | some y=>rw[MX (by rw[hmn];simp)];omega
        have hoff:m'-l=0∨off=o+k:=by
         rcases ha with ha | ha
         ·left
          have:m'≤c':=by
           cases hmn:mx with
           | none=>rw[hm2 hmn];omega
           | some y=>rw[MX (by rw[hmn];simp)];omega
          omega
         ·exact .inr ha
        have hex:(bif mx.isSome then 0 else ex)=0→m'-l=m-l:=by
         cases hmn:mx with
         | none =>
          simp only[Option.isSome_none,cond_false]
          intro h0
          have hmc:m=cap:=by
           rcases hm with⟨_,h⟩ | ⟨y,_,h,_⟩
           ·exact h
           ·rw[hmn]at h;cases h
          rw[hm2 hmn,he h0,hmc]
         | some y=>intro _;rw[MX (by rw[hmn];simp)]
        have hez:(bif mx.isSome then 0 else ex)≠0→k+l * size+(m'-l) * (bif mx.isSome then 0 else ex)≤z:=by
         cases hmn:mx with
         | none =>
          simp only[Option.isSome_none,cond_false]
          intro h0
          have Ss:ex=size:=by rcases hb4 with h | h<;>first | exact absurd h h0 | exact h
          have LV:=hz h0
          have hm':=hm2 hmn
          rw[Ss]at LV ⊢
          have:l * size+(m'-l) * size=c' * size:=by
           rw[←Nat.add_mul]
           congr 1
           omega
          omega
         | some y=>intro h0;simp at h0
        by_cases hml:m'=l
        ·rw[if_pos hml]
         exact .sl hb (by omega) j4 hex hez (.inl (by omega))
        ·rw[if_neg hml]
         simp only[YF]
         refine .sl hb (by omega) j4 hex hez (.inr ?_)
         rcases hoff with h0 | h0
         ·omega
         ·rw[h0];omega
end
end
section
section
variable {P:Program} {β:Bt} {B0:Nat} {h:PM AB} {w:World} (ρ:Operand→Value)
theorem zjo {t:TypeId}(ht:P.underlying t=some .string){x:Operand}{lo hi:Option Operand}{vs:List AV}{v:AV}
  (hv:aS β vs (ρ x::((lo.toList.map ρ)++((hi.toList.map ρ)++[])))) (hs:zhG lo.isSome hi.isSome h vs=some v) :
  ∃v',(Instr.sliceAt t (ρ x) (lo.map ρ) (hi.map ρ) none).run P w=.ok v' w∧VR β v v':=by
 cases hv with
 | cons hx hv =>
  rename_i a vs
  simp only[zhG]at hs
  cases a<;>simp only[zhB]at hs<;>first | (cases hs;done) | skip
  rename_i s
  cases h1:wX lo.isSome vs 0 with
  | none=>rw[h1]at hs;cases hs
  | some p =>
   obtain⟨l,r1⟩:=p
   rw[h1]at hs
   simp only at hs
   obtain⟨LX,hl⟩:=wW ρ hv h1
   cases h2:wX hi.isSome r1 s.length with
   | none=>rw[h2]at hs;cases hs
   | some p =>
    obtain⟨hh,r2⟩:=p
    rw[h2]at hs
    obtain⟨Fe,hhi⟩:=wW ρ LX h2
    cases Fe
    simp only at hs
    cases hb:(Nat.ble l hh&&Nat.ble hh s.length)with
    | false=>rw[hb]at hs;cases hs
    | true =>
     rw[hb]at hs
     simp only[Bool.and_eq_true,zp,decide_eq_true_eq]at hb
     obtain⟨bP,bT⟩:=hb
     simp only[cond_true,Option.some.injEq]at hs
     subst hs
     generalize hX:ρ x=X at hx
     cases hx
     have hbs:(Instr.sliceBounds false s.length s.length (lo.map ρ) (hi.map ρ) none).run P w=.ok (l,hh,s.length) w:=by
      rcases hhi with⟨rfl,rfl⟩ | ⟨yh,kh,rfl,N2⟩
      ·rcases hl with⟨rfl,rfl⟩ | ⟨yl,kl,rfl,FE⟩
       ·simp[Instr.sliceBounds]
       ·simp[Instr.sliceBounds,FE,xn kl l _ _ bP]
      ·rcases hl with⟨rfl,rfl⟩ | ⟨yl,kl,rfl,FE⟩
       ·simp[Instr.sliceBounds,N2,xn kh hh _ _ bT]
       ·simp[Instr.sliceBounds,N2,FE,xn kh hh _ _ bT,xn kl l _ _ bP]
     have he:(ByteArray.mk s.toArray).extract l hh=ByteArray.mk ((s.take hh).drop l).toArray:=by
      apply ByteArray.ext
      rw[ByteArray.data_extract]
      apply Array.ext'
      simp[Array.toList_extract,List.extract_eq_take_drop,List.drop_take]
     refine⟨.string ((ByteArray.mk s.toArray).extract l hh),?_,by rw[he];exact .s _⟩
     simp only[Instr.sliceAt,Instr.slice,Sem.run_bind,run_underlying ht,Result.andThen_ok,V1,hbs,Option.isSome_none,Bool.false_eq_true,if_false,Sem.run_pure]
theorem zm9 {s:TypeId}{fs:Array Field}{f:Nat}{g:Field}(hu:P.underlying s=some (.struct fs))(hf:fs[f]?=some g){sz:Nat}(hz:yE P g.type=some sz)(h0:sz≠0){vs:List AV}{v:AV}{a:Value}(hv:aS β vs [a])(hs:Ry g.offset h vs=some v) :
  ∃v',(Instr.fieldAt s a f).run P w=.ok v' w∧VR β v v':=by
 obtain⟨p,rfl,hp⟩:=Vd hv
 cases p<;>simp only[Ry]at hs<;>first | (cases hs;done) | skip
 rename_i q
 cases q with
 | none=>cases hs
 | some q =>
  obtain⟨n,k⟩:=q
  cases hs
  cases hp with
  | p hb =>
   rename_i b o z
   refine⟨.pointer (some ⟨b,o+(k+g.offset),none⟩),?_,.p hb⟩
   simp only[Instr.fieldAt,Sem.run_bind,run_underlying hu,Result.andThen_ok,hf,Instr.sureAddr,Sem.run_pure,fieldPlace,yO hz,if_neg h0,YF,Nat.add_assoc]
theorem XI {t:TypeId}{s:Option Nat}(h:wD P t=some s):∃n,yE P t=some n∧((Nz P t=some true∧s=some n)∨(Nz P t=some false∧s=none)):=by
 unfold wD at h
 split at h
 ·rename_i n h1 h2;cases h;exact⟨n,h2,.inl ⟨h1,rfl⟩⟩
 ·rename_i n h1 h2;cases h;exact⟨n,h2,.inr ⟨h1,rfl⟩⟩
 ·cases h
theorem zcq {t:TypeId}{s:Option Nat}(hsh:wD P t=some s){l:List AV}{l':Array Value}(hv:aS β l l'.toList){off:Nat}{v:AV}(hl:zR l off s=some v) :
  ∃v',(part t l' off).run P w=.ok v' w∧VR β v v':=by
 obtain⟨n,hn,⟨ha,rfl⟩ | ⟨ha,rfl⟩⟩:=XI hsh
 ·simp only[zR]at hl
  cases hc:cut l off n with
  | none=>rw[hc]at hl;cases hl
  | some m =>
   rw[hc]at hl
   cases hl
   unfold cut at hc
   cases hb:Nat.ble (off+n) l.length with
   | false=>rw[hb]at hc;cases hc
   | true =>
    rw[hb]at hc
    simp at hc
    subst hc
    refine⟨.agg (l'.extract off (off+n)),by simp[part,Yu ha,yO hn],.agg ?_⟩
    have:(l'.extract off (off+n)).toList=(l'.toList.drop off).take n:=by
     simp[Array.toList_extract,List.extract_eq_take_drop]
    rw[this]
    exact aS.take _ (aS.drop _ hv)
 ·simp only[zR]at hl
  obtain⟨v',h1,h2⟩:=hv.get hl
  exact⟨v',Ue ha (by rw[←Array.getElem?_toList];exact h1),h2⟩
theorem zm8 {s:TypeId}{fs:Array Field}{f:Nat}{g:Field}{sh:Option Nat}(hu:P.underlying s=some (.struct fs))(hf:fs[f]?=some g)(hsh:wD P g.type=some sh){vs:List AV}{v:AV}{a:Value}(hv:aS β vs [a])
  (hs:Rx g.offset sh h vs=some v):∃v',(Instr.field s a f).run P w=.ok v' w∧VR β v v':=by
 obtain⟨p,rfl,hp⟩:=Vd hv
 cases p<;>simp only[Rx]at hs<;>first | (cases hs;done) | skip
 cases hp with
 | agg hl =>
  obtain⟨v',h1,h2⟩:=zcq (P:=P) (w:=w) hsh hl hs
  exact⟨v',by simp only[Instr.field,Sem.run_bind,run_underlying hu,Result.andThen_ok,hf,asAgg,Sem.run_pure,h1],h2⟩
theorem zm7 {t e:TypeId}{size:Nat}(ht:P.underlying t=some (.slice e))(hz:yE P e=some size){vs:List AV}{v:AV}{a b:Value}(hv:aS β vs [a,b])(hs:Mv size h vs=some v) :
  ∃v',(Instr.indexAt t a b).run P w=.ok v' w∧VR β v v':=by
 obtain⟨p,q,rfl,hp,hq⟩:=GD hv
 unfold Mv at hs
 split at hs
 ·rename_i n o len c ex kd k he
  cases he
  rw[yV]at hs
  by_cases hk:k<len
  ·simp only[hk,decide_true,cond_true,Option.some.injEq]at hs
   subst hs
   cases hq
   cases hp with
   | sl hb hl hc he LS ha =>
    rename_i b1 o1 z1 c1 off
    have hoff:off=o1+o:=by rcases ha with h | h<;>omega
    refine⟨.pointer (some ⟨b1,o1+(o+k * size),none⟩),?_,.p hb⟩
    have h1:(0:Int)≤Int.ofNat k∧Int.ofNat k<(len:Int):=by constructor<;>simp[hk]
    simp only[Instr.indexAt,asIntOf,Sem.run_bind,Sem.run_pure,Result.andThen_ok,run_underlying ht,if_pos h1,yO hz,YF,hoff]
    simp[Nat.add_assoc]
  ·simp only[hk,decide_false,cond_false]at hs;cases hs
 ·cases hs
theorem zjx {t e:TypeId}{n size:Nat}(ht:P.underlying t=some (.array n e))(hz:yE P e=some size){vs:List AV}{v:AV}{a b:Value}(hv:aS β vs [a,b])(hs:zhN n size h vs=some v) :
  ∃v',(Instr.indexAt t a b).run P w=.ok v' w∧VR β v v':=by
 obtain⟨p,q,rfl,hp,hq⟩:=GD hv
 unfold zhN at hs
 split at hs
 ·rename_i m o kd k he
  cases he
  rw[yV]at hs
  by_cases hk:k<n
  ·simp only[hk,decide_true,cond_true,Option.some.injEq]at hs
   subst hs
   cases hq
   cases hp with
   | p hb =>
    rename_i b1 o1 z1
    refine⟨.pointer (some ⟨b1,o1+(o+k * size),none⟩),?_,.p hb⟩
    have h1:(0:Int)≤Int.ofNat k∧Int.ofNat k<(n:Int):=by constructor<;>simp[hk]
    simp only[Instr.indexAt,asIntOf,Sem.run_bind,Sem.run_pure,Result.andThen_ok,run_underlying ht,Instr.sureAddr,if_pos h1,yO hz,YF]
    simp[Nat.add_assoc]
  ·simp only[hk,decide_false,cond_false]at hs;cases hs
 ·cases hs
theorem zm6 {t e:TypeId}{n size:Nat}{sh:Option Nat}(ht:P.underlying t=some (.array n e))(hsh:wD P e=some sh)(hz:yE P e=some size){vs:List AV}{v:AV}{a b:Value}(hv:aS β vs [a,b])
  (hs:Rv n size sh.isSome h vs=some v):∃v',(Instr.index t a b).run P w=.ok v' w∧VR β v v':=by
 obtain⟨p,q,rfl,hp,hq⟩:=GD hv
 unfold Rv at hs
 split at hs
 ·rename_i l kd k he
  cases he
  rw[yV]at hs
  by_cases hk:k<n
  ·simp only[hk,decide_true,cond_true]at hs
   have gv:zR l (k * size) sh=some v:=by
    obtain⟨n',hn',⟨_,rfl⟩ | ⟨_,rfl⟩⟩:=XI hsh
    ·rw[hz]at hn';cases hn';simpa using hs
    ·simpa using hs
   cases hq
   cases hp with
   | agg hl =>
    obtain⟨v',h1,h2⟩:=zcq (P:=P) (w:=w) hsh hl gv
    refine⟨v',?_,h2⟩
    have h3:(0:Int)≤Int.ofNat k∧Int.ofNat k<(n:Int):=by constructor<;>simp[hk]
    simp only[Instr.index,asIntOf,Sem.run_bind,Sem.run_pure,Result.andThen_ok,run_underlying ht,if_pos h3,yO hz]
    simpa using h1
  ·simp only[hk,decide_false,cond_false]at hs;cases hs
 ·cases hs
theorem zm5 {t:TypeId}(ht:P.underlying t=some .string){vs:List AV}{v:AV}{a b:Value}(hv:aS β vs [a,b])(hs:Ru h vs=some v):∃v',(Instr.index t a b).run P w=.ok v' w∧VR β v v':=by
 obtain⟨p,q,rfl,hp,hq⟩:=GD hv
 unfold Ru at hs
 split at hs
 ·rename_i l kd k he
  cases he
  cases hc:l[k]? with
  | none=>rw[hc]at hs;cases hs
  | some c =>
   rw[hc]at hs
   cases hs
   cases hq
   cases hp
   refine⟨.int .u8 (c.toNat:Int),?_,.i _ _⟩
   have hk:k<l.length:=(List.getElem?_eq_some_iff.1 hc).1
   have hg:(ByteArray.mk l.toArray)[k]?=some c:=by
    have hk2:k<(ByteArray.mk l.toArray).size:=by rw[V1];exact hk
    rw[getElem?_pos (ByteArray.mk l.toArray) k hk2]
    have h9:=(List.getElem?_eq_some_iff.1 hc).2
    show some (l.toArray[k]'(by simpa using hk))=some c
    rw[←h9]
    simp
   have h0:(0:Int)≤Int.ofNat k:=by simp
   simp only[Instr.index,asIntOf,Sem.run_bind,Sem.run_pure,Result.andThen_ok,run_underlying ht,if_pos h0]
   simp[hg]
 ·cases hs
theorem zna {vs:List AV}{v:AV}{a:Value}{k:Nat}(hv:aS β vs [a])(hs:Rz k h vs=some v):∃v',(Instr.extract a k).run P w=.ok v' w∧VR β v v':=by
 obtain⟨p,rfl,hp⟩:=Vd hv
 cases p<;>simp only[Rz]at hs<;>first | (cases hs;done) | skip
 cases hp with
 | ay hl =>
  obtain⟨v',h1,h2⟩:=hl.get hs
  rw[Array.getElem?_toList]at h1
  exact⟨v',by simp[Instr.extract,h1],h2⟩
theorem zib {t e ty:TypeId}(ht:P.underlying t=some (.slice e)){vs:List AV}{v:AV}{a:Value}(hv:aS β vs [a])(hs:U9 h vs=some v):∃v',(Builtin.len_ #[t] ty #[a]).run P w=.ok v' w∧VR β v v':=by
 obtain⟨p,rfl,hp⟩:=Vd hv
 cases p<;>simp only[U9]at hs<;>first | (cases hs;done) | skip
 cases hs
 cases hp with
 | m9=>exact⟨_,by simp[Builtin.len_,run_underlying ht,goInt],.i _ _⟩
 | sl=>exact⟨_,by simp[Builtin.len_,run_underlying ht,goInt],.i _ _⟩
theorem zic {t e ty:TypeId}(ht:P.underlying t=some (.slice e)){vs:List AV}{v:AV}{a:Value}(hv:aS β vs [a])(hs:zaa h vs=some v):∃v',(Builtin.cap_ #[t] ty #[a]).run P w=.ok v' w∧VR β v v':=by
 obtain⟨p,rfl,hp⟩:=Vd hv
 unfold zaa at hs
 split at hs
 ·rename_i he
  cases he
  cases hs
  cases hp with
  | m9=>exact⟨_,by simp[Builtin.cap_,run_underlying ht,goInt],.i _ _⟩
  | sl hb hl hc he =>
   rw[he rfl]
   exact⟨_,by simp[Builtin.cap_,run_underlying ht,goInt],.i _ _⟩
 ·cases hs
theorem zjv {t ty:TypeId}(ht:P.underlying t=some .string){vs:List AV}{v:AV}{a:Value}(hv:aS β vs [a])(hs:zeC h vs=some v):∃v',(Builtin.len_ #[t] ty #[a]).run P w=.ok v' w∧VR β v v':=by
 obtain⟨p,rfl,hp⟩:=Vd hv
 cases p<;>simp only[zeC]at hs<;>first | (cases hs;done) | skip
 cases hs
 cases hp
 exact⟨_,by simp[Builtin.len_,run_underlying ht,goInt,V1],.i _ _⟩
theorem zjw {t e ty:TypeId}{n:Nat}(ht:P.underlying t=some (.array n e)){vs:List AV}{v:AV}{a:Value}(hv:aS β vs [a])(hs:zeD n h vs=some v):∃v',(Builtin.len_ #[t] ty #[a]).run P w=.ok v' w∧VR β v v':=by
 obtain⟨p,rfl,hp⟩:=Vd hv
 simp only[zeD,Option.some.injEq]at hs
 subst hs
 exact⟨_,by simp[Builtin.len_,run_underlying ht,goInt],.i _ _⟩
theorem Uh (m2:Value→Value→Sem Value)(lt:Int→Int→Bool)(hm:∀k j x y,m2 (.int k x) (.int j y)=pure (.int k (if lt y x=true then y else x))):∀{vs:List AV} {vs':List Value} {x:Int} {k:IntKind} {v:AV},
  aS β vs vs'→LO lt x vs k=some v→∃v',(vs'.foldlM m2 (.int k x)).run P w=.ok v' w∧VR β v v'
 | [],_,x,k,v,hv,hs=>by
  cases hv
  simp only[LO,Option.some.injEq]at hs
  subst hs
  exact⟨_,by simp,.i _ _⟩
 | a::vs,_,x,k,v,hv,hs=>by
  cases hv with
  | cons ha ht =>
   cases a<;>simp only[LO]at hs<;>first | (cases hs;done) | skip
   rename_i j y
   cases hk:eP j k with
   | false=>rw[hk]at hs;cases hs
   | true =>
    rw[hk]at hs
    cases ha
    have hs':LO lt (if lt y x=true then y else x) vs k=some v:=by
     cases hl:lt y x<;>rw[hl]at hs<;>simpa using hs
    obtain⟨v',h1,h2⟩:=Uh m2 lt hm ht hs'
    exact⟨v',by simp only[List.foldlM_cons,hm,Sem.run_bind,Sem.run_pure,Result.andThen_ok,h1],h2⟩
theorem zm2 {ts:Array TypeId}{ty:TypeId}{vs:List AV}{v:AV}{as:Array Value}(hv:aS β vs as.toList)(hs:Mu h vs=some v):∃v',(Builtin.min_ ts ty as).run P w=.ok v' w∧VR β v v':=by
 unfold Mu at hs
 split at hs
 ·generalize hl:as.toList=L at hv
  cases hv with
  | cons ha ht =>
   cases ha
   obtain⟨v',h1,h2⟩:=Uh (P:=P) (w:=w) Builtin.min2 (fun y x=>IW y x) (fun k j x y=>by simp[Builtin.min2,Zk]) ht hs
   exact⟨v',by simp only[Builtin.min_,hl,h1],h2⟩
 ·cases hs
theorem zm3 {ts:Array TypeId}{ty:TypeId}{vs:List AV}{v:AV}{as:Array Value}(hv:aS β vs as.toList)(hs:zjd h vs=some v):∃v',(Builtin.max_ ts ty as).run P w=.ok v' w∧VR β v v':=by
 unfold zjd at hs
 split at hs
 ·generalize hl:as.toList=L at hv
  cases hv with
  | cons ha ht =>
   cases ha
   obtain⟨v',h1,h2⟩:=Uh (P:=P) (w:=w) Builtin.max2 (fun y x=>IW x y) (fun k j x y=>by simp[Builtin.max2,Zk]) ht hs
   exact⟨v',by simp only[Builtin.max_,hl,h1],h2⟩
 ·cases hs
theorem zbZ {β:Bt}:∀{l:List AV} {bs:List UInt8} {l':List Value},u8s l=some bs→aS β l l'→∃ns:List Int,l'=ns.map (Value.int .u8)∧bs=ns.map fun n=>UInt8.ofNat n.toNat
 | [],_,_,h,.nil=>by cases h;exact⟨[],rfl,rfl⟩
 | _::r,_,_,h,.cons (v':=v') hv ht=>by
  rename_i v _ _
  unfold u8s at h
  split at h
  ·rename_i e;cases e
  ·rename_i n r' e
   cases e
   split at h
   ·rename_i bs' hb
    cases h
    cases hv
    obtain⟨ns,rfl,rfl⟩:=zbZ hb ht
    exact⟨(n:Int)::ns,rfl,rfl⟩
   ·cases h
  ·cases h
theorem Uq:∀(ns:List Int) (s:ByteArray),ns.foldl (fun r n=>r.push (UInt8.ofNat n.toNat)) s=⟨s.data++(ns.map fun n=>UInt8.ofNat n.toNat).toArray⟩
 | [],s=>by simp
 | n::r,s=>by
  rw[List.foldl_cons,Uq r]
  simp[ByteArray.push]
theorem zjA (hR:Rel β B0 h w){s d e:TypeId}(hs':P.underlying s=some (.slice e))(he:P.underlying e=some (.int .u8))(hd:P.underlying d=some .string){vs:List AV}{v:AV}{a:Value}(hv:aS β vs [a])(hs:zdl h vs=some v) :
  ∃v',(convert s d a).run P w=.ok v' w∧VR β v v':=by
 obtain⟨p,rfl,hp⟩:=Vd hv
 cases p<;>simp only[zdl]at hs<;>first | (cases hs;done) | skip
 rename_i q len cap ex
 rw[zq]at hs
 by_cases TN:len=0
 ·subst TN
  simp only[decide_true,cond_true]at hs
  cases hs
  cases hp with
  | m9=>exact⟨.string .empty,by rw[run_convert_bytes_string w s d e _ _ _ hs' he hd];simp[Conv.bytesToString],.s []⟩
  | sl hb' Fg hc hee hz ha =>
   rename_i r k b o z c' off
   refine⟨.string ⟨#[]⟩,?_,.s []⟩
   have I7:(loadCells ⟨b,off,none⟩ 0).run P w=.ok (([]:List Int).map (Value.int .u8)).toArray w:=by simp[loadCells,loadCellsFrom]
   rw[run_convert_bytes_string w s d e _ _ _ hs' he hd,run_bytesToString w _ 0 c' [] I7,Uq]
   rfl
 simp only[TN,decide_false,cond_false]at hs
 cases hl:xE h q len with
 | none=>rw[hl]at hs;cases hs
 | some l =>
  rw[hl]at hs
  simp only at hs
  cases hb:u8s l with
  | none=>rw[hb]at hs;cases hs
  | some bs =>
   rw[hb]at hs
   cases hs
   cases hp with
   | m9 =>
    simp[xE,zq]at hl
    subst hl
    cases hb
    exact⟨.string .empty,by rw[run_convert_bytes_string w s d e _ _ _ hs' he hd];simp[Conv.bytesToString],.s []⟩
   | sl hb' Fg hc hee hz ha =>
    rename_i r k b o z c' off
    obtain⟨h1,l',h2,h3⟩:=zci hR hl hb'
    obtain⟨ns,rfl,rfl⟩:=zbZ hb h2
    have hlen:(ns.map (Value.int .u8)).length=len:=by rw[←h2.length,h1]
    refine⟨.string ⟨(ns.map fun n=>UInt8.ofNat n.toNat).toArray⟩,?_,.s _⟩
    have I7:(loadCells ⟨b,off,none⟩ len).run P w=.ok (ns.map (Value.int .u8)).toArray w:=by
     rcases Nat.eq_zero_or_pos len with h0 | h0
     ·subst h0
      have:ns=[]:=by cases ns with | nil=>rfl | cons _ _=>simp at hlen
      subst this
      simp[loadCells,loadCellsFrom]
     ·have hoff:off=o+k:=by
       rcases ha with h | h
       ·omega
       ·exact h
      subst hoff
      rw[←hlen]
      exact run_loadCells_list (P:=P) w ⟨b,o+k,none⟩ (ns.map (Value.int .u8)) (fun j v' hj=>by rw[YF];exact h3 j v' hj)
    rw[run_convert_bytes_string w s d e _ _ _ hs' he hd,run_bytesToString w _ len c' ns I7,Uq]
    simp
theorem zm4 (hR:Rel β B0 h w){t:TypeId}{sh:Option Nat}(hsh:wD P t=some sh){vs:List AV}{v:AV}{a:Value}(hv:aS β vs [a])(hs:rLd sh h vs=some v):∃v',(Instr.loadAt t a).run P w=.ok v' w∧VR β v v':=by
 obtain⟨p,rfl,hp⟩:=Vd hv
 cases p<;>simp only[rLd]at hs<;>first | (cases hs;done) | skip
 rename_i q
 cases q with
 | none=>cases hs
 | some q =>
  obtain⟨n,k⟩:=q
  cases hp with
  | p hb =>
   rename_i b o z
   obtain⟨m,hm,⟨ha,rfl⟩ | ⟨ha,rfl⟩⟩:=XI hsh
   ·obtain⟨l,l',rfl,hlen,h1,h2⟩:=zjc hR hs hb
    refine⟨.agg l'.toArray,?_,.agg (by simpa using h1)⟩
    have hl':l'.length=m:=by rw[←h1.length,hlen]
    have:=run_loadCells_list (P:=P) w ⟨b,o+k,none⟩ l' (fun j v' hj=>by rw[YF];exact h2 j v' hj)
    simp only[Instr.loadAt,Instr.sureAddr,Sem.run_bind,Sem.run_pure,Result.andThen_ok,loadVar,Yu ha,if_true,yO hm,←hl',this]
   ·obtain⟨v',h1,h2⟩:=zka hR hs hb
    refine⟨v',?_,h1⟩
    simp only[Instr.loadAt,Instr.sureAddr,Sem.run_bind,Sem.run_pure,Result.andThen_ok,loadVar,Yu ha,Bool.false_eq_true,if_false,run_load,h2]
end
end
section
theorem Zp {β:Bt}{k:IntKind}{n:Int}(kk:IntKind):∀{es:List (AV×AV)} {ES:List MapEntry} {r:Option AV} (s:Nat),eD β es ES→Ui k n es=some r →
  (r=none∧Instr.findNow (.int kk) (.int k n) ES s=some none)∨(∃v i v',r=some v∧Instr.findNow (.int kk) (.int k n) ES s=some (some (i,v'))∧VR β v v')
 | _,_,r,s,.nil,h=>by
  simp only[Ui,Option.some.injEq]at h
  exact .inl ⟨h.symm,rfl⟩
 | _,_,r,s,.cons (k:=j) (n:=a) (v:=v) (v':=v') hv ht,h=>by
  simp only[Ui]at h
  cases hk:eP k j with
  | false=>rw[hk]at h;cases h
  | true =>
   have:=YP.1 hk
   subst this
   simp only[hk,cond_true,wE]at h
   simp only[Instr.findNow,Instr.sameNow,if_true]
   by_cases hna:n=a
   ·subst hna
    simp at h
    subst h
    exact .inr ⟨v,s,v',rfl,by simp,hv⟩
   ·have hb:(n==a)=false:=by simpa using hna
    rw[hb]at h ⊢
    exact Zp kk (s+1) ht h
theorem Wf {β:Bt}{k:IntKind}{n:Int}{v:AV}{v':Value}(kk:IntKind)(bn:Nat)(hv:VR β v v'):∀{es es':List (AV×AV)} {ES:List MapEntry} (s:Nat),eD β es ES→WS k n v es=some es' →
  (Instr.findNow (.int kk) (.int k n) ES s=some none∧eD β es' (ES++[⟨.int k n,v',bn⟩])) ∨
  (∃i e,Instr.findNow (.int kk) (.int k n) ES s=some (some (s+i,e.val))∧ES[i]?=some e∧e.key=.int k n∧eD β es' (ES.set i { e with key:=.int k n,val:=v' }))
 | _,es',_,s,.nil,h=>by
  simp only[WS,Option.some.injEq]at h
  subst h
  exact .inl ⟨rfl,.cons hv .nil⟩
 | _,es',_,s,.cons (k:=j) (n:=a) (v:=u) (v':=u') (bn:=b) (es:=es) (es':=ES) hu ht,h=>by
  simp only[WS]at h
  cases hk:eP k j with
  | false=>rw[hk]at h;cases h
  | true =>
   have:=YP.1 hk
   subst this
   simp only[hk,cond_true,wE]at h
   simp only[Instr.findNow,Instr.sameNow,if_true]
   by_cases hna:n=a
   ·subst hna
    simp at h
    subst h
    exact .inr ⟨0,⟨.int k n,u',b⟩,by simp,rfl,rfl,.cons hv ht⟩
   ·have hb:(n==a)=false:=by simpa using hna
    rw[hb]at h ⊢
    simp only[cond_false]at h
    cases hr:WS k n v es with
    | none=>rw[hr]at h;cases h
    | some r =>
     rw[hr]at h
     cases h
     rcases Wf kk bn hv (s+1) ht hr with⟨h1,h2⟩ | ⟨i,e,h1,h2,h3,h4⟩
     ·exact .inl ⟨h1,.cons hu h2⟩
     ·exact .inr ⟨i+1,e,by rw[h1,show s+1+i=s+(i+1) by omega],by simpa using h2,h3,.cons hu h4⟩
theorem Wg {β:Bt}{k:IntKind}{n:Int}(kk:IntKind):∀{es es':List (AV×AV)} {ES:List MapEntry} (s:Nat),eD β es ES→WT k n es=some es' →
  (Instr.findNow (.int kk) (.int k n) ES s=some none∧eD β es' ES) ∨
  (∃i u,Instr.findNow (.int kk) (.int k n) ES s=some (some (s+i,u))∧i<ES.length∧eD β es' (ES.eraseIdx i))
 | _,es',_,s,.nil,h=>by
  simp only[WT,Option.some.injEq]at h
  subst h
  exact .inl ⟨rfl,.nil⟩
 | _,es',_,s,.cons (k:=j) (n:=a) (v:=u) (v':=u') (bn:=b) (es:=es) (es':=ES) hu ht,h=>by
  simp only[WT]at h
  cases hk:eP k j with
  | false=>rw[hk]at h;cases h
  | true =>
   have:=YP.1 hk
   subst this
   simp only[hk,cond_true,wE]at h
   simp only[Instr.findNow,Instr.sameNow,if_true]
   by_cases hna:n=a
   ·subst hna
    simp at h
    subst h
    exact .inr ⟨0,u',by simp,by simp,by simpa using ht⟩
   ·have hb:(n==a)=false:=by simpa using hna
    rw[hb]at h ⊢
    simp only[cond_false]at h
    cases hr:WT k n es with
    | none=>rw[hr]at h;cases h
    | some r =>
     rw[hr]at h
     cases h
     rcases Wg kk (s+1) ht hr with⟨h1,h2⟩ | ⟨i,e,h1,h2,h4⟩
     ·exact .inl ⟨h1,.cons hu h2⟩
     ·exact .inr ⟨i+1,e,by rw[h1,show s+1+i=s+(i+1) by omega],by simp;omega,.cons hu h4⟩
theorem ZY {P:Program}{t:TypeId}(h:wu P t=true):∃k,P.underlying t=some (.int k):=by
 unfold wu at h
 split at h
 ·exact⟨_,by assumption⟩
 ·cases h
section
variable {P:Program} {β:Bt} {B0:Nat} {h:PM AB} {w:World} (ρ:Operand→Value)
theorem xo {t:TypeId}{kk:IntKind}(hu:P.underlying t=some (.int kk))(b:Bool)(v:Value):(Instr.checkKey b 10000 t v).run P w=.ok () w:=by
 show (Instr.checkKey b (9999+1) t v).run P w=_
 rw[Instr.checkKey]
 simp only[Sem.run_bind,run_underlying hu,Result.andThen_ok]
 rfl
theorem xY {t:TypeId}{kk:IntKind}(hu:P.underlying t=some (.int kk)){k:Value}{ES:List MapEntry}{r:Option (Nat×Value)}(hf:Instr.findNow (.int kk) k ES 0=some r):(Instr.findKey t k ES).run P w=.ok r w:=by
 simp only[Instr.findKey,Sem.run_bind,run_underlying hu,Result.andThen_ok,hf]
 rfl
theorem zd1 {t:TypeId}{z:AV}(hz:P5 P t=some z):∃z',(zeroValue t).run P w=.ok z' w∧∀β,VR β z z':=by
 unfold P5 at hz
 split at hz
 ·rename_i i hi
  split at hz
  ·rename_i zz LS
   exact⟨zz,Ya hi LS,fun β=>za2 hz⟩
  ·cases hz
 ·cases hz
theorem ZE {r:Nat}{ES:Array MapEntry}{gF:Nat}(hh:w.heap[r]?=some (.map ES gF)):(getObj r).run P w=.ok (.map ES gF) w:=by simp[getObj,Sem.run,hh]
theorem zcz (hR:Rel β B0 h w){r:Nat}{es:List (AV×AV)}(hg:h.get r=some (.map es)){b z:Nat}{o:Nat}(hb:β r=some (b,o,z)) :
  ∃ES gF,o=0∧w.heap[b]?=some (.map ES gF)∧eD β es ES.toList:=by
 obtain⟨_,h0,ES,gF,h1,h2⟩:=hR.cr r _ b o z hg hb
 exact⟨ES,gF,h0,h1,h2⟩
theorem zju (hR:Rel β B0 h w){t k e:TypeId}{z:AV}{ok:Bool}(ht:P.underlying t=some (.map k e))(hk:wu P k=true)(hz:P5 P e=some z){vs:List AV}{v:AV}{a b:Value}(hv:aS β vs [a,b])
  (hs:zdk z ok h vs=some v):∃v',(Instr.lookup t a b ok).run P w=.ok v' w∧VR β v v':=by
 obtain⟨p,q,rfl,hp,hq⟩:=GD hv
 obtain⟨kk,hkk⟩:=ZY hk
 obtain⟨z',LV,LU⟩:=zd1 (P:=P) (w:=w) hz
 have Al:∀{es:Array MapEntry} {b:Value},(Instr.findKey k b es.toList).run P w=.ok none w→VR β (bif ok then .ay [z,.b false]else z) (if ok=true then Value.tuple #[z',.bool false]else z'):=by
  intro es b _
  cases ok
  ·simpa using LU β
  ·simpa using VR.ay (.cons (LU β) (.cons (.b _) .nil))
 unfold zdk at hs
 split at hs
 ·rename_i kd n he
  cases he
  cases hs
  cases hp
  cases hq
  have hf:=xY (P:=P) (w:=w) hkk (k:=.int kd n) (ES:=[]) (r:=none) rfl
  refine⟨if ok=true then .tuple #[z',.bool false]else z',?_,Al (es:=#[]) (b:=.int kd n) (by simpa using hf)⟩
  simp only[Instr.lookup,Sem.run_bind,run_underlying ht,Result.andThen_ok,Sem.run_pure,xo hkk,hf,LV,Array.toList_empty]
 ·rename_i r kd n he
  cases he
  cases hq
  split at hs
  ·rename_i es hg
   cases hp with
   | m hb =>
    obtain⟨ES,gF,_,hh,hm⟩:=zcz hR hg hb
    have LZ:(getObj _).run P w=.ok (.map ES gF) w:=ZE hh
    split at hs
    ·rename_i u hu
     rcases Zp kk 0 hm hu with⟨h1,_⟩ | ⟨v1,i,v',h1,h2,h3⟩
     ·cases h1
     ·cases h1
      cases hs
      have hf:=xY (P:=P) (w:=w) hkk h2
      refine⟨if ok=true then .tuple #[v',.bool true]else v',?_,?_⟩
      ·simp only[Instr.lookup,Sem.run_bind,run_underlying ht,Result.andThen_ok,LZ,Sem.run_pure,xo hkk,hf]
      ·cases ok
       ·simpa using h3
       ·simpa using VR.ay (.cons h3 (.cons (.b _) .nil))
    ·rename_i hu
     rcases Zp kk 0 hm hu with⟨_,h2⟩ | ⟨v1,i,v',h1,h2,h3⟩
     ·cases hs
      have hf:=xY (P:=P) (w:=w) hkk h2
      refine⟨if ok=true then .tuple #[z',.bool false]else z',?_,Al hf⟩
      simp only[Instr.lookup,Sem.run_bind,run_underlying ht,Result.andThen_ok,LZ,Sem.run_pure,xo hkk,hf,LV]
     ·cases h1
    ·cases hs
  ·cases hs
 ·cases hs
theorem eD.length {β:Bt}:∀{es:List (AV×AV)} {ES:List MapEntry},eD β es ES→es.length=ES.length
 | _,_,.nil=>rfl
 | _,_,.cons _ t=>by simp[eD.length t]
theorem zjr (hR:Rel β B0 h w){t k e ty:TypeId}(ht:P.underlying t=some (.map k e)){vs:List AV}{v:AV}{a:Value}(hv:aS β vs [a])(hs:U8 h vs=some v):∃v',(Builtin.len_ #[t] ty #[a]).run P w=.ok v' w∧VR β v v':=by
 obtain⟨p,rfl,hp⟩:=Vd hv
 unfold U8 at hs
 split at hs
 ·rename_i he
  cases he
  cases hs
  cases hp
  exact⟨_,by simp[Builtin.len_,run_underlying ht,goInt],.i _ _⟩
 ·rename_i r he
  cases he
  split at hs
  ·rename_i es hg
   cases hs
   cases hp with
   | m hb =>
    obtain⟨ES,gF,_,hh,hm⟩:=zcz hR hg hb
    have LZ:(getObj _).run P w=.ok (.map ES gF) w:=ZE hh
    refine⟨.int .i64 (ES.size:Int),?_,?_⟩
    ·simp[Builtin.len_,run_underlying ht,goInt,LZ]
    ·rw[hm.length]
     have:Int.ofNat ES.toList.length=(ES.size:Int):=by simp
     rw[this]
     exact .i _ _
  ·cases hs
 ·cases hs
theorem Vt:∀{fs:List Field} {pl:List (Nat×Nat)},vJ P fs=some pl→(fs.mapM fun f=>(do pure (f.offset,←sizeOf f.type):Sem (Nat×Nat))).run P w=.ok pl w
 | [],pl,hp=>by simp[vJ,vZ]at hp;subst hp;simp
 | f::fs,pl,hp=>by
  unfold vJ vZ at hp
  split at hp
  ·rename_i y hy
   cases hr:vZ (fun f=>(yE P f.type).map fun s=>(f.offset,s)) fs with
   | none=>rw[hr]at hp;cases hp
   | some r =>
    rw[hr]at hp
    cases hp
    cases hz:yE P f.type with
    | none=>rw[hz]at hy;cases hy
    | some s =>
     rw[hz]at hy
     cases hy
     have ih:=Vt (fs:=fs) (pl:=r) hr
     simp only[List.mapM_cons,Sem.run_bind,yO hz,Result.andThen_ok,Sem.run_pure,ih]
  ·cases hp
theorem zid {t:TypeId}{z:List AV}{ps:List (Nat×Nat)}{parts:Array (Nat×Operand)}(hz:vr P t=some z)(hp:Ub P t parts.toList=some ps){vs:List AV}{v:AV}
  (hv:aS β vs (parts.toList.map fun p=>ρ p.2)) (hs:zeH z ps h vs=some v):∃v',(Instr.build t (parts.map fun (i,x)=>(i,ρ x))).run P w=.ok v' w∧VR β v v':=by
 obtain⟨ti,zv,hi,IY,FD,hlen,h1⟩:=wk hz
 have hz0:=Ya (P:=P) (w:=w) hi IY
 simp only[zeH]at hs
 cases hf:zF z ps vs with
 | none=>rw[hf]at hs;cases hs
 | some c =>
  rw[hf]at hs
  cases hs
  have j5:(parts.map fun (i,x)=>(i,ρ x)).toList=parts.toList.map fun p=>(p.1,ρ p.2):=by simp
  have uZ:aS β vs ((parts.toList.map fun p=>(p.1,ρ p.2)).map (·.2)):=by rw[List.map_map];exact hv
  unfold Ub at hp
  split at hp
  ·rename_i fs hu
   split at hp
   ·rename_i pl hfp
    obtain⟨r',iC,A1⟩:=Xx (fun i:Nat=>pl[i]?) (FD β) uZ (fun i p EG=>by
     rw[List.getElem?_map]at EG
     cases hq:parts.toList[i]? with
     | none=>rw[hq]at EG;cases EG
     | some q =>
      rw[hq]at EG
      cases EG
      obtain⟨y,hy1,gq⟩:=vF hp i q hq
      rw[gq]
      exact hy1) hf
    refine⟨.agg r',?_,.agg A1⟩
    have hpr:=Vt (P:=P) (w:=w) (fs:=fs.toList) hfp
    simp only[Instr.build,Sem.run_bind,hz0,Result.andThen_ok,run_underlying hu,Array.mapM_eq_mapM_toList,Sem.run_map,hpr,j5]
    have:(fun i:Nat=>pl.toArray[i]?)=fun i:Nat=>pl[i]?:=by funext i;simp
    simp only[this,iC]
    rfl
   ·cases hp
  ·rename_i n e hu
   split at hp
   ·rename_i s hsz
    cases hp
    obtain⟨r',iC,A1⟩:=Xx (fun i=>some (i * s,s)) (FD β) uZ (fun i p EG=>by
     rw[List.getElem?_map]at EG ⊢
     cases hq:parts.toList[i]? with
     | none=>rw[hq]at EG;cases EG
     | some q=>rw[hq]at EG;cases EG;rfl) hf
    refine⟨.agg r',?_,.agg A1⟩
    simp only[Instr.build,Sem.run_bind,hz0,Result.andThen_ok,run_underlying hu,yO hsz,j5,iC]
    rfl
   ·cases hp
  ·cases hp
theorem zjs {t:TypeId}{d:TypeDesc}(hu:P.underlying t=some d)(hn:∀ms,d≠.interface ms){vs:List AV}{v:AV}{a:Value}(hv:aS β vs [a])(hs:zhK t h vs=some v) :
  ∃v',(Instr.makeInterface t a).run P w=.ok v' w∧VR β v v':=by
 obtain⟨p,rfl,hp⟩:=Vd hv
 simp only[zhK,Option.some.injEq]at hs
 subst hs
 refine⟨.iface t a,?_,.FC t hp⟩
 simp only[Instr.makeInterface,Sem.run_bind,run_underlying hu,Result.andThen_ok]
 cases d<;>first | rfl | exact absurd rfl (hn _)
theorem zjt {f:FuncId}{fst cap:Array Operand}{vs:List AV}{v:AV}(hv:aS β vs ((fst.toList++cap.toList).map ρ))(hs:zhL f fst.size h vs=some v) :
  ∃v',(Instr.makeFunc (.func f) (fst.map ρ) (cap.map ρ)).run P w=.ok v' w∧VR β v v':=by
 simp only[zhL,Option.some.injEq]at hs
 subst hs
 refine⟨_,rfl,.fn f ?_ ?_⟩
 ·have:=aS.take fst.size hv
  simpa[List.map_append,List.take_append]using this
 ·have:=aS.drop fst.size hv
  simpa[List.map_append,List.drop_append]using this
end
end
section
def zfX (P:Program)(ρ:Operand→Value)(o:Oper)(w:World)(β:Bt)(v:AV):Prop:=∃v',(execOp ρ o).run P w=.ok (.value v') w∧VR β v v'
section
variable {P:Program} {β:Bt} {B0:Nat} {h:PM AB} {w:World} (ρ:Operand→Value)
theorem xf {o:Oper}{s:Sem Value}{v:AV}(he:execOp ρ o=(do pure (.value (←s))))(hs:∃v',s.run P w=.ok v' w∧VR β v v'):zfX P ρ o w β v:=by
 obtain⟨v',h1,h2⟩:=hs
 exact⟨v',by rw[he];simp[h1],h2⟩
theorem xk {op:cV}{vs:List AV}{v:AV}(h0:Zd op=zhJ)(hs:Zd op h vs=some v):False:=by
 rw[h0]at hs
 simp[zhJ]at hs
theorem Uz (hR:Rel β B0 h w){o:Oper}{c:Call}{b:Builtin}(ho:o.op=.call c)(hb:c.callee=.builtin b){op:cV}{xs:List Operand}(hc:wq P b c.argTypes c.args=some (op,xs))
  {vs:List AV} (hv:aS β vs (xs.map ρ)) {v:AV} (hs:Zd op h vs=some v):zfX P ρ o w β v:=by
 obtain⟨callee,args,argTypes⟩:=c
 simp only at hb hc
 subst hb
 have hx:∀(s:Sem Value),(∀consts,builtin b argTypes o.type consts (args.map ρ)=(do pure (.value (←s))))→execOp ρ o=(do pure (.value (←s))):=by
  intro s h1
  simp only[execOp,ho,resolve,pure_bind,invoke]
  exact h1 _
 have hts:∀l,argTypes.toList=l→argTypes=l.toArray:=fun l hl=>by rw[←hl]
 have hargs:xs=args.toList→aS β vs (args.map ρ).toList:=fun e=>by subst e;simpa using hv
 have hone:∀{a:AV},xs=args.toList→vs=[a]→∃x,args.map ρ=#[x]∧aS β vs [x]:=by
  intro a e e2
  have h1:=hargs e
  have h2:=h1.length
  rw[e2]at h2
  obtain⟨x,hx⟩:∃x,(args.map ρ).toList=[x]:=by
   cases hl:(args.map ρ).toList with
   | nil=>rw[hl]at h2;simp at h2
   | cons x r=>cases r with
    | nil=>exact⟨x,rfl⟩
    | cons y r=>rw[hl]at h2;simp at h2
  refine⟨x,?_,by rw[←hx];exact h1⟩
  apply Array.ext'
  exact hx
 have ID:∀(f:PM AB→List AV→Option AV),(∀vs v,f h vs=some v→∃a,vs=[a])→Zd op=f→xs=args.toList→∃x,args.map ρ=#[x]∧aS β vs [x]:=by
  intro f hf he hxs
  rw[he]at hs
  obtain⟨a,ha⟩:=hf _ _ hs
  exact hone hxs ha
 unfold wq at hc
 split at hc
 ·-- len
  rename_i t m6
  have ht:=hts _ m6
  subst ht
  split at hc
  ·rename_i hu
   cases hc
   obtain⟨x,h1,h2⟩:=ID zeC (fun vs v h=>by unfold zeC at h;split at h<;>first | exact⟨_,rfl⟩ | cases h) rfl rfl
   exact xf ρ (hx _ fun _=>by rw[h1];rfl) (zjv (h:=h) hu h2 hs)
  ·rename_i e hu
   cases hc
   obtain⟨x,h1,h2⟩:=ID U9 (fun vs v h=>by unfold U9 at h;split at h<;>first | exact⟨_,rfl⟩ | cases h) rfl rfl
   exact xf ρ (hx _ fun _=>by rw[h1];rfl) (zib (h:=h) hu h2 hs)
  ·rename_i e f hu
   cases hc
   obtain⟨x,h1,h2⟩:=ID U8 (fun vs v h=>by unfold U8 at h;split at h<;>first | exact⟨_,rfl⟩ | cases h) rfl rfl
   exact xf ρ (hx _ fun _=>by rw[h1];rfl) (zjr hR hu h2 hs)
  ·rename_i n e hu
   cases hc
   obtain⟨x,h1,h2⟩:=ID (zeD n) (fun vs v h=>by unfold zeD at h;split at h<;>first | exact⟨_,rfl⟩ | cases h) rfl rfl
   exact xf ρ (hx _ fun _=>by rw[h1];rfl) (zjw (h:=h) hu h2 hs)
  ·cases hc
 ·rename_i t m6
  have ht:=hts _ m6
  subst ht
  split at hc
  ·rename_i e hu
   cases hc
   obtain⟨x,h1,h2⟩:=ID zaa (fun vs v h=>by unfold zaa at h;split at h<;>first | exact⟨_,rfl⟩ | cases h) rfl rfl
   exact xf ρ (hx _ fun _=>by rw[h1];rfl) (zic (h:=h) hu h2 hs)
  ·cases hc
 ·cases hc
  exact xf ρ (hx _ fun _=>rfl) (zm2 (h:=h) (hargs rfl) hs)
 ·cases hc
  exact xf ρ (hx _ fun _=>rfl) (zm3 (h:=h) (hargs rfl) hs)
 ·split at hc
  ·split at hc
   ·rename_i s Nq _ _ _ _
    cases hq:(Nat.beq s 0||Nat.beq Nq 0)<;>rw[hq]at hc<;>cases hc
    exact (xk rfl hs).elim
   ·cases hc
  ·cases hc
 ·split at hc
  ·split at hc
   ·cases hc;exact (xk rfl hs).elim
   ·cases hc
  ·cases hc
 ·split at hc
  ·split at hc
   ·cases hc;exact (xk rfl hs).elim
   ·cases hc
  ·cases hc
 ·split at hc
  ·rename_i k e _
   cases hq:wu P k<;>rw[hq]at hc<;>cases hc
   exact (xk rfl hs).elim
  ·cases hc
 ·cases hc
theorem zhv (x:Operand)(lo hi mx:Option Operand):([x]++lo.toList++hi.toList++mx.toList).map ρ=ρ x::((lo.toList.map ρ)++((hi.toList.map ρ)++((mx.toList.map ρ)++[]))):=by
 simp
theorem zhw (x:Operand)(lo hi:Option Operand):([x]++lo.toList++hi.toList).map ρ=ρ x::((lo.toList.map ρ)++((hi.toList.map ρ)++[])):=by
 simp
theorem YB {ng:Bool}{t:TypeId}{op:cV}(h:YC P ng t=some op):∃k,op=.eq ng k:=by
 unfold YC at h
 split at h<;>first | (cases h;exact⟨_,rfl⟩) | (cases h;done) | skip
 ·split at h
  ·rename_i s _
   cases hq:Nat.beq s 0<;>rw[hq]at h<;>cases h
   exact⟨_,rfl⟩
  ·cases h
 ·rename_i fs _
  cases hq:P.stoodInHeld t<;>rw[hq]at h
  ·cases hf:y5 P fs.toList with
   | none=>rw[hf]at h;cases h
   | some l=>rw[hf]at h;cases h;exact⟨_,rfl⟩
  ·cases h
theorem zfY (hR:Rel β B0 h w){o:Oper}{op:cV}{xs:List Operand}(hc:Zv P o=some (op,xs)){vs:List AV}(hv:aS β vs (xs.map ρ)){v:AV}(hs:Zd op h vs=some v):zfX P ρ o w β v:=by
 unfold Zv at hc
 split at hc
 ·rename_i x ho
  cases hc
  obtain⟨p,rfl,hp⟩:=Vd hv
  cases hs
  exact⟨ρ x,by simp[execOp,ho],hp⟩
 ·rename_i x ho
  cases hc
  obtain⟨p,rfl,hp⟩:=Vd hv
  cases hs
  exact⟨ρ x,by simp[execOp,ho],hp⟩
 ·rename_i c a b ho
  cases hc
  obtain⟨v',h1,h2⟩:=zjq (P:=P) (w:=w) (h:=h) hv hs
  exact⟨v',by simp only[execOp,ho];exact h1,h2⟩
 ·rename_i e ho
  cases hz:vr P e with
  | none=>rw[hz]at hc;cases hc
  | some z=>rw[hz]at hc;cases hc;exact (xk rfl hs).elim
 ·cases hc;exact (xk rfl hs).elim
 ·rename_i t parts ho
  split at hc
  ·rename_i z ps hz hp
   cases hc
   exact xf ρ (by simp only[execOp,ho]) (zid ρ (h:=h) hz hp (by rw[List.map_map]at hv;exact hv) hs)
  ·cases hc
 ·rename_i t len parts ho
  split at hc
  ·split at hc
   ·rename_i s z _ _
    cases hq:Nat.ble (len * s) 16777216<;>rw[hq]at hc<;>cases hc
    exact (xk rfl hs).elim
   ·cases hc
  ·cases hc
 ·rename_i t a ho
  cases hsh:wD P t with
  | none=>rw[hsh]at hc;cases hc
  | some sh =>
   rw[hsh]at hc
   cases hc
   exact xf ρ (by simp only[execOp,ho]) (zm4 (h:=h) hR hsh hv hs)
 ·rename_i t a x ho
  cases hsz:yE P t with
  | none=>rw[hsz]at hc;cases hc
  | some sz=>rw[hsz]at hc;cases hc;exact (xk rfl hs).elim
 ·rename_i x ho
  cases hc
  exact zm1 ρ (h:=h) o ho rfl hv hs
 ·rename_i bo t x y yt ho
  split at hc
  ·cases hc
   exact xf ρ (by simp only[execOp,ho]) (znb (h:=h) t x y hv hs)
  ·cases hc
   exact xf ρ (by simp only[execOp,ho]) (zjp (h:=h) t x y hv hs)
  ·cases hq:Mk bo<;>rw[hq]at hc
   ·cases hc
   ·cases hce:YC P (Xk bo) t with
    | none=>rw[hce]at hc;cases hc
    | some a =>
     rw[hce]at hc
     cases hc
     obtain⟨k,rfl⟩:=YB hce
     exact xf ρ (by simp only[execOp,ho]) (zp4 (h:=h) hR hq x y hce hv hs)
 ·rename_i uo t x ho
  cases hc
  exact xf ρ (by simp only[execOp,ho]) (zp3 (h:=h) hv hs)
 ·rename_i a b x ho
  split at hc
  ·rename_i k1 k2 h1 h2
   cases hc
   exact xf ρ (by simp only[execOp,ho]) (zjz (h:=h) h1 h2 hv hs)
  ·rename_i h1 h2
   cases hc
   exact xf ρ (by simp only[execOp,ho]) (zjy (h:=h) h1 h2 hv hs)
  ·rename_i e h1 h2
   split at hc
   ·rename_i he
    cases hc
    exact xf ρ (by simp only[execOp,ho]) (zjA (h:=h) hR h1 he h2 hv hs)
   ·cases hc
  ·cases hc
 ·rename_i t x ho
  split at hc
  ·cases hc
  ·rename_i d hd hu
   cases hc
   exact xf ρ (by simp only[execOp,ho]) (zjs (h:=h) hu (fun ms e=>hd ms (by rw[e])) hv hs)
  ·cases hc
 ·rename_i f fst cap ho
  cases hc
  exact xf ρ (by simp only[execOp,ho]) (zjt ρ (h:=h) hv hs)
 ·cases hc;exact (xk rfl hs).elim
 ·split at hc
  ·split at hc
   ·rename_i n _ _
    cases hq:Nat.beq n 0<;>rw[hq]at hc<;>cases hc
    exact (xk rfl hs).elim
   ·cases hc
  ·cases hc
 ·rename_i t x lo hi mx ho
  split at hc
  ·rename_i e hu
   cases hq:(mx.isSome&&hi.isNone)<;>rw[hq]at hc
   ·cases hsz:yE P e with
    | none=>rw[hsz]at hc;cases hc
    | some s =>
     rw[hsz]at hc
     cases hc
     refine xf ρ (by simp only[execOp,ho]) (zm0 ρ (h:=h) (x:=x) hu hsz (fun hm=>?_) (by rw[zhv]at hv;exact hv) hs)
     cases hi with
     | none=>simp[hm]at hq
     | some y=>rfl
   ·cases hc
  ·rename_i hu
   cases hq:mx.isNone<;>rw[hq]at hc
   ·cases hc
   ·cases hc
    have:mx=none:=by cases mx<;>simp at hq ⊢
    subst this
    exact xf ρ (by simp only[execOp,ho];rfl) (zjo ρ (h:=h) hu (by rw[zhw]at hv;exact hv) hs)
  ·cases hc
 ·rename_i t x f ho
  split at hc
  ·rename_i fs hu
   split at hc
   ·rename_i g hf
    split at hc
    ·rename_i s hsz
     rw[zq]at hc
     by_cases h0:s=0
     ·simp[h0]at hc
     ·simp only[h0,decide_false,cond_false]at hc
      cases hc
      exact xf ρ (by simp only[execOp,ho]) (zm9 (h:=h) hu hf hsz h0 hv hs)
    ·cases hc
   ·cases hc
  ·cases hc
 ·rename_i t x f ho
  split at hc
  ·rename_i fs hu
   split at hc
   ·rename_i g hf
    cases hsh:wD P g.type with
    | none=>rw[hsh]at hc;cases hc
    | some sh =>
     rw[hsh]at hc
     cases hc
     exact xf ρ (by simp only[execOp,ho]) (zm8 (h:=h) hu hf hsh hv hs)
   ·cases hc
  ·cases hc
 ·rename_i t x i ho
  split at hc
  ·rename_i e hu
   cases hsz:yE P e with
   | none=>rw[hsz]at hc;cases hc
   | some s =>
    rw[hsz]at hc
    cases hc
    exact xf ρ (by simp only[execOp,ho]) (zm7 (h:=h) hu hsz hv hs)
  ·rename_i n e hu
   cases hsz:yE P e with
   | none=>rw[hsz]at hc;cases hc
   | some s =>
    rw[hsz]at hc
    cases hc
    exact xf ρ (by simp only[execOp,ho]) (zjx (h:=h) hu hsz hv hs)
  ·cases hc
 ·rename_i t x i ho
  split at hc
  ·rename_i n e hu
   split at hc
   ·rename_i sh s hsh hsz
    cases hc
    exact xf ρ (by simp only[execOp,ho]) (zm6 (h:=h) hu hsh hsz hv hs)
   ·cases hc
  ·rename_i hu
   cases hc
   exact xf ρ (by simp only[execOp,ho]) (zm5 (h:=h) hu hv hs)
  ·cases hc
 ·rename_i t x i ok ho
  split at hc
  ·rename_i k e hu
   cases hq:wu P k<;>rw[hq]at hc
   ·cases hc
   ·cases hz:P5 P e with
    | none=>rw[hz]at hc;cases hc
    | some z =>
     rw[hz]at hc
     cases hc
     exact xf ρ (by simp only[execOp,ho]) (zju (h:=h) hR hu hq hz hv hs)
  ·cases hc
 ·split at hc
  ·rename_i kt e hu
   cases hq:wu P kt<;>rw[hq]at hc<;>cases hc
   exact (xk rfl hs).elim
  ·cases hc
 ·rename_i t k ho
  cases hc
  exact xf ρ (by simp only[execOp,ho]) (zna (h:=h) hv hs)
 ·rename_i c ho
  split at hc
  ·rename_i b hb
   exact Uz ρ hR ho hb hc hv hs
  ·cases hc;exact (xk rfl hs).elim
  ·rename_i x _ _
   cases hq:ze1 x<;>rw[hq]at hc<;>cases hc
   exact (xk rfl hs).elim
  ·cases hc
 ·cases hc
end
end
section
open Go.RowKit (Below)
theorem UG {β:Bt}{c:List AV}{cs:Array Value}(h:aS β c cs.toList):vn β c 0 cs:=fun i v hv=>by
 obtain⟨u,h1,h2⟩:=h.get hv
 exact⟨u,by rw[Nat.zero_add,←Array.getElem?_toList];exact h1,h2⟩
theorem zcY {β:Bt}{B0:Nat}{w:World}{c:List AV}{cs:Array Value}{t:TypeId}{heap:Array Obj}(hb:B0≤w.heap.size)(hh:heap[w.heap.size]?=some (.cells cs t (0,0)))(h:aS β c cs.toList) :
  BR β B0 heap w.heap.size 0 cs.size (.cells c):=⟨hb,cs,t,hh,by omega,UG h⟩
section
variable {P:Program} {β:Bt} {B0:Nat} {w:World} (ρ:Operand→Value)
theorem Zf {s:Sem Value}{v:Value}{w w':World}(h:s.run P w=.ok v w'):((do pure (.value (←s))):Sem Next).run P w=.ok (.value v) w':=by
 simp only[Sem.run_bind,h,Result.andThen_ok,Sem.run_pure]
theorem zce {s:Sem Unit}{w w':World}(h:s.run P w=.ok () w'):((do s;pure .skip):Sem Next).run P w=.ok .skip w':=by
 simp only[Sem.run_bind,h,Result.andThen_ok,Sem.run_pure]
theorem zf0 {o:Oper}{op:cV}{xs:List Operand}(hc:Zv P o=some (op,xs)){vs:List AV}(hv:aS β vs (xs.map ρ)){nx:Nat}{cr:AB}{v:AV}(hs:H9 op nx vs=some (cr,v))(hB:B0≤w.heap.size) :
  ∃x v' z,(execOp ρ o).run P w=.ok (.value v') (w.alloc x)∧cr.own=true ∧
   ∀γ,Ext β γ→γ nx=some (w.heap.size,0,z)→VR γ v v'∧BR γ B0 (w.alloc x).heap w.heap.size 0 z cr:=by
 have hnew:∀x:Obj,(w.alloc x).heap[w.heap.size]?=some x:=fun x=>heap_alloc_new w x
 have none_:∀{p},H9 op=zjT→H9 op nx vs=some p→False:=fun h0 h1=>by rw[h0]at h1;cases h1
 unfold Zv at hc
 split at hc
 ·cases hc;exact (none_ rfl hs).elim
 ·cases hc;exact (none_ rfl hs).elim
 ·cases hc;exact (none_ rfl hs).elim
 ·-- alloc
  rename_i e ho
  cases hz:vr P e with
  | none=>rw[hz]at hc;cases hc
  | some z =>
   rw[hz]at hc;cases hc
   cases hv
   cases hs
   obtain⟨ti,zv,hi,IY,FD,hlen,h1⟩:=wk hz
   refine⟨.cells zv.cells e,.pointer (some ⟨w.heap.size,0+0,none⟩),zv.cells.size,?_,rfl,fun γ hx hn=>⟨VR.p hn,zcY hB (hnew _) (FD γ)⟩⟩
   simp[execOp,ho,Instr.alloc,Ya hi IY,newVar,newRow]
 ·-- box
  rename_i e x ho
  cases hc
  obtain⟨p,rfl,hp⟩:=Vd hv
  simp only[H9,Fl]at hs
  cases hl:p.cellsOf with
  | none=>rw[hl]at hs;cases hs
  | some l =>
   rw[hl]at hs
   cases hs
   refine⟨.cells (ρ x).cells e,.pointer (some ⟨w.heap.size,0+0,none⟩),(ρ x).cells.size,?_,rfl,fun γ hx hn=>⟨VR.p hn,zcY hB (hnew _) ((hp.mono hx).cells hl).1⟩⟩
   simp[execOp,ho,Instr.box,newVar,newRow]
 ·split at hc<;>cases hc;exact (none_ rfl hs).elim
 ·-- buildSlice
  rename_i t len parts ho
  split at hc
  ·rename_i e hu
   split at hc
   ·rename_i s z hsz hz
    cases hq:Nat.ble (len * s) 16777216<;>rw[hq]at hc<;>cases hc
    rw[zp,decide_eq_true_eq]at hq
    obtain⟨ti,zv,hi,IY,FD,hlen,h1⟩:=wk hz
    have hs':s=ti.size:=by simp[yE,hi]at hsz;exact hsz.symm
    simp only[H9,Zx]at hs
    cases hf:zF (y7 z len) ((parts.toList.map (·.1)).map fun i=>(i * s,s)) vs with
    | none=>rw[hf]at hs;cases hs
    | some c =>
     rw[hf]at hs
     simp only at hs
     cases h2:c.all AV.one<;>rw[h2]at hs<;>cases hs
     have j5:(parts.map fun (i,x)=>(i,ρ x)).toList=parts.toList.map fun p=>(p.1,ρ p.2):=by simp
     have hzs:zv.cells.size=s:=by have:=(FD β).length;simp at this;omega
     -- Bh znY zqy
     have key:∃zc:Array Value,((len * s=0∧zc=#[])∨(len * s≠0∧zc=zv.cells))∧∀γ,aS γ (y7 z len) ((Array.range (len * s)).map (zc[· % zc.size]!)).toList:=by
      by_cases h0:len * s=0
      ·refine⟨#[],.inl ⟨h0,rfl⟩,fun γ=>?_⟩
       have ju:y7 z len=[]:=List.eq_nil_of_length_eq_zero (by rw[vD,hlen,←hs',h0])
       rw[ju,h0]
       simp
       exact .nil
      ·exact⟨zv.cells,.inr ⟨h0,rfl⟩,fun γ=>Xy (FD γ) len _ (by rw[hzs])⟩
     obtain⟨zc,zoY,zoX⟩:=key
     have uZ:aS β vs ((parts.toList.map fun p=>(p.1,ρ p.2)).map (·.2)):=by rw[List.map_map]at hv ⊢;exact hv
     obtain⟨r',iC,A1⟩:=Xx (fun i=>some (i * s,s)) (zoX β) uZ (fun i p EG=>by
      simp only[List.getElem?_map]at EG ⊢
      cases hq:parts.toList[i]? with
      | none=>rw[hq]at EG;cases EG
      | some q=>rw[hq]at EG;cases EG;rfl) hf
     refine⟨.cells r' e,.slice (some ⟨w.heap.size,0,none⟩) len len,r'.size,?_,rfl,fun γ hx hn=>⟨?_,zcY hB (hnew _) (A1.mono hx)⟩⟩
     ·simp only[execOp,ho,Instr.buildSlice,Sem.run_bind,run_underlying hu,Result.andThen_ok,yO hsz]
      rw[if_neg (by omega)]
      rcases zoY with⟨h0,rfl⟩ | ⟨h0,rfl⟩
      ·simp only[if_pos h0,pure_bind,j5,iC,newRow,Sem.run_bind,run_newObj,Result.andThen_ok,Sem.run_pure]
       rfl
      ·simp only[if_neg h0,Sem.run_bind,Ya hi IY,Result.andThen_ok,pure_bind,j5,iC,newRow,run_newObj,Sem.run_pure]
       rfl
     ·exact VR.sl hn (Nat.le_refl _) (Nat.le_refl _) (fun _=>rfl) (fun h=>absurd rfl h) (.inr rfl)
   ·cases hc
  ·cases hc
 ·rename_i t a ho
  cases hq:wD P t<;>rw[hq]at hc<;>cases hc;exact (none_ rfl hs).elim
 ·rename_i t a x ho
  cases hq:yE P t<;>rw[hq]at hc<;>cases hc;exact (none_ rfl hs).elim
 ·cases hc;exact (none_ rfl hs).elim
 ·rename_i bo t x y yt ho
  split at hc
  ·cases hc;exact (none_ rfl hs).elim
  ·cases hc;exact (none_ rfl hs).elim
  ·cases hq:Mk bo<;>rw[hq]at hc
   ·cases hc
   ·cases hce:YC P (Xk bo) t with
    | none=>rw[hce]at hc;cases hc
    | some a =>
     rw[hce]at hc
     cases hc
     obtain⟨k,rfl⟩:=YB hce
     exact (none_ rfl hs).elim
 ·cases hc;exact (none_ rfl hs).elim
 ·split at hc
  ·cases hc;exact (none_ rfl hs).elim
  ·cases hc;exact (none_ rfl hs).elim
  ·split at hc<;>cases hc<;>exact (none_ rfl hs).elim
  ·cases hc
 ·split at hc<;>cases hc<;>exact (none_ rfl hs).elim
 ·cases hc;exact (none_ rfl hs).elim
 ·-- makeMap
  rename_i t ho
  cases hc
  cases hv
  cases hs
  refine⟨.map #[] 0,.map (some w.heap.size),0,by simp[execOp,ho,Instr.makeMap],rfl,fun γ hx hn=>⟨.m hn,hB,rfl,#[],0,hnew _,.nil⟩⟩
 ·-- makeSlice
  rename_i t l c ho
  split at hc
  ·rename_i e hu
   split at hc
   ·rename_i z nb hz hnb
    cases hqn:Nat.beq nb 0<;>rw[hqn]at hc<;>cases hc
    rw[zq,decide_eq_false_iff_not]at hqn
    obtain⟨ti,zv,hi,IY,FD,hlen,h1⟩:=wk hz
    obtain⟨p,q,rfl,hp,hq⟩:=GD hv
    simp only[H9]at hs
    unfold zfU at hs
    split at hs
    ·rename_i kl lN kc cN he
     cases he
     cases hb:(Nat.ble lN cN&&Nat.ble (cN * nb) 70368744177664)<;>rw[hb]at hs<;>cases hs
     simp only[Bool.and_eq_true,zp,decide_eq_true_eq]at hb
     obtain⟨bP,bT⟩:=hb
     generalize hl:ρ l=L at hp
     generalize HS:ρ c=C at hq
     cases hp
     cases hq
     have zpv:nb=ti.bytes:=by simp[zb4,hi]at hnb;exact hnb.symm
     have hzs:zv.cells.size=ti.size:=by have:=(FD β).length;simp at this;omega
     have h48:(ti.bytes:Int) * (cN:Int)≤70368744177664:=by
      have h9:((cN * nb:Nat):Int)≤((70368744177664:Nat):Int):=Int.ofNat_le.2 bT
      rw[Int.natCast_mul]at h9
      rw[←zpv,Int.mul_comm]
      exact h9
     have Ep:cN≤70368744177664:=Nat.le_trans (Nat.le_mul_of_pos_right cN (by omega)) bT
     have hrun:=run_make (P:=P) w t e ti zv hu hi IY kl kc (lN:Int) (cN:Int) (by omega) (by omega) (by omega) (by omega)
     simp only[Int.toNat_natCast]at hrun
     refine⟨.cells (madeCells zv.cells (cN * ti.size)) e,.slice (some ⟨w.heap.size,0,none⟩) lN cN,_,?_,rfl,fun γ hx hn=>⟨?_,zcY hB (hnew _) (Xy (FD γ) cN _ (by rw[hzs]))⟩⟩
     ·have e1:execOp ρ o=(do pure (.value (←Instr.makeSlice t (ρ l) (ρ c)))):=by simp only[execOp,ho]
      rw[e1,hl,HS]
      exact Zf hrun
     ·exact VR.sl hn bP (Nat.le_refl _) (fun _=>rfl) (fun h=>absurd rfl h) (.inr rfl)
    ·cases hs
   ·cases hc
  ·cases hc
 ·rename_i t x lo hi mx ho
  split at hc
  ·rename_i e hu
   cases hq:(mx.isSome&&hi.isNone)<;>rw[hq]at hc
   ·cases hsz:yE P e<;>rw[hsz]at hc<;>cases hc;exact (none_ rfl hs).elim
   ·cases hc
  ·cases hq:mx.isNone<;>rw[hq]at hc<;>cases hc;exact (none_ rfl hs).elim
  ·cases hc
 ·split at hc
  ·split at hc
   ·split at hc
    ·rename_i s _
     cases hq:Nat.beq s 0<;>rw[hq]at hc<;>cases hc;exact (none_ rfl hs).elim
    ·cases hc
   ·cases hc
  ·cases hc
 ·split at hc
  ·split at hc
   ·rename_i g _
    cases hq:wD P g.type<;>rw[hq]at hc<;>cases hc;exact (none_ rfl hs).elim
   ·cases hc
  ·cases hc
 ·split at hc
  ·rename_i e _
   cases hq:yE P e<;>rw[hq]at hc<;>cases hc;exact (none_ rfl hs).elim
  ·rename_i n e _
   cases hq:yE P e<;>rw[hq]at hc<;>cases hc;exact (none_ rfl hs).elim
  ·cases hc
 ·split at hc
  ·split at hc<;>cases hc;exact (none_ rfl hs).elim
  ·cases hc;exact (none_ rfl hs).elim
  ·cases hc
 ·split at hc
  ·rename_i k e _
   cases hq:wu P k<;>rw[hq]at hc
   ·cases hc
   ·cases hz:P5 P e<;>rw[hz]at hc<;>cases hc;exact (none_ rfl hs).elim
  ·cases hc
 ·split at hc
  ·rename_i kt e hu
   cases hq:wu P kt<;>rw[hq]at hc<;>cases hc;exact (none_ rfl hs).elim
  ·cases hc
 ·cases hc;exact (none_ rfl hs).elim
 ·rename_i c ho
  split at hc
  ·rename_i b hb
   unfold wq at hc
   split at hc
   ·split at hc<;>cases hc<;>exact (none_ rfl hs).elim
   ·split at hc<;>cases hc<;>exact (none_ rfl hs).elim
   ·cases hc;exact (none_ rfl hs).elim
   ·cases hc;exact (none_ rfl hs).elim
   ·split at hc
    ·split at hc
     ·rename_i s Nq _ _ _ _
      cases hq:(Nat.beq s 0||Nat.beq Nq 0)<;>rw[hq]at hc<;>cases hc
      exact (none_ rfl hs).elim
     ·cases hc
    ·cases hc
   ·split at hc
    ·split at hc<;>cases hc;exact (none_ rfl hs).elim
    ·cases hc
   ·split at hc
    ·split at hc<;>cases hc;exact (none_ rfl hs).elim
    ·cases hc
   ·split at hc
    ·rename_i k e _
     cases hq:wu P k<;>rw[hq]at hc<;>cases hc;exact (none_ rfl hs).elim
    ·cases hc
   ·cases hc
  ·cases hc;exact (none_ rfl hs).elim
  ·rename_i x _ _
   cases hq:ze1 x<;>rw[hq]at hc<;>cases hc;exact (none_ rfl hs).elim
  ·cases hc
 ·cases hc
end
end
section
open Go.RowKit (Below)
section
variable {P:Program} {β:Bt} {B0:Nat} {S:St} {w:World} (ρ:Operand→Value)
theorem zqk (hR:Rel β B0 S.h w){t:TypeId}{sz:Nat}(hsz:yE P t=some sz){vs:List AV}{a x:Value}(hv:aS β vs [a,x]){call:cZ}{v:AV}{S':St}(hs:eSt sz call S vs=some (v,S')) :
  v=.bad∧∃w',(Instr.storeAt t a x).run P w=.ok () w'∧dB B0 β S w β S' w':=by
 obtain⟨p,q,rfl,hp,hq⟩:=GD hv
 unfold eSt at hs
 split at hs
 ·rename_i ad y he
  cases he
  cases hl:q.cellsOf with
  | none=>rw[hl]at hs;cases hs
  | some l =>
   rw[hl]at hs
   simp only[zq]at hs
   by_cases hlen:l.length=sz
   ·simp only[hlen,decide_true,cond_true]at hs
    cases hw:wb S.h ad l with
    | none=>rw[hw]at hs;cases hs
    | some h' =>
     rw[hw]at hs
     cases hs
     obtain⟨r,k⟩:=ad
     cases hp with
     | p hb =>
      obtain⟨Ep,Mc⟩:=hq.cells hl
      obtain⟨w',h1,h2⟩:=Xq (P:=P) hR hw hb Ep
      refine⟨rfl,w',?_,h2⟩
      have hsize:x.cells.size=sz:=by have:=Ep.length;simp at this;omega
      simp only[Instr.storeAt,Instr.sureAddr,Sem.run_bind,Sem.run_pure,Result.andThen_ok,storeVar,yO hsz]
      rw[if_neg (by omega)]
      exact h1
   ·simp only[hlen,decide_false,cond_false]at hs;cases hs
 ·cases hs
theorem U3 (k:IntKind)(n:Int):Instr.sameBits 10000 (.int k n) (.int k n)=true:=by simp[Instr.sameBits]
theorem zab {w:World}{b:Nat}{x y:Obj}(hh:w.heap[b]?=some x):(({ w with heap:=w.heap.setIfInBounds b y }:World).heap[b]?=some y)∧∀k,k≠b→({ w with heap:=w.heap.setIfInBounds b y }:World).heap[k]?=w.heap[k]?:=by
 have hlt:=(Array.getElem?_eq_some_iff.1 hh).1
 refine⟨by simp[hlt],fun k hk=>?_⟩
 show (w.heap.setIfInBounds b y)[k]?=_
 rw[Array.getElem?_setIfInBounds_ne (by omega)]
theorem ZB {b:Nat}{ES:Array MapEntry}{gF:Nat}(y:Obj)(hh:w.heap[b]?=some (.map ES gF)):(setObj b y).run P w=.ok () { w with heap:=w.heap.setIfInBounds b y }:=by simp[setObj,Sem.run,hh]
theorem VZ (hR:Rel β B0 S.h w){r b z:Nat}{es es':List (AV×AV)}(hg:S.h.get r=some (.map es))(hb:β r=some (b,0,z)){ES PZ:Array MapEntry}{gF F0:Nat}(hh:w.heap[b]?=some (.map ES gF))(hm:eD β es' PZ.toList) :
  dB B0 β S w β { S with h:=S.h.set r (some (.map es')) } { w with heap:=w.heap.setIfInBounds b (.map PZ F0) }:=by
 obtain⟨h1,h2⟩:=zab (y:=.map PZ F0) hh
 have hle:=(hR.cr r _ b 0 z hg hb).le rfl
 exact zej hR hg rfl rfl hb rfl rfl rfl (by simp) h2 ⟨hle,rfl,PZ,F0,h1,hm⟩
theorem zjF (hR:Rel β B0 S.h w){t kt e:TypeId}(ht:P.underlying t=some (.map kt e))(hk:wu P kt=true){vs:List AV}{m k x:Value}(hv:aS β vs [m,k,x]){call:cZ}{v:AV}{S':St}(hs:zfy call S vs=some (v,S')) :
  v=.bad∧∃w',(Instr.mapUpdate t m k x).run P w=.ok () w'∧dB B0 β S w β S' w':=by
 obtain⟨p,q,y,rfl,hp,hq,hy⟩:=zj2 hv
 obtain⟨kk,hkk⟩:=ZY hk
 unfold zfy at hs
 split at hs
 ·rename_i r kd n u he
  cases he
  split at hs
  ·rename_i es hg
   split at hs
   ·rename_i es' he'
    cases hs
    cases hq
    cases hp with
    | m hb =>
     obtain⟨ES,gF,_,hh,hm⟩:=zcz hR hg hb
     have LZ:(getObj _).run P w=.ok (.map ES gF) w:=ZE hh
     refine⟨rfl,?_⟩
     rcases Wf kk gF hy 0 hm he' with⟨h1,h2⟩ | ⟨i,ent,h1,h2,h3,h4⟩
     ·have hf:=xY (P:=P) (w:=w) hkk h1
      refine⟨_,?_,VZ (F0:=gF+1) (PZ:=ES.push ⟨.int kd n,x,gF⟩) hR hg hb hh (by simpa using h2)⟩
      simp only[Instr.mapUpdate,Sem.run_bind,run_underlying ht,Result.andThen_ok,LZ,xo hkk,hf]
      exact ZB _ hh
     ·have hf:=xY (P:=P) (w:=w) hkk h1
      have h5:ES[i]?=some ent:=by rw[←Array.getElem?_toList];exact h2
      refine⟨_,?_,VZ (F0:=gF) (PZ:=ES.modify i fun e=>{ e with key:=.int kd n,val:=x }) hR hg hb hh ?_⟩
      ·simp only[Instr.mapUpdate,Sem.run_bind,run_underlying ht,Result.andThen_ok,LZ,xo hkk,hf,Nat.zero_add,h5,Option.map_some,Option.getD_some,h3,Instr.keyThatStays,U3,if_true,Sem.run_pure]
       exact ZB _ hh
      ·have:(ES.modify i fun e=>{ e with key:=.int kd n,val:=x }).toList=ES.toList.set i { ent with key:=.int kd n,val:=x }:=by
        apply List.ext_getElem?
        intro j
        rw[Array.getElem?_toList,Array.getElem?_modify,List.getElem?_set]
        have hi:i<ES.toList.length:=(List.getElem?_eq_some_iff.1 h2).1
        by_cases hij:i=j
        ·subst hij
         rw[if_pos rfl,if_pos rfl,if_pos hi,h5]
         rfl
        ·rw[if_neg hij,if_neg hij,Array.getElem?_toList]
       rw[this]
       exact h4
   ·cases hs
  ·cases hs
 ·cases hs
theorem zjG (hR:Rel β B0 S.h w){t u kt e ty:TypeId}(ht:P.underlying t=some (.map kt e))(hk:wu P kt=true){vs:List AV}{m k:Value}(hv:aS β vs [m,k]){call:cZ}{v:AV}{S':St}(hs:zdF call S vs=some (v,S')) :
  v=.bad∧∃w' r,(Builtin.delete_ #[t,u] ty #[m,k]).run P w=.ok r w'∧dB B0 β S w β S' w':=by
 obtain⟨p,q,rfl,hp,hq⟩:=GD hv
 obtain⟨kk,hkk⟩:=ZY hk
 unfold zdF at hs
 split at hs
 ·rename_i kd n he
  cases he
  cases hs
  cases hp
  refine⟨rfl,w,.tuple #[],?_,dB.refl hR⟩
  simp[Builtin.delete_,run_underlying ht,xo hkk]
 ·rename_i r kd n he
  cases he
  split at hs
  ·rename_i es hg
   split at hs
   ·rename_i es' he'
    cases hs
    cases hq
    cases hp with
    | m hb =>
     obtain⟨ES,gF,_,hh,hm⟩:=zcz hR hg hb
     have LZ:(getObj _).run P w=.ok (.map ES gF) w:=ZE hh
     refine⟨rfl,?_⟩
     rcases Wg kk 0 hm he' with⟨h1,h2⟩ | ⟨i,ent,h1,h2,h4⟩
     ·have hf:=xY (P:=P) (w:=w) hkk h1
      refine⟨_,.tuple #[],?_,VZ (F0:=gF) (PZ:=ES) hR hg hb hh h2⟩
      have fc:=ZB (P:=P) (.map ES gF) hh
      simp[Builtin.delete_,run_underlying ht,LZ,xo hkk,hf,fc]
     ·have hf:=xY (P:=P) (w:=w) hkk h1
      refine⟨_,.tuple #[],?_,VZ (F0:=gF) (PZ:=ES.eraseIdxIfInBounds i) hR hg hb hh ?_⟩
      ·have fc:=ZB (P:=P) (.map (ES.eraseIdxIfInBounds i) gF) hh
       simp[Builtin.delete_,run_underlying ht,LZ,xo hkk,hf,fc]
      ·have:(ES.eraseIdxIfInBounds i).toList=ES.toList.eraseIdx i:=by
        simp[Array.eraseIdxIfInBounds]
        split
        ·simp
        ·rename_i hi;simp at h2;omega
       rw[this]
       exact h4
   ·cases hs
  ·cases hs
 ·cases hs
theorem ZZ (hR:Rel β B0 S.h w){a:Option (Nat×Nat)}{len cap ex size n:Nat}{x:Value}{l:List AV}(hx:VR β (.sl a len cap ex) x)(hn:n≤len)(hl:xE S.h a (n * size)=some l) :
  ∃l',aS β l l'∧l'.length=n * size∧∀w2:World,(∀p,w2.cell? p=w.cell? p)→(Builtin.firstCells size n x).run P w2=.ok l'.toArray w2:=by
 cases hx with
 | m9 =>
  have:n=0:=by omega
  subst this
  simp only[xE,Nat.zero_mul,zq,decide_true,cond_true,Option.some.injEq]at hl
  subst hl
  exact⟨[],.nil,by simp,fun w2 _=>by simp[Builtin.firstCells]⟩
 | sl hb Fg hc he hz ha =>
  rename_i r k b o z c' off
  obtain⟨h1,l',h2,h3⟩:=zci hR hl hb
  have hlen:l'.length=n * size:=by rw[←h2.length,h1]
  refine⟨l',h2,hlen,fun w2 hw2=>?_⟩
  rcases Nat.eq_zero_or_pos (n * size)with h0 | h0
  ·have:l'=[]:=List.eq_nil_of_length_eq_zero (by omega)
   subst this
   simp[Builtin.firstCells,h0,loadCells,loadCellsFrom]
  ·have hn0:0<n:=Nat.pos_of_mul_pos_right h0
   have hoff:off=o+k:=by
    rcases ha with h | h
    ·omega
    ·exact h
   subst hoff
   exact run_firstCells_some w2 size n _ len c' l' hlen (fun j v hj=>by rw[YF,hw2];exact h3 j v hj)
section
variable {t u e e':TypeId} {ti:TypeInfo} {z:Value} {ty:TypeId}
theorem UB (ht:P.underlying t=some (.slice e))(hu:P.underlying u=some (.slice e'))(hi:P.info? e=some ti){base xb:Option Addr}{sLen sCap n c:Nat}{news:List Value}
  (hf:(Builtin.firstCells ti.size n (.slice xb n c)).run P w=.ok news.toArray w) (hroom:sLen+n≤sCap) :
  (Builtin.append_ #[t,u] ty #[.slice base sLen sCap,.slice xb n c]).run P w =
   match base with
   | none=>.ok (.slice none (sLen+n) sCap) w
   | some a=>((storeCells (a.add (sLen * ti.size)) news).run P w).andThen fun _ w'=>.ok (.slice (some a) (sLen+n) sCap) w':=by
 cases base with
 | none=>simp[Builtin.append_,run_underlying ht,run_underlying hu,sizeOf,typeInfo,hi,Builtin.lenOf,hroom,hf]
 | some a=>simp[Builtin.append_,run_underlying ht,run_underlying hu,sizeOf,typeInfo,hi,Builtin.lenOf,hroom,hf]
theorem zgQ (ht:P.underlying t=some (.slice e))(hu:P.underlying u=some (.slice e'))(hi:P.info? e=some ti)(hz:ti.zero=some z){base xb:Option Addr}{sLen sCap n c:Nat}{news olds:List Value}
  (hfn:(Builtin.firstCells ti.size n (.slice xb n c)).run P w.drew=.ok news.toArray w.drew) (hfo:(Builtin.firstCells ti.size sLen (.slice base sLen sCap)).run P w.drew=.ok olds.toArray w.drew)
  (hroom:¬sLen+n≤sCap) (hb0:ti.bytes≠0) (hb:(sLen+n) * ti.bytes≤70368744177664) :
  (Builtin.append_ #[t,u] ty #[.slice base sLen sCap,.slice xb n c]).run P w =
   .ok (.slice (some ⟨w.heap.size,0,none⟩) (sLen+n) (grownCap w (sLen+n) sCap e))
    (w.drew.alloc (.cells (olds.toArray++news.toArray++Builtin.zeroCells z.cells (grownCap w (sLen+n) sCap e-(sLen+n))) e)):=by
 have h63':¬(9223372036854775807<((sLen:Int)+(n:Int))):=by
  have:sLen+n≤70368744177664:=Nat.le_trans (Nat.le_mul_of_pos_right _ (by omega)) hb
  omega
 have zp1:¬(281474976710656<Builtin.nextslicecap (sLen+n) sCap * ti.bytes):=by
  have:=growslice_fits (need:=sLen+n) (old:=sCap) (bytes:=ti.bytes) (by omega) (by omega)
  omega
 simp[Builtin.append_,run_underlying ht,run_underlying hu,sizeOf,typeInfo,zeroValue,hi,hz,Builtin.lenOf,hroom,h63',zp1,Question.forced,hfn,hfo,newRow,grownCap]
 congr 2
 apply Array.ext'
 simp[List.append_assoc]
end
theorem zdS {β:Bt}{l:List AV}{o:Nat}{cur:Array Value}{m:List AV}{m':List Value}(h:vn β l o cur)(hm:aS β m m')(hsz:o+l.length+m'.length≤cur.size) :
  vn β (l++m) o (cur.toList.take (o+l.length+0)++m'++cur.toList.drop (o+l.length+0+m'.length)).toArray:=by
 intro i v hv
 rw[List.getElem?_append]at hv
 rw[List.getElem?_toArray,List.append_assoc,List.getElem?_append]
 have eI:(cur.toList.take (o+l.length+0)).length=o+l.length:=by simp;omega
 rw[eI]
 split at hv
 ·obtain⟨u,hu,hr⟩:=h i v hv
  rw[if_pos (by omega),List.getElem?_take,if_pos (by omega),Array.getElem?_toList]
  exact⟨u,hu,hr⟩
 ·obtain⟨u,hu,hr⟩:=hm.get hv
  have hlt:i-l.length<m'.length:=by
   have:=(List.getElem?_eq_some_iff.1 hu).1
   exact this
  rw[if_neg (by omega),List.getElem?_append,if_pos (by omega)]
  exact⟨u,by rw[show o+i-(o+l.length)=i-l.length by omega];exact hu,hr⟩
theorem znj (hR:Rel β B0 S.h w){t u e e' ty:TypeId}{ti:TypeInfo}{z:Value}(ht:P.underlying t=some (.slice e))(hu:P.underlying u=some (.slice e'))(hi:P.info? e=some ti)(hz:ti.zero=some z)
  (hzs:z.cells.size=ti.size) (hs0:ti.size≠0) (hb0:ti.bytes≠0) {vs:List AV} {s x:Value} (hv:aS β vs [s,x]) {call:cZ} {v:AV} {S':St} (hs:ziQ ti.size ti.bytes call S vs=some (v,S')) (hfree:WG β S.nx S'.nx) :
  ∃γ v' w',(Builtin.append_ #[t,u] ty #[s,x]).run P w=.ok v' w'∧VR γ v v'∧dB B0 β S w γ S' w':=by
 obtain⟨p,q,rfl,hp,hq⟩:=GD hv
 unfold ziQ at hs
 split at hs
 ·rename_i a len cap ex b n cb eb he
  cases he
  cases hnew:xE S.h b (n * ti.size)with
  | none=>rw[hnew]at hs;cases hs
  | some new =>
   rw[hnew]at hs
   simp only at hs
   cases hone:new.all AV.one with
   | false=>rw[hone]at hs;cases hs
   | true =>
    rw[hone]at hs
    simp only[cond_true]at hs
    obtain⟨news,nh,hn2,LY⟩:=ZZ hR hq (Nat.le_refl n) hnew
    have zqG:=nh.length
    obtain⟨xb,xc,rfl⟩:∃xb xc,x=.slice xb n xc:=by cases hq<;>exact⟨_,_,rfl⟩
    have h1n:=nh.af hone
    unfold ziY at hs
    rw[zp]at hs
    by_cases hroom:len+n≤cap
    ·simp only[hroom,decide_true,cond_true]at hs
     cases hp with
     | m9 =>
      cases hs
      have hn0:n=0:=by omega
      subst hn0
      refine⟨β,.slice none 0 0,w,?_,.m9,dB.refl hR⟩
      rw[UB ht hu hi (LY w fun _=>rfl) (by omega)]
     | sl hb hl hc he LS ha =>
      rename_i r k bb o zz c' off _
      rw[UB ht hu hi (LY w fun _=>rfl) (by omega)]
      rw[zq]at hs
      by_cases hn0:n=0
      ·subst hn0
       simp only[decide_true,cond_true]at hs
       cases hs
       have:news=[]:=List.eq_nil_of_length_eq_zero (by rw[hn2];simp)
       subst this
       refine⟨β,_,w,by simp[storeCells],.sl hb hl hc he LS ha,dB.refl hR⟩
      ·simp only[hn0,decide_false,cond_false]at hs
       cases hw:wb S.h (r,k+len * ti.size) new with
       | none=>rw[hw]at hs;cases hs
       | some h' =>
        rw[hw]at hs
        cases hs
        obtain⟨w',h1,h2⟩:=Xq (P:=P) hR hw hb nh
        have hoff:off=o+k:=by rcases ha with h | h<;>omega
        refine⟨β,.slice (some ⟨bb,off,none⟩) (len+n) c',w',?_,.sl hb hroom hc he LS ha,h2⟩
        simp only[YF,hoff]
        rw[←Nat.add_assoc]at h1
        simp only[h1,Result.andThen_ok]
    ·simp only[hroom,decide_false,cond_false]at hs
     rw[zp]at hs
     by_cases hbytes:(len+n) * ti.bytes≤70368744177664
     ·simp only[hbytes,decide_true,cond_true]at hs
      cases hold:xE S.h a (len * ti.size)with
      | none=>rw[hold]at hs;cases hs
      | some old =>
       cases cU:gone S.h a ex ti.size with
       | none=>rw[hold,cU]at hs;cases hs
       | some h1 =>
        rw[hold,cU]at hs
        simp only[Option.some.injEq,Prod.mk.injEq]at hs
        obtain⟨rfl,rfl⟩:=hs
        obtain⟨olds,dN,j6,u9⟩:=ZZ hR hp (Nat.le_refl len) hold
        have zlG:=dN.length
        have hfr:β S.nx=none:=hfree S.nx (Nat.le_refl _) (Nat.lt_succ_self _)
        have zly:aS β (old++new) (olds++news):=dN.append nh
        -- a new block,in Er state
        have fresh:∀(S1:St) (base:Option Addr) (sCap:Nat),dB B0 β S w β S1 w→S1.nx=S.nx→s=.slice base len sCap→¬len+n≤sCap →
          ∃γ v' w',(Builtin.append_ #[t,u] ty #[s,.slice xb n xc]).run P w=.ok v' w'∧VR γ (.sl (some (S.nx,0)) (len+n) (len+n) ti.size) v'∧dB B0 β S w γ { h:=S1.h.set S.nx (some (.cells (old++new))),nx:=S.nx+1 } w':=by
         intro S1 base sCap hst hnx hse hno
         subst hse
         have hrun:=zgQ (P:=P) (w:=w) (ty:=ty) ht hu hi hz (LY w.drew fun _=>rfl) (u9 w.drew fun _=>rfl) hno hb0 hbytes
         have hge:=grownCap_ge w (len+n) sCap e
         have hsz:(olds.toArray++news.toArray++Builtin.zeroCells z.cells (grownCap w (len+n) sCap e-(len+n))).size=grownCap w (len+n) sCap e * ti.size:=by
          simp only[Array.size_append,List.size_toArray,size_zeroCells,hzs,j6,hn2,←Nat.add_mul]
          congr 1
          omega
         refine⟨jt β S.nx (w.heap.size,0,grownCap w (len+n) sCap e * ti.size),_,_,hrun,.sl (xq _ _ _) (Nat.le_refl _) hge (fun h=>absurd h hs0) (fun _=>by omega) (.inr rfl),?_⟩
         have Ae:BR (jt β S1.nx (w.heap.size,0,grownCap w (len+n) sCap e * ti.size)) B0 (w.drew.alloc (.cells (olds.toArray++news.toArray++Builtin.zeroCells z.cells (grownCap w (len+n) sCap e-(len+n))) e)).heap w.heap.size 0 (grownCap w (len+n) sCap e * ti.size) (.cells (old++new)):=by
          refine⟨hR.le,_,e,heap_alloc_new w.drew _,by omega,fun i v hv=>?_⟩
          obtain⟨y,hy,hr⟩:=zly.get hv
          refine⟨y,?_,hr.mono (ZT (by rw[hnx];exact hfr))⟩
          have hlt:i<(olds++news).length:=(List.getElem?_eq_some_iff.1 hy).1
          rw[Nat.zero_add,Array.getElem?_append,if_pos (by simpa using hlt)]
          rw[←Array.getElem?_toList]
          simpa using hy
         have I2:=zel (S:=S1) (w:=w) hst.rel (x:=.cells (olds.toArray++news.toArray++Builtin.zeroCells z.cells (grownCap w (len+n) sCap e-(len+n))) e) (w':=w.drew.alloc (.cells (olds.toArray++news.toArray++Builtin.zeroCells z.cells (grownCap w (len+n) sCap e-(len+n))) e)) (by rw[hnx];exact hfr) rfl rfl rfl rfl rfl Ae
         rw[hnx]at I2
         exact hst.trans I2
        unfold gone at cU
        rw[zq]at cU
        by_cases hex:ex=0
        ·simp only[hex,decide_true,cond_true,Option.some.injEq]at cU
         subst cU
         cases hp with
         | m9=>exact fresh S none 0 (dB.refl hR) rfl rfl hroom
         | sl hb hl hc he LS ha=>exact fresh S _ _ (dB.refl hR) rfl rfl (by rw[he hex];exact hroom)
        ·simp only[hex,decide_false,cond_false]at cU
         rw[zq]at cU
         by_cases Sr:ex=ti.size
         ·simp only[Sr,decide_true,cond_true]at cU
          cases hp with
          | m9=>cases cU
          | sl hb hl hc he LS ha =>
           rename_i r k bb o zz c' off
           simp only at cU
           cases EF:live S.h r with
           | false=>rw[EF]at cU;cases cU
           | true =>
            rw[EF]at cU
            simp only[cond_true,Option.some.injEq]at cU
            subst cU
            by_cases EJ:len+n≤c'
            ·-- in place
             unfold live at EF
             split at EF
             ·rename_i cc GY
              obtain⟨hle,cur,tt,hh,hzc,hcell⟩:=hR.cr r _ bb o zz GY hb
              have hoff:off=o+k:=by rcases ha with h | h<;>omega
              subst hoff
              have zoW:=LS hex
              rw[Sr]at zoW
              have hmul:len * ti.size+n * ti.size≤c' * ti.size:=by rw[←Nat.add_mul];exact Nat.mul_le_mul_right _ EJ
              have hlo:old.length=len * ti.size:=by rw[zlG,j6]
              have hst:=run_storeCells_at P bb (o+k+len * ti.size) tt news 0 cur w hh (by omega) h1n
              have jw:vn β old (o+k) cur:=by
               intro i v hv
               simp only[xE,GY,AB.read]at hold
               obtain⟨Se,GQ,N8⟩:=Uv hold
               obtain⟨y,hy,hr⟩:=hcell (k+i) v (N8 i v hv)
               exact⟨y,by rw[show o+k+i=o+(k+i) by omega];exact hy,hr⟩
              refine⟨jt β S.nx (bb,o+k,zz-k),.slice (some ⟨bb,o+k,none⟩) (len+n) c',w.setRow bb (cur.toList.take (o+k+len * ti.size+0)++news++cur.toList.drop (o+k+len * ti.size+0+news.length)).toArray,?_,.sl (xq _ _ _) (Nat.le_refl _) EJ (fun h=>absurd h hs0) (fun _=>by omega) (.inr (by omega)),?_⟩
              ·rw[UB ht hu hi (LY w fun _=>rfl) EJ]
               simp only[YF,hst,Result.andThen_ok]
              ·have fC:=ZT (x:=(bb,o+k,zz-k)) hfr
               refine zek hR hfr rfl GY rfl hb rfl rfl rfl (XJ _ _ _) (fun j hj=>Y2 _ _ _ _ hj) ⟨hle,_,tt,U1 _ hh,?_,?_⟩
               ·simp only[List.size_toArray,List.length_append,List.length_take,List.length_drop,Array.length_toList]
                omega
               ·have hsp:=zdS jw nh (by omega)
                rw[hlo]at hsp
                exact hsp.mono fC
             ·cases EF
            ·exact fresh { S with h:=S.h.set r none } _ _ (zb6 hR r (by rw[hb];simp)) rfl rfl EJ
         ·simp only[Sr,decide_false,cond_false]at cU;cases cU
     ·simp only[hbytes,decide_false,cond_false]at hs;cases hs
 ·cases hs
end
end
section
open Go.RowKit (Below)
section
variable {P:Program} {β:Bt} {B0:Nat} {S:St} {w:World} (ρ:Operand→Value)
theorem zni (hR:Rel β B0 S.h w){t e ty:TypeId}{z:List AV}(ht:P.underlying t=some (.slice e))(hz:vr P e=some z){vs:List AV}{x:Value}(hv:aS β vs [x]){call:cZ}{v:AV}{S':St}(hs:P1 z call S vs=some (v,S')) :
  v=.bad∧∃w' r,(Builtin.clear_ #[t] ty #[x]).run P w=.ok r w'∧dB B0 β S w β S' w':=by
 obtain⟨p,rfl,hp⟩:=Vd hv
 unfold P1 at hs
 split at hs
 ·rename_i a n cap ex he
  cases he
  rw[zq]at hs
  by_cases hn:n=0
  ·subst hn
   simp only[decide_true,cond_true]at hs
   cases hs
   refine⟨rfl,w,.tuple #[],?_,dB.refl hR⟩
   cases hp with
   | m9=>simp[Builtin.clear_,run_underlying ht]
   | sl=>simp[Builtin.clear_,run_underlying ht]
  ·simp only[hn,decide_false,cond_false]at hs
   cases hp with
   | m9=>exact absurd rfl hn
   | sl hb hl hc he LS ha =>
    rename_i r k b o zz c' off
    simp only at hs
    cases hw:wb S.h (r,k) (y7 z n)with
    | none=>rw[hw]at hs;cases hs
    | some h' =>
     rw[hw]at hs
     cases hs
     obtain⟨ti,zv,hi,IY,FD,hlen,h1⟩:=wk hz
     have hzs:zv.cells.size=ti.size:=by have:=(FD β).length;simp at this;omega
     have MO:aS β (y7 z n) (Builtin.zeroCells zv.cells n).toList:=Xy (FD β) n _ rfl
     obtain⟨w',h2,h3⟩:=Xq (P:=P) hR hw hb MO
     have hoff:off=o+k:=by rcases ha with h | h<;>omega
     subst hoff
     refine⟨rfl,w',.tuple #[],?_,h3⟩
     obtain⟨m,rfl⟩:∃m,n=m+1:=⟨n-1,by omega⟩
     simp only at h2
     simp[Builtin.clear_,run_underlying ht,Ya hi IY,h2]
 ·cases hs
theorem znh (hR:Rel β B0 S.h w){t u e ty:TypeId}{size:Nat}(ht:P.underlying t=some (.slice e))(hsz:yE P e=some size){vs:List AV}{d x:Value}(hv:aS β vs [d,x]){call:cZ}{v:AV}{S':St}(hs:P2 size call S vs=some (v,S')) :
  ∃v' w',(Builtin.copy_ #[t,u] ty #[d,x]).run P w=.ok v' w'∧VR β v v'∧dB B0 β S w β S' w':=by
 obtain⟨p,q,rfl,hp,hq⟩:=GD hv
 unfold P2 at hs
 split at hs
 ·rename_i a dl dc de b sl sc se he
  cases he
  cases hvs:xE S.h b (Nat.min sl dl * size)with
  | none=>rw[hvs]at hs;cases hs
  | some vs =>
   rw[hvs]at hs
   simp only at hs
   have zpz:Nat.min sl dl≤sl:=Nat.min_le_left sl dl
   obtain⟨l',h1,h2,h3⟩:=ZZ (P:=P) (n:=Nat.min sl dl) hR hq zpz hvs
   have hf:=h3 w fun _=>rfl
   have hlx:(Builtin.lenOf x).run P w=.ok sl w:=by cases hq<;>simp[Builtin.lenOf]
   rw[zq]at hs
   by_cases hn:Nat.min sl dl=0
   ·simp only[hn,decide_true,cond_true]at hs
    cases hs
    have:l'=[]:=List.eq_nil_of_length_eq_zero (by rw[h2,hn];simp)
    subst this
    rw[hn]at hf
    have hmin:min sl dl=0:=hn
    cases hp with
    | m9=>exact⟨.int .i64 0,w,by simp[Builtin.copy_,run_underlying ht,hlx,yO hsz,hf,goInt,hmin],.i _ _,dB.refl hR⟩
    | sl=>exact⟨.int .i64 0,w,by simp[Builtin.copy_,run_underlying ht,hlx,yO hsz,hf,goInt,hmin,storeCells],.i _ _,dB.refl hR⟩
   ·simp only[hn,decide_false,cond_false]at hs
    cases hp with
    | m9=>exact absurd (Nat.min_eq_right (Nat.zero_le _)) hn
    | sl hb hl hc he LS ha =>
     rename_i r k bb o zz c' off
     simp only at hs
     cases hw:wb S.h (r,k) vs with
     | none=>rw[hw]at hs;cases hs
     | some h' =>
      rw[hw]at hs
      cases hs
      obtain⟨w',h4,h5⟩:=Xq (P:=P) hR hw hb h1
      have hmd:Nat.min sl dl≤dl:=Nat.min_le_right sl dl
      have hoff:off=o+k:=by rcases ha with h | h<;>omega
      subst hoff
      refine⟨.int .i64 (Nat.min sl dl:Nat),w',?_,.i _ _,h5⟩
      simp only at h4
      have hmin:min sl dl=Nat.min sl dl:=rfl
      simp[Builtin.copy_,run_underlying ht,hlx,yO hsz,hf,goInt,h4]
 ·cases hs
def Plain (P:Program)(ρ:Operand→Value)(o:Oper)(B0:Nat)(β:Bt)(S:St)(w:World)(v:AV)(S':St):Prop :=
 ∃w' γ,dB B0 β S w γ S' w'∧((∃v',(execOp ρ o).run P w=.ok (.value v') w'∧VR γ v v')∨((execOp ρ o).run P w=.ok .skip w'∧v=.bad))
theorem vP {o:Oper}{args:Array Operand}{argTypes:Array TypeId}{b:Builtin}(ho:o.op=.call { callee:=.builtin b,args:=args,argTypes:=argTypes })(s:Sem Value)
  (h1:∀consts,builtin b argTypes o.type consts (args.map ρ)=(do pure (.value (←s)))):execOp ρ o=(do pure (.value (←s))):=by
 simp only[execOp,ho,resolve,pure_bind,invoke]
 exact h1 _
theorem VX {args:Array Operand}{vs:List AV}{a b:AV}(hv:aS β vs (args.toList.map ρ))(e:vs=[a,b]):∃x y,args.map ρ=#[x,y]∧aS β vs [x,y]:=by
 subst e
 have h0:(args.map ρ).toList=args.toList.map ρ:=by simp
 rw[←h0]at hv
 generalize hA:args.map ρ=A at hv ⊢
 generalize hl:A.toList=l at hv
 cases hv with
 | cons h1 t=>cases t with
  | cons h2 t=>cases t;exact⟨_,_,by apply Array.ext';exact hl,.cons h1 (.cons h2 .nil)⟩
theorem zgr {args:Array Operand}{vs:List AV}{a:AV}(hv:aS β vs (args.toList.map ρ))(e:vs=[a]):∃x,args.map ρ=#[x]∧aS β vs [x]:=by
 subst e
 have h0:(args.map ρ).toList=args.toList.map ρ:=by simp
 rw[←h0]at hv
 generalize hA:args.map ρ=A at hv ⊢
 generalize hl:A.toList=l at hv
 cases hv with
 | cons h1 t=>cases t;exact⟨_,by apply Array.ext';exact hl,.cons h1 .nil⟩
def cV.dY:cV→Bool
 | .call _ | .eX=>true
 | _=>false
theorem ziC (hR:Rel β B0 S.h w){o:Oper}{op:cV}{xs:List Operand}(hc:Zv P o=some (op,xs))(hn:op.dY=false){vs:List AV}(hv:aS β vs (xs.map ρ)){call:cZ}{v:AV}{S':St}
  (hs:WI op call S vs=some (v,S')) (hfree:WG β S.nx S'.nx):Plain P ρ o B0 β S w v S':=by
 have none_:∀{p},WI op=zjH→WI op call S vs=some p→False:=fun h0 h1=>by rw[h0]at h1;cases h1
 unfold Zv at hc
 split at hc
 ·cases hc;exact (none_ rfl hs).elim
 ·cases hc;exact (none_ rfl hs).elim
 ·cases hc;exact (none_ rfl hs).elim
 ·rename_i e _
  cases hq:vr P e<;>rw[hq]at hc<;>cases hc;exact (none_ rfl hs).elim
 ·cases hc;exact (none_ rfl hs).elim
 ·split at hc<;>cases hc;exact (none_ rfl hs).elim
 ·rename_i t len parts ho
  split at hc
  ·split at hc
   ·rename_i s z _ _
    cases hq:Nat.ble (len * s) 16777216<;>rw[hq]at hc<;>cases hc
    exact (none_ rfl hs).elim
   ·cases hc
  ·cases hc
 ·rename_i t a ho
  cases hq:wD P t<;>rw[hq]at hc<;>cases hc;exact (none_ rfl hs).elim
 ·-- store
  rename_i t a x ho
  cases hsz:yE P t with
  | none=>rw[hsz]at hc;cases hc
  | some sz =>
   rw[hsz]at hc;cases hc
   obtain⟨rfl,w',h1,h2⟩:=zqk (P:=P) (call:=call) hR hsz hv hs
   refine⟨w',β,h2,.inr ⟨?_,rfl⟩⟩
   have:execOp ρ o=(do Instr.storeAt t (ρ a) (ρ x);pure .skip):=by simp only[execOp,ho]
   rw[this]
   exact zce h1
 ·cases hc;exact (none_ rfl hs).elim
 ·rename_i bo t x y yt ho
  split at hc
  ·cases hc;exact (none_ rfl hs).elim
  ·cases hc;exact (none_ rfl hs).elim
  ·cases hq:Mk bo<;>rw[hq]at hc
   ·cases hc
   ·cases hce:YC P (Xk bo) t with
    | none=>rw[hce]at hc;cases hc
    | some a =>
     rw[hce]at hc
     cases hc
     obtain⟨k,rfl⟩:=YB hce
     exact (none_ rfl hs).elim
 ·cases hc;exact (none_ rfl hs).elim
 ·split at hc
  ·cases hc;exact (none_ rfl hs).elim
  ·cases hc;exact (none_ rfl hs).elim
  ·split at hc<;>cases hc<;>exact (none_ rfl hs).elim
  ·cases hc
 ·split at hc<;>cases hc<;>exact (none_ rfl hs).elim
 ·cases hc;exact (none_ rfl hs).elim
 ·cases hc;exact (none_ rfl hs).elim
 ·split at hc
  ·split at hc
   ·rename_i n _ _
    cases hq:Nat.beq n 0<;>rw[hq]at hc<;>cases hc
    exact (none_ rfl hs).elim
   ·cases hc
  ·cases hc
 ·rename_i t x lo hi mx ho
  split at hc
  ·rename_i e hu
   cases hq:(mx.isSome&&hi.isNone)<;>rw[hq]at hc
   ·cases hsz:yE P e<;>rw[hsz]at hc<;>cases hc;exact (none_ rfl hs).elim
   ·cases hc
  ·cases hq:mx.isNone<;>rw[hq]at hc<;>cases hc;exact (none_ rfl hs).elim
  ·cases hc
 ·split at hc
  ·split at hc
   ·split at hc
    ·rename_i s _
     cases hq:Nat.beq s 0<;>rw[hq]at hc<;>cases hc;exact (none_ rfl hs).elim
    ·cases hc
   ·cases hc
  ·cases hc
 ·split at hc
  ·split at hc
   ·rename_i g _
    cases hq:wD P g.type<;>rw[hq]at hc<;>cases hc;exact (none_ rfl hs).elim
   ·cases hc
  ·cases hc
 ·split at hc
  ·rename_i e _
   cases hq:yE P e<;>rw[hq]at hc<;>cases hc;exact (none_ rfl hs).elim
  ·rename_i n e _
   cases hq:yE P e<;>rw[hq]at hc<;>cases hc;exact (none_ rfl hs).elim
  ·cases hc
 ·split at hc
  ·split at hc<;>cases hc;exact (none_ rfl hs).elim
  ·cases hc;exact (none_ rfl hs).elim
  ·cases hc
 ·split at hc
  ·rename_i k e _
   cases hq:wu P k<;>rw[hq]at hc
   ·cases hc
   ·cases hz:P5 P e<;>rw[hz]at hc<;>cases hc;exact (none_ rfl hs).elim
  ·cases hc
 ·-- mapUpdate
  rename_i t m k x ho
  split at hc
  ·rename_i kt e hu
   cases hq:wu P kt<;>rw[hq]at hc<;>cases hc
   obtain⟨rfl,w',h1,h2⟩:=zjF (P:=P) (call:=call) hR hu hq hv hs
   refine⟨w',β,h2,.inr ⟨?_,rfl⟩⟩
   have:execOp ρ o=(do Instr.mapUpdate t (ρ m) (ρ k) (ρ x);pure .skip):=by simp only[execOp,ho]
   rw[this]
   exact zce h1
  ·cases hc
 ·cases hc;exact (none_ rfl hs).elim
 ·rename_i c ho
  split at hc
  ·rename_i b hb
   obtain⟨callee,args,argTypes⟩:=c
   simp only at hb hc
   subst hb
   have hts:∀l,argTypes.toList=l→argTypes=l.toArray:=fun l hl=>by rw[←hl]
   unfold wq at hc
   split at hc
   ·split at hc<;>cases hc<;>exact (none_ rfl hs).elim
   ·split at hc<;>cases hc<;>exact (none_ rfl hs).elim
   ·cases hc;exact (none_ rfl hs).elim
   ·cases hc;exact (none_ rfl hs).elim
   ·-- append
    rename_i t u m6
    have ht:=hts _ m6
    subst ht
    split at hc
    ·rename_i e e' I1 hu2
     split at hc
     ·rename_i s Nq zz hsz hby hz
      cases hq:(Nat.beq s 0||Nat.beq Nq 0)<;>rw[hq]at hc<;>cases hc
      simp only[Bool.or_eq_false_iff,zq,decide_eq_false_iff_not]at hq
      obtain⟨ti,zv,hi,IY,FD,hlen,h1⟩:=wk hz
      have hs1:s=ti.size:=by simp[yE,hi]at hsz;exact hsz.symm
      have gv:Nq=ti.bytes:=by simp[zb4,hi]at hby;exact hby.symm
      subst hs1;subst gv
      have hzs:zv.cells.size=ti.size:=by have:=(FD β).length;simp at this;omega
      have hvs:∃a b,vs=[a,b]:=by
       simp only[WI]at hs
       unfold ziQ at hs
       split at hs
       ·exact⟨_,_,rfl⟩
       ·cases hs
      obtain⟨a,b,hab⟩:=hvs
      obtain⟨x,y,hxy,Fe⟩:=VX ρ hv hab
      obtain⟨γ,v',w',h2,h3,h4⟩:=znj (P:=P) (call:=call) (ty:=o.type) hR I1 hu2 hi IY hzs hq.1 hq.2 Fe hs hfree
      refine⟨w',γ,h4,.inl ⟨v',?_,h3⟩⟩
      rw[vP ρ ho (Builtin.append_ #[t,u] o.type #[x,y]) (fun _=>by rw[hxy];rfl)]
      exact Zf h2
     ·cases hc
    ·cases hc
   ·-- clear
    rename_i t m6
    have ht:=hts _ m6
    subst ht
    split at hc
    ·rename_i e I1
     split at hc
     ·rename_i z hz
      cases hc
      have hvs:∃a,vs=[a]:=by
       simp only[WI]at hs
       unfold P1 at hs
       split at hs
       ·exact⟨_,rfl⟩
       ·cases hs
      obtain⟨a,ha⟩:=hvs
      obtain⟨x,hx,Fe⟩:=zgr ρ hv ha
      obtain⟨rfl,w',r,h2,h4⟩:=zni (P:=P) (call:=call) (ty:=o.type) hR I1 hz Fe hs
      refine⟨w',β,h4,.inl ⟨r,?_,.bad _⟩⟩
      rw[vP ρ ho (Builtin.clear_ #[t] o.type #[x]) (fun _=>by rw[hx];rfl)]
      exact Zf h2
     ·cases hc
    ·cases hc
   ·-- copy
    rename_i t u m6
    have ht:=hts _ m6
    subst ht
    split at hc
    ·rename_i e e' I1 hu2
     split at hc
     ·rename_i s hsz
      cases hc
      have hvs:∃a b,vs=[a,b]:=by
       simp only[WI]at hs
       unfold P2 at hs
       split at hs
       ·exact⟨_,_,rfl⟩
       ·cases hs
      obtain⟨a,b,hab⟩:=hvs
      obtain⟨x,y,hxy,Fe⟩:=VX ρ hv hab
      obtain⟨v',w',h2,h3,h4⟩:=znh (P:=P) (call:=call) (u:=u) (ty:=o.type) hR I1 hsz Fe hs
      refine⟨w',β,h4,.inl ⟨v',?_,h3⟩⟩
      rw[vP ρ ho (Builtin.copy_ #[t,u] o.type #[x,y]) (fun _=>by rw[hxy];rfl)]
      exact Zf h2
     ·cases hc
    ·cases hc
   ·-- delete
    rename_i t u m6
    have ht:=hts _ m6
    subst ht
    split at hc
    ·rename_i k e I1
     cases hq:wu P k<;>rw[hq]at hc<;>cases hc
     have hvs:∃a b,vs=[a,b]:=by
      simp only[WI]at hs
      unfold zdF at hs
      split at hs
      ·exact⟨_,_,rfl⟩
      ·exact⟨_,_,rfl⟩
      ·cases hs
     obtain⟨a,b,hab⟩:=hvs
     obtain⟨x,y,hxy,Fe⟩:=VX ρ hv hab
     obtain⟨rfl,w',r,h2,h4⟩:=zjG (P:=P) (call:=call) (u:=u) (ty:=o.type) hR I1 hq Fe hs
     refine⟨w',β,h4,.inl ⟨r,?_,.bad _⟩⟩
     rw[vP ρ ho (Builtin.delete_ #[t,u] o.type #[x,y]) (fun _=>by rw[hxy];rfl)]
     exact Zf h2
    ·cases hc
   ·cases hc
  ·cases hc;cases hn
  ·rename_i x _ _
   cases hq:ze1 x<;>rw[hq]at hc<;>cases hc;cases hn
  ·cases hc
 ·cases hc
def St.wf (S:St):Prop:=∀n bl,S.h.get n=some bl→n<S.nx
def Xf (P:Program)(B0:Nat)(call:cZ):Prop :=
 ∀ f vs S v S', call f vs S = some (v, S') → (∃ fn, P.funcs[f]? = some fn ∧ fn.body.isSome = true ∧ (fn.name == "runtime.NumGoroutine") = false) ∧
  ∀β w (as:Array Value),S.wf→aS β vs as.toList→Rel β B0 S.h w→WG β S.nx S'.nx →
   Calls P f as w fun e w'=>∃γ v',e=.returned v'∧VR γ v v'∧dB B0 β S w γ S' w'
theorem Xd {f : FuncId} {fn : Func} (hf : P.funcs[f]? = some fn) (hb : fn.body.isSome = true) (hn : (fn.name == "runtime.NumGoroutine") = false) (as : Array Value) : (callFunc f as).run P w = .ok (.enter f as) w := by
 have hb':fn.body.isNone=false:=by cases h:fn.body<;>simp[h]at hb ⊢
 have hn' : fn.name ≠ "runtime.NumGoroutine" := by simpa using hn
 have bT:fn.body≠none:=fun e=>by rw[e]at hb;cases hb
 simp[callFunc,hf,hn',bT]
theorem zbF {o:Oper}{c:Call}(ho:o.op=.call c){f:FuncId}(hc:c.callee=.value (.func f))(hρ:ρ (.func f)=.func (.func f) #[] #[]){fn:Func}(hf:P.funcs[f]?=some fn)(hb:fn.body.isSome=true)
  (hn : (fn.name == "runtime.NumGoroutine") = false) : (execOp ρ o).run P w = .ok (.enter f (c.args.map ρ)) w := by
 have h1:execOp ρ o=(do let d ←resolve ρ c o.type;invoke d.target d.args):=by simp only[execOp,ho]
 have h2:resolve ρ c o.type=pure { target:=.fn (.func f) #[],args:=c.args.map ρ }:=by
  simp only[resolve,hc,hρ,Deferred.ofValue,Array.empty_append]
 rw[h1,h2]
 simp only[pure_bind,invoke,Array.append_empty]
 exact Xd hf hb hn _
theorem zaK {o:Oper}{c:Call}(ho:o.op=.call c){x:Operand}(hc:c.callee=.value x){f:FuncId}{fst cap:Array Value}(hρ:ρ x=.func (.func f) fst cap){fn:Func}(hf:P.funcs[f]?=some fn)(hb:fn.body.isSome=true)
  (hn : (fn.name == "runtime.NumGoroutine") = false) : (execOp ρ o).run P w = .ok (.enter f (fst ++ c.args.map ρ ++ cap)) w := by
 have h1:execOp ρ o=(do let d ←resolve ρ c o.type;invoke d.target d.args):=by simp only[execOp,ho]
 have h2:resolve ρ c o.type=pure { target:=.fn (.func f) cap,args:=fst++c.args.map ρ }:=by
  simp only[resolve,hc,hρ,Deferred.ofValue]
 rw[h1,h2]
 simp only[pure_bind,invoke]
 exact Xd hf hb hn _
theorem Z0 {call:cZ}{S:St}{l:List AV}{p:AV×St}(h:zhd call S l=some p):∃f fst cap us,l=.fn f fst cap::us∧call f (fst++us++cap) S=some p:=by
 cases l with
 | nil=>cases h
 | cons x us=>cases x with
  | fn f fst cap=>exact⟨f,fst,cap,us,rfl,h⟩
  | _=>cases h
theorem zct {a:Act}(hwf:S.wf)(hR:Rel β B0 S.h w){o:Oper}{op:cV}{xs:List Operand}(hc:Zv P o=some (op,xs)){vs:List AV}(hv:aS β vs (xs.map a.eval)){call:cZ}(cu:Xf P B0 call){v:AV}{S':St}
  (hs:wm op call S vs=some (v,S')) (hfree:WG β S.nx S'.nx) {next:Act→World→Prop} {Q:Exit→Act→World→Prop}
  (h:∀γ v' w',VR γ v v'→dB B0 β S w γ S' w'→next (a.put o.dst v') w'):o.wp P a w next Q:=by
 unfold Oper.wp
 have hs0:=hs
 cases cQ:op.cl
 ·-- R
  simp only[wm,cQ,RL]at hs
  cases hr:Zd op S.h vs with
  | none=>rw[hr]at hs;cases hs
  | some u =>
   rw[hr]at hs
   cases hs
   obtain⟨v',h1,h2⟩:=zfY a.eval hR hc hv hr
   rw[h1,Oper.upon_value]
   exact h β v' w h2 (dB.refl hR)
 ·-- A
  simp only[wm,cQ,opA]at hs
  cases hr:H9 op S.nx vs with
  | none=>rw[hr]at hs;cases hs
  | some p =>
   obtain⟨cr,u⟩:=p
   rw[hr]at hs
   cases hs
   obtain⟨x,v',z,h1,h2,h3⟩:=zf0 (P:=P) (w:=w) a.eval hc hv hr hR.le
   rw[h1,Oper.upon_value]
   have Ij:β S.nx=none:=hfree S.nx (Nat.le_refl _) (Nat.lt_succ_self _)
   obtain⟨h4,h5⟩:=h3 _ (ZT Ij) (xq β S.nx (w.heap.size,0,z))
   exact h _ v' _ h4 (zel (x:=x) hR Ij h2 rfl rfl rfl rfl h5)
 ·-- E
  simp only[wm,cQ]at hs
  cases hic:op.dY with
  | false =>
   obtain⟨w',γ,h1,⟨v',h2,h3⟩ | ⟨h2,rfl⟩⟩:=ziC a.eval hR hc hic hv hs hfree
   ·rw[h2,Oper.upon_value];exact h γ v' w' h3 h1
   ·rw[h2,Oper.upon_skip];exact h γ undef w' (.bad _) h1
  | true =>
   have key : ∀ {c : Call} {f : FuncId} {as : Array Value} {us : List AV}, o.op = .call c → call f us S = some (v, S') → aS β us as.toList → (∀ fn, P.funcs[f]? = some fn → fn.body.isSome = true → (fn.name == "runtime.NumGoroutine") = false → (execOp a.eval o).run P w = .ok (.enter f as) w) →
     o.upon P a next Q ((execOp a.eval o).run P w):=by
    intro c f as us ho cQ hvs hen
    obtain⟨⟨fn,hf,hb,hn⟩,hk⟩:=cu f us S v S' cQ
    rw[hen fn hf hb hn,Oper.upon_enter]
    refine (hk β w as hwf hvs hR hfree).mono ?_
    rintro e w' ⟨γ,v',rfl,h1,h2⟩
    exact h γ v' w' h1 h2
   have no:∀{q:cV},q.dY=false→op=q→False:=fun h1 h2=>by rw[h2,h1]at hic;cases hic
   have Sx:∃c,o.op=.call c:=by
    cases ho:o.op with
    | call c=>exact⟨c,rfl⟩
    | _ =>
     exfalso
     simp only[Zv,ho]at hc
     repeat' split at hc
     all_goals first
      | contradiction
      | (cases hc;simp only[cV.dY,Bool.false_eq_true]at hic;done)
      | (cases hc;done)
      | (rw[Option.map_eq_some_iff]at hc;obtain⟨_,_,h1⟩:=hc;cases h1;simp only[cV.dY,Bool.false_eq_true]at hic;done)
      | (rw[cond_eq_ite]at hc;split at hc<;>(first | (cases hc;done) | (cases hc;simp only[cV.dY,Bool.false_eq_true]at hic;done) | (rw[Option.map_eq_some_iff]at hc;obtain⟨_,h0,h1⟩:=hc;cases h1;first | (simp only[cV.dY,Bool.false_eq_true]at hic;done) | (obtain⟨k,rfl⟩:=YB h0;simp only[cV.dY,Bool.false_eq_true]at hic;done))))
   obtain⟨c,ho⟩:=Sx
   simp only[Zv,ho]at hc
   split at hc
   ·rename_i b hb
    exfalso
    unfold wq at hc
    repeat' split at hc
    all_goals first
     | (cases hc;simp only[cV.dY,Bool.false_eq_true]at hic;done)
     | (cases hc;done)
     | (rw[cond_eq_ite]at hc;split at hc<;>cases hc;simp only[cV.dY,Bool.false_eq_true]at hic;done)
   ·rename_i f hf
    cases hc
    have hvs:aS β vs (c.args.map a.eval).toList:=by simpa using hv
    exact key ho hs hvs fun fn h1 h2 h3=>zbF a.eval ho hf rfl h1 h2 h3
   ·rename_i x _ hx
    cases hq:ze1 x<;>rw[hq]at hc<;>cases hc
    simp only[WI]at hs
    obtain⟨f,fst,cap,vs0,rfl,hs⟩:=Z0 hs
    simp only[List.map_cons]at hv
    generalize R5:a.eval x=xe at hv
    cases hv with
    | cons LX Fe =>
     cases LX with
     | fn _ hf1 hf2 =>
      rename_i fs' cs'
      have hvs:aS β (fst++vs0++cap) (fs'++c.args.map a.eval++cs').toList:=by
       simp only[Array.toList_append,Array.toList_map]
       exact (hf1.append Fe).append hf2
      exact key ho hs hvs fun fn h1 h2 h3=>zaK a.eval ho hx R5 h1 h2 h3
   ·cases hc
end
end
end Go.AM
