/- From the model's code to the abstract machine's: by the program's tables; where it answers, the later texts show that the abstract machine runs as the model does. -/
import Derived.Test.YtjmnmaaipcbmnaaGreatAmA
import GoSem.Core.Layout
import GoSem.Core.Region
namespace Go.AM

def toAV1 : Value → Option AV
  | .bool x => some (.b x)
  | .int k n => some (.i k n)
  | .string s => some (.s s.data.toList)
  | .pointer none => some (.p none)
  | .slice none 0 0 => some (.sl none 0 0 0)
  | .map none => some (.m none)
  | .nilFunc => some .nilf
  | .nilIface => some .nili
  | _ => none
def mapO {α β : Type} (f : α → Option β) : List α → Option (List β)
  | [] => some []
  | x :: r => match f x with
    | some y => (mapO f r).map (y :: ·)
    | none => none
def toAV : Value → Option AV
  | .agg cs => (mapO toAV1 cs.toList).map .agg
  | v => toAV1 v

/-- the variables that live on, as bits -/
def per (ps : Nat) (t : Nat) : Bool := ps.testBit t
def opT (ps : Nat) (t : Nat) : Opd := bif per ps t then .l t else .t t
def compOpd (ps nt : Nat) : Operand → Option Opd
  | .tmp t => bif Nat.blt t nt then some (opT ps t) else none
  | .const v => (toAV v).map .c
  | .global _ => none
  | .func f => some (.c (.fn f [] []))

section
variable (P : Program)
def zcells (t : TypeId) : Option (List AV) :=
  match P.info? t with
  | some i => match i.zero with
    | some z => match mapO toAV1 z.cells.toList with
      | some l => bif Nat.beq l.length i.size then some l else none
      | none => none
    | none => none
  | none => none
def zval (t : TypeId) : Option AV :=
  match P.info? t with
  | some i => match i.zero with
    | some z => toAV z
    | none => none
  | none => none
def tsize (t : TypeId) : Option Nat := (P.info? t).map (·.size)
def tbytes (t : TypeId) : Option Nat := (P.info? t).map (·.bytes)
def tagg (t : TypeId) : Option Bool :=
  match P.underlying t with
  | some (.struct _) => some true
  | some (.array _ _) => some true
  | some _ => some false
  | none => none
/-- none: one cell; some: so many, together -/
def tshape (t : TypeId) : Option (Option Nat) :=
  match tagg P t, tsize P t with
  | some true, some n => some (some n)
  | some false, some _ => some none
  | _, _ => none
def scalTag (t : TypeId) : Option Nat :=
  match P.underlying t with
  | some .bool => some 0
  | some (.int _) => some 1
  | some .string => some 2
  | _ => none
def scalFields : List Field → Option (List (Nat × Nat))
  | [] => some []
  | f :: r => match scalTag P f.type with
    | some g => bif f.name == "_" then none else (scalFields r).map ((f.offset, g) :: ·)
    | none => none
def fieldPlaces (fs : List Field) : Option (List (Nat × Nat)) := mapO (fun f => (tsize P f.type).map fun s => (f.offset, s)) fs
def placesOf (t : TypeId) (parts : List (Nat × Operand)) : Option (List (Nat × Nat)) :=
  match P.underlying t with
  | some (.struct fs) => match fieldPlaces P fs.toList with
    | some pl => mapO (fun p => pl[p.1]?) parts
    | none => none
  | some (.array _ e) => match tsize P e with
    | some s => some (parts.map fun p => (p.1 * s, s))
    | none => none
  | _ => none
def isIntT (t : TypeId) : Bool := match P.underlying t with | some (.int _) => true | _ => false

def compEq (ng : Bool) (t : TypeId) : Option AOp :=
  match P.underlying t with
  | some .bool => some (.eq ng .bool)
  | some (.pointer e) => match tsize P e with
    | some s => bif Nat.beq s 0 then none else some (.eq ng .ptr)
    | none => none
  | some (.slice _) => some (.eq ng .slnil)
  | some (.map _ _) => some (.eq ng .mapnil)
  | some (.func _ _ _) => some (.eq ng .fnil)
  | some (.interface _) => some (.eq ng .ifc)
  | some (.struct fs) => bif P.stoodInHeld t then none else (scalFields P fs.toList).map fun l => .eq ng (.agg l)
  | _ => none

def isEq : BinOp → Bool
  | .eql | .neq => true
  | _ => false
def isNeq : BinOp → Bool
  | .neq => true
  | _ => false

/-- the builtins -/
def compBuiltin (b : Builtin) (argTypes : Array TypeId) (args : Array Operand) : Option (AOp × List Operand) :=
  match b, argTypes.toList with
  | .len, [t] => match P.underlying t with
    | some .string => some (.lenS, args.toList)
    | some (.slice _) => some (.lenSl, args.toList)
    | some (.map _ _) => some (.mlen, args.toList)
    | some (.array n _) => some (.lenC n, args.toList)
    | _ => none
  | .cap, [t] => match P.underlying t with
    | some (.slice _) => some (.capSl, args.toList)
    | _ => none
  | .min, _ => some (.min, args.toList)
  | .max, _ => some (.max, args.toList)
  | .append, [t, u] => match P.underlying t, P.underlying u with
    | some (.slice e), some (.slice _) => match tsize P e, tbytes P e, zcells P e with
      | some s, some by', some _ => bif Nat.beq s 0 || Nat.beq by' 0 then none else some (.app s by', args.toList)
      | _, _, _ => none
    | _, _ => none
  | .clear, [t] => match P.underlying t with
    | some (.slice e) => match zcells P e with
      | some z => some (.clr z, args.toList)
      | none => none
    | _ => none
  | .copy, [t, u] => match P.underlying t, P.underlying u with
    | some (.slice e), some (.slice _) => match tsize P e with
      | some s => some (.cpy s, args.toList)
      | none => none
    | _, _ => none
  | .delete, [t, _] => match P.underlying t with
    | some (.map k _) => bif isIntT P k then some (.mdel, args.toList) else none
    | _ => none
  | _, _ => none

def isTmp : Operand → Bool
  | .tmp _ => true
  | _ => false

def compOp (o : Oper) : Option (AOp × List Operand) :=
  match o.op with
  | .move x | .assign x => some (.mv, [x])
  | .pick c a b => some (.pick, [c, a, b])
  | .alloc e => (zcells P e).map fun z => (.alloc z, [])
  | .box _ x => some (.box, [x])
  | .build t parts =>
    match zcells P t, placesOf P t parts.toList with
    | some z, some ps => some (.build z ps, parts.toList.map (·.2))
    | _, _ => none
  | .buildSlice t len parts =>
    match P.underlying t with
    | some (.slice e) => match tsize P e, zcells P e with
      | some s, some z => bif Nat.ble (len * s) 16777216 then some (.bslice z len s (parts.toList.map (·.1)), parts.toList.map (·.2)) else none
      | _, _ => none
    | _ => none
  | .load t a => (tshape P t).map fun s => (.ld s, [a])
  | .store t a x => (tsize P t).map fun s => (.st s, [a, x])
  | .nilCheck x => some (.nilchk, [x])
  | .binOp op t x y _ =>
    match P.underlying t with
    | some (.int _) => some (.bin op, [x, y])
    | some .string => some (.sbin op, [x, y])
    | _ => bif isEq op then (compEq P (isNeq op) t).map fun a => (a, [x, y]) else none
  | .unOp op _ x => some (.un op, [x])
  | .convert a b x =>
    match P.underlying a, P.underlying b with
    | some (.int _), some (.int k) => some (.cvtI k, [x])
    | some .string, some .string => some (.cvtS, [x])
    | some (.slice e), some .string => match P.underlying e with
      | some (.int .u8) => some (.cvtB, [x])
      | _ => none
    | _, _ => none
  | .makeInterface t x => match P.underlying t with
    | some (.interface _) => none
    | some _ => some (.mkif t, [x])
    | none => none
  | .makeFunc (.func f) fst cap => some (.mkfn f fst.size, fst.toList ++ cap.toList)
  | .makeMap _ none => some (.mkmap, [])
  | .makeSlice t l c => match P.underlying t with
    | some (.slice e) => match zcells P e, tbytes P e with
      | some z, some n => bif Nat.beq n 0 then none else some (.mksl z n, [l, c])
      | _, _ => none
    | _ => none
  | .slice t x lo hi mx => match P.underlying t with
    | some (.slice e) => bif mx.isSome && hi.isNone then none else (tsize P e).map fun s => (.slc s lo.isSome hi.isSome mx.isSome, [x] ++ lo.toList ++ hi.toList ++ mx.toList)
    | some .string => bif mx.isNone then some (.slcS lo.isSome hi.isSome, [x] ++ lo.toList ++ hi.toList) else none
    | _ => none
  | .fieldAddr t x f => match P.underlying t with
    | some (.struct fs) => match fs[f]? with
      | some g => match tsize P g.type with
        | some s => bif Nat.beq s 0 then none else some (.fad g.offset, [x])
        | none => none
      | none => none
    | _ => none
  | .field t x f => match P.underlying t with
    | some (.struct fs) => match fs[f]? with
      | some g => (tshape P g.type).map fun s => (.fld g.offset s, [x])
      | none => none
    | _ => none
  | .indexAddr t x i => match P.underlying t with
    | some (.slice e) => (tsize P e).map fun s => (.iad s, [x, i])
    | some (.array n e) => (tsize P e).map fun s => (.iadA n s, [x, i])
    | _ => none
  | .index t x i => match P.underlying t with
    | some (.array n e) => match tshape P e, tsize P e with
      | some sh, some s => some (.ixA n s sh.isSome, [x, i])
      | _, _ => none
    | some .string => some (.ixS, [x, i])
    | _ => none
  | .lookup t x i ok => match P.underlying t with
    | some (.map k e) => bif isIntT P k then (zval P e).map fun z => (.lkup z ok, [x, i]) else none
    | _ => none
  | .mapUpdate t m k v => match P.underlying t with
    | some (.map kt _) => bif isIntT P kt then some (.mset, [m, k, v]) else none
    | _ => none
  | .extract t k => some (.ext k, [t])
  | .call c => match c.callee with
    | .builtin b => compBuiltin P b c.argTypes c.args
    | .value (.func f) => some (.call f, c.args.toList)
    | .value x => bif isTmp x then some (.callv, x :: c.args.toList) else none
    | .invoke _ _ => none
  | _ => none

def compGuard (ps : Nat) (ops : Array Oper) (nt : Nat) : Option (Nat × Bool) → Option (Option (Opd × Bool))
  | none => some none
  | some (j, w) => match (ops[j]?).bind (·.dst) with
    | some t => bif Nat.blt t nt then some (some (opT ps t, w)) else none
    | none => none

def comp1 (ps : Nat) (ops : Array Oper) (nt : Nat) (o : Oper) : Option Op1 :=
  match compOp P o, compGuard ps ops nt o.guard with
  | some (op, xs), some gd => match mapO (compOpd ps nt) xs with
    | some args => match o.dst with
      | none => some ⟨.no, gd, op, args⟩
      | some d => bif Nat.blt d nt then some ⟨bif per ps d then .l d else .t d, gd, op, args⟩ else none
    | none => none
  | _, _ => none

/-! ### regions whose order is open -/
/-- what binds an operation to come behind, in any mode -/
def preds (o : Oper) : List Nat := (o.after.toList.filter fun e => Region.binds .any e).map (·.on)
/-- bits: all that must come ahead -/
def befores : List (List Nat) → List Nat → List Nat
  | [], acc => acc
  | ds :: r, acc => befores r (acc ++ [ds.foldl (fun s e => s ||| 2 ^ e ||| acc.getD e 0) 0])
def bef (b : List Nat) (i j : Nat) : Bool := (b.getD j 0).testBit i

def Dst.tm : Dst → Option Nat
  | .no => none
  | .l n => some n
  | .t n => some n
def Opd.tm : Opd → Option Nat
  | .l n => some n
  | .t n => some n
  | .c _ => none
def temps1 (o : Op1) : List Nat := o.dst.tm.toList ++ (o.gd.bind (·.1.tm)).toList ++ o.args.filterMap Opd.tm

def isE (o : Op1) : Bool := match o.op.cl with | .E => true | _ => false
def AOp.mem : AOp → Bool
  | .ld _ | .lkup .. | .mlen | .cvtB => true
  | .eq _ .ptr => true
  | _ => false

/-- each temporary that is written is named by no other operation but in order -/
def tempsOk (ops : List Op1) (b : List Nat) : Bool :=
  ops.zipIdx.all fun (o, i) => match o.dst.tm with
    | none => true
    | some d => ops.zipIdx.all fun (p, j) => Nat.beq i j || !((temps1 p).contains d) || (bif Nat.blt i j then bef b i j else bef b j i)
def effOk (ops : List Op1) (b : List Nat) : Bool :=
  ops.zipIdx.all fun (o, i) => !isE o || ops.zipIdx.all fun (p, j) => !isE p || !Nat.blt i j || bef b i j
def backOk (ps : List (List Nat)) : Bool := ps.zipIdx.all fun (ds, j) => ds.all fun i => Nat.blt i j

def effs (ops : List Op1) : List Nat := (ops.zipIdx.filter fun (o, _) => isE o).map (·.2)
/-- can operation r be carried out when just the effects below p have been? -/
def feas (es : List Nat) (b : List Nat) (r p : Nat) : Bool := es.all fun e => (!bef b e r || Nat.blt e p) && (!bef b r e || Nat.ble p e)
/-- have the same effects been carried out at p as at r? -/
def ownW (es : List Nat) (r p : Nat) : Bool := es.all fun e => Nat.blt e p == Nat.blt e r
/-- the places at which operation r is to be looked at again -/
def chkOf (ops : List Op1) (b : List Nat) : List (Nat × Nat) :=
  let es := effs ops
  (ops.zipIdx.map fun (o, r) =>
    bif o.op.mem then ((0 :: es.map Nat.succ).filter fun p => feas es b r p && !ownW es r p).map fun p => (r, p)
    else []).flatten

def compReg (ps nt : Nat) (ops : Array Oper) (draw : Bool) : Option ACode :=
  match mapO (comp1 P ps ops nt) ops.toList with
  | none => none
  | some l =>
    bif draw then
      let ds := ops.toList.map preds
      let b := befores ds []
      bif backOk ds && tempsOk l b && effOk l b then
        match chkOf l b with
        | [] => some (.reg l)
        | c => some (.regD l c)
      else none
    else some (.reg l)

def compCode (ps nt : Nat) : Code → Option ACode
  | .skip => some .skip
  | .region _ ops d => compReg P ps nt ops d
  | .seq a b => match compCode ps nt a, compCode ps nt b with
    | some x, some y => some (.seq x y)
    | _, _ => none
  | .cond c a b => match compOpd ps nt c, compCode ps nt a, compCode ps nt b with
    | some c, some x, some y => some (.cond c x y)
    | _, _, _ => none
  | .block id c => (compCode ps nt c).map (.block id)
  | .loop c => (compCode ps nt c).map .loop
  | .exit id => some (.exit id)
  | .ret => some .ret
  | _ => none

def compRes (ps nt : Nat) : ResultVar → Option ResV
  | .tmp t => bif Nat.blt t nt then some (.tmp (opT ps t)) else none
  | .cell t ty => bif Nat.blt t nt then (tshape P ty).map (.cell (opT ps t)) else none

def compFn (ps : Nat) (f : Func) : Option AFn :=
  match f.body with
  | none => none
  | some c => bif !(f.name == "runtime.NumGoroutine") then
      match compCode P ps f.ntmps c, mapO (compRes P ps f.ntmps) f.results.toList with
      | some b, some r => some ⟨b, r⟩
      | _, _ => none
    else none
end
end Go.AM
